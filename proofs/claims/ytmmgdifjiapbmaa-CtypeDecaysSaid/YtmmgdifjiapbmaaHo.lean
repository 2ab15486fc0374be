/- What reads as a row of types reads so in every world with the same blocks. No condition. -/
import Derived.Test.YtmmgdifjiapbmaaHe
namespace Go.Proofs.Ytmmgdifjiapbmaa.G
open Go.RowKit Go.Proofs.Ytmmgdifjiapbmaa.B Go.Proofs.YtmmgdifjiapbmaaW.PrintWords Go.Proofs.YtmmgdifjiapbmaaW.PrintLast Go.Proofs.YtmmgdifjiapbmaaW.PrintMore

theorem cell_heap {w w1 : World} (hm : ∀ k, k < w.heap.size → w1.heap[k]? = w.heap[k]?) {a : Addr} {v : Value} (h : w.cell? a = some v) : w1.cell? a = some v := by
  have hb := World.block_lt_of_cell? w a h
  rw [← h]
  unfold World.cell?
  rw [hm _ hb]
mutual
theorem K_heap {w w1 : World} (hm : ∀ k, k < w.heap.size → w1.heap[k]? = w.heap[k]?) : ∀ (x : S24) (cs : List Value), k24.K w x cs → k24.K w1 x cs
  | ⟨a, b, s, l⟩, cs, h => by
    obtain ⟨A3, c3, rfl, l3, hC⟩ := k24_open h
    exact k24_mk w1 ⟨a, b, s, l⟩ l3 ⟨hC.1, hC.2.1, fun hn => by
      obtain ⟨ad, e, hc⟩ := hC.2.2 hn
      refine ⟨ad, e, fun j p hj => ?_⟩
      obtain ⟨c, hs, hr, hcell⟩ := hc j p hj
      exact ⟨c, hs, L_heap hm l p (List.mem_of_getElem? hj) c hr, fun i u hu => cell_heap hm (hcell i u hu)⟩⟩
theorem L_heap {w w1 : World} (hm : ∀ k, k < w.heap.size → w1.heap[k]? = w.heap[k]?) : ∀ (l : List S24) (p : S24), p ∈ l → ∀ cs, k24.K w p cs → k24.K w1 p cs
  | [] => fun _ h _ _ => nomatch h
  | x :: l => by
    have h1 := K_heap hm x
    have h2 := L_heap hm l
    intro p h cs hK
    rcases List.mem_cons.1 h with rfl | h
    · exact h1 cs hK
    · exact h2 p h cs hK
end
theorem C_foot {w : World} {A : Option Addr} {n : Nat} {l : List S24} (h : Kd.C k24 w A n l) : Kd.F k24 w (fun _ => True) A n l := fun w1 hW =>
  have hm : ∀ k, k < w.heap.size → w1.heap[k]? = w.heap[k]? := fun k hk => hW k trivial hk
  ⟨h.1, h.2.1, fun hn => by
    obtain ⟨ad, e, hc⟩ := h.2.2 hn
    refine ⟨ad, e, fun j p hj => ?_⟩
    obtain ⟨c, hs, hr, hcell⟩ := hc j p hj
    exact ⟨c, hs, K_heap hm p c hr, fun i u hu => cell_heap hm (hcell i u hu)⟩⟩
theorem decayC (x : S24) (A : Option Addr) (c : Nat) (w : World) (hC : Kd.C k24 w A x.f3.length x.f3) (hl : x.f3.length ≤ c) :
    Calls Try.prog 19 #[.agg #[.int .i64 x.f0, .int .i64 x.f1, .string x.f2, .slice A x.f3.length c]] w fun e w' => ∃ A c, e = .returned (.agg #[.int .i64 (decayT x).f0, .int .i64 (decayT x).f1, .string (decayT x).f2, .slice A (decayT x).f3.length c]) ∧ (decayT x).f3.length ≤ c ∧ Kd.C k24 w' A (decayT x).f3.length (decayT x).f3 ∧ Below w.heap.size w w' :=
  (decay_calls x A c _ w (C_foot hC) hl).mono fun _ _ ⟨A1, c1, h1, h2, h3, h4⟩ => ⟨A1, c1, h1, h2, Kd.F_now h3, h4⟩
theorem decayCr (x : S24) (A : Option Addr) (c : Nat) (w : World) (hC : Kd.C k24 w A x.f3.length x.f3) (hl : x.f3.length ≤ c) :
    Calls Try.prog 21 #[.agg #[.int .i64 x.f0, .int .i64 x.f1, .string x.f2, .slice A x.f3.length c]] w fun e w' => ∃ A c, e = .returned (.agg #[.int .i64 (decayT x).f0, .int .i64 (decayT x).f1, .string (decayT x).f2, .slice A (decayT x).f3.length c]) ∧ (decayT x).f3.length ≤ c ∧ Kd.C k24 w' A (decayT x).f3.length (decayT x).f3 ∧ Below w.heap.size w w' :=
  (decay_ref x A c _ w (C_foot hC) hl).mono fun _ _ ⟨A1, c1, h1, h2, h3, h4⟩ => ⟨A1, c1, h1, h2, Kd.F_now h3, h4⟩
end Go.Proofs.Ytmmgdifjiapbmaa.G
