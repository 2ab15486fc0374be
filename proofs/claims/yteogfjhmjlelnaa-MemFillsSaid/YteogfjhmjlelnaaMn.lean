/- Mem.Load, Mem.Store over a Mem of blocks. The Mem holds these blocks. -/
import Derived.Test.YteogfjhmjlelnaaMm
set_option linter.unusedVariables false
set_option linter.unusedSimpArgs false
namespace Go.Proofs.Yteogfjhmjlelnaa.G
open Go.RowKit Go.Proofs.Yteogfjhmjlelnaa.B Go.Proofs.YteogfjhmjlelnaaW.PrintWords Go.Proofs.YteogfjhmjlelnaaW.PrintLast Go.Proofs.YteogfjhmjlelnaaW.PrintMore

def Vl.agg (p : Vl) : Value := .agg #[.int .i64 p.n, .int .i64 p.b, .int .i64 p.f]
theorem blks_modify {gs : List Nat} {s : List Mb} (hl : gs.length = s.length) {i : Nat} {f : Mb → Mb} (hf : ∀ m, s[i]? = some m → (f m).site = m.site ∧ (f m).l.length = m.l.length ∧ (f m).there = m.there) : blks gs (s.modify i f) = blks gs s := by
  apply List.ext_getElem?
  intro j
  rw [blks_get (by rw [List.length_modify]; exact hl), blks_get hl, List.getElem?_modify]
  cases hs : s[j]? with
  | none => rfl
  | some m =>
    by_cases hij : i = j
    · subst hij
      obtain ⟨h1, h2, h3⟩ := hf m hs
      simp [blk, h1, h2, h3]
    · simp [hij]
theorem Sof.typed {w : World} {gm g : Nat} {gs : List Nat} {c : Array Value} {t : Nat} {fr : Nat × Nat} (hg : w.heap[g]? = some (.cells c t fr)) (h1 : g ≠ gm) (h2 : g ∉ gs) (h3 : t ≠ 75) : ¬ Sof w gm gs g := by
  rintro (h | h | ⟨_, c', fr', h⟩)
  · exact h1 h
  · exact h2 h
  · rw [hg] at h
    injection h with h
    injection h with _ h
    exact h3 h
theorem IsMem.put {w w' : World} {gm g : Nat} {v : Value} {bs : List Blk} {l : List Bt} (h : IsMem w gm v bs) (hb : Bytes w g l) (hk : Kp w w' (· = g)) : IsMem w' gm v bs := by
  have hne : ∀ {k c t fr}, w.heap[k]? = some (.cells c t fr) → t ≠ 42 → ¬ k = g := by
    rintro k c t fr hc ht rfl
    rw [Bytes, hc] at hb
    injection hb with hb
    injection hb with _ hb
    exact ht hb
  refine ⟨blk_kp h.box hk (hne h.box (by decide)), own_move h.row (fun k hv => ?_)⟩
  obtain ⟨c, hc⟩ := own_typed h.row k hv
  exact hk.block k (blk_lt hc) (hne hc (by decide))
theorem Holds.put {w w' : World} {gm : Nat} {gs : List Nat} {s : List Mb} (h : Holds w gm gs s) {p : Vl} {n : Int} {m : Mb} (hm : okS s p n = some m) {seg : List Bt} (hn : seg.length = n.toNat)
    (hv : ∀ x : Bt, x ∈ seg → 0 ≤ x.v ∧ x.v ≤ 255) (hb : Bytes w' (gs.getD (p.b.toNat - 1) 0) (over m.l p.n.toNat seg)) (hk : Kp w w' (· = gs.getD (p.b.toNat - 1) 0)) : Holds w' gm gs (putS s p seg) ∧ Fr w w' gm gs := by
  obtain ⟨h1, h2, h3, h4, h5, h6, h7, h8⟩ := okS_spec hm
  have hg := get_of h.len h6
  have hbm := h.bytes _ _ _ hg h6
  have hle : p.n.toNat + seg.length ≤ m.l.length := by omega
  refine ⟨⟨?_, ?_, h.nodup, h.above, ?_⟩, hk.mono ?_⟩
  · obtain ⟨v, hM⟩ := h.mem
    refine ⟨v, ?_⟩
    rw [putS, blks_modify h.len (by
      intro m' hm'
      rw [h6] at hm'
      cases hm'
      exact ⟨rfl, over_length hle, rfl⟩)]
    exact hM.put hbm.1 hk
  · rw [putS, List.length_modify]; exact h.len
  · intro i g m' hi hm'
    rw [putS, List.getElem?_modify] at hm'
    by_cases hij : p.b.toNat - 1 = i
    · subst hij
      rw [h6] at hm'
      simp only [Option.map_eq_map, Option.map_some, Option.some.injEq, if_true] at hm'
      rw [hg] at hi
      cases hi
      rw [← hm']
      refine ⟨hb, ?_, ?_⟩
      · show (over m.l p.n.toNat seg).length ≤ 4096
        rw [over_length hle]
        exact hbm.2.1
      · intro x hx
        show 0 ≤ x.v ∧ x.v ≤ 255
        have hx : x ∈ over m.l p.n.toNat seg := hx
        unfold over at hx
        rcases List.mem_append.1 hx with hx | hx
        · rcases List.mem_append.1 hx with hx | hx
          · exact hbm.2.2 x (List.mem_of_mem_take hx)
          · exact hv x hx
        · exact hbm.2.2 x (List.mem_of_mem_drop hx)
    · cases hs : s[i]? with
      | none => rw [hs] at hm'; cases hm'
      | some m0 =>
        rw [hs] at hm'
        simp only [if_neg hij, Option.map_eq_map, Option.map_some, Option.some.injEq] at hm'
        subst hm'
        have h0 := h.bytes i g _ hi hs
        refine ⟨blk_kp h0.1 hk (fun he => hij ?_), h0.2⟩
        subst he
        have hi2 := (List.getElem?_eq_some_iff.1 hi).1
        exact (List.getElem?_inj (l := gs) (i := p.b.toNat - 1) (j := i) (by have := (List.getElem?_eq_some_iff.1 hg).1; exact this) h.nodup).1 (by rw [hg, hi])
  · rintro k rfl
    exact .inr (.inl (List.mem_of_getElem? hg))
theorem load_calls {w : World} {gm : Nat} {gs : List Nat} {s : List Mb} (h : Holds w gm gs s) (p : Vl) (k : Int) :
    Calls Try.prog 14 #[.pointer (some ⟨gm, 0, none⟩), p.agg, .int .i64 k] w fun e w' => e = .returned (.tuple #[(loadS s p k).1.agg, .int .i64 (loadS s p k).2]) ∧ Below w.heap.size w w' := by
  obtain ⟨v, hM⟩ := h.mem
  unfold loadS
  by_cases hk : isW k = true
  · rw [if_pos hk]
    have hk' : k = 1 ∨ k = 4 ∨ k = 8 := by simpa [isW, or_assoc] using hk
    obtain ⟨kn, rfl⟩ : ∃ kn : Nat, k = kn := ⟨k.toNat, by omega⟩
    have hkn : kn = 1 ∨ kn = 4 ∨ kn = 8 := by omega
    have ho := okS_at h.len p (kn : Int)
    cases hm : okS s p kn with
    | none =>
      rw [hm] at ho
      exact load_err p kn _ 9 w (by decide) (fun W hW => wide_bad p kn hkn gm v _ W (hM.below hW) h.small ho)
    | some m =>
      rw [hm] at ho
      have hs := okS_spec hm
      have hb := h.bytes _ _ _ (get_of h.len hs.2.2.2.2.2.1) hs.2.2.2.2.2.1
      exact load_loop p kn hkn gm v _ _ m.l _ w hM h.small ho hb.1 rfl rfl hb.2.2
  · rw [if_neg hk]
    have hk' : k ≠ 1 ∧ k ≠ 4 ∧ k ≠ 8 := by simpa [isW, and_assoc] using hk
    exact load_err p k _ 1 w (by decide) (fun W hW => wide_arg p k _ W hk'.1 hk'.2.1 hk'.2.2)
theorem byteOf_bound (n : Int) (i : Nat) : 0 ≤ byteOf n i ∧ byteOf n i ≤ 255 := by unfold byteOf; omega
theorem store_calls {w : World} {gm : Nat} {gs : List Nat} {s : List Mb} (h : Holds w gm gs s) (p : Vl) (k : Int) (x : Vl) :
    Calls Try.prog 16 #[.pointer (some ⟨gm, 0, none⟩), p.agg, .int .i64 k, x.agg] w fun e w' => e = .returned (.int .i64 (storeS s p k x).2) ∧ Holds w' gm gs (storeS s p k x).1 ∧ Fr w w' gm gs := by
  obtain ⟨v, hM⟩ := h.mem
  have hbad : ∀ {er : Int}, Calls Try.prog 16 #[.pointer (some ⟨gm, 0, none⟩), p.agg, .int .i64 k, x.agg] w (fun e w' => e = .returned (.int .i64 er) ∧ Below w.heap.size w w') →
      Calls Try.prog 16 #[.pointer (some ⟨gm, 0, none⟩), p.agg, .int .i64 k, x.agg] w (fun e w' => e = .returned (.int .i64 er) ∧ Holds w' gm gs s ∧ Fr w w' gm gs) :=
    fun hc => hc.mono (fun e w' ⟨h1, h2⟩ => ⟨h1, h.below h2, Fr.below h2 _ _⟩)
  unfold storeS
  by_cases hk : isW k = true
  · rw [if_pos hk]
    have hk' : k = 1 ∨ k = 4 ∨ k = 8 := by simpa [isW, or_assoc] using hk
    obtain ⟨kn, rfl⟩ : ∃ kn : Nat, k = kn := ⟨k.toNat, by omega⟩
    have hkn : kn = 1 ∨ kn = 4 ∨ kn = 8 := by omega
    have ho := okS_at h.len p (kn : Int)
    cases hm : okS s p kn with
    | none =>
      rw [hm] at ho
      exact hbad (store_err p x kn _ 9 w (by decide) (fun W hW => wide_bad p kn hkn gm v _ W (hM.below hW) h.small ho))
    | some m =>
      rw [hm] at ho
      have hs := okS_spec hm
      have hb := h.bytes _ _ _ (get_of h.len hs.2.2.2.2.2.1) hs.2.2.2.2.2.1
      simp only
      unfold encS
      cases h0 : (x.b == 0 && x.f == 0) with
      | true =>
        refine (store_num p x kn hkn h0 gm v _ _ m.l w hM h.small ho hb.1 rfl).mono ?_
        rintro e w' ⟨rfl, h1, h2⟩
        rw [if_pos rfl]
        exact ⟨rfl, h.put hm (by simp [numSeg]) (fun y hy => by
          simp only [numSeg, List.mem_map] at hy
          obtain ⟨i, _, rfl⟩ := hy
          exact byteOf_bound _ _) h1 h2⟩
      | false =>
        rw [if_neg (by decide)]
        cases h1 : (decide (0 < x.b) && x.f == 0) with
        | true =>
          have hf0 : decide (0 < x.f) = false := by
            simp only [Bool.and_eq_true, decide_eq_true_eq, beq_iff_eq] at h1
            simp [h1.2]
          by_cases h8 : kn = 8
          · subst h8
            rw [if_pos ⟨rfl, rfl⟩]
            refine (store_ptr p x h0 h1 gm v _ _ m.l w hM h.small ho hb.1 rfl).mono ?_
            rintro e w' ⟨rfl, h1, h2⟩
            exact ⟨rfl, h.put hm (by simp [ptrSeg]) (fun y hy => by
              simp only [ptrSeg, List.mem_map] at hy
              obtain ⟨i, _, rfl⟩ := hy
              simp) h1 h2⟩
          · rw [if_neg (fun hh => h8 (by omega)), if_neg (fun hh => by simp at hf0; omega)]
            exact hbad (store_no3 p x kn hkn h1 h0 (beq_eq_false_iff_ne.mpr (by omega)) hf0 gm v _ _ m.l w hM h.small ho hb.1 rfl)
        | false =>
          rw [if_neg (by simp)]
          cases hf : decide (0 < x.f) with
          | true =>
            by_cases h1k : kn = 1
            · subst h1k
              rw [if_pos ⟨by simpa using hf, rfl⟩]
              refine (store_part p x h1 h0 hf gm v _ _ m.l w hM h.small ho hb.1 rfl).mono ?_
              rintro e w' ⟨rfl, h1, h2⟩
              exact ⟨rfl, h.put hm (by simp) (fun y hy => by
                rw [List.mem_singleton] at hy
                subst hy
                simp) h1 h2⟩
            · rw [if_neg (fun hh => h1k (by omega))]
              exact hbad (store_no2 p x kn hkn h1 h0 hf (beq_eq_false_iff_ne.mpr (by omega)) gm v _ _ m.l w hM h.small ho hb.1 rfl)
          | false =>
            rw [if_neg (fun hh => by simp at hf; omega)]
            exact hbad (store_no1 p x kn hkn h1 h0 hf gm v _ _ m.l w hM h.small ho hb.1 rfl)
  · rw [if_neg hk]
    have hk' : k ≠ 1 ∧ k ≠ 4 ∧ k ≠ 8 := by simpa [isW, and_assoc] using hk
    exact hbad (store_err p x k _ 1 w (by decide) (fun W hW => wide_arg p k _ W hk'.1 hk'.2.1 hk'.2.2))
end Go.Proofs.Yteogfjhmjlelnaa.G
