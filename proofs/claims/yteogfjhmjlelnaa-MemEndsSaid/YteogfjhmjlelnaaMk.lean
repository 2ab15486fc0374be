/- A Mem as a list of blocks (site, bytes, there), and what each method makes of it. No program here. -/
import Derived.Test.YteogfjhmjlelnaaMf
import Derived.Test.YteogfjhmjlelnaaMj
set_option linter.unusedVariables false
set_option linter.unusedSimpArgs false
namespace Go.Proofs.Yteogfjhmjlelnaa.G
open Go.RowKit Go.Proofs.Yteogfjhmjlelnaa.B Go.Proofs.YteogfjhmjlelnaaW.PrintWords Go.Proofs.YteogfjhmjlelnaaW.PrintLast Go.Proofs.YteogfjhmjlelnaaW.PrintMore

/-- A block: its site, its bytes, whether it is there. -/
structure Mb where
  site : Int
  l : List Bt
  there : Bool
def blk (g : Nat) (m : Mb) : Blk := ⟨m.site, g, m.l.length, m.there⟩
def blks (gs : List Nat) (s : List Mb) : List Blk := List.zipWith blk gs s
structure Holds (w : World) (gm : Nat) (gs : List Nat) (s : List Mb) : Prop where
  mem : ∃ v, IsMem w gm v (blks gs s)
  len : gs.length = s.length
  nodup : gs.Nodup
  above : ∀ g ∈ gs, gm < g
  bytes : ∀ (i g : Nat) (m : Mb), gs[i]? = some g → s[i]? = some m → Bytes w g m.l ∧ m.l.length ≤ 4096 ∧ ∀ x : Bt, x ∈ m.l → 0 ≤ x.v ∧ x.v ≤ 255
/-- What a method may write of what was there. -/
def Sof (w : World) (gm : Nat) (gs : List Nat) (k : Nat) : Prop := k = gm ∨ k ∈ gs ∨ (gm < k ∧ ∃ c fr, w.heap[k]? = some (.cells c 75 fr))
def Fr (w w' : World) (gm : Nat) (gs : List Nat) : Prop := Kp w w' (Sof w gm gs)
theorem Fr.refl (w : World) (gm : Nat) (gs : List Nat) : Fr w w gm gs := Kp.refl _ _
theorem Fr.below {w w' : World} (h : Below w.heap.size w w') (gm : Nat) (gs : List Nat) : Fr w w' gm gs := Kp.of_below h _
theorem Fr.then_ {w w1 w2 : World} {gm : Nat} {gs gs1 : List Nat} (h : Fr w w1 gm gs) (k : Fr w1 w2 gm gs1) (hg : ∀ g ∈ gs1, g ∈ gs ∨ w.heap.size ≤ g) : Fr w w2 gm gs := by
  refine Kp.then_ h k (fun b hb => ?_)
  rcases hb with hb | hb | ⟨hlt', c, fr, hb⟩
  · exact .inl (.inl hb)
  · exact (hg b hb).elim (fun h => .inl (.inr (.inl h))) .inr
  · by_cases hlt : b < w.heap.size
    · by_cases hS : Sof w gm gs b
      · exact .inl hS
      · exact .inl (.inr (.inr ⟨hlt', c, fr, (h.block b hlt hS).symm.trans hb⟩))
    · exact .inr (by omega)
theorem Fr.next {w w1 w2 : World} {gm : Nat} {gs : List Nat} (h : Fr w w1 gm gs) (k : Fr w1 w2 gm gs) : Fr w w2 gm gs := h.then_ k (fun _ h => .inl h)
theorem Fr.drew {w W : World} {gm : Nat} {gs : List Nat} (h : Fr w W gm gs) : Fr w W.drew gm gs := Kp.drew h
theorem blks_get {gs : List Nat} {s : List Mb} (hl : gs.length = s.length) (i : Nat) :
    (blks gs s)[i]? = match s[i]? with | some m => some (blk (gs.getD i 0) m) | none => none := by
  unfold blks
  rw [List.getElem?_zipWith, List.getD_eq_getElem?_getD]
  cases hs : s[i]? with
  | none =>
    have : s.length ≤ i := List.getElem?_eq_none_iff.1 hs
    rw [List.getElem?_eq_none (by omega)]
  | some m =>
    have : i < s.length := (List.getElem?_eq_some_iff.1 hs).1
    rw [List.getElem?_eq_getElem (by omega)]
    rfl
theorem blks_len {gs : List Nat} {s : List Mb} (hl : gs.length = s.length) : (blks gs s).length = s.length := by
  unfold blks; rw [List.length_zipWith]; omega
theorem get_of {gs : List Nat} {s : List Mb} (hl : gs.length = s.length) {i : Nat} {m : Mb} (h : s[i]? = some m) : gs[i]? = some (gs.getD i 0) := by
  have : i < s.length := (List.getElem?_eq_some_iff.1 h).1
  rw [List.getD_eq_getElem?_getD, List.getElem?_eq_getElem (by omega)]; rfl
theorem Holds.small {w : World} {gm : Nat} {gs : List Nat} {s : List Mb} (h : Holds w gm gs s) : ∀ b ∈ blks gs s, b.n ≤ 4096 := by
  intro b hb
  obtain ⟨i, hi⟩ := List.mem_iff_getElem?.1 hb
  rw [blks_get h.len] at hi
  split at hi
  · rename_i m hm
    cases hi
    exact (h.bytes i _ m (get_of h.len hm) hm).2.1
  · cases hi
theorem Holds.below {w W : World} {gm : Nat} {gs : List Nat} {s : List Mb} (h : Holds w gm gs s) (hb : Below w.heap.size w W) : Holds W gm gs s :=
  ⟨h.mem.imp fun v hv => hv.below hb, h.len, h.nodup, h.above, fun i g m hg hm => ⟨blk_below (h.bytes i g m hg hm).1 hb, (h.bytes i g m hg hm).2⟩⟩
theorem Holds.sof {w : World} {gm : Nat} {gs : List Nat} {s : List Mb} (h : Holds w gm gs s) : ∀ w' k, Sof w' gm gs k → gm ≤ k := by
  rintro w' k (rfl | hk | ⟨hk, _⟩)
  · exact Nat.le_refl _
  · exact Nat.le_of_lt (h.above k hk)
  · exact Nat.le_of_lt hk
/-- Whether so many bytes at a pointer may be. -/
def okS (s : List Mb) (p : Vl) (n : Int) : Option Mb :=
  if (decide (0 < p.b) && p.f == 0) = true then
    match s[p.b.toNat - 1]? with
    | some m => if m.there = true ∧ 0 ≤ n ∧ n ≤ 4096 ∧ 0 ≤ p.n ∧ p.n ≤ (m.l.length : Int) - n then some m else none
    | none => none
  else none
theorem okS_at {gs : List Nat} {s : List Mb} (hl : gs.length = s.length) (p : Vl) (n : Int) :
    okAt (blks gs s) p n = match okS s p n with | some m => some (blk (gs.getD (p.b.toNat - 1) 0) m) | none => none := by
  unfold okAt okS
  rw [blks_get hl]
  split
  · cases hs : s[p.b.toNat - 1]? with
    | none => rfl
    | some m =>
      show (if m.there = true ∧ 0 ≤ n ∧ n ≤ 4096 ∧ 0 ≤ p.n ∧ p.n ≤ (m.l.length : Int) - n then some (blk (gs.getD (p.b.toNat - 1) 0) m) else none) = match (if m.there = true ∧ 0 ≤ n ∧ n ≤ 4096 ∧ 0 ≤ p.n ∧ p.n ≤ (m.l.length : Int) - n then some m else none) with | some m => some (blk (gs.getD (p.b.toNat - 1) 0) m) | none => none
      split <;> rfl
  · rfl
theorem okS_spec {s : List Mb} {p : Vl} {n : Int} {m : Mb} (h : okS s p n = some m) : 0 ≤ n ∧ n ≤ 4096 ∧ 0 ≤ p.n ∧ p.n ≤ (m.l.length : Int) - n ∧ m.there = true ∧ s[p.b.toNat - 1]? = some m ∧ 0 < p.b ∧ p.f = 0 := by
  unfold okS at h
  split at h
  · rename_i hp
    split at h
    · rename_i m' hm
      split at h
      · rename_i hc
        cases h
        simp only [Bool.and_eq_true, decide_eq_true_eq, beq_iff_eq] at hp
        exact ⟨hc.2.1, hc.2.2.1, hc.2.2.2.1, hc.2.2.2.2, hc.1, hm, hp.1, hp.2⟩
      · cases h
    · cases h
  · cases h
/-- A segment over the bytes. -/
def over (l : List Bt) (i : Nat) (seg : List Bt) : List Bt := l.take i ++ seg ++ l.drop (i + seg.length)
def putS (s : List Mb) (p : Vl) (seg : List Bt) : List Mb := s.modify (p.b.toNat - 1) fun m => { m with l := over m.l p.n.toNat seg }
def segS (m : Mb) (p : Vl) (n : Nat) : List Bt := (m.l.drop p.n.toNat).take n
def isW (k : Int) : Bool := k == 1 || k == 4 || k == 8
def loadS (s : List Mb) (p : Vl) (k : Int) : Vl × Int :=
  if isW k = true then (match okS s p k with | some m => loadR k.toNat (segS m p k.toNat) | none => (⟨0, 0, 0⟩, 9)) else (⟨0, 0, 0⟩, 1)
def byteOf (n : Int) (i : Nat) : Int := (n / 2 ^ (8 * i)) % 256
def numSeg (n : Int) (k : Nat) : List Bt := (List.range k).map fun i => ⟨1, byteOf n i, ⟨0, 0, 0⟩⟩
def ptrSeg (x : Vl) : List Bt := (List.range 8).map fun (i : Nat) => ⟨2, 0, ⟨x.n, x.b, (i : Int) + 1⟩⟩
def encS (k : Int) (x : Vl) : Option (List Bt) :=
  if (x.b == 0 && x.f == 0) = true then some (numSeg x.n k.toNat)
  else if (decide (0 < x.b) && x.f == 0) = true ∧ k = 8 then some (ptrSeg x)
  else if 0 < x.f ∧ k = 1 then some [⟨2, 0, x⟩] else none
def storeS (s : List Mb) (p : Vl) (k : Int) (x : Vl) : List Mb × Int :=
  if isW k = true then (match okS s p k with | some _ => (match encS k x with | some seg => (putS s p seg, 0) | none => (s, 9)) | none => (s, 9)) else (s, 1)
def copyS (s : List Mb) (p q : Vl) (n : Int) : List Mb × Int :=
  match okS s p n, okS s q n with
  | some _, some m => (putS s p (segS m q n.toNat), 0)
  | _, _ => (s, 9)
def fillS (s : List Mb) (p v n : Vl) : List Mb × Int :=
  match okS s p n.n with
  | some _ => if (v.b == 0 && v.f == 0) = true ∧ (n.b == 0 && n.f == 0) = true then (putS s p (List.replicate n.n.toNat ⟨1, v.n % 256, ⟨0, 0, 0⟩⟩), 0) else (s, 9)
  | none => (s, 9)
def allocS (s : List Mb) (site size : Int) (zero : Bool) : List Mb × Int × Int :=
  if size < 0 ∨ 4096 < size ∨ s.length = 2000 then (s, 0, 5)
  else (s ++ [⟨site, List.replicate size.toNat ⟨if zero then 1 else 0, 0, ⟨0, 0, 0⟩⟩, true⟩], (s.length : Int) + 1, 0)
def findS (s : List Mb) (n : Int) : Option Mb := if 1 ≤ n then s[n.toNat - 1]? else none
def endS (s : List Mb) (n : Int) : List Mb × Int :=
  match findS s n with
  | some m => if m.there = true then (s.modify (n.toNat - 1) fun m => { m with there := false }, 0) else (s, 9)
  | none => (s, 9)
def bytesS (s : List Mb) (n : Int) : List Bt := match findS s n with | some m => m.l | none => []
def blockS (s : List Mb) (n : Int) : Int × Int × Bool := match findS s n with | some m => (m.site, (m.l.length : Int), m.there) | none => (0, 0, false)
theorem over_length {l : List Bt} {i : Nat} {seg : List Bt} (h : i + seg.length ≤ l.length) : (over l i seg).length = l.length := by
  unfold over; rw [List.length_append, List.length_append, List.length_take, List.length_drop]; omega
theorem over_snoc {l : List Bt} {i : Nat} {seg : List Bt} {x : Bt} (h : i + seg.length < l.length) : (over l i seg).set (i + seg.length) x = over l i (seg ++ [x]) := by
  unfold over
  have h1 : (l.take i ++ seg).length = i + seg.length := by rw [List.length_append, List.length_take]; omega
  rw [List.set_append_right _ _ (by omega), h1, Nat.sub_self, List.drop_eq_getElem_cons h, List.set_cons_zero]
  simp [Nat.add_assoc]
theorem over_nil (l : List Bt) (i : Nat) : over l i [] = l := by simp [over]
end Go.Proofs.Yteogfjhmjlelnaa.G
