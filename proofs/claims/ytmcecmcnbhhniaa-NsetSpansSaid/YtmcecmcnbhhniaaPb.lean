/- Sets as rising spans: adding, union, taking away, and what they tell. Plain Lean, no program. -/
import Derived.Test.YtmcecmcnbhhniaaPa
namespace Go.Proofs.Ytmcecmcnbhhniaa.G

def inRange (n : Int) : Prop := 0 ≤ n ∧ n ≤ 1000000
/-- Add. -/
def addS (l : List Sp) (n : Int) : List Sp × Bool := if 0 ≤ n ∧ n ≤ 1000000 ∧ hasS l n = false then (putS l n n, true) else (l, false)
theorem add_spec {l : List Sp} (h : WF l) (n : Int) : WF (addS l n).1 ∧ (∀ m, inS (addS l n).1 m ↔ inS l m ∨ (m = n ∧ inRange n)) ∧ ((addS l n).2 = true ↔ inRange n ∧ ¬ inS l n) := by
  unfold addS inRange
  split
  · rename_i hc
    obtain ⟨c0, c1, c2⟩ := hc
    obtain ⟨k1, k2⟩ := put_spec h c0 (Int.le_refl n) c1
    refine ⟨k1, fun m => (k2 m).trans (or_congr Iff.rfl ⟨fun hm => ⟨by omega, c0, c1⟩, fun hm => by omega⟩), ?_⟩
    exact ⟨fun _ => ⟨⟨c0, c1⟩, (hasS_false h n).1 c2⟩, fun _ => rfl⟩
  · rename_i hc
    refine ⟨h, fun m => ⟨.inl, ?_⟩, ⟨fun hf => (by cases hf), fun hf => ?_⟩⟩
    · rintro (hm | ⟨rfl, c0, c1⟩)
      · exact hm
      · by_cases hin : inS l m
        · exact hin
        · exact absurd ⟨c0, c1, (hasS_false h m).2 hin⟩ hc
    · exact absurd ⟨hf.1.1, hf.1.2, (hasS_false h n).2 hf.2⟩ hc
def newS (l : List Int) : List Sp := l.foldl (fun s n => (addS s n).1) []
theorem adds_spec (l : List Int) : ∀ {s : List Sp}, WF s → WF (l.foldl (fun s n => (addS s n).1) s) ∧ ∀ m, inS (l.foldl (fun s n => (addS s n).1) s) m ↔ inS s m ∨ (m ∈ l ∧ inRange m) := by
  induction l with
  | nil => intro s h; exact ⟨h, fun m => by simp⟩
  | cons n l ih =>
    intro s h
    obtain ⟨k1, k2, _⟩ := add_spec h n
    obtain ⟨j1, j2⟩ := ih k1
    refine ⟨j1, fun m => (j2 m).trans ?_⟩
    rw [k2 m, List.mem_cons, or_assoc]
    refine or_congr Iff.rfl ⟨?_, ?_⟩
    · rintro (⟨rfl, hr⟩ | ⟨hm, hr⟩)
      · exact ⟨.inl rfl, hr⟩
      · exact ⟨.inr hm, hr⟩
    · rintro ⟨rfl | hm, hr⟩
      · exact .inl ⟨rfl, hr⟩
      · exact .inr ⟨hm, hr⟩
theorem newS_wf (l : List Int) : WF (newS l) := (adds_spec l WF.nil).1
theorem newS_in (l : List Int) (m : Int) : inS (newS l) m ↔ m ∈ l ∧ inRange m := ((adds_spec l WF.nil).2 m).trans (by simp [inS_nil])
/-- Union. -/
def covS (s : List Sp) (x : Sp) : Bool := match s[atS s x.lo]? with | some y => decide (y.lo ≤ x.lo) && decide (x.hi ≤ y.hi) | none => false
def uniStep (p : List Sp × Bool) (x : Sp) : List Sp × Bool := if covS p.1 x = true then p else (putS p.1 x.lo x.hi, true)
def unionS (s t : List Sp) : List Sp × Bool := t.foldl uniStep (s, false)
theorem cov_iff {s : List Sp} (h : WF s) {x : Sp} (hx : x.lo ≤ x.hi) : covS s x = true ↔ ∀ n, x.lo ≤ n → n ≤ x.hi → inS s n := by
  unfold covS
  obtain ⟨a1, a2⟩ := at_split h x.lo
  have hh := hasS_iff h x.lo
  unfold hasS at hh
  generalize atS s x.lo = k at a1 a2 hh ⊢
  cases hk : s[k]? with
  | none =>
    rw [hk] at hh
    simp only [Bool.false_eq_true, false_iff]
    intro hall
    exact absurd (hh.2 (hall x.lo (Int.le_refl _) hx)) (by simp)
  | some y =>
    rw [hk] at hh
    simp only [Bool.and_eq_true, decide_eq_true_eq] at hh ⊢
    have hym := List.mem_of_getElem? hk
    obtain ⟨hlt, hy⟩ := List.getElem?_eq_some_iff.1 hk
    constructor
    · rintro ⟨c1, c2⟩ n h1 h2
      exact ⟨y, hym, by omega, by omega⟩
    · intro hall
      have c1 := hh.2 (hall x.lo (Int.le_refl _) hx)
      refine ⟨c1, Int.not_lt.1 fun c2 => ?_⟩
      have hyl : x.lo ≤ y.hi := a2 y (by rw [List.drop_eq_getElem_cons hlt, hy]; exact List.mem_cons_self ..)
      obtain ⟨z, hz, z1, z2⟩ := hall (y.hi + 1) (by omega) (by omega)
      obtain ⟨q, hq⟩ := List.mem_iff_getElem?.1 hz
      obtain ⟨hq1, hq2⟩ := List.getElem?_eq_some_iff.1 hq
      rcases Nat.lt_trichotomy q k with hlt' | heq | hgt
      · have := List.pairwise_iff_getElem.1 h.apart q k hq1 hlt hlt'
        rw [hy, hq2] at this
        have := h.ok y hym
        omega
      · subst heq
        rw [hk] at hq
        injection hq with hq
        subst hq
        omega
      · have := List.pairwise_iff_getElem.1 h.apart k q hlt hq1 hgt
        rw [hy, hq2] at this
        omega
theorem uni_spec (t : List Sp) : ∀ {s : List Sp} {more : Bool}, WF s → WF t → WF (t.foldl uniStep (s, more)).1 ∧ (∀ n, inS (t.foldl uniStep (s, more)).1 n ↔ inS s n ∨ inS t n) ∧ ((t.foldl uniStep (s, more)).2 = true ↔ more = true ∨ ∃ n, inS t n ∧ ¬ inS s n) := by
  induction t with
  | nil => intro s more h _; exact ⟨h, fun n => by simp [inS_nil], by simp [inS_nil]⟩
  | cons x t ih =>
    intro s more h ht
    have hx := ht.head
    rw [List.foldl_cons]
    by_cases hc : covS s x = true
    · have he : uniStep (s, more) x = (s, more) := by unfold uniStep; rw [if_pos hc]
      rw [he]
      obtain ⟨j1, j2, j3⟩ := ih (more := more) h ht.tail
      have hcov := (cov_iff h hx.2.1).1 hc
      refine ⟨j1, fun n => (j2 n).trans ?_, j3.trans (or_congr Iff.rfl ?_)⟩
      · rw [inS_cons]
        constructor
        · rintro (k | k)
          · exact .inl k
          · exact .inr (.inr k)
        · rintro (k | k | k)
          · exact .inl k
          · exact .inl (hcov n k.1 k.2)
          · exact .inr k
      · constructor
        · rintro ⟨n, k1, k2⟩
          exact ⟨n, (inS_cons ..).2 (.inr k1), k2⟩
        · rintro ⟨n, k1, k2⟩
          rcases (inS_cons ..).1 k1 with k | k
          · exact absurd (hcov n k.1 k.2) k2
          · exact ⟨n, k, k2⟩
    · have he : uniStep (s, more) x = (putS s x.lo x.hi, true) := by unfold uniStep; rw [if_neg hc]
      rw [he]
      obtain ⟨k1, k2⟩ := put_spec h hx.1 hx.2.1 hx.2.2
      obtain ⟨j1, j2, j3⟩ := ih (more := true) k1 ht.tail
      refine ⟨j1, fun n => (j2 n).trans ?_, j3.trans ⟨fun _ => .inr ?_, fun _ => .inl rfl⟩⟩
      · rw [k2 n, inS_cons, or_assoc]
      · obtain ⟨n, hn⟩ := Classical.not_forall.1 (fun hall => hc ((cov_iff h hx.2.1).2 hall))
        obtain ⟨n1, hn⟩ := Classical.not_imp.1 hn
        obtain ⟨n2, hn⟩ := Classical.not_imp.1 hn
        exact ⟨n, (inS_cons ..).2 (.inl ⟨n1, n2⟩), hn⟩
theorem union_spec {s t : List Sp} (hs : WF s) (ht : WF t) : WF (unionS s t).1 ∧ (∀ n, inS (unionS s t).1 n ↔ inS s n ∨ inS t n) ∧ ((unionS s t).2 = true ↔ ∃ n, inS t n ∧ ¬ inS s n) := by
  obtain ⟨h1, h2, h3⟩ := uni_spec t (more := false) hs ht
  exact ⟨h1, h2, h3.trans (by simp)⟩
/-- Minus. -/
def minus1 (lo hi : Int) : List Sp → List Sp
  | [] => if lo ≤ hi then [⟨lo, hi⟩] else []
  | y :: t => if y.lo ≤ hi ∧ lo ≤ hi then (if lo < y.lo then [⟨lo, y.lo - 1⟩] else []) ++ minus1 (y.hi + 1) hi t else if lo ≤ hi then [⟨lo, hi⟩] else []
def minusS (s t : List Sp) : List Sp := s.flatMap (fun x => minus1 x.lo x.hi (t.drop (atS t x.lo)))
theorem minus1_spec (t : List Sp) : ∀ {lo hi : Int}, 0 ≤ lo → hi ≤ 1000000 → WF t → (∀ y ∈ t, lo ≤ y.hi) →
    WF (minus1 lo hi t) ∧ (∀ x ∈ minus1 lo hi t, lo ≤ x.lo ∧ x.hi ≤ hi) ∧ ∀ n, inS (minus1 lo hi t) n ↔ (lo ≤ n ∧ n ≤ hi) ∧ ¬ inS t n := by
  induction t with
  | nil =>
    intro lo hi h0 h9 _ _
    unfold minus1
    split
    · rename_i hle
      exact ⟨WF.cons ⟨h0, hle, h9⟩ WF.nil (by simp), by simp, fun n => by rw [inS_cons]; simp [inS_nil]⟩
    · rename_i hle
      exact ⟨WF.nil, by simp, fun n => ⟨fun h => absurd h (inS_nil n), fun h => by omega⟩⟩
  | cons y t ih =>
    intro lo hi h0 h9 hw hlo
    have hy := hw.head
    have hyl := hlo y (List.mem_cons_self ..)
    unfold minus1
    by_cases hc : y.lo ≤ hi ∧ lo ≤ hi
    · rw [if_pos hc]
      obtain ⟨k1, k2, k3⟩ := ih (lo := y.hi + 1) (hi := hi) (by omega) h9 hw.tail (fun z hz => by
        have := hw.next z hz
        have := hw.tail.ok z hz
        omega)
      have hpre : WF (if lo < y.lo then [⟨lo, y.lo - 1⟩] else []) ∧ (∀ x ∈ (if lo < y.lo then [⟨lo, y.lo - 1⟩] else [] : List Sp), lo ≤ x.lo ∧ x.hi + 1 ≤ y.lo) ∧ ∀ n, inS (if lo < y.lo then [⟨lo, y.lo - 1⟩] else []) n ↔ lo ≤ n ∧ n < y.lo := by
        split
        · exact ⟨WF.cons ⟨h0, by show lo ≤ y.lo - 1; omega, by show y.lo - 1 ≤ 1000000; omega⟩ WF.nil (by simp), fun x hx => by obtain rfl := List.mem_singleton.1 hx; exact ⟨Int.le_refl _, by show y.lo - 1 + 1 ≤ y.lo; omega⟩, fun n => by rw [inS_cons]; simp [inS_nil]; omega⟩
        · exact ⟨WF.nil, by simp, fun n => ⟨fun h => absurd h (inS_nil n), fun h => by omega⟩⟩
      obtain ⟨p1, p2, p3⟩ := hpre
      refine ⟨WF.append p1 k1 (fun a ha b hb => ?_), fun x hx => ?_, fun n => ?_⟩
      · have := p2 a ha
        have := k2 b hb
        omega
      · rcases List.mem_append.1 hx with hx | hx
        · have := p2 x hx
          omega
        · have := k2 x hx
          omega
      · rw [inS_append, p3 n, k3 n, inS_cons]
        constructor
        · rintro (k | k)
          · refine ⟨by omega, fun hn => ?_⟩
            rcases hn with hn | ⟨z, hz, z1, z2⟩
            · omega
            · have := hw.next z hz
              omega
          · refine ⟨by omega, fun hn => ?_⟩
            rcases hn with hn | hn
            · omega
            · exact k.2 hn
        · rintro ⟨k, hn⟩
          by_cases c : n < y.lo
          · exact .inl ⟨k.1, c⟩
          · refine .inr ⟨⟨?_, k.2⟩, fun h => hn (.inr h)⟩
            have : ¬ (y.lo ≤ n ∧ n ≤ y.hi) := fun h => hn (.inl h)
            omega
    · rw [if_neg hc]
      split
      · rename_i hle
        refine ⟨WF.cons ⟨h0, hle, h9⟩ WF.nil (by simp), by simp, fun n => ?_⟩
        rw [inS_cons]
        constructor
        · rintro (k | k)
          · refine ⟨k, fun hn => ?_⟩
            rcases (inS_cons ..).1 hn with hn | ⟨z, hz, z1, z2⟩
            · have k1 : n ≤ hi := k.2
              omega
            · have := hw.next z hz
              have k1 : n ≤ hi := k.2
              omega
          · exact absurd k (inS_nil n)
        · exact fun k => .inl k.1
      · rename_i hle
        exact ⟨WF.nil, by simp, fun n => ⟨fun h => absurd h (inS_nil n), fun h => by omega⟩⟩
theorem minus_spec {s t : List Sp} (hs : WF s) (ht : WF t) : WF (minusS s t) ∧ (∀ n, inS (minusS s t) n ↔ inS s n ∧ ¬ inS t n) := by
  have one : ∀ {x : Sp}, 0 ≤ x.lo → x.hi ≤ 1000000 → WF (minus1 x.lo x.hi (t.drop (atS t x.lo))) ∧ (∀ z ∈ minus1 x.lo x.hi (t.drop (atS t x.lo)), x.lo ≤ z.lo ∧ z.hi ≤ x.hi) ∧ ∀ n, inS (minus1 x.lo x.hi (t.drop (atS t x.lo))) n ↔ (x.lo ≤ n ∧ n ≤ x.hi) ∧ ¬ inS t n := by
    intro x h0 h9
    obtain ⟨a1, a2⟩ := at_split ht x.lo
    have hsp : WF (t.take (atS t x.lo) ++ t.drop (atS t x.lo)) := by rw [List.take_append_drop]; exact ht
    obtain ⟨k1, k2, k3⟩ := minus1_spec (t.drop (atS t x.lo)) (hi := x.hi) h0 h9 hsp.right a2
    refine ⟨k1, k2, fun n => (k3 n).trans (and_congr_right fun hn => not_congr ?_)⟩
    have hin : inS t n ↔ inS (t.take (atS t x.lo)) n ∨ inS (t.drop (atS t x.lo)) n := by rw [← inS_append, List.take_append_drop]
    rw [hin]
    exact ⟨.inr, fun h => by
      rcases h with ⟨z, hz, z1, z2⟩ | h
      · have := a1 z hz
        omega
      · exact h⟩
  induction s with
  | nil => exact ⟨WF.nil, fun n => by simp [minusS, inS_nil]⟩
  | cons x s ih =>
    obtain ⟨i1, i2⟩ := ih hs.tail
    have hx := hs.head
    obtain ⟨o1, o2, o3⟩ := one (x := x) hx.1 hx.2.2
    have he : minusS (x :: s) t = minus1 x.lo x.hi (t.drop (atS t x.lo)) ++ minusS s t := by simp [minusS]
    rw [he]
    refine ⟨WF.append o1 i1 (fun a ha b hb => ?_), fun n => ?_⟩
    · have h1 := o2 a ha
      have hb1 := i1.ok b hb
      have h2 : inS (minusS s t) b.lo := ⟨b, hb, by omega, by omega⟩
      obtain ⟨z, hz, z1, z2⟩ := ((i2 b.lo).1 h2).1
      have := hs.next z hz
      omega
    · rw [inS_append, o3 n, i2 n, inS_cons]
      constructor
      · rintro (k | k)
        · exact ⟨.inl k.1, k.2⟩
        · exact ⟨.inr k.1, k.2⟩
      · rintro ⟨k | k, kn⟩
        · exact .inl ⟨k, kn⟩
        · exact .inr ⟨k, kn⟩
/-- What a set tells. -/
def listOf (x : Sp) : List Int := (List.range (x.hi - x.lo + 1).toNat).map (fun k : Nat => x.lo + (k : Int))
def listS (l : List Sp) : List Int := l.flatMap listOf
def lenS : List Sp → Int
  | [] => 0
  | x :: l => (x.hi - x.lo + 1) + lenS l
def spansS (l : List Sp) : List Int := l.flatMap (fun x => [x.lo, x.hi])
abbrev Up (r : List Int) : Prop := r.Pairwise (· < ·)
theorem mem_listOf (x : Sp) (n : Int) : n ∈ listOf x ↔ x.lo ≤ n ∧ n ≤ x.hi := by
  unfold listOf
  rw [List.mem_map]
  constructor
  · rintro ⟨k, hk, rfl⟩
    have := List.mem_range.1 hk
    omega
  · intro h
    exact ⟨(n - x.lo).toNat, List.mem_range.2 (by omega), by omega⟩
theorem mem_listS (l : List Sp) (n : Int) : n ∈ listS l ↔ inS l n := by
  unfold listS inS
  rw [List.mem_flatMap]
  exact ⟨fun ⟨x, h1, h2⟩ => ⟨x, h1, (mem_listOf x n).1 h2⟩, fun ⟨x, h1, h2⟩ => ⟨x, h1, (mem_listOf x n).2 h2⟩⟩
theorem listOf_up (x : Sp) : Up (listOf x) := by
  unfold listOf
  exact List.Pairwise.map _ (fun a b h => by omega) List.pairwise_lt_range
theorem listS_cons (x : Sp) (l : List Sp) : listS (x :: l) = listOf x ++ listS l := by simp [listS]
theorem listS_up {l : List Sp} (h : WF l) : Up (listS l) := by
  induction l with
  | nil => exact List.Pairwise.nil
  | cons x l ih =>
    rw [listS_cons]
    refine List.pairwise_append.2 ⟨listOf_up x, ih h.tail, fun a ha b hb => ?_⟩
    have h1 := (mem_listOf x a).1 ha
    obtain ⟨z, hz, z1, z2⟩ := (mem_listS l b).1 hb
    have := h.next z hz
    omega
theorem up_only {r q : List Int} (hr : Up r) (hq : Up q) (h : ∀ n, n ∈ r ↔ n ∈ q) : r = q := by
  induction r generalizing q with
  | nil =>
    cases q with
    | nil => rfl
    | cons b q => exact absurd ((h b).2 (List.mem_cons_self ..)) (by simp)
  | cons a r ih =>
    cases q with
    | nil => exact absurd ((h a).1 (List.mem_cons_self ..)) (by simp)
    | cons b q =>
      obtain ⟨r1, r2⟩ := List.pairwise_cons.1 hr
      obtain ⟨q1, q2⟩ := List.pairwise_cons.1 hq
      have hab : a = b := by
        rcases List.mem_cons.1 ((h a).1 (List.mem_cons_self ..)) with e | m1
        · exact e
        · rcases List.mem_cons.1 ((h b).2 (List.mem_cons_self ..)) with e | m2
          · exact e.symm
          · have := q1 a m1
            have := r1 b m2
            omega
      subst hab
      rw [ih r2 q2 (fun n => ?_)]
      have hn := h n
      rw [List.mem_cons, List.mem_cons] at hn
      constructor
      · intro hm
        rcases hn.1 (.inr hm) with e | m
        · have := r1 n hm
          omega
        · exact m
      · intro hm
        rcases hn.2 (.inr hm) with e | m
        · have := q1 n hm
          omega
        · exact m
theorem listS_only {l m : List Sp} (hl : WF l) (hm : WF m) (h : ∀ n, inS l n ↔ inS m n) : listS l = listS m := by rw [hl.only hm h]
theorem listOf_len (x : Sp) : (listOf x).length = (x.hi - x.lo + 1).toNat := by simp [listOf]
theorem listS_len {l : List Sp} (h : WF l) : ((listS l).length : Int) = lenS l := by
  induction l with
  | nil => rfl
  | cons x l ih =>
    have := h.head
    rw [listS_cons, List.length_append, listOf_len, Int.natCast_add, ih h.tail]
    show _ = (x.hi - x.lo + 1) + lenS l
    omega
theorem up_len (r : List Int) (hr : Up r) (h : ∀ n ∈ r, inRange n) : ∀ a : Int, (∀ n ∈ r, a ≤ n) → a ≤ 1000001 → (r.length : Int) ≤ 1000001 - a := by
  induction r with
  | nil => intro a _ h1; simp; omega
  | cons b r ih =>
    intro a ha h1
    obtain ⟨r1, r2⟩ := List.pairwise_cons.1 hr
    have hb := h b (List.mem_cons_self ..)
    have hab := ha b (List.mem_cons_self ..)
    unfold inRange at hb
    have := ih r2 (fun n hn => h n (List.mem_cons_of_mem _ hn)) (b + 1) (fun n hn => by have := r1 n hn; omega) (by omega)
    rw [List.length_cons]
    omega
theorem lenS_le {l : List Sp} (h : WF l) : 0 ≤ lenS l ∧ lenS l ≤ 1000001 := by
  rw [← listS_len h]
  have := up_len (listS l) (listS_up h) (fun n hn => h.range ((mem_listS l n).1 hn)) 0 (fun n hn => (h.range ((mem_listS l n).1 hn)).1) (by omega)
  omega
theorem len_le_lenS {l : List Sp} (h : WF l) : (l.length : Int) ≤ lenS l := by
  induction l with
  | nil => exact Int.le_refl _
  | cons x l ih =>
    have := ih h.tail
    have := h.head
    show ((l.length + 1 : Nat) : Int) ≤ (x.hi - x.lo + 1) + lenS l
    omega
theorem len_le {l : List Sp} (h : WF l) : l.length ≤ 1000001 := by
  have := len_le_lenS h
  have := (lenS_le h).2
  omega
/-- The runs of a rising list. -/
def runs (p : Option Int) : List Int → List Int
  | [] => []
  | n :: r => (if p = some (n - 1) then [] else [n]) ++ ((if r.head? = some (n + 1) then [] else [n]) ++ runs (some n) r)
theorem runs_block (R : List Int) : ∀ (k : Nat) (lo : Int) (p : Option Int), R.head? ≠ some (lo + (k : Int) + 1) →
    runs p ((List.range (k + 1)).map (fun i : Nat => lo + (i : Int)) ++ R) = (if p = some (lo - 1) then [] else [lo]) ++ ([lo + (k : Int)] ++ runs (some (lo + (k : Int))) R) := by
  intro k
  induction k with
  | zero =>
    intro lo p hR
    show runs p ((lo + 0) :: R) = _
    rw [show lo + (0 : Int) = lo by omega, show lo + ((0 : Nat) : Int) = lo by omega]
    rw [show lo + ((0 : Nat) : Int) + 1 = lo + 1 by omega] at hR
    rw [runs, if_neg hR]
  | succ k ih =>
    intro lo p hR
    rw [List.range_succ_eq_map, List.map_cons, List.map_map, List.cons_append]
    have hf : ((fun i : Nat => lo + (i : Int)) ∘ Nat.succ) = (fun i : Nat => (lo + 1) + (i : Int)) := by funext i; simp only [Function.comp]; omega
    rw [hf, show lo + ((0 : Nat) : Int) = lo by omega, runs, ih (lo + 1) (some lo) (by rw [show lo + 1 + (k : Int) + 1 = lo + ((k + 1 : Nat) : Int) + 1 by omega]; exact hR)]
    have h2 : ((List.map (fun i : Nat => lo + 1 + (i : Int)) (List.range (k + 1)) ++ R).head?) = some (lo + 1) := by rw [List.range_succ_eq_map]; simp
    rw [if_pos h2, if_pos (show some lo = some (lo + 1 - 1) by congr 1; omega), show lo + 1 + (k : Int) = lo + ((k + 1 : Nat) : Int) by omega]
    rfl
theorem runs_listS {l : List Sp} (h : WF l) : ∀ p : Option Int, (∀ x ∈ l, p ≠ some (x.lo - 1)) → runs p (listS l) = spansS l := by
  induction l with
  | nil => intro p _; rfl
  | cons x l ih =>
    intro p hp
    have hx := h.head
    rw [listS_cons]
    have hk : (x.hi - x.lo + 1).toNat = (x.hi - x.lo).toNat + 1 := by omega
    unfold listOf
    rw [hk, runs_block (listS l) _ x.lo p, if_neg (hp x (List.mem_cons_self ..)), show x.lo + ((x.hi - x.lo).toNat : Int) = x.hi by omega, ih h.tail (some x.hi) (fun y hy he => by
      have := h.next y hy
      injection he with he
      omega)]
    · rfl
    · intro he
      cases l with
      | nil => cases he
      | cons y l =>
        have hy := h.tail.head
        have hn := h.next y (List.mem_cons_self ..)
        rw [listS_cons] at he
        unfold listOf at he
        rw [show (y.hi - y.lo + 1).toNat = (y.hi - y.lo).toNat + 1 by omega, List.range_succ_eq_map] at he
        simp at he
        omega
theorem spans_eq {l : List Sp} (h : WF l) : runs none (listS l) = spansS l := runs_listS h none (fun _ _ => by simp)
end Go.Proofs.Ytmcecmcnbhhniaa.G
