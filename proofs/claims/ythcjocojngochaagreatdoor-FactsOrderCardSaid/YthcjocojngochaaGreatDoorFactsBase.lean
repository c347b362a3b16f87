/- Facts, the plain core: the last record of a sorted list that a test takes is the greatest one; sorted lists with the same elements are one; stretches between cuts. No Go and no memory in it. -/
import Derived.WalkKit
namespace Go.Proofs.YthcjocojngochaaGreatDoor.Pure
open Go
/-- A strict total order. -/
structure Lin {α : Type} (lt : α → α → Bool) : Prop where
  irr : ∀ a, lt a a = false
  tra : ∀ a b c, lt a b = true → lt b c = true → lt a c = true
  tri : ∀ a b, lt a b = false → lt b a = false → a = b
variable {α : Type} {lt : α → α → Bool}
theorem Lin.asym (L : Lin lt) {a b : α} (h : lt a b = true) : lt b a = false := by
  cases e : lt b a with
  | false => rfl
  | true => have := L.tra _ _ _ h e; rw [L.irr] at this; cases this
/-- The greatest element that a test takes. -/
def Top (lt : α → α → Bool) (p : α → Bool) (l : List α) (x : α) : Prop := x ∈ l ∧ p x = true ∧ ∀ y ∈ l, p y = true → lt x y = false
theorem Top.one (L : Lin lt) {p : α → Bool} {l m : List α} {x y : α} (hx : Top lt p l x) (hy : Top lt p m y) (h : ∀ z, p z = true → (z ∈ l ↔ z ∈ m)) : x = y :=
  L.tri _ _ (hx.2.2 _ ((h _ hy.2.1).2 hy.1) hy.2.1) (hy.2.2 _ ((h _ hx.2.1).1 hx.1) hx.2.1)
/-- The last element that a test takes. -/
def lastP (p : α → Bool) (l : List α) : Option α := l.reverse.find? p
theorem find_top (L : Lin lt) (p : α → Bool) (x : α) : ∀ r : List α, r.Pairwise (fun a b => lt a b = false) → (r.find? p = some x ↔ Top lt p r x)
  | [], _ => by simp [Top]
  | a :: r, h => by
    obtain ⟨h1, h2⟩ := List.pairwise_cons.1 h
    have ih := find_top L p x r h2
    rw [List.find?_cons]
    cases e : p a with
    | true =>
      simp only [Option.some.injEq]
      constructor
      · rintro rfl
        refine ⟨List.mem_cons_self, e, fun y hy _ => ?_⟩
        rcases List.mem_cons.1 hy with rfl | hy
        · exact L.irr _
        · exact h1 y hy
      · rintro ⟨hx, _, hm⟩
        rcases List.mem_cons.1 hx with rfl | hx
        · rfl
        · exact L.tri _ _ (h1 x hx) (hm a List.mem_cons_self e)
    | false =>
      simp only
      rw [ih]
      constructor
      · rintro ⟨hx, px, hm⟩
        refine ⟨List.mem_cons_of_mem _ hx, px, fun y hy py => ?_⟩
        rcases List.mem_cons.1 hy with rfl | hy
        · rw [e] at py; cases py
        · exact hm y hy py
      · rintro ⟨hx, px, hm⟩
        refine ⟨?_, px, fun y hy py => hm y (List.mem_cons_of_mem _ hy) py⟩
        rcases List.mem_cons.1 hx with rfl | hx
        · rw [e] at px; cases px
        · exact hx
theorem lastP_top (L : Lin lt) (p : α → Bool) (x : α) (l : List α) (h : l.Pairwise (fun a b => lt b a = false)) : lastP p l = some x ↔ Top lt p l x := by
  unfold lastP
  rw [find_top L p x l.reverse (List.pairwise_reverse.2 h)]
  unfold Top
  simp only [List.mem_reverse]
theorem lastP_none (p : α → Bool) (l : List α) : lastP p l = none ↔ ∀ y ∈ l, p y = false := by
  unfold lastP
  rw [List.find?_eq_none]
  simp
/-- Two sorted lists that have the same elements that the test takes: the last one is the same. -/
theorem lastP_same (L : Lin lt) (p : α → Bool) (l m : List α) (hl : l.Pairwise (fun a b => lt b a = false)) (hm : m.Pairwise (fun a b => lt b a = false)) (h : ∀ z, p z = true → (z ∈ l ↔ z ∈ m)) : lastP p l = lastP p m := by
  cases e : lastP p l with
  | none =>
    refine ((lastP_none p m).2 fun y hy => ?_).symm
    cases py : p y with
    | false => rfl
    | true => rw [← (lastP_none p l).1 e y ((h y py).2 hy)]; exact py.symm
  | some x =>
    have hx := (lastP_top L p x l hl).1 e
    refine ((lastP_top L p x m hm).2 ⟨(h x hx.2.1).1 hx.1, hx.2.1, fun y hy py => hx.2.2 y ((h y py).2 hy) py⟩).symm
/-- The reference's way: the best one so far. -/
def step (lt : α → α → Bool) (p : α → Bool) (b : Option α) (x : α) : Option α :=
  if p x then (match b with | none => some x | some y => if lt y x then some x else some y) else b
def Best (lt : α → α → Bool) (p : α → Bool) (l : List α) : Option α → Prop
  | none => ∀ y ∈ l, p y = false
  | some x => Top lt p l x
theorem best_step (L : Lin lt) (p : α → Bool) (l : List α) (b : Option α) (x : α) (h : Best lt p l b) : Best lt p (l ++ [x]) (step lt p b x) := by
  unfold step
  cases e : p x with
  | false =>
    simp only [Bool.false_eq_true, if_false]
    cases b with
    | none =>
      intro y hy
      rcases List.mem_append.1 hy with hy | hy
      · exact h y hy
      · rw [List.mem_singleton.1 hy]; exact e
    | some z =>
      refine ⟨List.mem_append_left _ h.1, h.2.1, fun y hy py => ?_⟩
      rcases List.mem_append.1 hy with hy | hy
      · exact h.2.2 y hy py
      · rw [List.mem_singleton.1 hy, e] at py; cases py
  | true =>
    simp only [if_true]
    cases b with
    | none =>
      refine ⟨by simp, e, fun y hy py => ?_⟩
      rcases List.mem_append.1 hy with hy | hy
      · rw [h y hy] at py; cases py
      · rw [List.mem_singleton.1 hy]; exact L.irr _
    | some z =>
      simp only
      cases c : lt z x with
      | true =>
        simp only [if_true]
        refine ⟨by simp, e, fun y hy py => ?_⟩
        rcases List.mem_append.1 hy with hy | hy
        · have hzy := h.2.2 y hy py
          cases d : lt x y with
          | false => rfl
          | true => rw [L.tra _ _ _ c d] at hzy; cases hzy
        · rw [List.mem_singleton.1 hy]; exact L.irr _
      | false =>
        simp only [Bool.false_eq_true, if_false]
        refine ⟨List.mem_append_left _ h.1, h.2.1, fun y hy py => ?_⟩
        rcases List.mem_append.1 hy with hy | hy
        · exact h.2.2 y hy py
        · rw [List.mem_singleton.1 hy]; exact c
theorem best_fold (L : Lin lt) (p : α → Bool) : ∀ (m l : List α) (b : Option α), Best lt p l b → Best lt p (l ++ m) (m.foldl (step lt p) b)
  | [], l, b, h => by simpa using h
  | x :: m, l, b, h => by
    have := best_fold L p m (l ++ [x]) (step lt p b x) (best_step L p l b x h)
    simpa using this
/-- The reference's best one is the last one of the sorted list. -/
theorem best_last (L : Lin lt) (p : α → Bool) (l m : List α) (hm : m.Pairwise (fun a b => lt b a = false)) (h : ∀ z, p z = true → (z ∈ l ↔ z ∈ m)) : l.foldl (step lt p) none = lastP p m := by
  have hb := best_fold L p l [] none (by intro y hy; cases hy)
  rw [List.nil_append] at hb
  cases e : l.foldl (step lt p) none with
  | none =>
    rw [e] at hb
    refine ((lastP_none p m).2 fun y hy => ?_).symm
    cases py : p y with
    | false => rfl
    | true => rw [← hb y ((h y py).2 hy)]; exact py.symm
  | some x =>
    rw [e] at hb
    exact ((lastP_top L p x m hm).2 ⟨(h x hb.2.1).1 hb.1, hb.2.1, fun y hy py => hb.2.2 y ((h y py).2 hy) py⟩).symm
/-- Strictly sorted lists with the same elements are one list. -/
theorem sorted_ext (L : Lin lt) : ∀ l m : List α, l.Pairwise (fun a b => lt a b = true) → m.Pairwise (fun a b => lt a b = true) → (∀ z, z ∈ l ↔ z ∈ m) → l = m
  | [], [], _, _, _ => rfl
  | [], b :: m, _, _, h => absurd ((h b).2 List.mem_cons_self) (by simp)
  | a :: l, [], _, _, h => absurd ((h a).1 List.mem_cons_self) (by simp)
  | a :: l, b :: m, hl, hm, h => by
    obtain ⟨l1, l2⟩ := List.pairwise_cons.1 hl
    obtain ⟨m1, m2⟩ := List.pairwise_cons.1 hm
    have hab : a = b := by
      rcases List.mem_cons.1 ((h a).1 List.mem_cons_self) with e | ha
      · exact e
      · rcases List.mem_cons.1 ((h b).2 List.mem_cons_self) with e | hb
        · exact e.symm
        · have := L.asym (m1 a ha)
          rw [l1 b hb] at this; cases this
    subst hab
    rw [sorted_ext L l m l2 m2 fun z => ?_]
    constructor
    · intro hz
      rcases List.mem_cons.1 ((h z).1 (List.mem_cons_of_mem _ hz)) with e | hz'
      · have := l1 z hz; rw [e, L.irr] at this; cases this
      · exact hz'
    · intro hz
      rcases List.mem_cons.1 ((h z).2 (List.mem_cons_of_mem _ hz)) with e | hz'
      · have := m1 z hz; rw [e, L.irr] at this; cases this
      · exact hz'
/-- The stretches between cuts that a test keeps. -/
def parts (p : Int → Bool) : List Int → List (Int × Int)
  | a :: b :: r => if p a then (a, b) :: parts p (b :: r) else parts p (b :: r)
  | _ => []
def InP (l : List (Int × Int)) (d : Int) : Prop := ∃ x ∈ l, x.1 ≤ d ∧ d < x.2
/-- A test that changes at cuts alone: a day belongs to the kept stretches exactly if the test takes it. -/
theorem parts_mem (p : Int → Bool) : ∀ (c : List Int) (a : Int), (a :: c).Pairwise (· < ·) → (∀ (u v : Int), (∀ x ∈ a :: c, ¬ (u < x ∧ x ≤ v)) → u ≤ v → a ≤ u → v < (a :: c).getLast (by simp) → p u = p v) →
    ∀ d, InP (parts p (a :: c)) d ↔ a ≤ d ∧ d < (a :: c).getLast (by simp) ∧ p d = true
  | [], a, _, _, d => by
    simp only [parts, InP, List.not_mem_nil, false_and, exists_false, List.getLast_singleton, false_iff]
    rintro ⟨h1, h2, _⟩; omega
  | b :: r, a, hs, hp, d => by
    obtain ⟨s1, s2⟩ := List.pairwise_cons.1 hs
    have hab := s1 b List.mem_cons_self
    obtain ⟨s3, _⟩ := List.pairwise_cons.1 s2
    have hlast : (a :: b :: r).getLast (by simp) = (b :: r).getLast (by simp) := List.getLast_cons (by simp)
    have hbl : b ≤ (b :: r).getLast (by simp) := by
      rcases List.mem_cons.1 (List.getLast_mem (l := b :: r) (by simp)) with e | e
      · rw [e]; exact Int.le_refl _
      · have := s3 _ e; omega
    have ih := parts_mem p r b s2 (fun u v h1 h2 h3 h4 => hp u v (fun x hx => by
      rcases List.mem_cons.1 hx with rfl | hx
      · omega
      · exact h1 x hx) h2 (by omega) (by rw [hlast]; exact h4)) d
    rw [hlast]
    have hpd : a ≤ d → d < b → p a = p d := fun h1 h2 => hp a d (fun x hx => by
      rcases List.mem_cons.1 hx with rfl | hx
      · omega
      · rcases List.mem_cons.1 hx with rfl | hx
        · omega
        · have := s3 x hx; omega) h1 (Int.le_refl _) (by rw [hlast]; omega)
    have hin : InP (parts p (a :: b :: r)) d ↔ (p a = true ∧ a ≤ d ∧ d < b) ∨ InP (parts p (b :: r)) d := by
      rw [parts]
      cases e : p a with
      | true => simp [InP]
      | false => simp [InP]
    rw [hin, ih]
    constructor
    · rintro (⟨h1, h2, h3⟩ | ⟨h1, h2, h3⟩)
      · exact ⟨h2, by omega, by rw [← hpd h2 h3]; exact h1⟩
      · exact ⟨by omega, h2, h3⟩
    · rintro ⟨h1, h2, h3⟩
      by_cases h4 : d < b
      · exact .inl ⟨by rw [hpd h1 h4]; exact h3, h1, h4⟩
      · exact .inr ⟨by omega, h2, h3⟩
/-! Comparisons by several keys, one after the other. -/
/-- A comparison (below 0, 0, above 0) of a weak order. -/
structure WeakC (c : α → α → Int) : Prop where
  refl : ∀ a, c a a = 0
  anti : ∀ a b, c a b < 0 → 0 < c b a
  anti' : ∀ a b, 0 < c a b → c b a < 0
  tra : ∀ a b d, c a b ≤ 0 → c b d < 0 → c a d < 0
  tra' : ∀ a b d, c a b < 0 → c b d ≤ 0 → c a d < 0
theorem WeakC.zero {c : α → α → Int} (h : WeakC c) {a b : α} (e : c a b = 0) : c b a = 0 := by
  rcases Int.lt_trichotomy (c b a) 0 with x | x | x
  · have := h.anti _ _ x; omega
  · exact x
  · have := h.anti' _ _ x; omega
theorem WeakC.zeros {c : α → α → Int} (h : WeakC c) {a b d : α} (e : c a b = 0) (f : c b d = 0) : c a d = 0 := by
  rcases Int.lt_trichotomy (c a d) 0 with x | x | x
  · have := h.tra' _ _ _ x (Int.le_of_eq (h.zero f)); omega
  · exact x
  · have := h.tra' _ _ _ (h.anti' _ _ x) (Int.le_of_eq e); have := h.zero f; omega
/-- First by the one, then by the other. -/
def thenC (c d : α → α → Int) (a b : α) : Int := if c a b ≠ 0 then c a b else d a b
theorem thenC_zero {c d : α → α → Int} {a b : α} : thenC c d a b = 0 ↔ c a b = 0 ∧ d a b = 0 := by
  unfold thenC
  split <;> omega
theorem WeakC.then_ {c d : α → α → Int} (h : WeakC c) (k : WeakC d) : WeakC (thenC c d) where
  refl a := thenC_zero.2 ⟨h.refl a, k.refl a⟩
  anti a b e := by
    unfold thenC at e ⊢
    by_cases x : c a b = 0
    · rw [if_neg (by omega)] at e
      rw [if_neg (by have := h.zero x; omega)]
      exact k.anti _ _ e
    · rw [if_pos x] at e
      have := h.anti _ _ e
      rw [if_pos (by omega)]
      exact this
  anti' a b e := by
    unfold thenC at e ⊢
    by_cases x : c a b = 0
    · rw [if_neg (by omega)] at e
      rw [if_neg (by have := h.zero x; omega)]
      exact k.anti' _ _ e
    · rw [if_pos x] at e
      have := h.anti' _ _ e
      rw [if_pos (by omega)]
      exact this
  tra a b e p q := by
    unfold thenC at p q ⊢
    by_cases x : c a b = 0
    · rw [if_neg (by omega)] at p
      by_cases y : c b e = 0
      · rw [if_neg (by omega)] at q
        rw [if_neg (by have := h.zeros x y; omega)]
        exact k.tra _ _ _ p q
      · rw [if_pos y] at q
        have := h.tra _ _ _ (Int.le_of_eq x) q
        rw [if_pos (by omega)]; exact this
    · rw [if_pos x] at p
      have hx : c a b < 0 := by omega
      by_cases y : c b e = 0
      · have := h.tra' _ _ _ hx (Int.le_of_eq y)
        rw [if_pos (by omega)]; exact this
      · rw [if_pos y] at q
        have := h.tra' _ _ _ hx (Int.le_of_lt q)
        rw [if_pos (by omega)]; exact this
  tra' a b e p q := by
    unfold thenC at p q ⊢
    by_cases x : c a b = 0
    · rw [if_neg (by omega)] at p
      by_cases y : c b e = 0
      · rw [if_neg (by omega)] at q
        rw [if_neg (by have := h.zeros x y; omega)]
        exact k.tra' _ _ _ p q
      · rw [if_pos y] at q
        have hy : c b e < 0 := by omega
        have := h.tra _ _ _ (Int.le_of_eq x) hy
        rw [if_pos (by omega)]; exact this
    · rw [if_pos x] at p
      by_cases y : c b e = 0
      · have := h.tra' _ _ _ p (Int.le_of_eq y)
        rw [if_pos (by omega)]; exact this
      · rw [if_pos y] at q
        have := h.tra' _ _ _ p q
        rw [if_pos (by omega)]; exact this
/-- Whole numbers. -/
def cmpI (x y : Int) : Int := if x < y then -1 else if x > y then 1 else 0
theorem cmpI_weak (f : α → Int) : WeakC (fun a b => cmpI (f a) (f b)) where
  refl a := by simp [cmpI]
  anti a b h := by unfold cmpI at h ⊢; (repeat' split at h) <;> (repeat' split) <;> omega
  anti' a b h := by unfold cmpI at h ⊢; (repeat' split at h) <;> (repeat' split) <;> omega
  tra a b d h k := by unfold cmpI at h k ⊢; (repeat' split at h) <;> (repeat' split at k) <;> (repeat' split) <;> omega
  tra' a b d h k := by unfold cmpI at h k ⊢; (repeat' split at h) <;> (repeat' split at k) <;> (repeat' split) <;> omega
theorem cmpI_zero {x y : Int} : cmpI x y = 0 ↔ x = y := by unfold cmpI; (repeat' split) <;> omega
/-- Lists of numbers (the bytes of a string), in the order of a dictionary. -/
def cmpL : List Nat → List Nat → Int
  | [], [] => 0
  | [], _ :: _ => -1
  | _ :: _, [] => 1
  | a :: l, b :: m => if a < b then -1 else if b < a then 1 else cmpL l m
theorem cmpL_refl : ∀ l, cmpL l l = 0
  | [] => rfl
  | a :: l => by simp [cmpL, cmpL_refl l]
theorem cmpL_neg : ∀ l m, cmpL m l = - cmpL l m
  | [], [] => rfl
  | [], _ :: _ => rfl
  | _ :: _, [] => rfl
  | a :: l, b :: m => by
    have := cmpL_neg l m
    unfold cmpL
    (repeat' split) <;> omega
theorem cmpL_zero : ∀ l m, cmpL l m = 0 → l = m
  | [], [], _ => rfl
  | [], _ :: _, h => by simp [cmpL] at h
  | _ :: _, [], h => by simp [cmpL] at h
  | a :: l, b :: m, h => by
    unfold cmpL at h
    split at h
    · omega
    · split at h
      · omega
      · rw [cmpL_zero l m h, show a = b by omega]
theorem cmpL_tra : ∀ l m n, cmpL l m ≤ 0 → cmpL m n < 0 → cmpL l n < 0
  | l, m, [], _, k => by cases m <;> simp [cmpL] at k
  | [], _, _ :: _, _, _ => by simp [cmpL]
  | a :: l, [], _ :: _, h, _ => by simp [cmpL] at h
  | a :: l, b :: m, c :: n, h, k => by
    have ih := cmpL_tra l m n
    unfold cmpL at h k ⊢
    (repeat' split at h) <;> (repeat' split at k) <;> (repeat' split) <;> first | omega | exact ih h k
theorem cmpL_tra' : ∀ l m n, cmpL l m < 0 → cmpL m n ≤ 0 → cmpL l n < 0
  | l, m, n, h, k => by
    by_cases e : cmpL m n = 0
    · rw [← cmpL_zero _ _ e]; exact h
    · exact cmpL_tra l m n (Int.le_of_lt h) (by omega)
theorem cmpL_weak (f : α → List Nat) : WeakC (fun a b => cmpL (f a) (f b)) where
  refl a := cmpL_refl _
  anti a b h := by have := cmpL_neg (f a) (f b); have h' : cmpL (f a) (f b) < 0 := h; show 0 < cmpL (f b) (f a); omega
  anti' a b h := by have := cmpL_neg (f a) (f b); have h' : 0 < cmpL (f a) (f b) := h; show cmpL (f b) (f a) < 0; omega
  tra a b d h k := cmpL_tra _ _ _ h k
  tra' a b d h k := cmpL_tra' _ _ _ h k
theorem WeakC.lin {c : α → α → Int} (h : WeakC c) (z : ∀ a b, c a b = 0 → a = b) : Lin (fun a b => decide (c a b < 0)) where
  irr a := by simp [h.refl a]
  tra a b d p q := by
    have p' := of_decide_eq_true p
    have q' := of_decide_eq_true q
    exact decide_eq_true (h.tra _ _ _ (Int.le_of_lt p') q')
  tri a b p q := by
    have p' := of_decide_eq_false p
    have q' := of_decide_eq_false q
    refine z _ _ ?_
    rcases Int.lt_trichotomy (c a b) 0 with x | x | x
    · exact absurd x p'
    · exact x
    · exact absurd (h.anti' _ _ x) q'
/-- The byte order of the model is the dictionary's. -/
theorem cmpL_less : ∀ x y : List UInt8, Op.bytesLess x y = decide (cmpL (x.map UInt8.toNat) (y.map UInt8.toNat) < 0)
  | [], [] => by simp [Op.bytesLess, cmpL]
  | [], _ :: _ => by simp [Op.bytesLess, cmpL]
  | _ :: _, [] => by simp [Op.bytesLess, cmpL]
  | a :: x, b :: y => by
    have ih := cmpL_less x y
    simp only [Op.bytesLess, List.map_cons, cmpL, ih]
    by_cases h1 : a < b
    · have h1' : a.toNat < b.toNat := h1
      simp [h1, h1']
    · have h1' : ¬ a.toNat < b.toNat := h1
      by_cases h2 : a = b
      · subst h2
        simp
      · have h3 : b.toNat < a.toNat := by
          have : a.toNat ≠ b.toNat := fun e => h2 (UInt8.toNat_inj.1 e)
          omega
        simp [h1, h1', h2, h3]
/-- `on` over a fact's own records, in any sorted order, depends on the records that count alone. -/
theorem last_own (L : Lin lt) (f p : α → Bool) (l m s t : List α) (hs : s.Pairwise (fun a b => lt b a = false)) (ht : t.Pairwise (fun a b => lt b a = false))
    (es : ∀ z, z ∈ s ↔ z ∈ l ∧ f z = true) (et : ∀ z, z ∈ t ↔ z ∈ m ∧ f z = true) (h : ∀ z, f z = true → p z = true → (z ∈ l ↔ z ∈ m)) : lastP p s = lastP p t := by
  refine lastP_same L p s t hs ht fun z pz => ?_
  rw [es, et]
  constructor
  · rintro ⟨h1, h2⟩; exact ⟨(h z h2 pz).1 h1, h2⟩
  · rintro ⟨h1, h2⟩; exact ⟨(h z h2 pz).2 h1, h2⟩
/-- A record behind all others that counts decides. -/
theorem last_late (L : Lin lt) (f p : α → Bool) (l s : List α) (x : α) (hs : s.Pairwise (fun a b => lt b a = false)) (es : ∀ z, z ∈ s ↔ z ∈ l ++ [x] ∧ f z = true)
    (hf : f x = true) (hp : p x = true) (h : ∀ y ∈ l, lt y x = true) : lastP p s = some x := by
  refine (lastP_top L p x s hs).2 ⟨(es x).2 ⟨by simp, hf⟩, hp, fun y hy _ => ?_⟩
  rcases List.mem_append.1 ((es y).1 hy).1 with e | e
  · exact L.asym (h y e)
  · rw [List.mem_singleton.1 e]; exact L.irr _
/-- One that does not count changes nothing. -/
theorem last_aside (L : Lin lt) (f p : α → Bool) (l s t : List α) (x : α) (hs : s.Pairwise (fun a b => lt b a = false)) (ht : t.Pairwise (fun a b => lt b a = false))
    (es : ∀ z, z ∈ s ↔ z ∈ l ++ [x] ∧ f z = true) (et : ∀ z, z ∈ t ↔ z ∈ l ∧ f z = true) (h : ¬ (f x = true ∧ p x = true)) : lastP p s = lastP p t :=
  last_own L f p (l ++ [x]) l s t hs ht es et fun z h1 h2 => by
    constructor
    · intro hz
      rcases List.mem_append.1 hz with e | e
      · exact e
      · rw [List.mem_singleton.1 e] at h1 h2; exact absurd ⟨h1, h2⟩ h
    · exact fun hz => List.mem_append_left _ hz
theorem lin_int : Lin (fun a b : Int => decide (a < b)) where
  irr a := by simp
  tra a b c h k := by
    have h' := of_decide_eq_true h
    have k' := of_decide_eq_true k
    exact decide_eq_true (by omega)
  tri a b h k := by
    have h' := of_decide_eq_false h
    have k' := of_decide_eq_false k
    omega
/-- Rising numbers with the same members are one list (the cuts). -/
theorem cuts_ext (l m : List Int) (hl : l.Pairwise (· < ·)) (hm : m.Pairwise (· < ·)) (h : ∀ z, z ∈ l ↔ z ∈ m) : l = m :=
  sorted_ext lin_int l m (hl.imp fun h => decide_eq_true h) (hm.imp fun h => decide_eq_true h) h
theorem find_congr (p q : α → Bool) : ∀ l : List α, (∀ x ∈ l, p x = q x) → l.find? p = l.find? q
  | [], _ => rfl
  | a :: l, h => by
    rw [List.find?_cons, List.find?_cons, h a List.mem_cons_self, find_congr p q l fun x hx => h x (List.mem_cons_of_mem _ hx)]
theorem lastP_congr (p q : α → Bool) (l : List α) (h : ∀ x ∈ l, p x = q x) : lastP p l = lastP q l :=
  find_congr p q l.reverse fun x hx => h x (List.mem_reverse.1 hx)
/-- What is known of a day changes only where a record begins or ends. -/
theorem last_between (fr un : α → Int) (kn : α → Bool) (s : List α) (u v : Int) (huv : u ≤ v) (h : ∀ x ∈ s, ¬ (u < fr x ∧ fr x ≤ v) ∧ ¬ (u < un x ∧ un x ≤ v)) :
    lastP (fun x => kn x && (decide (fr x ≤ u) && decide (u < un x))) s = lastP (fun x => kn x && (decide (fr x ≤ v) && decide (v < un x))) s := by
  refine lastP_congr _ _ s fun x hx => ?_
  obtain ⟨h1, h2⟩ := h x hx
  have e1 : decide (fr x ≤ u) = decide (fr x ≤ v) := decide_eq_decide.2 (by omega)
  have e2 : decide (u < un x) = decide (v < un x) := decide_eq_decide.2 (by omega)
  rw [e1, e2]
/-- The reference's way: a number is put into rising numbers. -/
def putL : List Int → Int → List Int
  | [], n => [n]
  | a :: l, n => if a ≥ n then (if a > n then n :: a :: l else a :: l) else a :: putL l n
theorem put_mem : ∀ (l : List Int) (n x : Int), x ∈ putL l n ↔ x ∈ l ∨ x = n
  | [], n, x => by simp [putL]
  | a :: l, n, x => by
    unfold putL
    split
    · split
      · simp only [List.mem_cons]
        constructor
        · rintro (h | h | h)
          · exact .inr h
          · exact .inl (.inl h)
          · exact .inl (.inr h)
        · rintro ((h | h) | h)
          · exact .inr (.inl h)
          · exact .inr (.inr h)
          · exact .inl h
      · have : a = n := by omega
        subst this
        simp only [List.mem_cons]
        constructor
        · exact .inl
        · rintro (h | h)
          · exact h
          · exact .inl h
    · simp only [List.mem_cons, put_mem l n x]
      constructor
      · rintro (h | h | h)
        · exact .inl (.inl h)
        · exact .inl (.inr h)
        · exact .inr h
      · rintro ((h | h) | h)
        · exact .inl h
        · exact .inr (.inl h)
        · exact .inr (.inr h)
theorem put_pw : ∀ (l : List Int) (n : Int), l.Pairwise (· < ·) → (putL l n).Pairwise (· < ·)
  | [], n, _ => by simp [putL]
  | a :: l, n, h => by
    obtain ⟨h1, h2⟩ := List.pairwise_cons.1 h
    unfold putL
    split
    · split
      · refine List.pairwise_cons.2 ⟨fun x hx => ?_, h⟩
        rcases List.mem_cons.1 hx with rfl | hx
        · omega
        · have := h1 x hx; omega
      · exact h
    · refine List.pairwise_cons.2 ⟨fun x hx => ?_, put_pw l n h2⟩
      rcases (put_mem l n x).1 hx with e | e
      · exact h1 x e
      · omega
theorem puts_ok : ∀ (ns l : List Int), l.Pairwise (· < ·) → (ns.foldl putL l).Pairwise (· < ·) ∧ ∀ x, x ∈ ns.foldl putL l ↔ x ∈ l ∨ x ∈ ns
  | [], l, h => ⟨h, fun x => by simp⟩
  | n :: ns, l, h => by
    obtain ⟨h1, h2⟩ := puts_ok ns (putL l n) (put_pw l n h)
    refine ⟨h1, fun x => ?_⟩
    rw [List.foldl_cons, h2, put_mem, List.mem_cons]
    constructor
    · rintro ((h | h) | h)
      · exact .inl h
      · exact .inr (.inl h)
      · exact .inr (.inr h)
    · rintro (h | h | h)
      · exact .inl (.inl h)
      · exact .inl (.inr h)
      · exact .inr h
/-- Equal neighbours told once. -/
def compG {β : Type} [DecidableEq β] : List β → List β
  | a :: b :: r => if a = b then compG (b :: r) else a :: compG (b :: r)
  | l => l
theorem compG_ok [DecidableEq α] (L : Lin lt) : ∀ l : List α, l.Pairwise (fun a b => lt b a = false) → (compG l).Pairwise (fun a b => lt a b = true) ∧ ∀ x, x ∈ compG l ↔ x ∈ l
  | [], _ => by simp [compG]
  | [_], _ => by simp [compG]
  | a :: b :: r, h => by
    obtain ⟨h1, h2⟩ := List.pairwise_cons.1 h
    obtain ⟨h3, _⟩ := List.pairwise_cons.1 h2
    obtain ⟨i1, i2⟩ := compG_ok L (b :: r) h2
    rw [compG]
    by_cases e : a = b
    · rw [if_pos e]
      refine ⟨i1, fun x => ?_⟩
      rw [i2, e]
      simp
    · rw [if_neg e]
      refine ⟨List.pairwise_cons.2 ⟨fun y hy => ?_, i1⟩, fun x => ?_⟩
      · cases c : lt a y with
        | true => rfl
        | false =>
          have hy' := (i2 y).1 hy
          have ay := L.tri a y c (h1 y hy')
          rcases List.mem_cons.1 hy' with e' | e'
          · exact absurd (ay.trans e') e
          · have := h3 y e'
            rw [← ay] at this
            exact absurd (L.tri a b this (h1 b (by simp))) e
      · rw [List.mem_cons, i2, List.mem_cons (a := x) (b := a)]
end Go.Proofs.YthcjocojngochaaGreatDoor.Pure

