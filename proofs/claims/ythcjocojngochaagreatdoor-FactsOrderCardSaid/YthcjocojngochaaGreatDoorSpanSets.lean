/- Lists of stretches as sets of days. No Go and no memory in it. -/
import Derived.Test.YthcjocojngochaaGreatDoorXx12
namespace Go.Proofs.YthcjocojngochaaGreatDoor.Pure
open Go.RowKit Go.Proofs.YthcjocojngochaaGreatDoor.X Go.Proofs.YthcjocojngochaaGreatDoorW.PrintWords

/-- A day belongs to a list of stretches. -/
def mem (l : List S24) (d : Int) : Bool := l.any (dayIn d)
theorem str_iff (s : S24) : strB s = true ↔ 0 ≤ s.f0 ∧ s.f0 < s.f1 ∧ s.f1 ≤ 36525 := by
  unfold strB
  simp
theorem in_iff (d : Int) (s : S24) : dayIn d s = true ↔ s.f0 ≤ d ∧ d < s.f1 := by
  unfold dayIn
  simp
theorem mem_iff (l : List S24) (d : Int) : mem l d = true ↔ ∃ s ∈ l, s.f0 ≤ d ∧ d < s.f1 := by
  unfold mem
  rw [List.any_eq_true]
  simp only [in_iff]
theorem mem_append (l m : List S24) (d : Int) : mem (l ++ m) d = (mem l d || mem m d) := by
  unfold mem
  rw [List.any_append]
theorem mem_cons (s : S24) (l : List S24) (d : Int) : mem (s :: l) d = (dayIn d s || mem l d) := rfl
/-- Stretches in order, and apart. -/
structure Apart (l : List S24) : Prop where
  str : ∀ s ∈ l, strB s = true
  pw : l.Pairwise (fun a b => a.f1 < b.f0)
theorem Apart.nil : Apart [] := ⟨by simp, List.Pairwise.nil⟩
theorem Apart.tail {s : S24} {l : List S24} (h : Apart (s :: l)) : Apart l := ⟨fun x hx => h.str x (List.mem_cons_of_mem _ hx), (List.pairwise_cons.mp h.pw).2⟩
theorem Apart.head {s : S24} {l : List S24} (h : Apart (s :: l)) : (0 ≤ s.f0 ∧ s.f0 < s.f1 ∧ s.f1 ≤ 36525) ∧ ∀ t ∈ l, s.f1 < t.f0 := ⟨(str_iff s).mp (h.str s List.mem_cons_self), (List.pairwise_cons.mp h.pw).1⟩
theorem Apart.low {s : S24} {l : List S24} (h : Apart (s :: l)) (d : Int) (hd : mem (s :: l) d = true) : s.f0 ≤ d := by
  obtain ⟨t, ht, h1, _⟩ := (mem_iff _ _).mp hd
  rcases List.mem_cons.mp ht with rfl | ht
  · exact h1
  · have := h.head.2 t ht
    have := h.head.1
    omega
theorem Apart.own {s : S24} {l : List S24} (h : Apart (s :: l)) : mem (s :: l) s.f0 = true := (mem_iff _ _).mpr ⟨s, List.mem_cons_self, Int.le_refl _, h.head.1.2.1⟩
theorem Apart.gap {s : S24} {l : List S24} (h : Apart (s :: l)) (d : Int) (h1 : mem l d = true) : s.f1 < d := by
  obtain ⟨t, ht, h2, _⟩ := (mem_iff _ _).mp h1
  have := h.head.2 t ht
  omega
theorem apart_one {s t : S24} {l m : List S24} (h : Apart (s :: l)) (k : Apart (t :: m)) (e : ∀ d, mem (s :: l) d = mem (t :: m) d) : s.f0 = t.f0 ∧ s.f1 ≤ t.f1 := by
  have h0 : t.f0 ≤ s.f0 := k.low _ (by rw [← e]; exact h.own)
  have h1 : s.f0 ≤ t.f0 := h.low _ (by rw [e]; exact k.own)
  refine ⟨by omega, ?_⟩
  rcases Int.lt_or_le t.f1 s.f1 with hlt | hle
  · exfalso
    have hm : mem (s :: l) t.f1 = true := (mem_iff _ _).mpr ⟨s, List.mem_cons_self, by have := k.head.1; omega, hlt⟩
    rw [e] at hm
    obtain ⟨u, hu, h2, h3⟩ := (mem_iff _ _).mp hm
    rcases List.mem_cons.mp hu with rfl | hu
    · omega
    · have := k.head.2 u hu
      omega
  · exact hle
/-- Two lists that are in order and apart, and have the same days, are the same. -/
theorem apart_ext : ∀ (l m : List S24), Apart l → Apart m → (∀ d, mem l d = mem m d) → l = m
  | [], [], _, _, _ => rfl
  | [], t :: m, _, k, e => by
    have := k.own
    rw [← e] at this
    exact absurd this (by simp [mem])
  | s :: l, [], h, _, e => by
    have := h.own
    rw [e] at this
    exact absurd this (by simp [mem])
  | s :: l, t :: m, h, k, e => by
    obtain ⟨e0, e1⟩ := apart_one h k e
    obtain ⟨_, e2⟩ := apart_one k h (fun d => (e d).symm)
    have est : s = t := by
      cases s; cases t
      simp only at e0 e1 e2
      have : ∀ a b c d : Int, a = b → c = d → (⟨a, c⟩ : S24) = ⟨b, d⟩ := by intro a b c d h1 h2; rw [h1, h2]
      exact this _ _ _ _ e0 (by omega)
    subst est
    have : l = m := apart_ext l m h.tail k.tail (fun d => by
      have hd := e d
      rw [mem_cons, mem_cons] at hd
      cases hs : dayIn d s with
      | false => rw [hs] at hd; simpa using hd
      | true =>
        have h1 := (in_iff d s).mp hs
        have n1 : mem l d = false := by
          cases hm : mem l d with
          | false => rfl
          | true => have := h.gap d hm; omega
        have n2 : mem m d = false := by
          cases hm : mem m d with
          | false => rfl
          | true => have := k.gap d hm; omega
        rw [n1, n2])
    rw [this]
/-! ### add -/
theorem addF_nil (s : S24) : addF [] s = [s] := rfl
theorem addF_snoc (o : List S24) (t s : S24) : addF (o ++ [t]) s = if t.f1 ≥ s.f0 then o ++ [⟨t.f0, mx t.f1 s.f1⟩] else o ++ [t] ++ [s] := by
  have hl : (o ++ [t]).length = o.length + 1 := by simp
  have hr : rd_T24 (o ++ [t]) (((o ++ [t]).length : Int) - 1) = t := by
    rw [hl, show ((o.length + 1 : Nat) : Int) - 1 = (o.length : Int) by omega, rd30_nat _ _ (by simp)]
    simp
  unfold addF
  rw [hr]
  by_cases h : t.f1 ≥ s.f0
  · rw [if_pos ⟨by rw [hl]; omega, h⟩, if_pos h, hl]
    simp
  · rw [if_neg (fun e => h e.2), if_neg h]
theorem add_ok (out : List S24) (s : S24) (h : Apart out) (hs : strB s = true) (hl : ∀ t ∈ out, t.f0 ≤ s.f0) :
    Apart (addF out s) ∧ (∀ d, mem (addF out s) d = (mem out d || dayIn d s)) ∧ (∀ t ∈ addF out s, t.f0 ≤ s.f0) := by
  have hs' := (str_iff s).mp hs
  rcases List.eq_nil_or_concat out with rfl | ⟨o, t, rfl⟩
  · rw [addF_nil]
    refine ⟨⟨by intro x hx; rw [List.mem_singleton.mp hx]; exact hs, by simp⟩, fun d => by simp [mem], ?_⟩
    intro x hx
    rw [List.mem_singleton.mp hx]
    exact Int.le_refl _
  · rw [List.concat_eq_append] at h hl ⊢
    rw [addF_snoc]
    obtain ⟨p1, p2, p3⟩ := List.pairwise_append.mp h.pw
    have ht := (str_iff t).mp (h.str t (by simp))
    have htl := hl t (by simp)
    by_cases hj : t.f1 ≥ s.f0
    · rw [if_pos hj]
      have hm : mx t.f1 s.f1 = t.f1 ∧ s.f1 ≤ t.f1 ∨ mx t.f1 s.f1 = s.f1 ∧ t.f1 < s.f1 := by
        unfold mx
        split <;> omega
      refine ⟨⟨?_, ?_⟩, fun d => ?_, ?_⟩
      · intro x hx
        rcases List.mem_append.mp hx with hx | hx
        · exact h.str x (List.mem_append_left _ hx)
        · rw [List.mem_singleton.mp hx, str_iff]
          simp only
          omega
      · refine List.pairwise_append.mpr ⟨p1, by simp, ?_⟩
        intro a ha b hb
        rw [List.mem_singleton.mp hb]
        exact p3 a ha t (by simp)
      · rw [mem_append, mem_append]
        have e1 : mem [(⟨t.f0, mx t.f1 s.f1⟩ : S24)] d = (mem [t] d || dayIn d s) := by
          rw [Bool.eq_iff_iff, Bool.or_eq_true, mem_iff, mem_iff, in_iff]
          simp only [List.mem_singleton, exists_eq_left]
          omega
        rw [e1, Bool.or_assoc]
      · intro x hx
        rcases List.mem_append.mp hx with hx | hx
        · exact hl x (List.mem_append_left _ hx)
        · rw [List.mem_singleton.mp hx]
          exact htl
    · rw [if_neg hj]
      refine ⟨⟨?_, ?_⟩, fun d => ?_, ?_⟩
      · intro x hx
        rcases List.mem_append.mp hx with hx | hx
        · exact h.str x hx
        · rw [List.mem_singleton.mp hx]; exact hs
      · refine List.pairwise_append.mpr ⟨h.pw, by simp, ?_⟩
        intro a ha b hb
        rw [List.mem_singleton.mp hb]
        rcases List.mem_append.mp ha with ha | ha
        · have := p3 a ha t (by simp)
          omega
        · rw [List.mem_singleton.mp ha]; omega
      · rw [mem_append]
        simp [mem]
      · intro x hx
        rcases List.mem_append.mp hx with hx | hx
        · exact hl x hx
        · rw [List.mem_singleton.mp hx]; exact Int.le_refl _
theorem fold_ok : ∀ (l out : List S24), Apart out → (∀ s ∈ l, strB s = true) → l.Pairwise (fun a b => a.f0 ≤ b.f0) → (∀ t ∈ out, ∀ s ∈ l, t.f0 ≤ s.f0) →
    Apart (l.foldl addF out) ∧ ∀ d, mem (l.foldl addF out) d = (mem out d || mem l d)
  | [], out, h, _, _, _ => ⟨h, fun d => by simp [mem]⟩
  | s :: l, out, h, hs, hp, ho => by
    obtain ⟨a1, a2, a3⟩ := add_ok out s h (hs s List.mem_cons_self) (fun t ht => ho t ht s List.mem_cons_self)
    obtain ⟨q1, q2⟩ := List.pairwise_cons.mp hp
    obtain ⟨b1, b2⟩ := fold_ok l (addF out s) a1 (fun x hx => hs x (List.mem_cons_of_mem _ hx)) q2 (fun t ht x hx => Int.le_trans (a3 t ht) (q1 x hx))
    refine ⟨b1, fun d => ?_⟩
    rw [List.foldl_cons, b2, a2, mem_cons, Bool.or_assoc]
/-! ### Normal -/
theorem sorted30_perm (l : List S24) : (sorted30 l).Perm l ∧ (sorted30 l).Pairwise (fun a b => a.f0 ≤ b.f0) := by
  have h := Go.Sort.pdq_sorts (ltOf cf30) swo30 l.toArray 0 l.toArray.size (Lib.bitLen l.toArray.size) true true (Nat.zero_le _) (Nat.le_refl _) (Or.inl rfl)
  generalize hp : Go.Sort.pdq (ltOf cf30) l.toArray 0 l.toArray.size (Lib.bitLen l.toArray.size) true true = p at h
  have e : sorted30 l = p.toList := by unfold sorted30; rw [hp]
  obtain ⟨⟨hsz, _, hperm⟩, hsrt⟩ := h
  rw [e]
  constructor
  · have e1 : p.extract 0 l.toArray.size = p := by rw [← hsz]; simp
    have e2 : l.toArray.extract 0 l.toArray.size = l.toArray := by simp
    rw [e1, e2] at hperm
    simpa using hperm
  · rw [List.pairwise_iff_getElem]
    intro i j hi hj hij
    have := hsrt i j (Nat.zero_le _) hij (by rw [← hsz]; simpa using hj)
    rw [lt30] at this
    have h1 := of_decide_eq_false this
    rw [getElem!_pos p j (by simpa using hj), getElem!_pos p i (by simpa using hi)] at h1
    simp only [Array.getElem_toList]
    omega
theorem mem_perm {l m : List S24} (h : l.Perm m) (d : Int) : mem l d = mem m d := by
  rw [Bool.eq_iff_iff, mem_iff, mem_iff]
  constructor
  · rintro ⟨s, hs, h1⟩; exact ⟨s, h.mem_iff.mp hs, h1⟩
  · rintro ⟨s, hs, h1⟩; exact ⟨s, h.mem_iff.mpr hs, h1⟩
/-- The stretches with the same days that are in order and apart. -/
def normL (l : List S24) : List S24 := (sorted30 l).foldl addF []
theorem norm_ok (l : List S24) (h : ∀ s ∈ l, strB s = true) : Apart (normL l) ∧ ∀ d, mem (normL l) d = mem l d := by
  obtain ⟨hp, hs⟩ := sorted30_perm l
  obtain ⟨a, b⟩ := fold_ok (sorted30 l) [] Apart.nil (fun s hs' => h s (hp.mem_iff.mp hs')) hs (by simp)
  refine ⟨a, fun d => ?_⟩
  show mem ((sorted30 l).foldl addF []) d = _
  rw [b, mem_perm hp]
  simp [mem]
theorem normF_eq (l : List S24) : normF l = if l.all strB then limF (normL l) else ([], 1) := rfl
end Go.Proofs.YthcjocojngochaaGreatDoor.Pure

