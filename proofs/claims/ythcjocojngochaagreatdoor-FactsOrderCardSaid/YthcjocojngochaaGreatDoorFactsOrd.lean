/- Facts: the program's words (a fact's own records, what is known on a day, the days of `where`) in the words of the plain core. No Go and no memory in it. -/
import Derived.Test.YthcjocojngochaaGreatDoorFactsOrd0
import Derived.Test.YthcjocojngochaaGreatDoorFactsLaws
import Derived.Test.YthcjocojngochaaGreatDoorXx14
namespace Go.Proofs.YthcjocojngochaaGreatDoor.Pure
open Go.RowKit Go.Proofs.YthcjocojngochaaGreatDoor.X Go.Proofs.YthcjocojngochaaGreatDoorW.PrintWords
set_option linter.unusedVariables false
abbrev Rec := S26
def recF : Fld Rec where
  home x := x.f0
  name x := x.f1
  value x := x.f2
  frm x := x.f3.f0
  til x := x.f3.f1
  known x := x.f4
  gone x := x.f5
theorem find_filter {α : Type} (p q : α → Bool) : ∀ l : List α, (l.filter p).find? q = l.find? (fun x => p x && q x)
  | [] => rfl
  | x :: l => by
    cases hp : p x <;> simp [List.find?_cons, hp, find_filter p q l]
theorem onF_on (zs : List Rec) (d known : Int) : onF zs d known = recF.on zs d known := by
  unfold onF Fld.on lastP knownR
  rw [← List.filter_reverse, find_filter]
  have e : recF.cnt known d = fun x => decide (x.f4 ≤ known) && cov26 d x := rfl
  rw [e]
  cases List.find? (fun x : Rec => decide (x.f4 ≤ known) && cov26 d x) zs.reverse <;> rfl
theorem cuts_eq (zs : List Rec) : cutsR zs = recF.cuts zs := rfl
theorem kept_eq (q : Int → Bool) : ∀ cs : List Int, keptR q cs = partsS q cs
  | [] => rfl
  | [_] => rfl
  | a :: b :: r => by
    have ih := kept_eq q (b :: r)
    have e1 : keptR q (a :: b :: r) = if q a then ⟨a, b⟩ :: keptR q (b :: r) else keptR q (b :: r) := rfl
    rw [e1, ih]
    unfold partsS
    rw [parts]
    cases q a <;> rfl
theorem dayQ_eq (zs : List Rec) (v known d : Int) : dayQ zs v known d = recF.dayP zs v known d := by
  unfold dayQ Fld.dayP
  rw [onF_on]
  rfl
theorem difQ_eq (zs : List Rec) (a b d : Int) : difQ zs a b d = recF.difP zs a b d := by
  unfold difQ Fld.difP
  rw [onF_on, onF_on]
  generalize recF.on zs d a = r
  generalize recF.on zs d b = s
  obtain ⟨r1, r2⟩ := r
  obtain ⟨s1, s2⟩ := s
  by_cases h1 : r1 = s1 <;> by_cases h2 : r2 = s2 <;> simp [h1, h2]
/-! ### valid records, a fact's own ones -/
theorem right_days {x : Rec} (h : rightB x = true) : 0 ≤ x.f3.f0 ∧ x.f3.f0 < x.f3.f1 ∧ x.f3.f1 ≤ 36525 := by
  unfold rightB at h
  simp at h
  exact ⟨h.2.1, h.2.2.1, h.2.2.2⟩
theorem valid_days {l : List Rec} (h : validB l = true) : recF.Days l := by
  intro x hx
  unfold validB at h
  simp at h
  exact right_days (h.2 x hx)
theorem arg_valid {l : List Rec} {home : Int} {name : ByteArray} {ds : List Int} (h : argB l home name ds = true) : validB l = true := by
  unfold argB at h
  simp at h
  exact h.1.1.1
theorem own_mem (l : List Rec) (home : Int) (name : ByteArray) (x : Rec) : x ∈ ownS l home name ↔ x ∈ l ∧ ownB home name x = true := by
  unfold ownS
  rw [(sortR_perm _).mem_iff, List.mem_filter]
theorem own_up (l : List Rec) (home : Int) (name : ByteArray) : (ownS l home name).Pairwise (fun a b => ltR b a = false) := sortR_up _
theorem own_len (l : List Rec) (home : Int) (name : ByteArray) : (ownS l home name).length ≤ l.length := ownS_len l home name
theorem own_days {l : List Rec} {home : Int} {name : ByteArray} {ds : List Int} (h : argB l home name ds = true) : recF.Days (ownS l home name) := fun x hx => valid_days (arg_valid h) x ((own_mem l home name x).1 hx).1
theorem ownB_iff (home : Int) (name : ByteArray) (x : Rec) : ownB home name x = true ↔ x.f0 = home ∧ x.f1 = name := by
  unfold ownB
  simp [ba_inj]
/-- Records of other facts left out: the own ones stay. -/
theorem own_filter (l : List Rec) (home : Int) (name : ByteArray) : ownS (l.filter (ownB home name)) home name = ownS l home name := by
  unfold ownS
  rw [List.filter_filter]
  simp
/-! ### the days -/
theorem parts_len (q : Int → Bool) : ∀ cs : List Int, (partsS q cs).length ≤ cs.length := by
  intro cs
  rw [← kept_eq]
  exact kept_len q cs
theorem norm_len (l : List S24) : (normL l).length ≤ l.length := by
  have h : ∀ (m o : List S24), (m.foldl addF o).length ≤ o.length + m.length := by
    intro m
    induction m with
    | nil => intro o; simp
    | cons s m ih =>
      intro o
      rw [List.foldl_cons]
      have h1 := ih (addF o s)
      have h2 : (addF o s).length ≤ o.length + 1 := by
        unfold addF
        (repeat' split) <;> simp <;> omega
      simp only [List.length_cons]
      omega
  unfold normL
  have := h (sorted30 l) []
  rw [sorted30_len] at this
  simpa using this
/-- What `where` returns for up to 400 valid records. -/
theorem where_F (zs : List Rec) (hd : recF.Days zs) (hl : zs.length ≤ 400) (q : Int → Bool) : normF (keptR q (cutsR zs)) = (recF.wh zs q, 0) := by
  rw [normF_eq, kept_eq, cuts_eq]
  have hs := partsS_str q (recF.cuts zs) (recF.cuts_fact zs).1 (recF.cuts_in zs hd)
  rw [if_pos (List.all_eq_true.2 hs)]
  unfold limF
  rw [if_neg]
  · rfl
  · have h1 := norm_len (partsS q (recF.cuts zs))
    have h2 := parts_len q (recF.cuts zs)
    have h3 := cuts_len zs
    rw [cuts_eq] at h3
    omega
theorem wh_congr (zs : List Rec) (p q : Int → Bool) (h : ∀ d, p d = q d) : recF.wh zs p = recF.wh zs q := by rw [show p = q from funext h]
/-- Days and Differ as the core tells them. -/
theorem days_f (l : List Rec) (a1 : Int) (a2 : ByteArray) (v known : Int) (hl : l.length ≤ 400) : facts_Days.f l a1 a2 v known = some (if argB l a1 a2 [known] then (recF.wh (ownS l a1 a2) (recF.dayP (ownS l a1 a2) v known), 0) else ([], 1)) := by
  unfold facts_Days.f
  rw [if_pos (by omega)]
  split
  · rename_i h
    rw [where_F _ (own_days h) (Nat.le_trans (own_len l a1 a2) hl), wh_congr _ _ _ (dayQ_eq _ v known)]
  · rfl
theorem differ_f (l : List Rec) (a1 : Int) (a2 : ByteArray) (a b : Int) (hl : l.length ≤ 400) : facts_Differ.f l a1 a2 a b = some (if argB l a1 a2 [a, b] then (recF.wh (ownS l a1 a2) (recF.difP (ownS l a1 a2) a b), 0) else ([], 1)) := by
  unfold facts_Differ.f
  rw [if_pos (by omega)]
  split
  · rename_i h
    rw [where_F _ (own_days h) (Nat.le_trans (own_len l a1 a2) hl), wh_congr _ _ _ (difQ_eq _ a b)]
  · rfl
theorem value_f (l : List Rec) (a1 : Int) (a2 : ByteArray) (d known : Int) (hl : l.length < 4398046511104) : facts_Value.f l a1 a2 d known = some (if argB l a1 a2 [d, known] then ((recF.on (ownS l a1 a2) d known).1, (recF.on (ownS l a1 a2) d known).2, 0) else (0, false, 1)) := by
  unfold facts_Value.f
  rw [if_pos hl, onF_on]
/-! ### evaluation -/
theorem wh_eval (zs : List Rec) (hd : recF.Days zs) (q : Int → Bool) : recF.wh zs q = (partsS q ((zs.flatMap fun x => [x.f3.f0, x.f3.f1]).foldl putL [0, 36525])).foldl joinS [] := by
  have hp := puts_ok (zs.flatMap fun x => [x.f3.f0, x.f3.f1]) [0, 36525] (by simp)
  have hc := recF.cuts_fact zs
  have e : recF.cuts zs = (zs.flatMap fun x => [x.f3.f0, x.f3.f1]).foldl putL [0, 36525] := by
    refine cuts_ext _ _ hc.1 hp.1 fun z => ?_
    rw [hc.2, hp.2]
    simp only [List.mem_flatMap, List.mem_cons, List.not_mem_nil, or_false]
    rfl
  rw [← e, join_norm q _ hc.1 (recF.cuts_in zs hd)]
  rfl
end Go.Proofs.YthcjocojngochaaGreatDoor.Pure

