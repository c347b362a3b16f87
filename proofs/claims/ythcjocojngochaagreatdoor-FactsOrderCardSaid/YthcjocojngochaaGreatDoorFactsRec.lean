/- Facts, over any type of records whose fields are told: what is known on a day, and the days of `where`. No Go and no memory in it. -/
import Derived.Test.YthcjocojngochaaGreatDoorSpanSweep
import Derived.Test.YthcjocojngochaaGreatDoorFactsSpan
namespace Go.Proofs.YthcjocojngochaaGreatDoor.Pure
open Go.RowKit Go.Proofs.YthcjocojngochaaGreatDoor.X Go.Proofs.YthcjocojngochaaGreatDoorW.PrintWords
set_option linter.unusedVariables false
/-- The fields of a record. -/
structure Fld (α : Type) where
  home : α → Int
  name : α → ByteArray
  value : α → Int
  frm : α → Int
  til : α → Int
  known : α → Int
  gone : α → Bool
variable {α : Type}
/-- A record counts on a day, as known on a day. -/
def Fld.cnt (F : Fld α) (known d : Int) (x : α) : Bool := decide (F.known x ≤ known) && (decide (F.frm x ≤ d) && decide (d < F.til x))
/-- What is known of a day, by the own records in the order of the register. -/
def Fld.on (F : Fld α) (s : List α) (d known : Int) : Int × Bool :=
  match lastP (F.cnt known d) s with
  | some x => (F.value x, !F.gone x)
  | none => (0, false)
def Fld.cuts (F : Fld α) (s : List α) : List Int := endsF [⟨0, 36525⟩] (s.map fun x => ⟨F.frm x, F.til x⟩)
theorem Fld.cuts_fact (F : Fld α) (s : List α) : (F.cuts s).Pairwise (· < ·) ∧ ∀ x, x ∈ F.cuts s ↔ (x = 0 ∨ x = 36525) ∨ ∃ y ∈ s, x = F.frm y ∨ x = F.til y := by
  obtain ⟨h1, h2⟩ := ends_fact [⟨0, 36525⟩] (s.map fun x => (⟨F.frm x, F.til x⟩ : S24))
  refine ⟨h1, fun x => ?_⟩
  unfold Fld.cuts
  rw [h2]
  constructor
  · rintro (⟨y, hy, e⟩ | ⟨y, hy, e⟩)
    · rw [List.mem_singleton.1 hy] at e; exact .inl e
    · obtain ⟨z, hz, rfl⟩ := List.mem_map.1 hy; exact .inr ⟨z, hz, e⟩
  · rintro (e | ⟨y, hy, e⟩)
    · exact .inl ⟨_, List.mem_singleton.2 rfl, e⟩
    · exact .inr ⟨_, List.mem_map.2 ⟨y, hy, rfl⟩, e⟩
/-- The records' days lie in the calendar. -/
def Fld.Days (F : Fld α) (s : List α) : Prop := ∀ x ∈ s, 0 ≤ F.frm x ∧ F.frm x < F.til x ∧ F.til x ≤ 36525
theorem Fld.cuts_in (F : Fld α) (s : List α) (h : F.Days s) : ∀ x ∈ F.cuts s, 0 ≤ x ∧ x ≤ 36525 := by
  intro x hx
  rcases ((F.cuts_fact s).2 x).1 hx with (h | h) | ⟨y, hy, e⟩
  · omega
  · omega
  · have := h y hy
    omega
theorem low_head (l : List Int) (hs : l.Pairwise (· < ·)) (a : Int) (ha : a ∈ l) (h : ∀ x ∈ l, a ≤ x) : ∃ c, l = a :: c := by
  cases l with
  | nil => cases ha
  | cons b c =>
    rcases List.mem_cons.1 ha with rfl | hc
    · exact ⟨c, rfl⟩
    · have := (List.pairwise_cons.1 hs).1 a hc
      have := h b (by simp)
      omega
theorem high_last (l : List Int) (hn : l ≠ []) (hs : l.Pairwise (· < ·)) (z : Int) (hz : z ∈ l) (h : ∀ x ∈ l, x ≤ z) : l.getLast hn = z := by
  rcases List.eq_nil_or_concat l with rfl | ⟨o, t, e⟩
  · exact absurd rfl hn
  · rw [List.concat_eq_append] at e
    subst e
    rw [List.getLast_concat]
    rcases List.mem_append.1 hz with hz | hz
    · have := (List.pairwise_append.1 hs).2.2 z hz t (by simp)
      have := h t (by simp)
      omega
    · exact (List.mem_singleton.1 hz).symm
/-- What is known changes at cuts alone. -/
theorem Fld.on_between (F : Fld α) (s : List α) (known u v : Int) (huv : u ≤ v) (h : ∀ x ∈ F.cuts s, ¬ (u < x ∧ x ≤ v)) : F.on s u known = F.on s v known := by
  have e : lastP (F.cnt known u) s = lastP (F.cnt known v) s :=
    last_between F.frm F.til (fun x => decide (F.known x ≤ known)) s u v huv fun x hx =>
      ⟨h _ (((F.cuts_fact s).2 _).2 (.inr ⟨x, hx, .inl rfl⟩)), h _ (((F.cuts_fact s).2 _).2 (.inr ⟨x, hx, .inr rfl⟩))⟩
  unfold Fld.on
  rw [e]
/-- What `where` returns for a test of what is known. -/
def Fld.wh (F : Fld α) (s : List α) (q : Int → Bool) : List S24 := normL (partsS q (F.cuts s))
theorem Fld.wh_days (F : Fld α) (s : List α) (hd : F.Days s) (q : Int × Bool → Int × Bool → Bool) (a b d : Int) :
    mem (F.wh s fun d => q (F.on s d a) (F.on s d b)) d = true ↔ 0 ≤ d ∧ d < 36525 ∧ q (F.on s d a) (F.on s d b) = true := by
  obtain ⟨c1, c2⟩ := F.cuts_fact s
  have c3 := F.cuts_in s hd
  obtain ⟨c, hc⟩ := low_head (F.cuts s) c1 0 ((c2 0).2 (.inl (.inl rfl))) fun x hx => (c3 x hx).1
  have hl := high_last (F.cuts s) (by rw [hc]; simp) c1 36525 ((c2 _).2 (.inl (.inr rfl))) fun x hx => (c3 x hx).2
  have hb : ∀ (known u v : Int), (∀ x ∈ F.cuts s, ¬ (u < x ∧ x ≤ v)) → u ≤ v → F.on s u known = F.on s v known := fun known u v h1 h2 => F.on_between s known u v h2 h1
  unfold Fld.wh
  generalize F.cuts s = l at *
  subst hc
  rw [where_days _ 0 c c1 c3 (fun u v h1 h2 _ _ => by
    show q (F.on s u a) (F.on s u b) = q (F.on s v a) (F.on s v b)
    rw [hb a u v h1 h2, hb b u v h1 h2]), hl]
theorem Fld.wh_apart (F : Fld α) (s : List α) (hd : F.Days s) (q : Int → Bool) : Apart (F.wh s q) :=
  (norm_ok _ (partsS_str q _ (F.cuts_fact s).1 (F.cuts_in s hd))).1
/-- Own records in another order, or some of them twice: the cuts stay. -/
theorem Fld.cuts_same (F : Fld α) (s t : List α) (h : ∀ x, x ∈ s ↔ x ∈ t) : F.cuts s = F.cuts t := by
  refine cuts_ext _ _ (F.cuts_fact s).1 (F.cuts_fact t).1 fun z => ?_
  rw [(F.cuts_fact s).2, (F.cuts_fact t).2]
  constructor
  · rintro (e | ⟨y, hy, e⟩)
    · exact .inl e
    · exact .inr ⟨y, (h y).1 hy, e⟩
  · rintro (e | ⟨y, hy, e⟩)
    · exact .inl e
    · exact .inr ⟨y, (h y).2 hy, e⟩
theorem Fld.on_same (F : Fld α) {lt : α → α → Bool} (L : Lin lt) (s t : List α) (hs : s.Pairwise (fun a b => lt b a = false)) (ht : t.Pairwise (fun a b => lt b a = false)) (h : ∀ x, x ∈ s ↔ x ∈ t) (d known : Int) : F.on s d known = F.on t d known := by
  unfold Fld.on
  rw [lastP_same L _ s t hs ht fun z _ => h z]
/-- No record known behind the one day and up to the other counts on this day: both know the same. -/
theorem Fld.on_quiet (F : Fld α) (s : List α) (d a b : Int) (h : ∀ x ∈ s, F.frm x ≤ d → d < F.til x → (F.known x ≤ a ↔ F.known x ≤ b)) : F.on s d a = F.on s d b := by
  have e : lastP (F.cnt a d) s = lastP (F.cnt b d) s := lastP_congr _ _ s fun x hx => by
    unfold Fld.cnt
    by_cases h1 : F.frm x ≤ d
    · by_cases h2 : d < F.til x
      · rw [decide_eq_decide.2 (h x hx h1 h2)]
      · simp [h2]
    · simp [h1]
  unfold Fld.on
  rw [e]
end Go.Proofs.YthcjocojngochaaGreatDoor.Pure

