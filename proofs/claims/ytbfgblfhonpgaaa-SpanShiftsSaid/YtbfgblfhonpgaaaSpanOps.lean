/- What the operations give where nothing is refused. No Go and no memory in it. -/
import Derived.Test.YtbfgblfhonpgaaaSpanCount
import Derived.Test.YtbfgblfhonpgaaaXx16
namespace Go.Proofs.Ytbfgblfhonpgaaa.Pure
open Go.RowKit Go.Proofs.Ytbfgblfhonpgaaa.X Go.Proofs.YtbfgblfhonpgaaaW.PrintWords

def U (a b : List S30) : List S30 := sw (fun x y => x || y) a b
def M (a b : List S30) : List S30 := sw (fun x y => x && y) a b
def D (a b : List S30) : List S30 := sw (fun x y => x && !y) a b
theorem U_ok {a b : List S30} (ha : IsSet a) (hb : IsSet b) (hl : a.length + b.length ≤ 1000) : IsSet (U a b) ∧ (U a b).length ≤ a.length + b.length ∧ ∀ d, mem (U a b) d = (mem a d || mem b d) := by
  obtain ⟨h1, h2⟩ := sw_ap (fun x y => x || y) rfl a b ha.1 hb.1
  have h3 := or_len a b ha.1 hb.1
  exact ⟨⟨h1, Nat.le_trans h3 hl⟩, h3, h2⟩
theorem M_ok {a b : List S30} (ha : IsSet a) (hb : IsSet b) (hl : a.length + b.length ≤ 1000) : IsSet (M a b) ∧ (M a b).length ≤ a.length + b.length ∧ ∀ d, mem (M a b) d = (mem a d && mem b d) := by
  obtain ⟨h1, h2⟩ := sw_ap (fun x y => x && y) rfl a b ha.1 hb.1
  have h3 := and_len a b ha.1 hb.1
  exact ⟨⟨h1, Nat.le_trans h3 hl⟩, h3, h2⟩
theorem D_ok {a b : List S30} (ha : IsSet a) (hb : IsSet b) (hl : a.length + b.length ≤ 1000) : IsSet (D a b) ∧ (D a b).length ≤ a.length + b.length ∧ ∀ d, mem (D a b) d = (mem a d && !mem b d) := by
  obtain ⟨h1, h2⟩ := sw_ap (fun x y => x && !y) rfl a b ha.1 hb.1
  have h3 := not_len a b ha.1 hb.1
  exact ⟨⟨h1, Nat.le_trans h3 hl⟩, h3, h2⟩
theorem op_some (kf : Bool → Bool → Bool) (k : Nat) (a b : List S30) (ha : IsSet a) (hb : IsSet b) (hk : 1000 < k) (h : (sw kf a b).length ≤ 1000) : sweepO kf k a b = some (sw kf a b, 0) := by
  have := ha.2
  have := hb.2
  rw [sweepO_eq kf k a b (by omega) (by omega) (by omega) (by omega), if_pos ⟨tr_of ha, tr_of hb⟩, lim_small h]
theorem du (k : Nat) (a b : List S30) (ha : IsSet a) (hb : IsSet b) (hl : a.length + b.length ≤ 1000) (hk : 1000 < k) : cohousinglaw04_done_Union.f k true a b = some (U a b, true) := by
  show doneO (sweepO (fun x y => x || y) k a b) true = _
  rw [op_some _ k a b ha hb hk (U_ok ha hb hl).1.2]
  rfl
theorem dm (k : Nat) (a b : List S30) (ha : IsSet a) (hb : IsSet b) (hl : a.length + b.length ≤ 1000) (hk : 1000 < k) : cohousinglaw04_done_Meet.f k true a b = some (M a b, true) := by
  show doneO (sweepO (fun x y => x && y) k a b) true = _
  rw [op_some _ k a b ha hb hk (M_ok ha hb hl).1.2]
  rfl
theorem dd (k : Nat) (a b : List S30) (ha : IsSet a) (hb : IsSet b) (hl : a.length + b.length ≤ 1000) (hk : 1000 < k) : cohousinglaw04_done_Without.f k true a b = some (D a b, true) := by
  show doneO (sweepO (fun x y => x && !y) k a b) true = _
  rw [op_some _ k a b ha hb hk (D_ok ha hb hl).1.2]
  rfl
theorem same_sets (k : Nat) (a b : List S30) (ha : IsSet a) (hb : IsSet b) (hk : 1000 < k) (h : ∀ d, mem a d = mem b d) : cohousingref04_Same.f k a b = some true := by
  have := ha.2
  rw [same_eq a b k (by omega) (by omega), tr_of (apart_ext a b ha.1 hb.1 h)]
end Go.Proofs.Ytbfgblfhonpgaaa.Pure

