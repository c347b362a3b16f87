/- The law's own example. No Go and no memory in it. -/
import Derived.Test.YtbfgblfhonpgaaaSpanBase
namespace Go.Proofs.Ytbfgblfhonpgaaa.Pure
open Go.RowKit Go.Proofs.Ytbfgblfhonpgaaa.X Go.Proofs.YtbfgblfhonpgaaaW.PrintWords
theorem norm_is (l m : List S30) (hs : l.all strB = true) (hm : IsSet m) (he : ∀ d, mem m d = mem l d) : normF l = (m, 0) := by
  rw [normF_eq, if_pos hs]
  obtain ⟨a1, a2⟩ := norm_ok l (List.all_eq_true.mp hs)
  rw [apart_ext _ m a1 hm.1 (fun d => by rw [a2, he])]
  exact lim_small hm.2
theorem sw_fact (kf : Bool → Bool → Bool) (h0 : kf false false = false) (a b : List S30) (ha : IsSet a) (hb : IsSet b) : Apart (sw kf a b) ∧ ∀ d, mem (sw kf a b) d = kf (mem a d) (mem b d) := sweep_fact kf h0 a b ha.1 hb.1
theorem sw_is (kf : Bool → Bool → Bool) (h0 : kf false false = false) (k : Nat) (a b m : List S30) (ha : IsSet a) (hb : IsSet b) (hm : IsSet m) (he : ∀ d, mem m d = kf (mem a d) (mem b d)) (ka : a.length < k) (kb : b.length < k) : sweepO kf k a b = some (m, 0) := by
  have := ha.2
  have := hb.2
  rw [sweepO_eq kf k a b (by omega) (by omega) ka kb, if_pos ⟨tr_of ha, tr_of hb⟩]
  obtain ⟨a1, a2⟩ := sw_fact kf h0 a b ha hb
  rw [apart_ext _ m a1 hm.1 (fun d => by rw [a2, he]), lim_small hm.2]
theorem set1 (a b : Int) (h : strB ⟨a, b⟩ = true) : IsSet [⟨a, b⟩] := ⟨⟨by intro s hs; rw [List.mem_singleton.mp hs]; exact h, by simp⟩, by simp⟩
theorem set2 (a b c d : Int) (h : strB ⟨a, b⟩ = true) (k : strB ⟨c, d⟩ = true) (hl : b < c) : IsSet [⟨a, b⟩, ⟨c, d⟩] :=
  ⟨⟨by intro s hs; rcases List.mem_cons.mp hs with rfl | hs; · exact h
       · rw [List.mem_singleton.mp hs]; exact k, by simpa using hl⟩, by simp⟩
theorem head_ok : cohousinglaw04_head.f 20 = some true := by
  have n1 : span_Normal.f (([(⟨5, 8⟩ : S30), (⟨1, 3⟩ : S30), (⟨3, 4⟩ : S30)] : List (S30))) = some ([⟨1, 4⟩, ⟨5, 8⟩], 0) := by
    rw [norm_eq _ (by simp), norm_is _ [⟨1, 4⟩, ⟨5, 8⟩] (by decide) (set2 _ _ _ _ (by decide) (by decide) (by decide)) ?_]
    intro d
    rw [Bool.eq_iff_iff]
    simp [mem, dayIn]
    omega
  have n2 : span_Normal.f (([(⟨3, 3⟩ : S30)] : List (S30))) = some ([], 1) := by
    rw [norm_eq _ (by simp), normF_eq, if_neg (by decide)]
  have u : span_Union.f 20 (([(⟨1, 3⟩ : S30)] : List (S30))) (([(⟨3, 5⟩ : S30)] : List (S30))) = some ([⟨1, 5⟩], 0) := by
    refine sw_is (fun x y => x || y) rfl 20 _ _ _ (set1 _ _ (by decide)) (set1 _ _ (by decide)) (set1 _ _ (by decide)) ?_ (by simp) (by simp)
    intro d
    rw [Bool.eq_iff_iff]
    simp [mem, dayIn]
    omega
  have m : span_Meet.f 20 (([(⟨1, 3⟩ : S30)] : List (S30))) (([(⟨3, 5⟩ : S30)] : List (S30))) = some ([], 0) := by
    refine sw_is (fun x y => x && y) rfl 20 _ _ _ (set1 _ _ (by decide)) (set1 _ _ (by decide)) ⟨Apart.nil, by simp⟩ ?_ (by simp) (by simp)
    intro d
    rw [Bool.eq_iff_iff]
    simp [mem, dayIn]
    omega
  have w : span_Without.f 20 (([(⟨1, 9⟩ : S30)] : List (S30))) (([(⟨3, 5⟩ : S30)] : List (S30))) = some ([⟨1, 3⟩, ⟨5, 9⟩], 0) := by
    refine sw_is (fun x y => x && !y) rfl 20 _ _ _ (set1 _ _ (by decide)) (set1 _ _ (by decide)) (set2 _ _ _ _ (by decide) (by decide) (by decide)) ?_ (by simp) (by simp)
    intro d
    rw [Bool.eq_iff_iff]
    simp [mem, dayIn]
    omega
  have c : span_Count.f 20 (([(⟨1, 3⟩ : S30), (⟨5, 9⟩ : S30)] : List (S30))) = some (6, 0) := by kernel_rfl
  have v : span_Valid.f 20 (([(⟨1, 3⟩ : S30), (⟨3, 5⟩ : S30)] : List (S30))) = some false := by kernel_rfl
  have s : ∀ l : List S30, l.length < 20 → cohousingref04_Same.f 20 l l = some true := fun l h => by rw [same_eq l l 20 (by omega) h, tr_of rfl]
  unfold cohousinglaw04_head.f
  rw [n1, n2, u, m, w, c]
  simp only [Option.bind_some]
  rw [s _ (by simp), s _ (by simp), s _ (by simp), v]
  simp
end Go.Proofs.Ytbfgblfhonpgaaa.Pure

