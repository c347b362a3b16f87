-- Written by a program of mine (wip/tools/xprint.py) over the kit's print.py: printed functions and hand-proved ones side by side.
import Derived.Test.YteifflpjhlgpjaaDoorXx0
import Derived.Test.YteifflpjhlgpjaaDoorXx1
import Derived.Test.YteifflpjhlgpjaaDoorXx2
import Derived.Test.YteifflpjhlgpjaaDoorXx4
import Derived.Test.YteifflpjhlgpjaaDoorXx5
namespace Go.Proofs.YteifflpjhlgpjaaDoor.X
open Go.RowKit Go.Proofs.YteifflpjhlgpjaaDoorW.PrintWords Go.Proofs.YteifflpjhlgpjaaDoorW.PrintLast Go.Proofs.YteifflpjhlgpjaaDoorW.PrintMore
attribute [local go_sem] max2_int min2_int max_two min_two max_three min_three max_four min_four   -- for this text's walks alone
set_option linter.unusedVariables false
set_option linter.unusedSimpArgs false

attribute [local go_sem high] eqA24
/-! ### cohousinglaw01_RationalProducts: function 4 -/
mutual
def cohousinglaw01_RationalProducts.j0 : Nat → Bool → Int → Bool → Int → Int → Int → Int → Int → Int → Int → Int → Option (Bool)
 | 0, _, _, _, _, _, _, _, _, _, _, _ => none
 | k + 1, x7, x9, x57, x170000, x170001, x171000, x171001, x172000, x172001, x181000, x181001 => if x57 = true then (none) else (if x9 = 0 then ((rational_Div.f x181000 x181001 x171000 x171001).bind fun bt185 => (if x171000 = 0 then (if bt185.2.2 = 7 then (cohousinglaw01_RationalProducts.j1 k x7 false x170000 x170001 x171000 x171001 x172000 x172001 x181000 x181001) else (cohousinglaw01_RationalProducts.j1 k x7 true x170000 x170001 x171000 x171001 x172000 x172001 x181000 x181001)) else (if bt185.2.2 = 0 then (cohousinglaw01_RationalProducts.j1 k x7 (!(bt185.1 == x170000) || (!(bt185.2.1 == x170001))) x170000 x170001 x171000 x171001 x172000 x172001 x181000 x181001) else (cohousinglaw01_RationalProducts.j1 k x7 true x170000 x170001 x171000 x171001 x172000 x172001 x181000 x181001)))) else (if x7 = true then (some true) else (none)))
def cohousinglaw01_RationalProducts.j1 : Nat → Bool → Bool → Int → Int → Int → Int → Int → Int → Int → Int → Option (Bool)
 | 0, _, _, _, _, _, _, _, _, _, _ => none
 | k + 1, x7, x87, x170000, x170001, x171000, x171001, x172000, x172001, x181000, x181001 => if x87 = true then (none) else ((rational_Mul.f x171000 x171001 x172000 x172001).bind fun bt189 => ((rational_Mul.f x181000 x181001 x172000 x172001).bind fun bt193 => ((rational_Mul.f x170000 x170001 bt189.1 bt189.2.1).bind fun bt197 => (if bt189.2.2 = 0 then (if bt193.2.2 = 0 then (if bt197.2.2 = 0 then (cohousinglaw01_RationalProducts.j2 k x7 (!(bt193.1 == bt197.1) || (!(bt193.2.1 == bt197.2.1))) x170000 x170001 x171000 x171001 x172000 x172001 x181000 x181001) else (cohousinglaw01_RationalProducts.j2 k x7 false x170000 x170001 x171000 x171001 x172000 x172001 x181000 x181001)) else (cohousinglaw01_RationalProducts.j2 k x7 false x170000 x170001 x171000 x171001 x172000 x172001 x181000 x181001)) else (cohousinglaw01_RationalProducts.j2 k x7 false x170000 x170001 x171000 x171001 x172000 x172001 x181000 x181001)))))
def cohousinglaw01_RationalProducts.j2 : Nat → Bool → Bool → Int → Int → Int → Int → Int → Int → Int → Int → Option (Bool)
 | 0, _, _, _, _, _, _, _, _, _, _ => none
 | k + 1, x7, x120, x170000, x170001, x171000, x171001, x172000, x172001, x181000, x181001 => if x120 = true then (none) else ((rational_Add.f x171000 x171001 x172000 x172001).bind fun bt201 => ((rational_Mul.f x170000 x170001 bt201.1 bt201.2.1).bind fun bt204 => ((rational_Mul.f x170000 x170001 x172000 x172001).bind fun bt207 => ((rational_Add.f x181000 x181001 bt207.1 bt207.2.1).bind fun bt211 => (if x7 = true then (if bt201.2.2 = 0 then (if bt204.2.2 = 0 then (if bt207.2.2 = 0 then (if bt211.2.2 = 0 then (if (bt204.1 == bt211.1 && (bt204.2.1 == bt211.2.1)) = true then (some true) else (none)) else (some true)) else (some true)) else (some true)) else (some true)) else (none))))))
end
def cohousinglaw01_RationalProducts.f (k : Nat) (a0_0 : Int) (a0_1 : Int) (a1_0 : Int) (a1_1 : Int) (a2_0 : Int) (a2_1 : Int) : Option (Bool) := (cohousinglaw01_head.f k).bind fun t172 => ((cohousinglaw01_numbers.f k (([(⟨a0_0, a0_1⟩ : S24), (⟨a1_0, a1_1⟩ : S24), (⟨a2_0, a2_1⟩ : S24)] : List (S24)))).bind fun t176 => (if t176 = true then ((rational_Mul.f a0_0 a0_1 a1_0 a1_1).bind fun bt177 => ((rational_Mul.f a1_0 a1_1 a0_0 a0_1).bind fun bt181 => (if (!(bt177.1 == bt181.1) || (!(bt177.2.1 == bt181.2.1))) = true then (cohousinglaw01_RationalProducts.j0 k t172 bt177.2.2 true a0_0 a0_1 a1_0 a1_1 a2_0 a2_1 bt177.1 bt177.2.1) else (if bt177.2.2 = bt181.2.2 then (if bt177.2.2 = 0 then (cohousinglaw01_RationalProducts.j0 k t172 bt177.2.2 false a0_0 a0_1 a1_0 a1_1 a2_0 a2_1 bt177.1 bt177.2.1) else (cohousinglaw01_RationalProducts.j0 k t172 bt177.2.2 (bt177.2.2 != 3) a0_0 a0_1 a1_0 a1_1 a2_0 a2_1 bt177.1 bt177.2.1)) else (cohousinglaw01_RationalProducts.j0 k t172 bt177.2.2 true a0_0 a0_1 a1_0 a1_1 a2_0 a2_1 bt177.1 bt177.2.1))))) else (if t172 = true then (some true) else (none))))
theorem cohousinglaw01_RationalProducts.mono_l : ∀ k, (∀ y0 y1 y2 y3 y4 y5 y6 y7 y8 y9 y10, LeO (cohousinglaw01_RationalProducts.j0 k y0 y1 y2 y3 y4 y5 y6 y7 y8 y9 y10) (cohousinglaw01_RationalProducts.j0 (k + 1) y0 y1 y2 y3 y4 y5 y6 y7 y8 y9 y10)) ∧ (∀ y0 y1 y2 y3 y4 y5 y6 y7 y8 y9, LeO (cohousinglaw01_RationalProducts.j1 k y0 y1 y2 y3 y4 y5 y6 y7 y8 y9) (cohousinglaw01_RationalProducts.j1 (k + 1) y0 y1 y2 y3 y4 y5 y6 y7 y8 y9)) ∧ (∀ y0 y1 y2 y3 y4 y5 y6 y7 y8 y9, LeO (cohousinglaw01_RationalProducts.j2 k y0 y1 y2 y3 y4 y5 y6 y7 y8 y9) (cohousinglaw01_RationalProducts.j2 (k + 1) y0 y1 y2 y3 y4 y5 y6 y7 y8 y9))
 | 0 => ⟨fun _ _ _ _ _ _ _ _ _ _ _ r h => by simp [cohousinglaw01_RationalProducts.j0] at h, fun _ _ _ _ _ _ _ _ _ _ r h => by simp [cohousinglaw01_RationalProducts.j1] at h, fun _ _ _ _ _ _ _ _ _ _ r h => by simp [cohousinglaw01_RationalProducts.j2] at h⟩
 | k + 1 => by
  obtain ⟨ih0, ih1, ih2⟩ := cohousinglaw01_RationalProducts.mono_l k
  refine ⟨?_, ?_, ?_⟩
  ·intro y0 y1 y2 y3 y4 y5 y6 y7 y8 y9 y10
   unfold cohousinglaw01_RationalProducts.j0
   repeat' first
   | (with_reducible exact ih0 _ _ _ _ _ _ _ _ _ _ _)
   | (with_reducible exact ih1 _ _ _ _ _ _ _ _ _ _)
   | (with_reducible exact ih2 _ _ _ _ _ _ _ _ _ _)
   | (with_reducible exact cohousinglaw01_head.mono _)
   | (with_reducible exact cohousinglaw01_numbers.mono _ _)
   | (with_reducible exact LeO.refl _)
   | (with_reducible exact LeO.none _)
   | (with_reducible refine LeO.ite ?_ ?_)
   | (with_reducible refine LeO.bind ?_ (fun _ => ?_))
   | exact ih0 _ _ _ _ _ _ _ _ _ _ _
   | exact ih1 _ _ _ _ _ _ _ _ _ _
   | exact ih2 _ _ _ _ _ _ _ _ _ _
   | exact cohousinglaw01_head.mono _
   | exact cohousinglaw01_numbers.mono _ _
   | exact LeO.none _
   | refine LeO.ite ?_ ?_
   | refine LeO.bind ?_ (fun _ => ?_)
  ·intro y0 y1 y2 y3 y4 y5 y6 y7 y8 y9
   unfold cohousinglaw01_RationalProducts.j1
   repeat' first
   | (with_reducible exact ih0 _ _ _ _ _ _ _ _ _ _ _)
   | (with_reducible exact ih1 _ _ _ _ _ _ _ _ _ _)
   | (with_reducible exact ih2 _ _ _ _ _ _ _ _ _ _)
   | (with_reducible exact cohousinglaw01_head.mono _)
   | (with_reducible exact cohousinglaw01_numbers.mono _ _)
   | (with_reducible exact LeO.refl _)
   | (with_reducible exact LeO.none _)
   | (with_reducible refine LeO.ite ?_ ?_)
   | (with_reducible refine LeO.bind ?_ (fun _ => ?_))
   | exact ih0 _ _ _ _ _ _ _ _ _ _ _
   | exact ih1 _ _ _ _ _ _ _ _ _ _
   | exact ih2 _ _ _ _ _ _ _ _ _ _
   | exact cohousinglaw01_head.mono _
   | exact cohousinglaw01_numbers.mono _ _
   | exact LeO.none _
   | refine LeO.ite ?_ ?_
   | refine LeO.bind ?_ (fun _ => ?_)
  ·intro y0 y1 y2 y3 y4 y5 y6 y7 y8 y9
   unfold cohousinglaw01_RationalProducts.j2
   repeat' first
   | (with_reducible exact ih0 _ _ _ _ _ _ _ _ _ _ _)
   | (with_reducible exact ih1 _ _ _ _ _ _ _ _ _ _)
   | (with_reducible exact ih2 _ _ _ _ _ _ _ _ _ _)
   | (with_reducible exact cohousinglaw01_head.mono _)
   | (with_reducible exact cohousinglaw01_numbers.mono _ _)
   | (with_reducible exact LeO.refl _)
   | (with_reducible exact LeO.none _)
   | (with_reducible refine LeO.ite ?_ ?_)
   | (with_reducible refine LeO.bind ?_ (fun _ => ?_))
   | exact ih0 _ _ _ _ _ _ _ _ _ _ _
   | exact ih1 _ _ _ _ _ _ _ _ _ _
   | exact ih2 _ _ _ _ _ _ _ _ _ _
   | exact cohousinglaw01_head.mono _
   | exact cohousinglaw01_numbers.mono _ _
   | exact LeO.none _
   | refine LeO.ite ?_ ?_
   | refine LeO.bind ?_ (fun _ => ?_)
theorem cohousinglaw01_RationalProducts.mono : ∀ a0 a1 a2 a3 a4 a5 k, LeO (cohousinglaw01_RationalProducts.f k a0 a1 a2 a3 a4 a5) (cohousinglaw01_RationalProducts.f (k + 1) a0 a1 a2 a3 a4 a5) := by
 intro a0 a1 a2 a3 a4 a5 k
 obtain ⟨ih0, ih1, ih2⟩ := cohousinglaw01_RationalProducts.mono_l k
 unfold cohousinglaw01_RationalProducts.f
 repeat' first
   | (with_reducible exact ih0 _ _ _ _ _ _ _ _ _ _ _)
   | (with_reducible exact ih1 _ _ _ _ _ _ _ _ _ _)
   | (with_reducible exact ih2 _ _ _ _ _ _ _ _ _ _)
   | (with_reducible exact cohousinglaw01_head.mono _)
   | (with_reducible exact cohousinglaw01_numbers.mono _ _)
   | (with_reducible exact LeO.refl _)
   | (with_reducible exact LeO.none _)
   | (with_reducible refine LeO.ite ?_ ?_)
   | (with_reducible refine LeO.bind ?_ (fun _ => ?_))
   | exact ih0 _ _ _ _ _ _ _ _ _ _ _
   | exact ih1 _ _ _ _ _ _ _ _ _ _
   | exact ih2 _ _ _ _ _ _ _ _ _ _
   | exact cohousinglaw01_head.mono _
   | exact cohousinglaw01_numbers.mono _ _
   | exact LeO.none _
   | refine LeO.ite ?_ ?_
   | refine LeO.bind ?_ (fun _ => ?_)
set_option maxHeartbeats 8000000 in
set_option maxRecDepth 100000 in
theorem cohousinglaw01_RationalProducts.calls (k : Nat) (a0_0 : Int) (a0_1 : Int) (a1_0 : Int) (a1_1 : Int) (a2_0 : Int) (a2_1 : Int) (r : Bool) (w : World) (hG : GL w) (h : cohousinglaw01_RationalProducts.f k a0_0 a0_1 a1_0 a1_1 a2_0 a2_1 = some r) :
  Calls Tryd.prog 4 #[.agg #[.int .i64 a0_0, .int .i64 a0_1], .agg #[.int .i64 a1_0, .int .i64 a1_1], .agg #[.int .i64 a2_0, .int .i64 a2_1]] w fun e w' => e = .returned (.bool r) ∧ Below w.heap.size w w' := by
 have hu24 := Tryd.underlying24
 have HG := Aside0.mk hG
 clear hG
 have HB := Aside0.mk (Below.refl w.heap.size w)
 have H : ((cohousinglaw01_head.f k).bind fun t172 => ((cohousinglaw01_numbers.f k (([(⟨a0_0, a0_1⟩ : S24), (⟨a1_0, a1_1⟩ : S24), (⟨a2_0, a2_1⟩ : S24)] : List (S24)))).bind fun t176 => (if t176 = true then ((rational_Mul.f a0_0 a0_1 a1_0 a1_1).bind fun bt177 => ((rational_Mul.f a1_0 a1_1 a0_0 a0_1).bind fun bt181 => (if (!(bt177.1 == bt181.1) || (!(bt177.2.1 == bt181.2.1))) = true then (cohousinglaw01_RationalProducts.j0 k t172 bt177.2.2 true a0_0 a0_1 a1_0 a1_1 a2_0 a2_1 bt177.1 bt177.2.1) else (if bt177.2.2 = bt181.2.2 then (if bt177.2.2 = 0 then (cohousinglaw01_RationalProducts.j0 k t172 bt177.2.2 false a0_0 a0_1 a1_0 a1_1 a2_0 a2_1 bt177.1 bt177.2.1) else (cohousinglaw01_RationalProducts.j0 k t172 bt177.2.2 (bt177.2.2 != 3) a0_0 a0_1 a1_0 a1_1 a2_0 a2_1 bt177.1 bt177.2.1)) else (cohousinglaw01_RationalProducts.j0 k t172 bt177.2.2 true a0_0 a0_1 a1_0 a1_1 a2_0 a2_1 bt177.1 bt177.2.1))))) else (if t172 = true then (some true) else (none))))) = some r := h
 clear h
 replace H := Option.bind_eq_some_iff.mp H
 obtain ⟨t172, A40, H⟩ := H
 replace H : ((cohousinglaw01_numbers.f k (([(⟨a0_0, a0_1⟩ : S24), (⟨a1_0, a1_1⟩ : S24), (⟨a2_0, a2_1⟩ : S24)] : List (S24)))).bind fun t176 => (if t176 = true then ((rational_Mul.f a0_0 a0_1 a1_0 a1_1).bind fun bt177 => ((rational_Mul.f a1_0 a1_1 a0_0 a0_1).bind fun bt181 => (if (!(bt177.1 == bt181.1) || (!(bt177.2.1 == bt181.2.1))) = true then (cohousinglaw01_RationalProducts.j0 k t172 bt177.2.2 true a0_0 a0_1 a1_0 a1_1 a2_0 a2_1 bt177.1 bt177.2.1) else (if bt177.2.2 = bt181.2.2 then (if bt177.2.2 = 0 then (cohousinglaw01_RationalProducts.j0 k t172 bt177.2.2 false a0_0 a0_1 a1_0 a1_1 a2_0 a2_1 bt177.1 bt177.2.1) else (cohousinglaw01_RationalProducts.j0 k t172 bt177.2.2 (bt177.2.2 != 3) a0_0 a0_1 a1_0 a1_1 a2_0 a2_1 bt177.1 bt177.2.1)) else (cohousinglaw01_RationalProducts.j0 k t172 bt177.2.2 true a0_0 a0_1 a1_0 a1_1 a2_0 a2_1 bt177.1 bt177.2.1))))) else (if t172 = true then (some true) else (none)))) = some r := H
 have A4 := Aside0.mk A40
 clear A40
 obtain ⟨y173, hy173⟩ : ∃ y_ : List (S24), y_ = (([(⟨a0_0, a0_1⟩ : S24), (⟨a1_0, a1_1⟩ : S24), (⟨a2_0, a2_1⟩ : S24)] : List (S24))) := ⟨_, rfl⟩
 replace H : ((cohousinglaw01_numbers.f k y173).bind fun t176 => (if t176 = true then ((rational_Mul.f a0_0 a0_1 a1_0 a1_1).bind fun bt177 => ((rational_Mul.f a1_0 a1_1 a0_0 a0_1).bind fun bt181 => (if (!(bt177.1 == bt181.1) || (!(bt177.2.1 == bt181.2.1))) = true then (cohousinglaw01_RationalProducts.j0 k t172 bt177.2.2 true a0_0 a0_1 a1_0 a1_1 a2_0 a2_1 bt177.1 bt177.2.1) else (if bt177.2.2 = bt181.2.2 then (if bt177.2.2 = 0 then (cohousinglaw01_RationalProducts.j0 k t172 bt177.2.2 false a0_0 a0_1 a1_0 a1_1 a2_0 a2_1 bt177.1 bt177.2.1) else (cohousinglaw01_RationalProducts.j0 k t172 bt177.2.2 (bt177.2.2 != 3) a0_0 a0_1 a1_0 a1_1 a2_0 a2_1 bt177.1 bt177.2.1)) else (cohousinglaw01_RationalProducts.j0 k t172 bt177.2.2 true a0_0 a0_1 a1_0 a1_1 a2_0 a2_1 bt177.1 bt177.2.1))))) else (if t172 = true then (some true) else (none)))) = some r := by first|(rw [hy173]; with_reducible exact H)|(have H2_ := (Option.bind_some _ _).symm.trans H; rw [hy173]; with_reducible exact H2_)|(have H2_ := (Option.bind_some _ _).symm.trans H; with_reducible exact H2_) | with_reducible exact H|(rw [hy173]; exact H)|exact H
 have Ny173 := Aside0.mk hy173
 clear hy173
 replace H := Option.bind_eq_some_iff.mp H
 obtain ⟨t176, A50, H⟩ := H
 replace H : (if t176 = true then ((rational_Mul.f a0_0 a0_1 a1_0 a1_1).bind fun bt177 => ((rational_Mul.f a1_0 a1_1 a0_0 a0_1).bind fun bt181 => (if (!(bt177.1 == bt181.1) || (!(bt177.2.1 == bt181.2.1))) = true then (cohousinglaw01_RationalProducts.j0 k t172 bt177.2.2 true a0_0 a0_1 a1_0 a1_1 a2_0 a2_1 bt177.1 bt177.2.1) else (if bt177.2.2 = bt181.2.2 then (if bt177.2.2 = 0 then (cohousinglaw01_RationalProducts.j0 k t172 bt177.2.2 false a0_0 a0_1 a1_0 a1_1 a2_0 a2_1 bt177.1 bt177.2.1) else (cohousinglaw01_RationalProducts.j0 k t172 bt177.2.2 (bt177.2.2 != 3) a0_0 a0_1 a1_0 a1_1 a2_0 a2_1 bt177.1 bt177.2.1)) else (cohousinglaw01_RationalProducts.j0 k t172 bt177.2.2 true a0_0 a0_1 a1_0 a1_1 a2_0 a2_1 bt177.1 bt177.2.1))))) else (if t172 = true then (some true) else (none))) = some r := H
 have A5 := Aside0.mk A50
 clear A50
 by_cases c6 : t176 = true
 ·subst c6
  have H1 : ((rational_Mul.f a0_0 a0_1 a1_0 a1_1).bind fun bt177 => ((rational_Mul.f a1_0 a1_1 a0_0 a0_1).bind fun bt181 => (if (!(bt177.1 == bt181.1) || (!(bt177.2.1 == bt181.2.1))) = true then (cohousinglaw01_RationalProducts.j0 k t172 bt177.2.2 true a0_0 a0_1 a1_0 a1_1 a2_0 a2_1 bt177.1 bt177.2.1) else (if bt177.2.2 = bt181.2.2 then (if bt177.2.2 = 0 then (cohousinglaw01_RationalProducts.j0 k t172 bt177.2.2 false a0_0 a0_1 a1_0 a1_1 a2_0 a2_1 bt177.1 bt177.2.1) else (cohousinglaw01_RationalProducts.j0 k t172 bt177.2.2 (bt177.2.2 != 3) a0_0 a0_1 a1_0 a1_1 a2_0 a2_1 bt177.1 bt177.2.1)) else (cohousinglaw01_RationalProducts.j0 k t172 bt177.2.2 true a0_0 a0_1 a1_0 a1_1 a2_0 a2_1 bt177.1 bt177.2.1))))) = some r := by rw [if_pos rfl] at H; exact H
  clear H
  have H := H1
  clear H1
  replace H := Option.bind_eq_some_iff.mp H
  obtain ⟨⟨t177, t178, t179⟩, A70, H⟩ := H
  replace H : ((rational_Mul.f a1_0 a1_1 a0_0 a0_1).bind fun bt181 => (if (!(t177 == bt181.1) || (!(t178 == bt181.2.1))) = true then (cohousinglaw01_RationalProducts.j0 k t172 t179 true a0_0 a0_1 a1_0 a1_1 a2_0 a2_1 t177 t178) else (if t179 = bt181.2.2 then (if t179 = 0 then (cohousinglaw01_RationalProducts.j0 k t172 t179 false a0_0 a0_1 a1_0 a1_1 a2_0 a2_1 t177 t178) else (cohousinglaw01_RationalProducts.j0 k t172 t179 (t179 != 3) a0_0 a0_1 a1_0 a1_1 a2_0 a2_1 t177 t178)) else (cohousinglaw01_RationalProducts.j0 k t172 t179 true a0_0 a0_1 a1_0 a1_1 a2_0 a2_1 t177 t178)))) = some r := H
  have A7 := Aside0.mk A70
  clear A70
  replace H := Option.bind_eq_some_iff.mp H
  obtain ⟨⟨t181, t182, t183⟩, A80, H⟩ := H
  replace H : (if (!(t177 == t181) || (!(t178 == t182))) = true then (cohousinglaw01_RationalProducts.j0 k t172 t179 true a0_0 a0_1 a1_0 a1_1 a2_0 a2_1 t177 t178) else (if t179 = t183 then (if t179 = 0 then (cohousinglaw01_RationalProducts.j0 k t172 t179 false a0_0 a0_1 a1_0 a1_1 a2_0 a2_1 t177 t178) else (cohousinglaw01_RationalProducts.j0 k t172 t179 (t179 != 3) a0_0 a0_1 a1_0 a1_1 a2_0 a2_1 t177 t178)) else (cohousinglaw01_RationalProducts.j0 k t172 t179 true a0_0 a0_1 a1_0 a1_1 a2_0 a2_1 t177 t178))) = some r := H
  have A8 := Aside0.mk A80
  clear A80
  have HC9 := Aside0.mk H
  clear H
  go_enter Tryd.func4, Tryd.ntmps4
  go_upto_region 6 with (first|((with_reducible refine gate_dst (N := 3) rfl ?_); refine box_event ?hg (N := 3) ?hd (cs := #[.int .i64 a0_0, .int .i64 a0_1]) (t := 24) ?hr ?_; (case hd => rfl); (case hg => rfl); (case hr => first|(go_simp; done)|(go_simp; rfl)); intro gb169 hg w10 hbox hb; have n0_ := Aside0.mk (bT (by repeat (first|(with_reducible first|exact HB.out|apply bA|apply bN|apply b1)|exact HB.out)) hb); have n1_ := Aside0.mk (hbox); have n2_ := Aside0.mk ((by rw [hg]; exact (bZ (by repeat (first|(with_reducible first|exact HB.out|apply bA|apply bN|apply b1)|exact HB.out))) : w.heap.size ≤ gb169)); have n3_ := n2_; clear HB; have HB := n0_; have BK169 := n1_; have GW169 := n2_; have GE169 := n3_; clear n0_ n1_ n2_ n3_; clear hb hbox hg)|((with_reducible refine gate_dst (N := 4) rfl ?_); refine box_event ?hg (N := 4) ?hd (cs := #[.int .i64 a1_0, .int .i64 a1_1]) (t := 24) ?hr ?_; (case hd => rfl); (case hg => rfl); (case hr => first|(go_simp; done)|(go_simp; rfl)); intro gb170 hg w11 hbox hb; have n0_ := Aside0.mk (kB (g := gb169) (by (with_reducible repeat first|apply kN|apply kD|apply kA); exact BK169.out) hb); have n1_ := Aside0.mk (bT (by repeat (first|(with_reducible first|exact HB.out|apply bA|apply bN|apply b1|refine bS ?_ GE169.out)|exact HB.out)) hb); have n2_ := Aside0.mk (hbox); have n3_ := Aside0.mk ((by rw [hg]; exact (bZ (by repeat (first|(with_reducible first|exact HB.out|apply bA|apply bN|apply b1|refine bS ?_ GE169.out)|exact HB.out))) : w.heap.size ≤ gb170)); have n4_ := n3_; have n5_ := Aside0.mk ((by rw [hg]; exact Nat.ne_of_lt (blk_lt (g := gb169) (by (with_reducible repeat first|apply kN|apply kD|apply kA); exact BK169.out)) : gb169 ≠ gb170)); have n6_ := Aside0.mk n5_.out.symm; clear BK169; clear HB; have BK169 := n0_; have HB := n1_; have BK170 := n2_; have GW170 := n3_; have GE170 := n4_; have NB169_170 := n5_; have NB170_169 := n6_; clear n0_ n1_ n2_ n3_ n4_ n5_ n6_; clear hb hbox hg)|((with_reducible refine gate_dst (N := 5) rfl ?_); refine box_event ?hg (N := 5) ?hd (cs := #[.int .i64 a2_0, .int .i64 a2_1]) (t := 24) ?hr ?_; (case hd => rfl); (case hg => rfl); (case hr => first|(go_simp; done)|(go_simp; rfl)); intro gb171 hg w12 hbox hb; have n0_ := Aside0.mk (kB (g := gb169) (by (with_reducible repeat first|apply kN|apply kD|apply kA); exact BK169.out) hb); have n1_ := Aside0.mk (kB (g := gb170) (by (with_reducible repeat first|apply kN|apply kD|apply kA); exact BK170.out) hb); have n2_ := Aside0.mk (bT (by repeat (first|(with_reducible first|exact HB.out|apply bA|apply bN|apply b1|refine bS ?_ GE169.out|refine bS ?_ GE170.out)|exact HB.out)) hb); have n3_ := Aside0.mk (hbox); have n4_ := Aside0.mk ((by rw [hg]; exact (bZ (by repeat (first|(with_reducible first|exact HB.out|apply bA|apply bN|apply b1|refine bS ?_ GE169.out|refine bS ?_ GE170.out)|exact HB.out))) : w.heap.size ≤ gb171)); have n5_ := n4_; have n6_ := Aside0.mk ((by rw [hg]; exact Nat.ne_of_lt (blk_lt (g := gb169) (by (with_reducible repeat first|apply kN|apply kD|apply kA); exact BK169.out)) : gb169 ≠ gb171)); have n7_ := Aside0.mk n6_.out.symm; have n8_ := Aside0.mk ((by rw [hg]; exact Nat.ne_of_lt (blk_lt (g := gb170) (by (with_reducible repeat first|apply kN|apply kD|apply kA); exact BK170.out)) : gb170 ≠ gb171)); have n9_ := Aside0.mk n8_.out.symm; clear BK169; clear BK170; clear HB; have BK169 := n0_; have BK170 := n1_; have HB := n2_; have BK171 := n3_; have GW171 := n4_; have GE171 := n5_; have NB169_171 := n6_; have NB171_169 := n7_; have NB170_171 := n8_; have NB171_170 := n9_; clear n0_ n1_ n2_ n3_ n4_ n5_ n6_ n7_ n8_ n9_; clear hb hbox hg)|((with_reducible refine gate_callee (f := 10) rfl ?_); refine goesL_ (some 22) rfl rfl Tryd.func10 (by kernel_rfl) rfl #[] rfl (by (try simp only [List.map_toArray, List.map_cons, List.map_nil]); first | done | rfl|(simp only [List.length_drop, List.length_take]; rfl)) ?_; (with_reducible refine (cohousinglaw01_head.calls k  t172 _ ?side1 A4.out).mono ?_); (case side1 => exact GL.below HG.out (by repeat (first|(with_reducible first|exact HB.out|apply bA|apply bN|apply b1|refine bS ?_ GE169.out|refine bS ?_ GE170.out|refine bS ?_ GE171.out)|exact HB.out))); rintro e w13 ⟨rfl, hb⟩; refine ⟨_, rfl, ?_⟩; have n0_ := Aside0.mk (kB (g := gb169) (by (with_reducible repeat first|apply kN|apply kD|apply kA); exact BK169.out) hb); have n1_ := Aside0.mk (kB (g := gb170) (by (with_reducible repeat first|apply kN|apply kD|apply kA); exact BK170.out) hb); have n2_ := Aside0.mk (kB (g := gb171) (by (with_reducible repeat first|apply kN|apply kD|apply kA); exact BK171.out) hb); have n3_ := Aside0.mk (bT (by repeat (first|(with_reducible first|exact HB.out|apply bA|apply bN|apply b1|refine bS ?_ GE169.out|refine bS ?_ GE170.out|refine bS ?_ GE171.out)|exact HB.out)) hb); clear BK169; clear BK170; clear BK171; clear HB; have BK169 := n0_; have BK170 := n1_; have BK171 := n2_; have HB := n3_; clear n0_ n1_ n2_ n3_; (try clear hb); (try clear hb2); (try clear hk); (try clear hi); have hnb14 := NB169_170.out; have hnc14 := NB170_169.out; have hnb15 := NB169_171.out; have hnc15 := NB171_169.out; have hcz16_0 : w13.cell? ⟨gb169, 0, none⟩ = some (.int .i64 a0_0) := (kC BK169.out 0).trans rfl; have hcz16_1 : w13.cell? ⟨gb169, 1, none⟩ = some (.int .i64 a0_1) := (kC BK169.out 1).trans rfl; have hfz16_0 := blk_frozen BK169.out 0; have hfz16_1 := blk_frozen BK169.out 1; have hnb17 := NB170_171.out; have hnc17 := NB171_170.out; have hcz18_0 : w13.cell? ⟨gb170, 0, none⟩ = some (.int .i64 a1_0) := (kC BK170.out 0).trans rfl; have hcz18_1 : w13.cell? ⟨gb170, 1, none⟩ = some (.int .i64 a1_1) := (kC BK170.out 1).trans rfl; have hfz18_0 := blk_frozen BK170.out 0; have hfz18_1 := blk_frozen BK170.out 1; have hcz19_0 : w13.cell? ⟨gb171, 0, none⟩ = some (.int .i64 a2_0) := (kC BK171.out 0).trans rfl; have hcz19_1 : w13.cell? ⟨gb171, 1, none⟩ = some (.int .i64 a2_1) := (kC BK171.out 1).trans rfl; have hfz19_0 := blk_frozen BK171.out 0; have hfz19_1 := blk_frozen BK171.out 1)|((with_reducible refine gate_dst (N := 26) rfl ?_); refine Kd.R_lit k24 _ 24 ?hg (N := 26) ?hd (xs := ([(⟨a0_0, a0_1⟩ : S24), (⟨a1_0, a1_1⟩ : S24), (⟨a2_0, a2_1⟩ : S24)] : List (S24))) (inner := [.int .i64 a0_0, .int .i64 a0_1, .int .i64 a1_0, .int .i64 a1_1, .int .i64 a2_0, .int .i64 a2_1]) (ok := fun _ => True) (okp := fun _ => True) ?hr ?hp (fun _ hk => hk) trivial (Below.refl _ _) (Nat.le_refl _) (by simp) ?_; (case hd => rfl); (case hg => rfl); (case hr => first|(go_simp; done)|(go_simp; rfl)); (case hp => exact (Reps.c2 (show Kd.M k24 _ _ _ (⟨a0_0, a0_1⟩ : S24) [.int .i64 a0_0, .int .i64 a0_1] from (k24_mkM _ _ _ (⟨a0_0, a0_1⟩ : S24) )) (Reps.c2 (show Kd.M k24 _ _ _ (⟨a1_0, a1_1⟩ : S24) [.int .i64 a1_0, .int .i64 a1_1] from (k24_mkM _ _ _ (⟨a1_0, a1_1⟩ : S24) )) (Reps.c2 (show Kd.M k24 _ _ _ (⟨a2_0, a2_1⟩ : S24) [.int .i64 a2_0, .int .i64 a2_1] from (k24_mkM _ _ _ (⟨a2_0, a2_1⟩ : S24) )) (Reps.none _ _))))); intro v174 w20 ho21 hb hg_ hnew_; clear hg_ hnew_; (first | rw [← Ny173.out] at ho21|(simp only [Int.reduceToNat] at ho21; rw [← Ny173.out] at ho21)); have n0_ := Aside0.mk (Kd.R_lower (Kd.R_newB (Kd.R_newB (Kd.R_newB ho21 (g := gb169) (o := .cells #[.int .i64 a0_0, .int .i64 a0_1] 24 (0, 0)) (by (with_reducible repeat first|apply kN|apply kD|apply kA); exact BK169.out)) (g := gb170) (o := .cells #[.int .i64 a1_0, .int .i64 a1_1] 24 (0, 0)) (by (with_reducible repeat first|apply kN|apply kD|apply kA); exact BK170.out)) (g := gb171) (o := .cells #[.int .i64 a2_0, .int .i64 a2_1] 24 (0, 0)) (by (with_reducible repeat first|apply kN|apply kD|apply kA); exact BK171.out)) (bZ (by repeat (first|(with_reducible first|exact HB.out|apply bA|apply bN|apply b1|refine bS ?_ GE169.out|refine bS ?_ GE170.out|refine bS ?_ GE171.out)|exact HB.out)))); have n1_ := Aside0.mk (kB (g := gb169) (by (with_reducible repeat first|apply kN|apply kD|apply kA); exact BK169.out) hb); have n2_ := Aside0.mk (kB (g := gb170) (by (with_reducible repeat first|apply kN|apply kD|apply kA); exact BK170.out) hb); have n3_ := Aside0.mk (kB (g := gb171) (by (with_reducible repeat first|apply kN|apply kD|apply kA); exact BK171.out) hb); have n4_ := Aside0.mk (bT (by repeat (first|(with_reducible first|exact HB.out|apply bA|apply bN|apply b1|refine bS ?_ GE169.out|refine bS ?_ GE170.out|refine bS ?_ GE171.out)|exact HB.out)) hb); clear BK169; clear BK170; clear BK171; clear HB; have HO175 := n0_; have BK169 := n1_; have BK170 := n2_; have BK171 := n3_; have HB := n4_; clear n0_ n1_ n2_ n3_ n4_; clear hb ho21; obtain ⟨Ao22, co22, eo22⟩ := Kd.R_slice HO175.out; subst eo22)|((with_reducible refine gate_callee (f := 14) rfl ?_); refine goesL_ (some 27) rfl rfl Tryd.func14 (by kernel_rfl) rfl #[.slice Ao22 y173.length co22] rfl (by (try simp only [List.map_toArray, List.map_cons, List.map_nil]); first | done | rfl|(simp only [List.length_drop, List.length_take]; rfl)) ?_; (with_reducible refine (cohousinglaw01_numbers.calls k _ _ y173 true _ ?side1 ?side2 A5.out).mono ?_); (case side1 => repeat (first|exact (Kd.R_reads' HO175.out).2.2|(with_reducible refine Kd.C_alloc ?_ _)|(with_reducible refine Kd.C_drewN ?_ _)|(with_reducible refine Kd.C_drew ?_))); (case side2 => exact (Kd.R_reads' HO175.out).2.1); rintro e w23 ⟨rfl, hb⟩; refine ⟨_, rfl, ?_⟩; have n0_ := Aside0.mk (Kd.R_below (by (with_reducible repeat (first|apply Kd.R_alloc|apply Kd.R_drewN|apply Kd.R_drew)); exact HO175.out) hb); have n1_ := Aside0.mk (kB (g := gb169) (by (with_reducible repeat first|apply kN|apply kD|apply kA); exact BK169.out) hb); have n2_ := Aside0.mk (kB (g := gb170) (by (with_reducible repeat first|apply kN|apply kD|apply kA); exact BK170.out) hb); have n3_ := Aside0.mk (kB (g := gb171) (by (with_reducible repeat first|apply kN|apply kD|apply kA); exact BK171.out) hb); have n4_ := Aside0.mk (bT (by repeat (first|(with_reducible first|exact HB.out|apply bA|apply bN|apply b1|refine bS ?_ GE169.out|refine bS ?_ GE170.out|refine bS ?_ GE171.out)|exact HB.out)) hb); clear HO175; clear BK169; clear BK170; clear BK171; clear HB; have HO175 := n0_; have BK169 := n1_; have BK170 := n2_; have BK171 := n3_; have HB := n4_; clear n0_ n1_ n2_ n3_ n4_; (try clear hb); (try clear hb2); (try clear hk); (try clear hi); have hcz24_0 : w23.cell? ⟨gb169, 0, none⟩ = some (.int .i64 a0_0) := (kC BK169.out 0).trans rfl; have hcz24_1 : w23.cell? ⟨gb169, 1, none⟩ = some (.int .i64 a0_1) := (kC BK169.out 1).trans rfl; have hfz24_0 := blk_frozen BK169.out 0; have hfz24_1 := blk_frozen BK169.out 1; have hcz25_0 : w23.cell? ⟨gb170, 0, none⟩ = some (.int .i64 a1_0) := (kC BK170.out 0).trans rfl; have hcz25_1 : w23.cell? ⟨gb170, 1, none⟩ = some (.int .i64 a1_1) := (kC BK170.out 1).trans rfl; have hfz25_0 := blk_frozen BK170.out 0; have hfz25_1 := blk_frozen BK170.out 1)|((with_reducible refine gate_callee (f := 15) rfl ?_); refine goesL_ (some 33) rfl rfl Tryd.func15 (by kernel_rfl) rfl #[.agg #[.int .i64 a0_0, .int .i64 a0_1], .agg #[.int .i64 a1_0, .int .i64 a1_1]] rfl (by (try simp only [List.map_toArray, List.map_cons, List.map_nil]); first | done | rfl|(simp only [List.length_drop, List.length_take]; rfl)) ?_; (with_reducible refine (rational_Mul.calls a0_0 a0_1 a1_0 a1_1 t177 t178 t179 _ A7.out).mono ?_); rintro e w26 ⟨rfl, hb⟩; refine ⟨_, rfl, ?_⟩; have n0_ := Aside0.mk (Kd.R_below (by (with_reducible repeat (first|apply Kd.R_alloc|apply Kd.R_drewN|apply Kd.R_drew)); exact HO175.out) hb); have n1_ := Aside0.mk (kB (g := gb169) (by (with_reducible repeat first|apply kN|apply kD|apply kA); exact BK169.out) hb); have n2_ := Aside0.mk (kB (g := gb170) (by (with_reducible repeat first|apply kN|apply kD|apply kA); exact BK170.out) hb); have n3_ := Aside0.mk (kB (g := gb171) (by (with_reducible repeat first|apply kN|apply kD|apply kA); exact BK171.out) hb); have n4_ := Aside0.mk (bT (by repeat (first|(with_reducible first|exact HB.out|apply bA|apply bN|apply b1|refine bS ?_ GE169.out|refine bS ?_ GE170.out|refine bS ?_ GE171.out)|exact HB.out)) hb); clear HO175; clear BK169; clear BK170; clear BK171; clear HB; have HO175 := n0_; have BK169 := n1_; have BK170 := n2_; have BK171 := n3_; have HB := n4_; clear n0_ n1_ n2_ n3_ n4_; (try clear hb); (try clear hb2); (try clear hk); (try clear hi))|((with_reducible refine gate_dst (N := 8) rfl ?_); refine box_event ?hg (N := 8) ?hd (cs := #[.int .i64 0, .int .i64 0]) (t := 24) ?hr ?_; (case hd => rfl); (case hg => rfl); (case hr => first|(go_simp; done)|(go_simp; rfl)); intro gb180 hg w27 hbox hb; have n0_ := Aside0.mk (Kd.R_below (Kd.R_elderB (by (with_reducible repeat (first|apply Kd.R_alloc|apply Kd.R_drewN|apply Kd.R_drew)); exact HO175.out) gb180 (Nat.le_of_eq hg.symm)) hb); have n1_ := Aside0.mk (kB (g := gb169) (by (with_reducible repeat first|apply kN|apply kD|apply kA); exact BK169.out) hb); have n2_ := Aside0.mk (kB (g := gb170) (by (with_reducible repeat first|apply kN|apply kD|apply kA); exact BK170.out) hb); have n3_ := Aside0.mk (kB (g := gb171) (by (with_reducible repeat first|apply kN|apply kD|apply kA); exact BK171.out) hb); have n4_ := Aside0.mk (bT (by repeat (first|(with_reducible first|exact HB.out|apply bA|apply bN|apply b1|refine bS ?_ GE169.out|refine bS ?_ GE170.out|refine bS ?_ GE171.out)|exact HB.out)) hb); have n5_ := Aside0.mk (hbox); have n6_ := Aside0.mk ((by rw [hg]; exact (bZ (by repeat (first|(with_reducible first|exact HB.out|apply bA|apply bN|apply b1|refine bS ?_ GE169.out|refine bS ?_ GE170.out|refine bS ?_ GE171.out)|exact HB.out))) : w.heap.size ≤ gb180)); have n7_ := n6_; have n8_ := Aside0.mk ((by rw [hg]; exact Nat.ne_of_lt (blk_lt (g := gb169) (by (with_reducible repeat first|apply kN|apply kD|apply kA); exact BK169.out)) : gb169 ≠ gb180)); have n9_ := Aside0.mk n8_.out.symm; have n10_ := Aside0.mk ((by rw [hg]; exact Nat.ne_of_lt (blk_lt (g := gb170) (by (with_reducible repeat first|apply kN|apply kD|apply kA); exact BK170.out)) : gb170 ≠ gb180)); have n11_ := Aside0.mk n10_.out.symm; have n12_ := Aside0.mk ((by rw [hg]; exact Nat.ne_of_lt (blk_lt (g := gb171) (by (with_reducible repeat first|apply kN|apply kD|apply kA); exact BK171.out)) : gb171 ≠ gb180)); have n13_ := Aside0.mk n12_.out.symm; clear HO175; clear BK169; clear BK170; clear BK171; clear HB; have HO175 := n0_; have BK169 := n1_; have BK170 := n2_; have BK171 := n3_; have HB := n4_; have BK180 := n5_; have GW180 := n6_; have GE180 := n7_; have NB169_180 := n8_; have NB180_169 := n9_; have NB170_180 := n10_; have NB180_170 := n11_; have NB171_180 := n12_; have NB180_171 := n13_; clear n0_ n1_ n2_ n3_ n4_ n5_ n6_ n7_ n8_ n9_ n10_ n11_ n12_ n13_; clear hb hbox hg; have hnb28 := NB180_169.out; have hnc28 := NB169_180.out; have hnb29 := NB180_170.out; have hnc29 := NB170_180.out; have hnb30 := NB180_171.out; have hnc30 := NB171_180.out; have hcz31_0 : w27.cell? ⟨gb180, 0, none⟩ = some (.int .i64 0) := (kC BK180.out 0).trans rfl; have hcz31_1 : w27.cell? ⟨gb180, 1, none⟩ = some (.int .i64 0) := (kC BK180.out 1).trans rfl; have hfz31_0 := blk_frozen BK180.out 0; have hfz31_1 := blk_frozen BK180.out 1; have hcz32_0 : w27.cell? ⟨gb170, 0, none⟩ = some (.int .i64 a1_0) := (kC BK170.out 0).trans rfl; have hcz32_1 : w27.cell? ⟨gb170, 1, none⟩ = some (.int .i64 a1_1) := (kC BK170.out 1).trans rfl; have hfz32_0 := blk_frozen BK170.out 0; have hfz32_1 := blk_frozen BK170.out 1; have hcz33_0 : w27.cell? ⟨gb169, 0, none⟩ = some (.int .i64 a0_0) := (kC BK169.out 0).trans rfl; have hcz33_1 : w27.cell? ⟨gb169, 1, none⟩ = some (.int .i64 a0_1) := (kC BK169.out 1).trans rfl; have hfz33_0 := blk_frozen BK169.out 0; have hfz33_1 := blk_frozen BK169.out 1)|((with_reducible refine gate_callee (f := 15) rfl ?_); refine goesL_ (some 39) rfl rfl Tryd.func15 (by kernel_rfl) rfl #[.agg #[.int .i64 a1_0, .int .i64 a1_1], .agg #[.int .i64 a0_0, .int .i64 a0_1]] rfl (by (try simp only [List.map_toArray, List.map_cons, List.map_nil]); first | done | rfl|(simp only [List.length_drop, List.length_take]; rfl)) ?_; (with_reducible refine (rational_Mul.calls a1_0 a1_1 a0_0 a0_1 t181 t182 t183 _ A8.out).mono ?_); rintro e w34 ⟨rfl, hb⟩; refine ⟨_, rfl, ?_⟩; have n0_ := Aside0.mk (Kd.R_below (by (with_reducible repeat (first|apply Kd.R_alloc|apply Kd.R_drewN|apply Kd.R_drew)); exact (Kd.R_mono (Kd.R_far (p := ⟨gb180, 1, none⟩) (Kd.R_far (p := ⟨gb180, 0, none⟩) (Kd.R_mono HO175.out (fun k_ hk => (⟨hk, hk.2⟩ : _ ∧ k_ ≠ gb180))) (fun _ hk => hk.2) (.int .i64 t177)) (fun _ hk => hk.2) (.int .i64 t178)) (fun _ h_ => h_.1))) hb); have n1_ := Aside0.mk (kB (g := gb169) (o := .cells #[.int .i64 a0_0, .int .i64 a0_1] 24 (0, 0)) (by (with_reducible repeat first|apply kN|apply kD|apply kA); refine kF ?_ NB169_180.out _; (with_reducible repeat first|apply kN|apply kD|apply kA); refine kF ?_ NB169_180.out _; (with_reducible repeat first|apply kN|apply kD|apply kA); exact BK169.out) hb); have n2_ := Aside0.mk (kB (g := gb170) (o := .cells #[.int .i64 a1_0, .int .i64 a1_1] 24 (0, 0)) (by (with_reducible repeat first|apply kN|apply kD|apply kA); refine kF ?_ NB170_180.out _; (with_reducible repeat first|apply kN|apply kD|apply kA); refine kF ?_ NB170_180.out _; (with_reducible repeat first|apply kN|apply kD|apply kA); exact BK170.out) hb); have n3_ := Aside0.mk (kB (g := gb171) (o := .cells #[.int .i64 a2_0, .int .i64 a2_1] 24 (0, 0)) (by (with_reducible repeat first|apply kN|apply kD|apply kA); refine kF ?_ NB171_180.out _; (with_reducible repeat first|apply kN|apply kD|apply kA); refine kF ?_ NB171_180.out _; (with_reducible repeat first|apply kN|apply kD|apply kA); exact BK171.out) hb); have n4_ := Aside0.mk (kB (g := gb180) (o := .cells #[.int .i64 t177, .int .i64 t178] 24 (0, 0)) (by (with_reducible repeat first|apply kN|apply kD|apply kA); refine blk_put (cs := #[.int .i64 t177, .int .i64 0]) ?_ 1 _ rfl; (with_reducible repeat first|apply kN|apply kD|apply kA); refine blk_put (cs := #[.int .i64 0, .int .i64 0]) ?_ 0 _ rfl; (with_reducible repeat first|apply kN|apply kD|apply kA); exact BK180.out) hb); have n5_ := Aside0.mk (bT (by repeat (first|(with_reducible first|exact HB.out|apply bA|apply bN|apply b1|refine bS ?_ GE169.out|refine bS ?_ GE170.out|refine bS ?_ GE171.out|refine bS ?_ GE180.out)|exact HB.out)) hb); clear HO175; clear BK169; clear BK170; clear BK171; clear BK180; clear HB; have HO175 := n0_; have BK169 := n1_; have BK170 := n2_; have BK171 := n3_; have BK180 := n4_; have HB := n5_; clear n0_ n1_ n2_ n3_ n4_ n5_; (try clear hb); (try clear hb2); (try clear hk); (try clear hi))|((with_reducible refine gate_dst (N := 10) rfl ?_); refine box_event ?hg (N := 10) ?hd (cs := #[.int .i64 0, .int .i64 0]) (t := 24) ?hr ?_; (case hd => rfl); (case hg => rfl); (case hr => first|(go_simp; done)|(go_simp; rfl)); intro gb184 hg w35 hbox hb; have n0_ := Aside0.mk (Kd.R_below (Kd.R_elderB (by (with_reducible repeat (first|apply Kd.R_alloc|apply Kd.R_drewN|apply Kd.R_drew)); exact HO175.out) gb184 (Nat.le_of_eq hg.symm)) hb); have n1_ := Aside0.mk (kB (g := gb169) (by (with_reducible repeat first|apply kN|apply kD|apply kA); exact BK169.out) hb); have n2_ := Aside0.mk (kB (g := gb170) (by (with_reducible repeat first|apply kN|apply kD|apply kA); exact BK170.out) hb); have n3_ := Aside0.mk (kB (g := gb171) (by (with_reducible repeat first|apply kN|apply kD|apply kA); exact BK171.out) hb); have n4_ := Aside0.mk (kB (g := gb180) (by (with_reducible repeat first|apply kN|apply kD|apply kA); exact BK180.out) hb); have n5_ := Aside0.mk (bT (by repeat (first|(with_reducible first|exact HB.out|apply bA|apply bN|apply b1|refine bS ?_ GE169.out|refine bS ?_ GE170.out|refine bS ?_ GE171.out|refine bS ?_ GE180.out)|exact HB.out)) hb); have n6_ := Aside0.mk (hbox); have n7_ := Aside0.mk ((by rw [hg]; exact (bZ (by repeat (first|(with_reducible first|exact HB.out|apply bA|apply bN|apply b1|refine bS ?_ GE169.out|refine bS ?_ GE170.out|refine bS ?_ GE171.out|refine bS ?_ GE180.out)|exact HB.out))) : w.heap.size ≤ gb184)); have n8_ := n7_; have n9_ := Aside0.mk ((by rw [hg]; exact Nat.ne_of_lt (blk_lt (g := gb169) (by (with_reducible repeat first|apply kN|apply kD|apply kA); exact BK169.out)) : gb169 ≠ gb184)); have n10_ := Aside0.mk n9_.out.symm; have n11_ := Aside0.mk ((by rw [hg]; exact Nat.ne_of_lt (blk_lt (g := gb170) (by (with_reducible repeat first|apply kN|apply kD|apply kA); exact BK170.out)) : gb170 ≠ gb184)); have n12_ := Aside0.mk n11_.out.symm; have n13_ := Aside0.mk ((by rw [hg]; exact Nat.ne_of_lt (blk_lt (g := gb171) (by (with_reducible repeat first|apply kN|apply kD|apply kA); exact BK171.out)) : gb171 ≠ gb184)); have n14_ := Aside0.mk n13_.out.symm; have n15_ := Aside0.mk ((by rw [hg]; exact Nat.ne_of_lt (blk_lt (g := gb180) (by (with_reducible repeat first|apply kN|apply kD|apply kA); exact BK180.out)) : gb180 ≠ gb184)); have n16_ := Aside0.mk n15_.out.symm; clear HO175; clear BK169; clear BK170; clear BK171; clear BK180; clear HB; have HO175 := n0_; have BK169 := n1_; have BK170 := n2_; have BK171 := n3_; have BK180 := n4_; have HB := n5_; have BK184 := n6_; have GW184 := n7_; have GE184 := n8_; have NB169_184 := n9_; have NB184_169 := n10_; have NB170_184 := n11_; have NB184_170 := n12_; have NB171_184 := n13_; have NB184_171 := n14_; have NB180_184 := n15_; have NB184_180 := n16_; clear n0_ n1_ n2_ n3_ n4_ n5_ n6_ n7_ n8_ n9_ n10_ n11_ n12_ n13_ n14_ n15_ n16_; clear hb hbox hg; have hnb36 := NB184_169.out; have hnc36 := NB169_184.out; have hnb37 := NB184_170.out; have hnc37 := NB170_184.out; have hnb38 := NB184_171.out; have hnc38 := NB171_184.out; have hnb39 := NB184_180.out; have hnc39 := NB180_184.out; have hcz40_0 : w35.cell? ⟨gb184, 0, none⟩ = some (.int .i64 0) := (kC BK184.out 0).trans rfl; have hcz40_1 : w35.cell? ⟨gb184, 1, none⟩ = some (.int .i64 0) := (kC BK184.out 1).trans rfl; have hfz40_0 := blk_frozen BK184.out 0; have hfz40_1 := blk_frozen BK184.out 1))
  (try simp only [Act.put, List.setIfInBounds_toArray, List.set_cons_zero, List.set_cons_succ])
  go_cut [57] (fun v57 wc => ∃ (kq : Nat) (x57_8 : Bool), v57 = .bool x57_8 ∧ Aside0 (cohousinglaw01_RationalProducts.j0 kq t172 t179 x57_8 a0_0 a0_1 a1_0 a1_1 a2_0 a2_1 t177 t178 = some r) ∧ Aside0 (kq ≤ k) ∧ Aside0 (wc.heap[gb169]? = some (.cells #[.int .i64 a0_0, .int .i64 a0_1] 24 (0, 0))) ∧ Aside0 (wc.heap[gb170]? = some (.cells #[.int .i64 a1_0, .int .i64 a1_1] 24 (0, 0))) ∧ Aside0 (wc.heap[gb171]? = some (.cells #[.int .i64 a2_0, .int .i64 a2_1] 24 (0, 0))) ∧ Aside0 (wc.heap[gb180]? = some (.cells #[.int .i64 t177, .int .i64 t178] 24 (0, 0))) ∧ Aside0 (wc.heap[gb184]? = some (.cells #[.int .i64 t181, .int .i64 t182] 24 (0, 0))) ∧ Aside0 (Below w.heap.size w wc))
  case first =>
   have H := HC9.out
   clear HC9
   by_cases c41 : (!(t177 == t181) || (!(t178 == t182))) = true
   ·rw [if_pos c41] at H
    have c41b0 : (!(t177 == t181) || (!(t178 == t182))) = true := c41
    clear c41
    (first | rw [c41b0] | (simp only [i64_w, i32_w]; rw [c41b0]) | skip)
    have H' := Aside0.mk H
    clear H
    have hnb42 := NB180_169.out
    have hnc42 := NB169_180.out
    have hnb43 := NB180_170.out
    have hnc43 := NB170_180.out
    have hnb44 := NB180_171.out
    have hnc44 := NB171_180.out
    have hnb45 := NB180_184.out
    have hnc45 := NB184_180.out
    have hcz46_0 : w35.cell? ⟨gb180, 0, none⟩ = some (.int .i64 t177) := (kC BK180.out 0).trans rfl
    have hcz46_1 : w35.cell? ⟨gb180, 1, none⟩ = some (.int .i64 t178) := (kC BK180.out 1).trans rfl
    have hfz46_0 := blk_frozen BK180.out 0
    have hfz46_1 := blk_frozen BK180.out 1
    have hnb47 := NB184_169.out
    have hnc47 := NB169_184.out
    have hnb48 := NB184_170.out
    have hnc48 := NB170_184.out
    have hnb49 := NB184_171.out
    have hnc49 := NB171_184.out
    have hcz50_0 : w35.cell? ⟨gb184, 0, none⟩ = some (.int .i64 0) := (kC BK184.out 0).trans rfl
    have hcz50_1 : w35.cell? ⟨gb184, 1, none⟩ = some (.int .i64 0) := (kC BK184.out 1).trans rfl
    have hfz50_0 := blk_frozen BK184.out 0
    have hfz50_1 := blk_frozen BK184.out 1
    go_wp2
    go_meet
    case rel => exact ⟨_, (true), (by first | rfl|(simp; done)|(simp [*]; done)), H', ⟨by first | omega|exact Nat.le_refl _⟩, ⟨by (with_reducible repeat first|apply kN|apply kD|apply kA); refine kF ?_ NB169_184.out _; (with_reducible repeat first|apply kN|apply kD|apply kA); refine kF ?_ NB169_184.out _; (with_reducible repeat first|apply kN|apply kD|apply kA); exact BK169.out⟩, ⟨by (with_reducible repeat first|apply kN|apply kD|apply kA); refine kF ?_ NB170_184.out _; (with_reducible repeat first|apply kN|apply kD|apply kA); refine kF ?_ NB170_184.out _; (with_reducible repeat first|apply kN|apply kD|apply kA); exact BK170.out⟩, ⟨by (with_reducible repeat first|apply kN|apply kD|apply kA); refine kF ?_ NB171_184.out _; (with_reducible repeat first|apply kN|apply kD|apply kA); refine kF ?_ NB171_184.out _; (with_reducible repeat first|apply kN|apply kD|apply kA); exact BK171.out⟩, ⟨by (with_reducible repeat first|apply kN|apply kD|apply kA); refine kF ?_ NB180_184.out _; (with_reducible repeat first|apply kN|apply kD|apply kA); refine kF ?_ NB180_184.out _; (with_reducible repeat first|apply kN|apply kD|apply kA); exact BK180.out⟩, ⟨by (with_reducible repeat first|apply kN|apply kD|apply kA); refine blk_put (cs := #[.int .i64 t181, .int .i64 0]) ?_ 1 _ rfl; (with_reducible repeat first|apply kN|apply kD|apply kA); refine blk_put (cs := #[.int .i64 0, .int .i64 0]) ?_ 0 _ rfl; (with_reducible repeat first|apply kN|apply kD|apply kA); exact BK184.out⟩, ⟨by repeat (first|(with_reducible first|exact HB.out|apply bA|apply bN|apply b1|refine bS ?_ GE169.out|refine bS ?_ GE170.out|refine bS ?_ GE171.out|refine bS ?_ GE180.out|refine bS ?_ GE184.out)|exact HB.out)⟩⟩
   ·rw [if_neg c41] at H
    have c41b0 : (!(t177 == t181) || (!(t178 == t182))) = false := by simpa using c41
    clear c41
    (first | rw [c41b0] | (simp only [i64_w, i32_w]; rw [c41b0]) | skip)
    by_cases c51 : t179 = t183
    ·rw [if_pos c51] at H
     have c51b0 : (t179 == t183) = true := beq_iff_eq.mpr c51
     have c51b1 : (t179 != t183) = false := bne_eq_false_iff_eq.mpr c51
     clear c51
     by_cases c52 : t179 = 0
     ·rw [if_pos c52] at H
      have c52b0 : (t179 == 0) = true := beq_iff_eq.mpr c52
      have c52b1 : (t179 != 0) = false := bne_eq_false_iff_eq.mpr c52
      clear c52
      have H' := Aside0.mk H
      clear H
      have hnb53 := NB180_169.out
      have hnc53 := NB169_180.out
      have hnb54 := NB180_170.out
      have hnc54 := NB170_180.out
      have hnb55 := NB180_171.out
      have hnc55 := NB171_180.out
      have hnb56 := NB180_184.out
      have hnc56 := NB184_180.out
      have hcz57_0 : w35.cell? ⟨gb180, 0, none⟩ = some (.int .i64 t177) := (kC BK180.out 0).trans rfl
      have hcz57_1 : w35.cell? ⟨gb180, 1, none⟩ = some (.int .i64 t178) := (kC BK180.out 1).trans rfl
      have hfz57_0 := blk_frozen BK180.out 0
      have hfz57_1 := blk_frozen BK180.out 1
      have hnb58 := NB184_169.out
      have hnc58 := NB169_184.out
      have hnb59 := NB184_170.out
      have hnc59 := NB170_184.out
      have hnb60 := NB184_171.out
      have hnc60 := NB171_184.out
      have hcz61_0 : w35.cell? ⟨gb184, 0, none⟩ = some (.int .i64 0) := (kC BK184.out 0).trans rfl
      have hcz61_1 : w35.cell? ⟨gb184, 1, none⟩ = some (.int .i64 0) := (kC BK184.out 1).trans rfl
      have hfz61_0 := blk_frozen BK184.out 0
      have hfz61_1 := blk_frozen BK184.out 1
      go_wp2
      go_meet
      case rel => exact ⟨_, (false), (by first | rfl|(simp; done)|(simp [*]; done)), H', ⟨by first | omega|exact Nat.le_refl _⟩, ⟨by (with_reducible repeat first|apply kN|apply kD|apply kA); refine kF ?_ NB169_184.out _; (with_reducible repeat first|apply kN|apply kD|apply kA); refine kF ?_ NB169_184.out _; (with_reducible repeat first|apply kN|apply kD|apply kA); exact BK169.out⟩, ⟨by (with_reducible repeat first|apply kN|apply kD|apply kA); refine kF ?_ NB170_184.out _; (with_reducible repeat first|apply kN|apply kD|apply kA); refine kF ?_ NB170_184.out _; (with_reducible repeat first|apply kN|apply kD|apply kA); exact BK170.out⟩, ⟨by (with_reducible repeat first|apply kN|apply kD|apply kA); refine kF ?_ NB171_184.out _; (with_reducible repeat first|apply kN|apply kD|apply kA); refine kF ?_ NB171_184.out _; (with_reducible repeat first|apply kN|apply kD|apply kA); exact BK171.out⟩, ⟨by (with_reducible repeat first|apply kN|apply kD|apply kA); refine kF ?_ NB180_184.out _; (with_reducible repeat first|apply kN|apply kD|apply kA); refine kF ?_ NB180_184.out _; (with_reducible repeat first|apply kN|apply kD|apply kA); exact BK180.out⟩, ⟨by (with_reducible repeat first|apply kN|apply kD|apply kA); refine blk_put (cs := #[.int .i64 t181, .int .i64 0]) ?_ 1 _ rfl; (with_reducible repeat first|apply kN|apply kD|apply kA); refine blk_put (cs := #[.int .i64 0, .int .i64 0]) ?_ 0 _ rfl; (with_reducible repeat first|apply kN|apply kD|apply kA); exact BK184.out⟩, ⟨by repeat (first|(with_reducible first|exact HB.out|apply bA|apply bN|apply b1|refine bS ?_ GE169.out|refine bS ?_ GE170.out|refine bS ?_ GE171.out|refine bS ?_ GE180.out|refine bS ?_ GE184.out)|exact HB.out)⟩⟩
     ·rw [if_neg c52] at H
      have c52b0 : (t179 == 0) = false := beq_eq_false_iff_ne.mpr c52
      have c52b1 : (t179 != 0) = true := bne_iff_ne.mpr c52
      have H' := Aside0.mk H
      clear H
      have hnb62 := NB180_169.out
      have hnc62 := NB169_180.out
      have hnb63 := NB180_170.out
      have hnc63 := NB170_180.out
      have hnb64 := NB180_171.out
      have hnc64 := NB171_180.out
      have hnb65 := NB180_184.out
      have hnc65 := NB184_180.out
      have hcz66_0 : w35.cell? ⟨gb180, 0, none⟩ = some (.int .i64 t177) := (kC BK180.out 0).trans rfl
      have hcz66_1 : w35.cell? ⟨gb180, 1, none⟩ = some (.int .i64 t178) := (kC BK180.out 1).trans rfl
      have hfz66_0 := blk_frozen BK180.out 0
      have hfz66_1 := blk_frozen BK180.out 1
      have hnb67 := NB184_169.out
      have hnc67 := NB169_184.out
      have hnb68 := NB184_170.out
      have hnc68 := NB170_184.out
      have hnb69 := NB184_171.out
      have hnc69 := NB171_184.out
      have hcz70_0 : w35.cell? ⟨gb184, 0, none⟩ = some (.int .i64 0) := (kC BK184.out 0).trans rfl
      have hcz70_1 : w35.cell? ⟨gb184, 1, none⟩ = some (.int .i64 0) := (kC BK184.out 1).trans rfl
      have hfz70_0 := blk_frozen BK184.out 0
      have hfz70_1 := blk_frozen BK184.out 1
      go_wp2
      go_meet
      case rel => exact ⟨_, ((t179 != 3)), (by first | rfl|(simp; done)|(simp [*]; done)), H', ⟨by first | omega|exact Nat.le_refl _⟩, ⟨by (with_reducible repeat first|apply kN|apply kD|apply kA); refine kF ?_ NB169_184.out _; (with_reducible repeat first|apply kN|apply kD|apply kA); refine kF ?_ NB169_184.out _; (with_reducible repeat first|apply kN|apply kD|apply kA); exact BK169.out⟩, ⟨by (with_reducible repeat first|apply kN|apply kD|apply kA); refine kF ?_ NB170_184.out _; (with_reducible repeat first|apply kN|apply kD|apply kA); refine kF ?_ NB170_184.out _; (with_reducible repeat first|apply kN|apply kD|apply kA); exact BK170.out⟩, ⟨by (with_reducible repeat first|apply kN|apply kD|apply kA); refine kF ?_ NB171_184.out _; (with_reducible repeat first|apply kN|apply kD|apply kA); refine kF ?_ NB171_184.out _; (with_reducible repeat first|apply kN|apply kD|apply kA); exact BK171.out⟩, ⟨by (with_reducible repeat first|apply kN|apply kD|apply kA); refine kF ?_ NB180_184.out _; (with_reducible repeat first|apply kN|apply kD|apply kA); refine kF ?_ NB180_184.out _; (with_reducible repeat first|apply kN|apply kD|apply kA); exact BK180.out⟩, ⟨by (with_reducible repeat first|apply kN|apply kD|apply kA); refine blk_put (cs := #[.int .i64 t181, .int .i64 0]) ?_ 1 _ rfl; (with_reducible repeat first|apply kN|apply kD|apply kA); refine blk_put (cs := #[.int .i64 0, .int .i64 0]) ?_ 0 _ rfl; (with_reducible repeat first|apply kN|apply kD|apply kA); exact BK184.out⟩, ⟨by repeat (first|(with_reducible first|exact HB.out|apply bA|apply bN|apply b1|refine bS ?_ GE169.out|refine bS ?_ GE170.out|refine bS ?_ GE171.out|refine bS ?_ GE180.out|refine bS ?_ GE184.out)|exact HB.out)⟩⟩
    ·rw [if_neg c51] at H
     have c51b0 : (t179 == t183) = false := beq_eq_false_iff_ne.mpr c51
     have c51b1 : (t179 != t183) = true := bne_iff_ne.mpr c51
     have H' := Aside0.mk H
     clear H
     have hnb71 := NB180_169.out
     have hnc71 := NB169_180.out
     have hnb72 := NB180_170.out
     have hnc72 := NB170_180.out
     have hnb73 := NB180_171.out
     have hnc73 := NB171_180.out
     have hnb74 := NB180_184.out
     have hnc74 := NB184_180.out
     have hcz75_0 : w35.cell? ⟨gb180, 0, none⟩ = some (.int .i64 t177) := (kC BK180.out 0).trans rfl
     have hcz75_1 : w35.cell? ⟨gb180, 1, none⟩ = some (.int .i64 t178) := (kC BK180.out 1).trans rfl
     have hfz75_0 := blk_frozen BK180.out 0
     have hfz75_1 := blk_frozen BK180.out 1
     have hnb76 := NB184_169.out
     have hnc76 := NB169_184.out
     have hnb77 := NB184_170.out
     have hnc77 := NB170_184.out
     have hnb78 := NB184_171.out
     have hnc78 := NB171_184.out
     have hcz79_0 : w35.cell? ⟨gb184, 0, none⟩ = some (.int .i64 0) := (kC BK184.out 0).trans rfl
     have hcz79_1 : w35.cell? ⟨gb184, 1, none⟩ = some (.int .i64 0) := (kC BK184.out 1).trans rfl
     have hfz79_0 := blk_frozen BK184.out 0
     have hfz79_1 := blk_frozen BK184.out 1
     go_wp2
     go_meet
     case rel => exact ⟨_, (true), (by first | rfl|(simp; done)|(simp [*]; done)), H', ⟨by first | omega|exact Nat.le_refl _⟩, ⟨by (with_reducible repeat first|apply kN|apply kD|apply kA); refine kF ?_ NB169_184.out _; (with_reducible repeat first|apply kN|apply kD|apply kA); refine kF ?_ NB169_184.out _; (with_reducible repeat first|apply kN|apply kD|apply kA); exact BK169.out⟩, ⟨by (with_reducible repeat first|apply kN|apply kD|apply kA); refine kF ?_ NB170_184.out _; (with_reducible repeat first|apply kN|apply kD|apply kA); refine kF ?_ NB170_184.out _; (with_reducible repeat first|apply kN|apply kD|apply kA); exact BK170.out⟩, ⟨by (with_reducible repeat first|apply kN|apply kD|apply kA); refine kF ?_ NB171_184.out _; (with_reducible repeat first|apply kN|apply kD|apply kA); refine kF ?_ NB171_184.out _; (with_reducible repeat first|apply kN|apply kD|apply kA); exact BK171.out⟩, ⟨by (with_reducible repeat first|apply kN|apply kD|apply kA); refine kF ?_ NB180_184.out _; (with_reducible repeat first|apply kN|apply kD|apply kA); refine kF ?_ NB180_184.out _; (with_reducible repeat first|apply kN|apply kD|apply kA); exact BK180.out⟩, ⟨by (with_reducible repeat first|apply kN|apply kD|apply kA); refine blk_put (cs := #[.int .i64 t181, .int .i64 0]) ?_ 1 _ rfl; (with_reducible repeat first|apply kN|apply kD|apply kA); refine blk_put (cs := #[.int .i64 0, .int .i64 0]) ?_ 0 _ rfl; (with_reducible repeat first|apply kN|apply kD|apply kA); exact BK184.out⟩, ⟨by repeat (first|(with_reducible first|exact HB.out|apply bA|apply bN|apply b1|refine bS ?_ GE169.out|refine bS ?_ GE170.out|refine bS ?_ GE171.out|refine bS ?_ GE180.out|refine bS ?_ GE184.out)|exact HB.out)⟩⟩
  case rest =>
   clear HC9
   try clear c1
   try clear c2
   try clear p2
   try clear c3
   try clear c4
   try clear c5
   try clear c6
   try clear c7
   try clear c10
   try clear c14
   try clear c15
   try clear c17
   try clear c28
   try clear c29
   try clear c30
   try clear c36
   try clear c37
   try clear c38
   try clear c39
   try clear c41
   try clear c41b0
   try clear c42
   try clear c43
   try clear c44
   try clear c45
   try clear c47
   try clear c48
   try clear c49
   try clear c51
   try clear c51b0
   try clear c51b1
   try clear c52
   try clear c52b0
   try clear c52b1
   try clear c53
   try clear c54
   try clear c55
   try clear c56
   try clear c58
   try clear c59
   try clear c60
   try clear c62
   try clear c63
   try clear c64
   try clear c65
   try clear c67
   try clear c68
   try clear c69
   try clear c71
   try clear c72
   try clear c73
   try clear c74
   try clear c76
   try clear c77
   try clear c78
   try clear hcz16_0
   try clear hcz16_1
   try clear hcz18_0
   try clear hcz18_1
   try clear hcz19_0
   try clear hcz19_1
   try clear hcz24_0
   try clear hcz24_1
   try clear hcz25_0
   try clear hcz25_1
   try clear hcz31_0
   try clear hcz31_1
   try clear hcz32_0
   try clear hcz32_1
   try clear hcz33_0
   try clear hcz33_1
   try clear hcz40_0
   try clear hcz40_1
   try clear hcz46_0
   try clear hcz46_1
   try clear hcz50_0
   try clear hcz50_1
   try clear hcz57_0
   try clear hcz57_1
   try clear hcz61_0
   try clear hcz61_1
   try clear hcz66_0
   try clear hcz66_1
   try clear hcz70_0
   try clear hcz70_1
   try clear hcz75_0
   try clear hcz75_1
   try clear hcz79_0
   try clear hcz79_1
   try clear hfz16_0
   try clear hfz16_1
   try clear hfz18_0
   try clear hfz18_1
   try clear hfz19_0
   try clear hfz19_1
   try clear hfz24_0
   try clear hfz24_1
   try clear hfz25_0
   try clear hfz25_1
   try clear hfz31_0
   try clear hfz31_1
   try clear hfz32_0
   try clear hfz32_1
   try clear hfz33_0
   try clear hfz33_1
   try clear hfz40_0
   try clear hfz40_1
   try clear hfz46_0
   try clear hfz46_1
   try clear hfz50_0
   try clear hfz50_1
   try clear hfz57_0
   try clear hfz57_1
   try clear hfz61_0
   try clear hfz61_1
   try clear hfz66_0
   try clear hfz66_1
   try clear hfz70_0
   try clear hfz70_1
   try clear hfz75_0
   try clear hfz75_1
   try clear hfz79_0
   try clear hfz79_1
   obtain ⟨kq, x57_8, rfl, HA, HJ8, BK169, BK170, BK171, BK180, BK184, HB⟩ := hcut
   cases kq with
   | zero => exact absurd HA.out (by simp [cohousinglaw01_RationalProducts.j0])
   | succ kj8 =>
    have H := HA.out
    clear HA
    simp only [cohousinglaw01_RationalProducts.j0] at H
    by_cases c80 : x57_8 = true
    ·subst c80
     have H1 : (none) = some r := by rw [if_pos rfl] at H; exact H
     clear H
     have H := H1
     clear H1
     exact absurd H (by simp)
    ·replace c80 := Bool.eq_false_iff.mpr c80
     subst c80
     have H1 : (if t179 = 0 then ((rational_Div.f t177 t178 a1_0 a1_1).bind fun bt185 => (if a1_0 = 0 then (if bt185.2.2 = 7 then (cohousinglaw01_RationalProducts.j1 kj8 t172 false a0_0 a0_1 a1_0 a1_1 a2_0 a2_1 t177 t178) else (cohousinglaw01_RationalProducts.j1 kj8 t172 true a0_0 a0_1 a1_0 a1_1 a2_0 a2_1 t177 t178)) else (if bt185.2.2 = 0 then (cohousinglaw01_RationalProducts.j1 kj8 t172 (!(bt185.1 == a0_0) || (!(bt185.2.1 == a0_1))) a0_0 a0_1 a1_0 a1_1 a2_0 a2_1 t177 t178) else (cohousinglaw01_RationalProducts.j1 kj8 t172 true a0_0 a0_1 a1_0 a1_1 a2_0 a2_1 t177 t178)))) else (if t172 = true then (some true) else (none))) = some r := by rw [if_neg (show ¬ (false = true) by decide)] at H; exact H
     clear H
     have H := H1
     clear H1
     by_cases c81 : t179 = 0
     ·rw [if_pos c81] at H
      have c81b0 : (t179 == 0) = true := beq_iff_eq.mpr c81
      have c81b1 : (t179 != 0) = false := bne_eq_false_iff_eq.mpr c81
      clear c81
      replace H := Option.bind_eq_some_iff.mp H
      obtain ⟨⟨t185, t186, t187⟩, A820, H⟩ := H
      replace H : (if a1_0 = 0 then (if t187 = 7 then (cohousinglaw01_RationalProducts.j1 kj8 t172 false a0_0 a0_1 a1_0 a1_1 a2_0 a2_1 t177 t178) else (cohousinglaw01_RationalProducts.j1 kj8 t172 true a0_0 a0_1 a1_0 a1_1 a2_0 a2_1 t177 t178)) else (if t187 = 0 then (cohousinglaw01_RationalProducts.j1 kj8 t172 (!(t185 == a0_0) || (!(t186 == a0_1))) a0_0 a0_1 a1_0 a1_1 a2_0 a2_1 t177 t178) else (cohousinglaw01_RationalProducts.j1 kj8 t172 true a0_0 a0_1 a1_0 a1_1 a2_0 a2_1 t177 t178))) = some r := H
      have A82 := Aside0.mk A820
      clear A820
      have HC83 := Aside0.mk H
      clear H
      have hnb84 := NB180_169.out
      have hnc84 := NB169_180.out
      have hnb85 := NB180_170.out
      have hnc85 := NB170_180.out
      have hnb86 := NB180_171.out
      have hnc86 := NB171_180.out
      have hnb87 := NB180_184.out
      have hnc87 := NB184_180.out
      have hcz88_0 : wc.cell? ⟨gb180, 0, none⟩ = some (.int .i64 t177) := (kC BK180.out 0).trans rfl
      have hcz88_1 : wc.cell? ⟨gb180, 1, none⟩ = some (.int .i64 t178) := (kC BK180.out 1).trans rfl
      have hfz88_0 := blk_frozen BK180.out 0
      have hfz88_1 := blk_frozen BK180.out 1
      have hnb89 := NB170_169.out
      have hnc89 := NB169_170.out
      have hnb90 := NB170_171.out
      have hnc90 := NB171_170.out
      have hnb91 := NB170_184.out
      have hnc91 := NB184_170.out
      have hcz92_0 : wc.cell? ⟨gb170, 0, none⟩ = some (.int .i64 a1_0) := (kC BK170.out 0).trans rfl
      have hcz92_1 : wc.cell? ⟨gb170, 1, none⟩ = some (.int .i64 a1_1) := (kC BK170.out 1).trans rfl
      have hfz92_0 := blk_frozen BK170.out 0
      have hfz92_1 := blk_frozen BK170.out 1
      go_upto_region 11 with (first|((with_reducible refine gate_callee (f := 16) rfl ?_); refine goesL_ (some 64) rfl rfl Tryd.func16 (by kernel_rfl) rfl #[.agg #[.int .i64 t177, .int .i64 t178], .agg #[.int .i64 a1_0, .int .i64 a1_1]] rfl (by (try simp only [List.map_toArray, List.map_cons, List.map_nil]); first | done | rfl|(simp only [List.length_drop, List.length_take]; rfl)) ?_; (with_reducible refine (rational_Div.calls t177 t178 a1_0 a1_1 t185 t186 t187 _ A82.out).mono ?_); rintro e w93 ⟨rfl, hb⟩; refine ⟨_, rfl, ?_⟩; have n0_ := Aside0.mk (kB (g := gb169) (by (with_reducible repeat first|apply kN|apply kD|apply kA); exact BK169.out) hb); have n1_ := Aside0.mk (kB (g := gb170) (by (with_reducible repeat first|apply kN|apply kD|apply kA); exact BK170.out) hb); have n2_ := Aside0.mk (kB (g := gb171) (by (with_reducible repeat first|apply kN|apply kD|apply kA); exact BK171.out) hb); have n3_ := Aside0.mk (kB (g := gb180) (by (with_reducible repeat first|apply kN|apply kD|apply kA); exact BK180.out) hb); have n4_ := Aside0.mk (kB (g := gb184) (by (with_reducible repeat first|apply kN|apply kD|apply kA); exact BK184.out) hb); have n5_ := Aside0.mk (bT (by repeat (first|(with_reducible first|exact HB.out|apply bA|apply bN|apply b1|refine bS ?_ GE169.out|refine bS ?_ GE170.out|refine bS ?_ GE171.out|refine bS ?_ GE180.out|refine bS ?_ GE184.out)|exact HB.out)) hb); clear BK169; clear BK170; clear BK171; clear BK180; clear BK184; clear HB; have BK169 := n0_; have BK170 := n1_; have BK171 := n2_; have BK180 := n3_; have BK184 := n4_; have HB := n5_; clear n0_ n1_ n2_ n3_ n4_ n5_; (try clear hb); (try clear hb2); (try clear hk); (try clear hi))|((with_reducible refine gate_dst (N := 12) rfl ?_); refine box_event ?hg (N := 12) ?hd (cs := #[.int .i64 0, .int .i64 0]) (t := 24) ?hr ?_; (case hd => rfl); (case hg => rfl); (case hr => first|(go_simp; done)|(go_simp; rfl)); intro gb188 hg w94 hbox hb; have n0_ := Aside0.mk (kB (g := gb169) (by (with_reducible repeat first|apply kN|apply kD|apply kA); exact BK169.out) hb); have n1_ := Aside0.mk (kB (g := gb170) (by (with_reducible repeat first|apply kN|apply kD|apply kA); exact BK170.out) hb); have n2_ := Aside0.mk (kB (g := gb171) (by (with_reducible repeat first|apply kN|apply kD|apply kA); exact BK171.out) hb); have n3_ := Aside0.mk (kB (g := gb180) (by (with_reducible repeat first|apply kN|apply kD|apply kA); exact BK180.out) hb); have n4_ := Aside0.mk (kB (g := gb184) (by (with_reducible repeat first|apply kN|apply kD|apply kA); exact BK184.out) hb); have n5_ := Aside0.mk (bT (by repeat (first|(with_reducible first|exact HB.out|apply bA|apply bN|apply b1|refine bS ?_ GE169.out|refine bS ?_ GE170.out|refine bS ?_ GE171.out|refine bS ?_ GE180.out|refine bS ?_ GE184.out)|exact HB.out)) hb); have n6_ := Aside0.mk (hbox); have n7_ := Aside0.mk ((by rw [hg]; exact (bZ (by repeat (first|(with_reducible first|exact HB.out|apply bA|apply bN|apply b1|refine bS ?_ GE169.out|refine bS ?_ GE170.out|refine bS ?_ GE171.out|refine bS ?_ GE180.out|refine bS ?_ GE184.out)|exact HB.out))) : w.heap.size ≤ gb188)); have n8_ := n7_; have n9_ := Aside0.mk ((by rw [hg]; exact Nat.ne_of_lt (blk_lt (g := gb169) (by (with_reducible repeat first|apply kN|apply kD|apply kA); exact BK169.out)) : gb169 ≠ gb188)); have n10_ := Aside0.mk n9_.out.symm; have n11_ := Aside0.mk ((by rw [hg]; exact Nat.ne_of_lt (blk_lt (g := gb170) (by (with_reducible repeat first|apply kN|apply kD|apply kA); exact BK170.out)) : gb170 ≠ gb188)); have n12_ := Aside0.mk n11_.out.symm; have n13_ := Aside0.mk ((by rw [hg]; exact Nat.ne_of_lt (blk_lt (g := gb171) (by (with_reducible repeat first|apply kN|apply kD|apply kA); exact BK171.out)) : gb171 ≠ gb188)); have n14_ := Aside0.mk n13_.out.symm; have n15_ := Aside0.mk ((by rw [hg]; exact Nat.ne_of_lt (blk_lt (g := gb180) (by (with_reducible repeat first|apply kN|apply kD|apply kA); exact BK180.out)) : gb180 ≠ gb188)); have n16_ := Aside0.mk n15_.out.symm; have n17_ := Aside0.mk ((by rw [hg]; exact Nat.ne_of_lt (blk_lt (g := gb184) (by (with_reducible repeat first|apply kN|apply kD|apply kA); exact BK184.out)) : gb184 ≠ gb188)); have n18_ := Aside0.mk n17_.out.symm; clear BK169; clear BK170; clear BK171; clear BK180; clear BK184; clear HB; have BK169 := n0_; have BK170 := n1_; have BK171 := n2_; have BK180 := n3_; have BK184 := n4_; have HB := n5_; have BK188 := n6_; have GW188 := n7_; have GE188 := n8_; have NB169_188 := n9_; have NB188_169 := n10_; have NB170_188 := n11_; have NB188_170 := n12_; have NB171_188 := n13_; have NB188_171 := n14_; have NB180_188 := n15_; have NB188_180 := n16_; have NB184_188 := n17_; have NB188_184 := n18_; clear n0_ n1_ n2_ n3_ n4_ n5_ n6_ n7_ n8_ n9_ n10_ n11_ n12_ n13_ n14_ n15_ n16_ n17_ n18_; clear hb hbox hg; have hnb95 := NB188_169.out; have hnc95 := NB169_188.out; have hnb96 := NB188_170.out; have hnc96 := NB170_188.out; have hnb97 := NB188_171.out; have hnc97 := NB171_188.out; have hnb98 := NB188_180.out; have hnc98 := NB180_188.out; have hnb99 := NB188_184.out; have hnc99 := NB184_188.out; have hcz100_0 : w94.cell? ⟨gb188, 0, none⟩ = some (.int .i64 0) := (kC BK188.out 0).trans rfl; have hcz100_1 : w94.cell? ⟨gb188, 1, none⟩ = some (.int .i64 0) := (kC BK188.out 1).trans rfl; have hfz100_0 := blk_frozen BK188.out 0; have hfz100_1 := blk_frozen BK188.out 1))
      (try simp only [Act.put, List.setIfInBounds_toArray, List.set_cons_zero, List.set_cons_succ])
      go_cut [87] (fun v87 wc => ∃ (kq : Nat) (x87_82 : Bool), v87 = .bool x87_82 ∧ Aside0 (cohousinglaw01_RationalProducts.j1 kq t172 x87_82 a0_0 a0_1 a1_0 a1_1 a2_0 a2_1 t177 t178 = some r) ∧ Aside0 (kq ≤ kj8) ∧ Aside0 (wc.heap[gb169]? = some (.cells #[.int .i64 a0_0, .int .i64 a0_1] 24 (0, 0))) ∧ Aside0 (wc.heap[gb170]? = some (.cells #[.int .i64 a1_0, .int .i64 a1_1] 24 (0, 0))) ∧ Aside0 (wc.heap[gb171]? = some (.cells #[.int .i64 a2_0, .int .i64 a2_1] 24 (0, 0))) ∧ Aside0 (wc.heap[gb180]? = some (.cells #[.int .i64 t177, .int .i64 t178] 24 (0, 0))) ∧ Aside0 (wc.heap[gb184]? = some (.cells #[.int .i64 t181, .int .i64 t182] 24 (0, 0))) ∧ Aside0 (wc.heap[gb188]? = some (.cells #[.int .i64 t185, .int .i64 t186] 24 (0, 0))) ∧ Aside0 (Below w.heap.size w wc))
      case first =>
       have H := HC83.out
       clear HC83
       by_cases c101 : a1_0 = 0
       ·rw [if_pos c101] at H
        have c101b0 : (a1_0 == 0) = true := beq_iff_eq.mpr c101
        have c101b1 : (a1_0 != 0) = false := bne_eq_false_iff_eq.mpr c101
        clear c101
        (first | rw [c101b0] | (simp only [i64_w, i32_w]; rw [c101b0]) | skip)
        by_cases c102 : t187 = 7
        ·rw [if_pos c102] at H
         have c102b0 : (t187 == 7) = true := beq_iff_eq.mpr c102
         have c102b1 : (t187 != 7) = false := bne_eq_false_iff_eq.mpr c102
         clear c102
         have H' := Aside0.mk H
         clear H
         have hnb103 := NB170_169.out
         have hnc103 := NB169_170.out
         have hnb104 := NB170_171.out
         have hnc104 := NB171_170.out
         have hnb105 := NB170_180.out
         have hnc105 := NB180_170.out
         have hnb106 := NB170_184.out
         have hnc106 := NB184_170.out
         have hnb107 := NB170_188.out
         have hnc107 := NB188_170.out
         have hcz108_0 : w94.cell? ⟨gb170, 0, none⟩ = some (.int .i64 a1_0) := (kC BK170.out 0).trans rfl
         have hcz108_1 : w94.cell? ⟨gb170, 1, none⟩ = some (.int .i64 a1_1) := (kC BK170.out 1).trans rfl
         have hfz108_0 := blk_frozen BK170.out 0
         have hfz108_1 := blk_frozen BK170.out 1
         go_wp2
         go_meet
         case rel => exact ⟨_, (false), (by first | rfl|(simp; done)|(simp [*]; done)), H', ⟨by have := HJ8.out; first | omega|exact Nat.le_refl _⟩, ⟨by (with_reducible repeat first|apply kN|apply kD|apply kA); refine kF ?_ NB169_188.out _; (with_reducible repeat first|apply kN|apply kD|apply kA); refine kF ?_ NB169_188.out _; (with_reducible repeat first|apply kN|apply kD|apply kA); exact BK169.out⟩, ⟨by (with_reducible repeat first|apply kN|apply kD|apply kA); refine kF ?_ NB170_188.out _; (with_reducible repeat first|apply kN|apply kD|apply kA); refine kF ?_ NB170_188.out _; (with_reducible repeat first|apply kN|apply kD|apply kA); exact BK170.out⟩, ⟨by (with_reducible repeat first|apply kN|apply kD|apply kA); refine kF ?_ NB171_188.out _; (with_reducible repeat first|apply kN|apply kD|apply kA); refine kF ?_ NB171_188.out _; (with_reducible repeat first|apply kN|apply kD|apply kA); exact BK171.out⟩, ⟨by (with_reducible repeat first|apply kN|apply kD|apply kA); refine kF ?_ NB180_188.out _; (with_reducible repeat first|apply kN|apply kD|apply kA); refine kF ?_ NB180_188.out _; (with_reducible repeat first|apply kN|apply kD|apply kA); exact BK180.out⟩, ⟨by (with_reducible repeat first|apply kN|apply kD|apply kA); refine kF ?_ NB184_188.out _; (with_reducible repeat first|apply kN|apply kD|apply kA); refine kF ?_ NB184_188.out _; (with_reducible repeat first|apply kN|apply kD|apply kA); exact BK184.out⟩, ⟨by (with_reducible repeat first|apply kN|apply kD|apply kA); refine blk_put (cs := #[.int .i64 t185, .int .i64 0]) ?_ 1 _ rfl; (with_reducible repeat first|apply kN|apply kD|apply kA); refine blk_put (cs := #[.int .i64 0, .int .i64 0]) ?_ 0 _ rfl; (with_reducible repeat first|apply kN|apply kD|apply kA); exact BK188.out⟩, ⟨by repeat (first|(with_reducible first|exact HB.out|apply bA|apply bN|apply b1|refine bS ?_ GE169.out|refine bS ?_ GE170.out|refine bS ?_ GE171.out|refine bS ?_ GE180.out|refine bS ?_ GE184.out|refine bS ?_ GE188.out)|exact HB.out)⟩⟩
        ·rw [if_neg c102] at H
         have c102b0 : (t187 == 7) = false := beq_eq_false_iff_ne.mpr c102
         have c102b1 : (t187 != 7) = true := bne_iff_ne.mpr c102
         have H' := Aside0.mk H
         clear H
         have hnb109 := NB170_169.out
         have hnc109 := NB169_170.out
         have hnb110 := NB170_171.out
         have hnc110 := NB171_170.out
         have hnb111 := NB170_180.out
         have hnc111 := NB180_170.out
         have hnb112 := NB170_184.out
         have hnc112 := NB184_170.out
         have hnb113 := NB170_188.out
         have hnc113 := NB188_170.out
         have hcz114_0 : w94.cell? ⟨gb170, 0, none⟩ = some (.int .i64 a1_0) := (kC BK170.out 0).trans rfl
         have hcz114_1 : w94.cell? ⟨gb170, 1, none⟩ = some (.int .i64 a1_1) := (kC BK170.out 1).trans rfl
         have hfz114_0 := blk_frozen BK170.out 0
         have hfz114_1 := blk_frozen BK170.out 1
         go_wp2
         go_meet
         case rel => exact ⟨_, (true), (by first | rfl|(simp; done)|(simp [*]; done)), H', ⟨by have := HJ8.out; first | omega|exact Nat.le_refl _⟩, ⟨by (with_reducible repeat first|apply kN|apply kD|apply kA); refine kF ?_ NB169_188.out _; (with_reducible repeat first|apply kN|apply kD|apply kA); refine kF ?_ NB169_188.out _; (with_reducible repeat first|apply kN|apply kD|apply kA); exact BK169.out⟩, ⟨by (with_reducible repeat first|apply kN|apply kD|apply kA); refine kF ?_ NB170_188.out _; (with_reducible repeat first|apply kN|apply kD|apply kA); refine kF ?_ NB170_188.out _; (with_reducible repeat first|apply kN|apply kD|apply kA); exact BK170.out⟩, ⟨by (with_reducible repeat first|apply kN|apply kD|apply kA); refine kF ?_ NB171_188.out _; (with_reducible repeat first|apply kN|apply kD|apply kA); refine kF ?_ NB171_188.out _; (with_reducible repeat first|apply kN|apply kD|apply kA); exact BK171.out⟩, ⟨by (with_reducible repeat first|apply kN|apply kD|apply kA); refine kF ?_ NB180_188.out _; (with_reducible repeat first|apply kN|apply kD|apply kA); refine kF ?_ NB180_188.out _; (with_reducible repeat first|apply kN|apply kD|apply kA); exact BK180.out⟩, ⟨by (with_reducible repeat first|apply kN|apply kD|apply kA); refine kF ?_ NB184_188.out _; (with_reducible repeat first|apply kN|apply kD|apply kA); refine kF ?_ NB184_188.out _; (with_reducible repeat first|apply kN|apply kD|apply kA); exact BK184.out⟩, ⟨by (with_reducible repeat first|apply kN|apply kD|apply kA); refine blk_put (cs := #[.int .i64 t185, .int .i64 0]) ?_ 1 _ rfl; (with_reducible repeat first|apply kN|apply kD|apply kA); refine blk_put (cs := #[.int .i64 0, .int .i64 0]) ?_ 0 _ rfl; (with_reducible repeat first|apply kN|apply kD|apply kA); exact BK188.out⟩, ⟨by repeat (first|(with_reducible first|exact HB.out|apply bA|apply bN|apply b1|refine bS ?_ GE169.out|refine bS ?_ GE170.out|refine bS ?_ GE171.out|refine bS ?_ GE180.out|refine bS ?_ GE184.out|refine bS ?_ GE188.out)|exact HB.out)⟩⟩
       ·rw [if_neg c101] at H
        have c101b0 : (a1_0 == 0) = false := beq_eq_false_iff_ne.mpr c101
        have c101b1 : (a1_0 != 0) = true := bne_iff_ne.mpr c101
        (first | rw [c101b0] | (simp only [i64_w, i32_w]; rw [c101b0]) | skip)
        by_cases c115 : t187 = 0
        ·rw [if_pos c115] at H
         have c115b0 : (t187 == 0) = true := beq_iff_eq.mpr c115
         have c115b1 : (t187 != 0) = false := bne_eq_false_iff_eq.mpr c115
         clear c115
         have H' := Aside0.mk H
         clear H
         have hnb116 := NB170_169.out
         have hnc116 := NB169_170.out
         have hnb117 := NB170_171.out
         have hnc117 := NB171_170.out
         have hnb118 := NB170_180.out
         have hnc118 := NB180_170.out
         have hnb119 := NB170_184.out
         have hnc119 := NB184_170.out
         have hnb120 := NB170_188.out
         have hnc120 := NB188_170.out
         have hcz121_0 : w94.cell? ⟨gb170, 0, none⟩ = some (.int .i64 a1_0) := (kC BK170.out 0).trans rfl
         have hcz121_1 : w94.cell? ⟨gb170, 1, none⟩ = some (.int .i64 a1_1) := (kC BK170.out 1).trans rfl
         have hfz121_0 := blk_frozen BK170.out 0
         have hfz121_1 := blk_frozen BK170.out 1
         have hnb122 := NB188_169.out
         have hnc122 := NB169_188.out
         have hnb123 := NB188_171.out
         have hnc123 := NB171_188.out
         have hnb124 := NB188_180.out
         have hnc124 := NB180_188.out
         have hnb125 := NB188_184.out
         have hnc125 := NB184_188.out
         have hcz126_0 : w94.cell? ⟨gb188, 0, none⟩ = some (.int .i64 0) := (kC BK188.out 0).trans rfl
         have hcz126_1 : w94.cell? ⟨gb188, 1, none⟩ = some (.int .i64 0) := (kC BK188.out 1).trans rfl
         have hfz126_0 := blk_frozen BK188.out 0
         have hfz126_1 := blk_frozen BK188.out 1
         have hnb127 := NB169_171.out
         have hnc127 := NB171_169.out
         have hnb128 := NB169_180.out
         have hnc128 := NB180_169.out
         have hnb129 := NB169_184.out
         have hnc129 := NB184_169.out
         have hcz130_0 : w94.cell? ⟨gb169, 0, none⟩ = some (.int .i64 a0_0) := (kC BK169.out 0).trans rfl
         have hcz130_1 : w94.cell? ⟨gb169, 1, none⟩ = some (.int .i64 a0_1) := (kC BK169.out 1).trans rfl
         have hfz130_0 := blk_frozen BK169.out 0
         have hfz130_1 := blk_frozen BK169.out 1
         go_wp2
         go_meet
         case rel => exact ⟨_, ((!(t185 == a0_0) || (!(t186 == a0_1)))), (by first | rfl|(simp; done)|(simp [*]; done)), H', ⟨by have := HJ8.out; first | omega|exact Nat.le_refl _⟩, ⟨by (with_reducible repeat first|apply kN|apply kD|apply kA); refine kF ?_ NB169_188.out _; (with_reducible repeat first|apply kN|apply kD|apply kA); refine kF ?_ NB169_188.out _; (with_reducible repeat first|apply kN|apply kD|apply kA); exact BK169.out⟩, ⟨by (with_reducible repeat first|apply kN|apply kD|apply kA); refine kF ?_ NB170_188.out _; (with_reducible repeat first|apply kN|apply kD|apply kA); refine kF ?_ NB170_188.out _; (with_reducible repeat first|apply kN|apply kD|apply kA); exact BK170.out⟩, ⟨by (with_reducible repeat first|apply kN|apply kD|apply kA); refine kF ?_ NB171_188.out _; (with_reducible repeat first|apply kN|apply kD|apply kA); refine kF ?_ NB171_188.out _; (with_reducible repeat first|apply kN|apply kD|apply kA); exact BK171.out⟩, ⟨by (with_reducible repeat first|apply kN|apply kD|apply kA); refine kF ?_ NB180_188.out _; (with_reducible repeat first|apply kN|apply kD|apply kA); refine kF ?_ NB180_188.out _; (with_reducible repeat first|apply kN|apply kD|apply kA); exact BK180.out⟩, ⟨by (with_reducible repeat first|apply kN|apply kD|apply kA); refine kF ?_ NB184_188.out _; (with_reducible repeat first|apply kN|apply kD|apply kA); refine kF ?_ NB184_188.out _; (with_reducible repeat first|apply kN|apply kD|apply kA); exact BK184.out⟩, ⟨by (with_reducible repeat first|apply kN|apply kD|apply kA); refine blk_put (cs := #[.int .i64 t185, .int .i64 0]) ?_ 1 _ rfl; (with_reducible repeat first|apply kN|apply kD|apply kA); refine blk_put (cs := #[.int .i64 0, .int .i64 0]) ?_ 0 _ rfl; (with_reducible repeat first|apply kN|apply kD|apply kA); exact BK188.out⟩, ⟨by repeat (first|(with_reducible first|exact HB.out|apply bA|apply bN|apply b1|refine bS ?_ GE169.out|refine bS ?_ GE170.out|refine bS ?_ GE171.out|refine bS ?_ GE180.out|refine bS ?_ GE184.out|refine bS ?_ GE188.out)|exact HB.out)⟩⟩
        ·rw [if_neg c115] at H
         have c115b0 : (t187 == 0) = false := beq_eq_false_iff_ne.mpr c115
         have c115b1 : (t187 != 0) = true := bne_iff_ne.mpr c115
         have H' := Aside0.mk H
         clear H
         have hnb131 := NB170_169.out
         have hnc131 := NB169_170.out
         have hnb132 := NB170_171.out
         have hnc132 := NB171_170.out
         have hnb133 := NB170_180.out
         have hnc133 := NB180_170.out
         have hnb134 := NB170_184.out
         have hnc134 := NB184_170.out
         have hnb135 := NB170_188.out
         have hnc135 := NB188_170.out
         have hcz136_0 : w94.cell? ⟨gb170, 0, none⟩ = some (.int .i64 a1_0) := (kC BK170.out 0).trans rfl
         have hcz136_1 : w94.cell? ⟨gb170, 1, none⟩ = some (.int .i64 a1_1) := (kC BK170.out 1).trans rfl
         have hfz136_0 := blk_frozen BK170.out 0
         have hfz136_1 := blk_frozen BK170.out 1
         go_wp2
         go_meet
         case rel => exact ⟨_, (true), (by first | rfl|(simp; done)|(simp [*]; done)), H', ⟨by have := HJ8.out; first | omega|exact Nat.le_refl _⟩, ⟨by (with_reducible repeat first|apply kN|apply kD|apply kA); refine kF ?_ NB169_188.out _; (with_reducible repeat first|apply kN|apply kD|apply kA); refine kF ?_ NB169_188.out _; (with_reducible repeat first|apply kN|apply kD|apply kA); exact BK169.out⟩, ⟨by (with_reducible repeat first|apply kN|apply kD|apply kA); refine kF ?_ NB170_188.out _; (with_reducible repeat first|apply kN|apply kD|apply kA); refine kF ?_ NB170_188.out _; (with_reducible repeat first|apply kN|apply kD|apply kA); exact BK170.out⟩, ⟨by (with_reducible repeat first|apply kN|apply kD|apply kA); refine kF ?_ NB171_188.out _; (with_reducible repeat first|apply kN|apply kD|apply kA); refine kF ?_ NB171_188.out _; (with_reducible repeat first|apply kN|apply kD|apply kA); exact BK171.out⟩, ⟨by (with_reducible repeat first|apply kN|apply kD|apply kA); refine kF ?_ NB180_188.out _; (with_reducible repeat first|apply kN|apply kD|apply kA); refine kF ?_ NB180_188.out _; (with_reducible repeat first|apply kN|apply kD|apply kA); exact BK180.out⟩, ⟨by (with_reducible repeat first|apply kN|apply kD|apply kA); refine kF ?_ NB184_188.out _; (with_reducible repeat first|apply kN|apply kD|apply kA); refine kF ?_ NB184_188.out _; (with_reducible repeat first|apply kN|apply kD|apply kA); exact BK184.out⟩, ⟨by (with_reducible repeat first|apply kN|apply kD|apply kA); refine blk_put (cs := #[.int .i64 t185, .int .i64 0]) ?_ 1 _ rfl; (with_reducible repeat first|apply kN|apply kD|apply kA); refine blk_put (cs := #[.int .i64 0, .int .i64 0]) ?_ 0 _ rfl; (with_reducible repeat first|apply kN|apply kD|apply kA); exact BK188.out⟩, ⟨by repeat (first|(with_reducible first|exact HB.out|apply bA|apply bN|apply b1|refine bS ?_ GE169.out|refine bS ?_ GE170.out|refine bS ?_ GE171.out|refine bS ?_ GE180.out|refine bS ?_ GE184.out|refine bS ?_ GE188.out)|exact HB.out)⟩⟩
      case rest =>
       clear HC83
       try clear c1
       try clear c2
       try clear p2
       try clear c3
       try clear c4
       try clear c5
       try clear c6
       try clear c7
       try clear c8
       try clear c9
       try clear c10
       try clear c11
       try clear c12
       try clear c13
       try clear c14
       try clear c15
       try clear c16
       try clear c17
       try clear c28
       try clear c29
       try clear c30
       try clear c36
       try clear c37
       try clear c38
       try clear c39
       try clear c41
       try clear c41b0
       try clear c42
       try clear c43
       try clear c44
       try clear c45
       try clear c47
       try clear c48
       try clear c49
       try clear c51
       try clear c51b0
       try clear c51b1
       try clear c52
       try clear c52b0
       try clear c52b1
       try clear c53
       try clear c54
       try clear c55
       try clear c56
       try clear c58
       try clear c59
       try clear c60
       try clear c62
       try clear c63
       try clear c64
       try clear c65
       try clear c67
       try clear c68
       try clear c69
       try clear c71
       try clear c72
       try clear c73
       try clear c74
       try clear c76
       try clear c77
       try clear c78
       try clear c80
       try clear c81
       try clear c81b0
       try clear c81b1
       try clear c84
       try clear c85
       try clear c86
       try clear c87
       try clear c89
       try clear c90
       try clear c91
       try clear c95
       try clear c96
       try clear c97
       try clear c98
       try clear c99
       try clear c101
       try clear c101b0
       try clear c101b1
       try clear c102
       try clear c102b0
       try clear c102b1
       try clear c103
       try clear c104
       try clear c105
       try clear c106
       try clear c107
       try clear c109
       try clear c110
       try clear c111
       try clear c112
       try clear c113
       try clear c115
       try clear c115b0
       try clear c115b1
       try clear c116
       try clear c117
       try clear c118
       try clear c119
       try clear c120
       try clear c122
       try clear c123
       try clear c124
       try clear c125
       try clear c127
       try clear c128
       try clear c129
       try clear c131
       try clear c132
       try clear c133
       try clear c134
       try clear c135
       try clear hcz100_0
       try clear hcz100_1
       try clear hcz108_0
       try clear hcz108_1
       try clear hcz114_0
       try clear hcz114_1
       try clear hcz121_0
       try clear hcz121_1
       try clear hcz126_0
       try clear hcz126_1
       try clear hcz130_0
       try clear hcz130_1
       try clear hcz136_0
       try clear hcz136_1
       try clear hcz16_0
       try clear hcz16_1
       try clear hcz18_0
       try clear hcz18_1
       try clear hcz19_0
       try clear hcz19_1
       try clear hcz24_0
       try clear hcz24_1
       try clear hcz25_0
       try clear hcz25_1
       try clear hcz31_0
       try clear hcz31_1
       try clear hcz32_0
       try clear hcz32_1
       try clear hcz33_0
       try clear hcz33_1
       try clear hcz40_0
       try clear hcz40_1
       try clear hcz46_0
       try clear hcz46_1
       try clear hcz50_0
       try clear hcz50_1
       try clear hcz57_0
       try clear hcz57_1
       try clear hcz61_0
       try clear hcz61_1
       try clear hcz66_0
       try clear hcz66_1
       try clear hcz70_0
       try clear hcz70_1
       try clear hcz75_0
       try clear hcz75_1
       try clear hcz79_0
       try clear hcz79_1
       try clear hcz88_0
       try clear hcz88_1
       try clear hcz92_0
       try clear hcz92_1
       try clear hfz100_0
       try clear hfz100_1
       try clear hfz108_0
       try clear hfz108_1
       try clear hfz114_0
       try clear hfz114_1
       try clear hfz121_0
       try clear hfz121_1
       try clear hfz126_0
       try clear hfz126_1
       try clear hfz130_0
       try clear hfz130_1
       try clear hfz136_0
       try clear hfz136_1
       try clear hfz16_0
       try clear hfz16_1
       try clear hfz18_0
       try clear hfz18_1
       try clear hfz19_0
       try clear hfz19_1
       try clear hfz24_0
       try clear hfz24_1
       try clear hfz25_0
       try clear hfz25_1
       try clear hfz31_0
       try clear hfz31_1
       try clear hfz32_0
       try clear hfz32_1
       try clear hfz33_0
       try clear hfz33_1
       try clear hfz40_0
       try clear hfz40_1
       try clear hfz46_0
       try clear hfz46_1
       try clear hfz50_0
       try clear hfz50_1
       try clear hfz57_0
       try clear hfz57_1
       try clear hfz61_0
       try clear hfz61_1
       try clear hfz66_0
       try clear hfz66_1
       try clear hfz70_0
       try clear hfz70_1
       try clear hfz75_0
       try clear hfz75_1
       try clear hfz79_0
       try clear hfz79_1
       try clear hfz88_0
       try clear hfz88_1
       try clear hfz92_0
       try clear hfz92_1
       try clear p2
       obtain ⟨kq, x87_82, rfl, HA, HJ82, BK169, BK170, BK171, BK180, BK184, BK188, HB⟩ := hcut
       cases kq with
       | zero => exact absurd HA.out (by simp [cohousinglaw01_RationalProducts.j1])
       | succ kj82 =>
        have H := HA.out
        clear HA
        simp only [cohousinglaw01_RationalProducts.j1] at H
        by_cases c137 : x87_82 = true
        ·subst c137
         have H1 : (none) = some r := by rw [if_pos rfl] at H; exact H
         clear H
         have H := H1
         clear H1
         exact absurd H (by simp)
        ·replace c137 := Bool.eq_false_iff.mpr c137
         subst c137
         have H1 : ((rational_Mul.f a1_0 a1_1 a2_0 a2_1).bind fun bt189 => ((rational_Mul.f t177 t178 a2_0 a2_1).bind fun bt193 => ((rational_Mul.f a0_0 a0_1 bt189.1 bt189.2.1).bind fun bt197 => (if bt189.2.2 = 0 then (if bt193.2.2 = 0 then (if bt197.2.2 = 0 then (cohousinglaw01_RationalProducts.j2 kj82 t172 (!(bt193.1 == bt197.1) || (!(bt193.2.1 == bt197.2.1))) a0_0 a0_1 a1_0 a1_1 a2_0 a2_1 t177 t178) else (cohousinglaw01_RationalProducts.j2 kj82 t172 false a0_0 a0_1 a1_0 a1_1 a2_0 a2_1 t177 t178)) else (cohousinglaw01_RationalProducts.j2 kj82 t172 false a0_0 a0_1 a1_0 a1_1 a2_0 a2_1 t177 t178)) else (cohousinglaw01_RationalProducts.j2 kj82 t172 false a0_0 a0_1 a1_0 a1_1 a2_0 a2_1 t177 t178))))) = some r := by rw [if_neg (show ¬ (false = true) by decide)] at H; exact H
         clear H
         have H := H1
         clear H1
         replace H := Option.bind_eq_some_iff.mp H
         obtain ⟨⟨t189, t190, t191⟩, A1380, H⟩ := H
         replace H : ((rational_Mul.f t177 t178 a2_0 a2_1).bind fun bt193 => ((rational_Mul.f a0_0 a0_1 t189 t190).bind fun bt197 => (if t191 = 0 then (if bt193.2.2 = 0 then (if bt197.2.2 = 0 then (cohousinglaw01_RationalProducts.j2 kj82 t172 (!(bt193.1 == bt197.1) || (!(bt193.2.1 == bt197.2.1))) a0_0 a0_1 a1_0 a1_1 a2_0 a2_1 t177 t178) else (cohousinglaw01_RationalProducts.j2 kj82 t172 false a0_0 a0_1 a1_0 a1_1 a2_0 a2_1 t177 t178)) else (cohousinglaw01_RationalProducts.j2 kj82 t172 false a0_0 a0_1 a1_0 a1_1 a2_0 a2_1 t177 t178)) else (cohousinglaw01_RationalProducts.j2 kj82 t172 false a0_0 a0_1 a1_0 a1_1 a2_0 a2_1 t177 t178)))) = some r := H
         have A138 := Aside0.mk A1380
         clear A1380
         replace H := Option.bind_eq_some_iff.mp H
         obtain ⟨⟨t193, t194, t195⟩, A1390, H⟩ := H
         replace H : ((rational_Mul.f a0_0 a0_1 t189 t190).bind fun bt197 => (if t191 = 0 then (if t195 = 0 then (if bt197.2.2 = 0 then (cohousinglaw01_RationalProducts.j2 kj82 t172 (!(t193 == bt197.1) || (!(t194 == bt197.2.1))) a0_0 a0_1 a1_0 a1_1 a2_0 a2_1 t177 t178) else (cohousinglaw01_RationalProducts.j2 kj82 t172 false a0_0 a0_1 a1_0 a1_1 a2_0 a2_1 t177 t178)) else (cohousinglaw01_RationalProducts.j2 kj82 t172 false a0_0 a0_1 a1_0 a1_1 a2_0 a2_1 t177 t178)) else (cohousinglaw01_RationalProducts.j2 kj82 t172 false a0_0 a0_1 a1_0 a1_1 a2_0 a2_1 t177 t178))) = some r := H
         have A139 := Aside0.mk A1390
         clear A1390
         replace H := Option.bind_eq_some_iff.mp H
         obtain ⟨⟨t197, t198, t199⟩, A1400, H⟩ := H
         replace H : (if t191 = 0 then (if t195 = 0 then (if t199 = 0 then (cohousinglaw01_RationalProducts.j2 kj82 t172 (!(t193 == t197) || (!(t194 == t198))) a0_0 a0_1 a1_0 a1_1 a2_0 a2_1 t177 t178) else (cohousinglaw01_RationalProducts.j2 kj82 t172 false a0_0 a0_1 a1_0 a1_1 a2_0 a2_1 t177 t178)) else (cohousinglaw01_RationalProducts.j2 kj82 t172 false a0_0 a0_1 a1_0 a1_1 a2_0 a2_1 t177 t178)) else (cohousinglaw01_RationalProducts.j2 kj82 t172 false a0_0 a0_1 a1_0 a1_1 a2_0 a2_1 t177 t178)) = some r := H
         have A140 := Aside0.mk A1400
         clear A1400
         have HC141 := Aside0.mk H
         clear H
         have hnb142 := NB170_169.out
         have hnc142 := NB169_170.out
         have hnb143 := NB170_171.out
         have hnc143 := NB171_170.out
         have hnb144 := NB170_180.out
         have hnc144 := NB180_170.out
         have hnb145 := NB170_184.out
         have hnc145 := NB184_170.out
         have hnb146 := NB170_188.out
         have hnc146 := NB188_170.out
         have hcz147_0 : wc.cell? ⟨gb170, 0, none⟩ = some (.int .i64 a1_0) := (kC BK170.out 0).trans rfl
         have hcz147_1 : wc.cell? ⟨gb170, 1, none⟩ = some (.int .i64 a1_1) := (kC BK170.out 1).trans rfl
         have hfz147_0 := blk_frozen BK170.out 0
         have hfz147_1 := blk_frozen BK170.out 1
         have hnb148 := NB171_169.out
         have hnc148 := NB169_171.out
         have hnb149 := NB171_180.out
         have hnc149 := NB180_171.out
         have hnb150 := NB171_184.out
         have hnc150 := NB184_171.out
         have hnb151 := NB171_188.out
         have hnc151 := NB188_171.out
         have hcz152_0 : wc.cell? ⟨gb171, 0, none⟩ = some (.int .i64 a2_0) := (kC BK171.out 0).trans rfl
         have hcz152_1 : wc.cell? ⟨gb171, 1, none⟩ = some (.int .i64 a2_1) := (kC BK171.out 1).trans rfl
         have hfz152_0 := blk_frozen BK171.out 0
         have hfz152_1 := blk_frozen BK171.out 1
         go_upto_region 16 with (first|((with_reducible refine gate_callee (f := 15) rfl ?_); refine goesL_ (some 91) rfl rfl Tryd.func15 (by kernel_rfl) rfl #[.agg #[.int .i64 a1_0, .int .i64 a1_1], .agg #[.int .i64 a2_0, .int .i64 a2_1]] rfl (by (try simp only [List.map_toArray, List.map_cons, List.map_nil]); first | done | rfl|(simp only [List.length_drop, List.length_take]; rfl)) ?_; (with_reducible refine (rational_Mul.calls a1_0 a1_1 a2_0 a2_1 t189 t190 t191 _ A138.out).mono ?_); rintro e w153 ⟨rfl, hb⟩; refine ⟨_, rfl, ?_⟩; have n0_ := Aside0.mk (kB (g := gb169) (by (with_reducible repeat first|apply kN|apply kD|apply kA); exact BK169.out) hb); have n1_ := Aside0.mk (kB (g := gb170) (by (with_reducible repeat first|apply kN|apply kD|apply kA); exact BK170.out) hb); have n2_ := Aside0.mk (kB (g := gb171) (by (with_reducible repeat first|apply kN|apply kD|apply kA); exact BK171.out) hb); have n3_ := Aside0.mk (kB (g := gb180) (by (with_reducible repeat first|apply kN|apply kD|apply kA); exact BK180.out) hb); have n4_ := Aside0.mk (kB (g := gb184) (by (with_reducible repeat first|apply kN|apply kD|apply kA); exact BK184.out) hb); have n5_ := Aside0.mk (kB (g := gb188) (by (with_reducible repeat first|apply kN|apply kD|apply kA); exact BK188.out) hb); have n6_ := Aside0.mk (bT (by repeat (first|(with_reducible first|exact HB.out|apply bA|apply bN|apply b1|refine bS ?_ GE169.out|refine bS ?_ GE170.out|refine bS ?_ GE171.out|refine bS ?_ GE180.out|refine bS ?_ GE184.out|refine bS ?_ GE188.out)|exact HB.out)) hb); clear BK169; clear BK170; clear BK171; clear BK180; clear BK184; clear BK188; clear HB; have BK169 := n0_; have BK170 := n1_; have BK171 := n2_; have BK180 := n3_; have BK184 := n4_; have BK188 := n5_; have HB := n6_; clear n0_ n1_ n2_ n3_ n4_ n5_ n6_; (try clear hb); (try clear hb2); (try clear hk); (try clear hi))|((with_reducible refine gate_dst (N := 14) rfl ?_); refine box_event ?hg (N := 14) ?hd (cs := #[.int .i64 0, .int .i64 0]) (t := 24) ?hr ?_; (case hd => rfl); (case hg => rfl); (case hr => first|(go_simp; done)|(go_simp; rfl)); intro gb192 hg w154 hbox hb; have n0_ := Aside0.mk (kB (g := gb169) (by (with_reducible repeat first|apply kN|apply kD|apply kA); exact BK169.out) hb); have n1_ := Aside0.mk (kB (g := gb170) (by (with_reducible repeat first|apply kN|apply kD|apply kA); exact BK170.out) hb); have n2_ := Aside0.mk (kB (g := gb171) (by (with_reducible repeat first|apply kN|apply kD|apply kA); exact BK171.out) hb); have n3_ := Aside0.mk (kB (g := gb180) (by (with_reducible repeat first|apply kN|apply kD|apply kA); exact BK180.out) hb); have n4_ := Aside0.mk (kB (g := gb184) (by (with_reducible repeat first|apply kN|apply kD|apply kA); exact BK184.out) hb); have n5_ := Aside0.mk (kB (g := gb188) (by (with_reducible repeat first|apply kN|apply kD|apply kA); exact BK188.out) hb); have n6_ := Aside0.mk (bT (by repeat (first|(with_reducible first|exact HB.out|apply bA|apply bN|apply b1|refine bS ?_ GE169.out|refine bS ?_ GE170.out|refine bS ?_ GE171.out|refine bS ?_ GE180.out|refine bS ?_ GE184.out|refine bS ?_ GE188.out)|exact HB.out)) hb); have n7_ := Aside0.mk (hbox); have n8_ := Aside0.mk ((by rw [hg]; exact (bZ (by repeat (first|(with_reducible first|exact HB.out|apply bA|apply bN|apply b1|refine bS ?_ GE169.out|refine bS ?_ GE170.out|refine bS ?_ GE171.out|refine bS ?_ GE180.out|refine bS ?_ GE184.out|refine bS ?_ GE188.out)|exact HB.out))) : w.heap.size ≤ gb192)); have n9_ := n8_; have n10_ := Aside0.mk ((by rw [hg]; exact Nat.ne_of_lt (blk_lt (g := gb169) (by (with_reducible repeat first|apply kN|apply kD|apply kA); exact BK169.out)) : gb169 ≠ gb192)); have n11_ := Aside0.mk n10_.out.symm; have n12_ := Aside0.mk ((by rw [hg]; exact Nat.ne_of_lt (blk_lt (g := gb170) (by (with_reducible repeat first|apply kN|apply kD|apply kA); exact BK170.out)) : gb170 ≠ gb192)); have n13_ := Aside0.mk n12_.out.symm; have n14_ := Aside0.mk ((by rw [hg]; exact Nat.ne_of_lt (blk_lt (g := gb171) (by (with_reducible repeat first|apply kN|apply kD|apply kA); exact BK171.out)) : gb171 ≠ gb192)); have n15_ := Aside0.mk n14_.out.symm; have n16_ := Aside0.mk ((by rw [hg]; exact Nat.ne_of_lt (blk_lt (g := gb180) (by (with_reducible repeat first|apply kN|apply kD|apply kA); exact BK180.out)) : gb180 ≠ gb192)); have n17_ := Aside0.mk n16_.out.symm; have n18_ := Aside0.mk ((by rw [hg]; exact Nat.ne_of_lt (blk_lt (g := gb184) (by (with_reducible repeat first|apply kN|apply kD|apply kA); exact BK184.out)) : gb184 ≠ gb192)); have n19_ := Aside0.mk n18_.out.symm; have n20_ := Aside0.mk ((by rw [hg]; exact Nat.ne_of_lt (blk_lt (g := gb188) (by (with_reducible repeat first|apply kN|apply kD|apply kA); exact BK188.out)) : gb188 ≠ gb192)); have n21_ := Aside0.mk n20_.out.symm; clear BK169; clear BK170; clear BK171; clear BK180; clear BK184; clear BK188; clear HB; have BK169 := n0_; have BK170 := n1_; have BK171 := n2_; have BK180 := n3_; have BK184 := n4_; have BK188 := n5_; have HB := n6_; have BK192 := n7_; have GW192 := n8_; have GE192 := n9_; have NB169_192 := n10_; have NB192_169 := n11_; have NB170_192 := n12_; have NB192_170 := n13_; have NB171_192 := n14_; have NB192_171 := n15_; have NB180_192 := n16_; have NB192_180 := n17_; have NB184_192 := n18_; have NB192_184 := n19_; have NB188_192 := n20_; have NB192_188 := n21_; clear n0_ n1_ n2_ n3_ n4_ n5_ n6_ n7_ n8_ n9_ n10_ n11_ n12_ n13_ n14_ n15_ n16_ n17_ n18_ n19_ n20_ n21_; clear hb hbox hg; have hnb155 := NB192_169.out; have hnc155 := NB169_192.out; have hnb156 := NB192_170.out; have hnc156 := NB170_192.out; have hnb157 := NB192_171.out; have hnc157 := NB171_192.out; have hnb158 := NB192_180.out; have hnc158 := NB180_192.out; have hnb159 := NB192_184.out; have hnc159 := NB184_192.out; have hnb160 := NB192_188.out; have hnc160 := NB188_192.out; have hcz161_0 : w154.cell? ⟨gb192, 0, none⟩ = some (.int .i64 0) := (kC BK192.out 0).trans rfl; have hcz161_1 : w154.cell? ⟨gb192, 1, none⟩ = some (.int .i64 0) := (kC BK192.out 1).trans rfl; have hfz161_0 := blk_frozen BK192.out 0; have hfz161_1 := blk_frozen BK192.out 1; have hnb162 := NB180_169.out; have hnc162 := NB169_180.out; have hnb163 := NB180_184.out; have hnc163 := NB184_180.out; have hnb164 := NB180_188.out; have hnc164 := NB188_180.out; have hcz165_0 : w154.cell? ⟨gb180, 0, none⟩ = some (.int .i64 t177) := (kC BK180.out 0).trans rfl; have hcz165_1 : w154.cell? ⟨gb180, 1, none⟩ = some (.int .i64 t178) := (kC BK180.out 1).trans rfl; have hfz165_0 := blk_frozen BK180.out 0; have hfz165_1 := blk_frozen BK180.out 1; have hcz166_0 : w154.cell? ⟨gb171, 0, none⟩ = some (.int .i64 a2_0) := (kC BK171.out 0).trans rfl; have hcz166_1 : w154.cell? ⟨gb171, 1, none⟩ = some (.int .i64 a2_1) := (kC BK171.out 1).trans rfl; have hfz166_0 := blk_frozen BK171.out 0; have hfz166_1 := blk_frozen BK171.out 1)|((with_reducible refine gate_callee (f := 15) rfl ?_); refine goesL_ (some 97) rfl rfl Tryd.func15 (by kernel_rfl) rfl #[.agg #[.int .i64 t177, .int .i64 t178], .agg #[.int .i64 a2_0, .int .i64 a2_1]] rfl (by (try simp only [List.map_toArray, List.map_cons, List.map_nil]); first | done | rfl|(simp only [List.length_drop, List.length_take]; rfl)) ?_; (with_reducible refine (rational_Mul.calls t177 t178 a2_0 a2_1 t193 t194 t195 _ A139.out).mono ?_); rintro e w167 ⟨rfl, hb⟩; refine ⟨_, rfl, ?_⟩; have n0_ := Aside0.mk (kB (g := gb169) (o := .cells #[.int .i64 a0_0, .int .i64 a0_1] 24 (0, 0)) (by (with_reducible repeat first|apply kN|apply kD|apply kA); refine kF ?_ NB169_192.out _; (with_reducible repeat first|apply kN|apply kD|apply kA); refine kF ?_ NB169_192.out _; (with_reducible repeat first|apply kN|apply kD|apply kA); exact BK169.out) hb); have n1_ := Aside0.mk (kB (g := gb170) (o := .cells #[.int .i64 a1_0, .int .i64 a1_1] 24 (0, 0)) (by (with_reducible repeat first|apply kN|apply kD|apply kA); refine kF ?_ NB170_192.out _; (with_reducible repeat first|apply kN|apply kD|apply kA); refine kF ?_ NB170_192.out _; (with_reducible repeat first|apply kN|apply kD|apply kA); exact BK170.out) hb); have n2_ := Aside0.mk (kB (g := gb171) (o := .cells #[.int .i64 a2_0, .int .i64 a2_1] 24 (0, 0)) (by (with_reducible repeat first|apply kN|apply kD|apply kA); refine kF ?_ NB171_192.out _; (with_reducible repeat first|apply kN|apply kD|apply kA); refine kF ?_ NB171_192.out _; (with_reducible repeat first|apply kN|apply kD|apply kA); exact BK171.out) hb); have n3_ := Aside0.mk (kB (g := gb180) (o := .cells #[.int .i64 t177, .int .i64 t178] 24 (0, 0)) (by (with_reducible repeat first|apply kN|apply kD|apply kA); refine kF ?_ NB180_192.out _; (with_reducible repeat first|apply kN|apply kD|apply kA); refine kF ?_ NB180_192.out _; (with_reducible repeat first|apply kN|apply kD|apply kA); exact BK180.out) hb); have n4_ := Aside0.mk (kB (g := gb184) (o := .cells #[.int .i64 t181, .int .i64 t182] 24 (0, 0)) (by (with_reducible repeat first|apply kN|apply kD|apply kA); refine kF ?_ NB184_192.out _; (with_reducible repeat first|apply kN|apply kD|apply kA); refine kF ?_ NB184_192.out _; (with_reducible repeat first|apply kN|apply kD|apply kA); exact BK184.out) hb); have n5_ := Aside0.mk (kB (g := gb188) (o := .cells #[.int .i64 t185, .int .i64 t186] 24 (0, 0)) (by (with_reducible repeat first|apply kN|apply kD|apply kA); refine kF ?_ NB188_192.out _; (with_reducible repeat first|apply kN|apply kD|apply kA); refine kF ?_ NB188_192.out _; (with_reducible repeat first|apply kN|apply kD|apply kA); exact BK188.out) hb); have n6_ := Aside0.mk (kB (g := gb192) (o := .cells #[.int .i64 t189, .int .i64 t190] 24 (0, 0)) (by (with_reducible repeat first|apply kN|apply kD|apply kA); refine blk_put (cs := #[.int .i64 t189, .int .i64 0]) ?_ 1 _ rfl; (with_reducible repeat first|apply kN|apply kD|apply kA); refine blk_put (cs := #[.int .i64 0, .int .i64 0]) ?_ 0 _ rfl; (with_reducible repeat first|apply kN|apply kD|apply kA); exact BK192.out) hb); have n7_ := Aside0.mk (bT (by repeat (first|(with_reducible first|exact HB.out|apply bA|apply bN|apply b1|refine bS ?_ GE169.out|refine bS ?_ GE170.out|refine bS ?_ GE171.out|refine bS ?_ GE180.out|refine bS ?_ GE184.out|refine bS ?_ GE188.out|refine bS ?_ GE192.out)|exact HB.out)) hb); clear BK169; clear BK170; clear BK171; clear BK180; clear BK184; clear BK188; clear BK192; clear HB; have BK169 := n0_; have BK170 := n1_; have BK171 := n2_; have BK180 := n3_; have BK184 := n4_; have BK188 := n5_; have BK192 := n6_; have HB := n7_; clear n0_ n1_ n2_ n3_ n4_ n5_ n6_ n7_; (try clear hb); (try clear hb2); (try clear hk); (try clear hi))|((with_reducible refine gate_dst (N := 16) rfl ?_); refine box_event ?hg (N := 16) ?hd (cs := #[.int .i64 0, .int .i64 0]) (t := 24) ?hr ?_; (case hd => rfl); (case hg => rfl); (case hr => first|(go_simp; done)|(go_simp; rfl)); intro gb196 hg w168 hbox hb; have n0_ := Aside0.mk (kB (g := gb169) (by (with_reducible repeat first|apply kN|apply kD|apply kA); exact BK169.out) hb); have n1_ := Aside0.mk (kB (g := gb170) (by (with_reducible repeat first|apply kN|apply kD|apply kA); exact BK170.out) hb); have n2_ := Aside0.mk (kB (g := gb171) (by (with_reducible repeat first|apply kN|apply kD|apply kA); exact BK171.out) hb); have n3_ := Aside0.mk (kB (g := gb180) (by (with_reducible repeat first|apply kN|apply kD|apply kA); exact BK180.out) hb); have n4_ := Aside0.mk (kB (g := gb184) (by (with_reducible repeat first|apply kN|apply kD|apply kA); exact BK184.out) hb); have n5_ := Aside0.mk (kB (g := gb188) (by (with_reducible repeat first|apply kN|apply kD|apply kA); exact BK188.out) hb); have n6_ := Aside0.mk (kB (g := gb192) (by (with_reducible repeat first|apply kN|apply kD|apply kA); exact BK192.out) hb); have n7_ := Aside0.mk (bT (by repeat (first|(with_reducible first|exact HB.out|apply bA|apply bN|apply b1|refine bS ?_ GE169.out|refine bS ?_ GE170.out|refine bS ?_ GE171.out|refine bS ?_ GE180.out|refine bS ?_ GE184.out|refine bS ?_ GE188.out|refine bS ?_ GE192.out)|exact HB.out)) hb); have n8_ := Aside0.mk (hbox); have n9_ := Aside0.mk ((by rw [hg]; exact (bZ (by repeat (first|(with_reducible first|exact HB.out|apply bA|apply bN|apply b1|refine bS ?_ GE169.out|refine bS ?_ GE170.out|refine bS ?_ GE171.out|refine bS ?_ GE180.out|refine bS ?_ GE184.out|refine bS ?_ GE188.out|refine bS ?_ GE192.out)|exact HB.out))) : w.heap.size ≤ gb196)); have n10_ := n9_; have n11_ := Aside0.mk ((by rw [hg]; exact Nat.ne_of_lt (blk_lt (g := gb169) (by (with_reducible repeat first|apply kN|apply kD|apply kA); exact BK169.out)) : gb169 ≠ gb196)); have n12_ := Aside0.mk n11_.out.symm; have n13_ := Aside0.mk ((by rw [hg]; exact Nat.ne_of_lt (blk_lt (g := gb170) (by (with_reducible repeat first|apply kN|apply kD|apply kA); exact BK170.out)) : gb170 ≠ gb196)); have n14_ := Aside0.mk n13_.out.symm; have n15_ := Aside0.mk ((by rw [hg]; exact Nat.ne_of_lt (blk_lt (g := gb171) (by (with_reducible repeat first|apply kN|apply kD|apply kA); exact BK171.out)) : gb171 ≠ gb196)); have n16_ := Aside0.mk n15_.out.symm; have n17_ := Aside0.mk ((by rw [hg]; exact Nat.ne_of_lt (blk_lt (g := gb180) (by (with_reducible repeat first|apply kN|apply kD|apply kA); exact BK180.out)) : gb180 ≠ gb196)); have n18_ := Aside0.mk n17_.out.symm; have n19_ := Aside0.mk ((by rw [hg]; exact Nat.ne_of_lt (blk_lt (g := gb184) (by (with_reducible repeat first|apply kN|apply kD|apply kA); exact BK184.out)) : gb184 ≠ gb196)); have n20_ := Aside0.mk n19_.out.symm; have n21_ := Aside0.mk ((by rw [hg]; exact Nat.ne_of_lt (blk_lt (g := gb188) (by (with_reducible repeat first|apply kN|apply kD|apply kA); exact BK188.out)) : gb188 ≠ gb196)); have n22_ := Aside0.mk n21_.out.symm; have n23_ := Aside0.mk ((by rw [hg]; exact Nat.ne_of_lt (blk_lt (g := gb192) (by (with_reducible repeat first|apply kN|apply kD|apply kA); exact BK192.out)) : gb192 ≠ gb196)); have n24_ := Aside0.mk n23_.out.symm; clear BK169; clear BK170; clear BK171; clear BK180; clear BK184; clear BK188; clear BK192; clear HB; have BK169 := n0_; have BK170 := n1_; have BK171 := n2_; have BK180 := n3_; have BK184 := n4_; have BK188 := n5_; have BK192 := n6_; have HB := n7_; have BK196 := n8_; have GW196 := n9_; have GE196 := n10_; have NB169_196 := n11_; have NB196_169 := n12_; have NB170_196 := n13_; have NB196_170 := n14_; have NB171_196 := n15_; have NB196_171 := n16_; have NB180_196 := n17_; have NB196_180 := n18_; have NB184_196 := n19_; have NB196_184 := n20_; have NB188_196 := n21_; have NB196_188 := n22_; have NB192_196 := n23_; have NB196_192 := n24_; clear n0_ n1_ n2_ n3_ n4_ n5_ n6_ n7_ n8_ n9_ n10_ n11_ n12_ n13_ n14_ n15_ n16_ n17_ n18_ n19_ n20_ n21_ n22_ n23_ n24_; clear hb hbox hg; have hnb169 := NB196_169.out; have hnc169 := NB169_196.out; have hnb170 := NB196_170.out; have hnc170 := NB170_196.out; have hnb171 := NB196_171.out; have hnc171 := NB171_196.out; have hnb172 := NB196_180.out; have hnc172 := NB180_196.out; have hnb173 := NB196_184.out; have hnc173 := NB184_196.out; have hnb174 := NB196_188.out; have hnc174 := NB188_196.out; have hnb175 := NB196_192.out; have hnc175 := NB192_196.out; have hcz176_0 : w168.cell? ⟨gb196, 0, none⟩ = some (.int .i64 0) := (kC BK196.out 0).trans rfl; have hcz176_1 : w168.cell? ⟨gb196, 1, none⟩ = some (.int .i64 0) := (kC BK196.out 1).trans rfl; have hfz176_0 := blk_frozen BK196.out 0; have hfz176_1 := blk_frozen BK196.out 1; have hnb177 := NB169_184.out; have hnc177 := NB184_169.out; have hnb178 := NB169_188.out; have hnc178 := NB188_169.out; have hcz179_0 : w168.cell? ⟨gb169, 0, none⟩ = some (.int .i64 a0_0) := (kC BK169.out 0).trans rfl; have hcz179_1 : w168.cell? ⟨gb169, 1, none⟩ = some (.int .i64 a0_1) := (kC BK169.out 1).trans rfl; have hfz179_0 := blk_frozen BK169.out 0; have hfz179_1 := blk_frozen BK169.out 1; have hcz180_0 : w168.cell? ⟨gb192, 0, none⟩ = some (.int .i64 t189) := (kC BK192.out 0).trans rfl; have hcz180_1 : w168.cell? ⟨gb192, 1, none⟩ = some (.int .i64 t190) := (kC BK192.out 1).trans rfl; have hfz180_0 := blk_frozen BK192.out 0; have hfz180_1 := blk_frozen BK192.out 1)|((with_reducible refine gate_callee (f := 15) rfl ?_); refine goesL_ (some 103) rfl rfl Tryd.func15 (by kernel_rfl) rfl #[.agg #[.int .i64 a0_0, .int .i64 a0_1], .agg #[.int .i64 t189, .int .i64 t190]] rfl (by (try simp only [List.map_toArray, List.map_cons, List.map_nil]); first | done | rfl|(simp only [List.length_drop, List.length_take]; rfl)) ?_; (with_reducible refine (rational_Mul.calls a0_0 a0_1 t189 t190 t197 t198 t199 _ A140.out).mono ?_); rintro e w181 ⟨rfl, hb⟩; refine ⟨_, rfl, ?_⟩; have n0_ := Aside0.mk (kB (g := gb169) (o := .cells #[.int .i64 a0_0, .int .i64 a0_1] 24 (0, 0)) (by (with_reducible repeat first|apply kN|apply kD|apply kA); refine kF ?_ NB169_196.out _; (with_reducible repeat first|apply kN|apply kD|apply kA); refine kF ?_ NB169_196.out _; (with_reducible repeat first|apply kN|apply kD|apply kA); exact BK169.out) hb); have n1_ := Aside0.mk (kB (g := gb170) (o := .cells #[.int .i64 a1_0, .int .i64 a1_1] 24 (0, 0)) (by (with_reducible repeat first|apply kN|apply kD|apply kA); refine kF ?_ NB170_196.out _; (with_reducible repeat first|apply kN|apply kD|apply kA); refine kF ?_ NB170_196.out _; (with_reducible repeat first|apply kN|apply kD|apply kA); exact BK170.out) hb); have n2_ := Aside0.mk (kB (g := gb171) (o := .cells #[.int .i64 a2_0, .int .i64 a2_1] 24 (0, 0)) (by (with_reducible repeat first|apply kN|apply kD|apply kA); refine kF ?_ NB171_196.out _; (with_reducible repeat first|apply kN|apply kD|apply kA); refine kF ?_ NB171_196.out _; (with_reducible repeat first|apply kN|apply kD|apply kA); exact BK171.out) hb); have n3_ := Aside0.mk (kB (g := gb180) (o := .cells #[.int .i64 t177, .int .i64 t178] 24 (0, 0)) (by (with_reducible repeat first|apply kN|apply kD|apply kA); refine kF ?_ NB180_196.out _; (with_reducible repeat first|apply kN|apply kD|apply kA); refine kF ?_ NB180_196.out _; (with_reducible repeat first|apply kN|apply kD|apply kA); exact BK180.out) hb); have n4_ := Aside0.mk (kB (g := gb184) (o := .cells #[.int .i64 t181, .int .i64 t182] 24 (0, 0)) (by (with_reducible repeat first|apply kN|apply kD|apply kA); refine kF ?_ NB184_196.out _; (with_reducible repeat first|apply kN|apply kD|apply kA); refine kF ?_ NB184_196.out _; (with_reducible repeat first|apply kN|apply kD|apply kA); exact BK184.out) hb); have n5_ := Aside0.mk (kB (g := gb188) (o := .cells #[.int .i64 t185, .int .i64 t186] 24 (0, 0)) (by (with_reducible repeat first|apply kN|apply kD|apply kA); refine kF ?_ NB188_196.out _; (with_reducible repeat first|apply kN|apply kD|apply kA); refine kF ?_ NB188_196.out _; (with_reducible repeat first|apply kN|apply kD|apply kA); exact BK188.out) hb); have n6_ := Aside0.mk (kB (g := gb192) (o := .cells #[.int .i64 t189, .int .i64 t190] 24 (0, 0)) (by (with_reducible repeat first|apply kN|apply kD|apply kA); refine kF ?_ NB192_196.out _; (with_reducible repeat first|apply kN|apply kD|apply kA); refine kF ?_ NB192_196.out _; (with_reducible repeat first|apply kN|apply kD|apply kA); exact BK192.out) hb); have n7_ := Aside0.mk (kB (g := gb196) (o := .cells #[.int .i64 t193, .int .i64 t194] 24 (0, 0)) (by (with_reducible repeat first|apply kN|apply kD|apply kA); refine blk_put (cs := #[.int .i64 t193, .int .i64 0]) ?_ 1 _ rfl; (with_reducible repeat first|apply kN|apply kD|apply kA); refine blk_put (cs := #[.int .i64 0, .int .i64 0]) ?_ 0 _ rfl; (with_reducible repeat first|apply kN|apply kD|apply kA); exact BK196.out) hb); have n8_ := Aside0.mk (bT (by repeat (first|(with_reducible first|exact HB.out|apply bA|apply bN|apply b1|refine bS ?_ GE169.out|refine bS ?_ GE170.out|refine bS ?_ GE171.out|refine bS ?_ GE180.out|refine bS ?_ GE184.out|refine bS ?_ GE188.out|refine bS ?_ GE192.out|refine bS ?_ GE196.out)|exact HB.out)) hb); clear BK169; clear BK170; clear BK171; clear BK180; clear BK184; clear BK188; clear BK192; clear BK196; clear HB; have BK169 := n0_; have BK170 := n1_; have BK171 := n2_; have BK180 := n3_; have BK184 := n4_; have BK188 := n5_; have BK192 := n6_; have BK196 := n7_; have HB := n8_; clear n0_ n1_ n2_ n3_ n4_ n5_ n6_ n7_ n8_; (try clear hb); (try clear hb2); (try clear hk); (try clear hi))|((with_reducible refine gate_dst (N := 18) rfl ?_); refine box_event ?hg (N := 18) ?hd (cs := #[.int .i64 0, .int .i64 0]) (t := 24) ?hr ?_; (case hd => rfl); (case hg => rfl); (case hr => first|(go_simp; done)|(go_simp; rfl)); intro gb200 hg w182 hbox hb; have n0_ := Aside0.mk (kB (g := gb169) (by (with_reducible repeat first|apply kN|apply kD|apply kA); exact BK169.out) hb); have n1_ := Aside0.mk (kB (g := gb170) (by (with_reducible repeat first|apply kN|apply kD|apply kA); exact BK170.out) hb); have n2_ := Aside0.mk (kB (g := gb171) (by (with_reducible repeat first|apply kN|apply kD|apply kA); exact BK171.out) hb); have n3_ := Aside0.mk (kB (g := gb180) (by (with_reducible repeat first|apply kN|apply kD|apply kA); exact BK180.out) hb); have n4_ := Aside0.mk (kB (g := gb184) (by (with_reducible repeat first|apply kN|apply kD|apply kA); exact BK184.out) hb); have n5_ := Aside0.mk (kB (g := gb188) (by (with_reducible repeat first|apply kN|apply kD|apply kA); exact BK188.out) hb); have n6_ := Aside0.mk (kB (g := gb192) (by (with_reducible repeat first|apply kN|apply kD|apply kA); exact BK192.out) hb); have n7_ := Aside0.mk (kB (g := gb196) (by (with_reducible repeat first|apply kN|apply kD|apply kA); exact BK196.out) hb); have n8_ := Aside0.mk (bT (by repeat (first|(with_reducible first|exact HB.out|apply bA|apply bN|apply b1|refine bS ?_ GE169.out|refine bS ?_ GE170.out|refine bS ?_ GE171.out|refine bS ?_ GE180.out|refine bS ?_ GE184.out|refine bS ?_ GE188.out|refine bS ?_ GE192.out|refine bS ?_ GE196.out)|exact HB.out)) hb); have n9_ := Aside0.mk (hbox); have n10_ := Aside0.mk ((by rw [hg]; exact (bZ (by repeat (first|(with_reducible first|exact HB.out|apply bA|apply bN|apply b1|refine bS ?_ GE169.out|refine bS ?_ GE170.out|refine bS ?_ GE171.out|refine bS ?_ GE180.out|refine bS ?_ GE184.out|refine bS ?_ GE188.out|refine bS ?_ GE192.out|refine bS ?_ GE196.out)|exact HB.out))) : w.heap.size ≤ gb200)); have n11_ := n10_; have n12_ := Aside0.mk ((by rw [hg]; exact Nat.ne_of_lt (blk_lt (g := gb169) (by (with_reducible repeat first|apply kN|apply kD|apply kA); exact BK169.out)) : gb169 ≠ gb200)); have n13_ := Aside0.mk n12_.out.symm; have n14_ := Aside0.mk ((by rw [hg]; exact Nat.ne_of_lt (blk_lt (g := gb170) (by (with_reducible repeat first|apply kN|apply kD|apply kA); exact BK170.out)) : gb170 ≠ gb200)); have n15_ := Aside0.mk n14_.out.symm; have n16_ := Aside0.mk ((by rw [hg]; exact Nat.ne_of_lt (blk_lt (g := gb171) (by (with_reducible repeat first|apply kN|apply kD|apply kA); exact BK171.out)) : gb171 ≠ gb200)); have n17_ := Aside0.mk n16_.out.symm; have n18_ := Aside0.mk ((by rw [hg]; exact Nat.ne_of_lt (blk_lt (g := gb180) (by (with_reducible repeat first|apply kN|apply kD|apply kA); exact BK180.out)) : gb180 ≠ gb200)); have n19_ := Aside0.mk n18_.out.symm; have n20_ := Aside0.mk ((by rw [hg]; exact Nat.ne_of_lt (blk_lt (g := gb184) (by (with_reducible repeat first|apply kN|apply kD|apply kA); exact BK184.out)) : gb184 ≠ gb200)); have n21_ := Aside0.mk n20_.out.symm; have n22_ := Aside0.mk ((by rw [hg]; exact Nat.ne_of_lt (blk_lt (g := gb188) (by (with_reducible repeat first|apply kN|apply kD|apply kA); exact BK188.out)) : gb188 ≠ gb200)); have n23_ := Aside0.mk n22_.out.symm; have n24_ := Aside0.mk ((by rw [hg]; exact Nat.ne_of_lt (blk_lt (g := gb192) (by (with_reducible repeat first|apply kN|apply kD|apply kA); exact BK192.out)) : gb192 ≠ gb200)); have n25_ := Aside0.mk n24_.out.symm; have n26_ := Aside0.mk ((by rw [hg]; exact Nat.ne_of_lt (blk_lt (g := gb196) (by (with_reducible repeat first|apply kN|apply kD|apply kA); exact BK196.out)) : gb196 ≠ gb200)); have n27_ := Aside0.mk n26_.out.symm; clear BK169; clear BK170; clear BK171; clear BK180; clear BK184; clear BK188; clear BK192; clear BK196; clear HB; have BK169 := n0_; have BK170 := n1_; have BK171 := n2_; have BK180 := n3_; have BK184 := n4_; have BK188 := n5_; have BK192 := n6_; have BK196 := n7_; have HB := n8_; have BK200 := n9_; have GW200 := n10_; have GE200 := n11_; have NB169_200 := n12_; have NB200_169 := n13_; have NB170_200 := n14_; have NB200_170 := n15_; have NB171_200 := n16_; have NB200_171 := n17_; have NB180_200 := n18_; have NB200_180 := n19_; have NB184_200 := n20_; have NB200_184 := n21_; have NB188_200 := n22_; have NB200_188 := n23_; have NB192_200 := n24_; have NB200_192 := n25_; have NB196_200 := n26_; have NB200_196 := n27_; clear n0_ n1_ n2_ n3_ n4_ n5_ n6_ n7_ n8_ n9_ n10_ n11_ n12_ n13_ n14_ n15_ n16_ n17_ n18_ n19_ n20_ n21_ n22_ n23_ n24_ n25_ n26_ n27_; clear hb hbox hg; have hnb183 := NB200_169.out; have hnc183 := NB169_200.out; have hnb184 := NB200_170.out; have hnc184 := NB170_200.out; have hnb185 := NB200_171.out; have hnc185 := NB171_200.out; have hnb186 := NB200_180.out; have hnc186 := NB180_200.out; have hnb187 := NB200_184.out; have hnc187 := NB184_200.out; have hnb188 := NB200_188.out; have hnc188 := NB188_200.out; have hnb189 := NB200_192.out; have hnc189 := NB192_200.out; have hnb190 := NB200_196.out; have hnc190 := NB196_200.out; have hcz191_0 : w182.cell? ⟨gb200, 0, none⟩ = some (.int .i64 0) := (kC BK200.out 0).trans rfl; have hcz191_1 : w182.cell? ⟨gb200, 1, none⟩ = some (.int .i64 0) := (kC BK200.out 1).trans rfl; have hfz191_0 := blk_frozen BK200.out 0; have hfz191_1 := blk_frozen BK200.out 1))
         (try simp only [Act.put, List.setIfInBounds_toArray, List.set_cons_zero, List.set_cons_succ])
         go_cut [120] (fun v120 wc => ∃ (kq : Nat) (x120_140 : Bool), v120 = .bool x120_140 ∧ Aside0 (cohousinglaw01_RationalProducts.j2 kq t172 x120_140 a0_0 a0_1 a1_0 a1_1 a2_0 a2_1 t177 t178 = some r) ∧ Aside0 (kq ≤ kj82) ∧ Aside0 (wc.heap[gb169]? = some (.cells #[.int .i64 a0_0, .int .i64 a0_1] 24 (0, 0))) ∧ Aside0 (wc.heap[gb170]? = some (.cells #[.int .i64 a1_0, .int .i64 a1_1] 24 (0, 0))) ∧ Aside0 (wc.heap[gb171]? = some (.cells #[.int .i64 a2_0, .int .i64 a2_1] 24 (0, 0))) ∧ Aside0 (wc.heap[gb180]? = some (.cells #[.int .i64 t177, .int .i64 t178] 24 (0, 0))) ∧ Aside0 (wc.heap[gb184]? = some (.cells #[.int .i64 t181, .int .i64 t182] 24 (0, 0))) ∧ Aside0 (wc.heap[gb188]? = some (.cells #[.int .i64 t185, .int .i64 t186] 24 (0, 0))) ∧ Aside0 (wc.heap[gb192]? = some (.cells #[.int .i64 t189, .int .i64 t190] 24 (0, 0))) ∧ Aside0 (wc.heap[gb196]? = some (.cells #[.int .i64 t193, .int .i64 t194] 24 (0, 0))) ∧ Aside0 (wc.heap[gb200]? = some (.cells #[.int .i64 t197, .int .i64 t198] 24 (0, 0))) ∧ Aside0 (Below w.heap.size w wc))
         case first =>
          have H := HC141.out
          clear HC141
          by_cases c192 : t191 = 0
          ·rw [if_pos c192] at H
           have c192b0 : (t191 == 0) = true := beq_iff_eq.mpr c192
           have c192b1 : (t191 != 0) = false := bne_eq_false_iff_eq.mpr c192
           clear c192
           (first | rw [c192b0] | (simp only [i64_w, i32_w]; rw [c192b0]) | skip)
           by_cases c193 : t195 = 0
           ·rw [if_pos c193] at H
            have c193b0 : (t195 == 0) = true := beq_iff_eq.mpr c193
            have c193b1 : (t195 != 0) = false := bne_eq_false_iff_eq.mpr c193
            clear c193
            by_cases c194 : t199 = 0
            ·rw [if_pos c194] at H
             have c194b0 : (t199 == 0) = true := beq_iff_eq.mpr c194
             have c194b1 : (t199 != 0) = false := bne_eq_false_iff_eq.mpr c194
             clear c194
             have H' := Aside0.mk H
             clear H
             have hnb195 := NB196_169.out
             have hnc195 := NB169_196.out
             have hnb196 := NB196_170.out
             have hnc196 := NB170_196.out
             have hnb197 := NB196_171.out
             have hnc197 := NB171_196.out
             have hnb198 := NB196_180.out
             have hnc198 := NB180_196.out
             have hnb199 := NB196_184.out
             have hnc199 := NB184_196.out
             have hnb200 := NB196_188.out
             have hnc200 := NB188_196.out
             have hnb201 := NB196_192.out
             have hnc201 := NB192_196.out
             have hnb202 := NB196_200.out
             have hnc202 := NB200_196.out
             have hcz203_0 : w182.cell? ⟨gb196, 0, none⟩ = some (.int .i64 t193) := (kC BK196.out 0).trans rfl
             have hcz203_1 : w182.cell? ⟨gb196, 1, none⟩ = some (.int .i64 t194) := (kC BK196.out 1).trans rfl
             have hfz203_0 := blk_frozen BK196.out 0
             have hfz203_1 := blk_frozen BK196.out 1
             have hnb204 := NB200_169.out
             have hnc204 := NB169_200.out
             have hnb205 := NB200_170.out
             have hnc205 := NB170_200.out
             have hnb206 := NB200_171.out
             have hnc206 := NB171_200.out
             have hnb207 := NB200_180.out
             have hnc207 := NB180_200.out
             have hnb208 := NB200_184.out
             have hnc208 := NB184_200.out
             have hnb209 := NB200_188.out
             have hnc209 := NB188_200.out
             have hnb210 := NB200_192.out
             have hnc210 := NB192_200.out
             have hcz211_0 : w182.cell? ⟨gb200, 0, none⟩ = some (.int .i64 0) := (kC BK200.out 0).trans rfl
             have hcz211_1 : w182.cell? ⟨gb200, 1, none⟩ = some (.int .i64 0) := (kC BK200.out 1).trans rfl
             have hfz211_0 := blk_frozen BK200.out 0
             have hfz211_1 := blk_frozen BK200.out 1
             go_wp2
             go_meet
             case rel => exact ⟨_, ((!(t193 == t197) || (!(t194 == t198)))), (by first | rfl|(simp; done)|(simp [*]; done)), H', ⟨by have := HJ8.out; have := HJ82.out; first | omega|exact Nat.le_refl _⟩, ⟨by (with_reducible repeat first|apply kN|apply kD|apply kA); refine kF ?_ NB169_200.out _; (with_reducible repeat first|apply kN|apply kD|apply kA); refine kF ?_ NB169_200.out _; (with_reducible repeat first|apply kN|apply kD|apply kA); exact BK169.out⟩, ⟨by (with_reducible repeat first|apply kN|apply kD|apply kA); refine kF ?_ NB170_200.out _; (with_reducible repeat first|apply kN|apply kD|apply kA); refine kF ?_ NB170_200.out _; (with_reducible repeat first|apply kN|apply kD|apply kA); exact BK170.out⟩, ⟨by (with_reducible repeat first|apply kN|apply kD|apply kA); refine kF ?_ NB171_200.out _; (with_reducible repeat first|apply kN|apply kD|apply kA); refine kF ?_ NB171_200.out _; (with_reducible repeat first|apply kN|apply kD|apply kA); exact BK171.out⟩, ⟨by (with_reducible repeat first|apply kN|apply kD|apply kA); refine kF ?_ NB180_200.out _; (with_reducible repeat first|apply kN|apply kD|apply kA); refine kF ?_ NB180_200.out _; (with_reducible repeat first|apply kN|apply kD|apply kA); exact BK180.out⟩, ⟨by (with_reducible repeat first|apply kN|apply kD|apply kA); refine kF ?_ NB184_200.out _; (with_reducible repeat first|apply kN|apply kD|apply kA); refine kF ?_ NB184_200.out _; (with_reducible repeat first|apply kN|apply kD|apply kA); exact BK184.out⟩, ⟨by (with_reducible repeat first|apply kN|apply kD|apply kA); refine kF ?_ NB188_200.out _; (with_reducible repeat first|apply kN|apply kD|apply kA); refine kF ?_ NB188_200.out _; (with_reducible repeat first|apply kN|apply kD|apply kA); exact BK188.out⟩, ⟨by (with_reducible repeat first|apply kN|apply kD|apply kA); refine kF ?_ NB192_200.out _; (with_reducible repeat first|apply kN|apply kD|apply kA); refine kF ?_ NB192_200.out _; (with_reducible repeat first|apply kN|apply kD|apply kA); exact BK192.out⟩, ⟨by (with_reducible repeat first|apply kN|apply kD|apply kA); refine kF ?_ NB196_200.out _; (with_reducible repeat first|apply kN|apply kD|apply kA); refine kF ?_ NB196_200.out _; (with_reducible repeat first|apply kN|apply kD|apply kA); exact BK196.out⟩, ⟨by (with_reducible repeat first|apply kN|apply kD|apply kA); refine blk_put (cs := #[.int .i64 t197, .int .i64 0]) ?_ 1 _ rfl; (with_reducible repeat first|apply kN|apply kD|apply kA); refine blk_put (cs := #[.int .i64 0, .int .i64 0]) ?_ 0 _ rfl; (with_reducible repeat first|apply kN|apply kD|apply kA); exact BK200.out⟩, ⟨by repeat (first|(with_reducible first|exact HB.out|apply bA|apply bN|apply b1|refine bS ?_ GE169.out|refine bS ?_ GE170.out|refine bS ?_ GE171.out|refine bS ?_ GE180.out|refine bS ?_ GE184.out|refine bS ?_ GE188.out|refine bS ?_ GE192.out|refine bS ?_ GE196.out|refine bS ?_ GE200.out)|exact HB.out)⟩⟩
            ·rw [if_neg c194] at H
             have c194b0 : (t199 == 0) = false := beq_eq_false_iff_ne.mpr c194
             have c194b1 : (t199 != 0) = true := bne_iff_ne.mpr c194
             have H' := Aside0.mk H
             clear H
             go_wp2
             go_meet
             case rel => exact ⟨_, (false), (by first | rfl|(simp; done)|(simp [*]; done)), H', ⟨by have := HJ8.out; have := HJ82.out; first | omega|exact Nat.le_refl _⟩, ⟨by (with_reducible repeat first|apply kN|apply kD|apply kA); refine kF ?_ NB169_200.out _; (with_reducible repeat first|apply kN|apply kD|apply kA); refine kF ?_ NB169_200.out _; (with_reducible repeat first|apply kN|apply kD|apply kA); exact BK169.out⟩, ⟨by (with_reducible repeat first|apply kN|apply kD|apply kA); refine kF ?_ NB170_200.out _; (with_reducible repeat first|apply kN|apply kD|apply kA); refine kF ?_ NB170_200.out _; (with_reducible repeat first|apply kN|apply kD|apply kA); exact BK170.out⟩, ⟨by (with_reducible repeat first|apply kN|apply kD|apply kA); refine kF ?_ NB171_200.out _; (with_reducible repeat first|apply kN|apply kD|apply kA); refine kF ?_ NB171_200.out _; (with_reducible repeat first|apply kN|apply kD|apply kA); exact BK171.out⟩, ⟨by (with_reducible repeat first|apply kN|apply kD|apply kA); refine kF ?_ NB180_200.out _; (with_reducible repeat first|apply kN|apply kD|apply kA); refine kF ?_ NB180_200.out _; (with_reducible repeat first|apply kN|apply kD|apply kA); exact BK180.out⟩, ⟨by (with_reducible repeat first|apply kN|apply kD|apply kA); refine kF ?_ NB184_200.out _; (with_reducible repeat first|apply kN|apply kD|apply kA); refine kF ?_ NB184_200.out _; (with_reducible repeat first|apply kN|apply kD|apply kA); exact BK184.out⟩, ⟨by (with_reducible repeat first|apply kN|apply kD|apply kA); refine kF ?_ NB188_200.out _; (with_reducible repeat first|apply kN|apply kD|apply kA); refine kF ?_ NB188_200.out _; (with_reducible repeat first|apply kN|apply kD|apply kA); exact BK188.out⟩, ⟨by (with_reducible repeat first|apply kN|apply kD|apply kA); refine kF ?_ NB192_200.out _; (with_reducible repeat first|apply kN|apply kD|apply kA); refine kF ?_ NB192_200.out _; (with_reducible repeat first|apply kN|apply kD|apply kA); exact BK192.out⟩, ⟨by (with_reducible repeat first|apply kN|apply kD|apply kA); refine kF ?_ NB196_200.out _; (with_reducible repeat first|apply kN|apply kD|apply kA); refine kF ?_ NB196_200.out _; (with_reducible repeat first|apply kN|apply kD|apply kA); exact BK196.out⟩, ⟨by (with_reducible repeat first|apply kN|apply kD|apply kA); refine blk_put (cs := #[.int .i64 t197, .int .i64 0]) ?_ 1 _ rfl; (with_reducible repeat first|apply kN|apply kD|apply kA); refine blk_put (cs := #[.int .i64 0, .int .i64 0]) ?_ 0 _ rfl; (with_reducible repeat first|apply kN|apply kD|apply kA); exact BK200.out⟩, ⟨by repeat (first|(with_reducible first|exact HB.out|apply bA|apply bN|apply b1|refine bS ?_ GE169.out|refine bS ?_ GE170.out|refine bS ?_ GE171.out|refine bS ?_ GE180.out|refine bS ?_ GE184.out|refine bS ?_ GE188.out|refine bS ?_ GE192.out|refine bS ?_ GE196.out|refine bS ?_ GE200.out)|exact HB.out)⟩⟩
           ·rw [if_neg c193] at H
            have c193b0 : (t195 == 0) = false := beq_eq_false_iff_ne.mpr c193
            have c193b1 : (t195 != 0) = true := bne_iff_ne.mpr c193
            have H' := Aside0.mk H
            clear H
            go_wp2
            go_meet
            case rel => exact ⟨_, (false), (by first | rfl|(simp; done)|(simp [*]; done)), H', ⟨by have := HJ8.out; have := HJ82.out; first | omega|exact Nat.le_refl _⟩, ⟨by (with_reducible repeat first|apply kN|apply kD|apply kA); refine kF ?_ NB169_200.out _; (with_reducible repeat first|apply kN|apply kD|apply kA); refine kF ?_ NB169_200.out _; (with_reducible repeat first|apply kN|apply kD|apply kA); exact BK169.out⟩, ⟨by (with_reducible repeat first|apply kN|apply kD|apply kA); refine kF ?_ NB170_200.out _; (with_reducible repeat first|apply kN|apply kD|apply kA); refine kF ?_ NB170_200.out _; (with_reducible repeat first|apply kN|apply kD|apply kA); exact BK170.out⟩, ⟨by (with_reducible repeat first|apply kN|apply kD|apply kA); refine kF ?_ NB171_200.out _; (with_reducible repeat first|apply kN|apply kD|apply kA); refine kF ?_ NB171_200.out _; (with_reducible repeat first|apply kN|apply kD|apply kA); exact BK171.out⟩, ⟨by (with_reducible repeat first|apply kN|apply kD|apply kA); refine kF ?_ NB180_200.out _; (with_reducible repeat first|apply kN|apply kD|apply kA); refine kF ?_ NB180_200.out _; (with_reducible repeat first|apply kN|apply kD|apply kA); exact BK180.out⟩, ⟨by (with_reducible repeat first|apply kN|apply kD|apply kA); refine kF ?_ NB184_200.out _; (with_reducible repeat first|apply kN|apply kD|apply kA); refine kF ?_ NB184_200.out _; (with_reducible repeat first|apply kN|apply kD|apply kA); exact BK184.out⟩, ⟨by (with_reducible repeat first|apply kN|apply kD|apply kA); refine kF ?_ NB188_200.out _; (with_reducible repeat first|apply kN|apply kD|apply kA); refine kF ?_ NB188_200.out _; (with_reducible repeat first|apply kN|apply kD|apply kA); exact BK188.out⟩, ⟨by (with_reducible repeat first|apply kN|apply kD|apply kA); refine kF ?_ NB192_200.out _; (with_reducible repeat first|apply kN|apply kD|apply kA); refine kF ?_ NB192_200.out _; (with_reducible repeat first|apply kN|apply kD|apply kA); exact BK192.out⟩, ⟨by (with_reducible repeat first|apply kN|apply kD|apply kA); refine kF ?_ NB196_200.out _; (with_reducible repeat first|apply kN|apply kD|apply kA); refine kF ?_ NB196_200.out _; (with_reducible repeat first|apply kN|apply kD|apply kA); exact BK196.out⟩, ⟨by (with_reducible repeat first|apply kN|apply kD|apply kA); refine blk_put (cs := #[.int .i64 t197, .int .i64 0]) ?_ 1 _ rfl; (with_reducible repeat first|apply kN|apply kD|apply kA); refine blk_put (cs := #[.int .i64 0, .int .i64 0]) ?_ 0 _ rfl; (with_reducible repeat first|apply kN|apply kD|apply kA); exact BK200.out⟩, ⟨by repeat (first|(with_reducible first|exact HB.out|apply bA|apply bN|apply b1|refine bS ?_ GE169.out|refine bS ?_ GE170.out|refine bS ?_ GE171.out|refine bS ?_ GE180.out|refine bS ?_ GE184.out|refine bS ?_ GE188.out|refine bS ?_ GE192.out|refine bS ?_ GE196.out|refine bS ?_ GE200.out)|exact HB.out)⟩⟩
          ·rw [if_neg c192] at H
           have c192b0 : (t191 == 0) = false := beq_eq_false_iff_ne.mpr c192
           have c192b1 : (t191 != 0) = true := bne_iff_ne.mpr c192
           (first | rw [c192b0] | (simp only [i64_w, i32_w]; rw [c192b0]) | skip)
           have H' := Aside0.mk H
           clear H
           go_wp2
           go_meet
           case rel => exact ⟨_, (false), (by first | rfl|(simp; done)|(simp [*]; done)), H', ⟨by have := HJ8.out; have := HJ82.out; first | omega|exact Nat.le_refl _⟩, ⟨by (with_reducible repeat first|apply kN|apply kD|apply kA); refine kF ?_ NB169_200.out _; (with_reducible repeat first|apply kN|apply kD|apply kA); refine kF ?_ NB169_200.out _; (with_reducible repeat first|apply kN|apply kD|apply kA); exact BK169.out⟩, ⟨by (with_reducible repeat first|apply kN|apply kD|apply kA); refine kF ?_ NB170_200.out _; (with_reducible repeat first|apply kN|apply kD|apply kA); refine kF ?_ NB170_200.out _; (with_reducible repeat first|apply kN|apply kD|apply kA); exact BK170.out⟩, ⟨by (with_reducible repeat first|apply kN|apply kD|apply kA); refine kF ?_ NB171_200.out _; (with_reducible repeat first|apply kN|apply kD|apply kA); refine kF ?_ NB171_200.out _; (with_reducible repeat first|apply kN|apply kD|apply kA); exact BK171.out⟩, ⟨by (with_reducible repeat first|apply kN|apply kD|apply kA); refine kF ?_ NB180_200.out _; (with_reducible repeat first|apply kN|apply kD|apply kA); refine kF ?_ NB180_200.out _; (with_reducible repeat first|apply kN|apply kD|apply kA); exact BK180.out⟩, ⟨by (with_reducible repeat first|apply kN|apply kD|apply kA); refine kF ?_ NB184_200.out _; (with_reducible repeat first|apply kN|apply kD|apply kA); refine kF ?_ NB184_200.out _; (with_reducible repeat first|apply kN|apply kD|apply kA); exact BK184.out⟩, ⟨by (with_reducible repeat first|apply kN|apply kD|apply kA); refine kF ?_ NB188_200.out _; (with_reducible repeat first|apply kN|apply kD|apply kA); refine kF ?_ NB188_200.out _; (with_reducible repeat first|apply kN|apply kD|apply kA); exact BK188.out⟩, ⟨by (with_reducible repeat first|apply kN|apply kD|apply kA); refine kF ?_ NB192_200.out _; (with_reducible repeat first|apply kN|apply kD|apply kA); refine kF ?_ NB192_200.out _; (with_reducible repeat first|apply kN|apply kD|apply kA); exact BK192.out⟩, ⟨by (with_reducible repeat first|apply kN|apply kD|apply kA); refine kF ?_ NB196_200.out _; (with_reducible repeat first|apply kN|apply kD|apply kA); refine kF ?_ NB196_200.out _; (with_reducible repeat first|apply kN|apply kD|apply kA); exact BK196.out⟩, ⟨by (with_reducible repeat first|apply kN|apply kD|apply kA); refine blk_put (cs := #[.int .i64 t197, .int .i64 0]) ?_ 1 _ rfl; (with_reducible repeat first|apply kN|apply kD|apply kA); refine blk_put (cs := #[.int .i64 0, .int .i64 0]) ?_ 0 _ rfl; (with_reducible repeat first|apply kN|apply kD|apply kA); exact BK200.out⟩, ⟨by repeat (first|(with_reducible first|exact HB.out|apply bA|apply bN|apply b1|refine bS ?_ GE169.out|refine bS ?_ GE170.out|refine bS ?_ GE171.out|refine bS ?_ GE180.out|refine bS ?_ GE184.out|refine bS ?_ GE188.out|refine bS ?_ GE192.out|refine bS ?_ GE196.out|refine bS ?_ GE200.out)|exact HB.out)⟩⟩
         case rest =>
          clear HC141
          try clear c1
          try clear c2
          try clear p2
          try clear c3
          try clear c4
          try clear c5
          try clear c6
          try clear c7
          try clear c8
          try clear c9
          try clear c10
          try clear c11
          try clear c12
          try clear c13
          try clear c14
          try clear c15
          try clear c16
          try clear c17
          try clear c18
          try clear c19
          try clear c20
          try clear c21
          try clear c28
          try clear c29
          try clear c30
          try clear c36
          try clear c37
          try clear c38
          try clear c39
          try clear c41
          try clear c41b0
          try clear c42
          try clear c43
          try clear c44
          try clear c45
          try clear c47
          try clear c48
          try clear c49
          try clear c51
          try clear c51b0
          try clear c51b1
          try clear c52
          try clear c52b0
          try clear c52b1
          try clear c53
          try clear c54
          try clear c55
          try clear c56
          try clear c58
          try clear c59
          try clear c60
          try clear c62
          try clear c63
          try clear c64
          try clear c65
          try clear c67
          try clear c68
          try clear c69
          try clear c71
          try clear c72
          try clear c73
          try clear c74
          try clear c76
          try clear c77
          try clear c78
          try clear c80
          try clear c81
          try clear c81b0
          try clear c81b1
          try clear c84
          try clear c85
          try clear c86
          try clear c87
          try clear c89
          try clear c90
          try clear c91
          try clear c95
          try clear c96
          try clear c97
          try clear c98
          try clear c99
          try clear c101
          try clear c101b0
          try clear c101b1
          try clear c102
          try clear c102b0
          try clear c102b1
          try clear c103
          try clear c104
          try clear c105
          try clear c106
          try clear c107
          try clear c109
          try clear c110
          try clear c111
          try clear c112
          try clear c113
          try clear c115
          try clear c115b0
          try clear c115b1
          try clear c116
          try clear c117
          try clear c118
          try clear c119
          try clear c120
          try clear c122
          try clear c123
          try clear c124
          try clear c125
          try clear c127
          try clear c128
          try clear c129
          try clear c131
          try clear c132
          try clear c133
          try clear c134
          try clear c135
          try clear c137
          try clear c142
          try clear c143
          try clear c144
          try clear c145
          try clear c146
          try clear c148
          try clear c149
          try clear c150
          try clear c151
          try clear c155
          try clear c156
          try clear c157
          try clear c158
          try clear c159
          try clear c160
          try clear c162
          try clear c163
          try clear c164
          try clear c169
          try clear c170
          try clear c171
          try clear c172
          try clear c173
          try clear c174
          try clear c175
          try clear c177
          try clear c178
          try clear c183
          try clear c184
          try clear c185
          try clear c186
          try clear c187
          try clear c188
          try clear c189
          try clear c190
          try clear c192
          try clear c192b0
          try clear c192b1
          try clear c193
          try clear c193b0
          try clear c193b1
          try clear c194
          try clear c194b0
          try clear c194b1
          try clear c195
          try clear c196
          try clear c197
          try clear c198
          try clear c199
          try clear c200
          try clear c201
          try clear c202
          try clear c204
          try clear c205
          try clear c206
          try clear c207
          try clear c208
          try clear c209
          try clear c210
          try clear hcz100_0
          try clear hcz100_1
          try clear hcz108_0
          try clear hcz108_1
          try clear hcz114_0
          try clear hcz114_1
          try clear hcz121_0
          try clear hcz121_1
          try clear hcz126_0
          try clear hcz126_1
          try clear hcz130_0
          try clear hcz130_1
          try clear hcz136_0
          try clear hcz136_1
          try clear hcz147_0
          try clear hcz147_1
          try clear hcz152_0
          try clear hcz152_1
          try clear hcz161_0
          try clear hcz161_1
          try clear hcz165_0
          try clear hcz165_1
          try clear hcz166_0
          try clear hcz166_1
          try clear hcz16_0
          try clear hcz16_1
          try clear hcz176_0
          try clear hcz176_1
          try clear hcz179_0
          try clear hcz179_1
          try clear hcz180_0
          try clear hcz180_1
          try clear hcz18_0
          try clear hcz18_1
          try clear hcz191_0
          try clear hcz191_1
          try clear hcz19_0
          try clear hcz19_1
          try clear hcz203_0
          try clear hcz203_1
          try clear hcz211_0
          try clear hcz211_1
          try clear hcz24_0
          try clear hcz24_1
          try clear hcz25_0
          try clear hcz25_1
          try clear hcz31_0
          try clear hcz31_1
          try clear hcz32_0
          try clear hcz32_1
          try clear hcz33_0
          try clear hcz33_1
          try clear hcz40_0
          try clear hcz40_1
          try clear hcz46_0
          try clear hcz46_1
          try clear hcz50_0
          try clear hcz50_1
          try clear hcz57_0
          try clear hcz57_1
          try clear hcz61_0
          try clear hcz61_1
          try clear hcz66_0
          try clear hcz66_1
          try clear hcz70_0
          try clear hcz70_1
          try clear hcz75_0
          try clear hcz75_1
          try clear hcz79_0
          try clear hcz79_1
          try clear hcz88_0
          try clear hcz88_1
          try clear hcz92_0
          try clear hcz92_1
          try clear hfz100_0
          try clear hfz100_1
          try clear hfz108_0
          try clear hfz108_1
          try clear hfz114_0
          try clear hfz114_1
          try clear hfz121_0
          try clear hfz121_1
          try clear hfz126_0
          try clear hfz126_1
          try clear hfz130_0
          try clear hfz130_1
          try clear hfz136_0
          try clear hfz136_1
          try clear hfz147_0
          try clear hfz147_1
          try clear hfz152_0
          try clear hfz152_1
          try clear hfz161_0
          try clear hfz161_1
          try clear hfz165_0
          try clear hfz165_1
          try clear hfz166_0
          try clear hfz166_1
          try clear hfz16_0
          try clear hfz16_1
          try clear hfz176_0
          try clear hfz176_1
          try clear hfz179_0
          try clear hfz179_1
          try clear hfz180_0
          try clear hfz180_1
          try clear hfz18_0
          try clear hfz18_1
          try clear hfz191_0
          try clear hfz191_1
          try clear hfz19_0
          try clear hfz19_1
          try clear hfz203_0
          try clear hfz203_1
          try clear hfz211_0
          try clear hfz211_1
          try clear hfz24_0
          try clear hfz24_1
          try clear hfz25_0
          try clear hfz25_1
          try clear hfz31_0
          try clear hfz31_1
          try clear hfz32_0
          try clear hfz32_1
          try clear hfz33_0
          try clear hfz33_1
          try clear hfz40_0
          try clear hfz40_1
          try clear hfz46_0
          try clear hfz46_1
          try clear hfz50_0
          try clear hfz50_1
          try clear hfz57_0
          try clear hfz57_1
          try clear hfz61_0
          try clear hfz61_1
          try clear hfz66_0
          try clear hfz66_1
          try clear hfz70_0
          try clear hfz70_1
          try clear hfz75_0
          try clear hfz75_1
          try clear hfz79_0
          try clear hfz79_1
          try clear hfz88_0
          try clear hfz88_1
          try clear hfz92_0
          try clear hfz92_1
          try clear p2
          obtain ⟨kq, x120_140, rfl, HA, HJ140, BK169, BK170, BK171, BK180, BK184, BK188, BK192, BK196, BK200, HB⟩ := hcut
          cases kq with
          | zero => exact absurd HA.out (by simp [cohousinglaw01_RationalProducts.j2])
          | succ kj140 =>
           have H := HA.out
           clear HA
           simp only [cohousinglaw01_RationalProducts.j2] at H
           by_cases c212 : x120_140 = true
           ·subst c212
            have H1 : (none) = some r := by rw [if_pos rfl] at H; exact H
            clear H
            have H := H1
            clear H1
            exact absurd H (by simp)
           ·replace c212 := Bool.eq_false_iff.mpr c212
            subst c212
            have H1 : ((rational_Add.f a1_0 a1_1 a2_0 a2_1).bind fun bt201 => ((rational_Mul.f a0_0 a0_1 bt201.1 bt201.2.1).bind fun bt204 => ((rational_Mul.f a0_0 a0_1 a2_0 a2_1).bind fun bt207 => ((rational_Add.f t177 t178 bt207.1 bt207.2.1).bind fun bt211 => (if t172 = true then (if bt201.2.2 = 0 then (if bt204.2.2 = 0 then (if bt207.2.2 = 0 then (if bt211.2.2 = 0 then (if (bt204.1 == bt211.1 && (bt204.2.1 == bt211.2.1)) = true then (some true) else (none)) else (some true)) else (some true)) else (some true)) else (some true)) else (none)))))) = some r := by rw [if_neg (show ¬ (false = true) by decide)] at H; exact H
            clear H
            have H := H1
            clear H1
            replace H := Option.bind_eq_some_iff.mp H
            obtain ⟨⟨t201, t202, t203⟩, A2130, H⟩ := H
            replace H : ((rational_Mul.f a0_0 a0_1 t201 t202).bind fun bt204 => ((rational_Mul.f a0_0 a0_1 a2_0 a2_1).bind fun bt207 => ((rational_Add.f t177 t178 bt207.1 bt207.2.1).bind fun bt211 => (if t172 = true then (if t203 = 0 then (if bt204.2.2 = 0 then (if bt207.2.2 = 0 then (if bt211.2.2 = 0 then (if (bt204.1 == bt211.1 && (bt204.2.1 == bt211.2.1)) = true then (some true) else (none)) else (some true)) else (some true)) else (some true)) else (some true)) else (none))))) = some r := H
            have A213 := Aside0.mk A2130
            clear A2130
            replace H := Option.bind_eq_some_iff.mp H
            obtain ⟨⟨t204, t205, t206⟩, A2140, H⟩ := H
            replace H : ((rational_Mul.f a0_0 a0_1 a2_0 a2_1).bind fun bt207 => ((rational_Add.f t177 t178 bt207.1 bt207.2.1).bind fun bt211 => (if t172 = true then (if t203 = 0 then (if t206 = 0 then (if bt207.2.2 = 0 then (if bt211.2.2 = 0 then (if (t204 == bt211.1 && (t205 == bt211.2.1)) = true then (some true) else (none)) else (some true)) else (some true)) else (some true)) else (some true)) else (none)))) = some r := H
            have A214 := Aside0.mk A2140
            clear A2140
            replace H := Option.bind_eq_some_iff.mp H
            obtain ⟨⟨t207, t208, t209⟩, A2150, H⟩ := H
            replace H : ((rational_Add.f t177 t178 t207 t208).bind fun bt211 => (if t172 = true then (if t203 = 0 then (if t206 = 0 then (if t209 = 0 then (if bt211.2.2 = 0 then (if (t204 == bt211.1 && (t205 == bt211.2.1)) = true then (some true) else (none)) else (some true)) else (some true)) else (some true)) else (some true)) else (none))) = some r := H
            have A215 := Aside0.mk A2150
            clear A2150
            replace H := Option.bind_eq_some_iff.mp H
            obtain ⟨⟨t211, t212, t213⟩, A2160, H⟩ := H
            replace H : (if t172 = true then (if t203 = 0 then (if t206 = 0 then (if t209 = 0 then (if t213 = 0 then (if (t204 == t211 && (t205 == t212)) = true then (some true) else (none)) else (some true)) else (some true)) else (some true)) else (some true)) else (none)) = some r := H
            have A216 := Aside0.mk A2160
            clear A2160
            by_cases c217 : t172 = true
            ·subst c217
             have H1 : (if t203 = 0 then (if t206 = 0 then (if t209 = 0 then (if t213 = 0 then (if (t204 == t211 && (t205 == t212)) = true then (some true) else (none)) else (some true)) else (some true)) else (some true)) else (some true)) = some r := by rw [if_pos rfl] at H; exact H
             clear H
             have H := H1
             clear H1
             by_cases c218 : t203 = 0
             ·rw [if_pos c218] at H
              have c218b0 : (t203 == 0) = true := beq_iff_eq.mpr c218
              have c218b1 : (t203 != 0) = false := bne_eq_false_iff_eq.mpr c218
              clear c218
              by_cases c219 : t206 = 0
              ·rw [if_pos c219] at H
               have c219b0 : (t206 == 0) = true := beq_iff_eq.mpr c219
               have c219b1 : (t206 != 0) = false := bne_eq_false_iff_eq.mpr c219
               clear c219
               by_cases c220 : t209 = 0
               ·rw [if_pos c220] at H
                have c220b0 : (t209 == 0) = true := beq_iff_eq.mpr c220
                have c220b1 : (t209 != 0) = false := bne_eq_false_iff_eq.mpr c220
                clear c220
                by_cases c221 : t213 = 0
                ·rw [if_pos c221] at H
                 have c221b0 : (t213 == 0) = true := beq_iff_eq.mpr c221
                 have c221b1 : (t213 != 0) = false := bne_eq_false_iff_eq.mpr c221
                 clear c221
                 by_cases c222 : (t204 == t211 && (t205 == t212)) = true
                 ·rw [if_pos c222] at H
                  have c222b0 : (t204 == t211 && (t205 == t212)) = true := c222
                  (try (have c222b1 : decide (t204 = t211 && (t205 == t212)) = true := by simpa using c222))
                  (try (have c222b2 : (t204 == t211 && (t205 == t212)) = true := by simpa using c222))
                  clear c222
                  obtain rfl := Option.some.inj H
                  have hnb223 := NB170_169.out
                  have hnc223 := NB169_170.out
                  have hnb224 := NB170_171.out
                  have hnc224 := NB171_170.out
                  have hnb225 := NB170_180.out
                  have hnc225 := NB180_170.out
                  have hnb226 := NB170_184.out
                  have hnc226 := NB184_170.out
                  have hnb227 := NB170_188.out
                  have hnc227 := NB188_170.out
                  have hnb228 := NB170_192.out
                  have hnc228 := NB192_170.out
                  have hnb229 := NB170_196.out
                  have hnc229 := NB196_170.out
                  have hnb230 := NB170_200.out
                  have hnc230 := NB200_170.out
                  have hcz231_0 : wc.cell? ⟨gb170, 0, none⟩ = some (.int .i64 a1_0) := (kC BK170.out 0).trans rfl
                  have hcz231_1 : wc.cell? ⟨gb170, 1, none⟩ = some (.int .i64 a1_1) := (kC BK170.out 1).trans rfl
                  have hfz231_0 := blk_frozen BK170.out 0
                  have hfz231_1 := blk_frozen BK170.out 1
                  have hnb232 := NB171_169.out
                  have hnc232 := NB169_171.out
                  have hnb233 := NB171_180.out
                  have hnc233 := NB180_171.out
                  have hnb234 := NB171_184.out
                  have hnc234 := NB184_171.out
                  have hnb235 := NB171_188.out
                  have hnc235 := NB188_171.out
                  have hnb236 := NB171_192.out
                  have hnc236 := NB192_171.out
                  have hnb237 := NB171_196.out
                  have hnc237 := NB196_171.out
                  have hnb238 := NB171_200.out
                  have hnc238 := NB200_171.out
                  have hcz239_0 : wc.cell? ⟨gb171, 0, none⟩ = some (.int .i64 a2_0) := (kC BK171.out 0).trans rfl
                  have hcz239_1 : wc.cell? ⟨gb171, 1, none⟩ = some (.int .i64 a2_1) := (kC BK171.out 1).trans rfl
                  have hfz239_0 := blk_frozen BK171.out 0
                  have hfz239_1 := blk_frozen BK171.out 1
                  go_wp2_with (first|((with_reducible refine gate_callee (f := 17) rfl ?_); refine goesL_ (some 124) rfl rfl Tryd.func17 (by kernel_rfl) rfl #[.agg #[.int .i64 a1_0, .int .i64 a1_1], .agg #[.int .i64 a2_0, .int .i64 a2_1]] rfl (by (try simp only [List.map_toArray, List.map_cons, List.map_nil]); first | done | rfl|(simp only [List.length_drop, List.length_take]; rfl)) ?_; (with_reducible refine (rational_Add.calls a1_0 a1_1 a2_0 a2_1 t201 t202 t203 _ A213.out).mono ?_); rintro e w240 ⟨rfl, hb⟩; refine ⟨_, rfl, ?_⟩; have n0_ := Aside0.mk (kB (g := gb169) (by (with_reducible repeat first|apply kN|apply kD|apply kA); exact BK169.out) hb); have n1_ := Aside0.mk (kB (g := gb170) (by (with_reducible repeat first|apply kN|apply kD|apply kA); exact BK170.out) hb); have n2_ := Aside0.mk (kB (g := gb171) (by (with_reducible repeat first|apply kN|apply kD|apply kA); exact BK171.out) hb); have n3_ := Aside0.mk (kB (g := gb180) (by (with_reducible repeat first|apply kN|apply kD|apply kA); exact BK180.out) hb); have n4_ := Aside0.mk (kB (g := gb184) (by (with_reducible repeat first|apply kN|apply kD|apply kA); exact BK184.out) hb); have n5_ := Aside0.mk (kB (g := gb188) (by (with_reducible repeat first|apply kN|apply kD|apply kA); exact BK188.out) hb); have n6_ := Aside0.mk (kB (g := gb192) (by (with_reducible repeat first|apply kN|apply kD|apply kA); exact BK192.out) hb); have n7_ := Aside0.mk (kB (g := gb196) (by (with_reducible repeat first|apply kN|apply kD|apply kA); exact BK196.out) hb); have n8_ := Aside0.mk (kB (g := gb200) (by (with_reducible repeat first|apply kN|apply kD|apply kA); exact BK200.out) hb); have n9_ := Aside0.mk (bT (by repeat (first|(with_reducible first|exact HB.out|apply bA|apply bN|apply b1|refine bS ?_ GE169.out|refine bS ?_ GE170.out|refine bS ?_ GE171.out|refine bS ?_ GE180.out|refine bS ?_ GE184.out|refine bS ?_ GE188.out|refine bS ?_ GE192.out|refine bS ?_ GE196.out|refine bS ?_ GE200.out)|exact HB.out)) hb); clear BK169; clear BK170; clear BK171; clear BK180; clear BK184; clear BK188; clear BK192; clear BK196; clear BK200; clear HB; have BK169 := n0_; have BK170 := n1_; have BK171 := n2_; have BK180 := n3_; have BK184 := n4_; have BK188 := n5_; have BK192 := n6_; have BK196 := n7_; have BK200 := n8_; have HB := n9_; clear n0_ n1_ n2_ n3_ n4_ n5_ n6_ n7_ n8_ n9_; (try clear hb); (try clear hb2); (try clear hk); (try clear hi); have hnb241 := NB192_169.out; have hnc241 := NB169_192.out; have hnb242 := NB192_180.out; have hnc242 := NB180_192.out; have hnb243 := NB192_184.out; have hnc243 := NB184_192.out; have hnb244 := NB192_188.out; have hnc244 := NB188_192.out; have hnb245 := NB192_196.out; have hnc245 := NB196_192.out; have hnb246 := NB192_200.out; have hnc246 := NB200_192.out; have hcz247_0 : w240.cell? ⟨gb192, 0, none⟩ = some (.int .i64 t189) := (kC BK192.out 0).trans rfl; have hcz247_1 : w240.cell? ⟨gb192, 1, none⟩ = some (.int .i64 t190) := (kC BK192.out 1).trans rfl; have hfz247_0 := blk_frozen BK192.out 0; have hfz247_1 := blk_frozen BK192.out 1; have hnb248 := NB169_180.out; have hnc248 := NB180_169.out; have hnb249 := NB169_184.out; have hnc249 := NB184_169.out; have hnb250 := NB169_188.out; have hnc250 := NB188_169.out; have hnb251 := NB169_196.out; have hnc251 := NB196_169.out; have hnb252 := NB169_200.out; have hnc252 := NB200_169.out; have hcz253_0 : w240.cell? ⟨gb169, 0, none⟩ = some (.int .i64 a0_0) := (kC BK169.out 0).trans rfl; have hcz253_1 : w240.cell? ⟨gb169, 1, none⟩ = some (.int .i64 a0_1) := (kC BK169.out 1).trans rfl; have hfz253_0 := blk_frozen BK169.out 0; have hfz253_1 := blk_frozen BK169.out 1)|((with_reducible refine gate_callee (f := 15) rfl ?_); refine goesL_ (some 130) rfl rfl Tryd.func15 (by kernel_rfl) rfl #[.agg #[.int .i64 a0_0, .int .i64 a0_1], .agg #[.int .i64 t201, .int .i64 t202]] rfl (by (try simp only [List.map_toArray, List.map_cons, List.map_nil]); first | done | rfl|(simp only [List.length_drop, List.length_take]; rfl)) ?_; (with_reducible refine (rational_Mul.calls a0_0 a0_1 t201 t202 t204 t205 t206 _ A214.out).mono ?_); rintro e w254 ⟨rfl, hb⟩; refine ⟨_, rfl, ?_⟩; have n0_ := Aside0.mk (kB (g := gb169) (o := .cells #[.int .i64 a0_0, .int .i64 a0_1] 24 (0, 0)) (by (with_reducible repeat first|apply kN|apply kD|apply kA); refine kF ?_ NB169_192.out _; (with_reducible repeat first|apply kN|apply kD|apply kA); refine kF ?_ NB169_192.out _; (with_reducible repeat first|apply kN|apply kD|apply kA); exact BK169.out) hb); have n1_ := Aside0.mk (kB (g := gb170) (o := .cells #[.int .i64 a1_0, .int .i64 a1_1] 24 (0, 0)) (by (with_reducible repeat first|apply kN|apply kD|apply kA); refine kF ?_ NB170_192.out _; (with_reducible repeat first|apply kN|apply kD|apply kA); refine kF ?_ NB170_192.out _; (with_reducible repeat first|apply kN|apply kD|apply kA); exact BK170.out) hb); have n2_ := Aside0.mk (kB (g := gb171) (o := .cells #[.int .i64 a2_0, .int .i64 a2_1] 24 (0, 0)) (by (with_reducible repeat first|apply kN|apply kD|apply kA); refine kF ?_ NB171_192.out _; (with_reducible repeat first|apply kN|apply kD|apply kA); refine kF ?_ NB171_192.out _; (with_reducible repeat first|apply kN|apply kD|apply kA); exact BK171.out) hb); have n3_ := Aside0.mk (kB (g := gb180) (o := .cells #[.int .i64 t177, .int .i64 t178] 24 (0, 0)) (by (with_reducible repeat first|apply kN|apply kD|apply kA); refine kF ?_ NB180_192.out _; (with_reducible repeat first|apply kN|apply kD|apply kA); refine kF ?_ NB180_192.out _; (with_reducible repeat first|apply kN|apply kD|apply kA); exact BK180.out) hb); have n4_ := Aside0.mk (kB (g := gb184) (o := .cells #[.int .i64 t181, .int .i64 t182] 24 (0, 0)) (by (with_reducible repeat first|apply kN|apply kD|apply kA); refine kF ?_ NB184_192.out _; (with_reducible repeat first|apply kN|apply kD|apply kA); refine kF ?_ NB184_192.out _; (with_reducible repeat first|apply kN|apply kD|apply kA); exact BK184.out) hb); have n5_ := Aside0.mk (kB (g := gb188) (o := .cells #[.int .i64 t185, .int .i64 t186] 24 (0, 0)) (by (with_reducible repeat first|apply kN|apply kD|apply kA); refine kF ?_ NB188_192.out _; (with_reducible repeat first|apply kN|apply kD|apply kA); refine kF ?_ NB188_192.out _; (with_reducible repeat first|apply kN|apply kD|apply kA); exact BK188.out) hb); have n6_ := Aside0.mk (kB (g := gb192) (o := .cells #[.int .i64 t201, .int .i64 t202] 24 (0, 0)) (by (with_reducible repeat first|apply kN|apply kD|apply kA); refine blk_put (cs := #[.int .i64 t201, .int .i64 t190]) ?_ 1 _ rfl; (with_reducible repeat first|apply kN|apply kD|apply kA); refine blk_put (cs := #[.int .i64 t189, .int .i64 t190]) ?_ 0 _ rfl; (with_reducible repeat first|apply kN|apply kD|apply kA); exact BK192.out) hb); have n7_ := Aside0.mk (kB (g := gb196) (o := .cells #[.int .i64 t193, .int .i64 t194] 24 (0, 0)) (by (with_reducible repeat first|apply kN|apply kD|apply kA); refine kF ?_ NB196_192.out _; (with_reducible repeat first|apply kN|apply kD|apply kA); refine kF ?_ NB196_192.out _; (with_reducible repeat first|apply kN|apply kD|apply kA); exact BK196.out) hb); have n8_ := Aside0.mk (kB (g := gb200) (o := .cells #[.int .i64 t197, .int .i64 t198] 24 (0, 0)) (by (with_reducible repeat first|apply kN|apply kD|apply kA); refine kF ?_ NB200_192.out _; (with_reducible repeat first|apply kN|apply kD|apply kA); refine kF ?_ NB200_192.out _; (with_reducible repeat first|apply kN|apply kD|apply kA); exact BK200.out) hb); have n9_ := Aside0.mk (bT (by repeat (first|(with_reducible first|exact HB.out|apply bA|apply bN|apply b1|refine bS ?_ GE169.out|refine bS ?_ GE170.out|refine bS ?_ GE171.out|refine bS ?_ GE180.out|refine bS ?_ GE184.out|refine bS ?_ GE188.out|refine bS ?_ GE192.out|refine bS ?_ GE196.out|refine bS ?_ GE200.out)|exact HB.out)) hb); clear BK169; clear BK170; clear BK171; clear BK180; clear BK184; clear BK188; clear BK192; clear BK196; clear BK200; clear HB; have BK169 := n0_; have BK170 := n1_; have BK171 := n2_; have BK180 := n3_; have BK184 := n4_; have BK188 := n5_; have BK192 := n6_; have BK196 := n7_; have BK200 := n8_; have HB := n9_; clear n0_ n1_ n2_ n3_ n4_ n5_ n6_ n7_ n8_ n9_; (try clear hb); (try clear hb2); (try clear hk); (try clear hi); have hnb255 := NB196_180.out; have hnc255 := NB180_196.out; have hnb256 := NB196_184.out; have hnc256 := NB184_196.out; have hnb257 := NB196_188.out; have hnc257 := NB188_196.out; have hnb258 := NB196_200.out; have hnc258 := NB200_196.out; have hcz259_0 : w254.cell? ⟨gb196, 0, none⟩ = some (.int .i64 t193) := (kC BK196.out 0).trans rfl; have hcz259_1 : w254.cell? ⟨gb196, 1, none⟩ = some (.int .i64 t194) := (kC BK196.out 1).trans rfl; have hfz259_0 := blk_frozen BK196.out 0; have hfz259_1 := blk_frozen BK196.out 1; have hcz260_0 : w254.cell? ⟨gb169, 0, none⟩ = some (.int .i64 a0_0) := (kC BK169.out 0).trans rfl; have hcz260_1 : w254.cell? ⟨gb169, 1, none⟩ = some (.int .i64 a0_1) := (kC BK169.out 1).trans rfl; have hfz260_0 := blk_frozen BK169.out 0; have hfz260_1 := blk_frozen BK169.out 1; have hcz261_0 : w254.cell? ⟨gb171, 0, none⟩ = some (.int .i64 a2_0) := (kC BK171.out 0).trans rfl; have hcz261_1 : w254.cell? ⟨gb171, 1, none⟩ = some (.int .i64 a2_1) := (kC BK171.out 1).trans rfl; have hfz261_0 := blk_frozen BK171.out 0; have hfz261_1 := blk_frozen BK171.out 1)|((with_reducible refine gate_callee (f := 15) rfl ?_); refine goesL_ (some 136) rfl rfl Tryd.func15 (by kernel_rfl) rfl #[.agg #[.int .i64 a0_0, .int .i64 a0_1], .agg #[.int .i64 a2_0, .int .i64 a2_1]] rfl (by (try simp only [List.map_toArray, List.map_cons, List.map_nil]); first | done | rfl|(simp only [List.length_drop, List.length_take]; rfl)) ?_; (with_reducible refine (rational_Mul.calls a0_0 a0_1 a2_0 a2_1 t207 t208 t209 _ A215.out).mono ?_); rintro e w262 ⟨rfl, hb⟩; refine ⟨_, rfl, ?_⟩; have n0_ := Aside0.mk (kB (g := gb169) (o := .cells #[.int .i64 a0_0, .int .i64 a0_1] 24 (0, 0)) (by (with_reducible repeat first|apply kN|apply kD|apply kA); refine kF ?_ NB169_196.out _; (with_reducible repeat first|apply kN|apply kD|apply kA); refine kF ?_ NB169_196.out _; (with_reducible repeat first|apply kN|apply kD|apply kA); exact BK169.out) hb); have n1_ := Aside0.mk (kB (g := gb170) (o := .cells #[.int .i64 a1_0, .int .i64 a1_1] 24 (0, 0)) (by (with_reducible repeat first|apply kN|apply kD|apply kA); refine kF ?_ NB170_196.out _; (with_reducible repeat first|apply kN|apply kD|apply kA); refine kF ?_ NB170_196.out _; (with_reducible repeat first|apply kN|apply kD|apply kA); exact BK170.out) hb); have n2_ := Aside0.mk (kB (g := gb171) (o := .cells #[.int .i64 a2_0, .int .i64 a2_1] 24 (0, 0)) (by (with_reducible repeat first|apply kN|apply kD|apply kA); refine kF ?_ NB171_196.out _; (with_reducible repeat first|apply kN|apply kD|apply kA); refine kF ?_ NB171_196.out _; (with_reducible repeat first|apply kN|apply kD|apply kA); exact BK171.out) hb); have n3_ := Aside0.mk (kB (g := gb180) (o := .cells #[.int .i64 t177, .int .i64 t178] 24 (0, 0)) (by (with_reducible repeat first|apply kN|apply kD|apply kA); refine kF ?_ NB180_196.out _; (with_reducible repeat first|apply kN|apply kD|apply kA); refine kF ?_ NB180_196.out _; (with_reducible repeat first|apply kN|apply kD|apply kA); exact BK180.out) hb); have n4_ := Aside0.mk (kB (g := gb184) (o := .cells #[.int .i64 t181, .int .i64 t182] 24 (0, 0)) (by (with_reducible repeat first|apply kN|apply kD|apply kA); refine kF ?_ NB184_196.out _; (with_reducible repeat first|apply kN|apply kD|apply kA); refine kF ?_ NB184_196.out _; (with_reducible repeat first|apply kN|apply kD|apply kA); exact BK184.out) hb); have n5_ := Aside0.mk (kB (g := gb188) (o := .cells #[.int .i64 t185, .int .i64 t186] 24 (0, 0)) (by (with_reducible repeat first|apply kN|apply kD|apply kA); refine kF ?_ NB188_196.out _; (with_reducible repeat first|apply kN|apply kD|apply kA); refine kF ?_ NB188_196.out _; (with_reducible repeat first|apply kN|apply kD|apply kA); exact BK188.out) hb); have n6_ := Aside0.mk (kB (g := gb192) (o := .cells #[.int .i64 t201, .int .i64 t202] 24 (0, 0)) (by (with_reducible repeat first|apply kN|apply kD|apply kA); refine kF ?_ NB192_196.out _; (with_reducible repeat first|apply kN|apply kD|apply kA); refine kF ?_ NB192_196.out _; (with_reducible repeat first|apply kN|apply kD|apply kA); exact BK192.out) hb); have n7_ := Aside0.mk (kB (g := gb196) (o := .cells #[.int .i64 t204, .int .i64 t205] 24 (0, 0)) (by (with_reducible repeat first|apply kN|apply kD|apply kA); refine blk_put (cs := #[.int .i64 t204, .int .i64 t194]) ?_ 1 _ rfl; (with_reducible repeat first|apply kN|apply kD|apply kA); refine blk_put (cs := #[.int .i64 t193, .int .i64 t194]) ?_ 0 _ rfl; (with_reducible repeat first|apply kN|apply kD|apply kA); exact BK196.out) hb); have n8_ := Aside0.mk (kB (g := gb200) (o := .cells #[.int .i64 t197, .int .i64 t198] 24 (0, 0)) (by (with_reducible repeat first|apply kN|apply kD|apply kA); refine kF ?_ NB200_196.out _; (with_reducible repeat first|apply kN|apply kD|apply kA); refine kF ?_ NB200_196.out _; (with_reducible repeat first|apply kN|apply kD|apply kA); exact BK200.out) hb); have n9_ := Aside0.mk (bT (by repeat (first|(with_reducible first|exact HB.out|apply bA|apply bN|apply b1|refine bS ?_ GE169.out|refine bS ?_ GE170.out|refine bS ?_ GE171.out|refine bS ?_ GE180.out|refine bS ?_ GE184.out|refine bS ?_ GE188.out|refine bS ?_ GE192.out|refine bS ?_ GE196.out|refine bS ?_ GE200.out)|exact HB.out)) hb); clear BK169; clear BK170; clear BK171; clear BK180; clear BK184; clear BK188; clear BK192; clear BK196; clear BK200; clear HB; have BK169 := n0_; have BK170 := n1_; have BK171 := n2_; have BK180 := n3_; have BK184 := n4_; have BK188 := n5_; have BK192 := n6_; have BK196 := n7_; have BK200 := n8_; have HB := n9_; clear n0_ n1_ n2_ n3_ n4_ n5_ n6_ n7_ n8_ n9_; (try clear hb); (try clear hb2); (try clear hk); (try clear hi))|((with_reducible refine gate_dst (N := 20) rfl ?_); refine box_event ?hg (N := 20) ?hd (cs := #[.int .i64 0, .int .i64 0]) (t := 24) ?hr ?_; (case hd => rfl); (case hg => rfl); (case hr => first|(go_simp; done)|(go_simp; rfl)); intro gb210 hg w263 hbox hb; have n0_ := Aside0.mk (kB (g := gb169) (by (with_reducible repeat first|apply kN|apply kD|apply kA); exact BK169.out) hb); have n1_ := Aside0.mk (kB (g := gb170) (by (with_reducible repeat first|apply kN|apply kD|apply kA); exact BK170.out) hb); have n2_ := Aside0.mk (kB (g := gb171) (by (with_reducible repeat first|apply kN|apply kD|apply kA); exact BK171.out) hb); have n3_ := Aside0.mk (kB (g := gb180) (by (with_reducible repeat first|apply kN|apply kD|apply kA); exact BK180.out) hb); have n4_ := Aside0.mk (kB (g := gb184) (by (with_reducible repeat first|apply kN|apply kD|apply kA); exact BK184.out) hb); have n5_ := Aside0.mk (kB (g := gb188) (by (with_reducible repeat first|apply kN|apply kD|apply kA); exact BK188.out) hb); have n6_ := Aside0.mk (kB (g := gb192) (by (with_reducible repeat first|apply kN|apply kD|apply kA); exact BK192.out) hb); have n7_ := Aside0.mk (kB (g := gb196) (by (with_reducible repeat first|apply kN|apply kD|apply kA); exact BK196.out) hb); have n8_ := Aside0.mk (kB (g := gb200) (by (with_reducible repeat first|apply kN|apply kD|apply kA); exact BK200.out) hb); have n9_ := Aside0.mk (bT (by repeat (first|(with_reducible first|exact HB.out|apply bA|apply bN|apply b1|refine bS ?_ GE169.out|refine bS ?_ GE170.out|refine bS ?_ GE171.out|refine bS ?_ GE180.out|refine bS ?_ GE184.out|refine bS ?_ GE188.out|refine bS ?_ GE192.out|refine bS ?_ GE196.out|refine bS ?_ GE200.out)|exact HB.out)) hb); have n10_ := Aside0.mk (hbox); have n11_ := Aside0.mk ((by rw [hg]; exact (bZ (by repeat (first|(with_reducible first|exact HB.out|apply bA|apply bN|apply b1|refine bS ?_ GE169.out|refine bS ?_ GE170.out|refine bS ?_ GE171.out|refine bS ?_ GE180.out|refine bS ?_ GE184.out|refine bS ?_ GE188.out|refine bS ?_ GE192.out|refine bS ?_ GE196.out|refine bS ?_ GE200.out)|exact HB.out))) : w.heap.size ≤ gb210)); have n12_ := n11_; have n13_ := Aside0.mk ((by rw [hg]; exact Nat.ne_of_lt (blk_lt (g := gb169) (by (with_reducible repeat first|apply kN|apply kD|apply kA); exact BK169.out)) : gb169 ≠ gb210)); have n14_ := Aside0.mk n13_.out.symm; have n15_ := Aside0.mk ((by rw [hg]; exact Nat.ne_of_lt (blk_lt (g := gb170) (by (with_reducible repeat first|apply kN|apply kD|apply kA); exact BK170.out)) : gb170 ≠ gb210)); have n16_ := Aside0.mk n15_.out.symm; have n17_ := Aside0.mk ((by rw [hg]; exact Nat.ne_of_lt (blk_lt (g := gb171) (by (with_reducible repeat first|apply kN|apply kD|apply kA); exact BK171.out)) : gb171 ≠ gb210)); have n18_ := Aside0.mk n17_.out.symm; have n19_ := Aside0.mk ((by rw [hg]; exact Nat.ne_of_lt (blk_lt (g := gb180) (by (with_reducible repeat first|apply kN|apply kD|apply kA); exact BK180.out)) : gb180 ≠ gb210)); have n20_ := Aside0.mk n19_.out.symm; have n21_ := Aside0.mk ((by rw [hg]; exact Nat.ne_of_lt (blk_lt (g := gb184) (by (with_reducible repeat first|apply kN|apply kD|apply kA); exact BK184.out)) : gb184 ≠ gb210)); have n22_ := Aside0.mk n21_.out.symm; have n23_ := Aside0.mk ((by rw [hg]; exact Nat.ne_of_lt (blk_lt (g := gb188) (by (with_reducible repeat first|apply kN|apply kD|apply kA); exact BK188.out)) : gb188 ≠ gb210)); have n24_ := Aside0.mk n23_.out.symm; have n25_ := Aside0.mk ((by rw [hg]; exact Nat.ne_of_lt (blk_lt (g := gb192) (by (with_reducible repeat first|apply kN|apply kD|apply kA); exact BK192.out)) : gb192 ≠ gb210)); have n26_ := Aside0.mk n25_.out.symm; have n27_ := Aside0.mk ((by rw [hg]; exact Nat.ne_of_lt (blk_lt (g := gb196) (by (with_reducible repeat first|apply kN|apply kD|apply kA); exact BK196.out)) : gb196 ≠ gb210)); have n28_ := Aside0.mk n27_.out.symm; have n29_ := Aside0.mk ((by rw [hg]; exact Nat.ne_of_lt (blk_lt (g := gb200) (by (with_reducible repeat first|apply kN|apply kD|apply kA); exact BK200.out)) : gb200 ≠ gb210)); have n30_ := Aside0.mk n29_.out.symm; clear BK169; clear BK170; clear BK171; clear BK180; clear BK184; clear BK188; clear BK192; clear BK196; clear BK200; clear HB; have BK169 := n0_; have BK170 := n1_; have BK171 := n2_; have BK180 := n3_; have BK184 := n4_; have BK188 := n5_; have BK192 := n6_; have BK196 := n7_; have BK200 := n8_; have HB := n9_; have BK210 := n10_; have GW210 := n11_; have GE210 := n12_; have NB169_210 := n13_; have NB210_169 := n14_; have NB170_210 := n15_; have NB210_170 := n16_; have NB171_210 := n17_; have NB210_171 := n18_; have NB180_210 := n19_; have NB210_180 := n20_; have NB184_210 := n21_; have NB210_184 := n22_; have NB188_210 := n23_; have NB210_188 := n24_; have NB192_210 := n25_; have NB210_192 := n26_; have NB196_210 := n27_; have NB210_196 := n28_; have NB200_210 := n29_; have NB210_200 := n30_; clear n0_ n1_ n2_ n3_ n4_ n5_ n6_ n7_ n8_ n9_ n10_ n11_ n12_ n13_ n14_ n15_ n16_ n17_ n18_ n19_ n20_ n21_ n22_ n23_ n24_ n25_ n26_ n27_ n28_ n29_ n30_; clear hb hbox hg; have hnb264 := NB210_169.out; have hnc264 := NB169_210.out; have hnb265 := NB210_170.out; have hnc265 := NB170_210.out; have hnb266 := NB210_171.out; have hnc266 := NB171_210.out; have hnb267 := NB210_180.out; have hnc267 := NB180_210.out; have hnb268 := NB210_184.out; have hnc268 := NB184_210.out; have hnb269 := NB210_188.out; have hnc269 := NB188_210.out; have hnb270 := NB210_192.out; have hnc270 := NB192_210.out; have hnb271 := NB210_196.out; have hnc271 := NB196_210.out; have hnb272 := NB210_200.out; have hnc272 := NB200_210.out; have hcz273_0 : w263.cell? ⟨gb210, 0, none⟩ = some (.int .i64 0) := (kC BK210.out 0).trans rfl; have hcz273_1 : w263.cell? ⟨gb210, 1, none⟩ = some (.int .i64 0) := (kC BK210.out 1).trans rfl; have hfz273_0 := blk_frozen BK210.out 0; have hfz273_1 := blk_frozen BK210.out 1; have hnb274 := NB180_184.out; have hnc274 := NB184_180.out; have hnb275 := NB180_188.out; have hnc275 := NB188_180.out; have hnb276 := NB180_200.out; have hnc276 := NB200_180.out; have hcz277_0 : w263.cell? ⟨gb180, 0, none⟩ = some (.int .i64 t177) := (kC BK180.out 0).trans rfl; have hcz277_1 : w263.cell? ⟨gb180, 1, none⟩ = some (.int .i64 t178) := (kC BK180.out 1).trans rfl; have hfz277_0 := blk_frozen BK180.out 0; have hfz277_1 := blk_frozen BK180.out 1)|((with_reducible refine gate_callee (f := 17) rfl ?_); refine goesL_ (some 142) rfl rfl Tryd.func17 (by kernel_rfl) rfl #[.agg #[.int .i64 t177, .int .i64 t178], .agg #[.int .i64 t207, .int .i64 t208]] rfl (by (try simp only [List.map_toArray, List.map_cons, List.map_nil]); first | done | rfl|(simp only [List.length_drop, List.length_take]; rfl)) ?_; (with_reducible refine (rational_Add.calls t177 t178 t207 t208 t211 t212 t213 _ A216.out).mono ?_); rintro e w278 ⟨rfl, hb⟩; refine ⟨_, rfl, ?_⟩; have n0_ := Aside0.mk (kB (g := gb169) (o := .cells #[.int .i64 a0_0, .int .i64 a0_1] 24 (0, 0)) (by (with_reducible repeat first|apply kN|apply kD|apply kA); refine kF ?_ NB169_210.out _; (with_reducible repeat first|apply kN|apply kD|apply kA); refine kF ?_ NB169_210.out _; (with_reducible repeat first|apply kN|apply kD|apply kA); exact BK169.out) hb); have n1_ := Aside0.mk (kB (g := gb170) (o := .cells #[.int .i64 a1_0, .int .i64 a1_1] 24 (0, 0)) (by (with_reducible repeat first|apply kN|apply kD|apply kA); refine kF ?_ NB170_210.out _; (with_reducible repeat first|apply kN|apply kD|apply kA); refine kF ?_ NB170_210.out _; (with_reducible repeat first|apply kN|apply kD|apply kA); exact BK170.out) hb); have n2_ := Aside0.mk (kB (g := gb171) (o := .cells #[.int .i64 a2_0, .int .i64 a2_1] 24 (0, 0)) (by (with_reducible repeat first|apply kN|apply kD|apply kA); refine kF ?_ NB171_210.out _; (with_reducible repeat first|apply kN|apply kD|apply kA); refine kF ?_ NB171_210.out _; (with_reducible repeat first|apply kN|apply kD|apply kA); exact BK171.out) hb); have n3_ := Aside0.mk (kB (g := gb180) (o := .cells #[.int .i64 t177, .int .i64 t178] 24 (0, 0)) (by (with_reducible repeat first|apply kN|apply kD|apply kA); refine kF ?_ NB180_210.out _; (with_reducible repeat first|apply kN|apply kD|apply kA); refine kF ?_ NB180_210.out _; (with_reducible repeat first|apply kN|apply kD|apply kA); exact BK180.out) hb); have n4_ := Aside0.mk (kB (g := gb184) (o := .cells #[.int .i64 t181, .int .i64 t182] 24 (0, 0)) (by (with_reducible repeat first|apply kN|apply kD|apply kA); refine kF ?_ NB184_210.out _; (with_reducible repeat first|apply kN|apply kD|apply kA); refine kF ?_ NB184_210.out _; (with_reducible repeat first|apply kN|apply kD|apply kA); exact BK184.out) hb); have n5_ := Aside0.mk (kB (g := gb188) (o := .cells #[.int .i64 t185, .int .i64 t186] 24 (0, 0)) (by (with_reducible repeat first|apply kN|apply kD|apply kA); refine kF ?_ NB188_210.out _; (with_reducible repeat first|apply kN|apply kD|apply kA); refine kF ?_ NB188_210.out _; (with_reducible repeat first|apply kN|apply kD|apply kA); exact BK188.out) hb); have n6_ := Aside0.mk (kB (g := gb192) (o := .cells #[.int .i64 t201, .int .i64 t202] 24 (0, 0)) (by (with_reducible repeat first|apply kN|apply kD|apply kA); refine kF ?_ NB192_210.out _; (with_reducible repeat first|apply kN|apply kD|apply kA); refine kF ?_ NB192_210.out _; (with_reducible repeat first|apply kN|apply kD|apply kA); exact BK192.out) hb); have n7_ := Aside0.mk (kB (g := gb196) (o := .cells #[.int .i64 t204, .int .i64 t205] 24 (0, 0)) (by (with_reducible repeat first|apply kN|apply kD|apply kA); refine kF ?_ NB196_210.out _; (with_reducible repeat first|apply kN|apply kD|apply kA); refine kF ?_ NB196_210.out _; (with_reducible repeat first|apply kN|apply kD|apply kA); exact BK196.out) hb); have n8_ := Aside0.mk (kB (g := gb200) (o := .cells #[.int .i64 t197, .int .i64 t198] 24 (0, 0)) (by (with_reducible repeat first|apply kN|apply kD|apply kA); refine kF ?_ NB200_210.out _; (with_reducible repeat first|apply kN|apply kD|apply kA); refine kF ?_ NB200_210.out _; (with_reducible repeat first|apply kN|apply kD|apply kA); exact BK200.out) hb); have n9_ := Aside0.mk (kB (g := gb210) (o := .cells #[.int .i64 t207, .int .i64 t208] 24 (0, 0)) (by (with_reducible repeat first|apply kN|apply kD|apply kA); refine blk_put (cs := #[.int .i64 t207, .int .i64 0]) ?_ 1 _ rfl; (with_reducible repeat first|apply kN|apply kD|apply kA); refine blk_put (cs := #[.int .i64 0, .int .i64 0]) ?_ 0 _ rfl; (with_reducible repeat first|apply kN|apply kD|apply kA); exact BK210.out) hb); have n10_ := Aside0.mk (bT (by repeat (first|(with_reducible first|exact HB.out|apply bA|apply bN|apply b1|refine bS ?_ GE169.out|refine bS ?_ GE170.out|refine bS ?_ GE171.out|refine bS ?_ GE180.out|refine bS ?_ GE184.out|refine bS ?_ GE188.out|refine bS ?_ GE192.out|refine bS ?_ GE196.out|refine bS ?_ GE200.out|refine bS ?_ GE210.out)|exact HB.out)) hb); clear BK169; clear BK170; clear BK171; clear BK180; clear BK184; clear BK188; clear BK192; clear BK196; clear BK200; clear BK210; clear HB; have BK169 := n0_; have BK170 := n1_; have BK171 := n2_; have BK180 := n3_; have BK184 := n4_; have BK188 := n5_; have BK192 := n6_; have BK196 := n7_; have BK200 := n8_; have BK210 := n9_; have HB := n10_; clear n0_ n1_ n2_ n3_ n4_ n5_ n6_ n7_ n8_ n9_ n10_; (try clear hb); (try clear hb2); (try clear hk); (try clear hi); have hnb279 := NB200_184.out; have hnc279 := NB184_200.out; have hnb280 := NB200_188.out; have hnc280 := NB188_200.out; have hcz281_0 : w278.cell? ⟨gb200, 0, none⟩ = some (.int .i64 t197) := (kC BK200.out 0).trans rfl; have hcz281_1 : w278.cell? ⟨gb200, 1, none⟩ = some (.int .i64 t198) := (kC BK200.out 1).trans rfl; have hfz281_0 := blk_frozen BK200.out 0; have hfz281_1 := blk_frozen BK200.out 1; have hcz282_0 : w278.cell? ⟨gb196, 0, none⟩ = some (.int .i64 t204) := (kC BK196.out 0).trans rfl; have hcz282_1 : w278.cell? ⟨gb196, 1, none⟩ = some (.int .i64 t205) := (kC BK196.out 1).trans rfl; have hfz282_0 := blk_frozen BK196.out 0; have hfz282_1 := blk_frozen BK196.out 1))
                  go_ret
                  exact ⟨by first | rfl|(simp [errW_none, errW_some] <;> rfl)|(simp [*, errW_none, errW_some] <;> rfl), by repeat (first|(with_reducible first|exact HB.out|apply bA|apply bN|apply b1|refine bS ?_ GE169.out|refine bS ?_ GE170.out|refine bS ?_ GE171.out|refine bS ?_ GE180.out|refine bS ?_ GE184.out|refine bS ?_ GE188.out|refine bS ?_ GE192.out|refine bS ?_ GE196.out|refine bS ?_ GE200.out|refine bS ?_ GE210.out)|exact HB.out)⟩
                 ·rw [if_neg c222] at H
                  exact absurd H (by simp)
                ·rw [if_neg c221] at H
                 have c221b0 : (t213 == 0) = false := beq_eq_false_iff_ne.mpr c221
                 have c221b1 : (t213 != 0) = true := bne_iff_ne.mpr c221
                 obtain rfl := Option.some.inj H
                 have hnb283 := NB170_169.out
                 have hnc283 := NB169_170.out
                 have hnb284 := NB170_171.out
                 have hnc284 := NB171_170.out
                 have hnb285 := NB170_180.out
                 have hnc285 := NB180_170.out
                 have hnb286 := NB170_184.out
                 have hnc286 := NB184_170.out
                 have hnb287 := NB170_188.out
                 have hnc287 := NB188_170.out
                 have hnb288 := NB170_192.out
                 have hnc288 := NB192_170.out
                 have hnb289 := NB170_196.out
                 have hnc289 := NB196_170.out
                 have hnb290 := NB170_200.out
                 have hnc290 := NB200_170.out
                 have hcz291_0 : wc.cell? ⟨gb170, 0, none⟩ = some (.int .i64 a1_0) := (kC BK170.out 0).trans rfl
                 have hcz291_1 : wc.cell? ⟨gb170, 1, none⟩ = some (.int .i64 a1_1) := (kC BK170.out 1).trans rfl
                 have hfz291_0 := blk_frozen BK170.out 0
                 have hfz291_1 := blk_frozen BK170.out 1
                 have hnb292 := NB171_169.out
                 have hnc292 := NB169_171.out
                 have hnb293 := NB171_180.out
                 have hnc293 := NB180_171.out
                 have hnb294 := NB171_184.out
                 have hnc294 := NB184_171.out
                 have hnb295 := NB171_188.out
                 have hnc295 := NB188_171.out
                 have hnb296 := NB171_192.out
                 have hnc296 := NB192_171.out
                 have hnb297 := NB171_196.out
                 have hnc297 := NB196_171.out
                 have hnb298 := NB171_200.out
                 have hnc298 := NB200_171.out
                 have hcz299_0 : wc.cell? ⟨gb171, 0, none⟩ = some (.int .i64 a2_0) := (kC BK171.out 0).trans rfl
                 have hcz299_1 : wc.cell? ⟨gb171, 1, none⟩ = some (.int .i64 a2_1) := (kC BK171.out 1).trans rfl
                 have hfz299_0 := blk_frozen BK171.out 0
                 have hfz299_1 := blk_frozen BK171.out 1
                 go_wp2_with (first|((with_reducible refine gate_callee (f := 17) rfl ?_); refine goesL_ (some 124) rfl rfl Tryd.func17 (by kernel_rfl) rfl #[.agg #[.int .i64 a1_0, .int .i64 a1_1], .agg #[.int .i64 a2_0, .int .i64 a2_1]] rfl (by (try simp only [List.map_toArray, List.map_cons, List.map_nil]); first | done | rfl|(simp only [List.length_drop, List.length_take]; rfl)) ?_; (with_reducible refine (rational_Add.calls a1_0 a1_1 a2_0 a2_1 t201 t202 t203 _ A213.out).mono ?_); rintro e w300 ⟨rfl, hb⟩; refine ⟨_, rfl, ?_⟩; have n0_ := Aside0.mk (kB (g := gb169) (by (with_reducible repeat first|apply kN|apply kD|apply kA); exact BK169.out) hb); have n1_ := Aside0.mk (kB (g := gb170) (by (with_reducible repeat first|apply kN|apply kD|apply kA); exact BK170.out) hb); have n2_ := Aside0.mk (kB (g := gb171) (by (with_reducible repeat first|apply kN|apply kD|apply kA); exact BK171.out) hb); have n3_ := Aside0.mk (kB (g := gb180) (by (with_reducible repeat first|apply kN|apply kD|apply kA); exact BK180.out) hb); have n4_ := Aside0.mk (kB (g := gb184) (by (with_reducible repeat first|apply kN|apply kD|apply kA); exact BK184.out) hb); have n5_ := Aside0.mk (kB (g := gb188) (by (with_reducible repeat first|apply kN|apply kD|apply kA); exact BK188.out) hb); have n6_ := Aside0.mk (kB (g := gb192) (by (with_reducible repeat first|apply kN|apply kD|apply kA); exact BK192.out) hb); have n7_ := Aside0.mk (kB (g := gb196) (by (with_reducible repeat first|apply kN|apply kD|apply kA); exact BK196.out) hb); have n8_ := Aside0.mk (kB (g := gb200) (by (with_reducible repeat first|apply kN|apply kD|apply kA); exact BK200.out) hb); have n9_ := Aside0.mk (bT (by repeat (first|(with_reducible first|exact HB.out|apply bA|apply bN|apply b1|refine bS ?_ GE169.out|refine bS ?_ GE170.out|refine bS ?_ GE171.out|refine bS ?_ GE180.out|refine bS ?_ GE184.out|refine bS ?_ GE188.out|refine bS ?_ GE192.out|refine bS ?_ GE196.out|refine bS ?_ GE200.out)|exact HB.out)) hb); clear BK169; clear BK170; clear BK171; clear BK180; clear BK184; clear BK188; clear BK192; clear BK196; clear BK200; clear HB; have BK169 := n0_; have BK170 := n1_; have BK171 := n2_; have BK180 := n3_; have BK184 := n4_; have BK188 := n5_; have BK192 := n6_; have BK196 := n7_; have BK200 := n8_; have HB := n9_; clear n0_ n1_ n2_ n3_ n4_ n5_ n6_ n7_ n8_ n9_; (try clear hb); (try clear hb2); (try clear hk); (try clear hi); have hnb301 := NB192_169.out; have hnc301 := NB169_192.out; have hnb302 := NB192_180.out; have hnc302 := NB180_192.out; have hnb303 := NB192_184.out; have hnc303 := NB184_192.out; have hnb304 := NB192_188.out; have hnc304 := NB188_192.out; have hnb305 := NB192_196.out; have hnc305 := NB196_192.out; have hnb306 := NB192_200.out; have hnc306 := NB200_192.out; have hcz307_0 : w300.cell? ⟨gb192, 0, none⟩ = some (.int .i64 t189) := (kC BK192.out 0).trans rfl; have hcz307_1 : w300.cell? ⟨gb192, 1, none⟩ = some (.int .i64 t190) := (kC BK192.out 1).trans rfl; have hfz307_0 := blk_frozen BK192.out 0; have hfz307_1 := blk_frozen BK192.out 1; have hnb308 := NB169_180.out; have hnc308 := NB180_169.out; have hnb309 := NB169_184.out; have hnc309 := NB184_169.out; have hnb310 := NB169_188.out; have hnc310 := NB188_169.out; have hnb311 := NB169_196.out; have hnc311 := NB196_169.out; have hnb312 := NB169_200.out; have hnc312 := NB200_169.out; have hcz313_0 : w300.cell? ⟨gb169, 0, none⟩ = some (.int .i64 a0_0) := (kC BK169.out 0).trans rfl; have hcz313_1 : w300.cell? ⟨gb169, 1, none⟩ = some (.int .i64 a0_1) := (kC BK169.out 1).trans rfl; have hfz313_0 := blk_frozen BK169.out 0; have hfz313_1 := blk_frozen BK169.out 1)|((with_reducible refine gate_callee (f := 15) rfl ?_); refine goesL_ (some 130) rfl rfl Tryd.func15 (by kernel_rfl) rfl #[.agg #[.int .i64 a0_0, .int .i64 a0_1], .agg #[.int .i64 t201, .int .i64 t202]] rfl (by (try simp only [List.map_toArray, List.map_cons, List.map_nil]); first | done | rfl|(simp only [List.length_drop, List.length_take]; rfl)) ?_; (with_reducible refine (rational_Mul.calls a0_0 a0_1 t201 t202 t204 t205 t206 _ A214.out).mono ?_); rintro e w314 ⟨rfl, hb⟩; refine ⟨_, rfl, ?_⟩; have n0_ := Aside0.mk (kB (g := gb169) (o := .cells #[.int .i64 a0_0, .int .i64 a0_1] 24 (0, 0)) (by (with_reducible repeat first|apply kN|apply kD|apply kA); refine kF ?_ NB169_192.out _; (with_reducible repeat first|apply kN|apply kD|apply kA); refine kF ?_ NB169_192.out _; (with_reducible repeat first|apply kN|apply kD|apply kA); exact BK169.out) hb); have n1_ := Aside0.mk (kB (g := gb170) (o := .cells #[.int .i64 a1_0, .int .i64 a1_1] 24 (0, 0)) (by (with_reducible repeat first|apply kN|apply kD|apply kA); refine kF ?_ NB170_192.out _; (with_reducible repeat first|apply kN|apply kD|apply kA); refine kF ?_ NB170_192.out _; (with_reducible repeat first|apply kN|apply kD|apply kA); exact BK170.out) hb); have n2_ := Aside0.mk (kB (g := gb171) (o := .cells #[.int .i64 a2_0, .int .i64 a2_1] 24 (0, 0)) (by (with_reducible repeat first|apply kN|apply kD|apply kA); refine kF ?_ NB171_192.out _; (with_reducible repeat first|apply kN|apply kD|apply kA); refine kF ?_ NB171_192.out _; (with_reducible repeat first|apply kN|apply kD|apply kA); exact BK171.out) hb); have n3_ := Aside0.mk (kB (g := gb180) (o := .cells #[.int .i64 t177, .int .i64 t178] 24 (0, 0)) (by (with_reducible repeat first|apply kN|apply kD|apply kA); refine kF ?_ NB180_192.out _; (with_reducible repeat first|apply kN|apply kD|apply kA); refine kF ?_ NB180_192.out _; (with_reducible repeat first|apply kN|apply kD|apply kA); exact BK180.out) hb); have n4_ := Aside0.mk (kB (g := gb184) (o := .cells #[.int .i64 t181, .int .i64 t182] 24 (0, 0)) (by (with_reducible repeat first|apply kN|apply kD|apply kA); refine kF ?_ NB184_192.out _; (with_reducible repeat first|apply kN|apply kD|apply kA); refine kF ?_ NB184_192.out _; (with_reducible repeat first|apply kN|apply kD|apply kA); exact BK184.out) hb); have n5_ := Aside0.mk (kB (g := gb188) (o := .cells #[.int .i64 t185, .int .i64 t186] 24 (0, 0)) (by (with_reducible repeat first|apply kN|apply kD|apply kA); refine kF ?_ NB188_192.out _; (with_reducible repeat first|apply kN|apply kD|apply kA); refine kF ?_ NB188_192.out _; (with_reducible repeat first|apply kN|apply kD|apply kA); exact BK188.out) hb); have n6_ := Aside0.mk (kB (g := gb192) (o := .cells #[.int .i64 t201, .int .i64 t202] 24 (0, 0)) (by (with_reducible repeat first|apply kN|apply kD|apply kA); refine blk_put (cs := #[.int .i64 t201, .int .i64 t190]) ?_ 1 _ rfl; (with_reducible repeat first|apply kN|apply kD|apply kA); refine blk_put (cs := #[.int .i64 t189, .int .i64 t190]) ?_ 0 _ rfl; (with_reducible repeat first|apply kN|apply kD|apply kA); exact BK192.out) hb); have n7_ := Aside0.mk (kB (g := gb196) (o := .cells #[.int .i64 t193, .int .i64 t194] 24 (0, 0)) (by (with_reducible repeat first|apply kN|apply kD|apply kA); refine kF ?_ NB196_192.out _; (with_reducible repeat first|apply kN|apply kD|apply kA); refine kF ?_ NB196_192.out _; (with_reducible repeat first|apply kN|apply kD|apply kA); exact BK196.out) hb); have n8_ := Aside0.mk (kB (g := gb200) (o := .cells #[.int .i64 t197, .int .i64 t198] 24 (0, 0)) (by (with_reducible repeat first|apply kN|apply kD|apply kA); refine kF ?_ NB200_192.out _; (with_reducible repeat first|apply kN|apply kD|apply kA); refine kF ?_ NB200_192.out _; (with_reducible repeat first|apply kN|apply kD|apply kA); exact BK200.out) hb); have n9_ := Aside0.mk (bT (by repeat (first|(with_reducible first|exact HB.out|apply bA|apply bN|apply b1|refine bS ?_ GE169.out|refine bS ?_ GE170.out|refine bS ?_ GE171.out|refine bS ?_ GE180.out|refine bS ?_ GE184.out|refine bS ?_ GE188.out|refine bS ?_ GE192.out|refine bS ?_ GE196.out|refine bS ?_ GE200.out)|exact HB.out)) hb); clear BK169; clear BK170; clear BK171; clear BK180; clear BK184; clear BK188; clear BK192; clear BK196; clear BK200; clear HB; have BK169 := n0_; have BK170 := n1_; have BK171 := n2_; have BK180 := n3_; have BK184 := n4_; have BK188 := n5_; have BK192 := n6_; have BK196 := n7_; have BK200 := n8_; have HB := n9_; clear n0_ n1_ n2_ n3_ n4_ n5_ n6_ n7_ n8_ n9_; (try clear hb); (try clear hb2); (try clear hk); (try clear hi); have hnb315 := NB196_180.out; have hnc315 := NB180_196.out; have hnb316 := NB196_184.out; have hnc316 := NB184_196.out; have hnb317 := NB196_188.out; have hnc317 := NB188_196.out; have hnb318 := NB196_200.out; have hnc318 := NB200_196.out; have hcz319_0 : w314.cell? ⟨gb196, 0, none⟩ = some (.int .i64 t193) := (kC BK196.out 0).trans rfl; have hcz319_1 : w314.cell? ⟨gb196, 1, none⟩ = some (.int .i64 t194) := (kC BK196.out 1).trans rfl; have hfz319_0 := blk_frozen BK196.out 0; have hfz319_1 := blk_frozen BK196.out 1; have hcz320_0 : w314.cell? ⟨gb169, 0, none⟩ = some (.int .i64 a0_0) := (kC BK169.out 0).trans rfl; have hcz320_1 : w314.cell? ⟨gb169, 1, none⟩ = some (.int .i64 a0_1) := (kC BK169.out 1).trans rfl; have hfz320_0 := blk_frozen BK169.out 0; have hfz320_1 := blk_frozen BK169.out 1; have hcz321_0 : w314.cell? ⟨gb171, 0, none⟩ = some (.int .i64 a2_0) := (kC BK171.out 0).trans rfl; have hcz321_1 : w314.cell? ⟨gb171, 1, none⟩ = some (.int .i64 a2_1) := (kC BK171.out 1).trans rfl; have hfz321_0 := blk_frozen BK171.out 0; have hfz321_1 := blk_frozen BK171.out 1)|((with_reducible refine gate_callee (f := 15) rfl ?_); refine goesL_ (some 136) rfl rfl Tryd.func15 (by kernel_rfl) rfl #[.agg #[.int .i64 a0_0, .int .i64 a0_1], .agg #[.int .i64 a2_0, .int .i64 a2_1]] rfl (by (try simp only [List.map_toArray, List.map_cons, List.map_nil]); first | done | rfl|(simp only [List.length_drop, List.length_take]; rfl)) ?_; (with_reducible refine (rational_Mul.calls a0_0 a0_1 a2_0 a2_1 t207 t208 t209 _ A215.out).mono ?_); rintro e w322 ⟨rfl, hb⟩; refine ⟨_, rfl, ?_⟩; have n0_ := Aside0.mk (kB (g := gb169) (o := .cells #[.int .i64 a0_0, .int .i64 a0_1] 24 (0, 0)) (by (with_reducible repeat first|apply kN|apply kD|apply kA); refine kF ?_ NB169_196.out _; (with_reducible repeat first|apply kN|apply kD|apply kA); refine kF ?_ NB169_196.out _; (with_reducible repeat first|apply kN|apply kD|apply kA); exact BK169.out) hb); have n1_ := Aside0.mk (kB (g := gb170) (o := .cells #[.int .i64 a1_0, .int .i64 a1_1] 24 (0, 0)) (by (with_reducible repeat first|apply kN|apply kD|apply kA); refine kF ?_ NB170_196.out _; (with_reducible repeat first|apply kN|apply kD|apply kA); refine kF ?_ NB170_196.out _; (with_reducible repeat first|apply kN|apply kD|apply kA); exact BK170.out) hb); have n2_ := Aside0.mk (kB (g := gb171) (o := .cells #[.int .i64 a2_0, .int .i64 a2_1] 24 (0, 0)) (by (with_reducible repeat first|apply kN|apply kD|apply kA); refine kF ?_ NB171_196.out _; (with_reducible repeat first|apply kN|apply kD|apply kA); refine kF ?_ NB171_196.out _; (with_reducible repeat first|apply kN|apply kD|apply kA); exact BK171.out) hb); have n3_ := Aside0.mk (kB (g := gb180) (o := .cells #[.int .i64 t177, .int .i64 t178] 24 (0, 0)) (by (with_reducible repeat first|apply kN|apply kD|apply kA); refine kF ?_ NB180_196.out _; (with_reducible repeat first|apply kN|apply kD|apply kA); refine kF ?_ NB180_196.out _; (with_reducible repeat first|apply kN|apply kD|apply kA); exact BK180.out) hb); have n4_ := Aside0.mk (kB (g := gb184) (o := .cells #[.int .i64 t181, .int .i64 t182] 24 (0, 0)) (by (with_reducible repeat first|apply kN|apply kD|apply kA); refine kF ?_ NB184_196.out _; (with_reducible repeat first|apply kN|apply kD|apply kA); refine kF ?_ NB184_196.out _; (with_reducible repeat first|apply kN|apply kD|apply kA); exact BK184.out) hb); have n5_ := Aside0.mk (kB (g := gb188) (o := .cells #[.int .i64 t185, .int .i64 t186] 24 (0, 0)) (by (with_reducible repeat first|apply kN|apply kD|apply kA); refine kF ?_ NB188_196.out _; (with_reducible repeat first|apply kN|apply kD|apply kA); refine kF ?_ NB188_196.out _; (with_reducible repeat first|apply kN|apply kD|apply kA); exact BK188.out) hb); have n6_ := Aside0.mk (kB (g := gb192) (o := .cells #[.int .i64 t201, .int .i64 t202] 24 (0, 0)) (by (with_reducible repeat first|apply kN|apply kD|apply kA); refine kF ?_ NB192_196.out _; (with_reducible repeat first|apply kN|apply kD|apply kA); refine kF ?_ NB192_196.out _; (with_reducible repeat first|apply kN|apply kD|apply kA); exact BK192.out) hb); have n7_ := Aside0.mk (kB (g := gb196) (o := .cells #[.int .i64 t204, .int .i64 t205] 24 (0, 0)) (by (with_reducible repeat first|apply kN|apply kD|apply kA); refine blk_put (cs := #[.int .i64 t204, .int .i64 t194]) ?_ 1 _ rfl; (with_reducible repeat first|apply kN|apply kD|apply kA); refine blk_put (cs := #[.int .i64 t193, .int .i64 t194]) ?_ 0 _ rfl; (with_reducible repeat first|apply kN|apply kD|apply kA); exact BK196.out) hb); have n8_ := Aside0.mk (kB (g := gb200) (o := .cells #[.int .i64 t197, .int .i64 t198] 24 (0, 0)) (by (with_reducible repeat first|apply kN|apply kD|apply kA); refine kF ?_ NB200_196.out _; (with_reducible repeat first|apply kN|apply kD|apply kA); refine kF ?_ NB200_196.out _; (with_reducible repeat first|apply kN|apply kD|apply kA); exact BK200.out) hb); have n9_ := Aside0.mk (bT (by repeat (first|(with_reducible first|exact HB.out|apply bA|apply bN|apply b1|refine bS ?_ GE169.out|refine bS ?_ GE170.out|refine bS ?_ GE171.out|refine bS ?_ GE180.out|refine bS ?_ GE184.out|refine bS ?_ GE188.out|refine bS ?_ GE192.out|refine bS ?_ GE196.out|refine bS ?_ GE200.out)|exact HB.out)) hb); clear BK169; clear BK170; clear BK171; clear BK180; clear BK184; clear BK188; clear BK192; clear BK196; clear BK200; clear HB; have BK169 := n0_; have BK170 := n1_; have BK171 := n2_; have BK180 := n3_; have BK184 := n4_; have BK188 := n5_; have BK192 := n6_; have BK196 := n7_; have BK200 := n8_; have HB := n9_; clear n0_ n1_ n2_ n3_ n4_ n5_ n6_ n7_ n8_ n9_; (try clear hb); (try clear hb2); (try clear hk); (try clear hi))|((with_reducible refine gate_dst (N := 20) rfl ?_); refine box_event ?hg (N := 20) ?hd (cs := #[.int .i64 0, .int .i64 0]) (t := 24) ?hr ?_; (case hd => rfl); (case hg => rfl); (case hr => first|(go_simp; done)|(go_simp; rfl)); intro gb210 hg w323 hbox hb; have n0_ := Aside0.mk (kB (g := gb169) (by (with_reducible repeat first|apply kN|apply kD|apply kA); exact BK169.out) hb); have n1_ := Aside0.mk (kB (g := gb170) (by (with_reducible repeat first|apply kN|apply kD|apply kA); exact BK170.out) hb); have n2_ := Aside0.mk (kB (g := gb171) (by (with_reducible repeat first|apply kN|apply kD|apply kA); exact BK171.out) hb); have n3_ := Aside0.mk (kB (g := gb180) (by (with_reducible repeat first|apply kN|apply kD|apply kA); exact BK180.out) hb); have n4_ := Aside0.mk (kB (g := gb184) (by (with_reducible repeat first|apply kN|apply kD|apply kA); exact BK184.out) hb); have n5_ := Aside0.mk (kB (g := gb188) (by (with_reducible repeat first|apply kN|apply kD|apply kA); exact BK188.out) hb); have n6_ := Aside0.mk (kB (g := gb192) (by (with_reducible repeat first|apply kN|apply kD|apply kA); exact BK192.out) hb); have n7_ := Aside0.mk (kB (g := gb196) (by (with_reducible repeat first|apply kN|apply kD|apply kA); exact BK196.out) hb); have n8_ := Aside0.mk (kB (g := gb200) (by (with_reducible repeat first|apply kN|apply kD|apply kA); exact BK200.out) hb); have n9_ := Aside0.mk (bT (by repeat (first|(with_reducible first|exact HB.out|apply bA|apply bN|apply b1|refine bS ?_ GE169.out|refine bS ?_ GE170.out|refine bS ?_ GE171.out|refine bS ?_ GE180.out|refine bS ?_ GE184.out|refine bS ?_ GE188.out|refine bS ?_ GE192.out|refine bS ?_ GE196.out|refine bS ?_ GE200.out)|exact HB.out)) hb); have n10_ := Aside0.mk (hbox); have n11_ := Aside0.mk ((by rw [hg]; exact (bZ (by repeat (first|(with_reducible first|exact HB.out|apply bA|apply bN|apply b1|refine bS ?_ GE169.out|refine bS ?_ GE170.out|refine bS ?_ GE171.out|refine bS ?_ GE180.out|refine bS ?_ GE184.out|refine bS ?_ GE188.out|refine bS ?_ GE192.out|refine bS ?_ GE196.out|refine bS ?_ GE200.out)|exact HB.out))) : w.heap.size ≤ gb210)); have n12_ := n11_; have n13_ := Aside0.mk ((by rw [hg]; exact Nat.ne_of_lt (blk_lt (g := gb169) (by (with_reducible repeat first|apply kN|apply kD|apply kA); exact BK169.out)) : gb169 ≠ gb210)); have n14_ := Aside0.mk n13_.out.symm; have n15_ := Aside0.mk ((by rw [hg]; exact Nat.ne_of_lt (blk_lt (g := gb170) (by (with_reducible repeat first|apply kN|apply kD|apply kA); exact BK170.out)) : gb170 ≠ gb210)); have n16_ := Aside0.mk n15_.out.symm; have n17_ := Aside0.mk ((by rw [hg]; exact Nat.ne_of_lt (blk_lt (g := gb171) (by (with_reducible repeat first|apply kN|apply kD|apply kA); exact BK171.out)) : gb171 ≠ gb210)); have n18_ := Aside0.mk n17_.out.symm; have n19_ := Aside0.mk ((by rw [hg]; exact Nat.ne_of_lt (blk_lt (g := gb180) (by (with_reducible repeat first|apply kN|apply kD|apply kA); exact BK180.out)) : gb180 ≠ gb210)); have n20_ := Aside0.mk n19_.out.symm; have n21_ := Aside0.mk ((by rw [hg]; exact Nat.ne_of_lt (blk_lt (g := gb184) (by (with_reducible repeat first|apply kN|apply kD|apply kA); exact BK184.out)) : gb184 ≠ gb210)); have n22_ := Aside0.mk n21_.out.symm; have n23_ := Aside0.mk ((by rw [hg]; exact Nat.ne_of_lt (blk_lt (g := gb188) (by (with_reducible repeat first|apply kN|apply kD|apply kA); exact BK188.out)) : gb188 ≠ gb210)); have n24_ := Aside0.mk n23_.out.symm; have n25_ := Aside0.mk ((by rw [hg]; exact Nat.ne_of_lt (blk_lt (g := gb192) (by (with_reducible repeat first|apply kN|apply kD|apply kA); exact BK192.out)) : gb192 ≠ gb210)); have n26_ := Aside0.mk n25_.out.symm; have n27_ := Aside0.mk ((by rw [hg]; exact Nat.ne_of_lt (blk_lt (g := gb196) (by (with_reducible repeat first|apply kN|apply kD|apply kA); exact BK196.out)) : gb196 ≠ gb210)); have n28_ := Aside0.mk n27_.out.symm; have n29_ := Aside0.mk ((by rw [hg]; exact Nat.ne_of_lt (blk_lt (g := gb200) (by (with_reducible repeat first|apply kN|apply kD|apply kA); exact BK200.out)) : gb200 ≠ gb210)); have n30_ := Aside0.mk n29_.out.symm; clear BK169; clear BK170; clear BK171; clear BK180; clear BK184; clear BK188; clear BK192; clear BK196; clear BK200; clear HB; have BK169 := n0_; have BK170 := n1_; have BK171 := n2_; have BK180 := n3_; have BK184 := n4_; have BK188 := n5_; have BK192 := n6_; have BK196 := n7_; have BK200 := n8_; have HB := n9_; have BK210 := n10_; have GW210 := n11_; have GE210 := n12_; have NB169_210 := n13_; have NB210_169 := n14_; have NB170_210 := n15_; have NB210_170 := n16_; have NB171_210 := n17_; have NB210_171 := n18_; have NB180_210 := n19_; have NB210_180 := n20_; have NB184_210 := n21_; have NB210_184 := n22_; have NB188_210 := n23_; have NB210_188 := n24_; have NB192_210 := n25_; have NB210_192 := n26_; have NB196_210 := n27_; have NB210_196 := n28_; have NB200_210 := n29_; have NB210_200 := n30_; clear n0_ n1_ n2_ n3_ n4_ n5_ n6_ n7_ n8_ n9_ n10_ n11_ n12_ n13_ n14_ n15_ n16_ n17_ n18_ n19_ n20_ n21_ n22_ n23_ n24_ n25_ n26_ n27_ n28_ n29_ n30_; clear hb hbox hg; have hnb324 := NB210_169.out; have hnc324 := NB169_210.out; have hnb325 := NB210_170.out; have hnc325 := NB170_210.out; have hnb326 := NB210_171.out; have hnc326 := NB171_210.out; have hnb327 := NB210_180.out; have hnc327 := NB180_210.out; have hnb328 := NB210_184.out; have hnc328 := NB184_210.out; have hnb329 := NB210_188.out; have hnc329 := NB188_210.out; have hnb330 := NB210_192.out; have hnc330 := NB192_210.out; have hnb331 := NB210_196.out; have hnc331 := NB196_210.out; have hnb332 := NB210_200.out; have hnc332 := NB200_210.out; have hcz333_0 : w323.cell? ⟨gb210, 0, none⟩ = some (.int .i64 0) := (kC BK210.out 0).trans rfl; have hcz333_1 : w323.cell? ⟨gb210, 1, none⟩ = some (.int .i64 0) := (kC BK210.out 1).trans rfl; have hfz333_0 := blk_frozen BK210.out 0; have hfz333_1 := blk_frozen BK210.out 1; have hnb334 := NB180_184.out; have hnc334 := NB184_180.out; have hnb335 := NB180_188.out; have hnc335 := NB188_180.out; have hnb336 := NB180_200.out; have hnc336 := NB200_180.out; have hcz337_0 : w323.cell? ⟨gb180, 0, none⟩ = some (.int .i64 t177) := (kC BK180.out 0).trans rfl; have hcz337_1 : w323.cell? ⟨gb180, 1, none⟩ = some (.int .i64 t178) := (kC BK180.out 1).trans rfl; have hfz337_0 := blk_frozen BK180.out 0; have hfz337_1 := blk_frozen BK180.out 1)|((with_reducible refine gate_callee (f := 17) rfl ?_); refine goesL_ (some 142) rfl rfl Tryd.func17 (by kernel_rfl) rfl #[.agg #[.int .i64 t177, .int .i64 t178], .agg #[.int .i64 t207, .int .i64 t208]] rfl (by (try simp only [List.map_toArray, List.map_cons, List.map_nil]); first | done | rfl|(simp only [List.length_drop, List.length_take]; rfl)) ?_; (with_reducible refine (rational_Add.calls t177 t178 t207 t208 t211 t212 t213 _ A216.out).mono ?_); rintro e w338 ⟨rfl, hb⟩; refine ⟨_, rfl, ?_⟩; have n0_ := Aside0.mk (kB (g := gb169) (o := .cells #[.int .i64 a0_0, .int .i64 a0_1] 24 (0, 0)) (by (with_reducible repeat first|apply kN|apply kD|apply kA); refine kF ?_ NB169_210.out _; (with_reducible repeat first|apply kN|apply kD|apply kA); refine kF ?_ NB169_210.out _; (with_reducible repeat first|apply kN|apply kD|apply kA); exact BK169.out) hb); have n1_ := Aside0.mk (kB (g := gb170) (o := .cells #[.int .i64 a1_0, .int .i64 a1_1] 24 (0, 0)) (by (with_reducible repeat first|apply kN|apply kD|apply kA); refine kF ?_ NB170_210.out _; (with_reducible repeat first|apply kN|apply kD|apply kA); refine kF ?_ NB170_210.out _; (with_reducible repeat first|apply kN|apply kD|apply kA); exact BK170.out) hb); have n2_ := Aside0.mk (kB (g := gb171) (o := .cells #[.int .i64 a2_0, .int .i64 a2_1] 24 (0, 0)) (by (with_reducible repeat first|apply kN|apply kD|apply kA); refine kF ?_ NB171_210.out _; (with_reducible repeat first|apply kN|apply kD|apply kA); refine kF ?_ NB171_210.out _; (with_reducible repeat first|apply kN|apply kD|apply kA); exact BK171.out) hb); have n3_ := Aside0.mk (kB (g := gb180) (o := .cells #[.int .i64 t177, .int .i64 t178] 24 (0, 0)) (by (with_reducible repeat first|apply kN|apply kD|apply kA); refine kF ?_ NB180_210.out _; (with_reducible repeat first|apply kN|apply kD|apply kA); refine kF ?_ NB180_210.out _; (with_reducible repeat first|apply kN|apply kD|apply kA); exact BK180.out) hb); have n4_ := Aside0.mk (kB (g := gb184) (o := .cells #[.int .i64 t181, .int .i64 t182] 24 (0, 0)) (by (with_reducible repeat first|apply kN|apply kD|apply kA); refine kF ?_ NB184_210.out _; (with_reducible repeat first|apply kN|apply kD|apply kA); refine kF ?_ NB184_210.out _; (with_reducible repeat first|apply kN|apply kD|apply kA); exact BK184.out) hb); have n5_ := Aside0.mk (kB (g := gb188) (o := .cells #[.int .i64 t185, .int .i64 t186] 24 (0, 0)) (by (with_reducible repeat first|apply kN|apply kD|apply kA); refine kF ?_ NB188_210.out _; (with_reducible repeat first|apply kN|apply kD|apply kA); refine kF ?_ NB188_210.out _; (with_reducible repeat first|apply kN|apply kD|apply kA); exact BK188.out) hb); have n6_ := Aside0.mk (kB (g := gb192) (o := .cells #[.int .i64 t201, .int .i64 t202] 24 (0, 0)) (by (with_reducible repeat first|apply kN|apply kD|apply kA); refine kF ?_ NB192_210.out _; (with_reducible repeat first|apply kN|apply kD|apply kA); refine kF ?_ NB192_210.out _; (with_reducible repeat first|apply kN|apply kD|apply kA); exact BK192.out) hb); have n7_ := Aside0.mk (kB (g := gb196) (o := .cells #[.int .i64 t204, .int .i64 t205] 24 (0, 0)) (by (with_reducible repeat first|apply kN|apply kD|apply kA); refine kF ?_ NB196_210.out _; (with_reducible repeat first|apply kN|apply kD|apply kA); refine kF ?_ NB196_210.out _; (with_reducible repeat first|apply kN|apply kD|apply kA); exact BK196.out) hb); have n8_ := Aside0.mk (kB (g := gb200) (o := .cells #[.int .i64 t197, .int .i64 t198] 24 (0, 0)) (by (with_reducible repeat first|apply kN|apply kD|apply kA); refine kF ?_ NB200_210.out _; (with_reducible repeat first|apply kN|apply kD|apply kA); refine kF ?_ NB200_210.out _; (with_reducible repeat first|apply kN|apply kD|apply kA); exact BK200.out) hb); have n9_ := Aside0.mk (kB (g := gb210) (o := .cells #[.int .i64 t207, .int .i64 t208] 24 (0, 0)) (by (with_reducible repeat first|apply kN|apply kD|apply kA); refine blk_put (cs := #[.int .i64 t207, .int .i64 0]) ?_ 1 _ rfl; (with_reducible repeat first|apply kN|apply kD|apply kA); refine blk_put (cs := #[.int .i64 0, .int .i64 0]) ?_ 0 _ rfl; (with_reducible repeat first|apply kN|apply kD|apply kA); exact BK210.out) hb); have n10_ := Aside0.mk (bT (by repeat (first|(with_reducible first|exact HB.out|apply bA|apply bN|apply b1|refine bS ?_ GE169.out|refine bS ?_ GE170.out|refine bS ?_ GE171.out|refine bS ?_ GE180.out|refine bS ?_ GE184.out|refine bS ?_ GE188.out|refine bS ?_ GE192.out|refine bS ?_ GE196.out|refine bS ?_ GE200.out|refine bS ?_ GE210.out)|exact HB.out)) hb); clear BK169; clear BK170; clear BK171; clear BK180; clear BK184; clear BK188; clear BK192; clear BK196; clear BK200; clear BK210; clear HB; have BK169 := n0_; have BK170 := n1_; have BK171 := n2_; have BK180 := n3_; have BK184 := n4_; have BK188 := n5_; have BK192 := n6_; have BK196 := n7_; have BK200 := n8_; have BK210 := n9_; have HB := n10_; clear n0_ n1_ n2_ n3_ n4_ n5_ n6_ n7_ n8_ n9_ n10_; (try clear hb); (try clear hb2); (try clear hk); (try clear hi); have hnb339 := NB200_184.out; have hnc339 := NB184_200.out; have hnb340 := NB200_188.out; have hnc340 := NB188_200.out; have hcz341_0 : w338.cell? ⟨gb200, 0, none⟩ = some (.int .i64 t197) := (kC BK200.out 0).trans rfl; have hcz341_1 : w338.cell? ⟨gb200, 1, none⟩ = some (.int .i64 t198) := (kC BK200.out 1).trans rfl; have hfz341_0 := blk_frozen BK200.out 0; have hfz341_1 := blk_frozen BK200.out 1))
                 go_ret
                 exact ⟨by first | rfl|(simp [errW_none, errW_some] <;> rfl)|(simp [*, errW_none, errW_some] <;> rfl), by repeat (first|(with_reducible first|exact HB.out|apply bA|apply bN|apply b1|refine bS ?_ GE169.out|refine bS ?_ GE170.out|refine bS ?_ GE171.out|refine bS ?_ GE180.out|refine bS ?_ GE184.out|refine bS ?_ GE188.out|refine bS ?_ GE192.out|refine bS ?_ GE196.out|refine bS ?_ GE200.out|refine bS ?_ GE210.out)|exact HB.out)⟩
               ·rw [if_neg c220] at H
                have c220b0 : (t209 == 0) = false := beq_eq_false_iff_ne.mpr c220
                have c220b1 : (t209 != 0) = true := bne_iff_ne.mpr c220
                obtain rfl := Option.some.inj H
                have hnb342 := NB170_169.out
                have hnc342 := NB169_170.out
                have hnb343 := NB170_171.out
                have hnc343 := NB171_170.out
                have hnb344 := NB170_180.out
                have hnc344 := NB180_170.out
                have hnb345 := NB170_184.out
                have hnc345 := NB184_170.out
                have hnb346 := NB170_188.out
                have hnc346 := NB188_170.out
                have hnb347 := NB170_192.out
                have hnc347 := NB192_170.out
                have hnb348 := NB170_196.out
                have hnc348 := NB196_170.out
                have hnb349 := NB170_200.out
                have hnc349 := NB200_170.out
                have hcz350_0 : wc.cell? ⟨gb170, 0, none⟩ = some (.int .i64 a1_0) := (kC BK170.out 0).trans rfl
                have hcz350_1 : wc.cell? ⟨gb170, 1, none⟩ = some (.int .i64 a1_1) := (kC BK170.out 1).trans rfl
                have hfz350_0 := blk_frozen BK170.out 0
                have hfz350_1 := blk_frozen BK170.out 1
                have hnb351 := NB171_169.out
                have hnc351 := NB169_171.out
                have hnb352 := NB171_180.out
                have hnc352 := NB180_171.out
                have hnb353 := NB171_184.out
                have hnc353 := NB184_171.out
                have hnb354 := NB171_188.out
                have hnc354 := NB188_171.out
                have hnb355 := NB171_192.out
                have hnc355 := NB192_171.out
                have hnb356 := NB171_196.out
                have hnc356 := NB196_171.out
                have hnb357 := NB171_200.out
                have hnc357 := NB200_171.out
                have hcz358_0 : wc.cell? ⟨gb171, 0, none⟩ = some (.int .i64 a2_0) := (kC BK171.out 0).trans rfl
                have hcz358_1 : wc.cell? ⟨gb171, 1, none⟩ = some (.int .i64 a2_1) := (kC BK171.out 1).trans rfl
                have hfz358_0 := blk_frozen BK171.out 0
                have hfz358_1 := blk_frozen BK171.out 1
                go_wp2_with (first|((with_reducible refine gate_callee (f := 17) rfl ?_); refine goesL_ (some 124) rfl rfl Tryd.func17 (by kernel_rfl) rfl #[.agg #[.int .i64 a1_0, .int .i64 a1_1], .agg #[.int .i64 a2_0, .int .i64 a2_1]] rfl (by (try simp only [List.map_toArray, List.map_cons, List.map_nil]); first | done | rfl|(simp only [List.length_drop, List.length_take]; rfl)) ?_; (with_reducible refine (rational_Add.calls a1_0 a1_1 a2_0 a2_1 t201 t202 t203 _ A213.out).mono ?_); rintro e w359 ⟨rfl, hb⟩; refine ⟨_, rfl, ?_⟩; have n0_ := Aside0.mk (kB (g := gb169) (by (with_reducible repeat first|apply kN|apply kD|apply kA); exact BK169.out) hb); have n1_ := Aside0.mk (kB (g := gb170) (by (with_reducible repeat first|apply kN|apply kD|apply kA); exact BK170.out) hb); have n2_ := Aside0.mk (kB (g := gb171) (by (with_reducible repeat first|apply kN|apply kD|apply kA); exact BK171.out) hb); have n3_ := Aside0.mk (kB (g := gb180) (by (with_reducible repeat first|apply kN|apply kD|apply kA); exact BK180.out) hb); have n4_ := Aside0.mk (kB (g := gb184) (by (with_reducible repeat first|apply kN|apply kD|apply kA); exact BK184.out) hb); have n5_ := Aside0.mk (kB (g := gb188) (by (with_reducible repeat first|apply kN|apply kD|apply kA); exact BK188.out) hb); have n6_ := Aside0.mk (kB (g := gb192) (by (with_reducible repeat first|apply kN|apply kD|apply kA); exact BK192.out) hb); have n7_ := Aside0.mk (kB (g := gb196) (by (with_reducible repeat first|apply kN|apply kD|apply kA); exact BK196.out) hb); have n8_ := Aside0.mk (kB (g := gb200) (by (with_reducible repeat first|apply kN|apply kD|apply kA); exact BK200.out) hb); have n9_ := Aside0.mk (bT (by repeat (first|(with_reducible first|exact HB.out|apply bA|apply bN|apply b1|refine bS ?_ GE169.out|refine bS ?_ GE170.out|refine bS ?_ GE171.out|refine bS ?_ GE180.out|refine bS ?_ GE184.out|refine bS ?_ GE188.out|refine bS ?_ GE192.out|refine bS ?_ GE196.out|refine bS ?_ GE200.out)|exact HB.out)) hb); clear BK169; clear BK170; clear BK171; clear BK180; clear BK184; clear BK188; clear BK192; clear BK196; clear BK200; clear HB; have BK169 := n0_; have BK170 := n1_; have BK171 := n2_; have BK180 := n3_; have BK184 := n4_; have BK188 := n5_; have BK192 := n6_; have BK196 := n7_; have BK200 := n8_; have HB := n9_; clear n0_ n1_ n2_ n3_ n4_ n5_ n6_ n7_ n8_ n9_; (try clear hb); (try clear hb2); (try clear hk); (try clear hi); have hnb360 := NB192_169.out; have hnc360 := NB169_192.out; have hnb361 := NB192_180.out; have hnc361 := NB180_192.out; have hnb362 := NB192_184.out; have hnc362 := NB184_192.out; have hnb363 := NB192_188.out; have hnc363 := NB188_192.out; have hnb364 := NB192_196.out; have hnc364 := NB196_192.out; have hnb365 := NB192_200.out; have hnc365 := NB200_192.out; have hcz366_0 : w359.cell? ⟨gb192, 0, none⟩ = some (.int .i64 t189) := (kC BK192.out 0).trans rfl; have hcz366_1 : w359.cell? ⟨gb192, 1, none⟩ = some (.int .i64 t190) := (kC BK192.out 1).trans rfl; have hfz366_0 := blk_frozen BK192.out 0; have hfz366_1 := blk_frozen BK192.out 1; have hnb367 := NB169_180.out; have hnc367 := NB180_169.out; have hnb368 := NB169_184.out; have hnc368 := NB184_169.out; have hnb369 := NB169_188.out; have hnc369 := NB188_169.out; have hnb370 := NB169_196.out; have hnc370 := NB196_169.out; have hnb371 := NB169_200.out; have hnc371 := NB200_169.out; have hcz372_0 : w359.cell? ⟨gb169, 0, none⟩ = some (.int .i64 a0_0) := (kC BK169.out 0).trans rfl; have hcz372_1 : w359.cell? ⟨gb169, 1, none⟩ = some (.int .i64 a0_1) := (kC BK169.out 1).trans rfl; have hfz372_0 := blk_frozen BK169.out 0; have hfz372_1 := blk_frozen BK169.out 1)|((with_reducible refine gate_callee (f := 15) rfl ?_); refine goesL_ (some 130) rfl rfl Tryd.func15 (by kernel_rfl) rfl #[.agg #[.int .i64 a0_0, .int .i64 a0_1], .agg #[.int .i64 t201, .int .i64 t202]] rfl (by (try simp only [List.map_toArray, List.map_cons, List.map_nil]); first | done | rfl|(simp only [List.length_drop, List.length_take]; rfl)) ?_; (with_reducible refine (rational_Mul.calls a0_0 a0_1 t201 t202 t204 t205 t206 _ A214.out).mono ?_); rintro e w373 ⟨rfl, hb⟩; refine ⟨_, rfl, ?_⟩; have n0_ := Aside0.mk (kB (g := gb169) (o := .cells #[.int .i64 a0_0, .int .i64 a0_1] 24 (0, 0)) (by (with_reducible repeat first|apply kN|apply kD|apply kA); refine kF ?_ NB169_192.out _; (with_reducible repeat first|apply kN|apply kD|apply kA); refine kF ?_ NB169_192.out _; (with_reducible repeat first|apply kN|apply kD|apply kA); exact BK169.out) hb); have n1_ := Aside0.mk (kB (g := gb170) (o := .cells #[.int .i64 a1_0, .int .i64 a1_1] 24 (0, 0)) (by (with_reducible repeat first|apply kN|apply kD|apply kA); refine kF ?_ NB170_192.out _; (with_reducible repeat first|apply kN|apply kD|apply kA); refine kF ?_ NB170_192.out _; (with_reducible repeat first|apply kN|apply kD|apply kA); exact BK170.out) hb); have n2_ := Aside0.mk (kB (g := gb171) (o := .cells #[.int .i64 a2_0, .int .i64 a2_1] 24 (0, 0)) (by (with_reducible repeat first|apply kN|apply kD|apply kA); refine kF ?_ NB171_192.out _; (with_reducible repeat first|apply kN|apply kD|apply kA); refine kF ?_ NB171_192.out _; (with_reducible repeat first|apply kN|apply kD|apply kA); exact BK171.out) hb); have n3_ := Aside0.mk (kB (g := gb180) (o := .cells #[.int .i64 t177, .int .i64 t178] 24 (0, 0)) (by (with_reducible repeat first|apply kN|apply kD|apply kA); refine kF ?_ NB180_192.out _; (with_reducible repeat first|apply kN|apply kD|apply kA); refine kF ?_ NB180_192.out _; (with_reducible repeat first|apply kN|apply kD|apply kA); exact BK180.out) hb); have n4_ := Aside0.mk (kB (g := gb184) (o := .cells #[.int .i64 t181, .int .i64 t182] 24 (0, 0)) (by (with_reducible repeat first|apply kN|apply kD|apply kA); refine kF ?_ NB184_192.out _; (with_reducible repeat first|apply kN|apply kD|apply kA); refine kF ?_ NB184_192.out _; (with_reducible repeat first|apply kN|apply kD|apply kA); exact BK184.out) hb); have n5_ := Aside0.mk (kB (g := gb188) (o := .cells #[.int .i64 t185, .int .i64 t186] 24 (0, 0)) (by (with_reducible repeat first|apply kN|apply kD|apply kA); refine kF ?_ NB188_192.out _; (with_reducible repeat first|apply kN|apply kD|apply kA); refine kF ?_ NB188_192.out _; (with_reducible repeat first|apply kN|apply kD|apply kA); exact BK188.out) hb); have n6_ := Aside0.mk (kB (g := gb192) (o := .cells #[.int .i64 t201, .int .i64 t202] 24 (0, 0)) (by (with_reducible repeat first|apply kN|apply kD|apply kA); refine blk_put (cs := #[.int .i64 t201, .int .i64 t190]) ?_ 1 _ rfl; (with_reducible repeat first|apply kN|apply kD|apply kA); refine blk_put (cs := #[.int .i64 t189, .int .i64 t190]) ?_ 0 _ rfl; (with_reducible repeat first|apply kN|apply kD|apply kA); exact BK192.out) hb); have n7_ := Aside0.mk (kB (g := gb196) (o := .cells #[.int .i64 t193, .int .i64 t194] 24 (0, 0)) (by (with_reducible repeat first|apply kN|apply kD|apply kA); refine kF ?_ NB196_192.out _; (with_reducible repeat first|apply kN|apply kD|apply kA); refine kF ?_ NB196_192.out _; (with_reducible repeat first|apply kN|apply kD|apply kA); exact BK196.out) hb); have n8_ := Aside0.mk (kB (g := gb200) (o := .cells #[.int .i64 t197, .int .i64 t198] 24 (0, 0)) (by (with_reducible repeat first|apply kN|apply kD|apply kA); refine kF ?_ NB200_192.out _; (with_reducible repeat first|apply kN|apply kD|apply kA); refine kF ?_ NB200_192.out _; (with_reducible repeat first|apply kN|apply kD|apply kA); exact BK200.out) hb); have n9_ := Aside0.mk (bT (by repeat (first|(with_reducible first|exact HB.out|apply bA|apply bN|apply b1|refine bS ?_ GE169.out|refine bS ?_ GE170.out|refine bS ?_ GE171.out|refine bS ?_ GE180.out|refine bS ?_ GE184.out|refine bS ?_ GE188.out|refine bS ?_ GE192.out|refine bS ?_ GE196.out|refine bS ?_ GE200.out)|exact HB.out)) hb); clear BK169; clear BK170; clear BK171; clear BK180; clear BK184; clear BK188; clear BK192; clear BK196; clear BK200; clear HB; have BK169 := n0_; have BK170 := n1_; have BK171 := n2_; have BK180 := n3_; have BK184 := n4_; have BK188 := n5_; have BK192 := n6_; have BK196 := n7_; have BK200 := n8_; have HB := n9_; clear n0_ n1_ n2_ n3_ n4_ n5_ n6_ n7_ n8_ n9_; (try clear hb); (try clear hb2); (try clear hk); (try clear hi); have hnb374 := NB196_180.out; have hnc374 := NB180_196.out; have hnb375 := NB196_184.out; have hnc375 := NB184_196.out; have hnb376 := NB196_188.out; have hnc376 := NB188_196.out; have hnb377 := NB196_200.out; have hnc377 := NB200_196.out; have hcz378_0 : w373.cell? ⟨gb196, 0, none⟩ = some (.int .i64 t193) := (kC BK196.out 0).trans rfl; have hcz378_1 : w373.cell? ⟨gb196, 1, none⟩ = some (.int .i64 t194) := (kC BK196.out 1).trans rfl; have hfz378_0 := blk_frozen BK196.out 0; have hfz378_1 := blk_frozen BK196.out 1; have hcz379_0 : w373.cell? ⟨gb169, 0, none⟩ = some (.int .i64 a0_0) := (kC BK169.out 0).trans rfl; have hcz379_1 : w373.cell? ⟨gb169, 1, none⟩ = some (.int .i64 a0_1) := (kC BK169.out 1).trans rfl; have hfz379_0 := blk_frozen BK169.out 0; have hfz379_1 := blk_frozen BK169.out 1; have hcz380_0 : w373.cell? ⟨gb171, 0, none⟩ = some (.int .i64 a2_0) := (kC BK171.out 0).trans rfl; have hcz380_1 : w373.cell? ⟨gb171, 1, none⟩ = some (.int .i64 a2_1) := (kC BK171.out 1).trans rfl; have hfz380_0 := blk_frozen BK171.out 0; have hfz380_1 := blk_frozen BK171.out 1)|((with_reducible refine gate_callee (f := 15) rfl ?_); refine goesL_ (some 136) rfl rfl Tryd.func15 (by kernel_rfl) rfl #[.agg #[.int .i64 a0_0, .int .i64 a0_1], .agg #[.int .i64 a2_0, .int .i64 a2_1]] rfl (by (try simp only [List.map_toArray, List.map_cons, List.map_nil]); first | done | rfl|(simp only [List.length_drop, List.length_take]; rfl)) ?_; (with_reducible refine (rational_Mul.calls a0_0 a0_1 a2_0 a2_1 t207 t208 t209 _ A215.out).mono ?_); rintro e w381 ⟨rfl, hb⟩; refine ⟨_, rfl, ?_⟩; have n0_ := Aside0.mk (kB (g := gb169) (o := .cells #[.int .i64 a0_0, .int .i64 a0_1] 24 (0, 0)) (by (with_reducible repeat first|apply kN|apply kD|apply kA); refine kF ?_ NB169_196.out _; (with_reducible repeat first|apply kN|apply kD|apply kA); refine kF ?_ NB169_196.out _; (with_reducible repeat first|apply kN|apply kD|apply kA); exact BK169.out) hb); have n1_ := Aside0.mk (kB (g := gb170) (o := .cells #[.int .i64 a1_0, .int .i64 a1_1] 24 (0, 0)) (by (with_reducible repeat first|apply kN|apply kD|apply kA); refine kF ?_ NB170_196.out _; (with_reducible repeat first|apply kN|apply kD|apply kA); refine kF ?_ NB170_196.out _; (with_reducible repeat first|apply kN|apply kD|apply kA); exact BK170.out) hb); have n2_ := Aside0.mk (kB (g := gb171) (o := .cells #[.int .i64 a2_0, .int .i64 a2_1] 24 (0, 0)) (by (with_reducible repeat first|apply kN|apply kD|apply kA); refine kF ?_ NB171_196.out _; (with_reducible repeat first|apply kN|apply kD|apply kA); refine kF ?_ NB171_196.out _; (with_reducible repeat first|apply kN|apply kD|apply kA); exact BK171.out) hb); have n3_ := Aside0.mk (kB (g := gb180) (o := .cells #[.int .i64 t177, .int .i64 t178] 24 (0, 0)) (by (with_reducible repeat first|apply kN|apply kD|apply kA); refine kF ?_ NB180_196.out _; (with_reducible repeat first|apply kN|apply kD|apply kA); refine kF ?_ NB180_196.out _; (with_reducible repeat first|apply kN|apply kD|apply kA); exact BK180.out) hb); have n4_ := Aside0.mk (kB (g := gb184) (o := .cells #[.int .i64 t181, .int .i64 t182] 24 (0, 0)) (by (with_reducible repeat first|apply kN|apply kD|apply kA); refine kF ?_ NB184_196.out _; (with_reducible repeat first|apply kN|apply kD|apply kA); refine kF ?_ NB184_196.out _; (with_reducible repeat first|apply kN|apply kD|apply kA); exact BK184.out) hb); have n5_ := Aside0.mk (kB (g := gb188) (o := .cells #[.int .i64 t185, .int .i64 t186] 24 (0, 0)) (by (with_reducible repeat first|apply kN|apply kD|apply kA); refine kF ?_ NB188_196.out _; (with_reducible repeat first|apply kN|apply kD|apply kA); refine kF ?_ NB188_196.out _; (with_reducible repeat first|apply kN|apply kD|apply kA); exact BK188.out) hb); have n6_ := Aside0.mk (kB (g := gb192) (o := .cells #[.int .i64 t201, .int .i64 t202] 24 (0, 0)) (by (with_reducible repeat first|apply kN|apply kD|apply kA); refine kF ?_ NB192_196.out _; (with_reducible repeat first|apply kN|apply kD|apply kA); refine kF ?_ NB192_196.out _; (with_reducible repeat first|apply kN|apply kD|apply kA); exact BK192.out) hb); have n7_ := Aside0.mk (kB (g := gb196) (o := .cells #[.int .i64 t204, .int .i64 t205] 24 (0, 0)) (by (with_reducible repeat first|apply kN|apply kD|apply kA); refine blk_put (cs := #[.int .i64 t204, .int .i64 t194]) ?_ 1 _ rfl; (with_reducible repeat first|apply kN|apply kD|apply kA); refine blk_put (cs := #[.int .i64 t193, .int .i64 t194]) ?_ 0 _ rfl; (with_reducible repeat first|apply kN|apply kD|apply kA); exact BK196.out) hb); have n8_ := Aside0.mk (kB (g := gb200) (o := .cells #[.int .i64 t197, .int .i64 t198] 24 (0, 0)) (by (with_reducible repeat first|apply kN|apply kD|apply kA); refine kF ?_ NB200_196.out _; (with_reducible repeat first|apply kN|apply kD|apply kA); refine kF ?_ NB200_196.out _; (with_reducible repeat first|apply kN|apply kD|apply kA); exact BK200.out) hb); have n9_ := Aside0.mk (bT (by repeat (first|(with_reducible first|exact HB.out|apply bA|apply bN|apply b1|refine bS ?_ GE169.out|refine bS ?_ GE170.out|refine bS ?_ GE171.out|refine bS ?_ GE180.out|refine bS ?_ GE184.out|refine bS ?_ GE188.out|refine bS ?_ GE192.out|refine bS ?_ GE196.out|refine bS ?_ GE200.out)|exact HB.out)) hb); clear BK169; clear BK170; clear BK171; clear BK180; clear BK184; clear BK188; clear BK192; clear BK196; clear BK200; clear HB; have BK169 := n0_; have BK170 := n1_; have BK171 := n2_; have BK180 := n3_; have BK184 := n4_; have BK188 := n5_; have BK192 := n6_; have BK196 := n7_; have BK200 := n8_; have HB := n9_; clear n0_ n1_ n2_ n3_ n4_ n5_ n6_ n7_ n8_ n9_; (try clear hb); (try clear hb2); (try clear hk); (try clear hi))|((with_reducible refine gate_dst (N := 20) rfl ?_); refine box_event ?hg (N := 20) ?hd (cs := #[.int .i64 0, .int .i64 0]) (t := 24) ?hr ?_; (case hd => rfl); (case hg => rfl); (case hr => first|(go_simp; done)|(go_simp; rfl)); intro gb210 hg w382 hbox hb; have n0_ := Aside0.mk (kB (g := gb169) (by (with_reducible repeat first|apply kN|apply kD|apply kA); exact BK169.out) hb); have n1_ := Aside0.mk (kB (g := gb170) (by (with_reducible repeat first|apply kN|apply kD|apply kA); exact BK170.out) hb); have n2_ := Aside0.mk (kB (g := gb171) (by (with_reducible repeat first|apply kN|apply kD|apply kA); exact BK171.out) hb); have n3_ := Aside0.mk (kB (g := gb180) (by (with_reducible repeat first|apply kN|apply kD|apply kA); exact BK180.out) hb); have n4_ := Aside0.mk (kB (g := gb184) (by (with_reducible repeat first|apply kN|apply kD|apply kA); exact BK184.out) hb); have n5_ := Aside0.mk (kB (g := gb188) (by (with_reducible repeat first|apply kN|apply kD|apply kA); exact BK188.out) hb); have n6_ := Aside0.mk (kB (g := gb192) (by (with_reducible repeat first|apply kN|apply kD|apply kA); exact BK192.out) hb); have n7_ := Aside0.mk (kB (g := gb196) (by (with_reducible repeat first|apply kN|apply kD|apply kA); exact BK196.out) hb); have n8_ := Aside0.mk (kB (g := gb200) (by (with_reducible repeat first|apply kN|apply kD|apply kA); exact BK200.out) hb); have n9_ := Aside0.mk (bT (by repeat (first|(with_reducible first|exact HB.out|apply bA|apply bN|apply b1|refine bS ?_ GE169.out|refine bS ?_ GE170.out|refine bS ?_ GE171.out|refine bS ?_ GE180.out|refine bS ?_ GE184.out|refine bS ?_ GE188.out|refine bS ?_ GE192.out|refine bS ?_ GE196.out|refine bS ?_ GE200.out)|exact HB.out)) hb); have n10_ := Aside0.mk (hbox); have n11_ := Aside0.mk ((by rw [hg]; exact (bZ (by repeat (first|(with_reducible first|exact HB.out|apply bA|apply bN|apply b1|refine bS ?_ GE169.out|refine bS ?_ GE170.out|refine bS ?_ GE171.out|refine bS ?_ GE180.out|refine bS ?_ GE184.out|refine bS ?_ GE188.out|refine bS ?_ GE192.out|refine bS ?_ GE196.out|refine bS ?_ GE200.out)|exact HB.out))) : w.heap.size ≤ gb210)); have n12_ := n11_; have n13_ := Aside0.mk ((by rw [hg]; exact Nat.ne_of_lt (blk_lt (g := gb169) (by (with_reducible repeat first|apply kN|apply kD|apply kA); exact BK169.out)) : gb169 ≠ gb210)); have n14_ := Aside0.mk n13_.out.symm; have n15_ := Aside0.mk ((by rw [hg]; exact Nat.ne_of_lt (blk_lt (g := gb170) (by (with_reducible repeat first|apply kN|apply kD|apply kA); exact BK170.out)) : gb170 ≠ gb210)); have n16_ := Aside0.mk n15_.out.symm; have n17_ := Aside0.mk ((by rw [hg]; exact Nat.ne_of_lt (blk_lt (g := gb171) (by (with_reducible repeat first|apply kN|apply kD|apply kA); exact BK171.out)) : gb171 ≠ gb210)); have n18_ := Aside0.mk n17_.out.symm; have n19_ := Aside0.mk ((by rw [hg]; exact Nat.ne_of_lt (blk_lt (g := gb180) (by (with_reducible repeat first|apply kN|apply kD|apply kA); exact BK180.out)) : gb180 ≠ gb210)); have n20_ := Aside0.mk n19_.out.symm; have n21_ := Aside0.mk ((by rw [hg]; exact Nat.ne_of_lt (blk_lt (g := gb184) (by (with_reducible repeat first|apply kN|apply kD|apply kA); exact BK184.out)) : gb184 ≠ gb210)); have n22_ := Aside0.mk n21_.out.symm; have n23_ := Aside0.mk ((by rw [hg]; exact Nat.ne_of_lt (blk_lt (g := gb188) (by (with_reducible repeat first|apply kN|apply kD|apply kA); exact BK188.out)) : gb188 ≠ gb210)); have n24_ := Aside0.mk n23_.out.symm; have n25_ := Aside0.mk ((by rw [hg]; exact Nat.ne_of_lt (blk_lt (g := gb192) (by (with_reducible repeat first|apply kN|apply kD|apply kA); exact BK192.out)) : gb192 ≠ gb210)); have n26_ := Aside0.mk n25_.out.symm; have n27_ := Aside0.mk ((by rw [hg]; exact Nat.ne_of_lt (blk_lt (g := gb196) (by (with_reducible repeat first|apply kN|apply kD|apply kA); exact BK196.out)) : gb196 ≠ gb210)); have n28_ := Aside0.mk n27_.out.symm; have n29_ := Aside0.mk ((by rw [hg]; exact Nat.ne_of_lt (blk_lt (g := gb200) (by (with_reducible repeat first|apply kN|apply kD|apply kA); exact BK200.out)) : gb200 ≠ gb210)); have n30_ := Aside0.mk n29_.out.symm; clear BK169; clear BK170; clear BK171; clear BK180; clear BK184; clear BK188; clear BK192; clear BK196; clear BK200; clear HB; have BK169 := n0_; have BK170 := n1_; have BK171 := n2_; have BK180 := n3_; have BK184 := n4_; have BK188 := n5_; have BK192 := n6_; have BK196 := n7_; have BK200 := n8_; have HB := n9_; have BK210 := n10_; have GW210 := n11_; have GE210 := n12_; have NB169_210 := n13_; have NB210_169 := n14_; have NB170_210 := n15_; have NB210_170 := n16_; have NB171_210 := n17_; have NB210_171 := n18_; have NB180_210 := n19_; have NB210_180 := n20_; have NB184_210 := n21_; have NB210_184 := n22_; have NB188_210 := n23_; have NB210_188 := n24_; have NB192_210 := n25_; have NB210_192 := n26_; have NB196_210 := n27_; have NB210_196 := n28_; have NB200_210 := n29_; have NB210_200 := n30_; clear n0_ n1_ n2_ n3_ n4_ n5_ n6_ n7_ n8_ n9_ n10_ n11_ n12_ n13_ n14_ n15_ n16_ n17_ n18_ n19_ n20_ n21_ n22_ n23_ n24_ n25_ n26_ n27_ n28_ n29_ n30_; clear hb hbox hg; have hnb383 := NB210_169.out; have hnc383 := NB169_210.out; have hnb384 := NB210_170.out; have hnc384 := NB170_210.out; have hnb385 := NB210_171.out; have hnc385 := NB171_210.out; have hnb386 := NB210_180.out; have hnc386 := NB180_210.out; have hnb387 := NB210_184.out; have hnc387 := NB184_210.out; have hnb388 := NB210_188.out; have hnc388 := NB188_210.out; have hnb389 := NB210_192.out; have hnc389 := NB192_210.out; have hnb390 := NB210_196.out; have hnc390 := NB196_210.out; have hnb391 := NB210_200.out; have hnc391 := NB200_210.out; have hcz392_0 : w382.cell? ⟨gb210, 0, none⟩ = some (.int .i64 0) := (kC BK210.out 0).trans rfl; have hcz392_1 : w382.cell? ⟨gb210, 1, none⟩ = some (.int .i64 0) := (kC BK210.out 1).trans rfl; have hfz392_0 := blk_frozen BK210.out 0; have hfz392_1 := blk_frozen BK210.out 1; have hnb393 := NB180_184.out; have hnc393 := NB184_180.out; have hnb394 := NB180_188.out; have hnc394 := NB188_180.out; have hnb395 := NB180_200.out; have hnc395 := NB200_180.out; have hcz396_0 : w382.cell? ⟨gb180, 0, none⟩ = some (.int .i64 t177) := (kC BK180.out 0).trans rfl; have hcz396_1 : w382.cell? ⟨gb180, 1, none⟩ = some (.int .i64 t178) := (kC BK180.out 1).trans rfl; have hfz396_0 := blk_frozen BK180.out 0; have hfz396_1 := blk_frozen BK180.out 1)|((with_reducible refine gate_callee (f := 17) rfl ?_); refine goesL_ (some 142) rfl rfl Tryd.func17 (by kernel_rfl) rfl #[.agg #[.int .i64 t177, .int .i64 t178], .agg #[.int .i64 t207, .int .i64 t208]] rfl (by (try simp only [List.map_toArray, List.map_cons, List.map_nil]); first | done | rfl|(simp only [List.length_drop, List.length_take]; rfl)) ?_; (with_reducible refine (rational_Add.calls t177 t178 t207 t208 t211 t212 t213 _ A216.out).mono ?_); rintro e w397 ⟨rfl, hb⟩; refine ⟨_, rfl, ?_⟩; have n0_ := Aside0.mk (kB (g := gb169) (o := .cells #[.int .i64 a0_0, .int .i64 a0_1] 24 (0, 0)) (by (with_reducible repeat first|apply kN|apply kD|apply kA); refine kF ?_ NB169_210.out _; (with_reducible repeat first|apply kN|apply kD|apply kA); refine kF ?_ NB169_210.out _; (with_reducible repeat first|apply kN|apply kD|apply kA); exact BK169.out) hb); have n1_ := Aside0.mk (kB (g := gb170) (o := .cells #[.int .i64 a1_0, .int .i64 a1_1] 24 (0, 0)) (by (with_reducible repeat first|apply kN|apply kD|apply kA); refine kF ?_ NB170_210.out _; (with_reducible repeat first|apply kN|apply kD|apply kA); refine kF ?_ NB170_210.out _; (with_reducible repeat first|apply kN|apply kD|apply kA); exact BK170.out) hb); have n2_ := Aside0.mk (kB (g := gb171) (o := .cells #[.int .i64 a2_0, .int .i64 a2_1] 24 (0, 0)) (by (with_reducible repeat first|apply kN|apply kD|apply kA); refine kF ?_ NB171_210.out _; (with_reducible repeat first|apply kN|apply kD|apply kA); refine kF ?_ NB171_210.out _; (with_reducible repeat first|apply kN|apply kD|apply kA); exact BK171.out) hb); have n3_ := Aside0.mk (kB (g := gb180) (o := .cells #[.int .i64 t177, .int .i64 t178] 24 (0, 0)) (by (with_reducible repeat first|apply kN|apply kD|apply kA); refine kF ?_ NB180_210.out _; (with_reducible repeat first|apply kN|apply kD|apply kA); refine kF ?_ NB180_210.out _; (with_reducible repeat first|apply kN|apply kD|apply kA); exact BK180.out) hb); have n4_ := Aside0.mk (kB (g := gb184) (o := .cells #[.int .i64 t181, .int .i64 t182] 24 (0, 0)) (by (with_reducible repeat first|apply kN|apply kD|apply kA); refine kF ?_ NB184_210.out _; (with_reducible repeat first|apply kN|apply kD|apply kA); refine kF ?_ NB184_210.out _; (with_reducible repeat first|apply kN|apply kD|apply kA); exact BK184.out) hb); have n5_ := Aside0.mk (kB (g := gb188) (o := .cells #[.int .i64 t185, .int .i64 t186] 24 (0, 0)) (by (with_reducible repeat first|apply kN|apply kD|apply kA); refine kF ?_ NB188_210.out _; (with_reducible repeat first|apply kN|apply kD|apply kA); refine kF ?_ NB188_210.out _; (with_reducible repeat first|apply kN|apply kD|apply kA); exact BK188.out) hb); have n6_ := Aside0.mk (kB (g := gb192) (o := .cells #[.int .i64 t201, .int .i64 t202] 24 (0, 0)) (by (with_reducible repeat first|apply kN|apply kD|apply kA); refine kF ?_ NB192_210.out _; (with_reducible repeat first|apply kN|apply kD|apply kA); refine kF ?_ NB192_210.out _; (with_reducible repeat first|apply kN|apply kD|apply kA); exact BK192.out) hb); have n7_ := Aside0.mk (kB (g := gb196) (o := .cells #[.int .i64 t204, .int .i64 t205] 24 (0, 0)) (by (with_reducible repeat first|apply kN|apply kD|apply kA); refine kF ?_ NB196_210.out _; (with_reducible repeat first|apply kN|apply kD|apply kA); refine kF ?_ NB196_210.out _; (with_reducible repeat first|apply kN|apply kD|apply kA); exact BK196.out) hb); have n8_ := Aside0.mk (kB (g := gb200) (o := .cells #[.int .i64 t197, .int .i64 t198] 24 (0, 0)) (by (with_reducible repeat first|apply kN|apply kD|apply kA); refine kF ?_ NB200_210.out _; (with_reducible repeat first|apply kN|apply kD|apply kA); refine kF ?_ NB200_210.out _; (with_reducible repeat first|apply kN|apply kD|apply kA); exact BK200.out) hb); have n9_ := Aside0.mk (kB (g := gb210) (o := .cells #[.int .i64 t207, .int .i64 t208] 24 (0, 0)) (by (with_reducible repeat first|apply kN|apply kD|apply kA); refine blk_put (cs := #[.int .i64 t207, .int .i64 0]) ?_ 1 _ rfl; (with_reducible repeat first|apply kN|apply kD|apply kA); refine blk_put (cs := #[.int .i64 0, .int .i64 0]) ?_ 0 _ rfl; (with_reducible repeat first|apply kN|apply kD|apply kA); exact BK210.out) hb); have n10_ := Aside0.mk (bT (by repeat (first|(with_reducible first|exact HB.out|apply bA|apply bN|apply b1|refine bS ?_ GE169.out|refine bS ?_ GE170.out|refine bS ?_ GE171.out|refine bS ?_ GE180.out|refine bS ?_ GE184.out|refine bS ?_ GE188.out|refine bS ?_ GE192.out|refine bS ?_ GE196.out|refine bS ?_ GE200.out|refine bS ?_ GE210.out)|exact HB.out)) hb); clear BK169; clear BK170; clear BK171; clear BK180; clear BK184; clear BK188; clear BK192; clear BK196; clear BK200; clear BK210; clear HB; have BK169 := n0_; have BK170 := n1_; have BK171 := n2_; have BK180 := n3_; have BK184 := n4_; have BK188 := n5_; have BK192 := n6_; have BK196 := n7_; have BK200 := n8_; have BK210 := n9_; have HB := n10_; clear n0_ n1_ n2_ n3_ n4_ n5_ n6_ n7_ n8_ n9_ n10_; (try clear hb); (try clear hb2); (try clear hk); (try clear hi); have hnb398 := NB200_184.out; have hnc398 := NB184_200.out; have hnb399 := NB200_188.out; have hnc399 := NB188_200.out; have hcz400_0 : w397.cell? ⟨gb200, 0, none⟩ = some (.int .i64 t197) := (kC BK200.out 0).trans rfl; have hcz400_1 : w397.cell? ⟨gb200, 1, none⟩ = some (.int .i64 t198) := (kC BK200.out 1).trans rfl; have hfz400_0 := blk_frozen BK200.out 0; have hfz400_1 := blk_frozen BK200.out 1))
                go_ret
                exact ⟨by first | rfl|(simp [errW_none, errW_some] <;> rfl)|(simp [*, errW_none, errW_some] <;> rfl), by repeat (first|(with_reducible first|exact HB.out|apply bA|apply bN|apply b1|refine bS ?_ GE169.out|refine bS ?_ GE170.out|refine bS ?_ GE171.out|refine bS ?_ GE180.out|refine bS ?_ GE184.out|refine bS ?_ GE188.out|refine bS ?_ GE192.out|refine bS ?_ GE196.out|refine bS ?_ GE200.out|refine bS ?_ GE210.out)|exact HB.out)⟩
              ·rw [if_neg c219] at H
               have c219b0 : (t206 == 0) = false := beq_eq_false_iff_ne.mpr c219
               have c219b1 : (t206 != 0) = true := bne_iff_ne.mpr c219
               obtain rfl := Option.some.inj H
               have hnb401 := NB170_169.out
               have hnc401 := NB169_170.out
               have hnb402 := NB170_171.out
               have hnc402 := NB171_170.out
               have hnb403 := NB170_180.out
               have hnc403 := NB180_170.out
               have hnb404 := NB170_184.out
               have hnc404 := NB184_170.out
               have hnb405 := NB170_188.out
               have hnc405 := NB188_170.out
               have hnb406 := NB170_192.out
               have hnc406 := NB192_170.out
               have hnb407 := NB170_196.out
               have hnc407 := NB196_170.out
               have hnb408 := NB170_200.out
               have hnc408 := NB200_170.out
               have hcz409_0 : wc.cell? ⟨gb170, 0, none⟩ = some (.int .i64 a1_0) := (kC BK170.out 0).trans rfl
               have hcz409_1 : wc.cell? ⟨gb170, 1, none⟩ = some (.int .i64 a1_1) := (kC BK170.out 1).trans rfl
               have hfz409_0 := blk_frozen BK170.out 0
               have hfz409_1 := blk_frozen BK170.out 1
               have hnb410 := NB171_169.out
               have hnc410 := NB169_171.out
               have hnb411 := NB171_180.out
               have hnc411 := NB180_171.out
               have hnb412 := NB171_184.out
               have hnc412 := NB184_171.out
               have hnb413 := NB171_188.out
               have hnc413 := NB188_171.out
               have hnb414 := NB171_192.out
               have hnc414 := NB192_171.out
               have hnb415 := NB171_196.out
               have hnc415 := NB196_171.out
               have hnb416 := NB171_200.out
               have hnc416 := NB200_171.out
               have hcz417_0 : wc.cell? ⟨gb171, 0, none⟩ = some (.int .i64 a2_0) := (kC BK171.out 0).trans rfl
               have hcz417_1 : wc.cell? ⟨gb171, 1, none⟩ = some (.int .i64 a2_1) := (kC BK171.out 1).trans rfl
               have hfz417_0 := blk_frozen BK171.out 0
               have hfz417_1 := blk_frozen BK171.out 1
               go_wp2_with (first|((with_reducible refine gate_callee (f := 17) rfl ?_); refine goesL_ (some 124) rfl rfl Tryd.func17 (by kernel_rfl) rfl #[.agg #[.int .i64 a1_0, .int .i64 a1_1], .agg #[.int .i64 a2_0, .int .i64 a2_1]] rfl (by (try simp only [List.map_toArray, List.map_cons, List.map_nil]); first | done | rfl|(simp only [List.length_drop, List.length_take]; rfl)) ?_; (with_reducible refine (rational_Add.calls a1_0 a1_1 a2_0 a2_1 t201 t202 t203 _ A213.out).mono ?_); rintro e w418 ⟨rfl, hb⟩; refine ⟨_, rfl, ?_⟩; have n0_ := Aside0.mk (kB (g := gb169) (by (with_reducible repeat first|apply kN|apply kD|apply kA); exact BK169.out) hb); have n1_ := Aside0.mk (kB (g := gb170) (by (with_reducible repeat first|apply kN|apply kD|apply kA); exact BK170.out) hb); have n2_ := Aside0.mk (kB (g := gb171) (by (with_reducible repeat first|apply kN|apply kD|apply kA); exact BK171.out) hb); have n3_ := Aside0.mk (kB (g := gb180) (by (with_reducible repeat first|apply kN|apply kD|apply kA); exact BK180.out) hb); have n4_ := Aside0.mk (kB (g := gb184) (by (with_reducible repeat first|apply kN|apply kD|apply kA); exact BK184.out) hb); have n5_ := Aside0.mk (kB (g := gb188) (by (with_reducible repeat first|apply kN|apply kD|apply kA); exact BK188.out) hb); have n6_ := Aside0.mk (kB (g := gb192) (by (with_reducible repeat first|apply kN|apply kD|apply kA); exact BK192.out) hb); have n7_ := Aside0.mk (kB (g := gb196) (by (with_reducible repeat first|apply kN|apply kD|apply kA); exact BK196.out) hb); have n8_ := Aside0.mk (kB (g := gb200) (by (with_reducible repeat first|apply kN|apply kD|apply kA); exact BK200.out) hb); have n9_ := Aside0.mk (bT (by repeat (first|(with_reducible first|exact HB.out|apply bA|apply bN|apply b1|refine bS ?_ GE169.out|refine bS ?_ GE170.out|refine bS ?_ GE171.out|refine bS ?_ GE180.out|refine bS ?_ GE184.out|refine bS ?_ GE188.out|refine bS ?_ GE192.out|refine bS ?_ GE196.out|refine bS ?_ GE200.out)|exact HB.out)) hb); clear BK169; clear BK170; clear BK171; clear BK180; clear BK184; clear BK188; clear BK192; clear BK196; clear BK200; clear HB; have BK169 := n0_; have BK170 := n1_; have BK171 := n2_; have BK180 := n3_; have BK184 := n4_; have BK188 := n5_; have BK192 := n6_; have BK196 := n7_; have BK200 := n8_; have HB := n9_; clear n0_ n1_ n2_ n3_ n4_ n5_ n6_ n7_ n8_ n9_; (try clear hb); (try clear hb2); (try clear hk); (try clear hi); have hnb419 := NB192_169.out; have hnc419 := NB169_192.out; have hnb420 := NB192_180.out; have hnc420 := NB180_192.out; have hnb421 := NB192_184.out; have hnc421 := NB184_192.out; have hnb422 := NB192_188.out; have hnc422 := NB188_192.out; have hnb423 := NB192_196.out; have hnc423 := NB196_192.out; have hnb424 := NB192_200.out; have hnc424 := NB200_192.out; have hcz425_0 : w418.cell? ⟨gb192, 0, none⟩ = some (.int .i64 t189) := (kC BK192.out 0).trans rfl; have hcz425_1 : w418.cell? ⟨gb192, 1, none⟩ = some (.int .i64 t190) := (kC BK192.out 1).trans rfl; have hfz425_0 := blk_frozen BK192.out 0; have hfz425_1 := blk_frozen BK192.out 1; have hnb426 := NB169_180.out; have hnc426 := NB180_169.out; have hnb427 := NB169_184.out; have hnc427 := NB184_169.out; have hnb428 := NB169_188.out; have hnc428 := NB188_169.out; have hnb429 := NB169_196.out; have hnc429 := NB196_169.out; have hnb430 := NB169_200.out; have hnc430 := NB200_169.out; have hcz431_0 : w418.cell? ⟨gb169, 0, none⟩ = some (.int .i64 a0_0) := (kC BK169.out 0).trans rfl; have hcz431_1 : w418.cell? ⟨gb169, 1, none⟩ = some (.int .i64 a0_1) := (kC BK169.out 1).trans rfl; have hfz431_0 := blk_frozen BK169.out 0; have hfz431_1 := blk_frozen BK169.out 1)|((with_reducible refine gate_callee (f := 15) rfl ?_); refine goesL_ (some 130) rfl rfl Tryd.func15 (by kernel_rfl) rfl #[.agg #[.int .i64 a0_0, .int .i64 a0_1], .agg #[.int .i64 t201, .int .i64 t202]] rfl (by (try simp only [List.map_toArray, List.map_cons, List.map_nil]); first | done | rfl|(simp only [List.length_drop, List.length_take]; rfl)) ?_; (with_reducible refine (rational_Mul.calls a0_0 a0_1 t201 t202 t204 t205 t206 _ A214.out).mono ?_); rintro e w432 ⟨rfl, hb⟩; refine ⟨_, rfl, ?_⟩; have n0_ := Aside0.mk (kB (g := gb169) (o := .cells #[.int .i64 a0_0, .int .i64 a0_1] 24 (0, 0)) (by (with_reducible repeat first|apply kN|apply kD|apply kA); refine kF ?_ NB169_192.out _; (with_reducible repeat first|apply kN|apply kD|apply kA); refine kF ?_ NB169_192.out _; (with_reducible repeat first|apply kN|apply kD|apply kA); exact BK169.out) hb); have n1_ := Aside0.mk (kB (g := gb170) (o := .cells #[.int .i64 a1_0, .int .i64 a1_1] 24 (0, 0)) (by (with_reducible repeat first|apply kN|apply kD|apply kA); refine kF ?_ NB170_192.out _; (with_reducible repeat first|apply kN|apply kD|apply kA); refine kF ?_ NB170_192.out _; (with_reducible repeat first|apply kN|apply kD|apply kA); exact BK170.out) hb); have n2_ := Aside0.mk (kB (g := gb171) (o := .cells #[.int .i64 a2_0, .int .i64 a2_1] 24 (0, 0)) (by (with_reducible repeat first|apply kN|apply kD|apply kA); refine kF ?_ NB171_192.out _; (with_reducible repeat first|apply kN|apply kD|apply kA); refine kF ?_ NB171_192.out _; (with_reducible repeat first|apply kN|apply kD|apply kA); exact BK171.out) hb); have n3_ := Aside0.mk (kB (g := gb180) (o := .cells #[.int .i64 t177, .int .i64 t178] 24 (0, 0)) (by (with_reducible repeat first|apply kN|apply kD|apply kA); refine kF ?_ NB180_192.out _; (with_reducible repeat first|apply kN|apply kD|apply kA); refine kF ?_ NB180_192.out _; (with_reducible repeat first|apply kN|apply kD|apply kA); exact BK180.out) hb); have n4_ := Aside0.mk (kB (g := gb184) (o := .cells #[.int .i64 t181, .int .i64 t182] 24 (0, 0)) (by (with_reducible repeat first|apply kN|apply kD|apply kA); refine kF ?_ NB184_192.out _; (with_reducible repeat first|apply kN|apply kD|apply kA); refine kF ?_ NB184_192.out _; (with_reducible repeat first|apply kN|apply kD|apply kA); exact BK184.out) hb); have n5_ := Aside0.mk (kB (g := gb188) (o := .cells #[.int .i64 t185, .int .i64 t186] 24 (0, 0)) (by (with_reducible repeat first|apply kN|apply kD|apply kA); refine kF ?_ NB188_192.out _; (with_reducible repeat first|apply kN|apply kD|apply kA); refine kF ?_ NB188_192.out _; (with_reducible repeat first|apply kN|apply kD|apply kA); exact BK188.out) hb); have n6_ := Aside0.mk (kB (g := gb192) (o := .cells #[.int .i64 t201, .int .i64 t202] 24 (0, 0)) (by (with_reducible repeat first|apply kN|apply kD|apply kA); refine blk_put (cs := #[.int .i64 t201, .int .i64 t190]) ?_ 1 _ rfl; (with_reducible repeat first|apply kN|apply kD|apply kA); refine blk_put (cs := #[.int .i64 t189, .int .i64 t190]) ?_ 0 _ rfl; (with_reducible repeat first|apply kN|apply kD|apply kA); exact BK192.out) hb); have n7_ := Aside0.mk (kB (g := gb196) (o := .cells #[.int .i64 t193, .int .i64 t194] 24 (0, 0)) (by (with_reducible repeat first|apply kN|apply kD|apply kA); refine kF ?_ NB196_192.out _; (with_reducible repeat first|apply kN|apply kD|apply kA); refine kF ?_ NB196_192.out _; (with_reducible repeat first|apply kN|apply kD|apply kA); exact BK196.out) hb); have n8_ := Aside0.mk (kB (g := gb200) (o := .cells #[.int .i64 t197, .int .i64 t198] 24 (0, 0)) (by (with_reducible repeat first|apply kN|apply kD|apply kA); refine kF ?_ NB200_192.out _; (with_reducible repeat first|apply kN|apply kD|apply kA); refine kF ?_ NB200_192.out _; (with_reducible repeat first|apply kN|apply kD|apply kA); exact BK200.out) hb); have n9_ := Aside0.mk (bT (by repeat (first|(with_reducible first|exact HB.out|apply bA|apply bN|apply b1|refine bS ?_ GE169.out|refine bS ?_ GE170.out|refine bS ?_ GE171.out|refine bS ?_ GE180.out|refine bS ?_ GE184.out|refine bS ?_ GE188.out|refine bS ?_ GE192.out|refine bS ?_ GE196.out|refine bS ?_ GE200.out)|exact HB.out)) hb); clear BK169; clear BK170; clear BK171; clear BK180; clear BK184; clear BK188; clear BK192; clear BK196; clear BK200; clear HB; have BK169 := n0_; have BK170 := n1_; have BK171 := n2_; have BK180 := n3_; have BK184 := n4_; have BK188 := n5_; have BK192 := n6_; have BK196 := n7_; have BK200 := n8_; have HB := n9_; clear n0_ n1_ n2_ n3_ n4_ n5_ n6_ n7_ n8_ n9_; (try clear hb); (try clear hb2); (try clear hk); (try clear hi); have hnb433 := NB196_180.out; have hnc433 := NB180_196.out; have hnb434 := NB196_184.out; have hnc434 := NB184_196.out; have hnb435 := NB196_188.out; have hnc435 := NB188_196.out; have hnb436 := NB196_200.out; have hnc436 := NB200_196.out; have hcz437_0 : w432.cell? ⟨gb196, 0, none⟩ = some (.int .i64 t193) := (kC BK196.out 0).trans rfl; have hcz437_1 : w432.cell? ⟨gb196, 1, none⟩ = some (.int .i64 t194) := (kC BK196.out 1).trans rfl; have hfz437_0 := blk_frozen BK196.out 0; have hfz437_1 := blk_frozen BK196.out 1; have hcz438_0 : w432.cell? ⟨gb169, 0, none⟩ = some (.int .i64 a0_0) := (kC BK169.out 0).trans rfl; have hcz438_1 : w432.cell? ⟨gb169, 1, none⟩ = some (.int .i64 a0_1) := (kC BK169.out 1).trans rfl; have hfz438_0 := blk_frozen BK169.out 0; have hfz438_1 := blk_frozen BK169.out 1; have hcz439_0 : w432.cell? ⟨gb171, 0, none⟩ = some (.int .i64 a2_0) := (kC BK171.out 0).trans rfl; have hcz439_1 : w432.cell? ⟨gb171, 1, none⟩ = some (.int .i64 a2_1) := (kC BK171.out 1).trans rfl; have hfz439_0 := blk_frozen BK171.out 0; have hfz439_1 := blk_frozen BK171.out 1)|((with_reducible refine gate_callee (f := 15) rfl ?_); refine goesL_ (some 136) rfl rfl Tryd.func15 (by kernel_rfl) rfl #[.agg #[.int .i64 a0_0, .int .i64 a0_1], .agg #[.int .i64 a2_0, .int .i64 a2_1]] rfl (by (try simp only [List.map_toArray, List.map_cons, List.map_nil]); first | done | rfl|(simp only [List.length_drop, List.length_take]; rfl)) ?_; (with_reducible refine (rational_Mul.calls a0_0 a0_1 a2_0 a2_1 t207 t208 t209 _ A215.out).mono ?_); rintro e w440 ⟨rfl, hb⟩; refine ⟨_, rfl, ?_⟩; have n0_ := Aside0.mk (kB (g := gb169) (o := .cells #[.int .i64 a0_0, .int .i64 a0_1] 24 (0, 0)) (by (with_reducible repeat first|apply kN|apply kD|apply kA); refine kF ?_ NB169_196.out _; (with_reducible repeat first|apply kN|apply kD|apply kA); refine kF ?_ NB169_196.out _; (with_reducible repeat first|apply kN|apply kD|apply kA); exact BK169.out) hb); have n1_ := Aside0.mk (kB (g := gb170) (o := .cells #[.int .i64 a1_0, .int .i64 a1_1] 24 (0, 0)) (by (with_reducible repeat first|apply kN|apply kD|apply kA); refine kF ?_ NB170_196.out _; (with_reducible repeat first|apply kN|apply kD|apply kA); refine kF ?_ NB170_196.out _; (with_reducible repeat first|apply kN|apply kD|apply kA); exact BK170.out) hb); have n2_ := Aside0.mk (kB (g := gb171) (o := .cells #[.int .i64 a2_0, .int .i64 a2_1] 24 (0, 0)) (by (with_reducible repeat first|apply kN|apply kD|apply kA); refine kF ?_ NB171_196.out _; (with_reducible repeat first|apply kN|apply kD|apply kA); refine kF ?_ NB171_196.out _; (with_reducible repeat first|apply kN|apply kD|apply kA); exact BK171.out) hb); have n3_ := Aside0.mk (kB (g := gb180) (o := .cells #[.int .i64 t177, .int .i64 t178] 24 (0, 0)) (by (with_reducible repeat first|apply kN|apply kD|apply kA); refine kF ?_ NB180_196.out _; (with_reducible repeat first|apply kN|apply kD|apply kA); refine kF ?_ NB180_196.out _; (with_reducible repeat first|apply kN|apply kD|apply kA); exact BK180.out) hb); have n4_ := Aside0.mk (kB (g := gb184) (o := .cells #[.int .i64 t181, .int .i64 t182] 24 (0, 0)) (by (with_reducible repeat first|apply kN|apply kD|apply kA); refine kF ?_ NB184_196.out _; (with_reducible repeat first|apply kN|apply kD|apply kA); refine kF ?_ NB184_196.out _; (with_reducible repeat first|apply kN|apply kD|apply kA); exact BK184.out) hb); have n5_ := Aside0.mk (kB (g := gb188) (o := .cells #[.int .i64 t185, .int .i64 t186] 24 (0, 0)) (by (with_reducible repeat first|apply kN|apply kD|apply kA); refine kF ?_ NB188_196.out _; (with_reducible repeat first|apply kN|apply kD|apply kA); refine kF ?_ NB188_196.out _; (with_reducible repeat first|apply kN|apply kD|apply kA); exact BK188.out) hb); have n6_ := Aside0.mk (kB (g := gb192) (o := .cells #[.int .i64 t201, .int .i64 t202] 24 (0, 0)) (by (with_reducible repeat first|apply kN|apply kD|apply kA); refine kF ?_ NB192_196.out _; (with_reducible repeat first|apply kN|apply kD|apply kA); refine kF ?_ NB192_196.out _; (with_reducible repeat first|apply kN|apply kD|apply kA); exact BK192.out) hb); have n7_ := Aside0.mk (kB (g := gb196) (o := .cells #[.int .i64 t204, .int .i64 t205] 24 (0, 0)) (by (with_reducible repeat first|apply kN|apply kD|apply kA); refine blk_put (cs := #[.int .i64 t204, .int .i64 t194]) ?_ 1 _ rfl; (with_reducible repeat first|apply kN|apply kD|apply kA); refine blk_put (cs := #[.int .i64 t193, .int .i64 t194]) ?_ 0 _ rfl; (with_reducible repeat first|apply kN|apply kD|apply kA); exact BK196.out) hb); have n8_ := Aside0.mk (kB (g := gb200) (o := .cells #[.int .i64 t197, .int .i64 t198] 24 (0, 0)) (by (with_reducible repeat first|apply kN|apply kD|apply kA); refine kF ?_ NB200_196.out _; (with_reducible repeat first|apply kN|apply kD|apply kA); refine kF ?_ NB200_196.out _; (with_reducible repeat first|apply kN|apply kD|apply kA); exact BK200.out) hb); have n9_ := Aside0.mk (bT (by repeat (first|(with_reducible first|exact HB.out|apply bA|apply bN|apply b1|refine bS ?_ GE169.out|refine bS ?_ GE170.out|refine bS ?_ GE171.out|refine bS ?_ GE180.out|refine bS ?_ GE184.out|refine bS ?_ GE188.out|refine bS ?_ GE192.out|refine bS ?_ GE196.out|refine bS ?_ GE200.out)|exact HB.out)) hb); clear BK169; clear BK170; clear BK171; clear BK180; clear BK184; clear BK188; clear BK192; clear BK196; clear BK200; clear HB; have BK169 := n0_; have BK170 := n1_; have BK171 := n2_; have BK180 := n3_; have BK184 := n4_; have BK188 := n5_; have BK192 := n6_; have BK196 := n7_; have BK200 := n8_; have HB := n9_; clear n0_ n1_ n2_ n3_ n4_ n5_ n6_ n7_ n8_ n9_; (try clear hb); (try clear hb2); (try clear hk); (try clear hi))|((with_reducible refine gate_dst (N := 20) rfl ?_); refine box_event ?hg (N := 20) ?hd (cs := #[.int .i64 0, .int .i64 0]) (t := 24) ?hr ?_; (case hd => rfl); (case hg => rfl); (case hr => first|(go_simp; done)|(go_simp; rfl)); intro gb210 hg w441 hbox hb; have n0_ := Aside0.mk (kB (g := gb169) (by (with_reducible repeat first|apply kN|apply kD|apply kA); exact BK169.out) hb); have n1_ := Aside0.mk (kB (g := gb170) (by (with_reducible repeat first|apply kN|apply kD|apply kA); exact BK170.out) hb); have n2_ := Aside0.mk (kB (g := gb171) (by (with_reducible repeat first|apply kN|apply kD|apply kA); exact BK171.out) hb); have n3_ := Aside0.mk (kB (g := gb180) (by (with_reducible repeat first|apply kN|apply kD|apply kA); exact BK180.out) hb); have n4_ := Aside0.mk (kB (g := gb184) (by (with_reducible repeat first|apply kN|apply kD|apply kA); exact BK184.out) hb); have n5_ := Aside0.mk (kB (g := gb188) (by (with_reducible repeat first|apply kN|apply kD|apply kA); exact BK188.out) hb); have n6_ := Aside0.mk (kB (g := gb192) (by (with_reducible repeat first|apply kN|apply kD|apply kA); exact BK192.out) hb); have n7_ := Aside0.mk (kB (g := gb196) (by (with_reducible repeat first|apply kN|apply kD|apply kA); exact BK196.out) hb); have n8_ := Aside0.mk (kB (g := gb200) (by (with_reducible repeat first|apply kN|apply kD|apply kA); exact BK200.out) hb); have n9_ := Aside0.mk (bT (by repeat (first|(with_reducible first|exact HB.out|apply bA|apply bN|apply b1|refine bS ?_ GE169.out|refine bS ?_ GE170.out|refine bS ?_ GE171.out|refine bS ?_ GE180.out|refine bS ?_ GE184.out|refine bS ?_ GE188.out|refine bS ?_ GE192.out|refine bS ?_ GE196.out|refine bS ?_ GE200.out)|exact HB.out)) hb); have n10_ := Aside0.mk (hbox); have n11_ := Aside0.mk ((by rw [hg]; exact (bZ (by repeat (first|(with_reducible first|exact HB.out|apply bA|apply bN|apply b1|refine bS ?_ GE169.out|refine bS ?_ GE170.out|refine bS ?_ GE171.out|refine bS ?_ GE180.out|refine bS ?_ GE184.out|refine bS ?_ GE188.out|refine bS ?_ GE192.out|refine bS ?_ GE196.out|refine bS ?_ GE200.out)|exact HB.out))) : w.heap.size ≤ gb210)); have n12_ := n11_; have n13_ := Aside0.mk ((by rw [hg]; exact Nat.ne_of_lt (blk_lt (g := gb169) (by (with_reducible repeat first|apply kN|apply kD|apply kA); exact BK169.out)) : gb169 ≠ gb210)); have n14_ := Aside0.mk n13_.out.symm; have n15_ := Aside0.mk ((by rw [hg]; exact Nat.ne_of_lt (blk_lt (g := gb170) (by (with_reducible repeat first|apply kN|apply kD|apply kA); exact BK170.out)) : gb170 ≠ gb210)); have n16_ := Aside0.mk n15_.out.symm; have n17_ := Aside0.mk ((by rw [hg]; exact Nat.ne_of_lt (blk_lt (g := gb171) (by (with_reducible repeat first|apply kN|apply kD|apply kA); exact BK171.out)) : gb171 ≠ gb210)); have n18_ := Aside0.mk n17_.out.symm; have n19_ := Aside0.mk ((by rw [hg]; exact Nat.ne_of_lt (blk_lt (g := gb180) (by (with_reducible repeat first|apply kN|apply kD|apply kA); exact BK180.out)) : gb180 ≠ gb210)); have n20_ := Aside0.mk n19_.out.symm; have n21_ := Aside0.mk ((by rw [hg]; exact Nat.ne_of_lt (blk_lt (g := gb184) (by (with_reducible repeat first|apply kN|apply kD|apply kA); exact BK184.out)) : gb184 ≠ gb210)); have n22_ := Aside0.mk n21_.out.symm; have n23_ := Aside0.mk ((by rw [hg]; exact Nat.ne_of_lt (blk_lt (g := gb188) (by (with_reducible repeat first|apply kN|apply kD|apply kA); exact BK188.out)) : gb188 ≠ gb210)); have n24_ := Aside0.mk n23_.out.symm; have n25_ := Aside0.mk ((by rw [hg]; exact Nat.ne_of_lt (blk_lt (g := gb192) (by (with_reducible repeat first|apply kN|apply kD|apply kA); exact BK192.out)) : gb192 ≠ gb210)); have n26_ := Aside0.mk n25_.out.symm; have n27_ := Aside0.mk ((by rw [hg]; exact Nat.ne_of_lt (blk_lt (g := gb196) (by (with_reducible repeat first|apply kN|apply kD|apply kA); exact BK196.out)) : gb196 ≠ gb210)); have n28_ := Aside0.mk n27_.out.symm; have n29_ := Aside0.mk ((by rw [hg]; exact Nat.ne_of_lt (blk_lt (g := gb200) (by (with_reducible repeat first|apply kN|apply kD|apply kA); exact BK200.out)) : gb200 ≠ gb210)); have n30_ := Aside0.mk n29_.out.symm; clear BK169; clear BK170; clear BK171; clear BK180; clear BK184; clear BK188; clear BK192; clear BK196; clear BK200; clear HB; have BK169 := n0_; have BK170 := n1_; have BK171 := n2_; have BK180 := n3_; have BK184 := n4_; have BK188 := n5_; have BK192 := n6_; have BK196 := n7_; have BK200 := n8_; have HB := n9_; have BK210 := n10_; have GW210 := n11_; have GE210 := n12_; have NB169_210 := n13_; have NB210_169 := n14_; have NB170_210 := n15_; have NB210_170 := n16_; have NB171_210 := n17_; have NB210_171 := n18_; have NB180_210 := n19_; have NB210_180 := n20_; have NB184_210 := n21_; have NB210_184 := n22_; have NB188_210 := n23_; have NB210_188 := n24_; have NB192_210 := n25_; have NB210_192 := n26_; have NB196_210 := n27_; have NB210_196 := n28_; have NB200_210 := n29_; have NB210_200 := n30_; clear n0_ n1_ n2_ n3_ n4_ n5_ n6_ n7_ n8_ n9_ n10_ n11_ n12_ n13_ n14_ n15_ n16_ n17_ n18_ n19_ n20_ n21_ n22_ n23_ n24_ n25_ n26_ n27_ n28_ n29_ n30_; clear hb hbox hg; have hnb442 := NB210_169.out; have hnc442 := NB169_210.out; have hnb443 := NB210_170.out; have hnc443 := NB170_210.out; have hnb444 := NB210_171.out; have hnc444 := NB171_210.out; have hnb445 := NB210_180.out; have hnc445 := NB180_210.out; have hnb446 := NB210_184.out; have hnc446 := NB184_210.out; have hnb447 := NB210_188.out; have hnc447 := NB188_210.out; have hnb448 := NB210_192.out; have hnc448 := NB192_210.out; have hnb449 := NB210_196.out; have hnc449 := NB196_210.out; have hnb450 := NB210_200.out; have hnc450 := NB200_210.out; have hcz451_0 : w441.cell? ⟨gb210, 0, none⟩ = some (.int .i64 0) := (kC BK210.out 0).trans rfl; have hcz451_1 : w441.cell? ⟨gb210, 1, none⟩ = some (.int .i64 0) := (kC BK210.out 1).trans rfl; have hfz451_0 := blk_frozen BK210.out 0; have hfz451_1 := blk_frozen BK210.out 1; have hnb452 := NB180_184.out; have hnc452 := NB184_180.out; have hnb453 := NB180_188.out; have hnc453 := NB188_180.out; have hnb454 := NB180_200.out; have hnc454 := NB200_180.out; have hcz455_0 : w441.cell? ⟨gb180, 0, none⟩ = some (.int .i64 t177) := (kC BK180.out 0).trans rfl; have hcz455_1 : w441.cell? ⟨gb180, 1, none⟩ = some (.int .i64 t178) := (kC BK180.out 1).trans rfl; have hfz455_0 := blk_frozen BK180.out 0; have hfz455_1 := blk_frozen BK180.out 1)|((with_reducible refine gate_callee (f := 17) rfl ?_); refine goesL_ (some 142) rfl rfl Tryd.func17 (by kernel_rfl) rfl #[.agg #[.int .i64 t177, .int .i64 t178], .agg #[.int .i64 t207, .int .i64 t208]] rfl (by (try simp only [List.map_toArray, List.map_cons, List.map_nil]); first | done | rfl|(simp only [List.length_drop, List.length_take]; rfl)) ?_; (with_reducible refine (rational_Add.calls t177 t178 t207 t208 t211 t212 t213 _ A216.out).mono ?_); rintro e w456 ⟨rfl, hb⟩; refine ⟨_, rfl, ?_⟩; have n0_ := Aside0.mk (kB (g := gb169) (o := .cells #[.int .i64 a0_0, .int .i64 a0_1] 24 (0, 0)) (by (with_reducible repeat first|apply kN|apply kD|apply kA); refine kF ?_ NB169_210.out _; (with_reducible repeat first|apply kN|apply kD|apply kA); refine kF ?_ NB169_210.out _; (with_reducible repeat first|apply kN|apply kD|apply kA); exact BK169.out) hb); have n1_ := Aside0.mk (kB (g := gb170) (o := .cells #[.int .i64 a1_0, .int .i64 a1_1] 24 (0, 0)) (by (with_reducible repeat first|apply kN|apply kD|apply kA); refine kF ?_ NB170_210.out _; (with_reducible repeat first|apply kN|apply kD|apply kA); refine kF ?_ NB170_210.out _; (with_reducible repeat first|apply kN|apply kD|apply kA); exact BK170.out) hb); have n2_ := Aside0.mk (kB (g := gb171) (o := .cells #[.int .i64 a2_0, .int .i64 a2_1] 24 (0, 0)) (by (with_reducible repeat first|apply kN|apply kD|apply kA); refine kF ?_ NB171_210.out _; (with_reducible repeat first|apply kN|apply kD|apply kA); refine kF ?_ NB171_210.out _; (with_reducible repeat first|apply kN|apply kD|apply kA); exact BK171.out) hb); have n3_ := Aside0.mk (kB (g := gb180) (o := .cells #[.int .i64 t177, .int .i64 t178] 24 (0, 0)) (by (with_reducible repeat first|apply kN|apply kD|apply kA); refine kF ?_ NB180_210.out _; (with_reducible repeat first|apply kN|apply kD|apply kA); refine kF ?_ NB180_210.out _; (with_reducible repeat first|apply kN|apply kD|apply kA); exact BK180.out) hb); have n4_ := Aside0.mk (kB (g := gb184) (o := .cells #[.int .i64 t181, .int .i64 t182] 24 (0, 0)) (by (with_reducible repeat first|apply kN|apply kD|apply kA); refine kF ?_ NB184_210.out _; (with_reducible repeat first|apply kN|apply kD|apply kA); refine kF ?_ NB184_210.out _; (with_reducible repeat first|apply kN|apply kD|apply kA); exact BK184.out) hb); have n5_ := Aside0.mk (kB (g := gb188) (o := .cells #[.int .i64 t185, .int .i64 t186] 24 (0, 0)) (by (with_reducible repeat first|apply kN|apply kD|apply kA); refine kF ?_ NB188_210.out _; (with_reducible repeat first|apply kN|apply kD|apply kA); refine kF ?_ NB188_210.out _; (with_reducible repeat first|apply kN|apply kD|apply kA); exact BK188.out) hb); have n6_ := Aside0.mk (kB (g := gb192) (o := .cells #[.int .i64 t201, .int .i64 t202] 24 (0, 0)) (by (with_reducible repeat first|apply kN|apply kD|apply kA); refine kF ?_ NB192_210.out _; (with_reducible repeat first|apply kN|apply kD|apply kA); refine kF ?_ NB192_210.out _; (with_reducible repeat first|apply kN|apply kD|apply kA); exact BK192.out) hb); have n7_ := Aside0.mk (kB (g := gb196) (o := .cells #[.int .i64 t204, .int .i64 t205] 24 (0, 0)) (by (with_reducible repeat first|apply kN|apply kD|apply kA); refine kF ?_ NB196_210.out _; (with_reducible repeat first|apply kN|apply kD|apply kA); refine kF ?_ NB196_210.out _; (with_reducible repeat first|apply kN|apply kD|apply kA); exact BK196.out) hb); have n8_ := Aside0.mk (kB (g := gb200) (o := .cells #[.int .i64 t197, .int .i64 t198] 24 (0, 0)) (by (with_reducible repeat first|apply kN|apply kD|apply kA); refine kF ?_ NB200_210.out _; (with_reducible repeat first|apply kN|apply kD|apply kA); refine kF ?_ NB200_210.out _; (with_reducible repeat first|apply kN|apply kD|apply kA); exact BK200.out) hb); have n9_ := Aside0.mk (kB (g := gb210) (o := .cells #[.int .i64 t207, .int .i64 t208] 24 (0, 0)) (by (with_reducible repeat first|apply kN|apply kD|apply kA); refine blk_put (cs := #[.int .i64 t207, .int .i64 0]) ?_ 1 _ rfl; (with_reducible repeat first|apply kN|apply kD|apply kA); refine blk_put (cs := #[.int .i64 0, .int .i64 0]) ?_ 0 _ rfl; (with_reducible repeat first|apply kN|apply kD|apply kA); exact BK210.out) hb); have n10_ := Aside0.mk (bT (by repeat (first|(with_reducible first|exact HB.out|apply bA|apply bN|apply b1|refine bS ?_ GE169.out|refine bS ?_ GE170.out|refine bS ?_ GE171.out|refine bS ?_ GE180.out|refine bS ?_ GE184.out|refine bS ?_ GE188.out|refine bS ?_ GE192.out|refine bS ?_ GE196.out|refine bS ?_ GE200.out|refine bS ?_ GE210.out)|exact HB.out)) hb); clear BK169; clear BK170; clear BK171; clear BK180; clear BK184; clear BK188; clear BK192; clear BK196; clear BK200; clear BK210; clear HB; have BK169 := n0_; have BK170 := n1_; have BK171 := n2_; have BK180 := n3_; have BK184 := n4_; have BK188 := n5_; have BK192 := n6_; have BK196 := n7_; have BK200 := n8_; have BK210 := n9_; have HB := n10_; clear n0_ n1_ n2_ n3_ n4_ n5_ n6_ n7_ n8_ n9_ n10_; (try clear hb); (try clear hb2); (try clear hk); (try clear hi); have hnb457 := NB200_184.out; have hnc457 := NB184_200.out; have hnb458 := NB200_188.out; have hnc458 := NB188_200.out; have hcz459_0 : w456.cell? ⟨gb200, 0, none⟩ = some (.int .i64 t197) := (kC BK200.out 0).trans rfl; have hcz459_1 : w456.cell? ⟨gb200, 1, none⟩ = some (.int .i64 t198) := (kC BK200.out 1).trans rfl; have hfz459_0 := blk_frozen BK200.out 0; have hfz459_1 := blk_frozen BK200.out 1))
               go_ret
               exact ⟨by first | rfl|(simp [errW_none, errW_some] <;> rfl)|(simp [*, errW_none, errW_some] <;> rfl), by repeat (first|(with_reducible first|exact HB.out|apply bA|apply bN|apply b1|refine bS ?_ GE169.out|refine bS ?_ GE170.out|refine bS ?_ GE171.out|refine bS ?_ GE180.out|refine bS ?_ GE184.out|refine bS ?_ GE188.out|refine bS ?_ GE192.out|refine bS ?_ GE196.out|refine bS ?_ GE200.out|refine bS ?_ GE210.out)|exact HB.out)⟩
             ·rw [if_neg c218] at H
              have c218b0 : (t203 == 0) = false := beq_eq_false_iff_ne.mpr c218
              have c218b1 : (t203 != 0) = true := bne_iff_ne.mpr c218
              obtain rfl := Option.some.inj H
              have hnb460 := NB170_169.out
              have hnc460 := NB169_170.out
              have hnb461 := NB170_171.out
              have hnc461 := NB171_170.out
              have hnb462 := NB170_180.out
              have hnc462 := NB180_170.out
              have hnb463 := NB170_184.out
              have hnc463 := NB184_170.out
              have hnb464 := NB170_188.out
              have hnc464 := NB188_170.out
              have hnb465 := NB170_192.out
              have hnc465 := NB192_170.out
              have hnb466 := NB170_196.out
              have hnc466 := NB196_170.out
              have hnb467 := NB170_200.out
              have hnc467 := NB200_170.out
              have hcz468_0 : wc.cell? ⟨gb170, 0, none⟩ = some (.int .i64 a1_0) := (kC BK170.out 0).trans rfl
              have hcz468_1 : wc.cell? ⟨gb170, 1, none⟩ = some (.int .i64 a1_1) := (kC BK170.out 1).trans rfl
              have hfz468_0 := blk_frozen BK170.out 0
              have hfz468_1 := blk_frozen BK170.out 1
              have hnb469 := NB171_169.out
              have hnc469 := NB169_171.out
              have hnb470 := NB171_180.out
              have hnc470 := NB180_171.out
              have hnb471 := NB171_184.out
              have hnc471 := NB184_171.out
              have hnb472 := NB171_188.out
              have hnc472 := NB188_171.out
              have hnb473 := NB171_192.out
              have hnc473 := NB192_171.out
              have hnb474 := NB171_196.out
              have hnc474 := NB196_171.out
              have hnb475 := NB171_200.out
              have hnc475 := NB200_171.out
              have hcz476_0 : wc.cell? ⟨gb171, 0, none⟩ = some (.int .i64 a2_0) := (kC BK171.out 0).trans rfl
              have hcz476_1 : wc.cell? ⟨gb171, 1, none⟩ = some (.int .i64 a2_1) := (kC BK171.out 1).trans rfl
              have hfz476_0 := blk_frozen BK171.out 0
              have hfz476_1 := blk_frozen BK171.out 1
              go_wp2_with (first|((with_reducible refine gate_callee (f := 17) rfl ?_); refine goesL_ (some 124) rfl rfl Tryd.func17 (by kernel_rfl) rfl #[.agg #[.int .i64 a1_0, .int .i64 a1_1], .agg #[.int .i64 a2_0, .int .i64 a2_1]] rfl (by (try simp only [List.map_toArray, List.map_cons, List.map_nil]); first | done | rfl|(simp only [List.length_drop, List.length_take]; rfl)) ?_; (with_reducible refine (rational_Add.calls a1_0 a1_1 a2_0 a2_1 t201 t202 t203 _ A213.out).mono ?_); rintro e w477 ⟨rfl, hb⟩; refine ⟨_, rfl, ?_⟩; have n0_ := Aside0.mk (kB (g := gb169) (by (with_reducible repeat first|apply kN|apply kD|apply kA); exact BK169.out) hb); have n1_ := Aside0.mk (kB (g := gb170) (by (with_reducible repeat first|apply kN|apply kD|apply kA); exact BK170.out) hb); have n2_ := Aside0.mk (kB (g := gb171) (by (with_reducible repeat first|apply kN|apply kD|apply kA); exact BK171.out) hb); have n3_ := Aside0.mk (kB (g := gb180) (by (with_reducible repeat first|apply kN|apply kD|apply kA); exact BK180.out) hb); have n4_ := Aside0.mk (kB (g := gb184) (by (with_reducible repeat first|apply kN|apply kD|apply kA); exact BK184.out) hb); have n5_ := Aside0.mk (kB (g := gb188) (by (with_reducible repeat first|apply kN|apply kD|apply kA); exact BK188.out) hb); have n6_ := Aside0.mk (kB (g := gb192) (by (with_reducible repeat first|apply kN|apply kD|apply kA); exact BK192.out) hb); have n7_ := Aside0.mk (kB (g := gb196) (by (with_reducible repeat first|apply kN|apply kD|apply kA); exact BK196.out) hb); have n8_ := Aside0.mk (kB (g := gb200) (by (with_reducible repeat first|apply kN|apply kD|apply kA); exact BK200.out) hb); have n9_ := Aside0.mk (bT (by repeat (first|(with_reducible first|exact HB.out|apply bA|apply bN|apply b1|refine bS ?_ GE169.out|refine bS ?_ GE170.out|refine bS ?_ GE171.out|refine bS ?_ GE180.out|refine bS ?_ GE184.out|refine bS ?_ GE188.out|refine bS ?_ GE192.out|refine bS ?_ GE196.out|refine bS ?_ GE200.out)|exact HB.out)) hb); clear BK169; clear BK170; clear BK171; clear BK180; clear BK184; clear BK188; clear BK192; clear BK196; clear BK200; clear HB; have BK169 := n0_; have BK170 := n1_; have BK171 := n2_; have BK180 := n3_; have BK184 := n4_; have BK188 := n5_; have BK192 := n6_; have BK196 := n7_; have BK200 := n8_; have HB := n9_; clear n0_ n1_ n2_ n3_ n4_ n5_ n6_ n7_ n8_ n9_; (try clear hb); (try clear hb2); (try clear hk); (try clear hi); have hnb478 := NB192_169.out; have hnc478 := NB169_192.out; have hnb479 := NB192_180.out; have hnc479 := NB180_192.out; have hnb480 := NB192_184.out; have hnc480 := NB184_192.out; have hnb481 := NB192_188.out; have hnc481 := NB188_192.out; have hnb482 := NB192_196.out; have hnc482 := NB196_192.out; have hnb483 := NB192_200.out; have hnc483 := NB200_192.out; have hcz484_0 : w477.cell? ⟨gb192, 0, none⟩ = some (.int .i64 t189) := (kC BK192.out 0).trans rfl; have hcz484_1 : w477.cell? ⟨gb192, 1, none⟩ = some (.int .i64 t190) := (kC BK192.out 1).trans rfl; have hfz484_0 := blk_frozen BK192.out 0; have hfz484_1 := blk_frozen BK192.out 1; have hnb485 := NB169_180.out; have hnc485 := NB180_169.out; have hnb486 := NB169_184.out; have hnc486 := NB184_169.out; have hnb487 := NB169_188.out; have hnc487 := NB188_169.out; have hnb488 := NB169_196.out; have hnc488 := NB196_169.out; have hnb489 := NB169_200.out; have hnc489 := NB200_169.out; have hcz490_0 : w477.cell? ⟨gb169, 0, none⟩ = some (.int .i64 a0_0) := (kC BK169.out 0).trans rfl; have hcz490_1 : w477.cell? ⟨gb169, 1, none⟩ = some (.int .i64 a0_1) := (kC BK169.out 1).trans rfl; have hfz490_0 := blk_frozen BK169.out 0; have hfz490_1 := blk_frozen BK169.out 1)|((with_reducible refine gate_callee (f := 15) rfl ?_); refine goesL_ (some 130) rfl rfl Tryd.func15 (by kernel_rfl) rfl #[.agg #[.int .i64 a0_0, .int .i64 a0_1], .agg #[.int .i64 t201, .int .i64 t202]] rfl (by (try simp only [List.map_toArray, List.map_cons, List.map_nil]); first | done | rfl|(simp only [List.length_drop, List.length_take]; rfl)) ?_; (with_reducible refine (rational_Mul.calls a0_0 a0_1 t201 t202 t204 t205 t206 _ A214.out).mono ?_); rintro e w491 ⟨rfl, hb⟩; refine ⟨_, rfl, ?_⟩; have n0_ := Aside0.mk (kB (g := gb169) (o := .cells #[.int .i64 a0_0, .int .i64 a0_1] 24 (0, 0)) (by (with_reducible repeat first|apply kN|apply kD|apply kA); refine kF ?_ NB169_192.out _; (with_reducible repeat first|apply kN|apply kD|apply kA); refine kF ?_ NB169_192.out _; (with_reducible repeat first|apply kN|apply kD|apply kA); exact BK169.out) hb); have n1_ := Aside0.mk (kB (g := gb170) (o := .cells #[.int .i64 a1_0, .int .i64 a1_1] 24 (0, 0)) (by (with_reducible repeat first|apply kN|apply kD|apply kA); refine kF ?_ NB170_192.out _; (with_reducible repeat first|apply kN|apply kD|apply kA); refine kF ?_ NB170_192.out _; (with_reducible repeat first|apply kN|apply kD|apply kA); exact BK170.out) hb); have n2_ := Aside0.mk (kB (g := gb171) (o := .cells #[.int .i64 a2_0, .int .i64 a2_1] 24 (0, 0)) (by (with_reducible repeat first|apply kN|apply kD|apply kA); refine kF ?_ NB171_192.out _; (with_reducible repeat first|apply kN|apply kD|apply kA); refine kF ?_ NB171_192.out _; (with_reducible repeat first|apply kN|apply kD|apply kA); exact BK171.out) hb); have n3_ := Aside0.mk (kB (g := gb180) (o := .cells #[.int .i64 t177, .int .i64 t178] 24 (0, 0)) (by (with_reducible repeat first|apply kN|apply kD|apply kA); refine kF ?_ NB180_192.out _; (with_reducible repeat first|apply kN|apply kD|apply kA); refine kF ?_ NB180_192.out _; (with_reducible repeat first|apply kN|apply kD|apply kA); exact BK180.out) hb); have n4_ := Aside0.mk (kB (g := gb184) (o := .cells #[.int .i64 t181, .int .i64 t182] 24 (0, 0)) (by (with_reducible repeat first|apply kN|apply kD|apply kA); refine kF ?_ NB184_192.out _; (with_reducible repeat first|apply kN|apply kD|apply kA); refine kF ?_ NB184_192.out _; (with_reducible repeat first|apply kN|apply kD|apply kA); exact BK184.out) hb); have n5_ := Aside0.mk (kB (g := gb188) (o := .cells #[.int .i64 t185, .int .i64 t186] 24 (0, 0)) (by (with_reducible repeat first|apply kN|apply kD|apply kA); refine kF ?_ NB188_192.out _; (with_reducible repeat first|apply kN|apply kD|apply kA); refine kF ?_ NB188_192.out _; (with_reducible repeat first|apply kN|apply kD|apply kA); exact BK188.out) hb); have n6_ := Aside0.mk (kB (g := gb192) (o := .cells #[.int .i64 t201, .int .i64 t202] 24 (0, 0)) (by (with_reducible repeat first|apply kN|apply kD|apply kA); refine blk_put (cs := #[.int .i64 t201, .int .i64 t190]) ?_ 1 _ rfl; (with_reducible repeat first|apply kN|apply kD|apply kA); refine blk_put (cs := #[.int .i64 t189, .int .i64 t190]) ?_ 0 _ rfl; (with_reducible repeat first|apply kN|apply kD|apply kA); exact BK192.out) hb); have n7_ := Aside0.mk (kB (g := gb196) (o := .cells #[.int .i64 t193, .int .i64 t194] 24 (0, 0)) (by (with_reducible repeat first|apply kN|apply kD|apply kA); refine kF ?_ NB196_192.out _; (with_reducible repeat first|apply kN|apply kD|apply kA); refine kF ?_ NB196_192.out _; (with_reducible repeat first|apply kN|apply kD|apply kA); exact BK196.out) hb); have n8_ := Aside0.mk (kB (g := gb200) (o := .cells #[.int .i64 t197, .int .i64 t198] 24 (0, 0)) (by (with_reducible repeat first|apply kN|apply kD|apply kA); refine kF ?_ NB200_192.out _; (with_reducible repeat first|apply kN|apply kD|apply kA); refine kF ?_ NB200_192.out _; (with_reducible repeat first|apply kN|apply kD|apply kA); exact BK200.out) hb); have n9_ := Aside0.mk (bT (by repeat (first|(with_reducible first|exact HB.out|apply bA|apply bN|apply b1|refine bS ?_ GE169.out|refine bS ?_ GE170.out|refine bS ?_ GE171.out|refine bS ?_ GE180.out|refine bS ?_ GE184.out|refine bS ?_ GE188.out|refine bS ?_ GE192.out|refine bS ?_ GE196.out|refine bS ?_ GE200.out)|exact HB.out)) hb); clear BK169; clear BK170; clear BK171; clear BK180; clear BK184; clear BK188; clear BK192; clear BK196; clear BK200; clear HB; have BK169 := n0_; have BK170 := n1_; have BK171 := n2_; have BK180 := n3_; have BK184 := n4_; have BK188 := n5_; have BK192 := n6_; have BK196 := n7_; have BK200 := n8_; have HB := n9_; clear n0_ n1_ n2_ n3_ n4_ n5_ n6_ n7_ n8_ n9_; (try clear hb); (try clear hb2); (try clear hk); (try clear hi); have hnb492 := NB196_180.out; have hnc492 := NB180_196.out; have hnb493 := NB196_184.out; have hnc493 := NB184_196.out; have hnb494 := NB196_188.out; have hnc494 := NB188_196.out; have hnb495 := NB196_200.out; have hnc495 := NB200_196.out; have hcz496_0 : w491.cell? ⟨gb196, 0, none⟩ = some (.int .i64 t193) := (kC BK196.out 0).trans rfl; have hcz496_1 : w491.cell? ⟨gb196, 1, none⟩ = some (.int .i64 t194) := (kC BK196.out 1).trans rfl; have hfz496_0 := blk_frozen BK196.out 0; have hfz496_1 := blk_frozen BK196.out 1; have hcz497_0 : w491.cell? ⟨gb169, 0, none⟩ = some (.int .i64 a0_0) := (kC BK169.out 0).trans rfl; have hcz497_1 : w491.cell? ⟨gb169, 1, none⟩ = some (.int .i64 a0_1) := (kC BK169.out 1).trans rfl; have hfz497_0 := blk_frozen BK169.out 0; have hfz497_1 := blk_frozen BK169.out 1; have hcz498_0 : w491.cell? ⟨gb171, 0, none⟩ = some (.int .i64 a2_0) := (kC BK171.out 0).trans rfl; have hcz498_1 : w491.cell? ⟨gb171, 1, none⟩ = some (.int .i64 a2_1) := (kC BK171.out 1).trans rfl; have hfz498_0 := blk_frozen BK171.out 0; have hfz498_1 := blk_frozen BK171.out 1)|((with_reducible refine gate_callee (f := 15) rfl ?_); refine goesL_ (some 136) rfl rfl Tryd.func15 (by kernel_rfl) rfl #[.agg #[.int .i64 a0_0, .int .i64 a0_1], .agg #[.int .i64 a2_0, .int .i64 a2_1]] rfl (by (try simp only [List.map_toArray, List.map_cons, List.map_nil]); first | done | rfl|(simp only [List.length_drop, List.length_take]; rfl)) ?_; (with_reducible refine (rational_Mul.calls a0_0 a0_1 a2_0 a2_1 t207 t208 t209 _ A215.out).mono ?_); rintro e w499 ⟨rfl, hb⟩; refine ⟨_, rfl, ?_⟩; have n0_ := Aside0.mk (kB (g := gb169) (o := .cells #[.int .i64 a0_0, .int .i64 a0_1] 24 (0, 0)) (by (with_reducible repeat first|apply kN|apply kD|apply kA); refine kF ?_ NB169_196.out _; (with_reducible repeat first|apply kN|apply kD|apply kA); refine kF ?_ NB169_196.out _; (with_reducible repeat first|apply kN|apply kD|apply kA); exact BK169.out) hb); have n1_ := Aside0.mk (kB (g := gb170) (o := .cells #[.int .i64 a1_0, .int .i64 a1_1] 24 (0, 0)) (by (with_reducible repeat first|apply kN|apply kD|apply kA); refine kF ?_ NB170_196.out _; (with_reducible repeat first|apply kN|apply kD|apply kA); refine kF ?_ NB170_196.out _; (with_reducible repeat first|apply kN|apply kD|apply kA); exact BK170.out) hb); have n2_ := Aside0.mk (kB (g := gb171) (o := .cells #[.int .i64 a2_0, .int .i64 a2_1] 24 (0, 0)) (by (with_reducible repeat first|apply kN|apply kD|apply kA); refine kF ?_ NB171_196.out _; (with_reducible repeat first|apply kN|apply kD|apply kA); refine kF ?_ NB171_196.out _; (with_reducible repeat first|apply kN|apply kD|apply kA); exact BK171.out) hb); have n3_ := Aside0.mk (kB (g := gb180) (o := .cells #[.int .i64 t177, .int .i64 t178] 24 (0, 0)) (by (with_reducible repeat first|apply kN|apply kD|apply kA); refine kF ?_ NB180_196.out _; (with_reducible repeat first|apply kN|apply kD|apply kA); refine kF ?_ NB180_196.out _; (with_reducible repeat first|apply kN|apply kD|apply kA); exact BK180.out) hb); have n4_ := Aside0.mk (kB (g := gb184) (o := .cells #[.int .i64 t181, .int .i64 t182] 24 (0, 0)) (by (with_reducible repeat first|apply kN|apply kD|apply kA); refine kF ?_ NB184_196.out _; (with_reducible repeat first|apply kN|apply kD|apply kA); refine kF ?_ NB184_196.out _; (with_reducible repeat first|apply kN|apply kD|apply kA); exact BK184.out) hb); have n5_ := Aside0.mk (kB (g := gb188) (o := .cells #[.int .i64 t185, .int .i64 t186] 24 (0, 0)) (by (with_reducible repeat first|apply kN|apply kD|apply kA); refine kF ?_ NB188_196.out _; (with_reducible repeat first|apply kN|apply kD|apply kA); refine kF ?_ NB188_196.out _; (with_reducible repeat first|apply kN|apply kD|apply kA); exact BK188.out) hb); have n6_ := Aside0.mk (kB (g := gb192) (o := .cells #[.int .i64 t201, .int .i64 t202] 24 (0, 0)) (by (with_reducible repeat first|apply kN|apply kD|apply kA); refine kF ?_ NB192_196.out _; (with_reducible repeat first|apply kN|apply kD|apply kA); refine kF ?_ NB192_196.out _; (with_reducible repeat first|apply kN|apply kD|apply kA); exact BK192.out) hb); have n7_ := Aside0.mk (kB (g := gb196) (o := .cells #[.int .i64 t204, .int .i64 t205] 24 (0, 0)) (by (with_reducible repeat first|apply kN|apply kD|apply kA); refine blk_put (cs := #[.int .i64 t204, .int .i64 t194]) ?_ 1 _ rfl; (with_reducible repeat first|apply kN|apply kD|apply kA); refine blk_put (cs := #[.int .i64 t193, .int .i64 t194]) ?_ 0 _ rfl; (with_reducible repeat first|apply kN|apply kD|apply kA); exact BK196.out) hb); have n8_ := Aside0.mk (kB (g := gb200) (o := .cells #[.int .i64 t197, .int .i64 t198] 24 (0, 0)) (by (with_reducible repeat first|apply kN|apply kD|apply kA); refine kF ?_ NB200_196.out _; (with_reducible repeat first|apply kN|apply kD|apply kA); refine kF ?_ NB200_196.out _; (with_reducible repeat first|apply kN|apply kD|apply kA); exact BK200.out) hb); have n9_ := Aside0.mk (bT (by repeat (first|(with_reducible first|exact HB.out|apply bA|apply bN|apply b1|refine bS ?_ GE169.out|refine bS ?_ GE170.out|refine bS ?_ GE171.out|refine bS ?_ GE180.out|refine bS ?_ GE184.out|refine bS ?_ GE188.out|refine bS ?_ GE192.out|refine bS ?_ GE196.out|refine bS ?_ GE200.out)|exact HB.out)) hb); clear BK169; clear BK170; clear BK171; clear BK180; clear BK184; clear BK188; clear BK192; clear BK196; clear BK200; clear HB; have BK169 := n0_; have BK170 := n1_; have BK171 := n2_; have BK180 := n3_; have BK184 := n4_; have BK188 := n5_; have BK192 := n6_; have BK196 := n7_; have BK200 := n8_; have HB := n9_; clear n0_ n1_ n2_ n3_ n4_ n5_ n6_ n7_ n8_ n9_; (try clear hb); (try clear hb2); (try clear hk); (try clear hi))|((with_reducible refine gate_dst (N := 20) rfl ?_); refine box_event ?hg (N := 20) ?hd (cs := #[.int .i64 0, .int .i64 0]) (t := 24) ?hr ?_; (case hd => rfl); (case hg => rfl); (case hr => first|(go_simp; done)|(go_simp; rfl)); intro gb210 hg w500 hbox hb; have n0_ := Aside0.mk (kB (g := gb169) (by (with_reducible repeat first|apply kN|apply kD|apply kA); exact BK169.out) hb); have n1_ := Aside0.mk (kB (g := gb170) (by (with_reducible repeat first|apply kN|apply kD|apply kA); exact BK170.out) hb); have n2_ := Aside0.mk (kB (g := gb171) (by (with_reducible repeat first|apply kN|apply kD|apply kA); exact BK171.out) hb); have n3_ := Aside0.mk (kB (g := gb180) (by (with_reducible repeat first|apply kN|apply kD|apply kA); exact BK180.out) hb); have n4_ := Aside0.mk (kB (g := gb184) (by (with_reducible repeat first|apply kN|apply kD|apply kA); exact BK184.out) hb); have n5_ := Aside0.mk (kB (g := gb188) (by (with_reducible repeat first|apply kN|apply kD|apply kA); exact BK188.out) hb); have n6_ := Aside0.mk (kB (g := gb192) (by (with_reducible repeat first|apply kN|apply kD|apply kA); exact BK192.out) hb); have n7_ := Aside0.mk (kB (g := gb196) (by (with_reducible repeat first|apply kN|apply kD|apply kA); exact BK196.out) hb); have n8_ := Aside0.mk (kB (g := gb200) (by (with_reducible repeat first|apply kN|apply kD|apply kA); exact BK200.out) hb); have n9_ := Aside0.mk (bT (by repeat (first|(with_reducible first|exact HB.out|apply bA|apply bN|apply b1|refine bS ?_ GE169.out|refine bS ?_ GE170.out|refine bS ?_ GE171.out|refine bS ?_ GE180.out|refine bS ?_ GE184.out|refine bS ?_ GE188.out|refine bS ?_ GE192.out|refine bS ?_ GE196.out|refine bS ?_ GE200.out)|exact HB.out)) hb); have n10_ := Aside0.mk (hbox); have n11_ := Aside0.mk ((by rw [hg]; exact (bZ (by repeat (first|(with_reducible first|exact HB.out|apply bA|apply bN|apply b1|refine bS ?_ GE169.out|refine bS ?_ GE170.out|refine bS ?_ GE171.out|refine bS ?_ GE180.out|refine bS ?_ GE184.out|refine bS ?_ GE188.out|refine bS ?_ GE192.out|refine bS ?_ GE196.out|refine bS ?_ GE200.out)|exact HB.out))) : w.heap.size ≤ gb210)); have n12_ := n11_; have n13_ := Aside0.mk ((by rw [hg]; exact Nat.ne_of_lt (blk_lt (g := gb169) (by (with_reducible repeat first|apply kN|apply kD|apply kA); exact BK169.out)) : gb169 ≠ gb210)); have n14_ := Aside0.mk n13_.out.symm; have n15_ := Aside0.mk ((by rw [hg]; exact Nat.ne_of_lt (blk_lt (g := gb170) (by (with_reducible repeat first|apply kN|apply kD|apply kA); exact BK170.out)) : gb170 ≠ gb210)); have n16_ := Aside0.mk n15_.out.symm; have n17_ := Aside0.mk ((by rw [hg]; exact Nat.ne_of_lt (blk_lt (g := gb171) (by (with_reducible repeat first|apply kN|apply kD|apply kA); exact BK171.out)) : gb171 ≠ gb210)); have n18_ := Aside0.mk n17_.out.symm; have n19_ := Aside0.mk ((by rw [hg]; exact Nat.ne_of_lt (blk_lt (g := gb180) (by (with_reducible repeat first|apply kN|apply kD|apply kA); exact BK180.out)) : gb180 ≠ gb210)); have n20_ := Aside0.mk n19_.out.symm; have n21_ := Aside0.mk ((by rw [hg]; exact Nat.ne_of_lt (blk_lt (g := gb184) (by (with_reducible repeat first|apply kN|apply kD|apply kA); exact BK184.out)) : gb184 ≠ gb210)); have n22_ := Aside0.mk n21_.out.symm; have n23_ := Aside0.mk ((by rw [hg]; exact Nat.ne_of_lt (blk_lt (g := gb188) (by (with_reducible repeat first|apply kN|apply kD|apply kA); exact BK188.out)) : gb188 ≠ gb210)); have n24_ := Aside0.mk n23_.out.symm; have n25_ := Aside0.mk ((by rw [hg]; exact Nat.ne_of_lt (blk_lt (g := gb192) (by (with_reducible repeat first|apply kN|apply kD|apply kA); exact BK192.out)) : gb192 ≠ gb210)); have n26_ := Aside0.mk n25_.out.symm; have n27_ := Aside0.mk ((by rw [hg]; exact Nat.ne_of_lt (blk_lt (g := gb196) (by (with_reducible repeat first|apply kN|apply kD|apply kA); exact BK196.out)) : gb196 ≠ gb210)); have n28_ := Aside0.mk n27_.out.symm; have n29_ := Aside0.mk ((by rw [hg]; exact Nat.ne_of_lt (blk_lt (g := gb200) (by (with_reducible repeat first|apply kN|apply kD|apply kA); exact BK200.out)) : gb200 ≠ gb210)); have n30_ := Aside0.mk n29_.out.symm; clear BK169; clear BK170; clear BK171; clear BK180; clear BK184; clear BK188; clear BK192; clear BK196; clear BK200; clear HB; have BK169 := n0_; have BK170 := n1_; have BK171 := n2_; have BK180 := n3_; have BK184 := n4_; have BK188 := n5_; have BK192 := n6_; have BK196 := n7_; have BK200 := n8_; have HB := n9_; have BK210 := n10_; have GW210 := n11_; have GE210 := n12_; have NB169_210 := n13_; have NB210_169 := n14_; have NB170_210 := n15_; have NB210_170 := n16_; have NB171_210 := n17_; have NB210_171 := n18_; have NB180_210 := n19_; have NB210_180 := n20_; have NB184_210 := n21_; have NB210_184 := n22_; have NB188_210 := n23_; have NB210_188 := n24_; have NB192_210 := n25_; have NB210_192 := n26_; have NB196_210 := n27_; have NB210_196 := n28_; have NB200_210 := n29_; have NB210_200 := n30_; clear n0_ n1_ n2_ n3_ n4_ n5_ n6_ n7_ n8_ n9_ n10_ n11_ n12_ n13_ n14_ n15_ n16_ n17_ n18_ n19_ n20_ n21_ n22_ n23_ n24_ n25_ n26_ n27_ n28_ n29_ n30_; clear hb hbox hg; have hnb501 := NB210_169.out; have hnc501 := NB169_210.out; have hnb502 := NB210_170.out; have hnc502 := NB170_210.out; have hnb503 := NB210_171.out; have hnc503 := NB171_210.out; have hnb504 := NB210_180.out; have hnc504 := NB180_210.out; have hnb505 := NB210_184.out; have hnc505 := NB184_210.out; have hnb506 := NB210_188.out; have hnc506 := NB188_210.out; have hnb507 := NB210_192.out; have hnc507 := NB192_210.out; have hnb508 := NB210_196.out; have hnc508 := NB196_210.out; have hnb509 := NB210_200.out; have hnc509 := NB200_210.out; have hcz510_0 : w500.cell? ⟨gb210, 0, none⟩ = some (.int .i64 0) := (kC BK210.out 0).trans rfl; have hcz510_1 : w500.cell? ⟨gb210, 1, none⟩ = some (.int .i64 0) := (kC BK210.out 1).trans rfl; have hfz510_0 := blk_frozen BK210.out 0; have hfz510_1 := blk_frozen BK210.out 1; have hnb511 := NB180_184.out; have hnc511 := NB184_180.out; have hnb512 := NB180_188.out; have hnc512 := NB188_180.out; have hnb513 := NB180_200.out; have hnc513 := NB200_180.out; have hcz514_0 : w500.cell? ⟨gb180, 0, none⟩ = some (.int .i64 t177) := (kC BK180.out 0).trans rfl; have hcz514_1 : w500.cell? ⟨gb180, 1, none⟩ = some (.int .i64 t178) := (kC BK180.out 1).trans rfl; have hfz514_0 := blk_frozen BK180.out 0; have hfz514_1 := blk_frozen BK180.out 1)|((with_reducible refine gate_callee (f := 17) rfl ?_); refine goesL_ (some 142) rfl rfl Tryd.func17 (by kernel_rfl) rfl #[.agg #[.int .i64 t177, .int .i64 t178], .agg #[.int .i64 t207, .int .i64 t208]] rfl (by (try simp only [List.map_toArray, List.map_cons, List.map_nil]); first | done | rfl|(simp only [List.length_drop, List.length_take]; rfl)) ?_; (with_reducible refine (rational_Add.calls t177 t178 t207 t208 t211 t212 t213 _ A216.out).mono ?_); rintro e w515 ⟨rfl, hb⟩; refine ⟨_, rfl, ?_⟩; have n0_ := Aside0.mk (kB (g := gb169) (o := .cells #[.int .i64 a0_0, .int .i64 a0_1] 24 (0, 0)) (by (with_reducible repeat first|apply kN|apply kD|apply kA); refine kF ?_ NB169_210.out _; (with_reducible repeat first|apply kN|apply kD|apply kA); refine kF ?_ NB169_210.out _; (with_reducible repeat first|apply kN|apply kD|apply kA); exact BK169.out) hb); have n1_ := Aside0.mk (kB (g := gb170) (o := .cells #[.int .i64 a1_0, .int .i64 a1_1] 24 (0, 0)) (by (with_reducible repeat first|apply kN|apply kD|apply kA); refine kF ?_ NB170_210.out _; (with_reducible repeat first|apply kN|apply kD|apply kA); refine kF ?_ NB170_210.out _; (with_reducible repeat first|apply kN|apply kD|apply kA); exact BK170.out) hb); have n2_ := Aside0.mk (kB (g := gb171) (o := .cells #[.int .i64 a2_0, .int .i64 a2_1] 24 (0, 0)) (by (with_reducible repeat first|apply kN|apply kD|apply kA); refine kF ?_ NB171_210.out _; (with_reducible repeat first|apply kN|apply kD|apply kA); refine kF ?_ NB171_210.out _; (with_reducible repeat first|apply kN|apply kD|apply kA); exact BK171.out) hb); have n3_ := Aside0.mk (kB (g := gb180) (o := .cells #[.int .i64 t177, .int .i64 t178] 24 (0, 0)) (by (with_reducible repeat first|apply kN|apply kD|apply kA); refine kF ?_ NB180_210.out _; (with_reducible repeat first|apply kN|apply kD|apply kA); refine kF ?_ NB180_210.out _; (with_reducible repeat first|apply kN|apply kD|apply kA); exact BK180.out) hb); have n4_ := Aside0.mk (kB (g := gb184) (o := .cells #[.int .i64 t181, .int .i64 t182] 24 (0, 0)) (by (with_reducible repeat first|apply kN|apply kD|apply kA); refine kF ?_ NB184_210.out _; (with_reducible repeat first|apply kN|apply kD|apply kA); refine kF ?_ NB184_210.out _; (with_reducible repeat first|apply kN|apply kD|apply kA); exact BK184.out) hb); have n5_ := Aside0.mk (kB (g := gb188) (o := .cells #[.int .i64 t185, .int .i64 t186] 24 (0, 0)) (by (with_reducible repeat first|apply kN|apply kD|apply kA); refine kF ?_ NB188_210.out _; (with_reducible repeat first|apply kN|apply kD|apply kA); refine kF ?_ NB188_210.out _; (with_reducible repeat first|apply kN|apply kD|apply kA); exact BK188.out) hb); have n6_ := Aside0.mk (kB (g := gb192) (o := .cells #[.int .i64 t201, .int .i64 t202] 24 (0, 0)) (by (with_reducible repeat first|apply kN|apply kD|apply kA); refine kF ?_ NB192_210.out _; (with_reducible repeat first|apply kN|apply kD|apply kA); refine kF ?_ NB192_210.out _; (with_reducible repeat first|apply kN|apply kD|apply kA); exact BK192.out) hb); have n7_ := Aside0.mk (kB (g := gb196) (o := .cells #[.int .i64 t204, .int .i64 t205] 24 (0, 0)) (by (with_reducible repeat first|apply kN|apply kD|apply kA); refine kF ?_ NB196_210.out _; (with_reducible repeat first|apply kN|apply kD|apply kA); refine kF ?_ NB196_210.out _; (with_reducible repeat first|apply kN|apply kD|apply kA); exact BK196.out) hb); have n8_ := Aside0.mk (kB (g := gb200) (o := .cells #[.int .i64 t197, .int .i64 t198] 24 (0, 0)) (by (with_reducible repeat first|apply kN|apply kD|apply kA); refine kF ?_ NB200_210.out _; (with_reducible repeat first|apply kN|apply kD|apply kA); refine kF ?_ NB200_210.out _; (with_reducible repeat first|apply kN|apply kD|apply kA); exact BK200.out) hb); have n9_ := Aside0.mk (kB (g := gb210) (o := .cells #[.int .i64 t207, .int .i64 t208] 24 (0, 0)) (by (with_reducible repeat first|apply kN|apply kD|apply kA); refine blk_put (cs := #[.int .i64 t207, .int .i64 0]) ?_ 1 _ rfl; (with_reducible repeat first|apply kN|apply kD|apply kA); refine blk_put (cs := #[.int .i64 0, .int .i64 0]) ?_ 0 _ rfl; (with_reducible repeat first|apply kN|apply kD|apply kA); exact BK210.out) hb); have n10_ := Aside0.mk (bT (by repeat (first|(with_reducible first|exact HB.out|apply bA|apply bN|apply b1|refine bS ?_ GE169.out|refine bS ?_ GE170.out|refine bS ?_ GE171.out|refine bS ?_ GE180.out|refine bS ?_ GE184.out|refine bS ?_ GE188.out|refine bS ?_ GE192.out|refine bS ?_ GE196.out|refine bS ?_ GE200.out|refine bS ?_ GE210.out)|exact HB.out)) hb); clear BK169; clear BK170; clear BK171; clear BK180; clear BK184; clear BK188; clear BK192; clear BK196; clear BK200; clear BK210; clear HB; have BK169 := n0_; have BK170 := n1_; have BK171 := n2_; have BK180 := n3_; have BK184 := n4_; have BK188 := n5_; have BK192 := n6_; have BK196 := n7_; have BK200 := n8_; have BK210 := n9_; have HB := n10_; clear n0_ n1_ n2_ n3_ n4_ n5_ n6_ n7_ n8_ n9_ n10_; (try clear hb); (try clear hb2); (try clear hk); (try clear hi); have hnb516 := NB200_184.out; have hnc516 := NB184_200.out; have hnb517 := NB200_188.out; have hnc517 := NB188_200.out; have hcz518_0 : w515.cell? ⟨gb200, 0, none⟩ = some (.int .i64 t197) := (kC BK200.out 0).trans rfl; have hcz518_1 : w515.cell? ⟨gb200, 1, none⟩ = some (.int .i64 t198) := (kC BK200.out 1).trans rfl; have hfz518_0 := blk_frozen BK200.out 0; have hfz518_1 := blk_frozen BK200.out 1))
              go_ret
              exact ⟨by first | rfl|(simp [errW_none, errW_some] <;> rfl)|(simp [*, errW_none, errW_some] <;> rfl), by repeat (first|(with_reducible first|exact HB.out|apply bA|apply bN|apply b1|refine bS ?_ GE169.out|refine bS ?_ GE170.out|refine bS ?_ GE171.out|refine bS ?_ GE180.out|refine bS ?_ GE184.out|refine bS ?_ GE188.out|refine bS ?_ GE192.out|refine bS ?_ GE196.out|refine bS ?_ GE200.out|refine bS ?_ GE210.out)|exact HB.out)⟩
            ·replace c217 := Bool.eq_false_iff.mpr c217
             subst c217
             have H1 : (none) = some r := by rw [if_neg (show ¬ (false = true) by decide)] at H; exact H
             clear H
             have H := H1
             clear H1
             exact absurd H (by simp)
     ·rw [if_neg c81] at H
      have c81b0 : (t179 == 0) = false := beq_eq_false_iff_ne.mpr c81
      have c81b1 : (t179 != 0) = true := bne_iff_ne.mpr c81
      by_cases c519 : t172 = true
      ·subst c519
       have H1 : (some true) = some r := by rw [if_pos rfl] at H; exact H
       clear H
       have H := H1
       clear H1
       obtain rfl := Option.some.inj H
       go_wp2
       go_ret
       exact ⟨by first | rfl|(simp [errW_none, errW_some] <;> rfl)|(simp [*, errW_none, errW_some] <;> rfl), by repeat (first|(with_reducible first|exact HB.out|apply bA|apply bN|apply b1|refine bS ?_ GE169.out|refine bS ?_ GE170.out|refine bS ?_ GE171.out|refine bS ?_ GE180.out|refine bS ?_ GE184.out)|exact HB.out)⟩
      ·replace c519 := Bool.eq_false_iff.mpr c519
       subst c519
       have H1 : (none) = some r := by rw [if_neg (show ¬ (false = true) by decide)] at H; exact H
       clear H
       have H := H1
       clear H1
       exact absurd H (by simp)
 ·replace c6 := Bool.eq_false_iff.mpr c6
  subst c6
  have H1 : (if t172 = true then (some true) else (none)) = some r := by rw [if_neg (show ¬ (false = true) by decide)] at H; exact H
  clear H
  have H := H1
  clear H1
  by_cases c520 : t172 = true
  ·subst c520
   have H1 : (some true) = some r := by rw [if_pos rfl] at H; exact H
   clear H
   have H := H1
   clear H1
   obtain rfl := Option.some.inj H
   go_enter Tryd.func4, Tryd.ntmps4
   go_wp2_with (first|((with_reducible refine gate_dst (N := 3) rfl ?_); refine box_event ?hg (N := 3) ?hd (cs := #[.int .i64 a0_0, .int .i64 a0_1]) (t := 24) ?hr ?_; (case hd => rfl); (case hg => rfl); (case hr => first|(go_simp; done)|(go_simp; rfl)); intro gb169 hg w521 hbox hb; have n0_ := Aside0.mk (bT (by repeat (first|(with_reducible first|exact HB.out|apply bA|apply bN|apply b1)|exact HB.out)) hb); have n1_ := Aside0.mk (hbox); have n2_ := Aside0.mk ((by rw [hg]; exact (bZ (by repeat (first|(with_reducible first|exact HB.out|apply bA|apply bN|apply b1)|exact HB.out))) : w.heap.size ≤ gb169)); have n3_ := n2_; clear HB; have HB := n0_; have BK169 := n1_; have GW169 := n2_; have GE169 := n3_; clear n0_ n1_ n2_ n3_; clear hb hbox hg)|((with_reducible refine gate_dst (N := 4) rfl ?_); refine box_event ?hg (N := 4) ?hd (cs := #[.int .i64 a1_0, .int .i64 a1_1]) (t := 24) ?hr ?_; (case hd => rfl); (case hg => rfl); (case hr => first|(go_simp; done)|(go_simp; rfl)); intro gb170 hg w522 hbox hb; have n0_ := Aside0.mk (kB (g := gb169) (by (with_reducible repeat first|apply kN|apply kD|apply kA); exact BK169.out) hb); have n1_ := Aside0.mk (bT (by repeat (first|(with_reducible first|exact HB.out|apply bA|apply bN|apply b1|refine bS ?_ GE169.out)|exact HB.out)) hb); have n2_ := Aside0.mk (hbox); have n3_ := Aside0.mk ((by rw [hg]; exact (bZ (by repeat (first|(with_reducible first|exact HB.out|apply bA|apply bN|apply b1|refine bS ?_ GE169.out)|exact HB.out))) : w.heap.size ≤ gb170)); have n4_ := n3_; have n5_ := Aside0.mk ((by rw [hg]; exact Nat.ne_of_lt (blk_lt (g := gb169) (by (with_reducible repeat first|apply kN|apply kD|apply kA); exact BK169.out)) : gb169 ≠ gb170)); have n6_ := Aside0.mk n5_.out.symm; clear BK169; clear HB; have BK169 := n0_; have HB := n1_; have BK170 := n2_; have GW170 := n3_; have GE170 := n4_; have NB169_170 := n5_; have NB170_169 := n6_; clear n0_ n1_ n2_ n3_ n4_ n5_ n6_; clear hb hbox hg)|((with_reducible refine gate_dst (N := 5) rfl ?_); refine box_event ?hg (N := 5) ?hd (cs := #[.int .i64 a2_0, .int .i64 a2_1]) (t := 24) ?hr ?_; (case hd => rfl); (case hg => rfl); (case hr => first|(go_simp; done)|(go_simp; rfl)); intro gb171 hg w523 hbox hb; have n0_ := Aside0.mk (kB (g := gb169) (by (with_reducible repeat first|apply kN|apply kD|apply kA); exact BK169.out) hb); have n1_ := Aside0.mk (kB (g := gb170) (by (with_reducible repeat first|apply kN|apply kD|apply kA); exact BK170.out) hb); have n2_ := Aside0.mk (bT (by repeat (first|(with_reducible first|exact HB.out|apply bA|apply bN|apply b1|refine bS ?_ GE169.out|refine bS ?_ GE170.out)|exact HB.out)) hb); have n3_ := Aside0.mk (hbox); have n4_ := Aside0.mk ((by rw [hg]; exact (bZ (by repeat (first|(with_reducible first|exact HB.out|apply bA|apply bN|apply b1|refine bS ?_ GE169.out|refine bS ?_ GE170.out)|exact HB.out))) : w.heap.size ≤ gb171)); have n5_ := n4_; have n6_ := Aside0.mk ((by rw [hg]; exact Nat.ne_of_lt (blk_lt (g := gb169) (by (with_reducible repeat first|apply kN|apply kD|apply kA); exact BK169.out)) : gb169 ≠ gb171)); have n7_ := Aside0.mk n6_.out.symm; have n8_ := Aside0.mk ((by rw [hg]; exact Nat.ne_of_lt (blk_lt (g := gb170) (by (with_reducible repeat first|apply kN|apply kD|apply kA); exact BK170.out)) : gb170 ≠ gb171)); have n9_ := Aside0.mk n8_.out.symm; clear BK169; clear BK170; clear HB; have BK169 := n0_; have BK170 := n1_; have HB := n2_; have BK171 := n3_; have GW171 := n4_; have GE171 := n5_; have NB169_171 := n6_; have NB171_169 := n7_; have NB170_171 := n8_; have NB171_170 := n9_; clear n0_ n1_ n2_ n3_ n4_ n5_ n6_ n7_ n8_ n9_; clear hb hbox hg)|((with_reducible refine gate_callee (f := 10) rfl ?_); refine goesL_ (some 22) rfl rfl Tryd.func10 (by kernel_rfl) rfl #[] rfl (by (try simp only [List.map_toArray, List.map_cons, List.map_nil]); first | done | rfl|(simp only [List.length_drop, List.length_take]; rfl)) ?_; (with_reducible refine (cohousinglaw01_head.calls k  true _ ?side1 A4.out).mono ?_); (case side1 => exact GL.below HG.out (by repeat (first|(with_reducible first|exact HB.out|apply bA|apply bN|apply b1|refine bS ?_ GE169.out|refine bS ?_ GE170.out|refine bS ?_ GE171.out)|exact HB.out))); rintro e w524 ⟨rfl, hb⟩; refine ⟨_, rfl, ?_⟩; have n0_ := Aside0.mk (kB (g := gb169) (by (with_reducible repeat first|apply kN|apply kD|apply kA); exact BK169.out) hb); have n1_ := Aside0.mk (kB (g := gb170) (by (with_reducible repeat first|apply kN|apply kD|apply kA); exact BK170.out) hb); have n2_ := Aside0.mk (kB (g := gb171) (by (with_reducible repeat first|apply kN|apply kD|apply kA); exact BK171.out) hb); have n3_ := Aside0.mk (bT (by repeat (first|(with_reducible first|exact HB.out|apply bA|apply bN|apply b1|refine bS ?_ GE169.out|refine bS ?_ GE170.out|refine bS ?_ GE171.out)|exact HB.out)) hb); clear BK169; clear BK170; clear BK171; clear HB; have BK169 := n0_; have BK170 := n1_; have BK171 := n2_; have HB := n3_; clear n0_ n1_ n2_ n3_; (try clear hb); (try clear hb2); (try clear hk); (try clear hi); have hnb525 := NB169_170.out; have hnc525 := NB170_169.out; have hnb526 := NB169_171.out; have hnc526 := NB171_169.out; have hcz527_0 : w524.cell? ⟨gb169, 0, none⟩ = some (.int .i64 a0_0) := (kC BK169.out 0).trans rfl; have hcz527_1 : w524.cell? ⟨gb169, 1, none⟩ = some (.int .i64 a0_1) := (kC BK169.out 1).trans rfl; have hfz527_0 := blk_frozen BK169.out 0; have hfz527_1 := blk_frozen BK169.out 1; have hnb528 := NB170_171.out; have hnc528 := NB171_170.out; have hcz529_0 : w524.cell? ⟨gb170, 0, none⟩ = some (.int .i64 a1_0) := (kC BK170.out 0).trans rfl; have hcz529_1 : w524.cell? ⟨gb170, 1, none⟩ = some (.int .i64 a1_1) := (kC BK170.out 1).trans rfl; have hfz529_0 := blk_frozen BK170.out 0; have hfz529_1 := blk_frozen BK170.out 1; have hcz530_0 : w524.cell? ⟨gb171, 0, none⟩ = some (.int .i64 a2_0) := (kC BK171.out 0).trans rfl; have hcz530_1 : w524.cell? ⟨gb171, 1, none⟩ = some (.int .i64 a2_1) := (kC BK171.out 1).trans rfl; have hfz530_0 := blk_frozen BK171.out 0; have hfz530_1 := blk_frozen BK171.out 1)|((with_reducible refine gate_dst (N := 26) rfl ?_); refine Kd.R_lit k24 _ 24 ?hg (N := 26) ?hd (xs := ([(⟨a0_0, a0_1⟩ : S24), (⟨a1_0, a1_1⟩ : S24), (⟨a2_0, a2_1⟩ : S24)] : List (S24))) (inner := [.int .i64 a0_0, .int .i64 a0_1, .int .i64 a1_0, .int .i64 a1_1, .int .i64 a2_0, .int .i64 a2_1]) (ok := fun _ => True) (okp := fun _ => True) ?hr ?hp (fun _ hk => hk) trivial (Below.refl _ _) (Nat.le_refl _) (by simp) ?_; (case hd => rfl); (case hg => rfl); (case hr => first|(go_simp; done)|(go_simp; rfl)); (case hp => exact (Reps.c2 (show Kd.M k24 _ _ _ (⟨a0_0, a0_1⟩ : S24) [.int .i64 a0_0, .int .i64 a0_1] from (k24_mkM _ _ _ (⟨a0_0, a0_1⟩ : S24) )) (Reps.c2 (show Kd.M k24 _ _ _ (⟨a1_0, a1_1⟩ : S24) [.int .i64 a1_0, .int .i64 a1_1] from (k24_mkM _ _ _ (⟨a1_0, a1_1⟩ : S24) )) (Reps.c2 (show Kd.M k24 _ _ _ (⟨a2_0, a2_1⟩ : S24) [.int .i64 a2_0, .int .i64 a2_1] from (k24_mkM _ _ _ (⟨a2_0, a2_1⟩ : S24) )) (Reps.none _ _))))); intro v174 w531 ho532 hb hg_ hnew_; clear hg_ hnew_; (first | rw [← Ny173.out] at ho532|(simp only [Int.reduceToNat] at ho532; rw [← Ny173.out] at ho532)); have n0_ := Aside0.mk (Kd.R_lower (Kd.R_newB (Kd.R_newB (Kd.R_newB ho532 (g := gb169) (o := .cells #[.int .i64 a0_0, .int .i64 a0_1] 24 (0, 0)) (by (with_reducible repeat first|apply kN|apply kD|apply kA); exact BK169.out)) (g := gb170) (o := .cells #[.int .i64 a1_0, .int .i64 a1_1] 24 (0, 0)) (by (with_reducible repeat first|apply kN|apply kD|apply kA); exact BK170.out)) (g := gb171) (o := .cells #[.int .i64 a2_0, .int .i64 a2_1] 24 (0, 0)) (by (with_reducible repeat first|apply kN|apply kD|apply kA); exact BK171.out)) (bZ (by repeat (first|(with_reducible first|exact HB.out|apply bA|apply bN|apply b1|refine bS ?_ GE169.out|refine bS ?_ GE170.out|refine bS ?_ GE171.out)|exact HB.out)))); have n1_ := Aside0.mk (kB (g := gb169) (by (with_reducible repeat first|apply kN|apply kD|apply kA); exact BK169.out) hb); have n2_ := Aside0.mk (kB (g := gb170) (by (with_reducible repeat first|apply kN|apply kD|apply kA); exact BK170.out) hb); have n3_ := Aside0.mk (kB (g := gb171) (by (with_reducible repeat first|apply kN|apply kD|apply kA); exact BK171.out) hb); have n4_ := Aside0.mk (bT (by repeat (first|(with_reducible first|exact HB.out|apply bA|apply bN|apply b1|refine bS ?_ GE169.out|refine bS ?_ GE170.out|refine bS ?_ GE171.out)|exact HB.out)) hb); clear BK169; clear BK170; clear BK171; clear HB; have HO175 := n0_; have BK169 := n1_; have BK170 := n2_; have BK171 := n3_; have HB := n4_; clear n0_ n1_ n2_ n3_ n4_; clear hb ho532; obtain ⟨Ao533, co533, eo533⟩ := Kd.R_slice HO175.out; subst eo533)|((with_reducible refine gate_callee (f := 14) rfl ?_); refine goesL_ (some 27) rfl rfl Tryd.func14 (by kernel_rfl) rfl #[.slice Ao533 y173.length co533] rfl (by (try simp only [List.map_toArray, List.map_cons, List.map_nil]); first | done | rfl|(simp only [List.length_drop, List.length_take]; rfl)) ?_; (with_reducible refine (cohousinglaw01_numbers.calls k _ _ y173 false _ ?side1 ?side2 A5.out).mono ?_); (case side1 => repeat (first|exact (Kd.R_reads' HO175.out).2.2|(with_reducible refine Kd.C_alloc ?_ _)|(with_reducible refine Kd.C_drewN ?_ _)|(with_reducible refine Kd.C_drew ?_))); (case side2 => exact (Kd.R_reads' HO175.out).2.1); rintro e w534 ⟨rfl, hb⟩; refine ⟨_, rfl, ?_⟩; have n0_ := Aside0.mk (Kd.R_below (by (with_reducible repeat (first|apply Kd.R_alloc|apply Kd.R_drewN|apply Kd.R_drew)); exact HO175.out) hb); have n1_ := Aside0.mk (kB (g := gb169) (by (with_reducible repeat first|apply kN|apply kD|apply kA); exact BK169.out) hb); have n2_ := Aside0.mk (kB (g := gb170) (by (with_reducible repeat first|apply kN|apply kD|apply kA); exact BK170.out) hb); have n3_ := Aside0.mk (kB (g := gb171) (by (with_reducible repeat first|apply kN|apply kD|apply kA); exact BK171.out) hb); have n4_ := Aside0.mk (bT (by repeat (first|(with_reducible first|exact HB.out|apply bA|apply bN|apply b1|refine bS ?_ GE169.out|refine bS ?_ GE170.out|refine bS ?_ GE171.out)|exact HB.out)) hb); clear HO175; clear BK169; clear BK170; clear BK171; clear HB; have HO175 := n0_; have BK169 := n1_; have BK170 := n2_; have BK171 := n3_; have HB := n4_; clear n0_ n1_ n2_ n3_ n4_; (try clear hb); (try clear hb2); (try clear hk); (try clear hi)))
   go_ret
   exact ⟨by first | rfl|(simp [errW_none, errW_some] <;> rfl)|(simp [*, errW_none, errW_some] <;> rfl), by repeat (first|(with_reducible first|exact HB.out|apply bA|apply bN|apply b1|refine bS ?_ GE169.out|refine bS ?_ GE170.out|refine bS ?_ GE171.out)|exact HB.out)⟩
  ·replace c520 := Bool.eq_false_iff.mpr c520
   subst c520
   have H1 : (none) = some r := by rw [if_neg (show ¬ (false = true) by decide)] at H; exact H
   clear H
   have H := H1
   clear H1
   exact absurd H (by simp)

end Go.Proofs.YteifflpjhlgpjaaDoor.X
