-- Written by a program of mine (wip/tools/xprint.py) over the kit's print.py: printed functions and hand-proved ones side by side.
import Derived.Test.YthcjocojngochaaGreatDoorXx0
import Derived.Test.YthcjocojngochaaGreatDoorXx3
import Derived.Test.YthcjocojngochaaGreatDoorXx4
import Derived.Test.YthcjocojngochaaGreatDoorXx5
import Derived.Test.YthcjocojngochaaGreatDoorXx6
import Derived.Test.YthcjocojngochaaGreatDoorXx7
namespace Go.Proofs.YthcjocojngochaaGreatDoor.X
open Go.RowKit Go.Proofs.YthcjocojngochaaGreatDoorW.PrintWords Go.Proofs.YthcjocojngochaaGreatDoorW.PrintLast Go.Proofs.YthcjocojngochaaGreatDoorW.PrintMore
attribute [local go_sem] max2_int min2_int max_two min_two max_three min_three max_four min_four   -- for this text's walks alone
set_option linter.unusedVariables false
set_option linter.unusedSimpArgs false

/-! ### lexer_Lex: function 94 -/
-- by hand: cohousing/lexer.Lex
section
attribute [local go_sem ↓] Go.wp_at_zero Go.wp_at_succ
theorem recov_idle (p q r : Option Addr) (w : World) :
    CallsD Tryz.prog 123 #[.pointer p, .pointer q, .pointer r] .returning w fun e u' w' => e = .returned (.tuple #[]) ∧ u' = .returning ∧ w' = w := by
  refine callsD_of_wpS Tryz.func123 rfl fun c₀ cs hu => ?_
  apply wpS_seq
  apply wpS_region
  simp [wpOpsS, go_sem, recoverD, hu, Tryz.ntmps123, Exit.thenS]
  apply wpS_seq
  apply wpS_region
  simp [wpOpsS, go_sem, recoverD, hu, Tryz.ntmps123, Exit.thenS]
  refine wpS_cond (t := false) (by simp [Act.eval, Array.replicate]) ?_
  simp only [Bool.false_eq_true, if_false]
  refine wpS_of_wp (wp_skip ?_)
  cases c₀
  simp_all [bodyPostS, results, Tryz.results123]
set_option maxRecDepth 100000 in
theorem fault_field0 (c a : Int) (W : World) : (Instr.field 139 (.agg #[.int .i64 c, .int .i64 a]) 0).run Tryz.prog W = .ok (.int .i64 c) W := by
  have hu := Tryz.underlying139
  simp [Instr.field, go_sem, hu, run_underlying hu, asAgg, Sem.run]
set_option maxRecDepth 100000 in
theorem fault_field1 (c a : Int) (W : World) : (Instr.field 139 (.agg #[.int .i64 c, .int .i64 a]) 1).run Tryz.prog W = .ok (.int .i64 a) W := by
  have hu := Tryz.underlying139
  simp [Instr.field, go_sem, hu, run_underlying hu, asAgg, Sem.run]
set_option maxRecDepth 100000 in
theorem fault_is (v : Value) (W : World) : (Instr.typeAssert (.iface 139 v) 20 139 false).run Tryz.prog W = .ok v W := by rfl
set_option maxRecDepth 100000 in
theorem recov_panic (b2 b3 b4 : Nat) (v : Value) (x y c a : Int) (B : Nat) (h23 : ¬ b2 = b3) (h24 : ¬ b2 = b4) (h34 : ¬ b3 = b4) (older : List PanicEntry) (w : World)
    (k2 : w.cell? ⟨b2, 0, none⟩ = some v) (k3 : w.cell? ⟨b3, 0, none⟩ = some (.int .i64 x)) (k4 : w.cell? ⟨b4, 0, none⟩ = some (.int .i64 y))
    (f2 : w.frozen? ⟨b2, 0, none⟩ = false) (f3 : w.frozen? ⟨b3, 0, none⟩ = false) (f4 : w.frozen? ⟨b4, 0, none⟩ = false) (hB2 : B ≤ b2) (hB3 : B ≤ b3) (hB4 : B ≤ b4) :
    CallsD Tryz.prog 123 #[.pointer (some ⟨b2, 0, none⟩), .pointer (some ⟨b3, 0, none⟩), .pointer (some ⟨b4, 0, none⟩)] (.panicking ({ v := .iface 139 (.agg #[.int .i64 c, .int .i64 a]), recovered := false } :: older)) w fun e u' w' =>
      e = .returned (.tuple #[]) ∧ u' = .panicking ({ v := .iface 139 (.agg #[.int .i64 c, .int .i64 a]), recovered := true } :: older) ∧ Below B w w' ∧
      w'.cell? ⟨b2, 0, none⟩ = some (.slice none 0 0) ∧ w'.cell? ⟨b3, 0, none⟩ = some (.int .i64 c) ∧ w'.cell? ⟨b4, 0, none⟩ = some (.int .i64 a) := by
  refine callsD_of_wpS Tryz.func123 rfl fun c₀ cs hu => ?_
  apply wpS_seq
  apply wpS_region
  simp [wpOpsS, go_sem, recoverD, hu, Tryz.ntmps123, Exit.thenS]
  apply wpS_seq
  apply wpS_region
  simp [wpOpsS, go_sem, recoverD, hu, Tryz.ntmps123, Exit.thenS]
  refine wpS_cond (t := true) (by simp [Act.eval, Array.replicate]) ?_
  simp only [if_true]
  refine wpS_of_wp ?_
  go_wp2
  have hta := fault_is
  have hf0 := fault_field0 c a
  have hf1 := fault_field1 c a
  change Code.wp Tryz.prog _ _ { tmps := #[.pointer (some ⟨b2, 0, none⟩), .pointer (some ⟨b3, 0, none⟩), .pointer (some ⟨b4, 0, none⟩), .iface 139 (.agg #[.int .i64 c, .int .i64 a]), .iface 139 (.agg #[.int .i64 c, .int .i64 a]), .iface 139 (.agg #[.int .i64 c, .int .i64 a]), .bool true, undef, undef, undef, undef, undef, undef], defers := [] } w
  clear hu
  go_region
  all_goals
    change bodyPostS _ _ _ _ _ _ _ _ _
    refine ⟨rfl, _, rfl, .tuple #[], results_none rfl _ _ _, rfl, rfl, below_drew ((((Below.refl _ _).setCell hB2 _).setCell hB3 _).setCell hB4 _), ?_, ?_, ?_⟩
    · go_simp
    · go_simp
    · go_simp
/-- What stands at an offset: an error (0: none), the offset behind it, the token. -/
def tokF (s : ByteArray) (i : Nat) : Int × Nat × S98 :=
  match s.data.toList.drop i with
  | [] => (10, i, z98)
  | c :: r =>
    if isDigit c then ((valF (s.extract i (i + partLen true (c :: r)))).2.2, i + partLen true (c :: r), ⟨2, i, ⟨#[]⟩, ⟨(valF (s.extract i (i + partLen true (c :: r)))).1, (valF (s.extract i (i + partLen true (c :: r)))).2.1⟩⟩)
    else if isLetter c then (if 16 < partLen false (c :: r) then 2 else 0, i + partLen false (c :: r), ⟨1, i, s.extract i (i + partLen false (c :: r)), ⟨0, 0⟩⟩)
    else (if signN (c :: r) = 0 then 10 else 0, i + signN (c :: r), ⟨3, i, s.extract i (i + signN (c :: r)), ⟨0, 0⟩⟩)
theorem signN_le (l : List UInt8) : signN l ≤ l.length := by
  cases l with
  | nil => simp [signN]
  | cons c r =>
    rw [signN]
    split
    · split
      · cases r with
        | nil => rename_i h; simp at h
        | cons => simp
      · split <;> simp
    · split <;> simp
theorem partLen_pos (num : Bool) (c : UInt8) (r : List UInt8) (h : partB num c = true) : 1 ≤ partLen num (c :: r) := by
  unfold partLen
  rw [List.takeWhile_cons, if_pos h, List.length_cons]
  omega
theorem part_digit (num : Bool) (c : UInt8) (h : isDigit c = true) : partB num c = true := by unfold partB; rw [h]; simp
theorem part_letter (num : Bool) (c : UInt8) (h : isLetter c = true) : partB num c = true := by unfold partB; rw [h]; simp
theorem tokF_end (s : ByteArray) (i : Nat) (hi : i < s.size) (h0 : (tokF s i).1 = 0) : i < (tokF s i).2.1 ∧ (tokF s i).2.1 ≤ s.size := by
  have hl : ∀ num, i + partLen num (s.data.toList.drop i) ≤ s.size := fun num => partLen_le num s i (by omega)
  have hs := signN_le (s.data.toList.drop i)
  have hd : (s.data.toList.drop i).length = s.size - i := by simp
  rw [hd] at hs
  unfold tokF at h0 ⊢
  rw [drop_cons s i hi] at hl hs h0 ⊢
  simp only at h0 ⊢
  by_cases h1 : isDigit s[i] = true
  · rw [if_pos h1]
    have := partLen_pos true s[i] (s.data.toList.drop (i + 1)) (part_digit _ _ h1)
    have := hl true
    exact ⟨by simp only; omega, by simp only; omega⟩
  · rw [if_neg h1] at h0 ⊢
    by_cases h2 : isLetter s[i] = true
    · rw [if_pos h2]
      have := partLen_pos false s[i] (s.data.toList.drop (i + 1)) (part_letter _ _ h2)
      have := hl false
      exact ⟨by simp only; omega, by simp only; omega⟩
    · rw [if_neg h2] at h0 ⊢
      simp only at h0 ⊢
      have h3 : signN (s[i] :: s.data.toList.drop (i + 1)) ≠ 0 := by
        intro e
        rw [if_pos e] at h0
        exact absurd h0 (by decide)
      omega
theorem tok_any (g : Nat) (s : ByteArray) (i : Nat) (v : Value) (n : Nat) (xs : List Value) (w : World) (hS : Sc w g s i v) (hO : w.ownsRow (g + 1) 98 5 v n xs) (hn : n < 2000) (hi : i < s.size) (hs : s.size ≤ 8000) :
    ((tokF s i).1 = 0 → Calls Tryz.prog 125 #[.pointer (some ⟨g, 0, none⟩)] w (TokPost g s w (tokF s i).2.1 (n + 1) (xs ++ tokCells (tokF s i).2.2))) ∧
    ((tokF s i).1 ≠ 0 → Calls Tryz.prog 125 #[.pointer (some ⟨g, 0, none⟩)] w (TokFail g w (tokF s i).1 i)) := by
  have hdc := drop_cons s i hi
  have hsn := signN_le (s.data.toList.drop i)
  have hd : (s.data.toList.drop i).length = s.size - i := by simp
  rw [hd] at hsn
  have e : tokF s i = (if isDigit s[i] then ((valF (s.extract i (i + partLen true (s.data.toList.drop i)))).2.2, i + partLen true (s.data.toList.drop i), ⟨2, i, ⟨#[]⟩, ⟨(valF (s.extract i (i + partLen true (s.data.toList.drop i)))).1, (valF (s.extract i (i + partLen true (s.data.toList.drop i)))).2.1⟩⟩)
    else if isLetter s[i] then (if 16 < partLen false (s.data.toList.drop i) then 2 else 0, i + partLen false (s.data.toList.drop i), ⟨1, i, s.extract i (i + partLen false (s.data.toList.drop i)), ⟨0, 0⟩⟩)
    else (if signN (s.data.toList.drop i) = 0 then 10 else 0, i + signN (s.data.toList.drop i), ⟨3, i, s.extract i (i + signN (s.data.toList.drop i)), ⟨0, 0⟩⟩) : Int × Nat × S98) := by
    unfold tokF
    rw [hdc]
  by_cases h1 : isDigit s[i] = true
  · rw [if_pos h1] at e
    rw [e]
    have hpl := partLen_pos true s[i] (s.data.toList.drop (i + 1)) (part_digit _ _ h1)
    rw [← hdc] at hpl
    have hle := partLen_le true s i (by omega)
    have hall := partLen_all true s i
    have hsz : (s.extract i (i + partLen true (s.data.toList.drop i))).size = partLen true (s.data.toList.drop i) := by simp only [ByteArray.size_extract]; omega
    have hval : ∀ W, Calls Tryz.prog 157 #[.string (s.extract i (i + partLen true (s.data.toList.drop i)))] W fun e w' => e = .returned (.tuple #[.agg #[.int .i64 (valF (s.extract i (i + partLen true (s.data.toList.drop i)))).1, .int .i64 (valF (s.extract i (i + partLen true (s.data.toList.drop i)))).2.1], .int .i64 (valF (s.extract i (i + partLen true (s.data.toList.drop i)))).2.2]) ∧ Below W.heap.size W w' := by
      intro W
      refine value_ok _ W (by omega) ?_ (by omega) hall
      have : (s.extract i (i + partLen true (s.data.toList.drop i)))[0]'(by omega) = s[i] := by simp [ByteArray.getElem_extract]
      rw [this, h1]
    refine ⟨fun h0 => ?_, fun h0 => ?_⟩
    · exact tok_num g s i v n xs w hS hO hn hi hs h1 _ _ _ hval h0
    · exact tok_badnum g s i v n xs w hS hO hn hi hs h1 _ _ _ hval (by rw [beq_eq_false_iff_ne]; exact h0)
  · have h1' := (Bool.not_eq_true _).mp h1
    rw [if_neg h1] at e
    by_cases h2 : isLetter s[i] = true
    · rw [if_pos h2] at e
      rw [e]
      by_cases h3 : 16 < partLen false (s.data.toList.drop i)
      · rw [if_pos h3]
        exact ⟨fun h0 => absurd h0 (by simp), fun _ => tok_long g s i v n xs w hS hO hn hi hs h1' h2 h3⟩
      · rw [if_neg h3]
        exact ⟨fun _ => tok_word g s i v n xs w hS hO hn hi hs h1' h2 (by omega), fun h0 => absurd rfl h0⟩
    · have h2' := (Bool.not_eq_true _).mp h2
      rw [if_neg h2] at e
      rw [e]
      by_cases h3 : signN (s.data.toList.drop i) = 0
      · rw [if_pos h3]
        exact ⟨fun h0 => absurd h0 (by simp), fun _ => tok_nosign g s i v n xs w hS hO hn hi hs h1' h2' h3⟩
      · rw [if_neg h3]
        exact ⟨fun _ => tok_sign g s i _ v n xs w hS hO hn hi hs h1' h2' rfl (by omega) (by omega), fun h0 => absurd rfl h0⟩
theorem skipN_le : ∀ (c : Bool) (l : List UInt8), skipN c l ≤ l.length
  | _, [] => by simp [skipN]
  | c, b :: r => by
    have ih := skipN_le (if b == 10 then false else if b == 35 then true else c) r
    rw [skipN, List.length_cons]
    generalize (if (b == 10) = true then false else if (b == 35) = true then true else c) = d at ih ⊢
    split <;> omega
theorem skipTo_le (s : ByteArray) (i : Nat) (h : i ≤ s.size) : i ≤ skipTo s i ∧ skipTo s i ≤ s.size := by
  have h1 := skipN_le false (s.data.toList.drop i)
  have hd : (s.data.toList.drop i).length = s.size - i := by simp
  unfold skipTo
  omega
/-- The tokens from an offset on, behind those that were read. -/
def lexLoop (s : ByteArray) : Nat → Nat → List S98 → List S98 × Int × Int
  | 0, _, _ => ([], 0, 0)
  | k + 1, i, l => if i < s.size then (if l.length = 2000 then ([], 2, i) else if (tokF s i).1 = 0 then lexLoop s k (skipTo s (tokF s i).2.1) (l ++ [(tokF s i).2.2]) else ([], (tokF s i).1, i)) else (l, 0, 0)
/-- What Lex returns. -/
def lexF (s : ByteArray) : List S98 × Int × Int := if 8000 < s.size then ([], 2, 0) else lexLoop s (s.size + 1) (skipTo s 0) []
theorem new_at {X : World} {o : Obj} {k : Nat} (h : X.heap.size = k) : (X.alloc o).heap[k]? = some o := by
  subst h
  exact heap_alloc_new X o
theorem flat_len : ∀ l : List S98, (l.flatMap tokCells).length = l.length * 5
  | [] => rfl
  | t :: l => by
    rw [List.flatMap_cons, List.length_append, flat_len l, List.length_cons]
    simp [tokCells]
    omega
theorem flat_reps (w : World) (base : Nat) (ok : Nat → Prop) : ∀ l : List S98, Reps (k98.M w base ok) 5 l (l.flatMap tokCells) := by
  intro l
  have key : ∀ (n : Nat) (l : List S98), l.length = n → Reps (k98.M w base ok) 5 l (l.flatMap tokCells) := by
    intro n
    induction n with
    | zero =>
      intro l h
      rw [List.length_eq_zero_iff] at h
      subst h
      exact Reps.none _ _
    | succ n ih =>
      intro l h
      have hne : l ≠ [] := by
        rintro rfl
        simp at h
      have e := List.dropLast_concat_getLast hne
      rw [← e]
      have hl : l.dropLast.length = n := by rw [List.length_dropLast]; omega
      have e2 : (l.dropLast ++ [l.getLast hne]).flatMap tokCells = l.dropLast.flatMap tokCells ++ tokCells (l.getLast hne) := by simp
      rw [e2]
      exact Reps.snoc (ih _ hl) (k98_mkM w base ok _) rfl
  exact key _ l rfl
theorem row_R2 {w : World} {base : Nat} {v : Value} {l : List S98} (h : w.ownsRow base 98 5 v l.length (l.flatMap tokCells)) : Kd.R k98 98 w base (fun k => base ≤ k) v l :=
  ⟨fun k hk => (h.lt k hk).1, l.flatMap tokCells, h, flat_reps _ _ _ l⟩
theorem row_R {w : World} {base : Nat} {v : Value} {l : List S98} (h : w.ownsRow base 98 5 v l.length (l.flatMap tokCells)) : Kd.R k98 98 w base (fun _ => True) v l :=
  ⟨fun _ _ => trivial, l.flatMap tokCells, h, flat_reps _ _ _ l⟩
set_option maxRecDepth 100000 in
set_option maxHeartbeats 8000000 in
theorem lex_long (s : ByteArray) (w : World) (hs : 8000 < s.size) : Calls Tryz.prog 94 #[.string s] w fun e w' => e = .returned (.tuple #[.slice none 0 0, .int .i64 2, .int .i64 0]) ∧ Below w.heap.size w w' := by
  have hsz : decide ((8000 : Int) < (s.size : Int)) = true := decide_eq_true (by omega)
  go_enter_defers Tryz.func94, Tryz.ntmps94
  go_wp2
  refine ⟨.tuple #[.slice none 0 0, .int .i64 2, .int .i64 0], by simp [results, Tryz.results94, go_sem], rfl, ?_⟩
  exact (by repeat (first | exact Below.refl _ _ | apply below_alloc))
set_option maxRecDepth 100000 in
set_option maxHeartbeats 8000000 in
theorem lex_short (s : ByteArray) (w : World) (hs : s.size ≤ 8000) :
    Calls Tryz.prog 94 #[.string s] w fun e w' => ∃ v0_ : Value, e = .returned (.tuple #[v0_, .int .i64 (lexF s).2.1, .int .i64 (lexF s).2.2]) ∧ Kd.R k98 98 w' w.heap.size (fun _ => True) v0_ (lexF s).1 ∧ Below w.heap.size w w' := by
  have hu49 := Tryz.underlying142
  have hsz : decide ((8000 : Int) < (s.size : Int)) = false := decide_eq_false (by omega)
  have hF : lexF s = lexLoop s (s.size + 1) (skipTo s 0) [] := by unfold lexF; rw [if_neg (by omega)]
  have hskip := skipTo_le s 0 (by omega)
  have HSK := Lib.hid (fun (g i : Nat) (v : Value) (W : World) (h : Sc W g s i v) (hi : i ≤ s.size) => skip_ok g s i v W h hi hs)
  have HTK := Lib.hid (fun (g i : Nat) (v : Value) (n : Nat) (xs : List Value) (W : World) (h : Sc W g s i v) (hO : W.ownsRow (g + 1) 98 5 v n xs) (hn : n < 2000) (hi : i < s.size) => tok_any g s i v n xs W h hO hn hi hs)
  have HTF := Lib.hid (fun (g i : Nat) (v : Value) (xs : List Value) (W : World) (h : Sc W g s i v) (hO : W.ownsRow (g + 1) 98 5 v 2000 xs) (hi : i < s.size) => tok_full g s i v xs W h hO hi hs)
  have HF := Lib.hid hF
  have HK0 := Lib.hid hskip
  clear hF hskip
  go_enter_defers Tryz.func94, Tryz.ntmps94
  go_wp2_with fail
  refine (HSK.out (w.heap.size + 1 + 1 + 1) 0 (.slice none 0 0) _ ⟨new_at (by simp)⟩ (by omega)).mono ?_
  rintro e w1 ⟨rfl, hS1, hO1⟩
  have hO1' := Aside0.mk hO1
  have hS1' := Aside0.mk hS1
  clear hS1 hO1
  go_wp2_with fail
  go_loopg [18] (s.size + 1) (fun k v18 wr => ∃ (i : Nat) (l : List S98) (v : Value), i ≤ s.size ∧ l.length ≤ 2000 ∧ Aside0 (s.size - i < k) ∧ Aside0 (lexLoop s k i l = lexF s) ∧ Aside0 (Sc wr (w.heap.size + 1 + 1 + 1) s i v) ∧ Aside0 (wr.ownsRow (w.heap.size + 1 + 1 + 1 + 1) 98 5 v l.length (l.flatMap tokCells)) ∧
    Aside0 (Below (w.heap.size + 1 + 1 + 1) ((((w.alloc (Obj.cells #[Value.slice none 0 0] 92)).alloc (Obj.cells #[Value.int IntKind.i64 0] 29)).alloc (Obj.cells #[Value.int IntKind.i64 0] 3)).alloc (Obj.cells #[Value.string s, Value.int IntKind.i64 0, Value.slice none 0 0] 142)) wr))
  case atStart => exact ⟨skipTo s 0, [], .slice none 0 0, HK0.out.2, by simp, ⟨by have := HK0.out; omega⟩, ⟨HF.out.symm⟩, hS1', ⟨⟨rfl, .inl ⟨rfl, rfl⟩⟩⟩, ⟨hO1'.out.below⟩⟩
  case round =>
    clear hS1' hO1' HF HK0
    obtain ⟨i, l, v, hi, hl, HM, HL, HS, HO, HB⟩ := hrel
    obtain ⟨A, cap, rfl⟩ := own_slice HO.out
    obtain ⟨c0, c1, c2, f0, f1, f2⟩ := HS.out.cells
    cases gk with
    | zero => exact absurd HM.out (by omega)
    | succ k1 =>
      by_cases hlt : i < s.size
      · have hltd : decide ((i : Int) < (s.size : Int)) = true := decide_eq_true (by omega)
        by_cases hfull : l.length = 2000
        · have hE : lexF s = ([], 2, (i : Int)) := by rw [← HL.out, lexLoop, if_pos hlt, if_pos hfull]
          have HE := Aside0.mk hE
          have HO2 : Aside0 (wr.ownsRow (w.heap.size + 1 + 1 + 1 + 1) 98 5 (.slice A l.length cap) 2000 (l.flatMap tokCells)) := ⟨by have := HO.out; rw [hfull] at this ⊢; exact this⟩
          clear hE HO HL HM hfull
          go_wp2_with fail
          go_quiet (fail)
          go_wp2_with fail
          refine (HTF.out _ i _ _ _ (by repeat (first | exact HS.out | apply Sc.drewN)) (by exact HO2.out) hlt).mono ?_
          rintro e w2 ⟨hpan, hb⟩
          subst hpan
          have hbb := Below.trans (pw_below_drewN HB.out _) hb
          have k2 : w2.cell? ⟨w.heap.size, 0, none⟩ = some (.slice none 0 0) := (hbb.cell (p := ⟨w.heap.size, 0, none⟩) (by simp; omega)).trans (by go_simp)
          have k3 : w2.cell? ⟨w.heap.size + 1, 0, none⟩ = some (.int .i64 0) := (hbb.cell (p := ⟨w.heap.size + 1, 0, none⟩) (by simp)).trans (by go_simp)
          have k4 : w2.cell? ⟨w.heap.size + 1 + 1, 0, none⟩ = some (.int .i64 0) := (hbb.cell (p := ⟨w.heap.size + 1 + 1, 0, none⟩) (by simp)).trans (by go_simp)
          have j2 : w2.frozen? ⟨w.heap.size, 0, none⟩ = false := (hbb.frozen (p := ⟨w.heap.size, 0, none⟩) (by simp; omega)).trans (by go_simp)
          have j3 : w2.frozen? ⟨w.heap.size + 1, 0, none⟩ = false := (hbb.frozen (p := ⟨w.heap.size + 1, 0, none⟩) (by simp)).trans (by go_simp)
          have j4 : w2.frozen? ⟨w.heap.size + 1 + 1, 0, none⟩ = false := (hbb.frozen (p := ⟨w.heap.size + 1 + 1, 0, none⟩) (by simp)).trans (by go_simp)
          go_wp2_with fail
          (try simp only [Exit.inBlock, Exit.then])
          refine leaves_cons (f := 123) (args := #[.pointer (some ⟨w.heap.size, 0, none⟩), .pointer (some ⟨w.heap.size + 1, 0, none⟩), .pointer (some ⟨w.heap.size + 1 + 1, 0, none⟩)]) (by simp) (by simp [go_sem]) ?_
          refine (recov_panic w.heap.size (w.heap.size + 1) (w.heap.size + 1 + 1) _ 0 0 _ _ w.heap.size (by omega) (by omega) (by omega) [] _ k2 k3 k4 j2 j3 j4 (by omega) (by omega) (by omega)).mono ?_
          rintro e u' w3 ⟨rfl, rfl, hb2, d0, d1, d2⟩
          simp [Leaves, settle, results, Tryz.results94, go_sem, d0, d1, d2]
          rw [HE.out]
          exact ⟨_, ⟨rfl, rfl, rfl⟩, Kd.R_nil _ _ _ _ _, (((by repeat (first | exact Below.refl _ _ | apply below_alloc) : Below w.heap.size w ((((w.alloc (Obj.cells #[Value.slice none 0 0] 92)).alloc (Obj.cells #[Value.int IntKind.i64 0] 29)).alloc (Obj.cells #[Value.int IntKind.i64 0] 3)).alloc (Obj.cells #[Value.string s, Value.int IntKind.i64 0, Value.slice none 0 0] 142))).trans (hbb.mono (by omega))).trans hb2)⟩
        · cases herr : decide ((tokF s i).1 = 0) with
          | false =>
            have herr' : (tokF s i).1 ≠ 0 := of_decide_eq_false herr
            have hE : lexF s = ([], (tokF s i).1, (i : Int)) := by rw [← HL.out, lexLoop, if_pos hlt, if_neg hfull, if_neg herr']
            have HE := Aside0.mk hE
            have HER := Aside0.mk herr'
            have hl2 : l.length < 2000 := by omega
            clear hE HL HM herr herr' hfull
            go_wp2_with fail
            go_quiet (fail)
            go_wp2_with fail
            refine ((HTK.out _ i _ _ _ _ (by repeat (first | exact HS.out | apply Sc.drewN)) (by exact HO.out) hl2 hlt).2 HER.out).mono ?_
            rintro e w2 ⟨hpan, hb⟩
            subst hpan
            have hbb := Below.trans (pw_below_drewN HB.out _) hb
            have k2 : w2.cell? ⟨w.heap.size, 0, none⟩ = some (.slice none 0 0) := (hbb.cell (p := ⟨w.heap.size, 0, none⟩) (by simp; omega)).trans (by go_simp)
            have k3 : w2.cell? ⟨w.heap.size + 1, 0, none⟩ = some (.int .i64 0) := (hbb.cell (p := ⟨w.heap.size + 1, 0, none⟩) (by simp)).trans (by go_simp)
            have k4 : w2.cell? ⟨w.heap.size + 1 + 1, 0, none⟩ = some (.int .i64 0) := (hbb.cell (p := ⟨w.heap.size + 1 + 1, 0, none⟩) (by simp)).trans (by go_simp)
            have j2 : w2.frozen? ⟨w.heap.size, 0, none⟩ = false := (hbb.frozen (p := ⟨w.heap.size, 0, none⟩) (by simp; omega)).trans (by go_simp)
            have j3 : w2.frozen? ⟨w.heap.size + 1, 0, none⟩ = false := (hbb.frozen (p := ⟨w.heap.size + 1, 0, none⟩) (by simp)).trans (by go_simp)
            have j4 : w2.frozen? ⟨w.heap.size + 1 + 1, 0, none⟩ = false := (hbb.frozen (p := ⟨w.heap.size + 1 + 1, 0, none⟩) (by simp)).trans (by go_simp)
            go_wp2_with fail
            (try simp only [Exit.inBlock, Exit.then])
            refine leaves_cons (f := 123) (args := #[.pointer (some ⟨w.heap.size, 0, none⟩), .pointer (some ⟨w.heap.size + 1, 0, none⟩), .pointer (some ⟨w.heap.size + 1 + 1, 0, none⟩)]) (by simp) (by simp [go_sem]) ?_
            refine (recov_panic w.heap.size (w.heap.size + 1) (w.heap.size + 1 + 1) _ 0 0 _ _ w.heap.size (by omega) (by omega) (by omega) [] _ k2 k3 k4 j2 j3 j4 (by omega) (by omega) (by omega)).mono ?_
            rintro e u' w3 ⟨rfl, rfl, hb2, d0, d1, d2⟩
            simp [Leaves, settle, results, Tryz.results94, go_sem, d0, d1, d2]
            rw [HE.out]
            exact ⟨_, ⟨rfl, rfl, rfl⟩, Kd.R_nil _ _ _ _ _, (((by repeat (first | exact Below.refl _ _ | apply below_alloc) : Below w.heap.size w ((((w.alloc (Obj.cells #[Value.slice none 0 0] 92)).alloc (Obj.cells #[Value.int IntKind.i64 0] 29)).alloc (Obj.cells #[Value.int IntKind.i64 0] 3)).alloc (Obj.cells #[Value.string s, Value.int IntKind.i64 0, Value.slice none 0 0] 142))).trans (hbb.mono (by omega))).trans hb2)⟩
          | true =>
            have herr' : (tokF s i).1 = 0 := of_decide_eq_true herr
            have hend := tokF_end s i hlt herr'
            have hE : lexLoop s k1 (skipTo s (tokF s i).2.1) (l ++ [(tokF s i).2.2]) = lexF s := by rw [← HL.out, lexLoop, if_pos hlt, if_neg hfull, if_pos herr']
            have HE := Aside0.mk hE
            have HER := Aside0.mk herr'
            have hl2 : l.length < 2000 := by omega
            have hsk := skipTo_le s (tokF s i).2.1 hend.2
            have HSZ := Aside0.mk (And.intro hend hsk)
            clear hE HL herr herr' hfull hend hsk
            go_wp2_with fail
            go_quiet (fail)
            go_wp2_with fail
            refine ((HTK.out _ i _ _ _ _ (by repeat (first | exact HS.out | apply Sc.drewN)) (by exact HO.out) hl2 hlt).1 HER.out).mono ?_
            rintro e w2 ⟨hret, ⟨v', hS2, hO2⟩, hb⟩
            subst hret
            have HS2 := Aside0.mk hS2
            have HO2 := Aside0.mk hO2
            have HB2 := Aside0.mk hb
            clear hS2 hO2 hb
            go_wp2_with fail
            refine (HSK.out _ _ _ _ HS2.out HSZ.out.1.2).mono ?_
            rintro e w3 ⟨rfl, hS3, hOn3⟩
            have HS3 := Aside0.mk hS3
            have HOn3 := Aside0.mk hOn3
            clear hS3 hOn3
            go_wp2_with fail
            go_roundg k1
            case measure => omega
            case rel => exact ⟨skipTo s (tokF s i).2.1, l ++ [(tokF s i).2.2], v', HSZ.out.2.2, by rw [List.length_append]; simp; omega, ⟨by have := HSZ.out; have := HM.out; omega⟩, HE, HS3, ⟨by rw [List.length_append, List.flatMap_append]; have := HOn3.out.own HO2.out; simpa using this⟩, ⟨Below.trans (Below.trans (pw_below_drewN HB.out _) HB2.out) HOn3.out.below⟩⟩
      · have hltd : decide ((i : Int) < (s.size : Int)) = false := decide_eq_false (by omega)
        have hltn : decide (i < s.size) = false := decide_eq_false hlt
        have hE : lexF s = (l, 0, 0) := by rw [← HL.out, lexLoop, if_neg hlt]
        have HE := Aside0.mk hE
        clear hE HL HM hlt
        have k2 : wr.cell? ⟨w.heap.size, 0, none⟩ = some (.slice none 0 0) := (HB.out.cell (p := ⟨w.heap.size, 0, none⟩) (by simp; omega)).trans (by go_simp)
        have k3 : wr.cell? ⟨w.heap.size + 1, 0, none⟩ = some (.int .i64 0) := (HB.out.cell (p := ⟨w.heap.size + 1, 0, none⟩) (by simp)).trans (by go_simp)
        have k4 : wr.cell? ⟨w.heap.size + 1 + 1, 0, none⟩ = some (.int .i64 0) := (HB.out.cell (p := ⟨w.heap.size + 1 + 1, 0, none⟩) (by simp)).trans (by go_simp)
        have j2 : wr.frozen? ⟨w.heap.size, 0, none⟩ = false := (HB.out.frozen (p := ⟨w.heap.size, 0, none⟩) (by simp; omega)).trans (by go_simp)
        have j3 : wr.frozen? ⟨w.heap.size + 1, 0, none⟩ = false := (HB.out.frozen (p := ⟨w.heap.size + 1, 0, none⟩) (by simp)).trans (by go_simp)
        have j4 : wr.frozen? ⟨w.heap.size + 1 + 1, 0, none⟩ = false := (HB.out.frozen (p := ⟨w.heap.size + 1 + 1, 0, none⟩) (by simp)).trans (by go_simp)
        go_wp2_with fail
        go_quiet (fail)
        go_wp2_with fail
        (try simp only [Exit.inBlock, Exit.then])
        refine leaves_cons (f := 123) (args := #[.pointer (some ⟨w.heap.size, 0, none⟩), .pointer (some ⟨w.heap.size + 1, 0, none⟩), .pointer (some ⟨w.heap.size + 1 + 1, 0, none⟩)]) (by simp) (by simp [go_sem]) ?_
        refine (recov_idle _ _ _ _).mono ?_
        rintro e u' w2 ⟨rfl, rfl, rfl⟩
        simp [Leaves, settle, results, Tryz.results94, go_sem, k2, k3, k4, j2, j3, j4]
        rw [HE.out]
        have hR := Kd.R_drewN (row_R2 HO.out) nq
        refine ⟨_, ⟨rfl, rfl, rfl⟩, ?_, ?_⟩
        · exact Kd.R_mono (Kd.R_lower (Kd.R_far (Kd.R_far (Kd.R_far hR (p := ⟨w.heap.size, 0, none⟩) (fun k hk => by simp; omega) _) (p := ⟨w.heap.size + 1, 0, none⟩) (fun k hk => by simp; omega) _) (p := ⟨w.heap.size + 1 + 1, 0, none⟩) (fun k hk => by simp; omega) _) (by omega)) (fun _ _ => trivial)
        · have h0 : Below w.heap.size w wr := ((by repeat (first | exact Below.refl _ _ | apply below_alloc) : Below w.heap.size w ((((w.alloc (Obj.cells #[Value.slice none 0 0] 92)).alloc (Obj.cells #[Value.int IntKind.i64 0] 29)).alloc (Obj.cells #[Value.int IntKind.i64 0] 3)).alloc (Obj.cells #[Value.string s, Value.int IntKind.i64 0, Value.slice none 0 0] 142))).trans (HB.out.mono (by omega)))
          exact (((pw_below_drewN h0 _).setCell (by simp) _).setCell (by simp) _).setCell (by simp; omega) _
end
/-- The tokens, the kind of error and its offset. -/
def lexer_Lex.f (a0 : ByteArray) : Option ((List (S98)) × Int × Int) := some (lexF a0)
theorem lexer_Lex.calls (a0 : ByteArray) (r1 : List (S98)) (r2 : Int) (r3 : Int) (w : World) (h : lexer_Lex.f a0 = some (r1, r2, r3)) :
    Calls Tryz.prog 94 #[.string a0] w fun e w' => ∃ v0_ : Value, e = .returned (.tuple #[v0_, .int .i64 r2, .int .i64 r3]) ∧ Kd.R k98 98 w' w.heap.size (fun _ => True) v0_ r1 ∧ Below w.heap.size w w' := by
  unfold lexer_Lex.f at h
  have e := Option.some.inj h
  by_cases hs : a0.size ≤ 8000
  · have := lex_short a0 w hs
    rw [e] at this
    exact this
  · refine (lex_long a0 w (by omega)).mono ?_
    rintro e2 w' ⟨rfl, hb⟩
    have e3 : lexF a0 = ([], 2, 0) := by unfold lexF; rw [if_pos (by omega)]
    rw [e3] at e
    injection e with e4 e5
    injection e5 with e5 e6
    subst e4 e5 e6
    exact ⟨_, rfl, Kd.R_nil _ _ _ _ _, hb⟩

/-! ### facts_isName: function 65 -/
def facts_isName.f (a0 : ByteArray) : Option (Bool) := (lexer_Lex.f a0).bind fun bt109 => (if bt109.2.1 = 0 then (if (bt109.1.length : Int) = 1 then (if 0 < (bt109.1.length : Int) then (if ((rd_T98 bt109.1 0).f0) = 1 then (some (((rd_T98 bt109.1 0).f2).toList == a0.toList)) else (some false)) else (none)) else (some false)) else (some false))
set_option maxHeartbeats 8000000 in
set_option maxRecDepth 100000 in
theorem facts_isName.calls (a0 : ByteArray) (r : Bool) (w : World) (h : facts_isName.f a0 = some r) :
    Calls Tryz.prog 65 #[.string a0] w fun e w' => e = .returned (.bool r) ∧ Below w.heap.size w w' := by
  have HB := Aside0.mk (Below.refl w.heap.size w)
  have H : ((lexer_Lex.f a0).bind fun bt109 => (if bt109.2.1 = 0 then (if (bt109.1.length : Int) = 1 then (if 0 < (bt109.1.length : Int) then (if ((rd_T98 bt109.1 0).f0) = 1 then (some (((rd_T98 bt109.1 0).f2).toList == a0.toList)) else (some false)) else (none)) else (some false)) else (some false))) = some r := h
  clear h
  replace H := Option.bind_eq_some_iff.mp H
  obtain ⟨⟨t109, t110, t111⟩, A20, H⟩ := H
  replace H : (if t110 = 0 then (if (t109.length : Int) = 1 then (if 0 < (t109.length : Int) then (if ((rd_T98 t109 0).f0) = 1 then (some (((rd_T98 t109 0).f2).toList == a0.toList)) else (some false)) else (none)) else (some false)) else (some false)) = some r := H
  have A2 := Aside0.mk A20
  clear A20
  by_cases c3 : t110 = 0
  · rw [if_pos c3] at H
    have c3b0 : (t110 == 0) = true := beq_iff_eq.mpr c3
    have c3b1 : (t110 != 0) = false := bne_eq_false_iff_eq.mpr c3
    clear c3
    by_cases c4 : (t109.length : Int) = 1
    · rw [if_pos c4] at H
      have c4b0 : ((t109.length : Int) == 1) = true := beq_iff_eq.mpr c4
      have c4b1 : ((t109.length : Int) != 1) = false := bne_eq_false_iff_eq.mpr c4
      clear c4
      by_cases c5 : 0 < (t109.length : Int)
      · rw [if_pos c5] at H
        have c5b0 : decide (0 < (t109.length : Int)) = true := decide_eq_true c5
        have c5b1 : decide (0 < t109.length) = true := decide_eq_true (by omega)
        clear c5
        by_cases c6 : ((rd_T98 t109 0).f0) = 1
        · rw [if_pos c6] at H
          have c6b0 : (((rd_T98 t109 0).f0) == 1) = true := beq_iff_eq.mpr c6
          have c6b1 : (((rd_T98 t109 0).f0) != 1) = false := bne_eq_false_iff_eq.mpr c6
          clear c6
          obtain rfl := Option.some.inj H
          go_enter Tryz.func65, Tryz.ntmps65
          go_wp2_with (first | ((with_reducible refine gate_callee (f := 94) rfl ?_); refine goesL_ (some 8) rfl rfl Tryz.func94 (by kernel_rfl) rfl #[.string a0] rfl (by (try simp only [List.map_toArray, List.map_cons, List.map_nil]); first | done | rfl | (simp only [List.length_drop, List.length_take]; rfl)) ?_; (with_reducible refine (lexer_Lex.calls a0 t109 t110 t111 _ A2.out).mono ?_); rintro e w7 ⟨v112, rfl, ho0, hb⟩; refine ⟨_, rfl, ?_⟩; have n0_ := Aside0.mk (Kd.R_lower ho0 (below_size (by repeat (first | (with_reducible first | exact HB.out | apply below_alloc | apply pw_below_drewN | apply below_drew1) | exact HB.out)))); have n1_ := Aside0.mk (below_step (by repeat (first | (with_reducible first | exact HB.out | apply below_alloc | apply pw_below_drewN | apply below_drew1) | exact HB.out)) hb); clear HB; have HO113 := n0_; have HB := n1_; clear n0_ n1_; (try clear hb); (try clear hb2); (try clear hk); (try clear hi); (try clear ho0); obtain ⟨Ao8, co8, eo8⟩ := Kd.R_slice HO113.out; subst eo8; have p114 : 0 ≤ (0 : Int) := (by omega); have q114 : 0 < (t109.length : Int) := of_decide_eq_true (by first | (with_reducible assumption) | assumption); obtain ⟨ad114, e114, hx114_0, hx114_1, hx114_2, hx114_3, hx114_4⟩ := at_T98 (Kd.R_reads' HO113.out).2.2 0 p114 q114; cases e114; have qi114 : (0 < t109.length) = True := eq_true (by omega); (try rw [show ((0 : Int)).toNat = 0 from rfl] at hx114_0); (try rw [show 0 * 5 = 0 from rfl] at hx114_0); (try rw [Addr.add_zero'] at hx114_0); (try rw [show ((0 : Int)).toNat = 0 from rfl] at hx114_1); (try rw [show 0 * 5 = 0 from rfl] at hx114_1); (try rw [Addr.add_zero'] at hx114_1); (try rw [show ((0 : Int)).toNat = 0 from rfl] at hx114_2); (try rw [show 0 * 5 = 0 from rfl] at hx114_2); (try rw [Addr.add_zero'] at hx114_2); (try rw [show ((0 : Int)).toNat = 0 from rfl] at hx114_3); (try rw [show 0 * 5 = 0 from rfl] at hx114_3); (try rw [Addr.add_zero'] at hx114_3); (try rw [show ((0 : Int)).toNat = 0 from rfl] at hx114_4); (try rw [show 0 * 5 = 0 from rfl] at hx114_4); (try rw [Addr.add_zero'] at hx114_4); replace p114 := eq_true p114; replace q114 := eq_true q114; have p115 : 0 ≤ (0 : Int) := (by omega); have q115 : 0 < (t109.length : Int) := of_decide_eq_true (by first | (with_reducible assumption) | assumption); obtain ⟨ad115, e115, hx115_0, hx115_1, hx115_2, hx115_3, hx115_4⟩ := at_T98 (Kd.R_reads' HO113.out).2.2 0 p115 q115; obtain rfl : ad114 = ad115 := (by injection e115); have qi115 : (0 < t109.length) = True := eq_true (by omega); (try rw [show ((0 : Int)).toNat = 0 from rfl] at hx115_0); (try rw [show 0 * 5 = 0 from rfl] at hx115_0); (try rw [Addr.add_zero'] at hx115_0); (try rw [show ((0 : Int)).toNat = 0 from rfl] at hx115_1); (try rw [show 0 * 5 = 0 from rfl] at hx115_1); (try rw [Addr.add_zero'] at hx115_1); (try rw [show ((0 : Int)).toNat = 0 from rfl] at hx115_2); (try rw [show 0 * 5 = 0 from rfl] at hx115_2); (try rw [Addr.add_zero'] at hx115_2); (try rw [show ((0 : Int)).toNat = 0 from rfl] at hx115_3); (try rw [show 0 * 5 = 0 from rfl] at hx115_3); (try rw [Addr.add_zero'] at hx115_3); (try rw [show ((0 : Int)).toNat = 0 from rfl] at hx115_4); (try rw [show 0 * 5 = 0 from rfl] at hx115_4); (try rw [Addr.add_zero'] at hx115_4); replace p115 := eq_true p115; replace q115 := eq_true q115))
          go_ret
          exact ⟨by first | rfl | (simp [errW_none, errW_some] <;> rfl) | (simp [*, errW_none, errW_some] <;> rfl), by repeat (first | (with_reducible first | exact HB.out | apply below_alloc | apply pw_below_drewN | apply below_drew1) | exact HB.out)⟩
        · rw [if_neg c6] at H
          have c6b0 : (((rd_T98 t109 0).f0) == 1) = false := beq_eq_false_iff_ne.mpr c6
          have c6b1 : (((rd_T98 t109 0).f0) != 1) = true := bne_iff_ne.mpr c6
          obtain rfl := Option.some.inj H
          go_enter Tryz.func65, Tryz.ntmps65
          go_wp2_with (first | ((with_reducible refine gate_callee (f := 94) rfl ?_); refine goesL_ (some 8) rfl rfl Tryz.func94 (by kernel_rfl) rfl #[.string a0] rfl (by (try simp only [List.map_toArray, List.map_cons, List.map_nil]); first | done | rfl | (simp only [List.length_drop, List.length_take]; rfl)) ?_; (with_reducible refine (lexer_Lex.calls a0 t109 t110 t111 _ A2.out).mono ?_); rintro e w9 ⟨v112, rfl, ho0, hb⟩; refine ⟨_, rfl, ?_⟩; have n0_ := Aside0.mk (Kd.R_lower ho0 (below_size (by repeat (first | (with_reducible first | exact HB.out | apply below_alloc | apply pw_below_drewN | apply below_drew1) | exact HB.out)))); have n1_ := Aside0.mk (below_step (by repeat (first | (with_reducible first | exact HB.out | apply below_alloc | apply pw_below_drewN | apply below_drew1) | exact HB.out)) hb); clear HB; have HO113 := n0_; have HB := n1_; clear n0_ n1_; (try clear hb); (try clear hb2); (try clear hk); (try clear hi); (try clear ho0); obtain ⟨Ao10, co10, eo10⟩ := Kd.R_slice HO113.out; subst eo10; have p114 : 0 ≤ (0 : Int) := (by omega); have q114 : 0 < (t109.length : Int) := of_decide_eq_true (by first | (with_reducible assumption) | assumption); obtain ⟨ad114, e114, hx114_0, hx114_1, hx114_2, hx114_3, hx114_4⟩ := at_T98 (Kd.R_reads' HO113.out).2.2 0 p114 q114; cases e114; have qi114 : (0 < t109.length) = True := eq_true (by omega); (try rw [show ((0 : Int)).toNat = 0 from rfl] at hx114_0); (try rw [show 0 * 5 = 0 from rfl] at hx114_0); (try rw [Addr.add_zero'] at hx114_0); (try rw [show ((0 : Int)).toNat = 0 from rfl] at hx114_1); (try rw [show 0 * 5 = 0 from rfl] at hx114_1); (try rw [Addr.add_zero'] at hx114_1); (try rw [show ((0 : Int)).toNat = 0 from rfl] at hx114_2); (try rw [show 0 * 5 = 0 from rfl] at hx114_2); (try rw [Addr.add_zero'] at hx114_2); (try rw [show ((0 : Int)).toNat = 0 from rfl] at hx114_3); (try rw [show 0 * 5 = 0 from rfl] at hx114_3); (try rw [Addr.add_zero'] at hx114_3); (try rw [show ((0 : Int)).toNat = 0 from rfl] at hx114_4); (try rw [show 0 * 5 = 0 from rfl] at hx114_4); (try rw [Addr.add_zero'] at hx114_4); replace p114 := eq_true p114; replace q114 := eq_true q114))
          go_ret
          exact ⟨by first | rfl | (simp [errW_none, errW_some] <;> rfl) | (simp [*, errW_none, errW_some] <;> rfl), by repeat (first | (with_reducible first | exact HB.out | apply below_alloc | apply pw_below_drewN | apply below_drew1) | exact HB.out)⟩
      · rw [if_neg c5] at H
        exact absurd H (by simp)
    · rw [if_neg c4] at H
      have c4b0 : ((t109.length : Int) == 1) = false := beq_eq_false_iff_ne.mpr c4
      have c4b1 : ((t109.length : Int) != 1) = true := bne_iff_ne.mpr c4
      obtain rfl := Option.some.inj H
      go_enter Tryz.func65, Tryz.ntmps65
      go_wp2_with (first | ((with_reducible refine gate_callee (f := 94) rfl ?_); refine goesL_ (some 8) rfl rfl Tryz.func94 (by kernel_rfl) rfl #[.string a0] rfl (by (try simp only [List.map_toArray, List.map_cons, List.map_nil]); first | done | rfl | (simp only [List.length_drop, List.length_take]; rfl)) ?_; (with_reducible refine (lexer_Lex.calls a0 t109 t110 t111 _ A2.out).mono ?_); rintro e w11 ⟨v112, rfl, ho0, hb⟩; refine ⟨_, rfl, ?_⟩; have n0_ := Aside0.mk (Kd.R_lower ho0 (below_size (by repeat (first | (with_reducible first | exact HB.out | apply below_alloc | apply pw_below_drewN | apply below_drew1) | exact HB.out)))); have n1_ := Aside0.mk (below_step (by repeat (first | (with_reducible first | exact HB.out | apply below_alloc | apply pw_below_drewN | apply below_drew1) | exact HB.out)) hb); clear HB; have HO113 := n0_; have HB := n1_; clear n0_ n1_; (try clear hb); (try clear hb2); (try clear hk); (try clear hi); (try clear ho0); obtain ⟨Ao12, co12, eo12⟩ := Kd.R_slice HO113.out; subst eo12))
      go_ret
      exact ⟨by first | rfl | (simp [errW_none, errW_some] <;> rfl) | (simp [*, errW_none, errW_some] <;> rfl), by repeat (first | (with_reducible first | exact HB.out | apply below_alloc | apply pw_below_drewN | apply below_drew1) | exact HB.out)⟩
  · rw [if_neg c3] at H
    have c3b0 : (t110 == 0) = false := beq_eq_false_iff_ne.mpr c3
    have c3b1 : (t110 != 0) = true := bne_iff_ne.mpr c3
    obtain rfl := Option.some.inj H
    go_enter Tryz.func65, Tryz.ntmps65
    go_wp2_with (first | ((with_reducible refine gate_callee (f := 94) rfl ?_); refine goesL_ (some 8) rfl rfl Tryz.func94 (by kernel_rfl) rfl #[.string a0] rfl (by (try simp only [List.map_toArray, List.map_cons, List.map_nil]); first | done | rfl | (simp only [List.length_drop, List.length_take]; rfl)) ?_; (with_reducible refine (lexer_Lex.calls a0 t109 t110 t111 _ A2.out).mono ?_); rintro e w13 ⟨v112, rfl, ho0, hb⟩; refine ⟨_, rfl, ?_⟩; have n0_ := Aside0.mk (Kd.R_lower ho0 (below_size (by repeat (first | (with_reducible first | exact HB.out | apply below_alloc | apply pw_below_drewN | apply below_drew1) | exact HB.out)))); have n1_ := Aside0.mk (below_step (by repeat (first | (with_reducible first | exact HB.out | apply below_alloc | apply pw_below_drewN | apply below_drew1) | exact HB.out)) hb); clear HB; have HO113 := n0_; have HB := n1_; clear n0_ n1_; (try clear hb); (try clear hb2); (try clear hk); (try clear hi); (try clear ho0)))
    go_ret
    exact ⟨by first | rfl | (simp [errW_none, errW_some] <;> rfl) | (simp [*, errW_none, errW_some] <;> rfl), by repeat (first | (with_reducible first | exact HB.out | apply below_alloc | apply pw_below_drewN | apply below_drew1) | exact HB.out)⟩

/-! ### facts_isDay: function 66 -/
def facts_isDay.f (a0 : Int) : Option (Bool) := if 0 ≤ a0 then (some (decide (a0 ≤ 36524))) else (some false)
set_option maxHeartbeats 8000000 in
set_option maxRecDepth 100000 in
theorem facts_isDay.calls (a0 : Int) (r : Bool) (w : World) (h : facts_isDay.f a0 = some r) :
    Calls Tryz.prog 66 #[.int .i64 a0] w fun e w' => e = .returned (.bool r) ∧ Drawn0 w w' := by
  have H : (if 0 ≤ a0 then (some (decide (a0 ≤ 36524))) else (some false)) = some r := h
  clear h
  by_cases c2 : 0 ≤ a0
  · rw [if_pos c2] at H
    have c2b0 : decide (0 ≤ a0) = true := decide_eq_true c2
    clear c2
    obtain rfl := Option.some.inj H
    go_enter Tryz.func66, Tryz.ntmps66
    go_wp2
    go_ret
    exact ⟨by first | rfl | (simp; done) | (simp [*]; done), by repeat (first | exact Drawn0.refl _ | apply Drawn0.step)⟩
  · rw [if_neg c2] at H
    have c2b0 : decide (0 ≤ a0) = false := decide_eq_false c2
    clear c2
    obtain rfl := Option.some.inj H
    go_enter Tryz.func66, Tryz.ntmps66
    go_wp2
    go_ret
    exact ⟨by first | rfl | (simp; done) | (simp [*]; done), by repeat (first | exact Drawn0.refl _ | apply Drawn0.step)⟩

/-! ### facts_right: function 34 -/
def facts_right.j0 : Nat → Bool → Int → ByteArray → Int → Int → Int → Int → Bool → Option (Bool)
  | 0, _, _, _, _, _, _, _, _ => none
  | k + 1, x19, x117000, x117001, x117002, x117003, x117004, x117005, x117006 => if x19 = true then (some false) else ((facts_isHome.f x117000).bind fun t117 => (if t117 = true then ((facts_isName.f x117001).bind fun t118 => (if t118 = true then ((facts_isDay.f x117005).bind fun t119 => (if t119 = true then ((span_Valid.f k (([(⟨x117003, x117004⟩ : S24)] : List (S24)))).bind fun t123 => (some t123)) else (some false))) else (some false))) else (some false)))
def facts_right.f (k : Nat) (a0_0 : Int) (a0_1 : ByteArray) (a0_2 : Int) (a0_3 : Int) (a0_4 : Int) (a0_5 : Int) (a0_6 : Bool) : Option (Bool) := if a0_2 < 0 then (facts_right.j0 k true a0_0 a0_1 a0_2 a0_3 a0_4 a0_5 a0_6) else (if a0_2 > 1000000 then (facts_right.j0 k true a0_0 a0_1 a0_2 a0_3 a0_4 a0_5 a0_6) else (if a0_6 = true then (facts_right.j0 k (a0_2 != 0) a0_0 a0_1 a0_2 a0_3 a0_4 a0_5 a0_6) else (facts_right.j0 k false a0_0 a0_1 a0_2 a0_3 a0_4 a0_5 a0_6)))
theorem facts_right.mono_l : ∀ k, (∀ y0 y1 y2 y3 y4 y5 y6 y7, LeO (facts_right.j0 k y0 y1 y2 y3 y4 y5 y6 y7) (facts_right.j0 (k + 1) y0 y1 y2 y3 y4 y5 y6 y7))
  | 0 => fun _ _ _ _ _ _ _ _ r h => by simp [facts_right.j0] at h
  | k + 1 => by
    have ih0 := facts_right.mono_l k
    · intro y0 y1 y2 y3 y4 y5 y6 y7
      unfold facts_right.j0
      repeat' first
      | (with_reducible exact ih0 _ _ _ _ _ _ _ _)
      | (with_reducible exact span_Valid.mono _ _)
      | (with_reducible exact LeO.refl _)
      | (with_reducible exact LeO.none _)
      | (with_reducible refine LeO.ite ?_ ?_)
      | (with_reducible refine LeO.bind ?_ (fun _ => ?_))
      | exact ih0 _ _ _ _ _ _ _ _
      | exact span_Valid.mono _ _
      | exact LeO.none _
      | refine LeO.ite ?_ ?_
      | refine LeO.bind ?_ (fun _ => ?_)
theorem facts_right.mono : ∀ a0 a1 a2 a3 a4 a5 a6 k, LeO (facts_right.f k a0 a1 a2 a3 a4 a5 a6) (facts_right.f (k + 1) a0 a1 a2 a3 a4 a5 a6) := by
  intro a0 a1 a2 a3 a4 a5 a6 k
  have ih0 := facts_right.mono_l k
  unfold facts_right.f
  repeat' first
      | (with_reducible exact ih0 _ _ _ _ _ _ _ _)
      | (with_reducible exact span_Valid.mono _ _)
      | (with_reducible exact LeO.refl _)
      | (with_reducible exact LeO.none _)
      | (with_reducible refine LeO.ite ?_ ?_)
      | (with_reducible refine LeO.bind ?_ (fun _ => ?_))
      | exact ih0 _ _ _ _ _ _ _ _
      | exact span_Valid.mono _ _
      | exact LeO.none _
      | refine LeO.ite ?_ ?_
      | refine LeO.bind ?_ (fun _ => ?_)
set_option maxHeartbeats 8000000 in
set_option maxRecDepth 100000 in
theorem facts_right.calls (k : Nat) (a0_0 : Int) (a0_1 : ByteArray) (a0_2 : Int) (a0_3 : Int) (a0_4 : Int) (a0_5 : Int) (a0_6 : Bool) (r : Bool) (w : World) (h : facts_right.f k a0_0 a0_1 a0_2 a0_3 a0_4 a0_5 a0_6 = some r) :
    Calls Tryz.prog 34 #[.agg #[.int .i64 a0_0, .string a0_1, .int .i64 a0_2, .int .i64 a0_3, .int .i64 a0_4, .int .i64 a0_5, .bool a0_6]] w fun e w' => e = .returned (.bool r) ∧ Below w.heap.size w w' := by
  have hu26 := Tryz.underlying26
  have hu24 := Tryz.underlying24
  have HB := Aside0.mk (Below.refl w.heap.size w)
  have H : (if a0_2 < 0 then (facts_right.j0 k true a0_0 a0_1 a0_2 a0_3 a0_4 a0_5 a0_6) else (if a0_2 > 1000000 then (facts_right.j0 k true a0_0 a0_1 a0_2 a0_3 a0_4 a0_5 a0_6) else (if a0_6 = true then (facts_right.j0 k (a0_2 != 0) a0_0 a0_1 a0_2 a0_3 a0_4 a0_5 a0_6) else (facts_right.j0 k false a0_0 a0_1 a0_2 a0_3 a0_4 a0_5 a0_6)))) = some r := h
  clear h
  have HC2 := Aside0.mk H
  clear H
  go_enter Tryz.func34, Tryz.ntmps34
  go_upto_region 1 with (first | ((with_reducible refine gate_dst (N := 1) rfl ?_); (try (refine gate_guard (by rfl) ?_; dsimp only)); refine box_event ?hg (N := 1) ?hd (cs := #[.int .i64 a0_0, .string a0_1, .int .i64 a0_2, .int .i64 a0_3, .int .i64 a0_4, .int .i64 a0_5, .bool a0_6]) (t := 26) ?hr ?_; (case hd => rfl); (case hg => rfl); (case hr => first | (go_simp; done) | (go_simp; rfl)); intro gb116 hg w3 hbox hb; have n0_ := Aside0.mk (below_step (by repeat (first | (with_reducible first | exact HB.out | apply below_alloc | apply pw_below_drewN | apply below_drew1) | exact HB.out)) hb); have n1_ := Aside0.mk (hbox); have n2_ := Aside0.mk ((by rw [hg]; exact (below_size (by repeat (first | (with_reducible first | exact HB.out | apply below_alloc | apply pw_below_drewN | apply below_drew1) | exact HB.out))) : w.heap.size ≤ gb116)); have n3_ := Aside0.mk ((by rw [hg]; exact (below_size (by repeat (first | (with_reducible first | exact HB.out | apply below_alloc | apply pw_below_drewN | apply below_drew1) | exact HB.out))) : w.heap.size ≤ gb116)); clear HB; have HB := n0_; have BK116 := n1_; have GW116 := n2_; have GE116 := n3_; clear n0_ n1_ n2_ n3_; clear hb hbox hg))
  (try simp only [Act.put, List.setIfInBounds_toArray, List.set_cons_zero, List.set_cons_succ])
  go_cut [19] (fun v19 wc => ∃ (kq : Nat) (x19_1 : Bool), v19 = .bool x19_1 ∧ Aside0 (facts_right.j0 kq x19_1 a0_0 a0_1 a0_2 a0_3 a0_4 a0_5 a0_6 = some r) ∧ Aside0 (kq ≤ k) ∧ Aside0 (wc.heap[gb116]? = some (.cells #[.int .i64 a0_0, .string a0_1, .int .i64 a0_2, .int .i64 a0_3, .int .i64 a0_4, .int .i64 a0_5, .bool a0_6] 26 (0, 0))) ∧ Aside0 (Below w.heap.size w wc))
  case first =>
    have H := HC2.out
    clear HC2
    by_cases c4 : a0_2 < 0
    · rw [if_pos c4] at H
      have c4b0 : decide (a0_2 < 0) = true := decide_eq_true c4
      clear c4
      (first | rw [c4b0] | (simp only [i64_w, i32_w]; rw [c4b0]) | skip)
      have H' := Aside0.mk H
      clear H
      have hcz5_0 : w3.cell? ⟨gb116, 0, none⟩ = some (.int .i64 a0_0) := (blk_cell BK116.out 0).trans rfl
      have hcz5_1 : w3.cell? ⟨gb116, 1, none⟩ = some (.string a0_1) := (blk_cell BK116.out 1).trans rfl
      have hcz5_2 : w3.cell? ⟨gb116, 2, none⟩ = some (.int .i64 a0_2) := (blk_cell BK116.out 2).trans rfl
      have hcz5_3 : w3.cell? ⟨gb116, 3, none⟩ = some (.int .i64 a0_3) := (blk_cell BK116.out 3).trans rfl
      have hcz5_4 : w3.cell? ⟨gb116, 4, none⟩ = some (.int .i64 a0_4) := (blk_cell BK116.out 4).trans rfl
      have hcz5_5 : w3.cell? ⟨gb116, 5, none⟩ = some (.int .i64 a0_5) := (blk_cell BK116.out 5).trans rfl
      have hcz5_6 : w3.cell? ⟨gb116, 6, none⟩ = some (.bool a0_6) := (blk_cell BK116.out 6).trans rfl
      have hfz5_0 := blk_frozen BK116.out 0
      have hfz5_1 := blk_frozen BK116.out 1
      have hfz5_2 := blk_frozen BK116.out 2
      have hfz5_3 := blk_frozen BK116.out 3
      have hfz5_4 := blk_frozen BK116.out 4
      have hfz5_5 := blk_frozen BK116.out 5
      have hfz5_6 := blk_frozen BK116.out 6
      go_wp2
      go_meet
      case rel => exact ⟨_, (true), (by first | rfl | (simp; done) | (simp [*]; done)), H', ⟨by first | omega | exact Nat.le_refl _⟩, ⟨by (with_reducible repeat (first | refine blk_drewN ?_ _ | refine blk_drew ?_ | refine blk_alloc ?_ _)); exact BK116.out⟩, ⟨by repeat (first | (with_reducible first | exact HB.out | apply below_alloc | apply pw_below_drewN | apply below_drew1 | refine below_set ?_ GE116.out) | exact HB.out)⟩⟩
    · rw [if_neg c4] at H
      have c4b0 : decide (a0_2 < 0) = false := decide_eq_false c4
      clear c4
      (first | rw [c4b0] | (simp only [i64_w, i32_w]; rw [c4b0]) | skip)
      by_cases c6 : a0_2 > 1000000
      · rw [if_pos c6] at H
        have c6b0 : decide (1000000 < a0_2) = true := decide_eq_true c6
        clear c6
        have H' := Aside0.mk H
        clear H
        have hcz7_0 : w3.cell? ⟨gb116, 0, none⟩ = some (.int .i64 a0_0) := (blk_cell BK116.out 0).trans rfl
        have hcz7_1 : w3.cell? ⟨gb116, 1, none⟩ = some (.string a0_1) := (blk_cell BK116.out 1).trans rfl
        have hcz7_2 : w3.cell? ⟨gb116, 2, none⟩ = some (.int .i64 a0_2) := (blk_cell BK116.out 2).trans rfl
        have hcz7_3 : w3.cell? ⟨gb116, 3, none⟩ = some (.int .i64 a0_3) := (blk_cell BK116.out 3).trans rfl
        have hcz7_4 : w3.cell? ⟨gb116, 4, none⟩ = some (.int .i64 a0_4) := (blk_cell BK116.out 4).trans rfl
        have hcz7_5 : w3.cell? ⟨gb116, 5, none⟩ = some (.int .i64 a0_5) := (blk_cell BK116.out 5).trans rfl
        have hcz7_6 : w3.cell? ⟨gb116, 6, none⟩ = some (.bool a0_6) := (blk_cell BK116.out 6).trans rfl
        have hfz7_0 := blk_frozen BK116.out 0
        have hfz7_1 := blk_frozen BK116.out 1
        have hfz7_2 := blk_frozen BK116.out 2
        have hfz7_3 := blk_frozen BK116.out 3
        have hfz7_4 := blk_frozen BK116.out 4
        have hfz7_5 := blk_frozen BK116.out 5
        have hfz7_6 := blk_frozen BK116.out 6
        go_wp2
        go_meet
        case rel => exact ⟨_, (true), (by first | rfl | (simp; done) | (simp [*]; done)), H', ⟨by first | omega | exact Nat.le_refl _⟩, ⟨by (with_reducible repeat (first | refine blk_drewN ?_ _ | refine blk_drew ?_ | refine blk_alloc ?_ _)); exact BK116.out⟩, ⟨by repeat (first | (with_reducible first | exact HB.out | apply below_alloc | apply pw_below_drewN | apply below_drew1 | refine below_set ?_ GE116.out) | exact HB.out)⟩⟩
      · rw [if_neg c6] at H
        have c6b0 : decide (1000000 < a0_2) = false := decide_eq_false c6
        clear c6
        by_cases c8 : a0_6 = true
        · subst c8
          have H1 : (facts_right.j0 k (a0_2 != 0) a0_0 a0_1 a0_2 a0_3 a0_4 a0_5 true) = some r := by rw [if_pos rfl] at H; exact H
          clear H
          have H := H1
          clear H1
          have H' := Aside0.mk H
          clear H
          have hcz9_0 : w3.cell? ⟨gb116, 0, none⟩ = some (.int .i64 a0_0) := (blk_cell BK116.out 0).trans rfl
          have hcz9_1 : w3.cell? ⟨gb116, 1, none⟩ = some (.string a0_1) := (blk_cell BK116.out 1).trans rfl
          have hcz9_2 : w3.cell? ⟨gb116, 2, none⟩ = some (.int .i64 a0_2) := (blk_cell BK116.out 2).trans rfl
          have hcz9_3 : w3.cell? ⟨gb116, 3, none⟩ = some (.int .i64 a0_3) := (blk_cell BK116.out 3).trans rfl
          have hcz9_4 : w3.cell? ⟨gb116, 4, none⟩ = some (.int .i64 a0_4) := (blk_cell BK116.out 4).trans rfl
          have hcz9_5 : w3.cell? ⟨gb116, 5, none⟩ = some (.int .i64 a0_5) := (blk_cell BK116.out 5).trans rfl
          have hcz9_6 : w3.cell? ⟨gb116, 6, none⟩ = some (.bool true) := (blk_cell BK116.out 6).trans rfl
          have hfz9_0 := blk_frozen BK116.out 0
          have hfz9_1 := blk_frozen BK116.out 1
          have hfz9_2 := blk_frozen BK116.out 2
          have hfz9_3 := blk_frozen BK116.out 3
          have hfz9_4 := blk_frozen BK116.out 4
          have hfz9_5 := blk_frozen BK116.out 5
          have hfz9_6 := blk_frozen BK116.out 6
          go_wp2
          go_meet
          case rel => exact ⟨_, ((a0_2 != 0)), (by first | rfl | (simp; done) | (simp [*]; done)), H', ⟨by first | omega | exact Nat.le_refl _⟩, ⟨by (with_reducible repeat (first | refine blk_drewN ?_ _ | refine blk_drew ?_ | refine blk_alloc ?_ _)); exact BK116.out⟩, ⟨by repeat (first | (with_reducible first | exact HB.out | apply below_alloc | apply pw_below_drewN | apply below_drew1 | refine below_set ?_ GE116.out) | exact HB.out)⟩⟩
        · replace c8 := Bool.eq_false_iff.mpr c8
          subst c8
          have H1 : (facts_right.j0 k false a0_0 a0_1 a0_2 a0_3 a0_4 a0_5 false) = some r := by rw [if_neg (show ¬ (false = true) by decide)] at H; exact H
          clear H
          have H := H1
          clear H1
          have H' := Aside0.mk H
          clear H
          have hcz10_0 : w3.cell? ⟨gb116, 0, none⟩ = some (.int .i64 a0_0) := (blk_cell BK116.out 0).trans rfl
          have hcz10_1 : w3.cell? ⟨gb116, 1, none⟩ = some (.string a0_1) := (blk_cell BK116.out 1).trans rfl
          have hcz10_2 : w3.cell? ⟨gb116, 2, none⟩ = some (.int .i64 a0_2) := (blk_cell BK116.out 2).trans rfl
          have hcz10_3 : w3.cell? ⟨gb116, 3, none⟩ = some (.int .i64 a0_3) := (blk_cell BK116.out 3).trans rfl
          have hcz10_4 : w3.cell? ⟨gb116, 4, none⟩ = some (.int .i64 a0_4) := (blk_cell BK116.out 4).trans rfl
          have hcz10_5 : w3.cell? ⟨gb116, 5, none⟩ = some (.int .i64 a0_5) := (blk_cell BK116.out 5).trans rfl
          have hcz10_6 : w3.cell? ⟨gb116, 6, none⟩ = some (.bool false) := (blk_cell BK116.out 6).trans rfl
          have hfz10_0 := blk_frozen BK116.out 0
          have hfz10_1 := blk_frozen BK116.out 1
          have hfz10_2 := blk_frozen BK116.out 2
          have hfz10_3 := blk_frozen BK116.out 3
          have hfz10_4 := blk_frozen BK116.out 4
          have hfz10_5 := blk_frozen BK116.out 5
          have hfz10_6 := blk_frozen BK116.out 6
          go_wp2
          go_meet
          case rel => exact ⟨_, (false), (by first | rfl | (simp; done) | (simp [*]; done)), H', ⟨by first | omega | exact Nat.le_refl _⟩, ⟨by (with_reducible repeat (first | refine blk_drewN ?_ _ | refine blk_drew ?_ | refine blk_alloc ?_ _)); exact BK116.out⟩, ⟨by repeat (first | (with_reducible first | exact HB.out | apply below_alloc | apply pw_below_drewN | apply below_drew1 | refine below_set ?_ GE116.out) | exact HB.out)⟩⟩
  case rest =>
    clear HC2
    try clear p2
    try clear c3
    try clear c4
    try clear c4b0
    try clear c6
    try clear c6b0
    try clear c8
    try clear hcz10_0
    try clear hcz10_1
    try clear hcz10_2
    try clear hcz10_3
    try clear hcz10_4
    try clear hcz10_5
    try clear hcz10_6
    try clear hcz5_0
    try clear hcz5_1
    try clear hcz5_2
    try clear hcz5_3
    try clear hcz5_4
    try clear hcz5_5
    try clear hcz5_6
    try clear hcz7_0
    try clear hcz7_1
    try clear hcz7_2
    try clear hcz7_3
    try clear hcz7_4
    try clear hcz7_5
    try clear hcz7_6
    try clear hcz9_0
    try clear hcz9_1
    try clear hcz9_2
    try clear hcz9_3
    try clear hcz9_4
    try clear hcz9_5
    try clear hcz9_6
    try clear hfz10_0
    try clear hfz10_1
    try clear hfz10_2
    try clear hfz10_3
    try clear hfz10_4
    try clear hfz10_5
    try clear hfz10_6
    try clear hfz5_0
    try clear hfz5_1
    try clear hfz5_2
    try clear hfz5_3
    try clear hfz5_4
    try clear hfz5_5
    try clear hfz5_6
    try clear hfz7_0
    try clear hfz7_1
    try clear hfz7_2
    try clear hfz7_3
    try clear hfz7_4
    try clear hfz7_5
    try clear hfz7_6
    try clear hfz9_0
    try clear hfz9_1
    try clear hfz9_2
    try clear hfz9_3
    try clear hfz9_4
    try clear hfz9_5
    try clear hfz9_6
    obtain ⟨kq, x19_1, rfl, HA, HJ1, BK116, HB⟩ := hcut
    cases kq with
    | zero => exact absurd HA.out (by simp [facts_right.j0])
    | succ kj1 =>
      have H := HA.out
      clear HA
      simp only [facts_right.j0] at H
      by_cases c11 : x19_1 = true
      · subst c11
        have H1 : (some false) = some r := by rw [if_pos rfl] at H; exact H
        clear H
        have H := H1
        clear H1
        obtain rfl := Option.some.inj H
        go_wp2
        go_ret
        exact ⟨by first | rfl | (simp [errW_none, errW_some] <;> rfl) | (simp [*, errW_none, errW_some] <;> rfl), by repeat (first | (with_reducible first | exact HB.out | apply below_alloc | apply pw_below_drewN | apply below_drew1 | refine below_set ?_ GE116.out) | exact HB.out)⟩
      · replace c11 := Bool.eq_false_iff.mpr c11
        subst c11
        have H1 : ((facts_isHome.f a0_0).bind fun t117 => (if t117 = true then ((facts_isName.f a0_1).bind fun t118 => (if t118 = true then ((facts_isDay.f a0_5).bind fun t119 => (if t119 = true then ((span_Valid.f kj1 (([(⟨a0_3, a0_4⟩ : S24)] : List (S24)))).bind fun t123 => (some t123)) else (some false))) else (some false))) else (some false))) = some r := by rw [if_neg (show ¬ (false = true) by decide)] at H; exact H
        clear H
        have H := H1
        clear H1
        replace H := Option.bind_eq_some_iff.mp H
        obtain ⟨t117, A120, H⟩ := H
        replace H : (if t117 = true then ((facts_isName.f a0_1).bind fun t118 => (if t118 = true then ((facts_isDay.f a0_5).bind fun t119 => (if t119 = true then ((span_Valid.f kj1 (([(⟨a0_3, a0_4⟩ : S24)] : List (S24)))).bind fun t123 => (some t123)) else (some false))) else (some false))) else (some false)) = some r := H
        have A12 := Aside0.mk A120
        clear A120
        by_cases c13 : t117 = true
        · subst c13
          have H1 : ((facts_isName.f a0_1).bind fun t118 => (if t118 = true then ((facts_isDay.f a0_5).bind fun t119 => (if t119 = true then ((span_Valid.f kj1 (([(⟨a0_3, a0_4⟩ : S24)] : List (S24)))).bind fun t123 => (some t123)) else (some false))) else (some false))) = some r := by rw [if_pos rfl] at H; exact H
          clear H
          have H := H1
          clear H1
          replace H := Option.bind_eq_some_iff.mp H
          obtain ⟨t118, A140, H⟩ := H
          replace H : (if t118 = true then ((facts_isDay.f a0_5).bind fun t119 => (if t119 = true then ((span_Valid.f kj1 (([(⟨a0_3, a0_4⟩ : S24)] : List (S24)))).bind fun t123 => (some t123)) else (some false))) else (some false)) = some r := H
          have A14 := Aside0.mk A140
          clear A140
          by_cases c15 : t118 = true
          · subst c15
            have H1 : ((facts_isDay.f a0_5).bind fun t119 => (if t119 = true then ((span_Valid.f kj1 (([(⟨a0_3, a0_4⟩ : S24)] : List (S24)))).bind fun t123 => (some t123)) else (some false))) = some r := by rw [if_pos rfl] at H; exact H
            clear H
            have H := H1
            clear H1
            replace H := Option.bind_eq_some_iff.mp H
            obtain ⟨t119, A160, H⟩ := H
            replace H : (if t119 = true then ((span_Valid.f kj1 (([(⟨a0_3, a0_4⟩ : S24)] : List (S24)))).bind fun t123 => (some t123)) else (some false)) = some r := H
            have A16 := Aside0.mk A160
            clear A160
            by_cases c17 : t119 = true
            · subst c17
              have H1 : ((span_Valid.f kj1 (([(⟨a0_3, a0_4⟩ : S24)] : List (S24)))).bind fun t123 => (some t123)) = some r := by rw [if_pos rfl] at H; exact H
              clear H
              have H := H1
              clear H1
              obtain ⟨y120, hy120⟩ : ∃ y_ : List (S24), y_ = (([(⟨a0_3, a0_4⟩ : S24)] : List (S24))) := ⟨_, rfl⟩
              replace H : ((span_Valid.f kj1 y120).bind fun t123 => (some t123)) = some r := by first | (rw [hy120]; with_reducible exact H) | (have H2_ := (Option.bind_some _ _).symm.trans H; rw [hy120]; with_reducible exact H2_) | (have H2_ := (Option.bind_some _ _).symm.trans H; with_reducible exact H2_) | with_reducible exact H | (rw [hy120]; exact H) | exact H
              have Ny120 := Aside0.mk hy120
              clear hy120
              replace H := Option.bind_eq_some_iff.mp H
              obtain ⟨t123, A180, H⟩ := H
              replace H : (some t123) = some r := H
              have A18 := Aside0.mk A180
              clear A180
              obtain rfl := Option.some.inj H
              have hcz19_0 : wc.cell? ⟨gb116, 0, none⟩ = some (.int .i64 a0_0) := (blk_cell BK116.out 0).trans rfl
              have hcz19_1 : wc.cell? ⟨gb116, 1, none⟩ = some (.string a0_1) := (blk_cell BK116.out 1).trans rfl
              have hcz19_2 : wc.cell? ⟨gb116, 2, none⟩ = some (.int .i64 a0_2) := (blk_cell BK116.out 2).trans rfl
              have hcz19_3 : wc.cell? ⟨gb116, 3, none⟩ = some (.int .i64 a0_3) := (blk_cell BK116.out 3).trans rfl
              have hcz19_4 : wc.cell? ⟨gb116, 4, none⟩ = some (.int .i64 a0_4) := (blk_cell BK116.out 4).trans rfl
              have hcz19_5 : wc.cell? ⟨gb116, 5, none⟩ = some (.int .i64 a0_5) := (blk_cell BK116.out 5).trans rfl
              have hcz19_6 : wc.cell? ⟨gb116, 6, none⟩ = some (.bool a0_6) := (blk_cell BK116.out 6).trans rfl
              have hfz19_0 := blk_frozen BK116.out 0
              have hfz19_1 := blk_frozen BK116.out 1
              have hfz19_2 := blk_frozen BK116.out 2
              have hfz19_3 := blk_frozen BK116.out 3
              have hfz19_4 := blk_frozen BK116.out 4
              have hfz19_5 := blk_frozen BK116.out 5
              have hfz19_6 := blk_frozen BK116.out 6
              go_wp2_with (first | ((with_reducible refine gate_callee (f := 64) rfl ?_); refine goesL_ (some 22) rfl rfl Tryz.func64 (by kernel_rfl) rfl #[.int .i64 a0_0] rfl (by (try simp only [List.map_toArray, List.map_cons, List.map_nil]); first | done | rfl | (simp only [List.length_drop, List.length_take]; rfl)) ?_; (with_reducible refine (facts_isHome.calls a0_0 true _ A12.out).mono ?_); rintro e w' ⟨rfl, ⟨nd, rfl⟩⟩; refine ⟨_, rfl, ?_⟩) | (go_at_call 65; (with_reducible refine (facts_isName.calls a0_1 true _ A14.out).mono ?_); rintro e w20 ⟨rfl, hb⟩; have n0_ := Aside0.mk (blk_below (g := gb116) (o := .cells #[.int .i64 a0_0, .string a0_1, .int .i64 a0_2, .int .i64 a0_3, .int .i64 a0_4, .int .i64 a0_5, .bool a0_6] 26 (0, 0)) (by (with_reducible repeat (first | refine blk_drewN ?_ _ | refine blk_drew ?_ | refine blk_alloc ?_ _)); exact BK116.out) hb); have n1_ := Aside0.mk (below_step (by repeat (first | (with_reducible first | exact HB.out | apply below_alloc | apply pw_below_drewN | apply below_drew1 | refine below_set ?_ GE116.out) | exact HB.out)) hb); clear BK116; clear HB; have BK116 := n0_; have HB := n1_; clear n0_ n1_; (try clear hb); (try clear hb2); (try clear hk); (try clear hi); have hcz21_0 : w20.cell? ⟨gb116, 0, none⟩ = some (.int .i64 a0_0) := (blk_cell BK116.out 0).trans rfl; have hcz21_1 : w20.cell? ⟨gb116, 1, none⟩ = some (.string a0_1) := (blk_cell BK116.out 1).trans rfl; have hcz21_2 : w20.cell? ⟨gb116, 2, none⟩ = some (.int .i64 a0_2) := (blk_cell BK116.out 2).trans rfl; have hcz21_3 : w20.cell? ⟨gb116, 3, none⟩ = some (.int .i64 a0_3) := (blk_cell BK116.out 3).trans rfl; have hcz21_4 : w20.cell? ⟨gb116, 4, none⟩ = some (.int .i64 a0_4) := (blk_cell BK116.out 4).trans rfl; have hcz21_5 : w20.cell? ⟨gb116, 5, none⟩ = some (.int .i64 a0_5) := (blk_cell BK116.out 5).trans rfl; have hcz21_6 : w20.cell? ⟨gb116, 6, none⟩ = some (.bool a0_6) := (blk_cell BK116.out 6).trans rfl; have hfz21_0 := blk_frozen BK116.out 0; have hfz21_1 := blk_frozen BK116.out 1; have hfz21_2 := blk_frozen BK116.out 2; have hfz21_3 := blk_frozen BK116.out 3; have hfz21_4 := blk_frozen BK116.out 4; have hfz21_5 := blk_frozen BK116.out 5; have hfz21_6 := blk_frozen BK116.out 6) | (go_at_call 66; (with_reducible refine (facts_isDay.calls a0_5 true _ A16.out).mono ?_); rintro e w' ⟨rfl, ⟨nd, rfl⟩⟩) | ((with_reducible refine gate_dst (N := 36) rfl ?_); (try (refine gate_guard (by rfl) ?_; dsimp only)); refine Kd.R_lit k24 _ 24 ?hg (N := 36) ?hd (xs := ([(⟨a0_3, a0_4⟩ : S24)] : List (S24))) (inner := [.int .i64 a0_3, .int .i64 a0_4]) (ok := fun _ => True) (okp := fun _ => True) ?hr ?hp (fun _ hk => hk) trivial (Below.refl _ _) (Nat.le_refl _) (by simp) ?_; (case hd => rfl); (case hg => rfl); (case hr => first | (go_simp; done) | (go_simp; rfl)); (case hp => exact (Reps.c2 (show Kd.M k24 _ _ _ (⟨a0_3, a0_4⟩ : S24) [.int .i64 a0_3, .int .i64 a0_4] from (k24_mkM _ _ _ (⟨a0_3, a0_4⟩ : S24) )) (Reps.none _ _))); intro v121 w22 ho23 hb hg_ hnew_; clear hg_ hnew_; (first | rw [← Ny120.out] at ho23 | (simp only [Int.reduceToNat] at ho23; rw [← Ny120.out] at ho23)); have n0_ := Aside0.mk (Kd.R_lower ho23 (below_size (by repeat (first | (with_reducible first | exact HB.out | apply below_alloc | apply pw_below_drewN | apply below_drew1 | refine below_set ?_ GE116.out) | exact HB.out)))); have n1_ := Aside0.mk (blk_below (g := gb116) (o := .cells #[.int .i64 a0_0, .string a0_1, .int .i64 a0_2, .int .i64 a0_3, .int .i64 a0_4, .int .i64 a0_5, .bool a0_6] 26 (0, 0)) (by (with_reducible repeat (first | refine blk_drewN ?_ _ | refine blk_drew ?_ | refine blk_alloc ?_ _)); exact BK116.out) hb); have n2_ := Aside0.mk (below_step (by repeat (first | (with_reducible first | exact HB.out | apply below_alloc | apply pw_below_drewN | apply below_drew1 | refine below_set ?_ GE116.out) | exact HB.out)) hb); clear BK116; clear HB; have HO122 := n0_; have BK116 := n1_; have HB := n2_; clear n0_ n1_ n2_; clear hb ho23; obtain ⟨Ao24, co24, eo24⟩ := Kd.R_slice HO122.out; subst eo24) | (go_at_call 16; (with_reducible refine (span_Valid.calls kj1 _ _ y120 t123 _ ?side1 ?side2 A18.out).mono ?_); (case side1 => repeat (first | exact (Kd.R_reads' HO122.out).2.2 | (with_reducible refine Kd.C_alloc ?_ _) | (with_reducible refine Kd.C_drewN ?_ _) | (with_reducible refine Kd.C_drew ?_))); (case side2 => exact (Kd.R_reads' HO122.out).2.1); rintro e w25 ⟨rfl, hb⟩; have n0_ := Aside0.mk (Kd.R_below (by (with_reducible repeat (first | apply Kd.R_alloc | apply Kd.R_drewN | apply Kd.R_drew)); exact HO122.out) hb); have n1_ := Aside0.mk (blk_below (g := gb116) (o := .cells #[.int .i64 a0_0, .string a0_1, .int .i64 a0_2, .int .i64 a0_3, .int .i64 a0_4, .int .i64 a0_5, .bool a0_6] 26 (0, 0)) (by (with_reducible repeat (first | refine blk_drewN ?_ _ | refine blk_drew ?_ | refine blk_alloc ?_ _)); exact BK116.out) hb); have n2_ := Aside0.mk (below_step (by repeat (first | (with_reducible first | exact HB.out | apply below_alloc | apply pw_below_drewN | apply below_drew1 | refine below_set ?_ GE116.out) | exact HB.out)) hb); clear HO122; clear BK116; clear HB; have HO122 := n0_; have BK116 := n1_; have HB := n2_; clear n0_ n1_ n2_; (try clear hb); (try clear hb2); (try clear hk); (try clear hi)))
              go_ret
              exact ⟨by first | rfl | (simp [errW_none, errW_some] <;> rfl) | (simp [*, errW_none, errW_some] <;> rfl), by repeat (first | (with_reducible first | exact HB.out | apply below_alloc | apply pw_below_drewN | apply below_drew1 | refine below_set ?_ GE116.out) | exact HB.out)⟩
            · replace c17 := Bool.eq_false_iff.mpr c17
              subst c17
              have H1 : (some false) = some r := by rw [if_neg (show ¬ (false = true) by decide)] at H; exact H
              clear H
              have H := H1
              clear H1
              obtain rfl := Option.some.inj H
              have hcz26_0 : wc.cell? ⟨gb116, 0, none⟩ = some (.int .i64 a0_0) := (blk_cell BK116.out 0).trans rfl
              have hcz26_1 : wc.cell? ⟨gb116, 1, none⟩ = some (.string a0_1) := (blk_cell BK116.out 1).trans rfl
              have hcz26_2 : wc.cell? ⟨gb116, 2, none⟩ = some (.int .i64 a0_2) := (blk_cell BK116.out 2).trans rfl
              have hcz26_3 : wc.cell? ⟨gb116, 3, none⟩ = some (.int .i64 a0_3) := (blk_cell BK116.out 3).trans rfl
              have hcz26_4 : wc.cell? ⟨gb116, 4, none⟩ = some (.int .i64 a0_4) := (blk_cell BK116.out 4).trans rfl
              have hcz26_5 : wc.cell? ⟨gb116, 5, none⟩ = some (.int .i64 a0_5) := (blk_cell BK116.out 5).trans rfl
              have hcz26_6 : wc.cell? ⟨gb116, 6, none⟩ = some (.bool a0_6) := (blk_cell BK116.out 6).trans rfl
              have hfz26_0 := blk_frozen BK116.out 0
              have hfz26_1 := blk_frozen BK116.out 1
              have hfz26_2 := blk_frozen BK116.out 2
              have hfz26_3 := blk_frozen BK116.out 3
              have hfz26_4 := blk_frozen BK116.out 4
              have hfz26_5 := blk_frozen BK116.out 5
              have hfz26_6 := blk_frozen BK116.out 6
              go_wp2_with (first | ((with_reducible refine gate_callee (f := 64) rfl ?_); refine goesL_ (some 22) rfl rfl Tryz.func64 (by kernel_rfl) rfl #[.int .i64 a0_0] rfl (by (try simp only [List.map_toArray, List.map_cons, List.map_nil]); first | done | rfl | (simp only [List.length_drop, List.length_take]; rfl)) ?_; (with_reducible refine (facts_isHome.calls a0_0 true _ A12.out).mono ?_); rintro e w' ⟨rfl, ⟨nd, rfl⟩⟩; refine ⟨_, rfl, ?_⟩) | (go_at_call 65; (with_reducible refine (facts_isName.calls a0_1 true _ A14.out).mono ?_); rintro e w27 ⟨rfl, hb⟩; have n0_ := Aside0.mk (blk_below (g := gb116) (o := .cells #[.int .i64 a0_0, .string a0_1, .int .i64 a0_2, .int .i64 a0_3, .int .i64 a0_4, .int .i64 a0_5, .bool a0_6] 26 (0, 0)) (by (with_reducible repeat (first | refine blk_drewN ?_ _ | refine blk_drew ?_ | refine blk_alloc ?_ _)); exact BK116.out) hb); have n1_ := Aside0.mk (below_step (by repeat (first | (with_reducible first | exact HB.out | apply below_alloc | apply pw_below_drewN | apply below_drew1 | refine below_set ?_ GE116.out) | exact HB.out)) hb); clear BK116; clear HB; have BK116 := n0_; have HB := n1_; clear n0_ n1_; (try clear hb); (try clear hb2); (try clear hk); (try clear hi); have hcz28_0 : w27.cell? ⟨gb116, 0, none⟩ = some (.int .i64 a0_0) := (blk_cell BK116.out 0).trans rfl; have hcz28_1 : w27.cell? ⟨gb116, 1, none⟩ = some (.string a0_1) := (blk_cell BK116.out 1).trans rfl; have hcz28_2 : w27.cell? ⟨gb116, 2, none⟩ = some (.int .i64 a0_2) := (blk_cell BK116.out 2).trans rfl; have hcz28_3 : w27.cell? ⟨gb116, 3, none⟩ = some (.int .i64 a0_3) := (blk_cell BK116.out 3).trans rfl; have hcz28_4 : w27.cell? ⟨gb116, 4, none⟩ = some (.int .i64 a0_4) := (blk_cell BK116.out 4).trans rfl; have hcz28_5 : w27.cell? ⟨gb116, 5, none⟩ = some (.int .i64 a0_5) := (blk_cell BK116.out 5).trans rfl; have hcz28_6 : w27.cell? ⟨gb116, 6, none⟩ = some (.bool a0_6) := (blk_cell BK116.out 6).trans rfl; have hfz28_0 := blk_frozen BK116.out 0; have hfz28_1 := blk_frozen BK116.out 1; have hfz28_2 := blk_frozen BK116.out 2; have hfz28_3 := blk_frozen BK116.out 3; have hfz28_4 := blk_frozen BK116.out 4; have hfz28_5 := blk_frozen BK116.out 5; have hfz28_6 := blk_frozen BK116.out 6) | (go_at_call 66; (with_reducible refine (facts_isDay.calls a0_5 false _ A16.out).mono ?_); rintro e w' ⟨rfl, ⟨nd, rfl⟩⟩))
              go_ret
              exact ⟨by first | rfl | (simp [errW_none, errW_some] <;> rfl) | (simp [*, errW_none, errW_some] <;> rfl), by repeat (first | (with_reducible first | exact HB.out | apply below_alloc | apply pw_below_drewN | apply below_drew1 | refine below_set ?_ GE116.out) | exact HB.out)⟩
          · replace c15 := Bool.eq_false_iff.mpr c15
            subst c15
            have H1 : (some false) = some r := by rw [if_neg (show ¬ (false = true) by decide)] at H; exact H
            clear H
            have H := H1
            clear H1
            obtain rfl := Option.some.inj H
            have hcz29_0 : wc.cell? ⟨gb116, 0, none⟩ = some (.int .i64 a0_0) := (blk_cell BK116.out 0).trans rfl
            have hcz29_1 : wc.cell? ⟨gb116, 1, none⟩ = some (.string a0_1) := (blk_cell BK116.out 1).trans rfl
            have hcz29_2 : wc.cell? ⟨gb116, 2, none⟩ = some (.int .i64 a0_2) := (blk_cell BK116.out 2).trans rfl
            have hcz29_3 : wc.cell? ⟨gb116, 3, none⟩ = some (.int .i64 a0_3) := (blk_cell BK116.out 3).trans rfl
            have hcz29_4 : wc.cell? ⟨gb116, 4, none⟩ = some (.int .i64 a0_4) := (blk_cell BK116.out 4).trans rfl
            have hcz29_5 : wc.cell? ⟨gb116, 5, none⟩ = some (.int .i64 a0_5) := (blk_cell BK116.out 5).trans rfl
            have hcz29_6 : wc.cell? ⟨gb116, 6, none⟩ = some (.bool a0_6) := (blk_cell BK116.out 6).trans rfl
            have hfz29_0 := blk_frozen BK116.out 0
            have hfz29_1 := blk_frozen BK116.out 1
            have hfz29_2 := blk_frozen BK116.out 2
            have hfz29_3 := blk_frozen BK116.out 3
            have hfz29_4 := blk_frozen BK116.out 4
            have hfz29_5 := blk_frozen BK116.out 5
            have hfz29_6 := blk_frozen BK116.out 6
            go_wp2_with (first | ((with_reducible refine gate_callee (f := 64) rfl ?_); refine goesL_ (some 22) rfl rfl Tryz.func64 (by kernel_rfl) rfl #[.int .i64 a0_0] rfl (by (try simp only [List.map_toArray, List.map_cons, List.map_nil]); first | done | rfl | (simp only [List.length_drop, List.length_take]; rfl)) ?_; (with_reducible refine (facts_isHome.calls a0_0 true _ A12.out).mono ?_); rintro e w' ⟨rfl, ⟨nd, rfl⟩⟩; refine ⟨_, rfl, ?_⟩) | (go_at_call 65; (with_reducible refine (facts_isName.calls a0_1 false _ A14.out).mono ?_); rintro e w30 ⟨rfl, hb⟩; have n0_ := Aside0.mk (blk_below (g := gb116) (o := .cells #[.int .i64 a0_0, .string a0_1, .int .i64 a0_2, .int .i64 a0_3, .int .i64 a0_4, .int .i64 a0_5, .bool a0_6] 26 (0, 0)) (by (with_reducible repeat (first | refine blk_drewN ?_ _ | refine blk_drew ?_ | refine blk_alloc ?_ _)); exact BK116.out) hb); have n1_ := Aside0.mk (below_step (by repeat (first | (with_reducible first | exact HB.out | apply below_alloc | apply pw_below_drewN | apply below_drew1 | refine below_set ?_ GE116.out) | exact HB.out)) hb); clear BK116; clear HB; have BK116 := n0_; have HB := n1_; clear n0_ n1_; (try clear hb); (try clear hb2); (try clear hk); (try clear hi)))
            go_ret
            exact ⟨by first | rfl | (simp [errW_none, errW_some] <;> rfl) | (simp [*, errW_none, errW_some] <;> rfl), by repeat (first | (with_reducible first | exact HB.out | apply below_alloc | apply pw_below_drewN | apply below_drew1 | refine below_set ?_ GE116.out) | exact HB.out)⟩
        · replace c13 := Bool.eq_false_iff.mpr c13
          subst c13
          have H1 : (some false) = some r := by rw [if_neg (show ¬ (false = true) by decide)] at H; exact H
          clear H
          have H := H1
          clear H1
          obtain rfl := Option.some.inj H
          have hcz31_0 : wc.cell? ⟨gb116, 0, none⟩ = some (.int .i64 a0_0) := (blk_cell BK116.out 0).trans rfl
          have hcz31_1 : wc.cell? ⟨gb116, 1, none⟩ = some (.string a0_1) := (blk_cell BK116.out 1).trans rfl
          have hcz31_2 : wc.cell? ⟨gb116, 2, none⟩ = some (.int .i64 a0_2) := (blk_cell BK116.out 2).trans rfl
          have hcz31_3 : wc.cell? ⟨gb116, 3, none⟩ = some (.int .i64 a0_3) := (blk_cell BK116.out 3).trans rfl
          have hcz31_4 : wc.cell? ⟨gb116, 4, none⟩ = some (.int .i64 a0_4) := (blk_cell BK116.out 4).trans rfl
          have hcz31_5 : wc.cell? ⟨gb116, 5, none⟩ = some (.int .i64 a0_5) := (blk_cell BK116.out 5).trans rfl
          have hcz31_6 : wc.cell? ⟨gb116, 6, none⟩ = some (.bool a0_6) := (blk_cell BK116.out 6).trans rfl
          have hfz31_0 := blk_frozen BK116.out 0
          have hfz31_1 := blk_frozen BK116.out 1
          have hfz31_2 := blk_frozen BK116.out 2
          have hfz31_3 := blk_frozen BK116.out 3
          have hfz31_4 := blk_frozen BK116.out 4
          have hfz31_5 := blk_frozen BK116.out 5
          have hfz31_6 := blk_frozen BK116.out 6
          go_wp2_with (first | ((with_reducible refine gate_callee (f := 64) rfl ?_); refine goesL_ (some 22) rfl rfl Tryz.func64 (by kernel_rfl) rfl #[.int .i64 a0_0] rfl (by (try simp only [List.map_toArray, List.map_cons, List.map_nil]); first | done | rfl | (simp only [List.length_drop, List.length_take]; rfl)) ?_; (with_reducible refine (facts_isHome.calls a0_0 false _ A12.out).mono ?_); rintro e w' ⟨rfl, ⟨nd, rfl⟩⟩; refine ⟨_, rfl, ?_⟩))
          go_ret
          exact ⟨by first | rfl | (simp [errW_none, errW_some] <;> rfl) | (simp [*, errW_none, errW_some] <;> rfl), by repeat (first | (with_reducible first | exact HB.out | apply below_alloc | apply pw_below_drewN | apply below_drew1 | refine below_set ?_ GE116.out) | exact HB.out)⟩

end Go.Proofs.YthcjocojngochaaGreatDoor.X
