-- Written by a program of mine (wip/tools/xprint.py) over the kit's print.py: printed functions and hand-proved ones side by side.
import Derived.Test.YtmpjoaljincclaaDoorXx0
import Derived.Test.YtmpjoaljincclaaDoorXx1
import Derived.Test.YtmpjoaljincclaaDoorXx2
import Derived.Test.YtmpjoaljincclaaDoorXx3
import Derived.Test.YtmpjoaljincclaaDoorXx4
import Derived.Test.YtmpjoaljincclaaDoorXx5
namespace Go.Proofs.YtmpjoaljincclaaDoor.X
open Go.RowKit Go.Proofs.YtmpjoaljincclaaDoorW.PrintWords Go.Proofs.YtmpjoaljincclaaDoorW.PrintLast Go.Proofs.YtmpjoaljincclaaDoorW.PrintMore
attribute [local go_sem] max2_int min2_int max_two min_two max_three min_three max_four min_four   -- for this text's walks alone
set_option linter.unusedVariables false
set_option linter.unusedSimpArgs false

attribute [local go_sem high] eqA32
/-! ### lexer_Lex: function 11 -/
-- by hand: cohousing/lexer.Lex
section
attribute [local go_sem ↓] Go.wp_at_zero Go.wp_at_succ
theorem recov_idle (p q r : Option Addr) (w : World) :
    CallsD Tryd.prog 20 #[.pointer p, .pointer q, .pointer r] .returning w fun e u' w' => e = .returned (.tuple #[]) ∧ u' = .returning ∧ w' = w := by
  refine callsD_of_wpS Tryd.func20 rfl fun c₀ cs hu => ?_
  apply wpS_seq
  apply wpS_region
  simp [wpOpsS, go_sem, recoverD, hu, Tryd.ntmps20, Exit.thenS]
  apply wpS_seq
  apply wpS_region
  simp [wpOpsS, go_sem, recoverD, hu, Tryd.ntmps20, Exit.thenS]
  refine wpS_cond (t := false) (by simp [Act.eval, Array.replicate]) ?_
  simp only [Bool.false_eq_true, if_false]
  refine wpS_of_wp (wp_skip ?_)
  cases c₀
  simp_all [bodyPostS, results, Tryd.results20]
set_option maxRecDepth 100000 in
theorem fault_field0 (c a : Int) (W : World) : (Instr.field 46 (.agg #[.int .i64 c, .int .i64 a]) 0).run Tryd.prog W = .ok (.int .i64 c) W := by
  have hu := Tryd.underlying46
  simp [Instr.field, go_sem, hu, run_underlying hu, asAgg, Sem.run]
set_option maxRecDepth 100000 in
theorem fault_field1 (c a : Int) (W : World) : (Instr.field 46 (.agg #[.int .i64 c, .int .i64 a]) 1).run Tryd.prog W = .ok (.int .i64 a) W := by
  have hu := Tryd.underlying46
  simp [Instr.field, go_sem, hu, run_underlying hu, asAgg, Sem.run]
set_option maxRecDepth 100000 in
theorem fault_is (v : Value) (W : World) : (Instr.typeAssert (.iface 46 v) 20 46 false).run Tryd.prog W = .ok v W := by rfl
set_option maxRecDepth 100000 in
theorem recov_panic (b2 b3 b4 : Nat) (v : Value) (x y c a : Int) (B : Nat) (h23 : ¬ b2 = b3) (h24 : ¬ b2 = b4) (h34 : ¬ b3 = b4) (older : List PanicEntry) (w : World)
    (k2 : w.cell? ⟨b2, 0, none⟩ = some v) (k3 : w.cell? ⟨b3, 0, none⟩ = some (.int .i64 x)) (k4 : w.cell? ⟨b4, 0, none⟩ = some (.int .i64 y))
    (f2 : w.frozen? ⟨b2, 0, none⟩ = false) (f3 : w.frozen? ⟨b3, 0, none⟩ = false) (f4 : w.frozen? ⟨b4, 0, none⟩ = false) (hB2 : B ≤ b2) (hB3 : B ≤ b3) (hB4 : B ≤ b4) :
    CallsD Tryd.prog 20 #[.pointer (some ⟨b2, 0, none⟩), .pointer (some ⟨b3, 0, none⟩), .pointer (some ⟨b4, 0, none⟩)] (.panicking ({ v := .iface 46 (.agg #[.int .i64 c, .int .i64 a]), recovered := false } :: older)) w fun e u' w' =>
      e = .returned (.tuple #[]) ∧ u' = .panicking ({ v := .iface 46 (.agg #[.int .i64 c, .int .i64 a]), recovered := true } :: older) ∧ Below B w w' ∧
      w'.cell? ⟨b2, 0, none⟩ = some (.slice none 0 0) ∧ w'.cell? ⟨b3, 0, none⟩ = some (.int .i64 c) ∧ w'.cell? ⟨b4, 0, none⟩ = some (.int .i64 a) := by
  refine callsD_of_wpS Tryd.func20 rfl fun c₀ cs hu => ?_
  apply wpS_seq
  apply wpS_region
  simp [wpOpsS, go_sem, recoverD, hu, Tryd.ntmps20, Exit.thenS]
  apply wpS_seq
  apply wpS_region
  simp [wpOpsS, go_sem, recoverD, hu, Tryd.ntmps20, Exit.thenS]
  refine wpS_cond (t := true) (by simp [Act.eval, Array.replicate]) ?_
  simp only [if_true]
  refine wpS_of_wp ?_
  go_wp2
  have hta := fault_is
  have hf0 := fault_field0 c a
  have hf1 := fault_field1 c a
  change Code.wp Tryd.prog _ _ { tmps := #[.pointer (some ⟨b2, 0, none⟩), .pointer (some ⟨b3, 0, none⟩), .pointer (some ⟨b4, 0, none⟩), .iface 46 (.agg #[.int .i64 c, .int .i64 a]), .iface 46 (.agg #[.int .i64 c, .int .i64 a]), .iface 46 (.agg #[.int .i64 c, .int .i64 a]), .bool true, undef, undef, undef, undef, undef, undef], defers := [] } w
  clear hu
  go_region
  all_goals
    change bodyPostS _ _ _ _ _ _ _ _ _
    refine ⟨rfl, _, rfl, .tuple #[], results_none rfl _ _ _, rfl, rfl, below_drew ((((Below.refl _ _).setCell hB2 _).setCell hB3 _).setCell hB4 _), ?_, ?_, ?_⟩
    · go_simp
    · go_simp
    · go_simp
/-- What stands at an offset: an error (0: none), the offset behind it, the token. -/
def tokF (s : ByteArray) (i : Nat) : Int × Nat × S32 :=
  match s.data.toList.drop i with
  | [] => (10, i, z32)
  | c :: r =>
    if isDigit c then ((valF (s.extract i (i + partLen true (c :: r)))).2.2, i + partLen true (c :: r), ⟨2, i, ⟨#[]⟩, ⟨(valF (s.extract i (i + partLen true (c :: r)))).1, (valF (s.extract i (i + partLen true (c :: r)))).2.1⟩⟩)
    else if isLetter c then (if 16 < partLen false (c :: r) then 2 else 0, i + partLen false (c :: r), ⟨1, i, s.extract i (i + partLen false (c :: r)), ⟨0, 0⟩⟩)
    else (if signN (c :: r) = 0 then 10 else 0, i + signN (c :: r), ⟨3, i, s.extract i (i + signN (c :: r)), ⟨0, 0⟩⟩)
theorem signN_le (l : List UInt8) : signN l ≤ l.length := by
  cases l with
  | nil => simp [signN]
  | cons c r =>
    rw [signN]
    split
    · split
      · cases r with
        | nil => rename_i h; simp at h
        | cons => simp
      · split <;> simp
    · split <;> simp
theorem partLen_pos (num : Bool) (c : UInt8) (r : List UInt8) (h : partB num c = true) : 1 ≤ partLen num (c :: r) := by
  unfold partLen
  rw [List.takeWhile_cons, if_pos h, List.length_cons]
  omega
theorem part_digit (num : Bool) (c : UInt8) (h : isDigit c = true) : partB num c = true := by unfold partB; rw [h]; simp
theorem part_letter (num : Bool) (c : UInt8) (h : isLetter c = true) : partB num c = true := by unfold partB; rw [h]; simp
theorem tokF_end (s : ByteArray) (i : Nat) (hi : i < s.size) (h0 : (tokF s i).1 = 0) : i < (tokF s i).2.1 ∧ (tokF s i).2.1 ≤ s.size := by
  have hl : ∀ num, i + partLen num (s.data.toList.drop i) ≤ s.size := fun num => partLen_le num s i (by omega)
  have hs := signN_le (s.data.toList.drop i)
  have hd : (s.data.toList.drop i).length = s.size - i := by simp
  rw [hd] at hs
  unfold tokF at h0 ⊢
  rw [drop_cons s i hi] at hl hs h0 ⊢
  simp only at h0 ⊢
  by_cases h1 : isDigit s[i] = true
  · rw [if_pos h1]
    have := partLen_pos true s[i] (s.data.toList.drop (i + 1)) (part_digit _ _ h1)
    have := hl true
    exact ⟨by simp only; omega, by simp only; omega⟩
  · rw [if_neg h1] at h0 ⊢
    by_cases h2 : isLetter s[i] = true
    · rw [if_pos h2]
      have := partLen_pos false s[i] (s.data.toList.drop (i + 1)) (part_letter _ _ h2)
      have := hl false
      exact ⟨by simp only; omega, by simp only; omega⟩
    · rw [if_neg h2] at h0 ⊢
      simp only at h0 ⊢
      have h3 : signN (s[i] :: s.data.toList.drop (i + 1)) ≠ 0 := by
        intro e
        rw [if_pos e] at h0
        exact absurd h0 (by decide)
      omega
theorem tok_any (g : Nat) (s : ByteArray) (i : Nat) (v : Value) (n : Nat) (xs : List Value) (w : World) (hS : Sc w g s i v) (hO : w.ownsRow (g + 1) 32 5 v n xs) (hn : n < 2000) (hi : i < s.size) (hs : s.size ≤ 8000) :
    ((tokF s i).1 = 0 → Calls Tryd.prog 22 #[.pointer (some ⟨g, 0, none⟩)] w (TokPost g s w (tokF s i).2.1 (n + 1) (xs ++ tokCells (tokF s i).2.2))) ∧
    ((tokF s i).1 ≠ 0 → Calls Tryd.prog 22 #[.pointer (some ⟨g, 0, none⟩)] w (TokFail g w (tokF s i).1 i)) := by
  have hdc := drop_cons s i hi
  have hsn := signN_le (s.data.toList.drop i)
  have hd : (s.data.toList.drop i).length = s.size - i := by simp
  rw [hd] at hsn
  have e : tokF s i = (if isDigit s[i] then ((valF (s.extract i (i + partLen true (s.data.toList.drop i)))).2.2, i + partLen true (s.data.toList.drop i), ⟨2, i, ⟨#[]⟩, ⟨(valF (s.extract i (i + partLen true (s.data.toList.drop i)))).1, (valF (s.extract i (i + partLen true (s.data.toList.drop i)))).2.1⟩⟩)
    else if isLetter s[i] then (if 16 < partLen false (s.data.toList.drop i) then 2 else 0, i + partLen false (s.data.toList.drop i), ⟨1, i, s.extract i (i + partLen false (s.data.toList.drop i)), ⟨0, 0⟩⟩)
    else (if signN (s.data.toList.drop i) = 0 then 10 else 0, i + signN (s.data.toList.drop i), ⟨3, i, s.extract i (i + signN (s.data.toList.drop i)), ⟨0, 0⟩⟩) : Int × Nat × S32) := by
    unfold tokF
    rw [hdc]
  by_cases h1 : isDigit s[i] = true
  · rw [if_pos h1] at e
    rw [e]
    have hpl := partLen_pos true s[i] (s.data.toList.drop (i + 1)) (part_digit _ _ h1)
    rw [← hdc] at hpl
    have hle := partLen_le true s i (by omega)
    have hall := partLen_all true s i
    have hsz : (s.extract i (i + partLen true (s.data.toList.drop i))).size = partLen true (s.data.toList.drop i) := by simp only [ByteArray.size_extract]; omega
    have hval : ∀ W, Calls Tryd.prog 33 #[.string (s.extract i (i + partLen true (s.data.toList.drop i)))] W fun e w' => e = .returned (.tuple #[.agg #[.int .i64 (valF (s.extract i (i + partLen true (s.data.toList.drop i)))).1, .int .i64 (valF (s.extract i (i + partLen true (s.data.toList.drop i)))).2.1], .int .i64 (valF (s.extract i (i + partLen true (s.data.toList.drop i)))).2.2]) ∧ Below W.heap.size W w' := by
      intro W
      refine value_ok _ W (by omega) ?_ (by omega) hall
      have : (s.extract i (i + partLen true (s.data.toList.drop i)))[0]'(by omega) = s[i] := by simp [ByteArray.getElem_extract]
      rw [this, h1]
    refine ⟨fun h0 => ?_, fun h0 => ?_⟩
    · exact tok_num g s i v n xs w hS hO hn hi hs h1 _ _ _ hval h0
    · exact tok_badnum g s i v n xs w hS hO hn hi hs h1 _ _ _ hval (by rw [beq_eq_false_iff_ne]; exact h0)
  · have h1' := (Bool.not_eq_true _).mp h1
    rw [if_neg h1] at e
    by_cases h2 : isLetter s[i] = true
    · rw [if_pos h2] at e
      rw [e]
      by_cases h3 : 16 < partLen false (s.data.toList.drop i)
      · rw [if_pos h3]
        exact ⟨fun h0 => absurd h0 (by simp), fun _ => tok_long g s i v n xs w hS hO hn hi hs h1' h2 h3⟩
      · rw [if_neg h3]
        exact ⟨fun _ => tok_word g s i v n xs w hS hO hn hi hs h1' h2 (by omega), fun h0 => absurd rfl h0⟩
    · have h2' := (Bool.not_eq_true _).mp h2
      rw [if_neg h2] at e
      rw [e]
      by_cases h3 : signN (s.data.toList.drop i) = 0
      · rw [if_pos h3]
        exact ⟨fun h0 => absurd h0 (by simp), fun _ => tok_nosign g s i v n xs w hS hO hn hi hs h1' h2' h3⟩
      · rw [if_neg h3]
        exact ⟨fun _ => tok_sign g s i _ v n xs w hS hO hn hi hs h1' h2' rfl (by omega) (by omega), fun h0 => absurd rfl h0⟩
theorem skipN_le : ∀ (c : Bool) (l : List UInt8), skipN c l ≤ l.length
  | _, [] => by simp [skipN]
  | c, b :: r => by
    have ih := skipN_le (if b == 10 then false else if b == 35 then true else c) r
    rw [skipN, List.length_cons]
    generalize (if (b == 10) = true then false else if (b == 35) = true then true else c) = d at ih ⊢
    split <;> omega
theorem skipTo_le (s : ByteArray) (i : Nat) (h : i ≤ s.size) : i ≤ skipTo s i ∧ skipTo s i ≤ s.size := by
  have h1 := skipN_le false (s.data.toList.drop i)
  have hd : (s.data.toList.drop i).length = s.size - i := by simp
  unfold skipTo
  omega
/-- The tokens from an offset on, behind those that were read. -/
def lexLoop (s : ByteArray) : Nat → Nat → List S32 → List S32 × Int × Int
  | 0, _, _ => ([], 0, 0)
  | k + 1, i, l => if i < s.size then (if l.length = 2000 then ([], 2, i) else if (tokF s i).1 = 0 then lexLoop s k (skipTo s (tokF s i).2.1) (l ++ [(tokF s i).2.2]) else ([], (tokF s i).1, i)) else (l, 0, 0)
/-- What Lex returns. -/
def lexF (s : ByteArray) : List S32 × Int × Int := if 8000 < s.size then ([], 2, 0) else lexLoop s (s.size + 1) (skipTo s 0) []
theorem new_at {X : World} {o : Obj} {k : Nat} (h : X.heap.size = k) : (X.alloc o).heap[k]? = some o := by
  subst h
  exact heap_alloc_new X o
theorem flat_len : ∀ l : List S32, (l.flatMap tokCells).length = l.length * 5
  | [] => rfl
  | t :: l => by
    rw [List.flatMap_cons, List.length_append, flat_len l, List.length_cons]
    simp [tokCells]
    omega
theorem flat_reps (w : World) (base : Nat) (ok : Nat → Prop) : ∀ l : List S32, Reps (k32.M w base ok) 5 l (l.flatMap tokCells) := by
  intro l
  have key : ∀ (n : Nat) (l : List S32), l.length = n → Reps (k32.M w base ok) 5 l (l.flatMap tokCells) := by
    intro n
    induction n with
    | zero =>
      intro l h
      rw [List.length_eq_zero_iff] at h
      subst h
      exact Reps.none _ _
    | succ n ih =>
      intro l h
      have hne : l ≠ [] := by
        rintro rfl
        simp at h
      have e := List.dropLast_concat_getLast hne
      rw [← e]
      have hl : l.dropLast.length = n := by rw [List.length_dropLast]; omega
      have e2 : (l.dropLast ++ [l.getLast hne]).flatMap tokCells = l.dropLast.flatMap tokCells ++ tokCells (l.getLast hne) := by simp
      rw [e2]
      exact Reps.snoc (ih _ hl) (k32_mkM w base ok _) rfl
  exact key _ l rfl
theorem row_R2 {w : World} {base : Nat} {v : Value} {l : List S32} (h : w.ownsRow base 32 5 v l.length (l.flatMap tokCells)) : Kd.R k32 32 w base (fun k => base ≤ k) v l :=
  ⟨fun k hk => (h.lt k hk).1, l.flatMap tokCells, h, flat_reps _ _ _ l⟩
theorem row_R {w : World} {base : Nat} {v : Value} {l : List S32} (h : w.ownsRow base 32 5 v l.length (l.flatMap tokCells)) : Kd.R k32 32 w base (fun _ => True) v l :=
  ⟨fun _ _ => trivial, l.flatMap tokCells, h, flat_reps _ _ _ l⟩
set_option maxRecDepth 100000 in
set_option maxHeartbeats 8000000 in
theorem lex_long (s : ByteArray) (w : World) (hs : 8000 < s.size) : Calls Tryd.prog 11 #[.string s] w fun e w' => e = .returned (.tuple #[.slice none 0 0, .int .i64 2, .int .i64 0]) ∧ Below w.heap.size w w' := by
  have hsz : decide ((8000 : Int) < (s.size : Int)) = true := decide_eq_true (by omega)
  go_enter_defers Tryd.func11, Tryd.ntmps11
  go_wp2
  refine ⟨.tuple #[.slice none 0 0, .int .i64 2, .int .i64 0], by simp [results, Tryd.results11, go_sem], rfl, ?_⟩
  exact (by repeat (first | exact Below.refl _ _ | apply below_alloc))
set_option maxRecDepth 100000 in
set_option maxHeartbeats 8000000 in
theorem lex_short (s : ByteArray) (w : World) (hs : s.size ≤ 8000) :
    Calls Tryd.prog 11 #[.string s] w fun e w' => ∃ v0_ : Value, e = .returned (.tuple #[v0_, .int .i64 (lexF s).2.1, .int .i64 (lexF s).2.2]) ∧ Kd.R k32 32 w' w.heap.size (fun _ => True) v0_ (lexF s).1 ∧ Below w.heap.size w w' := by
  have hu49 := Tryd.underlying49
  have hsz : decide ((8000 : Int) < (s.size : Int)) = false := decide_eq_false (by omega)
  have hF : lexF s = lexLoop s (s.size + 1) (skipTo s 0) [] := by unfold lexF; rw [if_neg (by omega)]
  have hskip := skipTo_le s 0 (by omega)
  have HSK := Lib.hid (fun (g i : Nat) (v : Value) (W : World) (h : Sc W g s i v) (hi : i ≤ s.size) => skip_ok g s i v W h hi hs)
  have HTK := Lib.hid (fun (g i : Nat) (v : Value) (n : Nat) (xs : List Value) (W : World) (h : Sc W g s i v) (hO : W.ownsRow (g + 1) 32 5 v n xs) (hn : n < 2000) (hi : i < s.size) => tok_any g s i v n xs W h hO hn hi hs)
  have HTF := Lib.hid (fun (g i : Nat) (v : Value) (xs : List Value) (W : World) (h : Sc W g s i v) (hO : W.ownsRow (g + 1) 32 5 v 2000 xs) (hi : i < s.size) => tok_full g s i v xs W h hO hi hs)
  have HF := Lib.hid hF
  have HK0 := Lib.hid hskip
  clear hF hskip
  go_enter_defers Tryd.func11, Tryd.ntmps11
  go_wp2_with fail
  refine (HSK.out (w.heap.size + 1 + 1 + 1) 0 (.slice none 0 0) _ ⟨new_at (by simp)⟩ (by omega)).mono ?_
  rintro e w1 ⟨rfl, hS1, hO1⟩
  have hO1' := Aside0.mk hO1
  have hS1' := Aside0.mk hS1
  clear hS1 hO1
  go_wp2_with fail
  go_loopg [18] (s.size + 1) (fun k v18 wr => ∃ (i : Nat) (l : List S32) (v : Value), i ≤ s.size ∧ l.length ≤ 2000 ∧ Aside0 (s.size - i < k) ∧ Aside0 (lexLoop s k i l = lexF s) ∧ Aside0 (Sc wr (w.heap.size + 1 + 1 + 1) s i v) ∧ Aside0 (wr.ownsRow (w.heap.size + 1 + 1 + 1 + 1) 32 5 v l.length (l.flatMap tokCells)) ∧
    Aside0 (Below (w.heap.size + 1 + 1 + 1) ((((w.alloc (Obj.cells #[Value.slice none 0 0] 23)).alloc (Obj.cells #[Value.int IntKind.i64 0] 24)).alloc (Obj.cells #[Value.int IntKind.i64 0] 3)).alloc (Obj.cells #[Value.string s, Value.int IntKind.i64 0, Value.slice none 0 0] 49)) wr))
  case atStart => exact ⟨skipTo s 0, [], .slice none 0 0, HK0.out.2, by simp, ⟨by have := HK0.out; omega⟩, ⟨HF.out.symm⟩, hS1', ⟨⟨rfl, .inl ⟨rfl, rfl⟩⟩⟩, ⟨hO1'.out.below⟩⟩
  case round =>
    clear hS1' hO1' HF HK0
    obtain ⟨i, l, v, hi, hl, HM, HL, HS, HO, HB⟩ := hrel
    obtain ⟨A, cap, rfl⟩ := own_slice HO.out
    obtain ⟨c0, c1, c2, f0, f1, f2⟩ := HS.out.cells
    cases gk with
    | zero => exact absurd HM.out (by omega)
    | succ k1 =>
      by_cases hlt : i < s.size
      · have hltd : decide ((i : Int) < (s.size : Int)) = true := decide_eq_true (by omega)
        by_cases hfull : l.length = 2000
        · have hE : lexF s = ([], 2, (i : Int)) := by rw [← HL.out, lexLoop, if_pos hlt, if_pos hfull]
          have HE := Aside0.mk hE
          have HO2 : Aside0 (wr.ownsRow (w.heap.size + 1 + 1 + 1 + 1) 32 5 (.slice A l.length cap) 2000 (l.flatMap tokCells)) := ⟨by have := HO.out; rw [hfull] at this ⊢; exact this⟩
          clear hE HO HL HM hfull
          go_wp2_with fail
          go_quiet (fail)
          go_wp2_with fail
          refine (HTF.out _ i _ _ _ (by repeat (first | exact HS.out | apply Sc.drewN)) (by exact HO2.out) hlt).mono ?_
          rintro e w2 ⟨hpan, hb⟩
          subst hpan
          have hbb := Below.trans (pw_below_drewN HB.out _) hb
          have k2 : w2.cell? ⟨w.heap.size, 0, none⟩ = some (.slice none 0 0) := (hbb.cell (p := ⟨w.heap.size, 0, none⟩) (by simp; omega)).trans (by go_simp)
          have k3 : w2.cell? ⟨w.heap.size + 1, 0, none⟩ = some (.int .i64 0) := (hbb.cell (p := ⟨w.heap.size + 1, 0, none⟩) (by simp)).trans (by go_simp)
          have k4 : w2.cell? ⟨w.heap.size + 1 + 1, 0, none⟩ = some (.int .i64 0) := (hbb.cell (p := ⟨w.heap.size + 1 + 1, 0, none⟩) (by simp)).trans (by go_simp)
          have j2 : w2.frozen? ⟨w.heap.size, 0, none⟩ = false := (hbb.frozen (p := ⟨w.heap.size, 0, none⟩) (by simp; omega)).trans (by go_simp)
          have j3 : w2.frozen? ⟨w.heap.size + 1, 0, none⟩ = false := (hbb.frozen (p := ⟨w.heap.size + 1, 0, none⟩) (by simp)).trans (by go_simp)
          have j4 : w2.frozen? ⟨w.heap.size + 1 + 1, 0, none⟩ = false := (hbb.frozen (p := ⟨w.heap.size + 1 + 1, 0, none⟩) (by simp)).trans (by go_simp)
          go_wp2_with fail
          (try simp only [Exit.inBlock, Exit.then])
          refine leaves_cons (f := 20) (args := #[.pointer (some ⟨w.heap.size, 0, none⟩), .pointer (some ⟨w.heap.size + 1, 0, none⟩), .pointer (some ⟨w.heap.size + 1 + 1, 0, none⟩)]) (by simp) (by simp [go_sem]) ?_
          refine (recov_panic w.heap.size (w.heap.size + 1) (w.heap.size + 1 + 1) _ 0 0 _ _ w.heap.size (by omega) (by omega) (by omega) [] _ k2 k3 k4 j2 j3 j4 (by omega) (by omega) (by omega)).mono ?_
          rintro e u' w3 ⟨rfl, rfl, hb2, d0, d1, d2⟩
          simp [Leaves, settle, results, Tryd.results11, go_sem, d0, d1, d2]
          rw [HE.out]
          exact ⟨_, ⟨rfl, rfl, rfl⟩, Kd.R_nil _ _ _ _ _, (((by repeat (first | exact Below.refl _ _ | apply below_alloc) : Below w.heap.size w ((((w.alloc (Obj.cells #[Value.slice none 0 0] 23)).alloc (Obj.cells #[Value.int IntKind.i64 0] 24)).alloc (Obj.cells #[Value.int IntKind.i64 0] 3)).alloc (Obj.cells #[Value.string s, Value.int IntKind.i64 0, Value.slice none 0 0] 49))).trans (hbb.mono (by omega))).trans hb2)⟩
        · cases herr : decide ((tokF s i).1 = 0) with
          | false =>
            have herr' : (tokF s i).1 ≠ 0 := of_decide_eq_false herr
            have hE : lexF s = ([], (tokF s i).1, (i : Int)) := by rw [← HL.out, lexLoop, if_pos hlt, if_neg hfull, if_neg herr']
            have HE := Aside0.mk hE
            have HER := Aside0.mk herr'
            have hl2 : l.length < 2000 := by omega
            clear hE HL HM herr herr' hfull
            go_wp2_with fail
            go_quiet (fail)
            go_wp2_with fail
            refine ((HTK.out _ i _ _ _ _ (by repeat (first | exact HS.out | apply Sc.drewN)) (by exact HO.out) hl2 hlt).2 HER.out).mono ?_
            rintro e w2 ⟨hpan, hb⟩
            subst hpan
            have hbb := Below.trans (pw_below_drewN HB.out _) hb
            have k2 : w2.cell? ⟨w.heap.size, 0, none⟩ = some (.slice none 0 0) := (hbb.cell (p := ⟨w.heap.size, 0, none⟩) (by simp; omega)).trans (by go_simp)
            have k3 : w2.cell? ⟨w.heap.size + 1, 0, none⟩ = some (.int .i64 0) := (hbb.cell (p := ⟨w.heap.size + 1, 0, none⟩) (by simp)).trans (by go_simp)
            have k4 : w2.cell? ⟨w.heap.size + 1 + 1, 0, none⟩ = some (.int .i64 0) := (hbb.cell (p := ⟨w.heap.size + 1 + 1, 0, none⟩) (by simp)).trans (by go_simp)
            have j2 : w2.frozen? ⟨w.heap.size, 0, none⟩ = false := (hbb.frozen (p := ⟨w.heap.size, 0, none⟩) (by simp; omega)).trans (by go_simp)
            have j3 : w2.frozen? ⟨w.heap.size + 1, 0, none⟩ = false := (hbb.frozen (p := ⟨w.heap.size + 1, 0, none⟩) (by simp)).trans (by go_simp)
            have j4 : w2.frozen? ⟨w.heap.size + 1 + 1, 0, none⟩ = false := (hbb.frozen (p := ⟨w.heap.size + 1 + 1, 0, none⟩) (by simp)).trans (by go_simp)
            go_wp2_with fail
            (try simp only [Exit.inBlock, Exit.then])
            refine leaves_cons (f := 20) (args := #[.pointer (some ⟨w.heap.size, 0, none⟩), .pointer (some ⟨w.heap.size + 1, 0, none⟩), .pointer (some ⟨w.heap.size + 1 + 1, 0, none⟩)]) (by simp) (by simp [go_sem]) ?_
            refine (recov_panic w.heap.size (w.heap.size + 1) (w.heap.size + 1 + 1) _ 0 0 _ _ w.heap.size (by omega) (by omega) (by omega) [] _ k2 k3 k4 j2 j3 j4 (by omega) (by omega) (by omega)).mono ?_
            rintro e u' w3 ⟨rfl, rfl, hb2, d0, d1, d2⟩
            simp [Leaves, settle, results, Tryd.results11, go_sem, d0, d1, d2]
            rw [HE.out]
            exact ⟨_, ⟨rfl, rfl, rfl⟩, Kd.R_nil _ _ _ _ _, (((by repeat (first | exact Below.refl _ _ | apply below_alloc) : Below w.heap.size w ((((w.alloc (Obj.cells #[Value.slice none 0 0] 23)).alloc (Obj.cells #[Value.int IntKind.i64 0] 24)).alloc (Obj.cells #[Value.int IntKind.i64 0] 3)).alloc (Obj.cells #[Value.string s, Value.int IntKind.i64 0, Value.slice none 0 0] 49))).trans (hbb.mono (by omega))).trans hb2)⟩
          | true =>
            have herr' : (tokF s i).1 = 0 := of_decide_eq_true herr
            have hend := tokF_end s i hlt herr'
            have hE : lexLoop s k1 (skipTo s (tokF s i).2.1) (l ++ [(tokF s i).2.2]) = lexF s := by rw [← HL.out, lexLoop, if_pos hlt, if_neg hfull, if_pos herr']
            have HE := Aside0.mk hE
            have HER := Aside0.mk herr'
            have hl2 : l.length < 2000 := by omega
            have hsk := skipTo_le s (tokF s i).2.1 hend.2
            have HSZ := Aside0.mk (And.intro hend hsk)
            clear hE HL herr herr' hfull hend hsk
            go_wp2_with fail
            go_quiet (fail)
            go_wp2_with fail
            refine ((HTK.out _ i _ _ _ _ (by repeat (first | exact HS.out | apply Sc.drewN)) (by exact HO.out) hl2 hlt).1 HER.out).mono ?_
            rintro e w2 ⟨hret, ⟨v', hS2, hO2⟩, hb⟩
            subst hret
            have HS2 := Aside0.mk hS2
            have HO2 := Aside0.mk hO2
            have HB2 := Aside0.mk hb
            clear hS2 hO2 hb
            go_wp2_with fail
            refine (HSK.out _ _ _ _ HS2.out HSZ.out.1.2).mono ?_
            rintro e w3 ⟨rfl, hS3, hOn3⟩
            have HS3 := Aside0.mk hS3
            have HOn3 := Aside0.mk hOn3
            clear hS3 hOn3
            go_wp2_with fail
            go_roundg k1
            case measure => omega
            case rel => exact ⟨skipTo s (tokF s i).2.1, l ++ [(tokF s i).2.2], v', HSZ.out.2.2, by rw [List.length_append]; simp; omega, ⟨by have := HSZ.out; have := HM.out; omega⟩, HE, HS3, ⟨by rw [List.length_append, List.flatMap_append]; have := HOn3.out.own HO2.out; simpa using this⟩, ⟨Below.trans (Below.trans (pw_below_drewN HB.out _) HB2.out) HOn3.out.below⟩⟩
      · have hltd : decide ((i : Int) < (s.size : Int)) = false := decide_eq_false (by omega)
        have hltn : decide (i < s.size) = false := decide_eq_false hlt
        have hE : lexF s = (l, 0, 0) := by rw [← HL.out, lexLoop, if_neg hlt]
        have HE := Aside0.mk hE
        clear hE HL HM hlt
        have k2 : wr.cell? ⟨w.heap.size, 0, none⟩ = some (.slice none 0 0) := (HB.out.cell (p := ⟨w.heap.size, 0, none⟩) (by simp; omega)).trans (by go_simp)
        have k3 : wr.cell? ⟨w.heap.size + 1, 0, none⟩ = some (.int .i64 0) := (HB.out.cell (p := ⟨w.heap.size + 1, 0, none⟩) (by simp)).trans (by go_simp)
        have k4 : wr.cell? ⟨w.heap.size + 1 + 1, 0, none⟩ = some (.int .i64 0) := (HB.out.cell (p := ⟨w.heap.size + 1 + 1, 0, none⟩) (by simp)).trans (by go_simp)
        have j2 : wr.frozen? ⟨w.heap.size, 0, none⟩ = false := (HB.out.frozen (p := ⟨w.heap.size, 0, none⟩) (by simp; omega)).trans (by go_simp)
        have j3 : wr.frozen? ⟨w.heap.size + 1, 0, none⟩ = false := (HB.out.frozen (p := ⟨w.heap.size + 1, 0, none⟩) (by simp)).trans (by go_simp)
        have j4 : wr.frozen? ⟨w.heap.size + 1 + 1, 0, none⟩ = false := (HB.out.frozen (p := ⟨w.heap.size + 1 + 1, 0, none⟩) (by simp)).trans (by go_simp)
        go_wp2_with fail
        go_quiet (fail)
        go_wp2_with fail
        (try simp only [Exit.inBlock, Exit.then])
        refine leaves_cons (f := 20) (args := #[.pointer (some ⟨w.heap.size, 0, none⟩), .pointer (some ⟨w.heap.size + 1, 0, none⟩), .pointer (some ⟨w.heap.size + 1 + 1, 0, none⟩)]) (by simp) (by simp [go_sem]) ?_
        refine (recov_idle _ _ _ _).mono ?_
        rintro e u' w2 ⟨rfl, rfl, rfl⟩
        simp [Leaves, settle, results, Tryd.results11, go_sem, k2, k3, k4, j2, j3, j4]
        rw [HE.out]
        have hR := Kd.R_drewN (row_R2 HO.out) nq
        refine ⟨_, ⟨rfl, rfl, rfl⟩, ?_, ?_⟩
        · exact Kd.R_mono (Kd.R_lower (Kd.R_far (Kd.R_far (Kd.R_far hR (p := ⟨w.heap.size, 0, none⟩) (fun k hk => by simp; omega) _) (p := ⟨w.heap.size + 1, 0, none⟩) (fun k hk => by simp; omega) _) (p := ⟨w.heap.size + 1 + 1, 0, none⟩) (fun k hk => by simp; omega) _) (by omega)) (fun _ _ => trivial)
        · have h0 : Below w.heap.size w wr := ((by repeat (first | exact Below.refl _ _ | apply below_alloc) : Below w.heap.size w ((((w.alloc (Obj.cells #[Value.slice none 0 0] 23)).alloc (Obj.cells #[Value.int IntKind.i64 0] 24)).alloc (Obj.cells #[Value.int IntKind.i64 0] 3)).alloc (Obj.cells #[Value.string s, Value.int IntKind.i64 0, Value.slice none 0 0] 49))).trans (HB.out.mono (by omega)))
          exact (((pw_below_drewN h0 _).setCell (by simp) _).setCell (by simp) _).setCell (by simp; omega) _
end
/-- The tokens, the kind of error and its offset. -/
def lexer_Lex.f (a0 : ByteArray) : Option ((List (S32)) × Int × Int) := some (lexF a0)
theorem lexer_Lex.calls (a0 : ByteArray) (r1 : List (S32)) (r2 : Int) (r3 : Int) (w : World) (h : lexer_Lex.f a0 = some (r1, r2, r3)) :
    Calls Tryd.prog 11 #[.string a0] w fun e w' => ∃ v0_ : Value, e = .returned (.tuple #[v0_, .int .i64 r2, .int .i64 r3]) ∧ Kd.R k32 32 w' w.heap.size (fun _ => True) v0_ r1 ∧ Below w.heap.size w w' := by
  unfold lexer_Lex.f at h
  have e := Option.some.inj h
  by_cases hs : a0.size ≤ 8000
  · have := lex_short a0 w hs
    rw [e] at this
    exact this
  · refine (lex_long a0 w (by omega)).mono ?_
    rintro e2 w' ⟨rfl, hb⟩
    have e3 : lexF a0 = ([], 2, 0) := by unfold lexF; rw [if_pos (by omega)]
    rw [e3] at e
    injection e with e4 e5
    injection e5 with e5 e6
    subst e4 e5 e6
    exact ⟨_, rfl, Kd.R_nil _ _ _ _ _, hb⟩

/-! ### cohousinglaw07_head: function 10 -/
def cohousinglaw07_head.f  : Option (Bool) := (lexer_Lex.f (⟨#[102, 101, 101, 32, 49, 32, 60, 61, 32, 49, 50, 46, 53, 48, 32, 35, 32, 120]⟩ : ByteArray)).bind fun bt104 => ((lexer_Lex.f (⟨#[97, 33, 98]⟩ : ByteArray)).bind fun bt109 => ((lexer_Lex.f (⟨#[32, 49, 50, 97]⟩ : ByteArray)).bind fun bt114 => ((lexer_Lex.f (⟨#[49, 50, 51, 52, 53, 54, 55, 56, 57, 46, 49, 50]⟩ : ByteArray)).bind fun bt119 => (if bt104.2.1 = 0 then (if bt104.2.2 = 0 then (if bt109.2.1 = 10 then (if bt109.2.2 = 1 then (if bt114.2.1 = 8 then (if bt114.2.2 = 1 then (if bt119.2.1 = 3 then (if bt119.2.2 = 0 then (if (bt104.1.length : Int) = 4 then (if 0 < (bt104.1.length : Int) then (if (((rd_T32 bt104.1 0).f0) == 1 && (((rd_T32 bt104.1 0).f1) == 0 && ((((rd_T32 bt104.1 0).f2).toList) == ([102, 101, 101] : List UInt8) && ((((rd_T32 bt104.1 0).f3.f0) == 0 && (((rd_T32 bt104.1 0).f3.f1) == 0)))))) = true then (if 1 < (bt104.1.length : Int) then (if (((rd_T32 bt104.1 1).f0) == 2 && (((rd_T32 bt104.1 1).f1) == 4 && ((((rd_T32 bt104.1 1).f2).toList) == ([] : List UInt8) && ((((rd_T32 bt104.1 1).f3.f0) == 1 && (((rd_T32 bt104.1 1).f3.f1) == 1)))))) = true then (if 2 < (bt104.1.length : Int) then (if (((rd_T32 bt104.1 2).f0) == 3 && (((rd_T32 bt104.1 2).f1) == 6 && ((((rd_T32 bt104.1 2).f2).toList) == ([60, 61] : List UInt8) && ((((rd_T32 bt104.1 2).f3.f0) == 0 && (((rd_T32 bt104.1 2).f3.f1) == 0)))))) = true then (if 3 < (bt104.1.length : Int) then (if (((rd_T32 bt104.1 3).f0) == 2 && (((rd_T32 bt104.1 3).f1) == 9 && ((((rd_T32 bt104.1 3).f2).toList) == ([] : List UInt8) && ((((rd_T32 bt104.1 3).f3.f0) == 25 && (((rd_T32 bt104.1 3).f3.f1) == 2)))))) = true then (some true) else (none)) else (none)) else (none)) else (none)) else (none)) else (none)) else (none)) else (none)) else (none)) else (none)) else (none)) else (none)) else (none)) else (none)) else (none)) else (none)) else (none)))))
set_option maxHeartbeats 8000000 in
set_option maxRecDepth 100000 in
theorem cohousinglaw07_head.calls  (r : Bool) (w : World) (h : cohousinglaw07_head.f  = some r) :
    Calls Tryd.prog 10 #[] w fun e w' => e = .returned (.bool r) ∧ Below w.heap.size w w' := by
  have hu32 := Tryd.underlying32
  have hu30 := Tryd.underlying30
  have HB := Aside0.mk (Below.refl w.heap.size w)
  have H : ((lexer_Lex.f (⟨#[102, 101, 101, 32, 49, 32, 60, 61, 32, 49, 50, 46, 53, 48, 32, 35, 32, 120]⟩ : ByteArray)).bind fun bt104 => ((lexer_Lex.f (⟨#[97, 33, 98]⟩ : ByteArray)).bind fun bt109 => ((lexer_Lex.f (⟨#[32, 49, 50, 97]⟩ : ByteArray)).bind fun bt114 => ((lexer_Lex.f (⟨#[49, 50, 51, 52, 53, 54, 55, 56, 57, 46, 49, 50]⟩ : ByteArray)).bind fun bt119 => (if bt104.2.1 = 0 then (if bt104.2.2 = 0 then (if bt109.2.1 = 10 then (if bt109.2.2 = 1 then (if bt114.2.1 = 8 then (if bt114.2.2 = 1 then (if bt119.2.1 = 3 then (if bt119.2.2 = 0 then (if (bt104.1.length : Int) = 4 then (if 0 < (bt104.1.length : Int) then (if (((rd_T32 bt104.1 0).f0) == 1 && (((rd_T32 bt104.1 0).f1) == 0 && ((((rd_T32 bt104.1 0).f2).toList) == ([102, 101, 101] : List UInt8) && ((((rd_T32 bt104.1 0).f3.f0) == 0 && (((rd_T32 bt104.1 0).f3.f1) == 0)))))) = true then (if 1 < (bt104.1.length : Int) then (if (((rd_T32 bt104.1 1).f0) == 2 && (((rd_T32 bt104.1 1).f1) == 4 && ((((rd_T32 bt104.1 1).f2).toList) == ([] : List UInt8) && ((((rd_T32 bt104.1 1).f3.f0) == 1 && (((rd_T32 bt104.1 1).f3.f1) == 1)))))) = true then (if 2 < (bt104.1.length : Int) then (if (((rd_T32 bt104.1 2).f0) == 3 && (((rd_T32 bt104.1 2).f1) == 6 && ((((rd_T32 bt104.1 2).f2).toList) == ([60, 61] : List UInt8) && ((((rd_T32 bt104.1 2).f3.f0) == 0 && (((rd_T32 bt104.1 2).f3.f1) == 0)))))) = true then (if 3 < (bt104.1.length : Int) then (if (((rd_T32 bt104.1 3).f0) == 2 && (((rd_T32 bt104.1 3).f1) == 9 && ((((rd_T32 bt104.1 3).f2).toList) == ([] : List UInt8) && ((((rd_T32 bt104.1 3).f3.f0) == 25 && (((rd_T32 bt104.1 3).f3.f1) == 2)))))) = true then (some true) else (none)) else (none)) else (none)) else (none)) else (none)) else (none)) else (none)) else (none)) else (none)) else (none)) else (none)) else (none)) else (none)) else (none)) else (none)) else (none)) else (none)))))) = some r := h
  clear h
  replace H := Option.bind_eq_some_iff.mp H
  obtain ⟨⟨t104, t105, t106⟩, A10, H⟩ := H
  replace H : ((lexer_Lex.f (⟨#[97, 33, 98]⟩ : ByteArray)).bind fun bt109 => ((lexer_Lex.f (⟨#[32, 49, 50, 97]⟩ : ByteArray)).bind fun bt114 => ((lexer_Lex.f (⟨#[49, 50, 51, 52, 53, 54, 55, 56, 57, 46, 49, 50]⟩ : ByteArray)).bind fun bt119 => (if t105 = 0 then (if t106 = 0 then (if bt109.2.1 = 10 then (if bt109.2.2 = 1 then (if bt114.2.1 = 8 then (if bt114.2.2 = 1 then (if bt119.2.1 = 3 then (if bt119.2.2 = 0 then (if (t104.length : Int) = 4 then (if 0 < (t104.length : Int) then (if (((rd_T32 t104 0).f0) == 1 && (((rd_T32 t104 0).f1) == 0 && ((((rd_T32 t104 0).f2).toList) == ([102, 101, 101] : List UInt8) && ((((rd_T32 t104 0).f3.f0) == 0 && (((rd_T32 t104 0).f3.f1) == 0)))))) = true then (if 1 < (t104.length : Int) then (if (((rd_T32 t104 1).f0) == 2 && (((rd_T32 t104 1).f1) == 4 && ((((rd_T32 t104 1).f2).toList) == ([] : List UInt8) && ((((rd_T32 t104 1).f3.f0) == 1 && (((rd_T32 t104 1).f3.f1) == 1)))))) = true then (if 2 < (t104.length : Int) then (if (((rd_T32 t104 2).f0) == 3 && (((rd_T32 t104 2).f1) == 6 && ((((rd_T32 t104 2).f2).toList) == ([60, 61] : List UInt8) && ((((rd_T32 t104 2).f3.f0) == 0 && (((rd_T32 t104 2).f3.f1) == 0)))))) = true then (if 3 < (t104.length : Int) then (if (((rd_T32 t104 3).f0) == 2 && (((rd_T32 t104 3).f1) == 9 && ((((rd_T32 t104 3).f2).toList) == ([] : List UInt8) && ((((rd_T32 t104 3).f3.f0) == 25 && (((rd_T32 t104 3).f3.f1) == 2)))))) = true then (some true) else (none)) else (none)) else (none)) else (none)) else (none)) else (none)) else (none)) else (none)) else (none)) else (none)) else (none)) else (none)) else (none)) else (none)) else (none)) else (none)) else (none))))) = some r := H
  have A1 := Aside0.mk A10
  clear A10
  replace H := Option.bind_eq_some_iff.mp H
  obtain ⟨⟨t109, t110, t111⟩, A20, H⟩ := H
  replace H : ((lexer_Lex.f (⟨#[32, 49, 50, 97]⟩ : ByteArray)).bind fun bt114 => ((lexer_Lex.f (⟨#[49, 50, 51, 52, 53, 54, 55, 56, 57, 46, 49, 50]⟩ : ByteArray)).bind fun bt119 => (if t105 = 0 then (if t106 = 0 then (if t110 = 10 then (if t111 = 1 then (if bt114.2.1 = 8 then (if bt114.2.2 = 1 then (if bt119.2.1 = 3 then (if bt119.2.2 = 0 then (if (t104.length : Int) = 4 then (if 0 < (t104.length : Int) then (if (((rd_T32 t104 0).f0) == 1 && (((rd_T32 t104 0).f1) == 0 && ((((rd_T32 t104 0).f2).toList) == ([102, 101, 101] : List UInt8) && ((((rd_T32 t104 0).f3.f0) == 0 && (((rd_T32 t104 0).f3.f1) == 0)))))) = true then (if 1 < (t104.length : Int) then (if (((rd_T32 t104 1).f0) == 2 && (((rd_T32 t104 1).f1) == 4 && ((((rd_T32 t104 1).f2).toList) == ([] : List UInt8) && ((((rd_T32 t104 1).f3.f0) == 1 && (((rd_T32 t104 1).f3.f1) == 1)))))) = true then (if 2 < (t104.length : Int) then (if (((rd_T32 t104 2).f0) == 3 && (((rd_T32 t104 2).f1) == 6 && ((((rd_T32 t104 2).f2).toList) == ([60, 61] : List UInt8) && ((((rd_T32 t104 2).f3.f0) == 0 && (((rd_T32 t104 2).f3.f1) == 0)))))) = true then (if 3 < (t104.length : Int) then (if (((rd_T32 t104 3).f0) == 2 && (((rd_T32 t104 3).f1) == 9 && ((((rd_T32 t104 3).f2).toList) == ([] : List UInt8) && ((((rd_T32 t104 3).f3.f0) == 25 && (((rd_T32 t104 3).f3.f1) == 2)))))) = true then (some true) else (none)) else (none)) else (none)) else (none)) else (none)) else (none)) else (none)) else (none)) else (none)) else (none)) else (none)) else (none)) else (none)) else (none)) else (none)) else (none)) else (none)))) = some r := H
  have A2 := Aside0.mk A20
  clear A20
  replace H := Option.bind_eq_some_iff.mp H
  obtain ⟨⟨t114, t115, t116⟩, A30, H⟩ := H
  replace H : ((lexer_Lex.f (⟨#[49, 50, 51, 52, 53, 54, 55, 56, 57, 46, 49, 50]⟩ : ByteArray)).bind fun bt119 => (if t105 = 0 then (if t106 = 0 then (if t110 = 10 then (if t111 = 1 then (if t115 = 8 then (if t116 = 1 then (if bt119.2.1 = 3 then (if bt119.2.2 = 0 then (if (t104.length : Int) = 4 then (if 0 < (t104.length : Int) then (if (((rd_T32 t104 0).f0) == 1 && (((rd_T32 t104 0).f1) == 0 && ((((rd_T32 t104 0).f2).toList) == ([102, 101, 101] : List UInt8) && ((((rd_T32 t104 0).f3.f0) == 0 && (((rd_T32 t104 0).f3.f1) == 0)))))) = true then (if 1 < (t104.length : Int) then (if (((rd_T32 t104 1).f0) == 2 && (((rd_T32 t104 1).f1) == 4 && ((((rd_T32 t104 1).f2).toList) == ([] : List UInt8) && ((((rd_T32 t104 1).f3.f0) == 1 && (((rd_T32 t104 1).f3.f1) == 1)))))) = true then (if 2 < (t104.length : Int) then (if (((rd_T32 t104 2).f0) == 3 && (((rd_T32 t104 2).f1) == 6 && ((((rd_T32 t104 2).f2).toList) == ([60, 61] : List UInt8) && ((((rd_T32 t104 2).f3.f0) == 0 && (((rd_T32 t104 2).f3.f1) == 0)))))) = true then (if 3 < (t104.length : Int) then (if (((rd_T32 t104 3).f0) == 2 && (((rd_T32 t104 3).f1) == 9 && ((((rd_T32 t104 3).f2).toList) == ([] : List UInt8) && ((((rd_T32 t104 3).f3.f0) == 25 && (((rd_T32 t104 3).f3.f1) == 2)))))) = true then (some true) else (none)) else (none)) else (none)) else (none)) else (none)) else (none)) else (none)) else (none)) else (none)) else (none)) else (none)) else (none)) else (none)) else (none)) else (none)) else (none)) else (none))) = some r := H
  have A3 := Aside0.mk A30
  clear A30
  replace H := Option.bind_eq_some_iff.mp H
  obtain ⟨⟨t119, t120, t121⟩, A40, H⟩ := H
  replace H : (if t105 = 0 then (if t106 = 0 then (if t110 = 10 then (if t111 = 1 then (if t115 = 8 then (if t116 = 1 then (if t120 = 3 then (if t121 = 0 then (if (t104.length : Int) = 4 then (if 0 < (t104.length : Int) then (if (((rd_T32 t104 0).f0) == 1 && (((rd_T32 t104 0).f1) == 0 && ((((rd_T32 t104 0).f2).toList) == ([102, 101, 101] : List UInt8) && ((((rd_T32 t104 0).f3.f0) == 0 && (((rd_T32 t104 0).f3.f1) == 0)))))) = true then (if 1 < (t104.length : Int) then (if (((rd_T32 t104 1).f0) == 2 && (((rd_T32 t104 1).f1) == 4 && ((((rd_T32 t104 1).f2).toList) == ([] : List UInt8) && ((((rd_T32 t104 1).f3.f0) == 1 && (((rd_T32 t104 1).f3.f1) == 1)))))) = true then (if 2 < (t104.length : Int) then (if (((rd_T32 t104 2).f0) == 3 && (((rd_T32 t104 2).f1) == 6 && ((((rd_T32 t104 2).f2).toList) == ([60, 61] : List UInt8) && ((((rd_T32 t104 2).f3.f0) == 0 && (((rd_T32 t104 2).f3.f1) == 0)))))) = true then (if 3 < (t104.length : Int) then (if (((rd_T32 t104 3).f0) == 2 && (((rd_T32 t104 3).f1) == 9 && ((((rd_T32 t104 3).f2).toList) == ([] : List UInt8) && ((((rd_T32 t104 3).f3.f0) == 25 && (((rd_T32 t104 3).f3.f1) == 2)))))) = true then (some true) else (none)) else (none)) else (none)) else (none)) else (none)) else (none)) else (none)) else (none)) else (none)) else (none)) else (none)) else (none)) else (none)) else (none)) else (none)) else (none)) else (none)) = some r := H
  have A4 := Aside0.mk A40
  clear A40
  by_cases c5 : t105 = 0
  · rw [if_pos c5] at H
    have c5b0 : (t105 == 0) = true := beq_iff_eq.mpr c5
    have c5b1 : (t105 != 0) = false := bne_eq_false_iff_eq.mpr c5
    clear c5
    by_cases c6 : t106 = 0
    · rw [if_pos c6] at H
      have c6b0 : (t106 == 0) = true := beq_iff_eq.mpr c6
      have c6b1 : (t106 != 0) = false := bne_eq_false_iff_eq.mpr c6
      clear c6
      by_cases c7 : t110 = 10
      · rw [if_pos c7] at H
        have c7b0 : (t110 == 10) = true := beq_iff_eq.mpr c7
        have c7b1 : (t110 != 10) = false := bne_eq_false_iff_eq.mpr c7
        clear c7
        by_cases c8 : t111 = 1
        · rw [if_pos c8] at H
          have c8b0 : (t111 == 1) = true := beq_iff_eq.mpr c8
          have c8b1 : (t111 != 1) = false := bne_eq_false_iff_eq.mpr c8
          clear c8
          by_cases c9 : t115 = 8
          · rw [if_pos c9] at H
            have c9b0 : (t115 == 8) = true := beq_iff_eq.mpr c9
            have c9b1 : (t115 != 8) = false := bne_eq_false_iff_eq.mpr c9
            clear c9
            by_cases c10 : t116 = 1
            · rw [if_pos c10] at H
              have c10b0 : (t116 == 1) = true := beq_iff_eq.mpr c10
              have c10b1 : (t116 != 1) = false := bne_eq_false_iff_eq.mpr c10
              clear c10
              by_cases c11 : t120 = 3
              · rw [if_pos c11] at H
                have c11b0 : (t120 == 3) = true := beq_iff_eq.mpr c11
                have c11b1 : (t120 != 3) = false := bne_eq_false_iff_eq.mpr c11
                clear c11
                by_cases c12 : t121 = 0
                · rw [if_pos c12] at H
                  have c12b0 : (t121 == 0) = true := beq_iff_eq.mpr c12
                  have c12b1 : (t121 != 0) = false := bne_eq_false_iff_eq.mpr c12
                  clear c12
                  by_cases c13 : (t104.length : Int) = 4
                  · rw [if_pos c13] at H
                    have c13b0 : ((t104.length : Int) == 4) = true := beq_iff_eq.mpr c13
                    have c13b1 : ((t104.length : Int) != 4) = false := bne_eq_false_iff_eq.mpr c13
                    clear c13
                    by_cases c14 : 0 < (t104.length : Int)
                    · rw [if_pos c14] at H
                      have c14b0 : decide (0 < (t104.length : Int)) = true := decide_eq_true c14
                      have c14b1 : decide (0 < t104.length) = true := decide_eq_true (by omega)
                      clear c14
                      by_cases c15 : (((rd_T32 t104 0).f0) == 1 && (((rd_T32 t104 0).f1) == 0 && ((((rd_T32 t104 0).f2).toList) == ([102, 101, 101] : List UInt8) && ((((rd_T32 t104 0).f3.f0) == 0 && (((rd_T32 t104 0).f3.f1) == 0)))))) = true
                      · rw [if_pos c15] at H
                        have c15b0 : (((rd_T32 t104 0).f0) == 1 && (((rd_T32 t104 0).f1) == 0 && ((((rd_T32 t104 0).f2).toList) == ([102, 101, 101] : List UInt8) && ((((rd_T32 t104 0).f3.f0) == 0 && (((rd_T32 t104 0).f3.f1) == 0)))))) = true := c15
                        (try (have c15b1 : decide (((rd_T32 t104 0).f0) = 1 && (((rd_T32 t104 0).f1) == 0 && ((((rd_T32 t104 0).f2).toList) == ([102, 101, 101] : List UInt8) && ((((rd_T32 t104 0).f3.f0) == 0 && (((rd_T32 t104 0).f3.f1) == 0)))))) = true := by simpa using c15))
                        (try (have c15b2 : (((rd_T32 t104 0).f0) == 1 && (((rd_T32 t104 0).f1) == 0 && ((((rd_T32 t104 0).f2).toList) == ([102, 101, 101] : List UInt8) && ((((rd_T32 t104 0).f3.f0) == 0 && (((rd_T32 t104 0).f3.f1) == 0)))))) = true := by simpa using c15))
                        clear c15
                        by_cases c16 : 1 < (t104.length : Int)
                        · rw [if_pos c16] at H
                          have c16b0 : decide (1 < (t104.length : Int)) = true := decide_eq_true c16
                          have c16b1 : decide (1 < t104.length) = true := decide_eq_true (by omega)
                          clear c16
                          by_cases c17 : (((rd_T32 t104 1).f0) == 2 && (((rd_T32 t104 1).f1) == 4 && ((((rd_T32 t104 1).f2).toList) == ([] : List UInt8) && ((((rd_T32 t104 1).f3.f0) == 1 && (((rd_T32 t104 1).f3.f1) == 1)))))) = true
                          · rw [if_pos c17] at H
                            have c17b0 : (((rd_T32 t104 1).f0) == 2 && (((rd_T32 t104 1).f1) == 4 && ((((rd_T32 t104 1).f2).toList) == ([] : List UInt8) && ((((rd_T32 t104 1).f3.f0) == 1 && (((rd_T32 t104 1).f3.f1) == 1)))))) = true := c17
                            (try (have c17b9 : (((rd_T32 t104 1).f0) == 2 && (((rd_T32 t104 1).f1) == 4 && ((((rd_T32 t104 1).f2).toList).isEmpty && ((((rd_T32 t104 1).f3.f0) == 1 && (((rd_T32 t104 1).f3.f1) == 1)))))) = true := by simpa using c17))
                            (try (have c17b1 : decide (((rd_T32 t104 1).f0) = 2 && (((rd_T32 t104 1).f1) == 4 && ((((rd_T32 t104 1).f2).toList) == ([] : List UInt8) && ((((rd_T32 t104 1).f3.f0) == 1 && (((rd_T32 t104 1).f3.f1) == 1)))))) = true := by simpa using c17))
                            (try (have c17b2 : (((rd_T32 t104 1).f0) == 2 && (((rd_T32 t104 1).f1) == 4 && ((((rd_T32 t104 1).f2).toList) == ([] : List UInt8) && ((((rd_T32 t104 1).f3.f0) == 1 && (((rd_T32 t104 1).f3.f1) == 1)))))) = true := by simpa using c17))
                            clear c17
                            by_cases c18 : 2 < (t104.length : Int)
                            · rw [if_pos c18] at H
                              have c18b0 : decide (2 < (t104.length : Int)) = true := decide_eq_true c18
                              have c18b1 : decide (2 < t104.length) = true := decide_eq_true (by omega)
                              clear c18
                              by_cases c19 : (((rd_T32 t104 2).f0) == 3 && (((rd_T32 t104 2).f1) == 6 && ((((rd_T32 t104 2).f2).toList) == ([60, 61] : List UInt8) && ((((rd_T32 t104 2).f3.f0) == 0 && (((rd_T32 t104 2).f3.f1) == 0)))))) = true
                              · rw [if_pos c19] at H
                                have c19b0 : (((rd_T32 t104 2).f0) == 3 && (((rd_T32 t104 2).f1) == 6 && ((((rd_T32 t104 2).f2).toList) == ([60, 61] : List UInt8) && ((((rd_T32 t104 2).f3.f0) == 0 && (((rd_T32 t104 2).f3.f1) == 0)))))) = true := c19
                                (try (have c19b1 : decide (((rd_T32 t104 2).f0) = 3 && (((rd_T32 t104 2).f1) == 6 && ((((rd_T32 t104 2).f2).toList) == ([60, 61] : List UInt8) && ((((rd_T32 t104 2).f3.f0) == 0 && (((rd_T32 t104 2).f3.f1) == 0)))))) = true := by simpa using c19))
                                (try (have c19b2 : (((rd_T32 t104 2).f0) == 3 && (((rd_T32 t104 2).f1) == 6 && ((((rd_T32 t104 2).f2).toList) == ([60, 61] : List UInt8) && ((((rd_T32 t104 2).f3.f0) == 0 && (((rd_T32 t104 2).f3.f1) == 0)))))) = true := by simpa using c19))
                                clear c19
                                by_cases c20 : 3 < (t104.length : Int)
                                · rw [if_pos c20] at H
                                  have c20b0 : decide (3 < (t104.length : Int)) = true := decide_eq_true c20
                                  have c20b1 : decide (3 < t104.length) = true := decide_eq_true (by omega)
                                  clear c20
                                  by_cases c21 : (((rd_T32 t104 3).f0) == 2 && (((rd_T32 t104 3).f1) == 9 && ((((rd_T32 t104 3).f2).toList) == ([] : List UInt8) && ((((rd_T32 t104 3).f3.f0) == 25 && (((rd_T32 t104 3).f3.f1) == 2)))))) = true
                                  · rw [if_pos c21] at H
                                    have c21b0 : (((rd_T32 t104 3).f0) == 2 && (((rd_T32 t104 3).f1) == 9 && ((((rd_T32 t104 3).f2).toList) == ([] : List UInt8) && ((((rd_T32 t104 3).f3.f0) == 25 && (((rd_T32 t104 3).f3.f1) == 2)))))) = true := c21
                                    (try (have c21b9 : (((rd_T32 t104 3).f0) == 2 && (((rd_T32 t104 3).f1) == 9 && ((((rd_T32 t104 3).f2).toList).isEmpty && ((((rd_T32 t104 3).f3.f0) == 25 && (((rd_T32 t104 3).f3.f1) == 2)))))) = true := by simpa using c21))
                                    (try (have c21b1 : decide (((rd_T32 t104 3).f0) = 2 && (((rd_T32 t104 3).f1) == 9 && ((((rd_T32 t104 3).f2).toList) == ([] : List UInt8) && ((((rd_T32 t104 3).f3.f0) == 25 && (((rd_T32 t104 3).f3.f1) == 2)))))) = true := by simpa using c21))
                                    (try (have c21b2 : (((rd_T32 t104 3).f0) == 2 && (((rd_T32 t104 3).f1) == 9 && ((((rd_T32 t104 3).f2).toList) == ([] : List UInt8) && ((((rd_T32 t104 3).f3.f0) == 25 && (((rd_T32 t104 3).f3.f1) == 2)))))) = true := by simpa using c21))
                                    clear c21
                                    obtain rfl := Option.some.inj H
                                    go_enter Tryd.func10, Tryd.ntmps10
                                    go_wp2_with (first | ((with_reducible refine gate_callee (f := 11) rfl ?_); refine goesL_ (some 14) rfl rfl Tryd.func11 (by kernel_rfl) rfl #[.string (⟨#[102, 101, 101, 32, 49, 32, 60, 61, 32, 49, 50, 46, 53, 48, 32, 35, 32, 120]⟩ : ByteArray)] rfl (by (try simp only [List.map_toArray, List.map_cons, List.map_nil]); first | done | rfl | (simp only [List.length_drop, List.length_take]; rfl)) ?_; (with_reducible refine (lexer_Lex.calls (⟨#[102, 101, 101, 32, 49, 32, 60, 61, 32, 49, 50, 46, 53, 48, 32, 35, 32, 120]⟩ : ByteArray) t104 t105 t106 _ A1.out).mono ?_); rintro e w22 ⟨v107, rfl, ho0, hb⟩; refine ⟨_, rfl, ?_⟩; have n0_ := Aside0.mk (Kd.R_lower ho0 (below_size (by repeat (first | (with_reducible first | exact HB.out | apply below_alloc | apply pw_below_drewN | apply below_drew1) | exact HB.out)))); have n1_ := Aside0.mk (below_step (by repeat (first | (with_reducible first | exact HB.out | apply below_alloc | apply pw_below_drewN | apply below_drew1) | exact HB.out)) hb); clear HB; have HO108 := n0_; have HB := n1_; clear n0_ n1_; (try clear hb); (try clear hb2); (try clear hk); (try clear hi); (try clear ho0)) | ((with_reducible refine gate_callee (f := 11) rfl ?_); refine goesL_ (some 19) rfl rfl Tryd.func11 (by kernel_rfl) rfl #[.string (⟨#[97, 33, 98]⟩ : ByteArray)] rfl (by (try simp only [List.map_toArray, List.map_cons, List.map_nil]); first | done | rfl | (simp only [List.length_drop, List.length_take]; rfl)) ?_; (with_reducible refine (lexer_Lex.calls (⟨#[97, 33, 98]⟩ : ByteArray) t109 t110 t111 _ A2.out).mono ?_); rintro e w23 ⟨v112, rfl, ho0, hb⟩; refine ⟨_, rfl, ?_⟩; have n0_ := Aside0.mk (Kd.R_elder' (by (with_reducible repeat (first | apply Kd.R_alloc | apply Kd.R_drewN | apply Kd.R_drew)); exact HO108.out) (Kd.R_base ho0) hb); have n1_ := Aside0.mk (Kd.R_lower (Kd.R_new' ho0 (Kd.R_lt (by (with_reducible repeat (first | apply Kd.R_alloc | apply Kd.R_drewN | apply Kd.R_drew)); exact HO108.out))) (below_size (by repeat (first | (with_reducible first | exact HB.out | apply below_alloc | apply pw_below_drewN | apply below_drew1) | exact HB.out)))); have n2_ := Aside0.mk (below_step (by repeat (first | (with_reducible first | exact HB.out | apply below_alloc | apply pw_below_drewN | apply below_drew1) | exact HB.out)) hb); clear HO108; clear HB; have HO108 := n0_; have HO113 := n1_; have HB := n2_; clear n0_ n1_ n2_; (try clear hb); (try clear hb2); (try clear hk); (try clear hi); (try clear ho0)) | ((with_reducible refine gate_callee (f := 11) rfl ?_); refine goesL_ (some 24) rfl rfl Tryd.func11 (by kernel_rfl) rfl #[.string (⟨#[32, 49, 50, 97]⟩ : ByteArray)] rfl (by (try simp only [List.map_toArray, List.map_cons, List.map_nil]); first | done | rfl | (simp only [List.length_drop, List.length_take]; rfl)) ?_; (with_reducible refine (lexer_Lex.calls (⟨#[32, 49, 50, 97]⟩ : ByteArray) t114 t115 t116 _ A3.out).mono ?_); rintro e w24 ⟨v117, rfl, ho0, hb⟩; refine ⟨_, rfl, ?_⟩; have n0_ := Aside0.mk (Kd.R_elder' (by (with_reducible repeat (first | apply Kd.R_alloc | apply Kd.R_drewN | apply Kd.R_drew)); exact HO108.out) (Kd.R_base ho0) hb); have n1_ := Aside0.mk (Kd.R_elder' (by (with_reducible repeat (first | apply Kd.R_alloc | apply Kd.R_drewN | apply Kd.R_drew)); exact HO113.out) (Kd.R_base ho0) hb); have n2_ := Aside0.mk (Kd.R_lower (Kd.R_new' (Kd.R_new' ho0 (Kd.R_lt (by (with_reducible repeat (first | apply Kd.R_alloc | apply Kd.R_drewN | apply Kd.R_drew)); exact HO108.out))) (Kd.R_lt (by (with_reducible repeat (first | apply Kd.R_alloc | apply Kd.R_drewN | apply Kd.R_drew)); exact HO113.out))) (below_size (by repeat (first | (with_reducible first | exact HB.out | apply below_alloc | apply pw_below_drewN | apply below_drew1) | exact HB.out)))); have n3_ := Aside0.mk (below_step (by repeat (first | (with_reducible first | exact HB.out | apply below_alloc | apply pw_below_drewN | apply below_drew1) | exact HB.out)) hb); clear HO108; clear HO113; clear HB; have HO108 := n0_; have HO113 := n1_; have HO118 := n2_; have HB := n3_; clear n0_ n1_ n2_ n3_; (try clear hb); (try clear hb2); (try clear hk); (try clear hi); (try clear ho0)) | ((with_reducible refine gate_callee (f := 11) rfl ?_); refine goesL_ (some 29) rfl rfl Tryd.func11 (by kernel_rfl) rfl #[.string (⟨#[49, 50, 51, 52, 53, 54, 55, 56, 57, 46, 49, 50]⟩ : ByteArray)] rfl (by (try simp only [List.map_toArray, List.map_cons, List.map_nil]); first | done | rfl | (simp only [List.length_drop, List.length_take]; rfl)) ?_; (with_reducible refine (lexer_Lex.calls (⟨#[49, 50, 51, 52, 53, 54, 55, 56, 57, 46, 49, 50]⟩ : ByteArray) t119 t120 t121 _ A4.out).mono ?_); rintro e w25 ⟨v122, rfl, ho0, hb⟩; refine ⟨_, rfl, ?_⟩; have n0_ := Aside0.mk (Kd.R_elder' (by (with_reducible repeat (first | apply Kd.R_alloc | apply Kd.R_drewN | apply Kd.R_drew)); exact HO108.out) (Kd.R_base ho0) hb); have n1_ := Aside0.mk (Kd.R_elder' (by (with_reducible repeat (first | apply Kd.R_alloc | apply Kd.R_drewN | apply Kd.R_drew)); exact HO113.out) (Kd.R_base ho0) hb); have n2_ := Aside0.mk (Kd.R_elder' (by (with_reducible repeat (first | apply Kd.R_alloc | apply Kd.R_drewN | apply Kd.R_drew)); exact HO118.out) (Kd.R_base ho0) hb); have n3_ := Aside0.mk (Kd.R_lower (Kd.R_new' (Kd.R_new' (Kd.R_new' ho0 (Kd.R_lt (by (with_reducible repeat (first | apply Kd.R_alloc | apply Kd.R_drewN | apply Kd.R_drew)); exact HO108.out))) (Kd.R_lt (by (with_reducible repeat (first | apply Kd.R_alloc | apply Kd.R_drewN | apply Kd.R_drew)); exact HO113.out))) (Kd.R_lt (by (with_reducible repeat (first | apply Kd.R_alloc | apply Kd.R_drewN | apply Kd.R_drew)); exact HO118.out))) (below_size (by repeat (first | (with_reducible first | exact HB.out | apply below_alloc | apply pw_below_drewN | apply below_drew1) | exact HB.out)))); have n4_ := Aside0.mk (below_step (by repeat (first | (with_reducible first | exact HB.out | apply below_alloc | apply pw_below_drewN | apply below_drew1) | exact HB.out)) hb); clear HO108; clear HO113; clear HO118; clear HB; have HO108 := n0_; have HO113 := n1_; have HO118 := n2_; have HO123 := n3_; have HB := n4_; clear n0_ n1_ n2_ n3_ n4_; (try clear hb); (try clear hb2); (try clear hk); (try clear hi); (try clear ho0); obtain ⟨Ao26, co26, eo26⟩ := Kd.R_slice HO108.out; subst eo26; have p124 : 0 ≤ (0 : Int) := (by omega); have q124 : 0 < (t104.length : Int) := of_decide_eq_true (by first | (with_reducible assumption) | assumption); obtain ⟨ad124, e124, hx124_0, hx124_1, hx124_2, hx124_3, hx124_4⟩ := at_T32 (Kd.R_reads' HO108.out).2.2 0 p124 q124; cases e124; have qi124 : (0 < t104.length) = True := eq_true (by omega); (try rw [show ((0 : Int)).toNat = 0 from rfl] at hx124_0); (try rw [show 0 * 5 = 0 from rfl] at hx124_0); (try rw [Addr.add_zero'] at hx124_0); (try rw [show ((0 : Int)).toNat = 0 from rfl] at hx124_1); (try rw [show 0 * 5 = 0 from rfl] at hx124_1); (try rw [Addr.add_zero'] at hx124_1); (try rw [show ((0 : Int)).toNat = 0 from rfl] at hx124_2); (try rw [show 0 * 5 = 0 from rfl] at hx124_2); (try rw [Addr.add_zero'] at hx124_2); (try rw [show ((0 : Int)).toNat = 0 from rfl] at hx124_3); (try rw [show 0 * 5 = 0 from rfl] at hx124_3); (try rw [Addr.add_zero'] at hx124_3); (try rw [show ((0 : Int)).toNat = 0 from rfl] at hx124_4); (try rw [show 0 * 5 = 0 from rfl] at hx124_4); (try rw [Addr.add_zero'] at hx124_4); replace p124 := eq_true p124; replace q124 := eq_true q124; have p125 : 0 ≤ (1 : Int) := (by omega); have q125 : 1 < (t104.length : Int) := of_decide_eq_true (by first | (with_reducible assumption) | assumption); obtain ⟨ad125, e125, hx125_0, hx125_1, hx125_2, hx125_3, hx125_4⟩ := at_T32 (Kd.R_reads' HO108.out).2.2 1 p125 q125; obtain rfl : ad124 = ad125 := (by injection e125); (try simp only [show (1 : Int).toNat = 1 from rfl, Nat.reduceMul, Nat.reduceEqDiff, Go.Addr.add, ↓reduceIte] at hx125_0); (try simp only [show (1 : Int).toNat = 1 from rfl, Nat.reduceMul, Nat.reduceEqDiff, Go.Addr.add, ↓reduceIte] at hx125_1); (try simp only [show (1 : Int).toNat = 1 from rfl, Nat.reduceMul, Nat.reduceEqDiff, Go.Addr.add, ↓reduceIte] at hx125_2); (try simp only [show (1 : Int).toNat = 1 from rfl, Nat.reduceMul, Nat.reduceEqDiff, Go.Addr.add, ↓reduceIte] at hx125_3); (try simp only [show (1 : Int).toNat = 1 from rfl, Nat.reduceMul, Nat.reduceEqDiff, Go.Addr.add, ↓reduceIte] at hx125_4); have qi125 : (1 < t104.length) = True := eq_true (by omega); (try rw [show ((1 : Int)).toNat = 1 from rfl] at hx125_0); (try rw [show 1 * 5 = 5 from rfl] at hx125_0); (try rw [show ((1 : Int)).toNat = 1 from rfl] at hx125_1); (try rw [show 1 * 5 = 5 from rfl] at hx125_1); (try rw [show ((1 : Int)).toNat = 1 from rfl] at hx125_2); (try rw [show 1 * 5 = 5 from rfl] at hx125_2); (try rw [show ((1 : Int)).toNat = 1 from rfl] at hx125_3); (try rw [show 1 * 5 = 5 from rfl] at hx125_3); (try rw [show ((1 : Int)).toNat = 1 from rfl] at hx125_4); (try rw [show 1 * 5 = 5 from rfl] at hx125_4); replace p125 := eq_true p125; replace q125 := eq_true q125; have p126 : 0 ≤ (2 : Int) := (by omega); have q126 : 2 < (t104.length : Int) := of_decide_eq_true (by first | (with_reducible assumption) | assumption); obtain ⟨ad126, e126, hx126_0, hx126_1, hx126_2, hx126_3, hx126_4⟩ := at_T32 (Kd.R_reads' HO108.out).2.2 2 p126 q126; obtain rfl : ad124 = ad126 := (by injection e126); (try simp only [show (2 : Int).toNat = 2 from rfl, Nat.reduceMul, Nat.reduceEqDiff, Go.Addr.add, ↓reduceIte] at hx126_0); (try simp only [show (2 : Int).toNat = 2 from rfl, Nat.reduceMul, Nat.reduceEqDiff, Go.Addr.add, ↓reduceIte] at hx126_1); (try simp only [show (2 : Int).toNat = 2 from rfl, Nat.reduceMul, Nat.reduceEqDiff, Go.Addr.add, ↓reduceIte] at hx126_2); (try simp only [show (2 : Int).toNat = 2 from rfl, Nat.reduceMul, Nat.reduceEqDiff, Go.Addr.add, ↓reduceIte] at hx126_3); (try simp only [show (2 : Int).toNat = 2 from rfl, Nat.reduceMul, Nat.reduceEqDiff, Go.Addr.add, ↓reduceIte] at hx126_4); have qi126 : (2 < t104.length) = True := eq_true (by omega); (try rw [show ((2 : Int)).toNat = 2 from rfl] at hx126_0); (try rw [show 2 * 5 = 10 from rfl] at hx126_0); (try rw [show ((2 : Int)).toNat = 2 from rfl] at hx126_1); (try rw [show 2 * 5 = 10 from rfl] at hx126_1); (try rw [show ((2 : Int)).toNat = 2 from rfl] at hx126_2); (try rw [show 2 * 5 = 10 from rfl] at hx126_2); (try rw [show ((2 : Int)).toNat = 2 from rfl] at hx126_3); (try rw [show 2 * 5 = 10 from rfl] at hx126_3); (try rw [show ((2 : Int)).toNat = 2 from rfl] at hx126_4); (try rw [show 2 * 5 = 10 from rfl] at hx126_4); replace p126 := eq_true p126; replace q126 := eq_true q126; have p127 : 0 ≤ (3 : Int) := (by omega); have q127 : 3 < (t104.length : Int) := of_decide_eq_true (by first | (with_reducible assumption) | assumption); obtain ⟨ad127, e127, hx127_0, hx127_1, hx127_2, hx127_3, hx127_4⟩ := at_T32 (Kd.R_reads' HO108.out).2.2 3 p127 q127; obtain rfl : ad124 = ad127 := (by injection e127); (try simp only [show (3 : Int).toNat = 3 from rfl, Nat.reduceMul, Nat.reduceEqDiff, Go.Addr.add, ↓reduceIte] at hx127_0); (try simp only [show (3 : Int).toNat = 3 from rfl, Nat.reduceMul, Nat.reduceEqDiff, Go.Addr.add, ↓reduceIte] at hx127_1); (try simp only [show (3 : Int).toNat = 3 from rfl, Nat.reduceMul, Nat.reduceEqDiff, Go.Addr.add, ↓reduceIte] at hx127_2); (try simp only [show (3 : Int).toNat = 3 from rfl, Nat.reduceMul, Nat.reduceEqDiff, Go.Addr.add, ↓reduceIte] at hx127_3); (try simp only [show (3 : Int).toNat = 3 from rfl, Nat.reduceMul, Nat.reduceEqDiff, Go.Addr.add, ↓reduceIte] at hx127_4); have qi127 : (3 < t104.length) = True := eq_true (by omega); (try rw [show ((3 : Int)).toNat = 3 from rfl] at hx127_0); (try rw [show 3 * 5 = 15 from rfl] at hx127_0); (try rw [show ((3 : Int)).toNat = 3 from rfl] at hx127_1); (try rw [show 3 * 5 = 15 from rfl] at hx127_1); (try rw [show ((3 : Int)).toNat = 3 from rfl] at hx127_2); (try rw [show 3 * 5 = 15 from rfl] at hx127_2); (try rw [show ((3 : Int)).toNat = 3 from rfl] at hx127_3); (try rw [show 3 * 5 = 15 from rfl] at hx127_3); (try rw [show ((3 : Int)).toNat = 3 from rfl] at hx127_4); (try rw [show 3 * 5 = 15 from rfl] at hx127_4); replace p127 := eq_true p127; replace q127 := eq_true q127))
                                    go_ret
                                    exact ⟨by first | rfl | (simp [errW_none, errW_some] <;> rfl) | (simp [*, errW_none, errW_some] <;> rfl), by repeat (first | (with_reducible first | exact HB.out | apply below_alloc | apply pw_below_drewN | apply below_drew1) | exact HB.out)⟩
                                  · rw [if_neg c21] at H
                                    exact absurd H (by simp)
                                · rw [if_neg c20] at H
                                  exact absurd H (by simp)
                              · rw [if_neg c19] at H
                                exact absurd H (by simp)
                            · rw [if_neg c18] at H
                              exact absurd H (by simp)
                          · rw [if_neg c17] at H
                            exact absurd H (by simp)
                        · rw [if_neg c16] at H
                          exact absurd H (by simp)
                      · rw [if_neg c15] at H
                        exact absurd H (by simp)
                    · rw [if_neg c14] at H
                      exact absurd H (by simp)
                  · rw [if_neg c13] at H
                    exact absurd H (by simp)
                · rw [if_neg c12] at H
                  exact absurd H (by simp)
              · rw [if_neg c11] at H
                exact absurd H (by simp)
            · rw [if_neg c10] at H
              exact absurd H (by simp)
          · rw [if_neg c9] at H
            exact absurd H (by simp)
        · rw [if_neg c8] at H
          exact absurd H (by simp)
      · rw [if_neg c7] at H
        exact absurd H (by simp)
    · rw [if_neg c6] at H
      exact absurd H (by simp)
  · rw [if_neg c5] at H
    exact absurd H (by simp)

/-! ### cohousingref07_Blank: function 24 -/
def cohousingref07_Blank.f (a0 : Int) : Option (Bool) := if a0 = 32 then (some true) else (if a0 = 9 then (some true) else (if a0 = 10 then (some true) else (some (a0 == 13))))
set_option maxHeartbeats 8000000 in
set_option maxRecDepth 100000 in
theorem cohousingref07_Blank.calls (a0 : Int) (r : Bool) (w : World) (h : cohousingref07_Blank.f a0 = some r) :
    Calls Tryd.prog 24 #[.int .u8 a0] w fun e w' => e = .returned (.bool r) ∧ Drawn0 w w' := by
  have H : (if a0 = 32 then (some true) else (if a0 = 9 then (some true) else (if a0 = 10 then (some true) else (some (a0 == 13))))) = some r := h
  clear h
  by_cases c2 : a0 = 32
  · rw [if_pos c2] at H
    have c2b0 : (a0 == 32) = true := beq_iff_eq.mpr c2
    have c2b1 : (a0 != 32) = false := bne_eq_false_iff_eq.mpr c2
    clear c2
    obtain rfl := Option.some.inj H
    go_enter Tryd.func24, Tryd.ntmps24
    go_wp2
    go_ret
    exact ⟨by first | rfl | (simp; done) | (simp [*]; done), by repeat (first | exact Drawn0.refl _ | apply Drawn0.step)⟩
  · rw [if_neg c2] at H
    have c2b0 : (a0 == 32) = false := beq_eq_false_iff_ne.mpr c2
    have c2b1 : (a0 != 32) = true := bne_iff_ne.mpr c2
    by_cases c3 : a0 = 9
    · rw [if_pos c3] at H
      have c3b0 : (a0 == 9) = true := beq_iff_eq.mpr c3
      have c3b1 : (a0 != 9) = false := bne_eq_false_iff_eq.mpr c3
      clear c3
      obtain rfl := Option.some.inj H
      go_enter Tryd.func24, Tryd.ntmps24
      go_wp2
      go_ret
      exact ⟨by first | rfl | (simp; done) | (simp [*]; done), by repeat (first | exact Drawn0.refl _ | apply Drawn0.step)⟩
    · rw [if_neg c3] at H
      have c3b0 : (a0 == 9) = false := beq_eq_false_iff_ne.mpr c3
      have c3b1 : (a0 != 9) = true := bne_iff_ne.mpr c3
      by_cases c4 : a0 = 10
      · rw [if_pos c4] at H
        have c4b0 : (a0 == 10) = true := beq_iff_eq.mpr c4
        have c4b1 : (a0 != 10) = false := bne_eq_false_iff_eq.mpr c4
        clear c4
        obtain rfl := Option.some.inj H
        go_enter Tryd.func24, Tryd.ntmps24
        go_wp2
        go_ret
        exact ⟨by first | rfl | (simp; done) | (simp [*]; done), by repeat (first | exact Drawn0.refl _ | apply Drawn0.step)⟩
      · rw [if_neg c4] at H
        have c4b0 : (a0 == 10) = false := beq_eq_false_iff_ne.mpr c4
        have c4b1 : (a0 != 10) = true := bne_iff_ne.mpr c4
        obtain rfl := Option.some.inj H
        go_enter Tryd.func24, Tryd.ntmps24
        go_wp2
        go_ret
        exact ⟨by first | rfl | (simp; done) | (simp [*]; done), by repeat (first | exact Drawn0.refl _ | apply Drawn0.step)⟩

/-! ### cohousingref07_Skip: function 15 -/
mutual
def cohousingref07_Skip.l0 : Nat → ByteArray → Int → Bool → Option (Int)
  | 0, _, _, _ => none
  | k + 1, x0, x1, x5 => if x1 < (x0.size : Int) then (if 0 ≤ x1 then (if (bt x0 x1) = 10 then (cohousingref07_Skip.j1 k x0 x1 false) else (cohousingref07_Skip.j1 k x0 x1 x5)) else (none)) else (some x1)
def cohousingref07_Skip.j1 : Nat → ByteArray → Int → Bool → Option (Int)
  | 0, _, _, _ => none
  | k + 1, x0, x1, x5 => if 0 ≤ x1 then (if x1 < (x0.size : Int) then (if (bt x0 x1) = 35 then (cohousingref07_Skip.l0 k x0 (wrap64 (x1 + 1)) true) else (if x5 = true then (cohousingref07_Skip.l0 k x0 (wrap64 (x1 + 1)) x5) else ((cohousingref07_Blank.f (bt x0 x1)).bind fun t128 => (if t128 = true then (cohousingref07_Skip.l0 k x0 (wrap64 (x1 + 1)) x5) else (some x1))))) else (none)) else (none)
end
def cohousingref07_Skip.f (k : Nat) (a0 : ByteArray) (a1 : Int) : Option (Int) := cohousingref07_Skip.l0 k a0 a1 false
theorem cohousingref07_Skip.mono_l : ∀ k, (∀ y0 y1 y2, LeO (cohousingref07_Skip.l0 k y0 y1 y2) (cohousingref07_Skip.l0 (k + 1) y0 y1 y2)) ∧ (∀ y0 y1 y2, LeO (cohousingref07_Skip.j1 k y0 y1 y2) (cohousingref07_Skip.j1 (k + 1) y0 y1 y2))
  | 0 => ⟨fun _ _ _ r h => by simp [cohousingref07_Skip.l0] at h, fun _ _ _ r h => by simp [cohousingref07_Skip.j1] at h⟩
  | k + 1 => by
    obtain ⟨ih0, ih1⟩ := cohousingref07_Skip.mono_l k
    refine ⟨?_, ?_⟩
    · intro y0 y1 y2
      unfold cohousingref07_Skip.l0
      repeat' first
      | (with_reducible exact ih0 _ _ _)
      | (with_reducible exact ih1 _ _ _)
      | (with_reducible exact LeO.refl _)
      | (with_reducible exact LeO.none _)
      | (with_reducible refine LeO.ite ?_ ?_)
      | (with_reducible refine LeO.bind ?_ (fun _ => ?_))
      | exact ih0 _ _ _
      | exact ih1 _ _ _
      | exact LeO.none _
      | refine LeO.ite ?_ ?_
      | refine LeO.bind ?_ (fun _ => ?_)
    · intro y0 y1 y2
      unfold cohousingref07_Skip.j1
      repeat' first
      | (with_reducible exact ih0 _ _ _)
      | (with_reducible exact ih1 _ _ _)
      | (with_reducible exact LeO.refl _)
      | (with_reducible exact LeO.none _)
      | (with_reducible refine LeO.ite ?_ ?_)
      | (with_reducible refine LeO.bind ?_ (fun _ => ?_))
      | exact ih0 _ _ _
      | exact ih1 _ _ _
      | exact LeO.none _
      | refine LeO.ite ?_ ?_
      | refine LeO.bind ?_ (fun _ => ?_)
theorem cohousingref07_Skip.mono : ∀ a0 a1 k, LeO (cohousingref07_Skip.f k a0 a1) (cohousingref07_Skip.f (k + 1) a0 a1) := by
  intro a0 a1 k
  obtain ⟨ih0, ih1⟩ := cohousingref07_Skip.mono_l k
  unfold cohousingref07_Skip.f
  repeat' first
      | (with_reducible exact ih0 _ _ _)
      | (with_reducible exact ih1 _ _ _)
      | (with_reducible exact LeO.refl _)
      | (with_reducible exact LeO.none _)
      | (with_reducible refine LeO.ite ?_ ?_)
      | (with_reducible refine LeO.bind ?_ (fun _ => ?_))
      | exact ih0 _ _ _
      | exact ih1 _ _ _
      | exact LeO.none _
      | refine LeO.ite ?_ ?_
      | refine LeO.bind ?_ (fun _ => ?_)
set_option maxHeartbeats 8000000 in
set_option maxRecDepth 100000 in
theorem cohousingref07_Skip.calls (k : Nat) (a0 : ByteArray) (a1 : Int) (r : Int) (w : World) (h : cohousingref07_Skip.f k a0 a1 = some r) :
    Calls Tryd.prog 15 #[.string a0, .int .i64 a1] w fun e w' => e = .returned (.int .i64 r) ∧ Drawn0 w w' := by
  have H : (cohousingref07_Skip.l0 k a0 a1 false) = some r := h
  clear h
  have H' := Aside0.mk H
  clear H
  go_enter Tryd.func15, Tryd.ntmps15
  go_wp2
  go_loopg [1, 5] k (fun kq v1 v5 w' => ∃ (x1_1 : Int) (x5_1 : Bool), v1 = .int .i64 x1_1 ∧ v5 = .bool x5_1 ∧ Aside0 (cohousingref07_Skip.l0 kq a0 x1_1 x5_1 = some r) ∧ Aside0 (kq ≤ k) ∧ Drawn0 w w')
  case atStart => exact ⟨(a1), (false), (by first | rfl | (simp; done) | (simp [*]; done)), (by first | rfl | (simp; done) | (simp [*]; done)), H', ⟨Nat.le_refl _⟩, by repeat (first | exact Drawn0.refl _ | apply Drawn0.step)⟩
  case round =>
    clear H'
    try clear c1
    try clear p2
    obtain ⟨x1_1, x5_1, rfl, rfl, HA, HK1, ⟨m1, rfl⟩⟩ := hrel
    cases gk with
    | zero => exact absurd HA.out (by simp [cohousingref07_Skip.l0])
    | succ k1 =>
      have H := HA.out
      clear HA
      simp only [cohousingref07_Skip.l0] at H
      by_cases c3 : x1_1 < (a0.size : Int)
      · rw [if_pos c3] at H
        have c3b0 : decide (x1_1 < (a0.size : Int)) = true := decide_eq_true c3
        clear c3
        by_cases c4 : 0 ≤ x1_1
        · rw [if_pos c4] at H
          have c4b0 : decide (0 ≤ x1_1) = true := decide_eq_true c4
          clear c4
          have HC6 := Aside0.mk H
          clear H
          have p5 : 0 ≤ (x1_1 : Int) := of_decide_eq_true (by first | (with_reducible assumption) | assumption)
          have q5 : x1_1 < (a0.size : Int) := of_decide_eq_true (by first | (with_reducible assumption) | assumption)
          have hx5 := bt_at a0 x1_1
          replace p5 := eq_true p5
          replace q5 := eq_true q5
          go_upto_if 13 with (fail)
          go_cut [5] (fun v5 wc => ∃ (kq : Nat) (x5_5 : Bool), v5 = .bool x5_5 ∧ Aside0 (cohousingref07_Skip.j1 kq a0 x1_1 x5_5 = some r) ∧ Aside0 (kq ≤ k1) ∧ Drawn0 w wc)
          case first =>
            have H := HC6.out
            clear HC6
            by_cases c7 : (bt a0 x1_1) = 10
            · rw [if_pos c7] at H
              have c7b0 : ((bt a0 x1_1) == 10) = true := beq_iff_eq.mpr c7
              have c7b1 : ((bt a0 x1_1) != 10) = false := bne_eq_false_iff_eq.mpr c7
              clear c7
              (first | rw [c7b0] | (simp only [i64_w, i32_w]; rw [c7b0]) | skip)
              have H' := Aside0.mk H
              clear H
              go_wp2
              go_meet
              case rel => exact ⟨_, (false), (by first | rfl | (simp; done) | (simp [*]; done)), H', ⟨by have := HK1.out; first | omega | exact Nat.le_refl _⟩, by repeat (first | exact Drawn0.refl _ | apply Drawn0.step)⟩
            · rw [if_neg c7] at H
              have c7b0 : ((bt a0 x1_1) == 10) = false := beq_eq_false_iff_ne.mpr c7
              have c7b1 : ((bt a0 x1_1) != 10) = true := bne_iff_ne.mpr c7
              (first | rw [c7b0] | (simp only [i64_w, i32_w]; rw [c7b0]) | skip)
              have H' := Aside0.mk H
              clear H
              go_wp2
              go_meet
              case rel => exact ⟨_, (x5_1), (by first | rfl | (simp; done) | (simp [*]; done)), H', ⟨by have := HK1.out; first | omega | exact Nat.le_refl _⟩, by repeat (first | exact Drawn0.refl _ | apply Drawn0.step)⟩
          case rest =>
            clear HC6
            try clear c1
            try clear p2
            try clear c3
            try clear c3b0
            try clear c4
            try clear c4b0
            try clear p5
            try clear q5
            try clear hx5
            try clear c7
            try clear c7b0
            try clear c7b1
            try clear p2
            try clear p5
            try clear q5
            obtain ⟨kq, x5_5, rfl, HA, HJ5, ⟨mc5, rfl⟩⟩ := hcut
            cases kq with
            | zero => exact absurd HA.out (by simp [cohousingref07_Skip.j1])
            | succ kj5 =>
              have H := HA.out
              clear HA
              simp only [cohousingref07_Skip.j1] at H
              by_cases c8 : 0 ≤ x1_1
              · rw [if_pos c8] at H
                have c8b0 : decide (0 ≤ x1_1) = true := decide_eq_true c8
                clear c8
                by_cases c9 : x1_1 < (a0.size : Int)
                · rw [if_pos c9] at H
                  have c9b0 : decide (x1_1 < (a0.size : Int)) = true := decide_eq_true c9
                  clear c9
                  by_cases c11 : (bt a0 x1_1) = 35
                  · rw [if_pos c11] at H
                    have c11b0 : ((bt a0 x1_1) == 35) = true := beq_iff_eq.mpr c11
                    have c11b1 : ((bt a0 x1_1) != 35) = false := bne_eq_false_iff_eq.mpr c11
                    clear c11
                    have H' := Aside0.mk H
                    clear H
                    have p10 : 0 ≤ (x1_1 : Int) := of_decide_eq_true (by first | (with_reducible assumption) | assumption)
                    have q10 : x1_1 < (a0.size : Int) := of_decide_eq_true (by first | (with_reducible assumption) | assumption)
                    have hx10 := bt_at a0 x1_1
                    replace p10 := eq_true p10
                    replace q10 := eq_true q10
                    go_wp2
                    go_roundg kj5
                    case measure => have := HK1.out; have := HJ5.out; omega
                    case rel => exact ⟨(wrap64 (x1_1 + 1)), (true), (by first | rfl | (simp; done) | (simp [*]; done)), (by first | rfl | (simp; done) | (simp [*]; done)), H', ⟨by have := HK1.out; have := HJ5.out; omega⟩, by repeat (first | exact Drawn0.refl _ | apply Drawn0.step)⟩
                  · rw [if_neg c11] at H
                    have c11b0 : ((bt a0 x1_1) == 35) = false := beq_eq_false_iff_ne.mpr c11
                    have c11b1 : ((bt a0 x1_1) != 35) = true := bne_iff_ne.mpr c11
                    by_cases c12 : x5_5 = true
                    · subst c12
                      have H1 : (cohousingref07_Skip.l0 kj5 a0 (wrap64 (x1_1 + 1)) true) = some r := by rw [if_pos rfl] at H; exact H
                      clear H
                      have H := H1
                      clear H1
                      have H' := Aside0.mk H
                      clear H
                      have p10 : 0 ≤ (x1_1 : Int) := of_decide_eq_true (by first | (with_reducible assumption) | assumption)
                      have q10 : x1_1 < (a0.size : Int) := of_decide_eq_true (by first | (with_reducible assumption) | assumption)
                      have hx10 := bt_at a0 x1_1
                      replace p10 := eq_true p10
                      replace q10 := eq_true q10
                      go_wp2
                      go_roundg kj5
                      case measure => have := HK1.out; have := HJ5.out; omega
                      case rel => exact ⟨(wrap64 (x1_1 + 1)), (true), (by first | rfl | (simp; done) | (simp [*]; done)), (by first | rfl | (simp; done) | (simp [*]; done)), H', ⟨by have := HK1.out; have := HJ5.out; omega⟩, by repeat (first | exact Drawn0.refl _ | apply Drawn0.step)⟩
                    · replace c12 := Bool.eq_false_iff.mpr c12
                      subst c12
                      have H1 : ((cohousingref07_Blank.f (bt a0 x1_1)).bind fun t128 => (if t128 = true then (cohousingref07_Skip.l0 kj5 a0 (wrap64 (x1_1 + 1)) false) else (some x1_1))) = some r := by rw [if_neg (show ¬ (false = true) by decide)] at H; exact H
                      clear H
                      have H := H1
                      clear H1
                      replace H := Option.bind_eq_some_iff.mp H
                      obtain ⟨t128, A140, H⟩ := H
                      replace H : (if t128 = true then (cohousingref07_Skip.l0 kj5 a0 (wrap64 (x1_1 + 1)) false) else (some x1_1)) = some r := H
                      have A14 := Aside0.mk A140
                      clear A140
                      by_cases c15 : t128 = true
                      · subst c15
                        have H1 : (cohousingref07_Skip.l0 kj5 a0 (wrap64 (x1_1 + 1)) false) = some r := by rw [if_pos rfl] at H; exact H
                        clear H
                        have H := H1
                        clear H1
                        have H' := Aside0.mk H
                        clear H
                        have p10 : 0 ≤ (x1_1 : Int) := of_decide_eq_true (by first | (with_reducible assumption) | assumption)
                        have q10 : x1_1 < (a0.size : Int) := of_decide_eq_true (by first | (with_reducible assumption) | assumption)
                        have hx10 := bt_at a0 x1_1
                        replace p10 := eq_true p10
                        replace q10 := eq_true q10
                        have p13 : 0 ≤ (x1_1 : Int) := of_decide_eq_true (by first | (with_reducible assumption) | assumption)
                        have q13 : x1_1 < (a0.size : Int) := of_decide_eq_true (by first | (with_reducible assumption) | assumption)
                        have hx13 := bt_at a0 x1_1
                        replace p13 := eq_true p13
                        replace q13 := eq_true q13
                        go_wp2_with (first | (go_at_call 24; (with_reducible refine (cohousingref07_Blank.calls (bt a0 x1_1) true _ A14.out).mono ?_); rintro e w' ⟨rfl, ⟨nd, rfl⟩⟩))
                        go_roundg kj5
                        case measure => have := HK1.out; have := HJ5.out; omega
                        case rel => exact ⟨(wrap64 (x1_1 + 1)), (false), (by first | rfl | (simp; done) | (simp [*]; done)), (by first | rfl | (simp; done) | (simp [*]; done)), H', ⟨by have := HK1.out; have := HJ5.out; omega⟩, by repeat (first | exact Drawn0.refl _ | apply Drawn0.step)⟩
                      · replace c15 := Bool.eq_false_iff.mpr c15
                        subst c15
                        have H1 : (some x1_1) = some r := by rw [if_neg (show ¬ (false = true) by decide)] at H; exact H
                        clear H
                        have H := H1
                        clear H1
                        obtain rfl := Option.some.inj H
                        have p10 : 0 ≤ (x1_1 : Int) := of_decide_eq_true (by first | (with_reducible assumption) | assumption)
                        have q10 : x1_1 < (a0.size : Int) := of_decide_eq_true (by first | (with_reducible assumption) | assumption)
                        have hx10 := bt_at a0 x1_1
                        replace p10 := eq_true p10
                        replace q10 := eq_true q10
                        have p13 : 0 ≤ (x1_1 : Int) := of_decide_eq_true (by first | (with_reducible assumption) | assumption)
                        have q13 : x1_1 < (a0.size : Int) := of_decide_eq_true (by first | (with_reducible assumption) | assumption)
                        have hx13 := bt_at a0 x1_1
                        replace p13 := eq_true p13
                        replace q13 := eq_true q13
                        go_wp2_with (first | (go_at_call 24; (with_reducible refine (cohousingref07_Blank.calls (bt a0 x1_1) false _ A14.out).mono ?_); rintro e w' ⟨rfl, ⟨nd, rfl⟩⟩))
                        go_ret
                        exact ⟨by first | rfl | (simp; done) | (simp [*]; done), by repeat (first | exact Drawn0.refl _ | apply Drawn0.step)⟩
                · rw [if_neg c9] at H
                  exact absurd H (by simp)
              · rw [if_neg c8] at H
                exact absurd H (by simp)
        · rw [if_neg c4] at H
          exact absurd H (by simp)
      · rw [if_neg c3] at H
        have c3b0 : decide (x1_1 < (a0.size : Int)) = false := decide_eq_false c3
        clear c3
        obtain rfl := Option.some.inj H
        go_wp2
        go_ret
        exact ⟨by first | rfl | (simp; done) | (simp [*]; done), by repeat (first | exact Drawn0.refl _ | apply Drawn0.step)⟩

/-! ### cohousingref07_Digit: function 34 -/
def cohousingref07_Digit.f (a0 : Int) : Option (Bool) := if a0 ≥ 48 then (some (decide (a0 ≤ 57))) else (some false)
set_option maxHeartbeats 8000000 in
set_option maxRecDepth 100000 in
theorem cohousingref07_Digit.calls (a0 : Int) (r : Bool) (w : World) (h : cohousingref07_Digit.f a0 = some r) :
    Calls Tryd.prog 34 #[.int .u8 a0] w fun e w' => e = .returned (.bool r) ∧ Drawn0 w w' := by
  have H : (if a0 ≥ 48 then (some (decide (a0 ≤ 57))) else (some false)) = some r := h
  clear h
  by_cases c2 : a0 ≥ 48
  · rw [if_pos c2] at H
    have c2b0 : decide (48 ≤ a0) = true := decide_eq_true c2
    clear c2
    obtain rfl := Option.some.inj H
    go_enter Tryd.func34, Tryd.ntmps34
    go_wp2
    go_ret
    exact ⟨by first | rfl | (simp; done) | (simp [*]; done), by repeat (first | exact Drawn0.refl _ | apply Drawn0.step)⟩
  · rw [if_neg c2] at H
    have c2b0 : decide (48 ≤ a0) = false := decide_eq_false c2
    clear c2
    obtain rfl := Option.some.inj H
    go_enter Tryd.func34, Tryd.ntmps34
    go_wp2
    go_ret
    exact ⟨by first | rfl | (simp; done) | (simp [*]; done), by repeat (first | exact Drawn0.refl _ | apply Drawn0.step)⟩

/-! ### cohousingref07_Letter: function 35 -/
def cohousingref07_Letter.f (a0 : Int) : Option (Bool) := if a0 ≥ 97 then (some (decide (a0 ≤ 122))) else (some false)
set_option maxHeartbeats 8000000 in
set_option maxRecDepth 100000 in
theorem cohousingref07_Letter.calls (a0 : Int) (r : Bool) (w : World) (h : cohousingref07_Letter.f a0 = some r) :
    Calls Tryd.prog 35 #[.int .u8 a0] w fun e w' => e = .returned (.bool r) ∧ Drawn0 w w' := by
  have H : (if a0 ≥ 97 then (some (decide (a0 ≤ 122))) else (some false)) = some r := h
  clear h
  by_cases c2 : a0 ≥ 97
  · rw [if_pos c2] at H
    have c2b0 : decide (97 ≤ a0) = true := decide_eq_true c2
    clear c2
    obtain rfl := Option.some.inj H
    go_enter Tryd.func35, Tryd.ntmps35
    go_wp2
    go_ret
    exact ⟨by first | rfl | (simp; done) | (simp [*]; done), by repeat (first | exact Drawn0.refl _ | apply Drawn0.step)⟩
  · rw [if_neg c2] at H
    have c2b0 : decide (97 ≤ a0) = false := decide_eq_false c2
    clear c2
    obtain rfl := Option.some.inj H
    go_enter Tryd.func35, Tryd.ntmps35
    go_wp2
    go_ret
    exact ⟨by first | rfl | (simp; done) | (simp [*]; done), by repeat (first | exact Drawn0.refl _ | apply Drawn0.step)⟩

end Go.Proofs.YtmpjoaljincclaaDoor.X
