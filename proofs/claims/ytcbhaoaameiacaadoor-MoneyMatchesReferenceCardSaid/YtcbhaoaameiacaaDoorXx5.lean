-- Written by a program of mine (wip/tools/xprint.py) over the kit's print.py: printed functions and hand-proved ones side by side.
import Derived.Test.YtcbhaoaameiacaaDoorXx0
import Derived.Test.YtcbhaoaameiacaaDoorXx3
import Derived.Test.YtcbhaoaameiacaaDoorXx4
namespace Go.Proofs.YtcbhaoaameiacaaDoor.X
open Go.RowKit Go.Proofs.YtcbhaoaameiacaaDoorW.PrintWords Go.Proofs.YtcbhaoaameiacaaDoorW.PrintLast Go.Proofs.YtcbhaoaameiacaaDoorW.PrintMore
attribute [local go_sem] max2_int min2_int max_two min_two max_three min_three max_four min_four   -- for this text's walks alone
set_option linter.unusedVariables false
set_option linter.unusedSimpArgs false

/-! ### slices_symMergeCmpFunc_int: function 55 -/
-- by hand: slices.symMergeCmpFunc[int]
section
open Go.Sort (putRow Holds putCells mapBlock swp)
/-- How the middle cuts both halves. -/
structure Mid (A M B mid n s0 r0 : Nat) : Prop where
  h1 : A < M
  h2 : M < B
  hm : mid = (A + B) / 2
  hn : n = mid + M
  hsr : (mid < M ∧ s0 + B = n ∧ r0 = mid) ∨ (M ≤ mid ∧ s0 = A ∧ r0 = M)
theorem sub_is (a b c : Nat) (h : c + b = a) (ha : a ≤ 1000) : IntKind.i64.wrap ((a : Int) - (b : Int)) = (c : Int) := by
  rw [wrap_i64 _ (by omega) (by omega)]; omega
theorem add_is (a b c : Nat) (h : a + b = c) (ha : c ≤ 1000) : IntKind.i64.wrap ((a : Int) + (b : Int)) = (c : Int) := by
  rw [wrap_i64 _ (by omega) (by omega)]; omega
/-- The halves that are cut and put together anew are apart. -/
theorem cross {β : Type} (lt : β → β → Prop) (htr : ∀ a b c, lt a b → lt b c → lt a c) (l1 l2 r1 r2 : List β) (hl : (l1 ++ l2).Pairwise lt) (hr : (r1 ++ r2).Pairwise lt)
    (h1 : ∀ (a : l1 ≠ []) (b : r2 ≠ []), lt (l1.getLast a) (r2.head b)) (h2 : ∀ (a : r1 ≠ []) (b : l2 ≠ []), lt (r1.getLast a) (l2.head b)) :
    ∀ z1 z2 : List β, z1.Perm (l1 ++ r1) → z2.Perm (l2 ++ r2) → z1.Pairwise lt → z2.Pairwise lt → (z1 ++ z2).Pairwise lt := by
  intro z1 z2 p1 p2 q1 q2
  rw [List.pairwise_append] at hl hr ⊢
  refine ⟨q1, q2, ?_⟩
  intro a ha b hb
  have last : ∀ (l : List β) (x : β) (hx : x ∈ l) (hs : l.Pairwise lt) (hne : l ≠ []), x = l.getLast hne ∨ lt x (l.getLast hne) := by
    intro l x hx hs hne
    have e := List.dropLast_concat_getLast hne
    rw [← e] at hx hs
    rcases List.mem_append.mp hx with h | h
    · exact .inr ((List.pairwise_append.mp hs).2.2 x h _ (List.mem_singleton.mpr rfl))
    · exact .inl (List.mem_singleton.mp h)
  have first : ∀ (l : List β) (x : β) (hx : x ∈ l) (hs : l.Pairwise lt) (hne : l ≠ []), x = l.head hne ∨ lt (l.head hne) x := by
    intro l x hx hs hne
    cases l with
    | nil => exact absurd rfl hne
    | cons y r =>
      rcases List.mem_cons.mp hx with h | h
      · exact .inl h
      · exact .inr (List.rel_of_pairwise_cons hs h)
  have join : ∀ (u v : List β) (hu : u.Pairwise lt) (hv : v.Pairwise lt) (h : ∀ (a : u ≠ []) (b : v ≠ []), lt (u.getLast a) (v.head b)), ∀ x ∈ u, ∀ y ∈ v, lt x y := by
    intro u v hu hv h x hx y hy
    have ne1 : u ≠ [] := List.ne_nil_of_mem hx
    have ne2 : v ≠ [] := List.ne_nil_of_mem hy
    have k := h ne1 ne2
    have k1 : lt x (v.head ne2) := by
      rcases last u x hx hu ne1 with e | e
      · rw [e]; exact k
      · exact htr _ _ _ e k
    rcases first v y hy hv ne2 with e | e
    · rw [e]; exact k1
    · exact htr _ _ _ k1 e
  rcases List.mem_append.mp (p1.mem_iff.mp ha) with h | h
  · rcases List.mem_append.mp (p2.mem_iff.mp hb) with h' | h'
    · exact hl.2.2 a h b h'
    · exact join l1 r2 hl.1 hr.2.1 h1 a h b h'
  · rcases List.mem_append.mp (p2.mem_iff.mp hb) with h' | h'
    · exact join r1 l2 hr.1 hl.2.1 h2 a h b h'
    · exact hr.2.2 a h b h'
set_option maxHeartbeats 8000000 in
set_option maxRecDepth 100000 in
theorem sym_gen {α : Type} [Inhabited α] (enc : α → Value) (hO : OneCell enc) (cf : α → α → Int) (lt : α → α → Prop) (g : Nat) (cb : Array Value) (blk cap : Nat) (p l r q cur : List α) (l0 : List α) (w : World) (A M B : Nat) (hcur : cur = p ++ (l ++ (r ++ q))) (hA : A = p.length) (hM : M = p.length + l.length) (hB : B = p.length + l.length + r.length)
    (eg : ∀ args w, (callFunc g args).run Tryd.prog w = .ok (.enter g args) w) (hcmp : CmpRow g cb enc cf blk w)
    (hlt : ∀ y ∈ r, ∀ x ∈ l, (cf y x < 0 → lt y x) ∧ (¬ cf y x < 0 → lt x y)) (hl : l.Pairwise lt) (hr : r.Pairwise lt) (htr : ∀ a b c, lt a b → lt b c → lt a c) (hl2 : 2 ≤ l.length) (hr2 : 2 ≤ r.length)
    (hH : Holds enc w blk 0 l0.toArray) (hs : cur.length = l0.length) (hsz : l0.length ≤ 64) (nd : Nat)
    (ih : ∀ (p' l' r' q' cur' : List α) (A' M' B' nd' : Nat), cur' = p' ++ (l' ++ (r' ++ q')) → A' = p'.length → M' = p'.length + l'.length → B' = p'.length + l'.length + r'.length → l'.length + r'.length < l.length + r.length → 1 ≤ l'.length → 1 ≤ r'.length → l'.Pairwise lt → r'.Pairwise lt → (∀ y ∈ r', ∀ x ∈ l', (cf y x < 0 → lt y x) ∧ (¬ cf y x < 0 → lt x y)) → cur'.length = l0.length →
      Calls Tryd.prog 55 #[.slice (some ⟨blk, 0, none⟩) l0.length cap, .int .i64 A', .int .i64 M', .int .i64 B', .func (.func g) #[] cb] ((LRow enc w blk cur').drewN nd') fun e w' =>
        e = .returned (.tuple #[]) ∧ ∃ (n : Nat) (z : List α), z.Perm (l' ++ r') ∧ z.Pairwise lt ∧ w' = (LRow enc w blk (p' ++ (z ++ q'))).drewN n) :
    Calls Tryd.prog 55 #[.slice (some ⟨blk, 0, none⟩) l0.length cap, .int .i64 A, .int .i64 M, .int .i64 B, .func (.func g) #[] cb] ((LRow enc w blk cur).drewN nd) fun e w' =>
      e = .returned (.tuple #[]) ∧ ∃ (n : Nat) (z : List α), z.Perm (l ++ r) ∧ z.Pairwise lt ∧ w' = (LRow enc w blk (p ++ (z ++ q))).drewN n := by
  have mixed : Tryd.prog.follows Departure.mixedOrders = true := by kernel_rfl
  have hcl0 := hO.cells
  simp only [Value.cells] at hcl0
  have hst := hO.store Tryd.prog
  have hlen := hs
  rw [hcur] at hlen
  simp only [List.length_append] at hlen
  have HH := Lib.hid hH
  have HC := Lib.hid hcmp
  have IH := Lib.hid ih
  obtain ⟨ll, hll⟩ : ∃ ll, l.length = ll := ⟨_, rfl⟩
  obtain ⟨rl, hrl⟩ : ∃ rl, r.length = rl := ⟨_, rfl⟩
  obtain ⟨ab, hab⟩ : ∃ ab, A + B = ab := ⟨_, rfl⟩
  obtain ⟨mid, hmid⟩ : ∃ mid, ab / 2 = mid := ⟨_, rfl⟩
  obtain ⟨n, hn⟩ : ∃ n, mid + M = n := ⟨_, rfl⟩
  have hla : ((ll : Int) == 1) = false := by rw [beq_eq_false_iff_ne]; omega
  have hrb : ((rl : Int) == 1) = false := by rw [beq_eq_false_iff_ne]; omega
  have F1 := Aside0.mk (sub_is M A ll (by omega) (by omega))
  have F2 := Aside0.mk (sub_is B M rl (by omega) (by omega))
  have F3 := Aside0.mk (half_is A B ab mid hab hmid (by omega))
  have F4 := Aside0.mk (add_is mid M n hn (by omega))
  have hn1 : 1 ≤ n ∧ n ≤ 1000 := by omega
  have F5 := Aside0.mk (less_is n hn1.1 hn1.2)
  have hnb : mid < M → B ≤ n := by omega
  obtain ⟨nb, hnbe⟩ : ∃ nb, n - B = nb := ⟨_, rfl⟩
  have F6 : Aside0 (mid < M → IntKind.i64.wrap ((n : Int) - (B : Int)) = (nb : Int)) := ⟨fun h => sub_is n B nb (by have := hnb h; omega) hn1.2⟩
  have HF := Aside0.mk (And.intro hA (And.intro hM (And.intro hB (And.intro hlen (And.intro hll (And.intro hrl (And.intro hab (And.intro hmid (And.intro hn (And.intro hnbe (And.intro hl2 hr2)))))))))))
  have HS := Aside0.mk (And.intro hs hcur)
  have HLT := Aside0.mk hlt
  clear hA hM hB hlen hl2 hr2 hs hcur hlt hH hcmp hll hrl hab hmid hn hn1 hnb hnbe ih
  have f1 := F1.out
  have f2 := F2.out
  obtain ⟨f3, f3'⟩ := F3.out
  have f4 := F4.out
  obtain ⟨p1, hp1⟩ : ∃ p1, n - 1 = p1 := ⟨_, rfl⟩
  rw [hp1] at F5
  go_enter Tryd.func55, Tryd.ntmps55
  go_upto_if 140 with (fail)
  simp only [f3']
  clear f1 f2 f3 f3' f4 F1 F2 F3 F4 hla hrb
  go_cut [20, 21] (fun u v wc => ∃ (s0 r0 : Nat), u = .int .i64 s0 ∧ v = .int .i64 r0 ∧ Aside0 ((mid < M ∧ s0 = nb ∧ r0 = mid) ∨ (M ≤ mid ∧ s0 = A ∧ r0 = M)) ∧ wc = (LRow enc w blk cur).drewN nd)
  case first =>
    by_cases hmm : mid < M
    · have hmz : decide ((mid : Int) < (M : Int)) = true := decide_eq_true (by omega)
      have f6 := F6.out hmm
      go_wp2
      go_meet
      case rel => exact ⟨nb, mid, rfl, rfl, ⟨.inl ⟨hmm, rfl, rfl⟩⟩, rfl⟩
    · have hmz : decide ((mid : Int) < (M : Int)) = false := decide_eq_false (by omega)
      go_wp2
      go_meet
      case rel => exact ⟨A, M, rfl, rfl, ⟨.inr ⟨by omega, rfl, rfl⟩⟩, rfl⟩
  case rest =>
    obtain ⟨s0, r0, rfl, rfl, HSR, rfl⟩ := hcut
    obtain ⟨f5, f5'⟩ := F5.out
    go_wp2_with fail
    clear f5 f5'
    go_loopw [20, 21] (fun u v wr => ∃ (s e nn : Nat), u = .int .i64 s ∧ v = .int .i64 e ∧ Aside0 (s0 ≤ s ∧ s ≤ e ∧ e ≤ r0 ∧ (s0 < s → ∀ (h1 : s - 1 - A < l.length) (h2 : n - s - M < r.length), lt l[s - 1 - A] r[n - s - M]) ∧ (e < r0 → ∀ (h1 : n - 1 - e - M < r.length) (h2 : e - A < l.length), lt r[n - 1 - e - M] l[e - A])) ∧ wr = (LRow enc w blk cur).drewN nn) (fun u v _ => (intOf v).toNat - (intOf u).toNat)
    case atStart =>
      obtain ⟨hA, hM, hB, hlen, hll, hrl, hab, hmid, hn, hnbe, hl2, hr2⟩ := HF.out
      have hsr := HSR.out
      exact ⟨s0, r0, nd, rfl, rfl, ⟨Nat.le_refl _, by omega, Nat.le_refl _, fun h => absurd h (Nat.lt_irrefl _), fun h => absurd h (Nat.lt_irrefl _)⟩, rfl⟩
    case round =>
      obtain ⟨i, j, nn, rfl, rfl, HD, rfl⟩ := hrel
      obtain ⟨hA, hM, hB, hlen, hll, hrl, hab, hmid, hn, hnbe, hl2, hr2⟩ := HF.out
      have hsr := HSR.out
      obtain ⟨hi, hij, hj, hlo, hhi⟩ := HD.out
      by_cases hlt : i < j
      · have hltz : (i : Int) < (j : Int) := by omega
        obtain ⟨s, hs⟩ : ∃ s, i + j = s := ⟨_, rfl⟩
        obtain ⟨c, hc0⟩ : ∃ c, s / 2 = c := ⟨_, rfl⟩
        have HSUM := Aside0.mk (half_is i j s c hs hc0 (by omega))
        obtain ⟨hcl, hcur⟩ := HS.out
        have hic : i ≤ c ∧ c < j := by omega
        have hcA : A ≤ c ∧ c < M := by omega
        have hpc : M ≤ p1 - c ∧ p1 - c < B ∧ c ≤ p1 := by omega
        obtain ⟨d, hd⟩ : ∃ d, p1 - c = d := ⟨_, rfl⟩
        have HSUB := Aside0.mk (sub_is p1 c d (by omega) (by omega))
        have t1 : c - A < l.length := by omega
        have t2 : d - M < r.length := by omega
        have b1 : c < l0.length := by omega
        have b2 : d < l0.length := by omega
        have g1 : cur[c]'(by omega) = l[c - A] := by
          have e : c = p.length + (c - A) := by omega
          simp only [hcur]
          conv => lhs; rw [getElem_congr_idx e]
          rw [List.getElem_append_right (by omega), getElem_congr_idx (show p.length + (c - A) - p.length = c - A by omega), List.getElem_append_left t1]
        have g2 : cur[d]'(by omega) = r[d - M] := by
          have e : d = p.length + (l.length + (d - M)) := by omega
          simp only [hcur]
          conv => lhs; rw [getElem_congr_idx e]
          rw [List.getElem_append_right (by omega), getElem_congr_idx (show p.length + (l.length + (d - M)) - p.length = l.length + (d - M) by omega), List.getElem_append_right (by omega), getElem_congr_idx (show l.length + (d - M) - l.length = d - M by omega), List.getElem_append_left t2]
        obtain ⟨xl, hxl⟩ : ∃ xl, l[c - A] = xl := ⟨_, rfl⟩
        obtain ⟨xr, hxr⟩ : ∃ xr, r[d - M] = xr := ⟨_, rfl⟩
        have c1 := lrow_cell enc w blk l0 cur HH.out hcl c (by omega)
        have c2 := lrow_cell enc w blk l0 cur HH.out hcl d (by omega)
        rw [g1, hxl] at c1
        rw [g2, hxr] at c2
        have hL := HLT.out xr (by rw [← hxr]; exact List.getElem_mem t2) xl (by rw [← hxl]; exact List.getElem_mem t1)
        have hc : ∀ n, Calls Tryd.prog g (#[enc xr, enc xl] ++ cb) (((LRow enc w blk cur).drewN nn).drewN n) fun e w' => e = .returned (.int .i64 (cf xr xl)) ∧ ∃ q, w' = (((LRow enc w blk cur).drewN nn).drewN n).drewN q := fun n => by
          have := HC.out cur (nn + n) xr xl
          rw [← World.drewN_drewN] at this
          exact this
        have cc1 : ((LRow enc w blk cur).drewN nn).cell? ⟨blk, c, none⟩ = some (enc xl) := c1.1
        have cc2 : ((LRow enc w blk cur).drewN nn).cell? ⟨blk, d, none⟩ = some (enc xr) := c2.1
        have z1 : (c : Int) < (l0.length : Int) := by omega
        have z2 : (d : Int) < (l0.length : Int) := by omega
        have hup : Aside0 (¬ cf xr xl < 0 → s0 ≤ c + 1 ∧ c + 1 ≤ j ∧ j ≤ r0 ∧ (s0 < c + 1 → ∀ (h1 : c + 1 - 1 - A < l.length) (h2 : n - (c + 1) - M < r.length), lt l[c + 1 - 1 - A] r[n - (c + 1) - M]) ∧ (j < r0 → ∀ (h1 : n - 1 - j - M < r.length) (h2 : j - A < l.length), lt r[n - 1 - j - M] l[j - A])) := ⟨fun hv => ⟨by omega, by omega, hj, fun _ h1 h2 => by
          have k := hL.2 (by omega)
          rw [← hxl, ← hxr] at k
          rw [getElem_congr_idx (show c + 1 - 1 - A = c - A by omega), getElem_congr_idx (show n - (c + 1) - M = d - M by omega)]
          exact k, hhi⟩⟩
        have hdn : Aside0 (cf xr xl < 0 → s0 ≤ i ∧ i ≤ c ∧ c ≤ r0 ∧ (s0 < i → ∀ (h1 : i - 1 - A < l.length) (h2 : n - i - M < r.length), lt l[i - 1 - A] r[n - i - M]) ∧ (c < r0 → ∀ (h1 : n - 1 - c - M < r.length) (h2 : c - A < l.length), lt r[n - 1 - c - M] l[c - A])) := ⟨fun hv => ⟨hi, by omega, by omega, hlo, fun _ h1 h2 => by
          have k := hL.1 hv
          rw [← hxl, ← hxr] at k
          rw [getElem_congr_idx (show n - 1 - c - M = d - M by omega)]
          exact k⟩⟩
        have hms : Aside0 (j - (c + 1) < j - i ∧ c - i < j - i ∧ c < 64) := ⟨by omega⟩
        have h64 : c < 64 := by omega
        clear hA hM hB hlen hll hrl hab hmid hn hnbe hl2 hr2 hsr hi hij hj hlo hhi c1 c2 g1 g2 hxl hxr hL t1 t2 hcl hcur hs hc0 hic hcA hpc hd
        generalize hwq : (LRow enc w blk cur).drewN nn = W at cc1 cc2 hc ⊢
        have HWQ := Aside0.mk hwq
        clear hwq
        obtain ⟨hsum, hhf⟩ := HSUM.out
        have hsub := HSUB.out
        by_cases hlv : cf xr xl < 0
        · have hlvb : decide (cf xr xl < 0) = true := decide_eq_true hlv
          go_wp2_with fail
          go_quiet_o (first | (go_at_fn g; refine Calls.quiet_of (hc _)))
          go_wp2
          go_roundw
          case rel => exact ⟨i, c, nn + nq, rfl, rfl, ⟨hdn.out hlv⟩, by rw [← HWQ.out, World.drewN_drewN]⟩
          case measure => have := hms.out; simp [intOf]; omega
        · have hlvb : decide (cf xr xl < 0) = false := decide_eq_false hlv
          go_wp2_with fail
          go_quiet_o (first | (go_at_fn g; refine Calls.quiet_of (hc _)))
          go_wp2
          go_roundw
          case rel => exact ⟨c + 1, j, nn + nq, by go_num, rfl, ⟨hup.out hlv⟩, by rw [← HWQ.out, World.drewN_drewN]⟩
          case measure => have := hms.out; simp [intOf]; omega
      · have hij2 : j = i := by omega
        subst hij2
        have hlz : ¬ (j : Int) < (j : Int) := by omega
        obtain ⟨e, he⟩ : ∃ e, n - j = e := ⟨_, rfl⟩
        obtain ⟨hcl, hcur⟩ := HS.out
        have hjA : A ≤ j ∧ j ≤ M ∧ M ≤ e ∧ e ≤ B ∧ j + e = n := by omega
        have FE := Aside0.mk (sub_is n j e (by omega) (by omega))
        have el : l = l.take (j - A) ++ l.drop (j - A) := (List.take_append_drop _ _).symm
        have er : r = r.take (e - M) ++ r.drop (e - M) := (List.take_append_drop _ _).symm
        have n1 : (l.take (j - A)).length = j - A := by rw [List.length_take]; omega
        have n2 : (l.drop (j - A)).length = M - j := by rw [List.length_drop]; omega
        have n3 : (r.take (e - M)).length = e - M := by rw [List.length_take]; omega
        have n4 : (r.drop (e - M)).length = B - e := by rw [List.length_drop]; omega
        generalize l.take (j - A) = L1 at el n1
        generalize l.drop (j - A) = L2 at el n2
        generalize r.take (e - M) = R1 at er n3
        generalize r.drop (e - M) = R2 at er n4
        subst el er
        have HX := Aside0.mk (cross lt htr L1 L2 R1 R2 hl hr (fun a b => by
          have a1 := List.length_pos_iff.mpr a
          have b1 := List.length_pos_iff.mpr b
          have k := hlo (by omega) (by rw [List.length_append]; omega) (by rw [List.length_append]; omega)
          rw [List.getElem_append_left (by omega), List.getElem_append_right (by omega)] at k
          rw [List.getLast_eq_getElem, List.head_eq_getElem, getElem_congr_idx (show L1.length - 1 = j - 1 - A by omega), getElem_congr_idx (show 0 = n - j - M - R1.length by omega)]
          exact k) (fun a b => by
          have a1 := List.length_pos_iff.mpr a
          have b1 := List.length_pos_iff.mpr b
          have k := hhi (by omega) (by rw [List.length_append]; omega) (by rw [List.length_append]; omega)
          rw [List.getElem_append_left (by omega), List.getElem_append_right (by omega)] at k
          rw [List.getLast_eq_getElem, List.head_eq_getElem, getElem_congr_idx (show R1.length - 1 = n - 1 - j - M by omega), getElem_congr_idx (show 0 = j - A - L1.length by omega)]
          exact k))
        have HN := Aside0.mk (And.intro n1 (And.intro n2 (And.intro n3 (And.intro n4 hjA))))
        have HEM : Aside0 (e = mid + (M - j) ∧ A < mid ∧ mid < B) := ⟨by omega⟩
        rw [List.length_append] at hlen hll hM hB hl2
        rw [List.length_append] at hlen hrl hB hr2
        have HB2 := Aside0.mk (And.intro hA (And.intro hM (And.intro hB hlen)))
        have HP := Aside0.mk (And.intro hl hr)
        have hbn : A ≤ 64 ∧ M ≤ 64 ∧ B ≤ 64 ∧ e ≤ 64 ∧ j ≤ 64 ∧ mid ≤ 64 := by omega
        have HBN := Aside0.mk hbn
        have HLR := Aside0.mk (And.intro hl2 hr2)
        clear hlt hA hM hB hlen hll hrl hab hmid hn hnbe hl2 hr2 hsr hi hj hlo hhi n1 n2 n3 n4 hjA he hl hr hij HD HF HSR F5 F6 hbn
        obtain ⟨n1, n2, n3, n4, h1, h2, h3, h4, h5⟩ := HN.out
        obtain ⟨hA, hM, hB, hlen⟩ := HB2.out
        obtain ⟨hem, hem1, hem2⟩ := HEM.out
        obtain ⟨hlr1, hlr2⟩ := HLR.out
        have hpl1 := (List.pairwise_append.mp HP.out.1).1
        have hpr1 := (List.pairwise_append.mp HP.out.2).1
        have hpl2 := (List.pairwise_append.mp HP.out.1).2.1
        have hpr2 := (List.pairwise_append.mp HP.out.2).2.1
        have HPM : ∀ Z Z2 : List α, Z.Perm (L1 ++ R1) → Z2.Perm (L2 ++ R2) → (Z ++ Z2).Perm ((L1 ++ L2) ++ (R1 ++ R2)) := fun Z Z2 hz h => (List.Perm.append hz h).trans (by
          rw [List.append_assoc, List.append_assoc]
          refine List.Perm.append_left L1 ?_
          rw [← List.append_assoc, ← List.append_assoc]
          exact List.Perm.append_right R2 List.perm_append_comm)
        have hrot : j < M → M < e → _ := fun a b => rotate_ok enc hO blk cap (.func (.func g) #[] cb) (p ++ L1) L2 R1 (R2 ++ q) cur l0 w j M e (by rw [hcur]; simp) (by omega) (by omega) (by rw [List.length_append]; omega) (by rw [List.length_append]; omega) (by rw [List.length_append]; omega) HH.out hcl hsz nn
        have hrec1 : ∀ (cu : List α) (m : Nat), cu = p ++ (L1 ++ (R1 ++ (L2 ++ (R2 ++ q)))) → A < j → j < mid → _ := fun cu m hcu a b => IH.out p L1 R1 (L2 ++ (R2 ++ q)) cu A j mid m hcu hA (by omega) (by omega) (by simp only [List.length_append]; omega) (by omega) (by omega) hpl1 hpr1 (fun y hy x hx => HLT.out y (List.mem_append_left _ hy) x (List.mem_append_left _ hx)) (by rw [hcu]; simp only [List.length_append]; omega)
        have hrec2 : ∀ (Z cu : List α) (m : Nat), Z.Perm (L1 ++ R1) → cu = p ++ (Z ++ (L2 ++ (R2 ++ q))) → mid < e → e < B → _ := fun Z cu m hz hcu a b => IH.out (p ++ Z) L2 R2 q cu mid e B m (by rw [hcu]; simp) (by have := hz.length_eq; rw [List.length_append] at this ⊢; omega) (by have := hz.length_eq; rw [List.length_append] at this ⊢; omega) (by have := hz.length_eq; rw [List.length_append] at this ⊢; omega) (by simp only [List.length_append]; omega) (by omega) (by omega) hpl2 hpr2 (fun y hy x hx => HLT.out y (List.mem_append_right _ hy) x (List.mem_append_right _ hx)) (by have := hz.length_eq; rw [hcu]; rw [List.length_append] at this; simp only [List.length_append]; omega)
        have CL : True := trivial
        have HPM1 := Aside0.mk HPM
        by_cases hj1 : j < M
        · by_cases hj2 : M < e
          · by_cases hj3 : A < j
            · by_cases hj4 : e < B
              · have q0 : decide ((j : Int) < (M : Int)) = true := decide_eq_true (by omega)
                have qp0 : ((j : Int) < (M : Int)) := by omega
                have q1 : decide ((M : Int) < (e : Int)) = true := decide_eq_true (by omega)
                have qp1 : ((M : Int) < (e : Int)) := by omega
                have q2 : decide ((A : Int) < (j : Int)) = true := decide_eq_true (by omega)
                have qp2 : ((A : Int) < (j : Int)) := by omega
                have q3 : decide ((j : Int) < (mid : Int)) = true := decide_eq_true (by omega)
                have qp3 : ((j : Int) < (mid : Int)) := by omega
                have q4 : decide ((mid : Int) < (e : Int)) = true := decide_eq_true (by omega)
                have qp4 : ((mid : Int) < (e : Int)) := by omega
                have q5 : decide ((e : Int) < (B : Int)) = true := decide_eq_true (by omega)
                have qp5 : ((e : Int) < (B : Int)) := by omega
                have krot := hrot (by omega) (by omega)
                have k1 := fun m => hrec1 (p ++ (L1 ++ (R1 ++ (L2 ++ (R2 ++ q))))) m (by rfl) (by omega) (by omega)
                have k2 := fun Z m hz => hrec2 Z (p ++ (Z ++ (L2 ++ (R2 ++ q)))) m hz rfl (by omega) (by omega)
                have HCU := Aside0.mk hcur
                clear n1 n2 n3 n4 h1 h2 h3 h4 h5 hA hM hB hlen hem hem1 hem2 hlr1 hlr2 hpl1 hpr1 hpl2 hpr2 hcl hcur hrot hrec1 hrec2 CL HPM hj1 hj2 hj3 hj4
                have fe := FE.out
                go_wp2_with fail
                refine krot.mono ?_
                rintro e0 w1 ⟨rfl, m1, rfl⟩
                go_wp2_with fail
                refine (k1 _).mono ?_
                rintro e0 w1 ⟨rfl, m2, Z, z1, z2, rfl⟩
                go_wp2_with fail
                refine (k2 Z _ z1).mono ?_
                rintro e0 w1 ⟨rfl, m3, Z2, y1, y2, rfl⟩
                go_wp2_with fail
                go_end0
                exact ⟨rfl, m3, Z ++ Z2, (by first | exact HPM1.out Z Z2 z1 y1 | (simpa only [List.append_assoc] using HPM1.out Z Z2 z1 y1)), HX.out Z Z2 z1 y1 z2 y2, by simp⟩
              · have q0 : decide ((j : Int) < (M : Int)) = true := decide_eq_true (by omega)
                have qp0 : ((j : Int) < (M : Int)) := by omega
                have q1 : decide ((M : Int) < (e : Int)) = true := decide_eq_true (by omega)
                have qp1 : ((M : Int) < (e : Int)) := by omega
                have q2 : decide ((A : Int) < (j : Int)) = true := decide_eq_true (by omega)
                have qp2 : ((A : Int) < (j : Int)) := by omega
                have q3 : decide ((j : Int) < (mid : Int)) = true := decide_eq_true (by omega)
                have qp3 : ((j : Int) < (mid : Int)) := by omega
                have q4 : decide ((mid : Int) < (e : Int)) = true := decide_eq_true (by omega)
                have qp4 : ((mid : Int) < (e : Int)) := by omega
                have q5 : decide ((e : Int) < (B : Int)) = false := decide_eq_false (by omega)
                have qp5 : ¬ ((e : Int) < (B : Int)) := by omega
                have eR2 : R2 = [] := List.eq_nil_of_length_eq_zero (by omega)
                have krot := hrot (by omega) (by omega)
                have k1 := fun m => hrec1 (p ++ (L1 ++ (R1 ++ (L2 ++ (R2 ++ q))))) m (by rfl) (by omega) (by omega)
                have hy : L2.Perm (L2 ++ R2) := by rw [eR2, List.append_nil]
                have hys : L2.Pairwise lt := hpl2
                have EeR2 := Aside0.mk eR2
                have HCU := Aside0.mk hcur
                clear n1 n2 n3 n4 h1 h2 h3 h4 h5 hA hM hB hlen hem hem1 hem2 hlr1 hlr2 hpl1 hpr1 hpl2 hpr2 hcl hcur hrot hrec1 hrec2 CL HPM eR2 hj1 hj2 hj3 hj4
                have fe := FE.out
                go_wp2_with fail
                refine krot.mono ?_
                rintro e0 w1 ⟨rfl, m1, rfl⟩
                go_wp2_with fail
                refine (k1 _).mono ?_
                rintro e0 w1 ⟨rfl, m2, Z, z1, z2, rfl⟩
                go_wp2_with fail
                go_end0
                exact ⟨rfl, m2, Z ++ L2, (by first | exact HPM1.out Z L2 z1 hy | (simpa only [List.append_assoc] using HPM1.out Z L2 z1 hy)), HX.out Z L2 z1 hy z2 hys, by first | (simp; done) | (rw [EeR2.out]; simp; done) | (simp [EeR2.out]; done)⟩
            · by_cases hj4 : e < B
              · have q0 : decide ((j : Int) < (M : Int)) = true := decide_eq_true (by omega)
                have qp0 : ((j : Int) < (M : Int)) := by omega
                have q1 : decide ((M : Int) < (e : Int)) = true := decide_eq_true (by omega)
                have qp1 : ((M : Int) < (e : Int)) := by omega
                have q2 : decide ((A : Int) < (j : Int)) = false := decide_eq_false (by omega)
                have qp2 : ¬ ((A : Int) < (j : Int)) := by omega
                have q3 : decide ((mid : Int) < (e : Int)) = true := decide_eq_true (by omega)
                have qp3 : ((mid : Int) < (e : Int)) := by omega
                have q4 : decide ((e : Int) < (B : Int)) = true := decide_eq_true (by omega)
                have qp4 : ((e : Int) < (B : Int)) := by omega
                have eL1 : L1 = [] := List.eq_nil_of_length_eq_zero (by omega)
                have krot := hrot (by omega) (by omega)
                have hz : R1.Perm (L1 ++ R1) := by rw [eL1, List.nil_append]
                have hzs : R1.Pairwise lt := hpr1
                have k2 := fun m => hrec2 R1 (p ++ (L1 ++ (R1 ++ (L2 ++ (R2 ++ q))))) m hz (by rw [eL1]; simp) (by omega) (by omega)
                have EeL1 := Aside0.mk eL1
                have HCU := Aside0.mk hcur
                clear n1 n2 n3 n4 h1 h2 h3 h4 h5 hA hM hB hlen hem hem1 hem2 hlr1 hlr2 hpl1 hpr1 hpl2 hpr2 hcl hcur hrot hrec1 hrec2 CL HPM eL1 hj1 hj2 hj3 hj4
                have fe := FE.out
                go_wp2_with fail
                refine krot.mono ?_
                rintro e0 w1 ⟨rfl, m1, rfl⟩
                go_wp2_with fail
                refine (k2 _).mono ?_
                rintro e0 w1 ⟨rfl, m3, Z2, y1, y2, rfl⟩
                go_wp2_with fail
                go_end0
                exact ⟨rfl, m3, R1 ++ Z2, (by first | exact HPM1.out R1 Z2 hz y1 | (simpa only [List.append_assoc] using HPM1.out R1 Z2 hz y1)), HX.out R1 Z2 hz y1 hzs y2, by first | (simp; done) | (rw [EeL1.out]; simp; done) | (simp [EeL1.out]; done)⟩
              · have q0 : decide ((j : Int) < (M : Int)) = true := decide_eq_true (by omega)
                have qp0 : ((j : Int) < (M : Int)) := by omega
                have q1 : decide ((M : Int) < (e : Int)) = true := decide_eq_true (by omega)
                have qp1 : ((M : Int) < (e : Int)) := by omega
                have q2 : decide ((A : Int) < (j : Int)) = false := decide_eq_false (by omega)
                have qp2 : ¬ ((A : Int) < (j : Int)) := by omega
                have q3 : decide ((mid : Int) < (e : Int)) = true := decide_eq_true (by omega)
                have qp3 : ((mid : Int) < (e : Int)) := by omega
                have q4 : decide ((e : Int) < (B : Int)) = false := decide_eq_false (by omega)
                have qp4 : ¬ ((e : Int) < (B : Int)) := by omega
                have eL1 : L1 = [] := List.eq_nil_of_length_eq_zero (by omega)
                have eR2 : R2 = [] := List.eq_nil_of_length_eq_zero (by omega)
                have krot := hrot (by omega) (by omega)
                have hz : R1.Perm (L1 ++ R1) := by rw [eL1, List.nil_append]
                have hzs : R1.Pairwise lt := hpr1
                have hy : L2.Perm (L2 ++ R2) := by rw [eR2, List.append_nil]
                have hys : L2.Pairwise lt := hpl2
                have EeL1 := Aside0.mk eL1
                have EeR2 := Aside0.mk eR2
                have HCU := Aside0.mk hcur
                clear n1 n2 n3 n4 h1 h2 h3 h4 h5 hA hM hB hlen hem hem1 hem2 hlr1 hlr2 hpl1 hpr1 hpl2 hpr2 hcl hcur hrot hrec1 hrec2 CL HPM eL1 eR2 hj1 hj2 hj3 hj4
                have fe := FE.out
                go_wp2_with fail
                refine krot.mono ?_
                rintro e0 w1 ⟨rfl, m1, rfl⟩
                go_wp2_with fail
                go_end0
                exact ⟨rfl, m1, R1 ++ L2, (by first | exact HPM1.out R1 L2 hz hy | (simpa only [List.append_assoc] using HPM1.out R1 L2 hz hy)), HX.out R1 L2 hz hy hzs hys, by first | (simp; done) | (rw [EeL1.out, EeR2.out]; simp; done) | (simp [EeL1.out, EeR2.out]; done)⟩
          · have q0 : decide ((j : Int) < (M : Int)) = true := decide_eq_true (by omega)
            have qp0 : ((j : Int) < (M : Int)) := by omega
            have q1 : decide ((M : Int) < (e : Int)) = false := decide_eq_false (by omega)
            have qp1 : ¬ ((M : Int) < (e : Int)) := by omega
            have q2 : decide ((A : Int) < (j : Int)) = true := decide_eq_true (by omega)
            have qp2 : ((A : Int) < (j : Int)) := by omega
            have q3 : decide ((j : Int) < (mid : Int)) = false := decide_eq_false (by omega)
            have qp3 : ¬ ((j : Int) < (mid : Int)) := by omega
            have q4 : decide ((mid : Int) < (e : Int)) = true := decide_eq_true (by omega)
            have qp4 : ((mid : Int) < (e : Int)) := by omega
            have q5 : decide ((e : Int) < (B : Int)) = true := decide_eq_true (by omega)
            have qp5 : ((e : Int) < (B : Int)) := by omega
            have eR1 : R1 = [] := List.eq_nil_of_length_eq_zero (by omega)
            have hz : L1.Perm (L1 ++ R1) := by rw [eR1, List.append_nil]
            have hzs : L1.Pairwise lt := hpl1
            have k2 := fun m => hrec2 L1 (cur) m hz (by rw [hcur, eR1]; simp) (by omega) (by omega)
            have EeR1 := Aside0.mk eR1
            have HCU := Aside0.mk hcur
            clear n1 n2 n3 n4 h1 h2 h3 h4 h5 hA hM hB hlen hem hem1 hem2 hlr1 hlr2 hpl1 hpr1 hpl2 hpr2 hcl hcur hrot hrec1 hrec2 CL HPM eR1 hj1 hj2
            have fe := FE.out
            go_wp2_with fail
            refine (k2 _).mono ?_
            rintro e0 w1 ⟨rfl, m3, Z2, y1, y2, rfl⟩
            go_wp2_with fail
            go_end0
            exact ⟨rfl, m3, L1 ++ Z2, (by first | exact HPM1.out L1 Z2 hz y1 | (simpa only [List.append_assoc] using HPM1.out L1 Z2 hz y1)), HX.out L1 Z2 hz y1 hzs y2, by first | (simp; done) | (rw [EeR1.out]; simp; done) | (simp [EeR1.out]; done)⟩
        · by_cases hj2 : j < mid
          · have q0 : decide ((j : Int) < (M : Int)) = false := decide_eq_false (by omega)
            have qp0 : ¬ ((j : Int) < (M : Int)) := by omega
            have q1 : decide ((A : Int) < (j : Int)) = true := decide_eq_true (by omega)
            have qp1 : ((A : Int) < (j : Int)) := by omega
            have q2 : decide ((j : Int) < (mid : Int)) = true := decide_eq_true (by omega)
            have qp2 : ((j : Int) < (mid : Int)) := by omega
            have q3 : decide ((mid : Int) < (e : Int)) = false := decide_eq_false (by omega)
            have qp3 : ¬ ((mid : Int) < (e : Int)) := by omega
            have eL2 : L2 = [] := List.eq_nil_of_length_eq_zero (by omega)
            have k1 := fun m => hrec1 (cur) m (by rw [hcur, eL2]; simp) (by omega) (by omega)
            have hy : R2.Perm (L2 ++ R2) := by rw [eL2, List.nil_append]
            have hys : R2.Pairwise lt := hpr2
            have EeL2 := Aside0.mk eL2
            have HCU := Aside0.mk hcur
            clear n1 n2 n3 n4 h1 h2 h3 h4 h5 hA hM hB hlen hem hem1 hem2 hlr1 hlr2 hpl1 hpr1 hpl2 hpr2 hcl hcur hrot hrec1 hrec2 CL HPM eL2 hj1 hj2
            have fe := FE.out
            go_wp2_with fail
            refine (k1 _).mono ?_
            rintro e0 w1 ⟨rfl, m2, Z, z1, z2, rfl⟩
            go_wp2_with fail
            go_end0
            exact ⟨rfl, m2, Z ++ R2, (by first | exact HPM1.out Z R2 z1 hy | (simpa only [List.append_assoc] using HPM1.out Z R2 z1 hy)), HX.out Z R2 z1 hy z2 hys, by first | (simp; done) | (rw [EeL2.out]; simp; done) | (simp [EeL2.out]; done)⟩
          · have q0 : decide ((j : Int) < (M : Int)) = false := decide_eq_false (by omega)
            have qp0 : ¬ ((j : Int) < (M : Int)) := by omega
            have q1 : decide ((A : Int) < (j : Int)) = true := decide_eq_true (by omega)
            have qp1 : ((A : Int) < (j : Int)) := by omega
            have q2 : decide ((j : Int) < (mid : Int)) = false := decide_eq_false (by omega)
            have qp2 : ¬ ((j : Int) < (mid : Int)) := by omega
            have q3 : decide ((mid : Int) < (e : Int)) = false := decide_eq_false (by omega)
            have qp3 : ¬ ((mid : Int) < (e : Int)) := by omega
            have eL2 : L2 = [] := List.eq_nil_of_length_eq_zero (by omega)
            have eR1 : R1 = [] := List.eq_nil_of_length_eq_zero (by omega)
            have hz : L1.Perm (L1 ++ R1) := by rw [eR1, List.append_nil]
            have hzs : L1.Pairwise lt := hpl1
            have hy : R2.Perm (L2 ++ R2) := by rw [eL2, List.nil_append]
            have hys : R2.Pairwise lt := hpr2
            have EeL2 := Aside0.mk eL2
            have EeR1 := Aside0.mk eR1
            have HCU := Aside0.mk hcur
            clear n1 n2 n3 n4 h1 h2 h3 h4 h5 hA hM hB hlen hem hem1 hem2 hlr1 hlr2 hpl1 hpr1 hpl2 hpr2 hcl hcur hrot hrec1 hrec2 CL HPM eL2 eR1 hj1 hj2
            have fe := FE.out
            go_wp2_with fail
            go_end0
            exact ⟨rfl, nn, L1 ++ R2, (by first | exact HPM1.out L1 R2 hz hy | (simpa only [List.append_assoc] using HPM1.out L1 R2 hz hy)), HX.out L1 R2 hz hy hzs hys, by first | (simp; done) | (rw [HCU.out, EeL2.out, EeR1.out]; simp; done) | (simp [HCU.out, EeL2.out, EeR1.out]; done)⟩
/-- One element is moved left, past those that it is less than. -/
theorem ins_inner {β : Type} [Inhabited β] (cf : β → β → Int) (lt : β → β → Prop) (p q : List β) (y : β) : ∀ (n : Nat) (s t : List β), s.length = n → (s ++ t).Pairwise lt → (∀ x ∈ s, (cf y x < 0 → lt y x) ∧ (¬ cf y x < 0 → lt x y)) → (∀ x ∈ t, lt y x) → (∀ a b c, lt a b → lt b c → lt a c) →
    ∃ z : List β, z.Perm (y :: (s ++ t)) ∧ z.Pairwise lt ∧ Sort.insInner (ltOf cf) p.length (p.length + s.length) (p ++ (s ++ (y :: (t ++ q)))).toArray = (p ++ (z ++ q)).toArray
  | 0, s, t, hn, hs, h1, h2, htr => by
    have e : s = [] := List.eq_nil_of_length_eq_zero hn
    subst e
    refine ⟨y :: t, List.Perm.refl _, List.pairwise_cons.mpr ⟨h2, hs⟩, ?_⟩
    rw [List.length_nil, Nat.add_zero]
    cases hp : p.length with
    | zero => simp [Sort.insInner]
    | succ k => simp [Sort.insInner]
  | n + 1, s, t, hn, hs, h1, h2, htr => by
    have hne : s ≠ [] := by
      intro e
      rw [e] at hn
      simp at hn
    obtain ⟨s0, x, rfl⟩ : ∃ s0 x, s = s0 ++ [x] := ⟨s.dropLast, s.getLast hne, (List.dropLast_concat_getLast hne).symm⟩
    rw [List.length_append, List.length_singleton] at hn
    have hl0 : s0.length = n := by omega
    rw [List.length_append, List.length_singleton, show p.length + (s0.length + 1) = (p.length + s0.length) + 1 by omega, Sort.insInner]
    have f1 : p ++ (s0 ++ [x] ++ (y :: (t ++ q))) = (p ++ s0 ++ [x]) ++ y :: (t ++ q) := by simp
    have f2 : p ++ (s0 ++ [x] ++ (y :: (t ++ q))) = (p ++ s0) ++ x :: (y :: (t ++ q)) := by simp
    have g1 : (p ++ (s0 ++ [x] ++ (y :: (t ++ q)))).toArray[p.length + s0.length + 1]! = y := by
      rw [f1]
      rw [getElem!_pos _ _ (by simp; omega)]
      rw [List.getElem_toArray]
      exact get_mid _ _ _ _ (by simp; omega) _
    have g2 : (p ++ (s0 ++ [x] ++ (y :: (t ++ q)))).toArray[p.length + s0.length]! = x := by
      rw [f2]
      rw [getElem!_pos _ _ (by simp)]
      rw [List.getElem_toArray]
      exact get_mid _ _ _ _ (by simp) _
    rw [g1, g2]
    have hx := h1 x (by simp)
    by_cases hc : cf y x < 0
    · have hd : (decide (p.length + s0.length + 1 > p.length) && ltOf cf y x) = true := by
        unfold ltOf
        rw [decide_eq_true hc, decide_eq_true (by omega)]
        rfl
      rw [if_pos hd]
      have hsw : swp (p ++ (s0 ++ [x] ++ (y :: (t ++ q)))).toArray (p.length + s0.length + 1) (p.length + s0.length) = (p ++ (s0 ++ (y :: ((x :: t) ++ q)))).toArray := by
        unfold Sort.swp
        rw [g1, g2]
        simp only [List.setIfInBounds_toArray]
        rw [f1, set_mid _ _ _ _ _ (by simp; omega)]
        rw [show (p ++ s0 ++ [x]) ++ x :: (t ++ q) = (p ++ s0) ++ x :: (x :: (t ++ q)) by simp, set_mid _ _ _ _ _ (by simp)]
        simp
      rw [hsw]
      have hs' : (s0 ++ (x :: t)).Pairwise lt := by simpa using hs
      obtain ⟨z, z1, z2, z3⟩ := ins_inner cf lt p q y n s0 (x :: t) hl0 hs' (fun a ha => h1 a (by simp [ha])) (fun a ha => by
        rcases List.mem_cons.mp ha with rfl | ha
        · exact hx.1 hc
        · exact h2 a ha) htr
      refine ⟨z, ?_, z2, z3⟩
      refine z1.trans ?_
      simp
    · have hd : (decide (p.length + s0.length + 1 > p.length) && ltOf cf y x) = false := by
        unfold ltOf
        rw [decide_eq_false hc, Bool.and_false]
      rw [if_neg (by rw [hd]; decide)]
      refine ⟨(s0 ++ [x]) ++ (y :: t), List.perm_middle, ?_, by simp⟩
      have hxy := hx.2 hc
      rw [List.pairwise_append] at hs ⊢
      refine ⟨hs.1, List.pairwise_cons.mpr ⟨h2, hs.2.1⟩, ?_⟩
      intro a ha b hb
      rcases List.mem_cons.mp hb with rfl | hb
      · rcases List.mem_append.mp ha with h | h
        · exact htr _ _ _ ((List.pairwise_append.mp hs.1).2.2 a h x (by simp)) hxy
        · rw [List.mem_singleton.mp h]; exact hxy
      · exact hs.2.2 a ha b hb
/-- A later element is put before an earlier one exactly if the comparison says so. -/
def Later {β : Type} (cf : β → β → Int) (lt : β → β → Prop) (a b : β) : Prop := (cf b a < 0 → lt b a) ∧ (¬ cf b a < 0 → lt a b)
theorem ins_outer {β : Type} [Inhabited β] (cf : β → β → Int) (lt : β → β → Prop) (htr : ∀ a b c, lt a b → lt b c → lt a c) (p q : List β) : ∀ (rest z : List β), z.Pairwise lt → (∀ y ∈ rest, ∀ x ∈ z, Later cf lt x y) → rest.Pairwise (Later cf lt) →
    ∃ z' : List β, z'.Perm (z ++ rest) ∧ z'.Pairwise lt ∧ Sort.insOuter (ltOf cf) p.length (p.length + z.length + rest.length) (p.length + z.length) (p ++ (z ++ (rest ++ q))).toArray = (p ++ (z' ++ q)).toArray
  | [], z, hz, _, _ => by
    refine ⟨z, by simp, hz, ?_⟩
    rw [Sort.insOuter, if_neg (by simp)]
    simp
  | y :: rest, z, hz, h1, h2 => by
    rw [Sort.insOuter, if_pos (by simp)]
    obtain ⟨z1, p1, s1, e1⟩ := ins_inner cf lt p (rest ++ q) y z.length z [] rfl (by simpa using hz) (fun x hx => h1 y (by simp) x hx) (fun x hx => by simp at hx) htr
    rw [List.nil_append] at e1
    rw [List.cons_append, e1]
    rw [List.append_nil] at p1
    have hl := p1.length_eq
    rw [List.length_cons] at hl
    obtain ⟨z2, p2, s2, e2⟩ := ins_outer cf lt htr p q rest z1 s1 (fun b hb x hx => by
      rcases List.mem_cons.mp (p1.mem_iff.mp hx) with rfl | hx
      · exact List.rel_of_pairwise_cons h2 hb
      · exact h1 b (List.mem_cons_of_mem _ hb) x hx) (List.Pairwise.of_cons h2)
    refine ⟨z2, ?_, s2, ?_⟩
    · refine p2.trans ?_
      refine (List.Perm.append_right rest p1).trans ?_
      exact (List.perm_middle (l₁ := z) (l₂ := rest) (a := y)).symm
    · rw [← e2]
      congr 1
      · rw [List.length_cons]; omega
      · omega
/-- The insertion sort of a part of the row. -/
theorem ins_sort {β : Type} [Inhabited β] (cf : β → β → Int) (lt : β → β → Prop) (htr : ∀ a b c, lt a b → lt b c → lt a c) (p x q : List β) (hx : x.Pairwise (Later cf lt)) :
    ∃ z : List β, z.Perm x ∧ z.Pairwise lt ∧ Sort.insertionSort (ltOf cf) (p ++ (x ++ q)).toArray p.length (p.length + x.length) = (p ++ (z ++ q)).toArray := by
  cases x with
  | nil =>
    refine ⟨[], List.Perm.refl _, List.Pairwise.nil, ?_⟩
    unfold Sort.insertionSort
    rw [Sort.insOuter, if_neg (by simp)]
  | cons y r =>
    obtain ⟨z, h1, h2, h3⟩ := ins_outer cf lt htr p q r [y] (by simp) (fun b hb a ha => by
      rw [List.mem_singleton.mp ha]
      exact List.rel_of_pairwise_cons hx hb) (List.Pairwise.of_cons hx)
    refine ⟨z, h1, h2, ?_⟩
    unfold Sort.insertionSort
    rw [← h3]
    congr 1
    rw [List.length_cons, List.length_singleton]
    omega
theorem lrow_lrow {α : Type} [Inhabited α] (enc : α → Value) (w : World) (blk nd m : Nat) (l : List α) (d : Array α) (h : d.size = l.length) : putRow enc (((LRow enc w blk l).drewN nd).drewN m) blk 0 d = ((putRow enc w blk 0 d).drewN nd).drewN m := by
  have h1 : putRow enc (((LRow enc w blk l).drewN nd).drewN m) blk 0 d = ((putRow enc (LRow enc w blk l) blk 0 d).drewN nd).drewN m := rfl
  rw [h1, Go.Sort.putRow_putRow enc w blk 0 l.toArray d (by simpa using h)]
/-- Insertion sort of a part of the row. -/
theorem ins_call {α : Type} [Inhabited α] (enc : α → Value) (hO : OneCell enc) (cf : α → α → Int) (lt : α → α → Prop) (g : Nat) (cb : Array Value) (blk cap : Nat) (p x q cur : List α) (l0 : List α) (w : World) (A B : Nat) (hcur : cur = p ++ (x ++ q)) (hA : A = p.length) (hB : B = p.length + x.length)
    (eg : ∀ args w, (callFunc g args).run Tryd.prog w = .ok (.enter g args) w) (hall : ∀ sz, CmpReads Tryd.prog g cb enc cf blk 0 sz w) (htr : ∀ a b c, lt a b → lt b c → lt a c) (hx : x.Pairwise (Later cf lt))
    (hH : Holds enc w blk 0 l0.toArray) (hs : cur.length = l0.length) (hsz : l0.length ≤ 64) (nd : Nat) :
    Calls Tryd.prog 54 #[.slice (some ⟨blk, 0, none⟩) l0.length cap, .int .i64 A, .int .i64 B, .func (.func g) #[] cb] ((LRow enc w blk cur).drewN nd) fun e w' =>
      e = .returned (.tuple #[]) ∧ ∃ (n : Nat) (z : List α), z.Perm x ∧ z.Pairwise lt ∧ w' = (LRow enc w blk (p ++ (z ++ q))).drewN n := by
  have hlen := hs
  rw [hcur] at hlen
  simp only [List.length_append] at hlen
  have hH2 : Holds enc ((LRow enc w blk cur).drewN nd) blk 0 cur.toArray := Go.Sort.holds_putRow enc w blk 0 l0.toArray cur.toArray hH (by simpa using hs)
  have hR : CmpReads Tryd.prog g cb enc cf blk 0 cur.toArray.size ((LRow enc w blk cur).drewN nd) := by
    intro m os dk hdk a b
    have h := hall dk.size (nd + m) os dk rfl a b
    have e : sortWorld enc ((LRow enc w blk cur).drewN nd) blk 0 m dk os = sortWorld enc w blk 0 (nd + m) dk os := by
      have h1 := lrow_lrow enc w blk nd m cur dk (by simpa using hdk)
      unfold sortWorld
      show Go.Sort.grow (putRow enc (((LRow enc w blk cur).drewN nd).drewN m) blk 0 dk) os = _
      rw [h1, World.drewN_drewN]
      rfl
    rw [e]
    exact h
  have hc := Tryd.insertionSortCmpFunc_one enc hO cf g cb blk 0 cap A B cur.toArray ((LRow enc w blk cur).drewN nd) eg hR hH2 (by omega) (by simp; omega) (by simp; omega)
  obtain ⟨z, z1, z2, z3⟩ := ins_sort cf lt htr p x q hx
  have hsize : cur.toArray.size = l0.length := by simpa using hs
  rw [hsize] at hc
  rw [hA, hB] at hc ⊢
  refine hc.mono ?_
  rintro e w' ⟨rfl, n, rfl⟩
  refine ⟨rfl, nd + n, z, z1, z2, ?_⟩
  rw [hcur, z3]
  have h1 := lrow_lrow enc w blk nd 0 (p ++ (x ++ q)) (p ++ (z ++ q)).toArray (by simp [z1.length_eq])
  have h2 : putRow enc ((LRow enc w blk (p ++ (x ++ q))).drewN nd) blk 0 (p ++ (z ++ q)).toArray = (putRow enc w blk 0 (p ++ (z ++ q)).toArray).drewN nd := h1
  rw [h2, World.drewN_drewN]
theorem sym_merge {α : Type} [Inhabited α] (enc : α → Value) (hO : OneCell enc) (cf : α → α → Int) (lt : α → α → Prop) (g : Nat) (cb : Array Value) (blk cap : Nat) (l0 : List α) (w : World)
    (eg : ∀ args w, (callFunc g args).run Tryd.prog w = .ok (.enter g args) w) (hcmp : CmpRow g cb enc cf blk w) (htr : ∀ a b c, lt a b → lt b c → lt a c)
    (hH : Holds enc w blk 0 l0.toArray) (hsz : l0.length ≤ 64) : ∀ (k : Nat) (p l r q cur : List α) (A M B nd : Nat), l.length + r.length ≤ k → cur = p ++ (l ++ (r ++ q)) → A = p.length → M = p.length + l.length → B = p.length + l.length + r.length → 1 ≤ l.length → 1 ≤ r.length → l.Pairwise lt → r.Pairwise lt → (∀ y ∈ r, ∀ x ∈ l, (cf y x < 0 → lt y x) ∧ (¬ cf y x < 0 → lt x y)) → cur.length = l0.length →
      Calls Tryd.prog 55 #[.slice (some ⟨blk, 0, none⟩) l0.length cap, .int .i64 A, .int .i64 M, .int .i64 B, .func (.func g) #[] cb] ((LRow enc w blk cur).drewN nd) fun e w' =>
        e = .returned (.tuple #[]) ∧ ∃ (n : Nat) (z : List α), z.Perm (l ++ r) ∧ z.Pairwise lt ∧ w' = (LRow enc w blk (p ++ (z ++ q))).drewN n := by
  intro k
  induction k with
  | zero =>
    intro p l r q cur A M B nd hk _ _ _ _ h1
    omega
  | succ k ih =>
    intro p l r q cur A M B nd hk hcur hA hM hB h1 h2 hl hr hlt hs
    by_cases c1 : l.length = 1
    · obtain ⟨x, rfl⟩ : ∃ x, l = [x] := by
        cases l with
        | nil => simp at c1
        | cons x t => cases t with
          | nil => exact ⟨x, rfl⟩
          | cons y t => simp at c1
      exact sym_one enc hO cf lt g cb blk cap p r q cur x l0 w A M B (by rw [hcur]; rfl) hA (by rw [hM]; rfl) (by rw [hB]; rfl) eg hcmp (fun y hy => hlt y hy x (by simp)) hr htr h2 hH hs hsz nd
    · by_cases c2 : r.length = 1
      · obtain ⟨x, rfl⟩ : ∃ x, r = [x] := by
          cases r with
          | nil => simp at c2
          | cons x t => cases t with
            | nil => exact ⟨x, rfl⟩
            | cons y t => simp at c2
        refine (sym_last enc hO cf lt g cb blk cap p l q cur x l0 w A M B (by rw [hcur]; rfl) hA hM (by rw [hB]; rfl) eg hcmp (fun y hy => hlt x (by simp) y hy) hl htr (by omega) hH hs hsz nd).mono ?_
        rintro e w' ⟨rfl, n, z, hz, hzs, rfl⟩
        exact ⟨rfl, n, z, hz.trans (List.perm_append_singleton x l).symm, hzs, rfl⟩
      · exact sym_gen enc hO cf lt g cb blk cap p l r q cur l0 w A M B hcur hA hM hB eg hcmp hlt hl hr htr (by omega) (by omega) hH hs hsz nd (fun p' l' r' q' cur' A' M' B' nd' e1 e2 e3 e4 e5 e6 e7 e8 e9 e10 e11 => ih p' l' r' q' cur' A' M' B' nd' (by omega) e1 e2 e3 e4 e6 e7 e8 e9 e10 e11)
end

end Go.Proofs.YtcbhaoaameiacaaDoor.X
