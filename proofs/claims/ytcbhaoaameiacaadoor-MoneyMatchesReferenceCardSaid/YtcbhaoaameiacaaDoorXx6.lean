-- Written by a program of mine (wip/tools/xprint.py) over the kit's print.py: printed functions and hand-proved ones side by side.
import Derived.Test.YtcbhaoaameiacaaDoorXx0
import Derived.Test.YtcbhaoaameiacaaDoorXx3
import Derived.Test.YtcbhaoaameiacaaDoorXx4
import Derived.Test.YtcbhaoaameiacaaDoorXx5
namespace Go.Proofs.YtcbhaoaameiacaaDoor.X
open Go.RowKit Go.Proofs.YtcbhaoaameiacaaDoorW.PrintWords Go.Proofs.YtcbhaoaameiacaaDoorW.PrintLast Go.Proofs.YtcbhaoaameiacaaDoorW.PrintMore
attribute [local go_sem] max2_int min2_int max_two min_two max_three min_three max_four min_four   -- for this text's walks alone
set_option linter.unusedVariables false
set_option linter.unusedSimpArgs false

/-! ### slices_stableCmpFunc_int: function 45 -/
-- by hand: slices.stableCmpFunc[int]
section
open Go.Sort (putRow Holds putCells mapBlock swp)
theorem cmpRow_of {α : Type} [Inhabited α] {enc : α → Value} {cf : α → α → Int} {g : Nat} {cb : Array Value} {blk : Nat} {w : World} (hall : ∀ sz, CmpReads Tryd.prog g cb enc cf blk 0 sz w) : CmpRow g cb enc cf blk w := by
  intro l nd x y
  have h := hall l.toArray.size nd #[] l.toArray rfl x y
  rw [sortWorld_none] at h
  exact h
theorem later_perm {β : Type} {cf : β → β → Int} {lt : β → β → Prop} {a b za zb : List β} (h : ∀ y ∈ b, ∀ x ∈ a, Later cf lt x y) (ha : za.Perm a) (hb : zb.Perm b) : ∀ y ∈ zb, ∀ x ∈ za, Later cf lt x y :=
  fun y hy x hx => h y (hb.mem_iff.mp hy) x (ha.mem_iff.mp hx)
set_option maxHeartbeats 4000000 in
set_option maxRecDepth 100000 in
theorem stable_19 {α : Type} [Inhabited α] (enc : α → Value) (hO : OneCell enc) (cf : α → α → Int) (lt : α → α → Prop) (g : Nat) (cb : Array Value) (blk cap : Nat) (x1 cur l0 : List α) (w : World) (hcur : cur = x1)  (hn1 : 0 ≤ x1.length ∧ x1.length ≤ 19)
    (eg : ∀ args w, (callFunc g args).run Tryd.prog w = .ok (.enter g args) w) (hall : ∀ sz, CmpReads Tryd.prog g cb enc cf blk 0 sz w) (htr : ∀ a b c, lt a b → lt b c → lt a c) (hx : (x1).Pairwise (Later cf lt))
    (hH : Holds enc w blk 0 l0.toArray) (hs : cur.length = l0.length) (nd : Nat) :
    Calls Tryd.prog 45 #[.slice (some ⟨blk, 0, none⟩) l0.length cap, .int .i64 l0.length, .func (.func g) #[] cb] ((LRow enc w blk cur).drewN nd) fun e w' =>
      e = .returned (.tuple #[]) ∧ ∃ (n : Nat) (z : List α), z.Perm (x1) ∧ z.Pairwise lt ∧ w' = (LRow enc w blk z).drewN n := by
  have hlen := hs
  rw [hcur] at hlen
  (try simp only [List.length_append] at hlen)
  have hsz : l0.length ≤ 64 := by omega
  have hr := cmpRow_of hall
  have S1 := Aside0.mk hx
  have LEN := Aside0.mk (And.intro hsz (And.intro hlen  hn1))
  have a20 : ¬ ((20 : Int) ≤ (l0.length : Int)) := by omega
  have b20 : ¬ ((20 : Int) < (l0.length : Int)) := by omega
  have a40 : ¬ ((40 : Int) ≤ (l0.length : Int)) := by omega
  have b40 : ¬ ((40 : Int) < (l0.length : Int)) := by omega
  have a60 : ¬ ((60 : Int) ≤ (l0.length : Int)) := by omega
  have b60 : ¬ ((60 : Int) < (l0.length : Int)) := by omega
  have a80 : ¬ ((80 : Int) ≤ (l0.length : Int)) := by omega
  have b80 : ¬ ((80 : Int) < (l0.length : Int)) := by omega
  have HSZ := Aside0.mk hsz
  have HALL := Aside0.mk hall
  have HH := Aside0.mk hH
  clear hlen hs hn1 hx hsz hall hH 
  rw [hcur]
  clear hcur
  go_enter Tryd.func45, Tryd.ntmps45
  go_wp2
  refine wp_loop_rounds 1 ?_
  rw [rounds_succ]
  go_wp2_with fail
  refine (ins_call enc hO cf lt g cb blk cap (([] : List α)) x1 (([] : List α)) _ l0 w 0 l0.length (by simp) (by obtain ⟨hsz, hlen, hn1⟩ := LEN.out; first | omega | (simp only [List.length_append, List.length_nil]; done) | (simp only [List.length_append, List.length_nil]; omega)) (by obtain ⟨hsz, hlen, hn1⟩ := LEN.out; first | omega | (simp only [List.length_append, List.length_nil]; done) | (simp only [List.length_append, List.length_nil]; omega)) eg HALL.out htr S1.out HH.out (by obtain ⟨hsz, hlen, hn1⟩ := LEN.out; first | omega | (simp only [List.length_append, List.length_nil]; done) | (simp only [List.length_append, List.length_nil]; omega)) HSZ.out _).mono ?_
  rintro e w1 ⟨rfl, m1, y1, p1, s1, rfl⟩
  go_wp2_with fail
  refine wp_loop_rounds 1 ?_
  rw [rounds_succ]
  go_wp2_with fail
  go_end0
  exact ⟨rfl, _, y1, by first | exact p1 | (simpa only [List.append_assoc] using p1), s1, by first | rfl | simp⟩
set_option maxHeartbeats 4000000 in
set_option maxRecDepth 100000 in
theorem stable_20 {α : Type} [Inhabited α] (enc : α → Value) (hO : OneCell enc) (cf : α → α → Int) (lt : α → α → Prop) (g : Nat) (cb : Array Value) (blk cap : Nat) (x1 cur l0 : List α) (w : World) (hcur : cur = x1) (hn1 : x1.length = 20)
    (eg : ∀ args w, (callFunc g args).run Tryd.prog w = .ok (.enter g args) w) (hall : ∀ sz, CmpReads Tryd.prog g cb enc cf blk 0 sz w) (htr : ∀ a b c, lt a b → lt b c → lt a c) (hx : (x1).Pairwise (Later cf lt))
    (hH : Holds enc w blk 0 l0.toArray) (hs : cur.length = l0.length) (nd : Nat) :
    Calls Tryd.prog 45 #[.slice (some ⟨blk, 0, none⟩) l0.length cap, .int .i64 l0.length, .func (.func g) #[] cb] ((LRow enc w blk cur).drewN nd) fun e w' =>
      e = .returned (.tuple #[]) ∧ ∃ (n : Nat) (z : List α), z.Perm (x1) ∧ z.Pairwise lt ∧ w' = (LRow enc w blk z).drewN n := by
  have hlen := hs
  rw [hcur] at hlen
  (try simp only [List.length_append] at hlen)
  have hsz : l0.length ≤ 64 := by omega
  have hr := cmpRow_of hall
  have S1 := Aside0.mk hx
  have LEN := Aside0.mk (And.intro hsz (And.intro hlen  hn1))
  have a20 : ((20 : Int) ≤ (l0.length : Int)) := by omega
  have b20 : ¬ ((20 : Int) < (l0.length : Int)) := by omega
  have a40 : ¬ ((40 : Int) ≤ (l0.length : Int)) := by omega
  have b40 : ¬ ((40 : Int) < (l0.length : Int)) := by omega
  have a60 : ¬ ((60 : Int) ≤ (l0.length : Int)) := by omega
  have b60 : ¬ ((60 : Int) < (l0.length : Int)) := by omega
  have a80 : ¬ ((80 : Int) ≤ (l0.length : Int)) := by omega
  have b80 : ¬ ((80 : Int) < (l0.length : Int)) := by omega
  have HSZ := Aside0.mk hsz
  have HALL := Aside0.mk hall
  have HH := Aside0.mk hH
  clear hlen hs hn1 hx hsz hall hH 
  rw [hcur]
  clear hcur
  go_enter Tryd.func45, Tryd.ntmps45
  go_wp2
  refine wp_loop_rounds 2 ?_
  rw [rounds_succ]
  go_wp2_with fail
  refine (ins_call enc hO cf lt g cb blk cap (([] : List α)) x1 (([] : List α)) _ l0 w 0 20 (by simp) (by obtain ⟨hsz, hlen, hn1⟩ := LEN.out; first | omega | (simp only [List.length_append, List.length_nil]; done) | (simp only [List.length_append, List.length_nil]; omega)) (by obtain ⟨hsz, hlen, hn1⟩ := LEN.out; first | omega | (simp only [List.length_append, List.length_nil]; done) | (simp only [List.length_append, List.length_nil]; omega)) eg HALL.out htr S1.out HH.out (by obtain ⟨hsz, hlen, hn1⟩ := LEN.out; first | omega | (simp only [List.length_append, List.length_nil]; done) | (simp only [List.length_append, List.length_nil]; omega)) HSZ.out _).mono ?_
  rintro e w1 ⟨rfl, m1, y1, p1, s1, rfl⟩
  go_wp2_with fail
  rw [rounds_succ]
  go_wp2_with fail
  refine (ins_call enc hO cf lt g cb blk cap (y1) ([] : List α) (([] : List α)) _ l0 w 20 l0.length (by simp) (by obtain ⟨hsz, hlen, hn1⟩ := LEN.out; have ep1 := p1.length_eq; first | omega | (simp only [List.length_append, List.length_nil]; done) | (simp only [List.length_append, List.length_nil]; omega)) (by obtain ⟨hsz, hlen, hn1⟩ := LEN.out; have ep1 := p1.length_eq; first | omega | (simp only [List.length_append, List.length_nil]; done) | (simp only [List.length_append, List.length_nil]; omega)) eg HALL.out htr List.Pairwise.nil HH.out (by obtain ⟨hsz, hlen, hn1⟩ := LEN.out; have ep1 := p1.length_eq; first | omega | (simp only [List.length_append, List.length_nil]; done) | (simp only [List.length_append, List.length_nil]; omega)) HSZ.out _).mono ?_
  rintro e w1 ⟨rfl, m2, ye, pe, se, rfl⟩
  obtain rfl := List.perm_nil.mp pe
  go_wp2_with fail
  refine wp_loop_rounds 1 ?_
  rw [rounds_succ]
  go_wp2_with fail
  go_end0
  exact ⟨rfl, _, y1, by first | exact p1 | (simpa only [List.append_assoc] using p1), s1, by first | rfl | simp⟩
set_option maxHeartbeats 4000000 in
set_option maxRecDepth 100000 in
theorem stable_40 {α : Type} [Inhabited α] (enc : α → Value) (hO : OneCell enc) (cf : α → α → Int) (lt : α → α → Prop) (g : Nat) (cb : Array Value) (blk cap : Nat) (x1 x2 cur l0 : List α) (w : World) (hcur : cur = x1 ++ x2) (hn1 : x1.length = 20) (hn2 : x2.length = 20)
    (eg : ∀ args w, (callFunc g args).run Tryd.prog w = .ok (.enter g args) w) (hall : ∀ sz, CmpReads Tryd.prog g cb enc cf blk 0 sz w) (htr : ∀ a b c, lt a b → lt b c → lt a c) (hx : (x1 ++ x2).Pairwise (Later cf lt))
    (hH : Holds enc w blk 0 l0.toArray) (hs : cur.length = l0.length) (nd : Nat) :
    Calls Tryd.prog 45 #[.slice (some ⟨blk, 0, none⟩) l0.length cap, .int .i64 l0.length, .func (.func g) #[] cb] ((LRow enc w blk cur).drewN nd) fun e w' =>
      e = .returned (.tuple #[]) ∧ ∃ (n : Nat) (z : List α), z.Perm (x1 ++ x2) ∧ z.Pairwise lt ∧ w' = (LRow enc w blk z).drewN n := by
  have hlen := hs
  rw [hcur] at hlen
  (try simp only [List.length_append] at hlen)
  have hsz : l0.length ≤ 64 := by omega
  have hr := cmpRow_of hall
  have hp1 := List.pairwise_append.mp hx
  have S1 := Aside0.mk hp1.1
  have W12 : Aside0 (∀ a ∈ x1, ∀ b ∈ x2, Later cf lt a b) := ⟨fun a ha b hb => hp1.2.2 a ha b (by simp [hb])⟩
  have S2 := Aside0.mk hp1.2.1
  have LEN := Aside0.mk (And.intro hsz (And.intro hlen (And.intro hn1 hn2)))
  have a20 : ((20 : Int) ≤ (l0.length : Int)) := by omega
  have b20 : ((20 : Int) < (l0.length : Int)) := by omega
  have a40 : ((40 : Int) ≤ (l0.length : Int)) := by omega
  have b40 : ¬ ((40 : Int) < (l0.length : Int)) := by omega
  have a60 : ¬ ((60 : Int) ≤ (l0.length : Int)) := by omega
  have b60 : ¬ ((60 : Int) < (l0.length : Int)) := by omega
  have a80 : ¬ ((80 : Int) ≤ (l0.length : Int)) := by omega
  have b80 : ¬ ((80 : Int) < (l0.length : Int)) := by omega
  have HSZ := Aside0.mk hsz
  have HALL := Aside0.mk hall
  have HH := Aside0.mk hH
  clear hlen hs hn1 hn2 hx hsz hall hH hp1
  rw [hcur]
  clear hcur
  go_enter Tryd.func45, Tryd.ntmps45
  go_wp2
  refine wp_loop_rounds 3 ?_
  rw [rounds_succ]
  go_wp2_with fail
  refine (ins_call enc hO cf lt g cb blk cap (([] : List α)) x1 (x2) _ l0 w 0 20 (by simp) (by obtain ⟨hsz, hlen, hn1, hn2⟩ := LEN.out; first | omega | (simp only [List.length_append, List.length_nil]; done) | (simp only [List.length_append, List.length_nil]; omega)) (by obtain ⟨hsz, hlen, hn1, hn2⟩ := LEN.out; first | omega | (simp only [List.length_append, List.length_nil]; done) | (simp only [List.length_append, List.length_nil]; omega)) eg HALL.out htr S1.out HH.out (by obtain ⟨hsz, hlen, hn1, hn2⟩ := LEN.out; first | omega | (simp only [List.length_append, List.length_nil]; done) | (simp only [List.length_append, List.length_nil]; omega)) HSZ.out _).mono ?_
  rintro e w1 ⟨rfl, m1, y1, p1, s1, rfl⟩
  go_wp2_with fail
  rw [rounds_succ]
  go_wp2_with fail
  refine (ins_call enc hO cf lt g cb blk cap (y1) x2 (([] : List α)) _ l0 w 20 40 (by simp) (by obtain ⟨hsz, hlen, hn1, hn2⟩ := LEN.out; have ep1 := p1.length_eq; first | omega | (simp only [List.length_append, List.length_nil]; done) | (simp only [List.length_append, List.length_nil]; omega)) (by obtain ⟨hsz, hlen, hn1, hn2⟩ := LEN.out; have ep1 := p1.length_eq; first | omega | (simp only [List.length_append, List.length_nil]; done) | (simp only [List.length_append, List.length_nil]; omega)) eg HALL.out htr S2.out HH.out (by obtain ⟨hsz, hlen, hn1, hn2⟩ := LEN.out; have ep1 := p1.length_eq; first | omega | (simp only [List.length_append, List.length_nil]; done) | (simp only [List.length_append, List.length_nil]; omega)) HSZ.out _).mono ?_
  rintro e w1 ⟨rfl, m2, y2, p2, s2, rfl⟩
  go_wp2_with fail
  rw [rounds_succ]
  go_wp2_with fail
  refine (ins_call enc hO cf lt g cb blk cap (y1 ++ y2) ([] : List α) (([] : List α)) _ l0 w 40 l0.length (by simp) (by obtain ⟨hsz, hlen, hn1, hn2⟩ := LEN.out; have ep1 := p1.length_eq; have ep2 := p2.length_eq; first | omega | (simp only [List.length_append, List.length_nil]; done) | (simp only [List.length_append, List.length_nil]; omega)) (by obtain ⟨hsz, hlen, hn1, hn2⟩ := LEN.out; have ep1 := p1.length_eq; have ep2 := p2.length_eq; first | omega | (simp only [List.length_append, List.length_nil]; done) | (simp only [List.length_append, List.length_nil]; omega)) eg HALL.out htr List.Pairwise.nil HH.out (by obtain ⟨hsz, hlen, hn1, hn2⟩ := LEN.out; have ep1 := p1.length_eq; have ep2 := p2.length_eq; first | omega | (simp only [List.length_append, List.length_nil]; done) | (simp only [List.length_append, List.length_nil]; omega)) HSZ.out _).mono ?_
  rintro e w1 ⟨rfl, m3, ye, pe, se, rfl⟩
  obtain rfl := List.perm_nil.mp pe
  go_wp2_with fail
  refine wp_loop_rounds 2 ?_
  rw [rounds_succ]
  go_wp2_with fail
  refine wp_loop_rounds 2 ?_
  rw [rounds_succ]
  go_wp2_with fail
  refine (sym_merge enc hO cf lt g cb blk cap l0 w eg hr htr HH.out HSZ.out 64 (([] : List α)) y1 y2 (([] : List α)) _ 0 20 40 _ (by obtain ⟨hsz, hlen, hn1, hn2⟩ := LEN.out; have ep1 := p1.length_eq; have ep2 := p2.length_eq; first | omega | (simp only [List.length_append, List.length_nil]; done) | (simp only [List.length_append, List.length_nil]; omega)) (by simp) (by obtain ⟨hsz, hlen, hn1, hn2⟩ := LEN.out; have ep1 := p1.length_eq; have ep2 := p2.length_eq; first | omega | (simp only [List.length_append, List.length_nil]; done) | (simp only [List.length_append, List.length_nil]; omega)) (by obtain ⟨hsz, hlen, hn1, hn2⟩ := LEN.out; have ep1 := p1.length_eq; have ep2 := p2.length_eq; first | omega | (simp only [List.length_append, List.length_nil]; done) | (simp only [List.length_append, List.length_nil]; omega)) (by obtain ⟨hsz, hlen, hn1, hn2⟩ := LEN.out; have ep1 := p1.length_eq; have ep2 := p2.length_eq; first | omega | (simp only [List.length_append, List.length_nil]; done) | (simp only [List.length_append, List.length_nil]; omega)) (by obtain ⟨hsz, hlen, hn1, hn2⟩ := LEN.out; have ep1 := p1.length_eq; have ep2 := p2.length_eq; first | omega | (simp only [List.length_append, List.length_nil]; done) | (simp only [List.length_append, List.length_nil]; omega)) (by obtain ⟨hsz, hlen, hn1, hn2⟩ := LEN.out; have ep1 := p1.length_eq; have ep2 := p2.length_eq; first | omega | (simp only [List.length_append, List.length_nil]; done) | (simp only [List.length_append, List.length_nil]; omega)) s1 s2 (later_perm (fun y hy x hx => W12.out x hx y hy) p1 p2) (by obtain ⟨hsz, hlen, hn1, hn2⟩ := LEN.out; have ep1 := p1.length_eq; have ep2 := p2.length_eq; first | omega | (simp only [List.length_append, List.length_nil]; done) | (simp only [List.length_append, List.length_nil]; omega))).mono ?_
  rintro e w1 ⟨rfl, m10, ya, rya, sya, rfl⟩
  have qya := rya.trans (List.Perm.append p1 p2)
  go_wp2_with fail
  rw [rounds_succ]
  go_wp2_with fail
  rw [rounds_succ]
  go_wp2_with fail
  go_end0
  exact ⟨rfl, _, ya, by first | exact qya | (simpa only [List.append_assoc] using qya), sya, by first | rfl | simp⟩
set_option maxHeartbeats 4000000 in
set_option maxRecDepth 100000 in
theorem stable_59 {α : Type} [Inhabited α] (enc : α → Value) (hO : OneCell enc) (cf : α → α → Int) (lt : α → α → Prop) (g : Nat) (cb : Array Value) (blk cap : Nat) (x1 x2 x3 cur l0 : List α) (w : World) (hcur : cur = x1 ++ (x2 ++ x3)) (hn1 : x1.length = 20) (hn2 : x2.length = 20) (hn3 : 1 ≤ x3.length ∧ x3.length ≤ 19)
    (eg : ∀ args w, (callFunc g args).run Tryd.prog w = .ok (.enter g args) w) (hall : ∀ sz, CmpReads Tryd.prog g cb enc cf blk 0 sz w) (htr : ∀ a b c, lt a b → lt b c → lt a c) (hx : (x1 ++ (x2 ++ x3)).Pairwise (Later cf lt))
    (hH : Holds enc w blk 0 l0.toArray) (hs : cur.length = l0.length) (nd : Nat) :
    Calls Tryd.prog 45 #[.slice (some ⟨blk, 0, none⟩) l0.length cap, .int .i64 l0.length, .func (.func g) #[] cb] ((LRow enc w blk cur).drewN nd) fun e w' =>
      e = .returned (.tuple #[]) ∧ ∃ (n : Nat) (z : List α), z.Perm (x1 ++ (x2 ++ x3)) ∧ z.Pairwise lt ∧ w' = (LRow enc w blk z).drewN n := by
  have hlen := hs
  rw [hcur] at hlen
  (try simp only [List.length_append] at hlen)
  have hsz : l0.length ≤ 64 := by omega
  have hr := cmpRow_of hall
  have hp1 := List.pairwise_append.mp hx
  have hp2 := List.pairwise_append.mp hp1.2.1
  have S1 := Aside0.mk hp1.1
  have W12 : Aside0 (∀ a ∈ x1, ∀ b ∈ x2, Later cf lt a b) := ⟨fun a ha b hb => hp1.2.2 a ha b (by simp [hb])⟩
  have W13 : Aside0 (∀ a ∈ x1, ∀ b ∈ x3, Later cf lt a b) := ⟨fun a ha b hb => hp1.2.2 a ha b (by simp [hb])⟩
  have S2 := Aside0.mk hp2.1
  have W23 : Aside0 (∀ a ∈ x2, ∀ b ∈ x3, Later cf lt a b) := ⟨fun a ha b hb => hp2.2.2 a ha b (by simp [hb])⟩
  have S3 := Aside0.mk hp2.2.1
  have LEN := Aside0.mk (And.intro hsz (And.intro hlen (And.intro hn1 (And.intro hn2 hn3))))
  have a20 : ((20 : Int) ≤ (l0.length : Int)) := by omega
  have b20 : ((20 : Int) < (l0.length : Int)) := by omega
  have a40 : ((40 : Int) ≤ (l0.length : Int)) := by omega
  have b40 : ((40 : Int) < (l0.length : Int)) := by omega
  have a60 : ¬ ((60 : Int) ≤ (l0.length : Int)) := by omega
  have b60 : ¬ ((60 : Int) < (l0.length : Int)) := by omega
  have a80 : ¬ ((80 : Int) ≤ (l0.length : Int)) := by omega
  have b80 : ¬ ((80 : Int) < (l0.length : Int)) := by omega
  have HSZ := Aside0.mk hsz
  have HALL := Aside0.mk hall
  have HH := Aside0.mk hH
  clear hlen hs hn1 hn2 hn3 hx hsz hall hH hp1 hp2
  rw [hcur]
  clear hcur
  go_enter Tryd.func45, Tryd.ntmps45
  go_wp2
  refine wp_loop_rounds 3 ?_
  rw [rounds_succ]
  go_wp2_with fail
  refine (ins_call enc hO cf lt g cb blk cap (([] : List α)) x1 (x2 ++ x3) _ l0 w 0 20 (by simp) (by obtain ⟨hsz, hlen, hn1, hn2, hn3⟩ := LEN.out; first | omega | (simp only [List.length_append, List.length_nil]; done) | (simp only [List.length_append, List.length_nil]; omega)) (by obtain ⟨hsz, hlen, hn1, hn2, hn3⟩ := LEN.out; first | omega | (simp only [List.length_append, List.length_nil]; done) | (simp only [List.length_append, List.length_nil]; omega)) eg HALL.out htr S1.out HH.out (by obtain ⟨hsz, hlen, hn1, hn2, hn3⟩ := LEN.out; first | omega | (simp only [List.length_append, List.length_nil]; done) | (simp only [List.length_append, List.length_nil]; omega)) HSZ.out _).mono ?_
  rintro e w1 ⟨rfl, m1, y1, p1, s1, rfl⟩
  go_wp2_with fail
  rw [rounds_succ]
  go_wp2_with fail
  refine (ins_call enc hO cf lt g cb blk cap (y1) x2 (x3) _ l0 w 20 40 (by simp) (by obtain ⟨hsz, hlen, hn1, hn2, hn3⟩ := LEN.out; have ep1 := p1.length_eq; first | omega | (simp only [List.length_append, List.length_nil]; done) | (simp only [List.length_append, List.length_nil]; omega)) (by obtain ⟨hsz, hlen, hn1, hn2, hn3⟩ := LEN.out; have ep1 := p1.length_eq; first | omega | (simp only [List.length_append, List.length_nil]; done) | (simp only [List.length_append, List.length_nil]; omega)) eg HALL.out htr S2.out HH.out (by obtain ⟨hsz, hlen, hn1, hn2, hn3⟩ := LEN.out; have ep1 := p1.length_eq; first | omega | (simp only [List.length_append, List.length_nil]; done) | (simp only [List.length_append, List.length_nil]; omega)) HSZ.out _).mono ?_
  rintro e w1 ⟨rfl, m2, y2, p2, s2, rfl⟩
  go_wp2_with fail
  rw [rounds_succ]
  go_wp2_with fail
  refine (ins_call enc hO cf lt g cb blk cap (y1 ++ y2) x3 (([] : List α)) _ l0 w 40 l0.length (by simp) (by obtain ⟨hsz, hlen, hn1, hn2, hn3⟩ := LEN.out; have ep1 := p1.length_eq; have ep2 := p2.length_eq; first | omega | (simp only [List.length_append, List.length_nil]; done) | (simp only [List.length_append, List.length_nil]; omega)) (by obtain ⟨hsz, hlen, hn1, hn2, hn3⟩ := LEN.out; have ep1 := p1.length_eq; have ep2 := p2.length_eq; first | omega | (simp only [List.length_append, List.length_nil]; done) | (simp only [List.length_append, List.length_nil]; omega)) eg HALL.out htr S3.out HH.out (by obtain ⟨hsz, hlen, hn1, hn2, hn3⟩ := LEN.out; have ep1 := p1.length_eq; have ep2 := p2.length_eq; first | omega | (simp only [List.length_append, List.length_nil]; done) | (simp only [List.length_append, List.length_nil]; omega)) HSZ.out _).mono ?_
  rintro e w1 ⟨rfl, m3, y3, p3, s3, rfl⟩
  go_wp2_with fail
  refine wp_loop_rounds 3 ?_
  rw [rounds_succ]
  go_wp2_with fail
  refine wp_loop_rounds 2 ?_
  rw [rounds_succ]
  go_wp2_with fail
  refine (sym_merge enc hO cf lt g cb blk cap l0 w eg hr htr HH.out HSZ.out 64 (([] : List α)) y1 y2 (y3) _ 0 20 40 _ (by obtain ⟨hsz, hlen, hn1, hn2, hn3⟩ := LEN.out; have ep1 := p1.length_eq; have ep2 := p2.length_eq; have ep3 := p3.length_eq; first | omega | (simp only [List.length_append, List.length_nil]; done) | (simp only [List.length_append, List.length_nil]; omega)) (by simp) (by obtain ⟨hsz, hlen, hn1, hn2, hn3⟩ := LEN.out; have ep1 := p1.length_eq; have ep2 := p2.length_eq; have ep3 := p3.length_eq; first | omega | (simp only [List.length_append, List.length_nil]; done) | (simp only [List.length_append, List.length_nil]; omega)) (by obtain ⟨hsz, hlen, hn1, hn2, hn3⟩ := LEN.out; have ep1 := p1.length_eq; have ep2 := p2.length_eq; have ep3 := p3.length_eq; first | omega | (simp only [List.length_append, List.length_nil]; done) | (simp only [List.length_append, List.length_nil]; omega)) (by obtain ⟨hsz, hlen, hn1, hn2, hn3⟩ := LEN.out; have ep1 := p1.length_eq; have ep2 := p2.length_eq; have ep3 := p3.length_eq; first | omega | (simp only [List.length_append, List.length_nil]; done) | (simp only [List.length_append, List.length_nil]; omega)) (by obtain ⟨hsz, hlen, hn1, hn2, hn3⟩ := LEN.out; have ep1 := p1.length_eq; have ep2 := p2.length_eq; have ep3 := p3.length_eq; first | omega | (simp only [List.length_append, List.length_nil]; done) | (simp only [List.length_append, List.length_nil]; omega)) (by obtain ⟨hsz, hlen, hn1, hn2, hn3⟩ := LEN.out; have ep1 := p1.length_eq; have ep2 := p2.length_eq; have ep3 := p3.length_eq; first | omega | (simp only [List.length_append, List.length_nil]; done) | (simp only [List.length_append, List.length_nil]; omega)) s1 s2 (later_perm (fun y hy x hx => W12.out x hx y hy) p1 p2) (by obtain ⟨hsz, hlen, hn1, hn2, hn3⟩ := LEN.out; have ep1 := p1.length_eq; have ep2 := p2.length_eq; have ep3 := p3.length_eq; first | omega | (simp only [List.length_append, List.length_nil]; done) | (simp only [List.length_append, List.length_nil]; omega))).mono ?_
  rintro e w1 ⟨rfl, m10, ya, rya, sya, rfl⟩
  have qya := rya.trans (List.Perm.append p1 p2)
  go_wp2_with fail
  rw [rounds_succ]
  go_wp2_with fail
  rw [rounds_succ]
  go_wp2_with fail
  refine wp_loop_rounds 1 ?_
  rw [rounds_succ]
  go_wp2_with fail
  refine (sym_merge enc hO cf lt g cb blk cap l0 w eg hr htr HH.out HSZ.out 64 (([] : List α)) ya y3 (([] : List α)) _ 0 40 l0.length _ (by obtain ⟨hsz, hlen, hn1, hn2, hn3⟩ := LEN.out; have ep1 := p1.length_eq; have ep2 := p2.length_eq; have ep3 := p3.length_eq; have eqya := qya.length_eq; rw [List.length_append] at eqya; first | omega | (simp only [List.length_append, List.length_nil]; done) | (simp only [List.length_append, List.length_nil]; omega)) (by simp) (by obtain ⟨hsz, hlen, hn1, hn2, hn3⟩ := LEN.out; have ep1 := p1.length_eq; have ep2 := p2.length_eq; have ep3 := p3.length_eq; have eqya := qya.length_eq; rw [List.length_append] at eqya; first | omega | (simp only [List.length_append, List.length_nil]; done) | (simp only [List.length_append, List.length_nil]; omega)) (by obtain ⟨hsz, hlen, hn1, hn2, hn3⟩ := LEN.out; have ep1 := p1.length_eq; have ep2 := p2.length_eq; have ep3 := p3.length_eq; have eqya := qya.length_eq; rw [List.length_append] at eqya; first | omega | (simp only [List.length_append, List.length_nil]; done) | (simp only [List.length_append, List.length_nil]; omega)) (by obtain ⟨hsz, hlen, hn1, hn2, hn3⟩ := LEN.out; have ep1 := p1.length_eq; have ep2 := p2.length_eq; have ep3 := p3.length_eq; have eqya := qya.length_eq; rw [List.length_append] at eqya; first | omega | (simp only [List.length_append, List.length_nil]; done) | (simp only [List.length_append, List.length_nil]; omega)) (by obtain ⟨hsz, hlen, hn1, hn2, hn3⟩ := LEN.out; have ep1 := p1.length_eq; have ep2 := p2.length_eq; have ep3 := p3.length_eq; have eqya := qya.length_eq; rw [List.length_append] at eqya; first | omega | (simp only [List.length_append, List.length_nil]; done) | (simp only [List.length_append, List.length_nil]; omega)) (by obtain ⟨hsz, hlen, hn1, hn2, hn3⟩ := LEN.out; have ep1 := p1.length_eq; have ep2 := p2.length_eq; have ep3 := p3.length_eq; have eqya := qya.length_eq; rw [List.length_append] at eqya; first | omega | (simp only [List.length_append, List.length_nil]; done) | (simp only [List.length_append, List.length_nil]; omega)) sya s3 (later_perm (fun y hy x hx => by rcases List.mem_append.mp hx with hx | hx <;> first | exact W13.out x hx y hy | exact W23.out x hx y hy) qya p3) (by obtain ⟨hsz, hlen, hn1, hn2, hn3⟩ := LEN.out; have ep1 := p1.length_eq; have ep2 := p2.length_eq; have ep3 := p3.length_eq; have eqya := qya.length_eq; rw [List.length_append] at eqya; first | omega | (simp only [List.length_append, List.length_nil]; done) | (simp only [List.length_append, List.length_nil]; omega))).mono ?_
  rintro e w1 ⟨rfl, m11, yb, ryb, syb, rfl⟩
  have qyb := ryb.trans (List.Perm.append qya p3)
  go_wp2_with fail
  rw [rounds_succ]
  go_wp2_with fail
  go_end0
  exact ⟨rfl, _, yb, by first | exact qyb | (simpa only [List.append_assoc] using qyb), syb, by first | rfl | simp⟩
set_option maxHeartbeats 4000000 in
set_option maxRecDepth 100000 in
theorem stable_60 {α : Type} [Inhabited α] (enc : α → Value) (hO : OneCell enc) (cf : α → α → Int) (lt : α → α → Prop) (g : Nat) (cb : Array Value) (blk cap : Nat) (x1 x2 x3 cur l0 : List α) (w : World) (hcur : cur = x1 ++ (x2 ++ x3)) (hn1 : x1.length = 20) (hn2 : x2.length = 20) (hn3 : x3.length = 20)
    (eg : ∀ args w, (callFunc g args).run Tryd.prog w = .ok (.enter g args) w) (hall : ∀ sz, CmpReads Tryd.prog g cb enc cf blk 0 sz w) (htr : ∀ a b c, lt a b → lt b c → lt a c) (hx : (x1 ++ (x2 ++ x3)).Pairwise (Later cf lt))
    (hH : Holds enc w blk 0 l0.toArray) (hs : cur.length = l0.length) (nd : Nat) :
    Calls Tryd.prog 45 #[.slice (some ⟨blk, 0, none⟩) l0.length cap, .int .i64 l0.length, .func (.func g) #[] cb] ((LRow enc w blk cur).drewN nd) fun e w' =>
      e = .returned (.tuple #[]) ∧ ∃ (n : Nat) (z : List α), z.Perm (x1 ++ (x2 ++ x3)) ∧ z.Pairwise lt ∧ w' = (LRow enc w blk z).drewN n := by
  have hlen := hs
  rw [hcur] at hlen
  (try simp only [List.length_append] at hlen)
  have hsz : l0.length ≤ 64 := by omega
  have hr := cmpRow_of hall
  have hp1 := List.pairwise_append.mp hx
  have hp2 := List.pairwise_append.mp hp1.2.1
  have S1 := Aside0.mk hp1.1
  have W12 : Aside0 (∀ a ∈ x1, ∀ b ∈ x2, Later cf lt a b) := ⟨fun a ha b hb => hp1.2.2 a ha b (by simp [hb])⟩
  have W13 : Aside0 (∀ a ∈ x1, ∀ b ∈ x3, Later cf lt a b) := ⟨fun a ha b hb => hp1.2.2 a ha b (by simp [hb])⟩
  have S2 := Aside0.mk hp2.1
  have W23 : Aside0 (∀ a ∈ x2, ∀ b ∈ x3, Later cf lt a b) := ⟨fun a ha b hb => hp2.2.2 a ha b (by simp [hb])⟩
  have S3 := Aside0.mk hp2.2.1
  have LEN := Aside0.mk (And.intro hsz (And.intro hlen (And.intro hn1 (And.intro hn2 hn3))))
  have a20 : ((20 : Int) ≤ (l0.length : Int)) := by omega
  have b20 : ((20 : Int) < (l0.length : Int)) := by omega
  have a40 : ((40 : Int) ≤ (l0.length : Int)) := by omega
  have b40 : ((40 : Int) < (l0.length : Int)) := by omega
  have a60 : ((60 : Int) ≤ (l0.length : Int)) := by omega
  have b60 : ¬ ((60 : Int) < (l0.length : Int)) := by omega
  have a80 : ¬ ((80 : Int) ≤ (l0.length : Int)) := by omega
  have b80 : ¬ ((80 : Int) < (l0.length : Int)) := by omega
  have HSZ := Aside0.mk hsz
  have HALL := Aside0.mk hall
  have HH := Aside0.mk hH
  clear hlen hs hn1 hn2 hn3 hx hsz hall hH hp1 hp2
  rw [hcur]
  clear hcur
  go_enter Tryd.func45, Tryd.ntmps45
  go_wp2
  refine wp_loop_rounds 4 ?_
  rw [rounds_succ]
  go_wp2_with fail
  refine (ins_call enc hO cf lt g cb blk cap (([] : List α)) x1 (x2 ++ x3) _ l0 w 0 20 (by simp) (by obtain ⟨hsz, hlen, hn1, hn2, hn3⟩ := LEN.out; first | omega | (simp only [List.length_append, List.length_nil]; done) | (simp only [List.length_append, List.length_nil]; omega)) (by obtain ⟨hsz, hlen, hn1, hn2, hn3⟩ := LEN.out; first | omega | (simp only [List.length_append, List.length_nil]; done) | (simp only [List.length_append, List.length_nil]; omega)) eg HALL.out htr S1.out HH.out (by obtain ⟨hsz, hlen, hn1, hn2, hn3⟩ := LEN.out; first | omega | (simp only [List.length_append, List.length_nil]; done) | (simp only [List.length_append, List.length_nil]; omega)) HSZ.out _).mono ?_
  rintro e w1 ⟨rfl, m1, y1, p1, s1, rfl⟩
  go_wp2_with fail
  rw [rounds_succ]
  go_wp2_with fail
  refine (ins_call enc hO cf lt g cb blk cap (y1) x2 (x3) _ l0 w 20 40 (by simp) (by obtain ⟨hsz, hlen, hn1, hn2, hn3⟩ := LEN.out; have ep1 := p1.length_eq; first | omega | (simp only [List.length_append, List.length_nil]; done) | (simp only [List.length_append, List.length_nil]; omega)) (by obtain ⟨hsz, hlen, hn1, hn2, hn3⟩ := LEN.out; have ep1 := p1.length_eq; first | omega | (simp only [List.length_append, List.length_nil]; done) | (simp only [List.length_append, List.length_nil]; omega)) eg HALL.out htr S2.out HH.out (by obtain ⟨hsz, hlen, hn1, hn2, hn3⟩ := LEN.out; have ep1 := p1.length_eq; first | omega | (simp only [List.length_append, List.length_nil]; done) | (simp only [List.length_append, List.length_nil]; omega)) HSZ.out _).mono ?_
  rintro e w1 ⟨rfl, m2, y2, p2, s2, rfl⟩
  go_wp2_with fail
  rw [rounds_succ]
  go_wp2_with fail
  refine (ins_call enc hO cf lt g cb blk cap (y1 ++ y2) x3 (([] : List α)) _ l0 w 40 60 (by simp) (by obtain ⟨hsz, hlen, hn1, hn2, hn3⟩ := LEN.out; have ep1 := p1.length_eq; have ep2 := p2.length_eq; first | omega | (simp only [List.length_append, List.length_nil]; done) | (simp only [List.length_append, List.length_nil]; omega)) (by obtain ⟨hsz, hlen, hn1, hn2, hn3⟩ := LEN.out; have ep1 := p1.length_eq; have ep2 := p2.length_eq; first | omega | (simp only [List.length_append, List.length_nil]; done) | (simp only [List.length_append, List.length_nil]; omega)) eg HALL.out htr S3.out HH.out (by obtain ⟨hsz, hlen, hn1, hn2, hn3⟩ := LEN.out; have ep1 := p1.length_eq; have ep2 := p2.length_eq; first | omega | (simp only [List.length_append, List.length_nil]; done) | (simp only [List.length_append, List.length_nil]; omega)) HSZ.out _).mono ?_
  rintro e w1 ⟨rfl, m3, y3, p3, s3, rfl⟩
  go_wp2_with fail
  rw [rounds_succ]
  go_wp2_with fail
  refine (ins_call enc hO cf lt g cb blk cap (y1 ++ (y2 ++ y3)) ([] : List α) (([] : List α)) _ l0 w 60 l0.length (by simp) (by obtain ⟨hsz, hlen, hn1, hn2, hn3⟩ := LEN.out; have ep1 := p1.length_eq; have ep2 := p2.length_eq; have ep3 := p3.length_eq; first | omega | (simp only [List.length_append, List.length_nil]; done) | (simp only [List.length_append, List.length_nil]; omega)) (by obtain ⟨hsz, hlen, hn1, hn2, hn3⟩ := LEN.out; have ep1 := p1.length_eq; have ep2 := p2.length_eq; have ep3 := p3.length_eq; first | omega | (simp only [List.length_append, List.length_nil]; done) | (simp only [List.length_append, List.length_nil]; omega)) eg HALL.out htr List.Pairwise.nil HH.out (by obtain ⟨hsz, hlen, hn1, hn2, hn3⟩ := LEN.out; have ep1 := p1.length_eq; have ep2 := p2.length_eq; have ep3 := p3.length_eq; first | omega | (simp only [List.length_append, List.length_nil]; done) | (simp only [List.length_append, List.length_nil]; omega)) HSZ.out _).mono ?_
  rintro e w1 ⟨rfl, m4, ye, pe, se, rfl⟩
  obtain rfl := List.perm_nil.mp pe
  go_wp2_with fail
  refine wp_loop_rounds 3 ?_
  rw [rounds_succ]
  go_wp2_with fail
  refine wp_loop_rounds 2 ?_
  rw [rounds_succ]
  go_wp2_with fail
  refine (sym_merge enc hO cf lt g cb blk cap l0 w eg hr htr HH.out HSZ.out 64 (([] : List α)) y1 y2 (y3) _ 0 20 40 _ (by obtain ⟨hsz, hlen, hn1, hn2, hn3⟩ := LEN.out; have ep1 := p1.length_eq; have ep2 := p2.length_eq; have ep3 := p3.length_eq; first | omega | (simp only [List.length_append, List.length_nil]; done) | (simp only [List.length_append, List.length_nil]; omega)) (by simp) (by obtain ⟨hsz, hlen, hn1, hn2, hn3⟩ := LEN.out; have ep1 := p1.length_eq; have ep2 := p2.length_eq; have ep3 := p3.length_eq; first | omega | (simp only [List.length_append, List.length_nil]; done) | (simp only [List.length_append, List.length_nil]; omega)) (by obtain ⟨hsz, hlen, hn1, hn2, hn3⟩ := LEN.out; have ep1 := p1.length_eq; have ep2 := p2.length_eq; have ep3 := p3.length_eq; first | omega | (simp only [List.length_append, List.length_nil]; done) | (simp only [List.length_append, List.length_nil]; omega)) (by obtain ⟨hsz, hlen, hn1, hn2, hn3⟩ := LEN.out; have ep1 := p1.length_eq; have ep2 := p2.length_eq; have ep3 := p3.length_eq; first | omega | (simp only [List.length_append, List.length_nil]; done) | (simp only [List.length_append, List.length_nil]; omega)) (by obtain ⟨hsz, hlen, hn1, hn2, hn3⟩ := LEN.out; have ep1 := p1.length_eq; have ep2 := p2.length_eq; have ep3 := p3.length_eq; first | omega | (simp only [List.length_append, List.length_nil]; done) | (simp only [List.length_append, List.length_nil]; omega)) (by obtain ⟨hsz, hlen, hn1, hn2, hn3⟩ := LEN.out; have ep1 := p1.length_eq; have ep2 := p2.length_eq; have ep3 := p3.length_eq; first | omega | (simp only [List.length_append, List.length_nil]; done) | (simp only [List.length_append, List.length_nil]; omega)) s1 s2 (later_perm (fun y hy x hx => W12.out x hx y hy) p1 p2) (by obtain ⟨hsz, hlen, hn1, hn2, hn3⟩ := LEN.out; have ep1 := p1.length_eq; have ep2 := p2.length_eq; have ep3 := p3.length_eq; first | omega | (simp only [List.length_append, List.length_nil]; done) | (simp only [List.length_append, List.length_nil]; omega))).mono ?_
  rintro e w1 ⟨rfl, m10, ya, rya, sya, rfl⟩
  have qya := rya.trans (List.Perm.append p1 p2)
  go_wp2_with fail
  rw [rounds_succ]
  go_wp2_with fail
  rw [rounds_succ]
  go_wp2_with fail
  refine wp_loop_rounds 1 ?_
  rw [rounds_succ]
  go_wp2_with fail
  refine (sym_merge enc hO cf lt g cb blk cap l0 w eg hr htr HH.out HSZ.out 64 (([] : List α)) ya y3 (([] : List α)) _ 0 40 l0.length _ (by obtain ⟨hsz, hlen, hn1, hn2, hn3⟩ := LEN.out; have ep1 := p1.length_eq; have ep2 := p2.length_eq; have ep3 := p3.length_eq; have eqya := qya.length_eq; rw [List.length_append] at eqya; first | omega | (simp only [List.length_append, List.length_nil]; done) | (simp only [List.length_append, List.length_nil]; omega)) (by simp) (by obtain ⟨hsz, hlen, hn1, hn2, hn3⟩ := LEN.out; have ep1 := p1.length_eq; have ep2 := p2.length_eq; have ep3 := p3.length_eq; have eqya := qya.length_eq; rw [List.length_append] at eqya; first | omega | (simp only [List.length_append, List.length_nil]; done) | (simp only [List.length_append, List.length_nil]; omega)) (by obtain ⟨hsz, hlen, hn1, hn2, hn3⟩ := LEN.out; have ep1 := p1.length_eq; have ep2 := p2.length_eq; have ep3 := p3.length_eq; have eqya := qya.length_eq; rw [List.length_append] at eqya; first | omega | (simp only [List.length_append, List.length_nil]; done) | (simp only [List.length_append, List.length_nil]; omega)) (by obtain ⟨hsz, hlen, hn1, hn2, hn3⟩ := LEN.out; have ep1 := p1.length_eq; have ep2 := p2.length_eq; have ep3 := p3.length_eq; have eqya := qya.length_eq; rw [List.length_append] at eqya; first | omega | (simp only [List.length_append, List.length_nil]; done) | (simp only [List.length_append, List.length_nil]; omega)) (by obtain ⟨hsz, hlen, hn1, hn2, hn3⟩ := LEN.out; have ep1 := p1.length_eq; have ep2 := p2.length_eq; have ep3 := p3.length_eq; have eqya := qya.length_eq; rw [List.length_append] at eqya; first | omega | (simp only [List.length_append, List.length_nil]; done) | (simp only [List.length_append, List.length_nil]; omega)) (by obtain ⟨hsz, hlen, hn1, hn2, hn3⟩ := LEN.out; have ep1 := p1.length_eq; have ep2 := p2.length_eq; have ep3 := p3.length_eq; have eqya := qya.length_eq; rw [List.length_append] at eqya; first | omega | (simp only [List.length_append, List.length_nil]; done) | (simp only [List.length_append, List.length_nil]; omega)) sya s3 (later_perm (fun y hy x hx => by rcases List.mem_append.mp hx with hx | hx <;> first | exact W13.out x hx y hy | exact W23.out x hx y hy) qya p3) (by obtain ⟨hsz, hlen, hn1, hn2, hn3⟩ := LEN.out; have ep1 := p1.length_eq; have ep2 := p2.length_eq; have ep3 := p3.length_eq; have eqya := qya.length_eq; rw [List.length_append] at eqya; first | omega | (simp only [List.length_append, List.length_nil]; done) | (simp only [List.length_append, List.length_nil]; omega))).mono ?_
  rintro e w1 ⟨rfl, m11, yb, ryb, syb, rfl⟩
  have qyb := ryb.trans (List.Perm.append qya p3)
  go_wp2_with fail
  rw [rounds_succ]
  go_wp2_with fail
  go_end0
  exact ⟨rfl, _, yb, by first | exact qyb | (simpa only [List.append_assoc] using qyb), syb, by first | rfl | simp⟩
set_option maxHeartbeats 4000000 in
set_option maxRecDepth 100000 in
theorem stable_64 {α : Type} [Inhabited α] (enc : α → Value) (hO : OneCell enc) (cf : α → α → Int) (lt : α → α → Prop) (g : Nat) (cb : Array Value) (blk cap : Nat) (x1 x2 x3 x4 cur l0 : List α) (w : World) (hcur : cur = x1 ++ (x2 ++ (x3 ++ x4))) (hn1 : x1.length = 20) (hn2 : x2.length = 20) (hn3 : x3.length = 20) (hn4 : 1 ≤ x4.length ∧ x4.length ≤ 4)
    (eg : ∀ args w, (callFunc g args).run Tryd.prog w = .ok (.enter g args) w) (hall : ∀ sz, CmpReads Tryd.prog g cb enc cf blk 0 sz w) (htr : ∀ a b c, lt a b → lt b c → lt a c) (hx : (x1 ++ (x2 ++ (x3 ++ x4))).Pairwise (Later cf lt))
    (hH : Holds enc w blk 0 l0.toArray) (hs : cur.length = l0.length) (nd : Nat) :
    Calls Tryd.prog 45 #[.slice (some ⟨blk, 0, none⟩) l0.length cap, .int .i64 l0.length, .func (.func g) #[] cb] ((LRow enc w blk cur).drewN nd) fun e w' =>
      e = .returned (.tuple #[]) ∧ ∃ (n : Nat) (z : List α), z.Perm (x1 ++ (x2 ++ (x3 ++ x4))) ∧ z.Pairwise lt ∧ w' = (LRow enc w blk z).drewN n := by
  have hlen := hs
  rw [hcur] at hlen
  (try simp only [List.length_append] at hlen)
  have hsz : l0.length ≤ 64 := by omega
  have hr := cmpRow_of hall
  have hp1 := List.pairwise_append.mp hx
  have hp2 := List.pairwise_append.mp hp1.2.1
  have hp3 := List.pairwise_append.mp hp2.2.1
  have S1 := Aside0.mk hp1.1
  have W12 : Aside0 (∀ a ∈ x1, ∀ b ∈ x2, Later cf lt a b) := ⟨fun a ha b hb => hp1.2.2 a ha b (by simp [hb])⟩
  have W13 : Aside0 (∀ a ∈ x1, ∀ b ∈ x3, Later cf lt a b) := ⟨fun a ha b hb => hp1.2.2 a ha b (by simp [hb])⟩
  have W14 : Aside0 (∀ a ∈ x1, ∀ b ∈ x4, Later cf lt a b) := ⟨fun a ha b hb => hp1.2.2 a ha b (by simp [hb])⟩
  have S2 := Aside0.mk hp2.1
  have W23 : Aside0 (∀ a ∈ x2, ∀ b ∈ x3, Later cf lt a b) := ⟨fun a ha b hb => hp2.2.2 a ha b (by simp [hb])⟩
  have W24 : Aside0 (∀ a ∈ x2, ∀ b ∈ x4, Later cf lt a b) := ⟨fun a ha b hb => hp2.2.2 a ha b (by simp [hb])⟩
  have S3 := Aside0.mk hp3.1
  have W34 : Aside0 (∀ a ∈ x3, ∀ b ∈ x4, Later cf lt a b) := ⟨fun a ha b hb => hp3.2.2 a ha b (by simp [hb])⟩
  have S4 := Aside0.mk hp3.2.1
  have LEN := Aside0.mk (And.intro hsz (And.intro hlen (And.intro hn1 (And.intro hn2 (And.intro hn3 hn4)))))
  have a20 : ((20 : Int) ≤ (l0.length : Int)) := by omega
  have b20 : ((20 : Int) < (l0.length : Int)) := by omega
  have a40 : ((40 : Int) ≤ (l0.length : Int)) := by omega
  have b40 : ((40 : Int) < (l0.length : Int)) := by omega
  have a60 : ((60 : Int) ≤ (l0.length : Int)) := by omega
  have b60 : ((60 : Int) < (l0.length : Int)) := by omega
  have a80 : ¬ ((80 : Int) ≤ (l0.length : Int)) := by omega
  have b80 : ¬ ((80 : Int) < (l0.length : Int)) := by omega
  have HSZ := Aside0.mk hsz
  have HALL := Aside0.mk hall
  have HH := Aside0.mk hH
  clear hlen hs hn1 hn2 hn3 hn4 hx hsz hall hH hp1 hp2 hp3
  rw [hcur]
  clear hcur
  go_enter Tryd.func45, Tryd.ntmps45
  go_wp2
  refine wp_loop_rounds 4 ?_
  rw [rounds_succ]
  go_wp2_with fail
  refine (ins_call enc hO cf lt g cb blk cap (([] : List α)) x1 (x2 ++ (x3 ++ x4)) _ l0 w 0 20 (by simp) (by obtain ⟨hsz, hlen, hn1, hn2, hn3, hn4⟩ := LEN.out; first | omega | (simp only [List.length_append, List.length_nil]; done) | (simp only [List.length_append, List.length_nil]; omega)) (by obtain ⟨hsz, hlen, hn1, hn2, hn3, hn4⟩ := LEN.out; first | omega | (simp only [List.length_append, List.length_nil]; done) | (simp only [List.length_append, List.length_nil]; omega)) eg HALL.out htr S1.out HH.out (by obtain ⟨hsz, hlen, hn1, hn2, hn3, hn4⟩ := LEN.out; first | omega | (simp only [List.length_append, List.length_nil]; done) | (simp only [List.length_append, List.length_nil]; omega)) HSZ.out _).mono ?_
  rintro e w1 ⟨rfl, m1, y1, p1, s1, rfl⟩
  go_wp2_with fail
  rw [rounds_succ]
  go_wp2_with fail
  refine (ins_call enc hO cf lt g cb blk cap (y1) x2 (x3 ++ x4) _ l0 w 20 40 (by simp) (by obtain ⟨hsz, hlen, hn1, hn2, hn3, hn4⟩ := LEN.out; have ep1 := p1.length_eq; first | omega | (simp only [List.length_append, List.length_nil]; done) | (simp only [List.length_append, List.length_nil]; omega)) (by obtain ⟨hsz, hlen, hn1, hn2, hn3, hn4⟩ := LEN.out; have ep1 := p1.length_eq; first | omega | (simp only [List.length_append, List.length_nil]; done) | (simp only [List.length_append, List.length_nil]; omega)) eg HALL.out htr S2.out HH.out (by obtain ⟨hsz, hlen, hn1, hn2, hn3, hn4⟩ := LEN.out; have ep1 := p1.length_eq; first | omega | (simp only [List.length_append, List.length_nil]; done) | (simp only [List.length_append, List.length_nil]; omega)) HSZ.out _).mono ?_
  rintro e w1 ⟨rfl, m2, y2, p2, s2, rfl⟩
  go_wp2_with fail
  rw [rounds_succ]
  go_wp2_with fail
  refine (ins_call enc hO cf lt g cb blk cap (y1 ++ y2) x3 (x4) _ l0 w 40 60 (by simp) (by obtain ⟨hsz, hlen, hn1, hn2, hn3, hn4⟩ := LEN.out; have ep1 := p1.length_eq; have ep2 := p2.length_eq; first | omega | (simp only [List.length_append, List.length_nil]; done) | (simp only [List.length_append, List.length_nil]; omega)) (by obtain ⟨hsz, hlen, hn1, hn2, hn3, hn4⟩ := LEN.out; have ep1 := p1.length_eq; have ep2 := p2.length_eq; first | omega | (simp only [List.length_append, List.length_nil]; done) | (simp only [List.length_append, List.length_nil]; omega)) eg HALL.out htr S3.out HH.out (by obtain ⟨hsz, hlen, hn1, hn2, hn3, hn4⟩ := LEN.out; have ep1 := p1.length_eq; have ep2 := p2.length_eq; first | omega | (simp only [List.length_append, List.length_nil]; done) | (simp only [List.length_append, List.length_nil]; omega)) HSZ.out _).mono ?_
  rintro e w1 ⟨rfl, m3, y3, p3, s3, rfl⟩
  go_wp2_with fail
  rw [rounds_succ]
  go_wp2_with fail
  refine (ins_call enc hO cf lt g cb blk cap (y1 ++ (y2 ++ y3)) x4 (([] : List α)) _ l0 w 60 l0.length (by simp) (by obtain ⟨hsz, hlen, hn1, hn2, hn3, hn4⟩ := LEN.out; have ep1 := p1.length_eq; have ep2 := p2.length_eq; have ep3 := p3.length_eq; first | omega | (simp only [List.length_append, List.length_nil]; done) | (simp only [List.length_append, List.length_nil]; omega)) (by obtain ⟨hsz, hlen, hn1, hn2, hn3, hn4⟩ := LEN.out; have ep1 := p1.length_eq; have ep2 := p2.length_eq; have ep3 := p3.length_eq; first | omega | (simp only [List.length_append, List.length_nil]; done) | (simp only [List.length_append, List.length_nil]; omega)) eg HALL.out htr S4.out HH.out (by obtain ⟨hsz, hlen, hn1, hn2, hn3, hn4⟩ := LEN.out; have ep1 := p1.length_eq; have ep2 := p2.length_eq; have ep3 := p3.length_eq; first | omega | (simp only [List.length_append, List.length_nil]; done) | (simp only [List.length_append, List.length_nil]; omega)) HSZ.out _).mono ?_
  rintro e w1 ⟨rfl, m4, y4, p4, s4, rfl⟩
  go_wp2_with fail
  refine wp_loop_rounds 3 ?_
  rw [rounds_succ]
  go_wp2_with fail
  refine wp_loop_rounds 2 ?_
  rw [rounds_succ]
  go_wp2_with fail
  refine (sym_merge enc hO cf lt g cb blk cap l0 w eg hr htr HH.out HSZ.out 64 (([] : List α)) y1 y2 (y3 ++ y4) _ 0 20 40 _ (by obtain ⟨hsz, hlen, hn1, hn2, hn3, hn4⟩ := LEN.out; have ep1 := p1.length_eq; have ep2 := p2.length_eq; have ep3 := p3.length_eq; have ep4 := p4.length_eq; first | omega | (simp only [List.length_append, List.length_nil]; done) | (simp only [List.length_append, List.length_nil]; omega)) (by simp) (by obtain ⟨hsz, hlen, hn1, hn2, hn3, hn4⟩ := LEN.out; have ep1 := p1.length_eq; have ep2 := p2.length_eq; have ep3 := p3.length_eq; have ep4 := p4.length_eq; first | omega | (simp only [List.length_append, List.length_nil]; done) | (simp only [List.length_append, List.length_nil]; omega)) (by obtain ⟨hsz, hlen, hn1, hn2, hn3, hn4⟩ := LEN.out; have ep1 := p1.length_eq; have ep2 := p2.length_eq; have ep3 := p3.length_eq; have ep4 := p4.length_eq; first | omega | (simp only [List.length_append, List.length_nil]; done) | (simp only [List.length_append, List.length_nil]; omega)) (by obtain ⟨hsz, hlen, hn1, hn2, hn3, hn4⟩ := LEN.out; have ep1 := p1.length_eq; have ep2 := p2.length_eq; have ep3 := p3.length_eq; have ep4 := p4.length_eq; first | omega | (simp only [List.length_append, List.length_nil]; done) | (simp only [List.length_append, List.length_nil]; omega)) (by obtain ⟨hsz, hlen, hn1, hn2, hn3, hn4⟩ := LEN.out; have ep1 := p1.length_eq; have ep2 := p2.length_eq; have ep3 := p3.length_eq; have ep4 := p4.length_eq; first | omega | (simp only [List.length_append, List.length_nil]; done) | (simp only [List.length_append, List.length_nil]; omega)) (by obtain ⟨hsz, hlen, hn1, hn2, hn3, hn4⟩ := LEN.out; have ep1 := p1.length_eq; have ep2 := p2.length_eq; have ep3 := p3.length_eq; have ep4 := p4.length_eq; first | omega | (simp only [List.length_append, List.length_nil]; done) | (simp only [List.length_append, List.length_nil]; omega)) s1 s2 (later_perm (fun y hy x hx => W12.out x hx y hy) p1 p2) (by obtain ⟨hsz, hlen, hn1, hn2, hn3, hn4⟩ := LEN.out; have ep1 := p1.length_eq; have ep2 := p2.length_eq; have ep3 := p3.length_eq; have ep4 := p4.length_eq; first | omega | (simp only [List.length_append, List.length_nil]; done) | (simp only [List.length_append, List.length_nil]; omega))).mono ?_
  rintro e w1 ⟨rfl, m10, ya, rya, sya, rfl⟩
  have qya := rya.trans (List.Perm.append p1 p2)
  go_wp2_with fail
  rw [rounds_succ]
  go_wp2_with fail
  refine (sym_merge enc hO cf lt g cb blk cap l0 w eg hr htr HH.out HSZ.out 64 (ya) y3 y4 (([] : List α)) _ 40 60 l0.length _ (by obtain ⟨hsz, hlen, hn1, hn2, hn3, hn4⟩ := LEN.out; have ep1 := p1.length_eq; have ep2 := p2.length_eq; have ep3 := p3.length_eq; have ep4 := p4.length_eq; have eqya := qya.length_eq; rw [List.length_append] at eqya; first | omega | (simp only [List.length_append, List.length_nil]; done) | (simp only [List.length_append, List.length_nil]; omega)) (by simp) (by obtain ⟨hsz, hlen, hn1, hn2, hn3, hn4⟩ := LEN.out; have ep1 := p1.length_eq; have ep2 := p2.length_eq; have ep3 := p3.length_eq; have ep4 := p4.length_eq; have eqya := qya.length_eq; rw [List.length_append] at eqya; first | omega | (simp only [List.length_append, List.length_nil]; done) | (simp only [List.length_append, List.length_nil]; omega)) (by obtain ⟨hsz, hlen, hn1, hn2, hn3, hn4⟩ := LEN.out; have ep1 := p1.length_eq; have ep2 := p2.length_eq; have ep3 := p3.length_eq; have ep4 := p4.length_eq; have eqya := qya.length_eq; rw [List.length_append] at eqya; first | omega | (simp only [List.length_append, List.length_nil]; done) | (simp only [List.length_append, List.length_nil]; omega)) (by obtain ⟨hsz, hlen, hn1, hn2, hn3, hn4⟩ := LEN.out; have ep1 := p1.length_eq; have ep2 := p2.length_eq; have ep3 := p3.length_eq; have ep4 := p4.length_eq; have eqya := qya.length_eq; rw [List.length_append] at eqya; first | omega | (simp only [List.length_append, List.length_nil]; done) | (simp only [List.length_append, List.length_nil]; omega)) (by obtain ⟨hsz, hlen, hn1, hn2, hn3, hn4⟩ := LEN.out; have ep1 := p1.length_eq; have ep2 := p2.length_eq; have ep3 := p3.length_eq; have ep4 := p4.length_eq; have eqya := qya.length_eq; rw [List.length_append] at eqya; first | omega | (simp only [List.length_append, List.length_nil]; done) | (simp only [List.length_append, List.length_nil]; omega)) (by obtain ⟨hsz, hlen, hn1, hn2, hn3, hn4⟩ := LEN.out; have ep1 := p1.length_eq; have ep2 := p2.length_eq; have ep3 := p3.length_eq; have ep4 := p4.length_eq; have eqya := qya.length_eq; rw [List.length_append] at eqya; first | omega | (simp only [List.length_append, List.length_nil]; done) | (simp only [List.length_append, List.length_nil]; omega)) s3 s4 (later_perm (fun y hy x hx => W34.out x hx y hy) p3 p4) (by obtain ⟨hsz, hlen, hn1, hn2, hn3, hn4⟩ := LEN.out; have ep1 := p1.length_eq; have ep2 := p2.length_eq; have ep3 := p3.length_eq; have ep4 := p4.length_eq; have eqya := qya.length_eq; rw [List.length_append] at eqya; first | omega | (simp only [List.length_append, List.length_nil]; done) | (simp only [List.length_append, List.length_nil]; omega))).mono ?_
  rintro e w1 ⟨rfl, m11, yc, ryc, syc, rfl⟩
  have qyc := ryc.trans (List.Perm.append p3 p4)
  go_wp2_with fail
  rw [rounds_succ]
  go_wp2_with fail
  refine wp_loop_rounds 1 ?_
  rw [rounds_succ]
  go_wp2_with fail
  refine (sym_merge enc hO cf lt g cb blk cap l0 w eg hr htr HH.out HSZ.out 64 (([] : List α)) ya yc (([] : List α)) _ 0 40 l0.length _ (by obtain ⟨hsz, hlen, hn1, hn2, hn3, hn4⟩ := LEN.out; have ep1 := p1.length_eq; have ep2 := p2.length_eq; have ep3 := p3.length_eq; have ep4 := p4.length_eq; have eqya := qya.length_eq; have eqyc := qyc.length_eq; rw [List.length_append] at eqya; rw [List.length_append] at eqyc; first | omega | (simp only [List.length_append, List.length_nil]; done) | (simp only [List.length_append, List.length_nil]; omega)) (by simp) (by obtain ⟨hsz, hlen, hn1, hn2, hn3, hn4⟩ := LEN.out; have ep1 := p1.length_eq; have ep2 := p2.length_eq; have ep3 := p3.length_eq; have ep4 := p4.length_eq; have eqya := qya.length_eq; have eqyc := qyc.length_eq; rw [List.length_append] at eqya; rw [List.length_append] at eqyc; first | omega | (simp only [List.length_append, List.length_nil]; done) | (simp only [List.length_append, List.length_nil]; omega)) (by obtain ⟨hsz, hlen, hn1, hn2, hn3, hn4⟩ := LEN.out; have ep1 := p1.length_eq; have ep2 := p2.length_eq; have ep3 := p3.length_eq; have ep4 := p4.length_eq; have eqya := qya.length_eq; have eqyc := qyc.length_eq; rw [List.length_append] at eqya; rw [List.length_append] at eqyc; first | omega | (simp only [List.length_append, List.length_nil]; done) | (simp only [List.length_append, List.length_nil]; omega)) (by obtain ⟨hsz, hlen, hn1, hn2, hn3, hn4⟩ := LEN.out; have ep1 := p1.length_eq; have ep2 := p2.length_eq; have ep3 := p3.length_eq; have ep4 := p4.length_eq; have eqya := qya.length_eq; have eqyc := qyc.length_eq; rw [List.length_append] at eqya; rw [List.length_append] at eqyc; first | omega | (simp only [List.length_append, List.length_nil]; done) | (simp only [List.length_append, List.length_nil]; omega)) (by obtain ⟨hsz, hlen, hn1, hn2, hn3, hn4⟩ := LEN.out; have ep1 := p1.length_eq; have ep2 := p2.length_eq; have ep3 := p3.length_eq; have ep4 := p4.length_eq; have eqya := qya.length_eq; have eqyc := qyc.length_eq; rw [List.length_append] at eqya; rw [List.length_append] at eqyc; first | omega | (simp only [List.length_append, List.length_nil]; done) | (simp only [List.length_append, List.length_nil]; omega)) (by obtain ⟨hsz, hlen, hn1, hn2, hn3, hn4⟩ := LEN.out; have ep1 := p1.length_eq; have ep2 := p2.length_eq; have ep3 := p3.length_eq; have ep4 := p4.length_eq; have eqya := qya.length_eq; have eqyc := qyc.length_eq; rw [List.length_append] at eqya; rw [List.length_append] at eqyc; first | omega | (simp only [List.length_append, List.length_nil]; done) | (simp only [List.length_append, List.length_nil]; omega)) sya syc (later_perm (fun y hy x hx => by rcases List.mem_append.mp hx with hx | hx <;> rcases List.mem_append.mp hy with hy | hy <;> first | exact W13.out x hx y hy | exact W14.out x hx y hy | exact W23.out x hx y hy | exact W24.out x hx y hy) qya qyc) (by obtain ⟨hsz, hlen, hn1, hn2, hn3, hn4⟩ := LEN.out; have ep1 := p1.length_eq; have ep2 := p2.length_eq; have ep3 := p3.length_eq; have ep4 := p4.length_eq; have eqya := qya.length_eq; have eqyc := qyc.length_eq; rw [List.length_append] at eqya; rw [List.length_append] at eqyc; first | omega | (simp only [List.length_append, List.length_nil]; done) | (simp only [List.length_append, List.length_nil]; omega))).mono ?_
  rintro e w1 ⟨rfl, m12, yb, ryb, syb, rfl⟩
  have qyb := ryb.trans (List.Perm.append qya qyc)
  go_wp2_with fail
  rw [rounds_succ]
  go_wp2_with fail
  go_end0
  exact ⟨rfl, _, yb, by first | exact qyb | (simpa only [List.append_assoc] using qyb), syb, by first | rfl | simp⟩
set_option maxHeartbeats 4000000 in
set_option maxRecDepth 100000 in
theorem stable_39 {α : Type} [Inhabited α] (enc : α → Value) (hO : OneCell enc) (cf : α → α → Int) (lt : α → α → Prop) (g : Nat) (cb : Array Value) (blk cap : Nat) (x1 x2 cur l0 : List α) (w : World) (hcur : cur = x1 ++ x2) (hn1 : x1.length = 20) (hn2 : 1 ≤ x2.length ∧ x2.length < 20)
    (eg : ∀ args w, (callFunc g args).run Tryd.prog w = .ok (.enter g args) w) (hall : ∀ sz, CmpReads Tryd.prog g cb enc cf blk 0 sz w) (htr : ∀ a b c, lt a b → lt b c → lt a c) (hx : (x1 ++ x2).Pairwise (Later cf lt))
    (hH : Holds enc w blk 0 l0.toArray) (hs : cur.length = l0.length) (nd : Nat) :
    Calls Tryd.prog 45 #[.slice (some ⟨blk, 0, none⟩) l0.length cap, .int .i64 l0.length, .func (.func g) #[] cb] ((LRow enc w blk cur).drewN nd) fun e w' =>
      e = .returned (.tuple #[]) ∧ ∃ (n : Nat) (z : List α), z.Perm (x1 ++ x2) ∧ z.Pairwise lt ∧ w' = (LRow enc w blk z).drewN n := by
  have hlen := hs
  rw [hcur, List.length_append] at hlen
  have hx' := List.pairwise_append.mp hx
  have hsz : l0.length ≤ 64 := by omega
  have k1 := fun (cu : List α) (m : Nat) (h : cu = [] ++ (x1 ++ x2)) => ins_call enc hO cf lt g cb blk cap [] x1 x2 cu l0 w 0 20 h rfl (by rw [hn1]; rfl) eg hall htr hx'.1 hH (by rw [h]; simp; omega) hsz m
  have k2 := fun (z1 cu : List α) (m : Nat) (hz : z1.Perm x1) (h : cu = z1 ++ (x2 ++ [])) => ins_call enc hO cf lt g cb blk cap z1 x2 [] cu l0 w 20 l0.length h (by rw [hz.length_eq, hn1]) (by rw [hz.length_eq]; omega) eg hall htr hx'.2.1 hH (by rw [h]; simp [hz.length_eq]; omega) hsz m
  have k3 := fun (z1 z2 cu : List α) (m : Nat) (h1 : z1.Perm x1) (h2 : z2.Perm x2) (s1 : z1.Pairwise lt) (s2 : z2.Pairwise lt) (h : cu = [] ++ (z1 ++ (z2 ++ []))) => sym_merge enc hO cf lt g cb blk cap l0 w eg (cmpRow_of hall) htr hH hsz 64 [] z1 z2 [] cu 0 20 l0.length m (by rw [h1.length_eq, h2.length_eq]; omega) h rfl (by rw [h1.length_eq, hn1]; rfl) (by rw [h1.length_eq, h2.length_eq, hn1]; simp; omega) (by rw [h1.length_eq]; omega) (by rw [h2.length_eq]; omega) s1 s2 (later_perm (fun y hy x hx => hx'.2.2 x hx y hy) h1 h2) (by rw [h]; simp [h1.length_eq, h2.length_eq]; omega)
  have z1 : (20 : Int) ≤ (l0.length : Int) := by omega
  have z2 : ¬ (40 : Int) ≤ (l0.length : Int) := by omega
  have z3 : (20 : Int) < (l0.length : Int) := by omega
  have z4 : ¬ (40 : Int) < (l0.length : Int) := by omega
  clear hlen hs hn1 hn2 hx hx' hsz hall hH
  subst hcur
  go_enter Tryd.func45, Tryd.ntmps45
  go_wp2
  refine wp_loop_rounds 2 ?_
  rw [rounds_succ]
  go_wp2_with fail
  refine (k1 _ _ (by simp)).mono ?_
  rintro e w1 ⟨rfl, m1, y1, p1, s1, rfl⟩
  go_wp2_with fail
  rw [rounds_succ]
  go_wp2_with fail
  refine (k2 y1 _ _ p1 (by simp)).mono ?_
  rintro e w1 ⟨rfl, m2, y2, p2, s2, rfl⟩
  go_wp2_with fail
  refine wp_loop_rounds 2 ?_
  rw [rounds_succ]
  go_wp2_with fail
  refine wp_loop_rounds 1 ?_
  rw [rounds_succ]
  go_wp2_with fail
  refine (k3 y1 y2 _ _ p1 p2 s1 s2 (by simp)).mono ?_
  rintro e w1 ⟨rfl, m3, y3, p3, s3, rfl⟩
  go_wp2_with fail
  rw [rounds_succ]
  go_wp2_with fail
  go_end0
  exact ⟨rfl, m3, y3, p3.trans (List.Perm.append p1 p2), s3, by simp⟩
/-- The library's stable sort of up to 64 elements. -/
theorem stable_all {α : Type} [Inhabited α] (enc : α → Value) (hO : OneCell enc) (cf : α → α → Int) (lt : α → α → Prop) (g : Nat) (cb : Array Value) (blk cap : Nat) (x l0 : List α) (w : World) (hn : x.length ≤ 64)
    (eg : ∀ args w, (callFunc g args).run Tryd.prog w = .ok (.enter g args) w) (hall : ∀ sz, CmpReads Tryd.prog g cb enc cf blk 0 sz w) (htr : ∀ a b c, lt a b → lt b c → lt a c) (hx : x.Pairwise (Later cf lt))
    (hH : Holds enc w blk 0 l0.toArray) (hs : x.length = l0.length) (nd : Nat) :
    Calls Tryd.prog 45 #[.slice (some ⟨blk, 0, none⟩) l0.length cap, .int .i64 l0.length, .func (.func g) #[] cb] ((LRow enc w blk x).drewN nd) fun e w' =>
      e = .returned (.tuple #[]) ∧ ∃ (n : Nat) (z : List α), z.Perm x ∧ z.Pairwise lt ∧ w' = (LRow enc w blk z).drewN n := by
  have two : x = x.take 20 ++ x.drop 20 := (List.take_append_drop _ _).symm
  have three : x = x.take 20 ++ ((x.drop 20).take 20 ++ (x.drop 20).drop 20) := by rw [List.take_append_drop, List.take_append_drop]
  have four : x = x.take 20 ++ ((x.drop 20).take 20 ++ (((x.drop 20).drop 20).take 20 ++ ((x.drop 20).drop 20).drop 20)) := by rw [List.take_append_drop, List.take_append_drop, List.take_append_drop]
  have n1 : (x.take 20).length = min 20 x.length := List.length_take
  have n2 : (x.drop 20).length = x.length - 20 := List.length_drop
  have n3 : ((x.drop 20).take 20).length = min 20 (x.length - 20) := by rw [List.length_take, List.length_drop]
  have n4 : ((x.drop 20).drop 20).length = x.length - 40 := by rw [List.length_drop, List.length_drop]; omega
  have n5 : (((x.drop 20).drop 20).take 20).length = min 20 (x.length - 40) := by rw [List.length_take, n4]
  have n6 : (((x.drop 20).drop 20).drop 20).length = x.length - 60 := by rw [List.length_drop, n4]; omega
  rcases (by omega : x.length ≤ 19 ∨ x.length = 20 ∨ (21 ≤ x.length ∧ x.length ≤ 39) ∨ x.length = 40 ∨ (41 ≤ x.length ∧ x.length ≤ 59) ∨ x.length = 60 ∨ (61 ≤ x.length ∧ x.length ≤ 64)) with h | h | h | h | h | h | h
  · exact stable_19 enc hO cf lt g cb blk cap x x l0 w rfl ⟨Nat.zero_le _, h⟩ eg hall htr hx hH hs nd
  · exact stable_20 enc hO cf lt g cb blk cap x x l0 w rfl h eg hall htr hx hH hs nd
  · have := stable_39 enc hO cf lt g cb blk cap (x.take 20) (x.drop 20) x l0 w two (by omega) ⟨by omega, by omega⟩ eg hall htr (by rw [← two]; exact hx) hH hs nd
    rw [← two] at this
    exact this
  · have := stable_40 enc hO cf lt g cb blk cap (x.take 20) (x.drop 20) x l0 w two (by omega) (by omega) eg hall htr (by rw [← two]; exact hx) hH hs nd
    rw [← two] at this
    exact this
  · have := stable_59 enc hO cf lt g cb blk cap (x.take 20) ((x.drop 20).take 20) ((x.drop 20).drop 20) x l0 w three (by omega) (by omega) ⟨by omega, by omega⟩ eg hall htr (by rw [← three]; exact hx) hH hs nd
    rw [← three] at this
    exact this
  · have := stable_60 enc hO cf lt g cb blk cap (x.take 20) ((x.drop 20).take 20) ((x.drop 20).drop 20) x l0 w three (by omega) (by omega) (by omega) eg hall htr (by rw [← three]; exact hx) hH hs nd
    rw [← three] at this
    exact this
  · have := stable_64 enc hO cf lt g cb blk cap (x.take 20) ((x.drop 20).take 20) (((x.drop 20).drop 20).take 20) (((x.drop 20).drop 20).drop 20) x l0 w four (by omega) (by omega) (by omega) ⟨by omega, by omega⟩ eg hall htr (by rw [← four]; exact hx) hH hs nd
    rw [← four] at this
    exact this
theorem sort_all {α : Type} [Inhabited α] (enc : α → Value) (hO : OneCell enc) (cf : α → α → Int) (lt : α → α → Prop) (g : Nat) (cb : Array Value) (blk cap : Nat) (x : List α) (w : World) (hn : x.length ≤ 64)
    (eg : ∀ args w, (callFunc g args).run Tryd.prog w = .ok (.enter g args) w) (hall : ∀ sz, CmpReads Tryd.prog g cb enc cf blk 0 sz w) (htr : ∀ a b c, lt a b → lt b c → lt a c) (hx : x.Pairwise (Later cf lt))
    (hH : Holds enc w blk 0 x.toArray) :
    Calls Tryd.prog 30 #[.slice (some ⟨blk, 0, none⟩) x.length cap, .func (.func g) #[] cb] w fun e w' =>
      e = .returned (.tuple #[]) ∧ ∃ (n : Nat) (z : List α), z.Perm x ∧ z.Pairwise lt ∧ w' = (LRow enc w blk z).drewN n := by
  have h := stable_all enc hO cf lt g cb blk cap x x w hn eg hall htr hx hH rfl 0
  have e : (LRow enc w blk x).drewN 0 = w := Go.Sort.putRow_self enc w blk 0 x.toArray hH
  rw [e] at h
  have HK := Lib.hid h
  clear h hall hH hx e
  go_enter Tryd.func30, Tryd.ntmps30
  go_wp2_with fail
  refine HK.out.mono ?_
  rintro e w1 ⟨rfl, n, z, h1, h2, rfl⟩
  have H12 := Aside0.mk (And.intro h1 h2)
  clear h1 h2
  go_wp2_with fail
  go_end0
  exact ⟨rfl, n, z, H12.out.1, H12.out.2, rfl⟩
/-- The order in which the cents that are left are given: a greater remainder first, of equal ones the smaller index. -/
def ltF (size T : Int) (l : List Int) (n : Nat) (x y : Fin n) : Prop := remOf size T l y.val < remOf size T l x.val ∨ (remOf size T l x.val = remOf size T l y.val ∧ x.val < y.val)
theorem ltF_trans (size T : Int) (l : List Int) (n : Nat) : ∀ a b c : Fin n, ltF size T l n a b → ltF size T l n b c → ltF size T l n a c := by
  intro a b c h1 h2
  unfold ltF at *
  omega
theorem ltF_asymm (size T : Int) (l : List Int) (n : Nat) : ∀ a b : Fin n, ltF size T l n a b → ¬ ltF size T l n b a := by
  intro a b h1 h2
  unfold ltF at *
  omega
theorem cf_neg (size T : Int) (l : List Int) (n : Nat) (x y : Fin n) : cfF size T l n x y < 0 ↔ remOf size T l y.val < remOf size T l x.val := by
  unfold cfF cmp3
  split
  · constructor
    · intro _; assumption
    · intro _; omega
  · rename_i h
    split
    · constructor
      · intro h2; omega
      · intro h2; exact absurd h2 h
    · constructor
      · intro h2; omega
      · intro h2; exact absurd h2 h
theorem id_later (size T : Int) (l : List Int) (n : Nat) : (idF n).toList.Pairwise (Later (cfF size T l n) (ltF size T l n)) := by
  rw [List.pairwise_iff_getElem]
  intro i j hi hj hij
  have ei : (idF n).toList[i].val = i := by simp [idF]
  have ej : (idF n).toList[j].val = j := by simp [idF]
  unfold Later
  rw [cf_neg]
  unfold ltF
  rw [ei, ej]
  constructor
  · intro h
    exact .inl h
  · intro h
    omega
theorem sorted_eq {β : Type} (lt : β → β → Prop) (ha : ∀ a b, lt a b → ¬ lt b a) : ∀ (u v : List β), u.Perm v → u.Pairwise lt → v.Pairwise lt → u = v
  | [], v, h, _, _ => (List.nil_perm.mp h).symm
  | a :: u, [], h, _, _ => absurd h.symm (by simp)
  | a :: u, b :: v, h, h1, h2 => by
    have hab : a = b := by
      have m1 : a ∈ b :: v := h.mem_iff.mp (by simp)
      have m2 : b ∈ a :: u := h.mem_iff.mpr (by simp)
      rcases List.mem_cons.mp m1 with e | e
      · exact e
      · rcases List.mem_cons.mp m2 with e2 | e2
        · exact e2.symm
        · exact absurd (List.rel_of_pairwise_cons h1 e2) (ha _ _ (List.rel_of_pairwise_cons h2 e))
    subst hab
    rw [sorted_eq lt ha u v (List.perm_cons _ |>.mp h) (List.Pairwise.of_cons h1) (List.Pairwise.of_cons h2)]
/-- The order is the one sorted row of the indices. -/
theorem ordA_is (size T : Int) (l : List Int) (hn : 0 < l.length) (z : List (Fin l.length)) (h1 : z.Perm (idF l.length).toList) (h2 : z.Pairwise (ltF size T l l.length)) : (ordA size T l hn).toList = z := by
  letI : Inhabited (Fin l.length) := ⟨⟨0, hn⟩⟩
  obtain ⟨y, y1, y2, y3⟩ := ins_sort (cfF size T l l.length) (ltF size T l l.length) (ltF_trans size T l l.length) [] (idF l.length).toList [] (id_later size T l l.length)
  have e : (ordA size T l hn).toList = y := by
    unfold ordA
    have e1 : (idF l.length) = ([] ++ ((idF l.length).toList ++ [])).toArray := by simp
    have e2 : ([] : List (Fin l.length)).length + (idF l.length).toList.length = l.length := by simp [idF]
    rw [e2] at y3
    have e3 : Sort.insertionSort (ltOf (cfF size T l l.length)) (idF l.length) 0 l.length = ([] ++ (y ++ [])).toArray := by
      rw [← y3, ← e1]
      rfl
    rw [e3]
    simp
  rw [e]
  exact sorted_eq _ (ltF_asymm size T l l.length) y z (y1.trans h1.symm) y2 h2
theorem sort_split64 {w0 W : World} {ad : Addr} {c1 : Nat} {T size : Int} {bp bo : Nat} {P : List Int} (l : List Int) (hS : SplitSt w0 W (some ad) c1 l.length T size bp bo P (fillO l.length l.length)) (hr : Kd.C (Kd.int .i64) w0 (some ad) l.length l) (hn : l.length ≤ 64) (hn0 : 0 < l.length)
    (s0 : 0 ≤ size) (s1 : size ≤ 1000000000) (t0 : 1 ≤ T) (hb : ∀ x ∈ l, 0 ≤ x ∧ x ≤ 1000000) :
    Calls Tryd.prog 30 #[.slice (some ⟨bo, 0, none⟩) l.length l.length, .func (.func 31) #[] #[.pointer (some ⟨w0.heap.size + 1 + 1, 0, none⟩), .pointer (some ⟨w0.heap.size, 0, none⟩), .pointer (some ⟨w0.heap.size + 1, 0, none⟩)]] W fun e w' =>
      e = .returned (.tuple #[]) ∧ SplitSt w0 w' (some ad) c1 l.length T size bp bo P (ordL size T l hn0) := by
  letI : Inhabited (Fin l.length) := ⟨⟨0, hn0⟩⟩
  have hid : (idF l.length).size = l.length := by simp [idF]
  have hidl : (idF l.length).toList.length = l.length := by simp [idF]
  have hH := hS.holds (idF l.length) hid (fillO_id _)
  have hR := fun sz => split_reads sz hS l rfl hr (by omega) ⟨⟨0, hn0⟩⟩ s0 s1 t0 hb
  have h := sort_all (encF l.length) (encF_one _) (cfF size T l l.length) (ltF size T l l.length) 31 _ bo l.length (idF l.length).toList W (by omega) (enters_of Tryd.func31 (by kernel_rfl) rfl) hR (ltF_trans size T l l.length) (id_later size T l l.length) (by simpa using hH)
  rw [hidl] at h
  refine h.mono ?_
  rintro e w' ⟨rfl, m, z, z1, z2, rfl⟩
  have ez := ordA_is size T l hn0 z z1 z2
  refine ⟨rfl, ?_⟩
  have e2 : LRow (encF l.length) W bo z = putRow (encF l.length) W bo 0 (ordA size T l hn0) := by
    rw [← ez]
  rw [e2]
  exact (hS.rowO (ordA size T l hn0) (ordA_size ..)).drewN m
end

end Go.Proofs.YtcbhaoaameiacaaDoor.X
