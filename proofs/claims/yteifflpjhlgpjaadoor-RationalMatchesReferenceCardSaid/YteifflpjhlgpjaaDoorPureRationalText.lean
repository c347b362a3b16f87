/- The law RationalText as a statement over numbers and lists: every input answers true. No Go and no memory in it. -/
import Derived.Test.YteifflpjhlgpjaaDoorXx5
import Derived.Test.YteifflpjhlgpjaaDoorRatLaws2
import Derived.Test.YteifflpjhlgpjaaDoorBytes
namespace Go.Proofs.YteifflpjhlgpjaaDoor.Pure
open Go.RowKit Go.Proofs.YteifflpjhlgpjaaDoor.X Go.Proofs.YteifflpjhlgpjaaDoorW.PrintWords

theorem itoa_eq (n : Int) (h : inI64 n) : strconv_Itoa.f n = some ⟨(Lib.itoa n).toArray⟩ := by
  unfold strconv_Itoa.f
  rw [if_pos h]
theorem itoa_size (n : Int) (h : inI64 n) : (ByteArray.mk (Lib.itoa n).toArray).size ≤ 21 := by
  have := Lib.itoa_length_le n h.1 h.2
  rw [ba_size, ba_mk]
  exact this
/-- The text of a pair of integers. -/
def textOf (n d : Int) : ByteArray := if d > 1 then ⟨(Lib.itoa n).toArray⟩ ++ ((⟨#[47]⟩ : ByteArray) ++ ⟨(Lib.itoa d).toArray⟩) else ⟨(Lib.itoa n).toArray⟩
theorem text_eq (n d : Int) (hn : inI64 n) (hd : inI64 d) : rational_Text.f n d = some (if vld n d = true then (textOf n d, 0) else (⟨#[]⟩, 1)) := by
  have s1 := itoa_size n hn
  have s2 := itoa_size d hd
  unfold rational_Text.f textOf
  rw [valid_eq]
  simp only [Option.bind_some]
  by_cases hv : vld n d = true
  · rw [if_pos hv, if_pos hv, itoa_eq n hn]
    simp only [Option.bind_some]
    by_cases h1 : d > 1
    · rw [if_pos h1, if_pos h1, itoa_eq d hd]
      simp only [Option.bind_some]
      have s3 : ((⟨#[47]⟩ : ByteArray) ++ ⟨(Lib.itoa d).toArray⟩).size = 1 + (ByteArray.mk (Lib.itoa d).toArray).size := by rw [ByteArray.size_append]; rfl
      rw [if_pos (by omega), if_pos (by omega)]
    · rw [if_neg h1, if_neg h1]
  · rw [if_neg hv, if_neg hv]
theorem fits_i64 {q : Rat} (h : Fits q) : inI64 q.num ∧ inI64 (q.den : Int) := by
  have := h.bnd
  exact ⟨⟨by omega, by omega⟩, ⟨by omega, by omega⟩⟩
theorem no_slash (n : Int) : ∀ b ∈ Lib.itoa n, b ≠ (47 : UInt8) := by
  intro b hb e
  subst e
  have := itoa_chars n _ hb
  revert this
  decide
theorem atoiV_mk (n : Int) (h0 : -1000000000 ≤ n) (h1 : n ≤ 1000000000) (b : ByteArray) (hb : b.toList = Lib.itoa n) : atoiV b = some n := by
  unfold atoiV
  rw [← ba_toList, hb, atoi_itoa n (by omega) (by omega)]
theorem parse_text (q : Rat) (hf : Fits q) : rational_Parse.f (textOf q.num q.den) = some (q.num, (q.den : Int), 0) := by
  have b := hf.bnd
  obtain ⟨hn, hd⟩ := fits_i64 hf
  have s1 := itoa_size q.num hn
  have s2 := itoa_size q.den hd
  have hend : parseEnd (textOf q.num q.den) q.num q.den = some (q.num, (q.den : Int), 0) := by
    unfold parseEnd
    rw [text_eq _ _ hn hd, if_pos (vld_of q hf)]
    simp
  unfold rational_Parse.f
  by_cases h1 : (q.den : Int) > 1
  · have hs : (textOf q.num q.den).toList = Lib.itoa q.num ++ 47 :: Lib.itoa q.den := by
      unfold textOf
      rw [if_pos h1, ba_append, ba_append, ba_mk (Lib.itoa q.num), ba_mk (Lib.itoa q.den)]
      have e47 : (ByteArray.mk #[47]).toList = [47] := by rw [ba_toList]
      rw [e47]
      rfl
    have hsz : (textOf q.num q.den).size ≤ 43 := by
      rw [ba_size, hs]
      rw [ba_size, ba_mk] at s1 s2
      simp
      omega
    rw [if_pos (by omega)]
    generalize hT : textOf q.num q.den = s at *
    have hidx : Lib.indexByte s.data.toList 47 = (Lib.itoa q.num).length := by
      rw [← ba_toList, hs]
      exact index_at _ _ _ (no_slash _)
    have hcut : cutAt s 47 = (s.extract 0 (Lib.itoa q.num).length, s.extract ((Lib.itoa q.num).length + 1) s.size, true) := by
      unfold cutAt
      rw [hidx, if_pos (by omega)]
      rfl
    have ht : (s.extract 0 (Lib.itoa q.num).length).toList = Lib.itoa q.num := by
      rw [ba_extract, hs]
      simp
    have hb : (s.extract ((Lib.itoa q.num).length + 1) s.size).toList = Lib.itoa q.den := by
      rw [ba_extract, ba_size, List.take_length, hs]
      rw [show Lib.itoa q.num ++ 47 :: Lib.itoa q.den = (Lib.itoa q.num ++ [47]) ++ Lib.itoa q.den by simp]
      rw [List.drop_append_of_le_length (by simp)]
      simp
    unfold ratParse
    rw [hcut]
    simp only
    rw [atoiV_mk q.num (by omega) (by omega) _ ht, atoiV_mk q.den (by omega) (by omega) _ hb]
    exact hend
  · have hd1 : (q.den : Int) = 1 := by omega
    have hs : (textOf q.num q.den).toList = Lib.itoa q.num := by
      unfold textOf
      rw [if_neg h1, ba_mk]
    have hsz : (textOf q.num q.den).size ≤ 43 := by
      rw [ba_size, hs]
      rw [ba_size, ba_mk] at s1
      omega
    rw [if_pos (by omega)]
    generalize hT : textOf q.num q.den = s at *
    have hidx : Lib.indexByte s.data.toList 47 = -1 := by
      rw [← ba_toList, hs]
      exact index_absent _ _ (no_slash _)
    have hcut : cutAt s 47 = (s, ⟨#[]⟩, false) := by
      unfold cutAt
      rw [hidx, if_neg (by omega)]
    unfold ratParse
    rw [hcut]
    simp only
    rw [atoiV_mk q.num (by omega) (by omega) _ hs]
    rw [hd1] at hend ⊢
    exact hend
theorem atoiV_bound {s : ByteArray} {v : Int} (h : atoiV s = some v) : inI64 v := Lib.atoiAll_bounds (atoiV_some h)
/-- What is parsed has the string as its text; else the error is 'form'. -/
theorem parse_ends (s : ByteArray) (hs : s.size ≤ 140737488351232) :
    rational_Parse.f s = some (0, 0, 8) ∨ ∃ n d, rational_Parse.f s = some (n, d, 0) ∧ vld n d = true ∧ inI64 n ∧ inI64 d ∧ textOf n d = s := by
  have hend : ∀ n d, inI64 n → inI64 d → parseEnd s n d = some (0, 0, 8) ∨ (parseEnd s n d = some (n, d, 0) ∧ vld n d = true ∧ textOf n d = s) := by
    intro n d hn hd
    unfold parseEnd
    rw [text_eq n d hn hd]
    simp only [Option.bind_some]
    by_cases hv : vld n d = true
    · rw [if_pos hv]
      by_cases ht : (textOf n d).toList = s.toList
      · rw [if_pos ⟨rfl, ht⟩]
        exact .inr ⟨rfl, hv, ba_inj.mp ht⟩
      · rw [if_neg (fun h => ht h.2)]
        exact .inl rfl
    · rw [if_neg hv]
      exact .inl rfl
  have pack : ∀ n d, inI64 n → inI64 d → rational_Parse.f s = parseEnd s n d → (rational_Parse.f s = some (0, 0, 8) ∨ ∃ n d, rational_Parse.f s = some (n, d, 0) ∧ vld n d = true ∧ inI64 n ∧ inI64 d ∧ textOf n d = s) := by
    intro n d hn hd e
    rcases hend n d hn hd with h | ⟨h, h2, h3⟩
    · exact .inl (e.trans h)
    · exact .inr ⟨n, d, e.trans h, h2, hn, hd, h3⟩
  have e0 : rational_Parse.f s = ratParse s := by unfold rational_Parse.f; rw [if_pos hs]
  unfold ratParse at e0
  cases hf : (cutAt s 47).2.2 with
  | false =>
    rw [hf] at e0
    cases h1 : atoiV (cutAt s 47).1 with
    | none => rw [h1] at e0; exact .inl e0
    | some n => rw [h1] at e0; exact pack n 1 (atoiV_bound h1) (by decide) e0
  | true =>
    rw [hf] at e0
    cases h1 : atoiV (cutAt s 47).1 with
    | none => rw [h1] at e0; exact .inl e0
    | some n =>
      cases h2 : atoiV (cutAt s 47).2.1 with
      | none => rw [h1, h2] at e0; exact .inl e0
      | some d => rw [h1, h2] at e0; exact pack n d (atoiV_bound h1) (atoiV_bound h2) e0

theorem RationalText : ∀ (a0_0 : Int) (a0_1 : Int) (a1 : ByteArray), (Lit.int .i64 a0_0).wf = true → (Lit.int .i64 a0_1).wf = true → a1.size ≤ 140737488351232 → ∃ k, cohousinglaw01_RationalText.f k a0_0 a0_1 a1 = some true := by
  intro a b s _ _ hs
  refine ⟨10, ?_⟩
  have half : cohousinglaw01_RationalText.j0 10 s = some true := by
    simp only [cohousinglaw01_RationalText.j0]
    rcases parse_ends s hs with h | ⟨n, d, h, hv, hn, hd, ht⟩
    · rw [h]
      simp
    · rw [h]
      simp only [Option.bind_some, if_true]
      rw [text_eq n d hn hd, if_pos hv]
      simp only [Option.bind_some, if_true]
      rw [ht, if_pos rfl, valid_eq, hv]
      rfl
  unfold cohousinglaw01_RationalText.f
  rw [head_true, Option.bind_some, if_pos rfl, valid_eq, Option.bind_some]
  by_cases hv : vld a b = true
  · rw [if_pos hv]
    obtain ⟨q, hq, rfl, rfl⟩ := of_vld hv
    obtain ⟨hn, hd⟩ := fits_i64 hq
    rw [text_eq _ _ hn hd, if_pos hv]
    simp only [Option.bind_some]
    rw [parse_text q hq]
    simp only [Option.bind_some, if_true, beq_self_eq_true, Bool.not_true, Bool.or_self, Bool.false_eq_true, if_false]
    exact half
  · rw [if_neg hv]
    exact half
end Go.Proofs.YteifflpjhlgpjaaDoor.Pure

