/- Words of a text: the reference's road, in plain words. -/
import Derived.Test.YteopdmifgdcghaaDoorV1
namespace Go.Proofs.YteopdmifgdcghaaDoor
set_option linter.unusedSimpArgs false
set_option linter.unusedVariables false
def mkB (l : List UInt8) : ByteArray := ⟨l.toArray⟩
theorem mkB_nil {l : List UInt8} : mkB l = ⟨#[]⟩ ↔ l = [] := by
  constructor
  · intro h
    have := congrArg (fun b : ByteArray => b.data.toList) h
    simpa [mkB] using this
  · rintro rfl; rfl
/-- What the reference has found: out, and from where on it looks. -/
def WInv (s : ByteArray) (fr i : Nat) (out : List ByteArray) : Prop :=
  ((i ≤ s.size ∧ fr ≤ i ∧ parts s = out ++ (splitL 32 (s.data.toList.drop fr)).map mkB ∧ (∀ j, fr ≤ j → j < i → s.data.toList[j]? ≠ some 32)) ∨ (i = s.size + 1 ∧ parts s = out)) ∧ (⟨#[]⟩ : ByteArray) ∉ out ∧ out.length ≤ i ∧ i ≤ s.size + 1 ∧ fr ≤ s.size + 1
section
variable {s : ByteArray} {fr i : Nat} {out : List ByteArray}
theorem WInv.start (s : ByteArray) : WInv s 0 0 [] := ⟨.inl ⟨Nat.zero_le _, Nat.le_refl _, by rw [List.nil_append, List.drop_zero]; rfl, fun j h1 h2 => by omega⟩, by simp, by simp, by omega, by omega⟩
theorem WInv.other (h : WInv s fr i out) (hi : i < s.size) (hb : s.data.toList[i]? ≠ some 32) : WInv s fr (i + 1) out := by
  obtain ⟨h1, h2, h3, h4, h5⟩ := h
  rcases h1 with ⟨a1, a2, a3, a4⟩ | ⟨a1, a2⟩
  · refine ⟨.inl ⟨by omega, by omega, a3, fun j k1 k2 => ?_⟩, h2, by omega, by omega, h5⟩
    rcases Nat.lt_or_ge j i with k | k
    · exact a4 j k1 k
    · obtain rfl : j = i := by omega
      exact hb
  · omega
theorem WInv.piece (h : WInv s fr i out) (hi : i ≤ s.size) : ∃ p, s.data.toList.drop fr = p ++ s.data.toList.drop i ∧ (32 : UInt8) ∉ p ∧ p.length = i - fr ∧ mkB p = s.extract fr i ∧ fr ≤ i ∧ parts s = out ++ (splitL 32 (s.data.toList.drop fr)).map mkB := by
  obtain ⟨h1, h2, h3, h4, h5⟩ := h
  rcases h1 with ⟨a1, a2, a3, a4⟩ | ⟨a1, a2⟩
  · have hl : s.data.toList.length = s.size := size_data s
    refine ⟨(s.data.toList.drop fr).take (i - fr), ?_, ?_, ?_, ?_, a2, a3⟩
    · conv => lhs; rw [← List.take_append_drop (i - fr) (s.data.toList.drop fr)]
      rw [List.drop_drop, show fr + (i - fr) = i by omega]
    · intro hm
      obtain ⟨j, hj, e⟩ := List.mem_iff_getElem.1 hm
      rw [List.length_take, List.length_drop] at hj
      rw [List.getElem_take, List.getElem_drop] at e
      exact a4 (fr + j) (by omega) (by omega) (by rw [List.getElem?_eq_getElem (by omega), e])
    · rw [List.length_take, List.length_drop]; omega
    · apply data_inj
      rw [ByteArray.data_extract, Array.toList_extract]
      rfl
  · omega
/-- A part that is none. -/
theorem WInv.empty (h : WInv s fr i out) (hi : i ≤ s.size) (hb : i = s.size ∨ s.data.toList[i]? = some 32) (hf : i = fr) : (⟨#[]⟩ : ByteArray) ∈ parts s := by
  obtain ⟨p, e1, e2, e3, e4, e5, e6⟩ := h.piece hi
  have hp : p = [] := List.eq_nil_of_length_eq_zero (by omega)
  subst hp
  rw [e6, e1, List.nil_append]
  refine List.mem_append_right _ (List.mem_map.2 ⟨[], ?_, rfl⟩)
  have hl : s.data.toList.length = s.size := size_data s
  rcases hb with hb | hb
  · rw [List.drop_eq_nil_of_le (by omega)]; simp [splitL]
  · obtain ⟨h1, h2⟩ := List.getElem?_eq_some_iff.1 hb
    rw [List.drop_eq_getElem_cons h1, h2, splitL_sep]
    simp
/-- A part more. -/
theorem WInv.more (h : WInv s fr i out) (hi : i ≤ s.size) (hb : i = s.size ∨ s.data.toList[i]? = some 32) (hf : i ≠ fr) : WInv s (i + 1) (i + 1) (out ++ [s.extract fr i]) := by
  obtain ⟨p, e1, e2, e3, e4, e5, e6⟩ := h.piece hi
  have hl : s.data.toList.length = s.size := size_data s
  have hne : s.extract fr i ≠ ⟨#[]⟩ := by
    rw [← e4]
    intro e
    rw [mkB_nil.1 e] at e3
    simp at e3; omega
  have hout : (⟨#[]⟩ : ByteArray) ∉ out ++ [s.extract fr i] := by
    intro hm
    rcases List.mem_append.1 hm with hm | hm
    · exact h.2.1 hm
    · exact hne (List.mem_singleton.1 hm).symm
  have hlen : (out ++ [s.extract fr i]).length ≤ i + 1 := by
    rw [List.length_append, List.length_singleton]
    have := h.2.2.1
    omega
  rcases Nat.lt_or_ge i s.size with hlt | hge
  · have hb' : s.data.toList[i]? = some 32 := by
      rcases hb with hb | hb
      · omega
      · exact hb
    obtain ⟨h1, h2⟩ := List.getElem?_eq_some_iff.1 hb'
    refine ⟨.inl ⟨by omega, Nat.le_refl _, ?_, fun j k1 k2 => by omega⟩, hout, hlen, by omega, by omega⟩
    rw [e6, e1, List.drop_eq_getElem_cons h1, h2, splitL_pre 32 p _ e2, List.map_cons, e4, List.append_assoc]
    rfl
  · obtain rfl : i = s.size := by omega
    refine ⟨.inr ⟨rfl, ?_⟩, hout, hlen, by omega, by omega⟩
    rw [e6, e1, List.drop_eq_nil_of_le (by omega), List.append_nil, splitL_last 32 p e2, List.map_cons, e4]
    rfl
theorem WInv.fin (h : WInv s fr i out) (hi : ¬ i ≤ s.size) : parts s = out ∧ (⟨#[]⟩ : ByteArray) ∉ parts s := by
  obtain ⟨h1, h2, h3, h4, h5⟩ := h
  rcases h1 with ⟨a1, a2, a3, a4⟩ | ⟨a1, a2⟩
  · omega
  · exact ⟨a2, by rw [a2]; exact h2⟩
theorem WInv.len (h : WInv s fr i out) : out.length ≤ s.size + 1 := by
  obtain ⟨h1, h2, h3, h4, h5⟩ := h
  omega
theorem WInv.from (h : WInv s fr i out) (hi : i ≤ s.size) : fr ≤ i := by
  obtain ⟨p, e1, e2, e3, e4, e5, e6⟩ := h.piece hi
  exact e5
end
theorem wordsE_80 {s : ByteArray} (h1 : s.size ≤ 200) (h2 : okR s = false) : wordsE s = 80 ∧ wordsL s = [] := by
  have e : wordsE s = 80 := by unfold wordsE; rw [if_neg (by omega), if_pos h2]
  exact ⟨e, by unfold wordsL; rw [e]; rfl⟩
theorem wordsE_81 {s : ByteArray} (h1 : s.size ≤ 200) (h2 : okR s = true) (h3 : (⟨#[]⟩ : ByteArray) ∈ parts s) : wordsE s = 81 ∧ wordsL s = [] := by
  have e : wordsE s = 81 := by unfold wordsE; rw [if_neg (by omega), h2, if_neg (by simp), if_pos ((hasE_iff s).2 h3)]
  exact ⟨e, by unfold wordsL; rw [e]; rfl⟩
theorem wordsE_82 {s : ByteArray} (h1 : s.size ≤ 200) (h2 : okR s = true) (h3 : (⟨#[]⟩ : ByteArray) ∉ parts s) (h4 : 16 < (parts s).length) : wordsE s = 82 ∧ wordsL s = [] := by
  have e : wordsE s = 82 := by unfold wordsE; rw [if_neg (by omega), h2, if_neg (by simp), if_neg (fun h => h3 ((hasE_iff s).1 h)), if_pos h4]
  exact ⟨e, by unfold wordsL; rw [e]; rfl⟩
theorem wordsE_0 {s : ByteArray} (h1 : s.size ≤ 200) (h2 : okR s = true) (h3 : (⟨#[]⟩ : ByteArray) ∉ parts s) (h4 : ¬ 16 < (parts s).length) : wordsE s = 0 ∧ wordsL s = parts s := by
  have e : wordsE s = 0 := by unfold wordsE; rw [if_neg (by omega), h2, if_neg (by simp), if_neg (fun h => h3 ((hasE_iff s).1 h)), if_neg h4]
  exact ⟨e, by unfold wordsL; rw [e]; rfl⟩
theorem wordsE_41 {s : ByteArray} (h1 : 200 < s.size) : wordsE s = 41 ∧ wordsL s = [] := by
  have e : wordsE s = 41 := by unfold wordsE; rw [if_pos h1]
  exact ⟨e, by unfold wordsL; rw [e]; rfl⟩
end Go.Proofs.YteopdmifgdcghaaDoor
