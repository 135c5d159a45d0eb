/- Numbers between commas, in plain words. -/
import Derived.Test.YteopdmifgdcghaaDoorX4
import Derived.Test.YteopdmifgdcghaaDoorW1
namespace Go.Proofs.YteopdmifgdcghaaDoor
set_option linter.unusedSimpArgs false
set_option linter.unusedVariables false
def comma : ByteArray := ⟨#[44]⟩
def pieces (s : ByteArray) : List ByteArray := (splitL 44 s.data.toList).map mkB
theorem splitB_pieces (s : ByteArray) : Lib.splitB comma 0 (Lib.countB s comma) s = pieces s := by
  have h := Lib.splitB_data comma 0 (Lib.countB s comma) s
  have e : Lib.splitK comma.data.toList 0 (Lib.countB s comma) s.data.toList = splitL 44 s.data.toList := splitK_eq 44 s.data.toList
  rw [e] at h
  unfold pieces
  rw [← h, List.map_map]
  conv => lhs; rw [← List.map_id (Lib.splitB comma 0 (Lib.countB s comma) s)]
  apply List.map_congr_left
  intro a _
  cases a
  rfl
theorem count_pieces (s : ByteArray) : (pieces s).length = Lib.countB s comma + 1 := by
  rw [← splitB_pieces]
  exact Lib.splitB_all comma (by decide) 0 _ s rfl
theorem pieces_len (s : ByteArray) : (pieces s).length ≤ s.size + 1 := by
  have h1 := count_pieces s
  have h2 := Lib.countB_le comma (by decide) s.size s (Nat.le_refl _)
  omega
theorem splitL_size (c : UInt8) : ∀ l : List UInt8, ∀ p ∈ splitL c l, p.length ≤ l.length
  | [], p, h => by
    rw [List.mem_singleton.1 h]
    exact Nat.le_refl _
  | b :: r, p, h => by
    have ih := splitL_size c r
    by_cases hb : b = c
    · subst hb
      rw [splitL_sep] at h
      rcases List.mem_cons.1 h with rfl | h
      · exact Nat.zero_le _
      · have := ih p h
        rw [List.length_cons]; omega
    · obtain ⟨x, xs, e⟩ := splitL_ne c r
      rw [splitL_other hb _ e] at h
      rw [e] at ih
      rw [List.length_cons]
      rcases List.mem_cons.1 h with rfl | h
      · have := ih x (by simp)
        rw [List.length_cons]; omega
      · have := ih p (List.mem_cons_of_mem _ h)
        omega
theorem pieces_size {s p : ByteArray} (h : p ∈ pieces s) : p.size ≤ s.size := by
  unfold pieces at h
  obtain ⟨l, hl, rfl⟩ := List.mem_map.1 h
  have := splitL_size 44 _ l hl
  rw [size_data] at this
  unfold mkB
  rw [size_mk]
  exact this
/-- Are all of them numbers? -/
def allN (l : List ByteArray) : Bool := l.all fun p => (refN p.data.toList).isSome
def nsE (s : ByteArray) : Int := if allN (pieces s) = false then 81 else if 16 < (pieces s).length then 82 else 0
def nsL (s : ByteArray) : List Int := if nsE s = 0 then (pieces s).map numV else []
theorem nsE_81 {s : ByteArray} (h : allN (pieces s) = false) : nsE s = 81 ∧ nsL s = [] := by
  have e : nsE s = 81 := by unfold nsE; rw [if_pos h]
  exact ⟨e, by unfold nsL; rw [e]; rfl⟩
theorem nsE_82 {s : ByteArray} (h : allN (pieces s) = true) (h2 : 16 < (pieces s).length) : nsE s = 82 ∧ nsL s = [] := by
  have e : nsE s = 82 := by unfold nsE; rw [h, if_neg (by simp), if_pos h2]
  exact ⟨e, by unfold nsL; rw [e]; rfl⟩
theorem nsE_0 {s : ByteArray} (h : allN (pieces s) = true) (h2 : ¬ 16 < (pieces s).length) : nsE s = 0 ∧ nsL s = (pieces s).map numV := by
  have e : nsE s = 0 := by unfold nsE; rw [h, if_neg (by simp), if_neg h2]
  exact ⟨e, by unfold nsL; rw [e]; rfl⟩
theorem allN_bad {l : List ByteArray} {p : ByteArray} (hp : p ∈ l) (h : numE p ≠ 0) : allN l = false := by
  cases hh : allN l with
  | false => rfl
  | true =>
    have := List.all_eq_true.1 hh p hp
    unfold numE at h
    rw [if_pos this] at h
    exact absurd rfl h
theorem numE_cases (p : ByteArray) : numE p = 0 ∨ numE p = 81 := by
  unfold numE
  split
  · exact .inl rfl
  · exact .inr rfl
theorem numE_some {p : ByteArray} (h : numE p = 0) : (refN p.data.toList).isSome = true := by
  unfold numE at h
  split at h
  · assumption
  · cases h
/-- k of the pieces are numbers. -/
def PInv (l : List ByteArray) (k : Nat) : Prop := allN (l.take k) = true
theorem PInv.start (l : List ByteArray) : PInv l 0 := by unfold PInv allN; rfl
theorem PInv.next {l : List ByteArray} {k : Nat} (h : PInv l k) (hk : k < l.length) (he : numE l[k] = 0) : PInv l (k + 1) := by
  unfold PInv allN at *
  rw [List.take_succ_eq_append_getElem hk, List.all_append, h]
  simp [numE_some he]
/-- What the reference has found: out, and from where on it looks. -/
def CInv (s : ByteArray) (fr i : Nat) (out : List Int) : Prop :=
  ∃ done : List ByteArray, allN done = true ∧ out = done.map numV ∧ done.length ≤ i ∧ i ≤ s.size + 1 ∧ fr ≤ s.size + 1 ∧
  ((i ≤ s.size ∧ fr ≤ i ∧ pieces s = done ++ (splitL 44 (s.data.toList.drop fr)).map mkB ∧ (∀ j, fr ≤ j → j < i → s.data.toList[j]? ≠ some 44)) ∨ (i = s.size + 1 ∧ pieces s = done))
section
variable {s : ByteArray} {fr i : Nat} {out : List Int}
theorem CInv.start (s : ByteArray) : CInv s 0 0 [] := ⟨[], rfl, rfl, Nat.zero_le _, by omega, by omega, .inl ⟨Nat.zero_le _, Nat.le_refl _, by rw [List.nil_append, List.drop_zero]; rfl, fun j h1 h2 => by omega⟩⟩
theorem CInv.other (h : CInv s fr i out) (hi : i < s.size) (hb : s.data.toList[i]? ≠ some 44) : CInv s fr (i + 1) out := by
  obtain ⟨done, d1, d2, d3, d4, d5, h1⟩ := h
  rcases h1 with ⟨a1, a2, a3, a4⟩ | ⟨a1, a2⟩
  · refine ⟨done, d1, d2, by omega, by omega, d5, .inl ⟨by omega, by omega, a3, fun j k1 k2 => ?_⟩⟩
    rcases Nat.lt_or_ge j i with k | k
    · exact a4 j k1 k
    · obtain rfl : j = i := by omega
      exact hb
  · omega
theorem CInv.piece (h : CInv s fr i out) (hi : i ≤ s.size) (hb : i = s.size ∨ s.data.toList[i]? = some 44) :
    s.extract fr i ∈ pieces s ∧ fr ≤ i ∧ (numE (s.extract fr i) = 0 → CInv s (i + 1) (i + 1) (out ++ [numV (s.extract fr i)])) := by
  obtain ⟨done, d1, d2, d3, d4, d5, h1⟩ := h
  rcases h1 with ⟨a1, a2, a3, a4⟩ | ⟨a1, a2⟩
  · have hl : s.data.toList.length = s.size := size_data s
    obtain ⟨p, e1, e2, e4⟩ : ∃ p, s.data.toList.drop fr = p ++ s.data.toList.drop i ∧ (44 : UInt8) ∉ p ∧ mkB p = s.extract fr i := by
      refine ⟨(s.data.toList.drop fr).take (i - fr), ?_, ?_, ?_⟩
      · conv => lhs; rw [← List.take_append_drop (i - fr) (s.data.toList.drop fr)]
        rw [List.drop_drop, show fr + (i - fr) = i by omega]
      · intro hm
        obtain ⟨j, hj, e⟩ := List.mem_iff_getElem.1 hm
        rw [List.length_take, List.length_drop] at hj
        rw [List.getElem_take, List.getElem_drop] at e
        exact a4 (fr + j) (by omega) (by omega) (by rw [List.getElem?_eq_getElem (by omega), e])
      · apply data_inj
        rw [ByteArray.data_extract, Array.toList_extract]
        rfl
    have hall : numE (s.extract fr i) = 0 → allN (done ++ [s.extract fr i]) = true := fun h => by
      unfold allN at *
      rw [List.all_append, d1, List.all_cons, List.all_nil, numE_some h]
      rfl
    have hmap : (done ++ [s.extract fr i]).map numV = out ++ [numV (s.extract fr i)] := by rw [List.map_append, d2]; rfl
    have hlen : (done ++ [s.extract fr i]).length ≤ i + 1 := by rw [List.length_append, List.length_singleton]; omega
    rcases Nat.lt_or_ge i s.size with hlt | hge
    · have hb' : s.data.toList[i]? = some 44 := by
        rcases hb with hb | hb
        · omega
        · exact hb
      obtain ⟨h1, h2⟩ := List.getElem?_eq_some_iff.1 hb'
      have e5 : pieces s = done ++ [s.extract fr i] ++ (splitL 44 (s.data.toList.drop (i + 1))).map mkB := by
        rw [a3, e1, List.drop_eq_getElem_cons h1, h2, splitL_pre 44 p _ e2, List.map_cons, e4, List.append_assoc]
        rfl
      refine ⟨by rw [e5]; simp, a2, fun hn => ⟨done ++ [s.extract fr i], hall hn, hmap.symm, hlen, by omega, by omega, .inl ⟨by omega, Nat.le_refl _, e5, fun j k1 k2 => by omega⟩⟩⟩
    · obtain rfl : i = s.size := by omega
      have e5 : pieces s = done ++ [s.extract fr s.size] := by
        rw [a3, e1, List.drop_eq_nil_of_le (by omega), List.append_nil, splitL_last 44 p e2, List.map_cons, e4]
        rfl
      exact ⟨by rw [e5]; simp, a2, fun hn => ⟨done ++ [s.extract fr s.size], hall hn, hmap.symm, hlen, by omega, by omega, .inr ⟨rfl, e5⟩⟩⟩
  · omega
theorem CInv.fin (h : CInv s fr i out) (hi : ¬ i ≤ s.size) : allN (pieces s) = true ∧ (pieces s).map numV = out ∧ (pieces s).length = out.length := by
  obtain ⟨done, d1, d2, d3, d4, d5, h1⟩ := h
  rcases h1 with ⟨a1, a2, a3, a4⟩ | ⟨a1, a2⟩
  · omega
  · rw [a2, d2]
    exact ⟨d1, rfl, by simp⟩
theorem CInv.len (h : CInv s fr i out) : out.length ≤ s.size + 1 := by
  obtain ⟨done, d1, d2, d3, d4, d5, h1⟩ := h
  rw [d2, List.length_map]
  omega
theorem CInv.from (h : CInv s fr i out) (hi : i ≤ s.size) : fr ≤ i := by
  obtain ⟨done, d1, d2, d3, d4, d5, h1⟩ := h
  rcases h1 with ⟨a1, a2, a3, a4⟩ | ⟨a1, a2⟩
  · exact a2
  · omega
end
end Go.Proofs.YteopdmifgdcghaaDoor
