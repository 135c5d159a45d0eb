/- Plain: the texts of fractions. -/
import Derived.Test.YtkjlmibleoecgaaGreatDoorQ9
import Derived.Test.YtkjlmibleoecgaaGreatDoorQ4
import Derived.Lib.IndexMore
import Derived.Lib.IndexLaws
import Derived.Lib.IndexBytes
namespace Go.Proofs.YtkjlmibleoecgaaGreatDoor
set_option linter.unusedSimpArgs false
set_option linter.unusedVariables false
open Go.RowKit
theorem cut_no {l : List UInt8} (h : ∀ k : Nat, k < l.length → l[k]? ≠ some 47) : Lib.cut l [47] = (l, [], false) := by
  have e : Lib.index l [47] = -1 := by
    rw [Lib.index_one]
    have := Lib.indexByte_ge l 47
    by_cases h1 : Lib.indexByte l 47 = -1
    · exact h1
    · obtain ⟨o, ho⟩ : ∃ o : Nat, Lib.indexByte l 47 = o := ⟨(Lib.indexByte l 47).toNat, by omega⟩
      have h2 := (Lib.indexByte_some ho).1
      exact absurd h2 (h o (List.getElem?_eq_some_iff.1 h2).1)
  unfold Lib.cut
  rw [e, if_neg (by decide)]
theorem cut_yes {l : List UInt8} {i : Nat} (h0 : l[i]? = some 47) (h : ∀ k : Nat, k < i → l[k]? ≠ some 47) : Lib.cut l [47] = (l.take i, l.drop (i + 1), true) := by
  have e : Lib.index l [47] = i := by
    rw [Lib.index_one]
    have := Lib.indexByte_ge l 47
    by_cases h1 : Lib.indexByte l 47 = -1
    · exact absurd h0 (Lib.indexByte_none h1 i)
    · obtain ⟨o, ho⟩ : ∃ o : Nat, Lib.indexByte l 47 = o := ⟨(Lib.indexByte l 47).toNat, by omega⟩
      obtain ⟨h2, h3⟩ := Lib.indexByte_some ho
      rw [ho]
      by_cases hlt : o < i
      · exact absurd h2 (h o hlt)
      · by_cases hgt : i < o
        · exact absurd h0 (h3 i hgt)
        · congr 1; omega
  unfold Lib.cut
  rw [e, if_pos (by omega)]
  simp
def qa (l : List UInt8) : List UInt8 := (Lib.cut l [47]).1
def qb (l : List UInt8) : List UInt8 := (Lib.cut l [47]).2.1
def qi (l : List UInt8) : Bool := (Lib.cut l [47]).2.2
theorem cut_cases (l : List UInt8) : (qi l = false ∧ qa l = l ∧ qb l = [] ∧ ∀ k : Nat, k < l.length → l[k]? ≠ some 47) ∨ (qi l = true ∧ l = qa l ++ 47 :: qb l ∧ ∀ k : Nat, k < (qa l).length → l[k]? ≠ some 47) := by
  have := Lib.indexByte_ge l 47
  by_cases h1 : Lib.indexByte l 47 = -1
  · have h2 : ∀ k : Nat, k < l.length → l[k]? ≠ some 47 := fun k _ => Lib.indexByte_none h1 k
    left
    unfold qi qa qb
    rw [cut_no h2]
    exact ⟨rfl, rfl, rfl, h2⟩
  · obtain ⟨o, ho⟩ : ∃ o : Nat, Lib.indexByte l 47 = o := ⟨(Lib.indexByte l 47).toNat, by omega⟩
    obtain ⟨h2, h3⟩ := Lib.indexByte_some ho
    have hlt := (List.getElem?_eq_some_iff.1 h2).1
    right
    unfold qi qa qb
    rw [cut_yes h2 h3]
    refine ⟨rfl, ?_, fun k hk => h3 k (by rw [List.length_take] at hk; omega)⟩
    have h4 := (List.getElem?_eq_some_iff.1 h2).2
    have h5 : l.drop o = 47 :: l.drop (o + 1) := by rw [List.drop_eq_getElem_cons hlt, h4]
    rw [← h5, List.take_append_drop]
def qden (l : List UInt8) : Int := if qi l then (pNum (qb l) : Int) else 1
/-- Is it a fraction's text? -/
def okQ (l : List UInt8) : Bool := isZ (qa l) && (!qi l || (isNum (qb l) && decide (pNum (qb l) ≠ 0) && (ratS (mkN (zNum (qa l)) (qden l)) (mkD (zNum (qa l)) (qden l))).toList == l))
def errQ (l : List UInt8) : Int := if okQ l then 0 else 10
def qN (l : List UInt8) : Int := if okQ l then mkN (zNum (qa l)) (qden l) else 0
def qD (l : List UInt8) : Int := if okQ l then mkD (zNum (qa l)) (qden l) else 0
/-- A fraction in its lowest terms. -/
def Low (n d : Int) : Prop := 0 < d ∧ Nat.gcd n.natAbs d.natAbs = 1
theorem mk_low {a b : Int} (h : b ≠ 0) : Low (mkN a b) (mkD a b) := ⟨(mk_spec h).2.2.2.1, (mk_spec h).2.2.2.2⟩
theorem okQ_den {l : List UInt8} (h : okQ l = true) : qden l ≠ 0 := by
  unfold okQ at h
  unfold qden
  cases hq : qi l with
  | false => simp
  | true => rw [hq] at h; simp at h ⊢; exact h.2.1.2
theorem ratS_whole (a : Int) : ratS a 1 = numS a := by unfold ratS denZ; rw [if_pos (by decide)]
theorem okQ_text {s : ByteArray} (h : okQ s.data.toList = true) : ratS (qN s.data.toList) (qD s.data.toList) = s ∧ Low (qN s.data.toList) (qD s.data.toList) := by
  have hd := okQ_den h
  unfold qN qD
  rw [if_pos h, if_pos h]
  refine ⟨?_, mk_low hd⟩
  rcases cut_cases s.data.toList with ⟨h1, h2, h3, -⟩ | ⟨h1, h2, -⟩
  · unfold okQ at h
    rw [h1, h2] at h
    simp at h
    unfold qden
    rw [h1, h2]
    simp only [Bool.false_eq_true, if_false]
    rw [(mk_one _).1, (mk_one _).2, ratS_whole, zNum_text h]
  · unfold okQ at h
    rw [h1] at h
    simp only [Bool.not_true, Bool.false_or, Bool.and_eq_true, beq_iff_eq] at h
    have := h.2.2
    rw [Lib.toList_data] at this
    exact data_injY this
theorem dec_no {u : Nat} {c : UInt8} (h : c ∈ Lib.decDigits u) : 48 ≤ c.toNat ∧ c.toNat ≤ 57 := by
  have := List.all_eq_true.1 (dec_dig u) c h
  unfold dig at this
  simpa using this
theorem numS_no47 (z : Int) : (47 : UInt8) ∉ (numS z).data.toList := by
  intro h
  unfold numS at h
  split at h
  · rw [ByteArray.data_append, Array.toList_append] at h
    rcases List.mem_append.1 h with h | h
    · simp at h
    · rw [decS_data] at h
      have := (dec_no h).1
      simp at this
  · rw [decS_data] at h
    have := (dec_no h).1
    simp at this
theorem numS_pos {d : Int} (hd : 0 < d) : (numS d).data.toList.head? ≠ some 45 := by
  intro h
  unfold numS at h
  rw [if_neg (by omega), decS_data] at h
  have hm : (45 : UInt8) ∈ Lib.decDigits d.natAbs := List.mem_of_mem_head? h
  have := (dec_no hm).1
  simp at this
theorem cut_one {a b c d : List UInt8} (h : a ++ 47 :: b = c ++ 47 :: d) (ha : (47 : UInt8) ∉ a) (hc : (47 : UInt8) ∉ c) : a = c ∧ b = d := by
  induction a generalizing c with
  | nil =>
    cases c with
    | nil => simp at h; exact ⟨rfl, h⟩
    | cons x c => simp at h; exact absurd (by rw [← h.1]; simp) hc
  | cons x a ih =>
    cases c with
    | nil => simp at h; exact absurd (by rw [h.1]; simp) ha
    | cons y c =>
      simp at h
      obtain ⟨e, h⟩ := h
      obtain ⟨e1, e2⟩ := ih (c := c) h (fun h => ha (by simp [h])) (fun h => hc (by simp [h]))
      exact ⟨by rw [e, e1], e2⟩
/-- A text that begins its denominator with a minus is none. -/
theorem neg_ne {s : ByteArray} {n d : Int} (hd : 0 < d) (hq : qi s.data.toList = true) (h45 : (qb s.data.toList).head? = some 45) : ratS n d ≠ s := by
  intro e
  rcases cut_cases s.data.toList with ⟨h1, -⟩ | ⟨-, h2, h3⟩
  · rw [h1] at hq; cases hq
  have hn : (47 : UInt8) ∉ qa s.data.toList := fun hm => by
    obtain ⟨k, hk, hk2⟩ := List.getElem_of_mem hm
    refine h3 k hk ?_
    rw [h2, List.getElem?_append_left hk, List.getElem?_eq_getElem hk, hk2]
  by_cases h : denZ d = 1
  · have e1 : ratS n d = numS n := by unfold ratS; rw [if_pos h]
    rw [e1] at e
    have := numS_no47 n
    rw [e, h2] at this
    simp at this
  · have e1 : ratS n d = (numS n ++ ⟨#[47]⟩) ++ numS d := by unfold ratS; rw [if_neg h]
    rw [e1] at e
    have h4 : (numS n).data.toList ++ 47 :: (numS d).data.toList = qa s.data.toList ++ 47 :: qb s.data.toList := by
      rw [← h2, ← e, ByteArray.data_append, ByteArray.data_append, Array.toList_append, Array.toList_append]
      simp
    have h5 := (cut_one h4 (numS_no47 n) hn).2
    rw [← h5] at h45
    exact numS_pos hd h45
end Go.Proofs.YtkjlmibleoecgaaGreatDoor
