/- Runes of a text, in plain words: decoding what was encoded. -/
import Derived.Test.YteopdmifgdcghaaDoorB0
import Derived.Laws.Cover4
import Derived.Laws.RangeAny
import Derived.Lib.RuneCount
import Derived.Lib.DecodeN
namespace Go.Proofs.YteopdmifgdcghaaDoor
set_option linter.unusedSimpArgs false
set_option linter.unusedVariables false
/-- The runes that a range over a text hands over. -/
def runesOf (s : ByteArray) : Nat → Nat → List Nat
  | 0, _ => []
  | f + 1, pos => if pos < s.size then (Utf8.decode s pos).1 :: runesOf s f (pos + (Utf8.decode s pos).2) else []
def runes (s : ByteArray) : List Nat := runesOf s s.size 0
/-- A rune as it comes back. -/
def norm (r : Int) : Nat := if Utf8.valid r then r.toNat else 65533
theorem get_mid (pre e post : ByteArray) (k : Nat) (h : k < e.size) : (pre ++ e ++ post).get! (pre.size + k) = e.get! k := by
  show (pre ++ e ++ post).data[pre.size + k]! = e.data[k]!
  have hk : k < e.data.size := h
  rw [ByteArray.data_append, ByteArray.data_append]
  have h1 : ((pre.data ++ e.data) ++ post.data)[pre.size + k]? = some e.data[k] := by
    rw [Array.getElem?_append_left (by simp only [Array.size_append]; show pre.data.size + k < _; omega)]
    rw [Array.getElem?_append_right (by show pre.data.size ≤ pre.data.size + k; omega)]
    rw [show pre.size + k - pre.data.size = k from by show pre.data.size + k - pre.data.size = k; omega]
    simp [hk]
  rw [Array.getElem!_eq_getD, Array.getElem!_eq_getD, Array.getD_eq_getD_getElem?, Array.getD_eq_getD_getElem?, h1, Array.getElem?_eq_getElem hk]
theorem norm_ok (r : Int) : norm r < 55296 ∨ (57344 ≤ norm r ∧ norm r ≤ 1114111) := by
  unfold norm
  by_cases h : Utf8.valid r = true
  · rw [if_pos h]
    unfold Utf8.valid at h
    simp at h
    omega
  · rw [if_neg h]; omega
theorem encode_eq (r : Int) : Utf8.encode r = if norm r < 128 then ⟨#[UInt8.ofNat (norm r)]⟩ else if norm r < 2048 then ⟨#[UInt8.ofNat (192 + norm r / 64), UInt8.ofNat (128 + norm r % 64)]⟩ else if norm r < 65536 then ⟨#[UInt8.ofNat (224 + norm r / 4096), UInt8.ofNat (128 + norm r / 64 % 64), UInt8.ofNat (128 + norm r % 64)]⟩ else ⟨#[UInt8.ofNat (240 + norm r / 262144), UInt8.ofNat (128 + norm r / 4096 % 64), UInt8.ofNat (128 + norm r / 64 % 64), UInt8.ofNat (128 + norm r % 64)]⟩ := rfl
theorem valid_nat (c : Nat) (h : c < 55296 ∨ (57344 ≤ c ∧ c ≤ 1114111)) : Utf8.valid (c : Int) = true := by
  unfold Utf8.valid
  simp
  omega
theorem decode_encode (pre post : ByteArray) (r : Int) : Utf8.decode (pre ++ Utf8.encode r ++ post) pre.size = (norm r, (Utf8.encode r).size) := by
  have hv := norm_ok r
  have hg := fun k h => get_mid pre (Utf8.encode r) post k h
  have hsz : (pre ++ Utf8.encode r ++ post).size = pre.size + (Utf8.encode r).size + post.size := by
    rw [ByteArray.size_append, ByteArray.size_append]
  rw [encode_eq] at hg hsz ⊢
  generalize norm r = c at *
  rw [Lib.decode_at]
  by_cases h1 : c < 128
  · rw [if_pos h1] at hg hsz ⊢
    have g0 := hg 0 (by show 0 < 1; omega)
    have e0 : (ByteArray.get! ⟨#[UInt8.ofNat c]⟩ 0).toNat = c := by show (UInt8.ofNat c).toNat = c; simp; omega
    rw [Nat.add_zero] at g0
    rw [g0, e0]
    unfold Lib.decodeN
    rw [if_pos h1]
    rfl
  rw [if_neg h1] at hg hsz ⊢
  by_cases h2 : c < 2048
  · rw [if_pos h2] at hg hsz ⊢
    generalize hE : (⟨#[UInt8.ofNat (192 + c / 64), UInt8.ofNat (128 + c % 64)]⟩ : ByteArray) = E at *
    have hE4 : E.size = 2 := by rw [← hE]; rfl
    have g0 := hg 0 (by omega)
    have g1 := hg 1 (by omega)
    have e0 : (ByteArray.get! E 0).toNat = 192 + c / 64 := by rw [← hE]; show (UInt8.ofNat (192 + c / 64)).toNat = _; simp; omega
    have e1 : (ByteArray.get! E 1).toNat = 128 + c % 64 := by rw [← hE]; show (UInt8.ofNat (128 + c % 64)).toNat = _; simp; omega
    rw [Nat.add_zero] at g0
    rw [g0, g1, e0, e1, hsz, hE4]
    unfold Lib.decodeN
    rw [if_neg (by omega), if_pos ⟨by omega, by omega, by omega⟩, if_pos (by omega)]
    congr 1
    omega
  rw [if_neg h2] at hg hsz ⊢
  by_cases h3 : c < 65536
  · rw [if_pos h3] at hg hsz ⊢
    generalize hE : (⟨#[UInt8.ofNat (224 + c / 4096), UInt8.ofNat (128 + c / 64 % 64), UInt8.ofNat (128 + c % 64)]⟩ : ByteArray) = E at *
    have hE4 : E.size = 3 := by rw [← hE]; rfl
    have g0 := hg 0 (by omega)
    have g1 := hg 1 (by omega)
    have g2 := hg 2 (by omega)
    have e0 : (ByteArray.get! E 0).toNat = 224 + c / 4096 := by rw [← hE]; show (UInt8.ofNat (224 + c / 4096)).toNat = _; simp; omega
    have e1 : (ByteArray.get! E 1).toNat = 128 + c / 64 % 64 := by rw [← hE]; show (UInt8.ofNat (128 + c / 64 % 64)).toNat = _; simp; omega
    have e2 : (ByteArray.get! E 2).toNat = 128 + c % 64 := by rw [← hE]; show (UInt8.ofNat (128 + c % 64)).toNat = _; simp; omega
    rw [Nat.add_zero] at g0
    rw [g0, g1, g2, e0, e1, e2, hsz, hE4]
    unfold Lib.decodeN
    have hval : (224 + c / 4096) % 16 * 4096 + (128 + c / 64 % 64) % 64 * 64 + (128 + c % 64) % 64 = c := by omega
    rw [if_neg (by omega), if_neg (by omega), if_pos ⟨by omega, ⟨by omega, by omega⟩, by omega, by omega⟩, hval, if_pos ⟨by omega, by omega⟩]
  · rw [if_neg h3] at hg hsz ⊢
    generalize hE : (⟨#[UInt8.ofNat (240 + c / 262144), UInt8.ofNat (128 + c / 4096 % 64), UInt8.ofNat (128 + c / 64 % 64), UInt8.ofNat (128 + c % 64)]⟩ : ByteArray) = E at *
    have hE4 : E.size = 4 := by rw [← hE]; rfl
    have g0 := hg 0 (by omega)
    have g1 := hg 1 (by omega)
    have g2 := hg 2 (by omega)
    have g3 := hg 3 (by omega)
    have e0 : (ByteArray.get! E 0).toNat = 240 + c / 262144 := by rw [← hE]; show (UInt8.ofNat (240 + c / 262144)).toNat = _; simp; omega
    have e1 : (ByteArray.get! E 1).toNat = 128 + c / 4096 % 64 := by rw [← hE]; show (UInt8.ofNat (128 + c / 4096 % 64)).toNat = _; simp; omega
    have e2 : (ByteArray.get! E 2).toNat = 128 + c / 64 % 64 := by rw [← hE]; show (UInt8.ofNat (128 + c / 64 % 64)).toNat = _; simp; omega
    have e3 : (ByteArray.get! E 3).toNat = 128 + c % 64 := by rw [← hE]; show (UInt8.ofNat (128 + c % 64)).toNat = _; simp; omega
    rw [Nat.add_zero] at g0
    rw [g0, g1, g2, g3, e0, e1, e2, e3, hsz, hE4]
    unfold Lib.decodeN
    have hval : (240 + c / 262144) % 8 * 262144 + (128 + c / 4096 % 64) % 64 * 4096 + (128 + c / 64 % 64) % 64 * 64 + (128 + c % 64) % 64 = c := by omega
    rw [if_neg (by omega), if_neg (by omega), if_neg (by omega), if_pos ⟨by omega, ⟨by omega, by omega⟩, ⟨by omega, by omega⟩, by omega, by omega⟩, hval, if_pos ⟨by omega, by omega⟩]
/-- Runes, one behind the other. -/
def encs : List Int → ByteArray
  | [] => ByteArray.empty
  | r :: l => Utf8.encode r ++ encs l
theorem encode_pos (r : Int) : 1 ≤ (Utf8.encode r).size := by
  rw [encode_eq]
  repeat' split
  all_goals (simp [ByteArray.size])
theorem runesOf_encs : ∀ (l : List Int) (pre : ByteArray) (f : Nat), (encs l).size ≤ f → runesOf (pre ++ encs l) f pre.size = l.map norm
  | [], pre, f, _ => by
    cases f with
    | zero => rfl
    | succ f => unfold runesOf; rw [if_neg (by rw [ByteArray.size_append]; show ¬ pre.size < pre.size + 0; omega)]; rfl
  | r :: l, pre, f, hf => by
    have hp := encode_pos r
    have hs : (encs (r :: l)).size = (Utf8.encode r).size + (encs l).size := by show (Utf8.encode r ++ encs l).size = _; rw [ByteArray.size_append]
    obtain ⟨f, rfl⟩ : ∃ g, f = g + 1 := ⟨f - 1, by omega⟩
    have e : pre ++ encs (r :: l) = pre ++ Utf8.encode r ++ encs l := by show pre ++ (Utf8.encode r ++ encs l) = _; rw [ByteArray.append_assoc]
    rw [e]
    unfold runesOf
    rw [if_pos (by rw [ByteArray.size_append, ByteArray.size_append]; omega), decode_encode]
    have h2 := runesOf_encs l (pre ++ Utf8.encode r) f (by omega)
    rw [ByteArray.size_append] at h2
    rw [h2]
    rfl
theorem runes_encs (l : List Int) : runes (encs l) = l.map norm := by
  have := runesOf_encs l ByteArray.empty (encs l).size (Nat.le_refl _)
  unfold runes
  rw [ByteArray.empty_append] at this
  exact this
theorem runesBytes_eq (l : List Int) : runesBytes l = encs l := by
  have h : ∀ (l : List Int) (s : ByteArray), l.foldl (fun r n => r ++ Utf8.encode n) s = s ++ encs l := by
    intro l
    induction l with
    | nil => intro s; show s = s ++ ByteArray.empty; rw [ByteArray.append_empty]
    | cons r l ih => intro s; rw [List.foldl_cons, ih]; show _ = s ++ (Utf8.encode r ++ encs l); rw [ByteArray.append_assoc]
  unfold runesBytes
  rw [h, ByteArray.empty_append]
/-- A letter. -/
def isL (r : Int) : Bool := decide (97 ≤ r ∧ r ≤ 122) || decide (945 ≤ r ∧ r ≤ 969)
/-- A name: one to eight letters. -/
def nameB (l : List Nat) : Bool := l.all (fun r => isL (r : Int)) && decide (1 ≤ l.length ∧ l.length ≤ 8)
theorem runesOf_len (s : ByteArray) : ∀ f pos, (runesOf s f pos).length ≤ f
  | 0, _ => Nat.le_refl _
  | f + 1, pos => by
    unfold runesOf
    split
    · have := runesOf_len s f (pos + (Utf8.decode s pos).2)
      simp; omega
    · simp
theorem ret_bool {a b : Bool} (h : a = b) : Ending.returned (.bool a) = .returned (.bool b) := by rw [h]
end Go.Proofs.YteopdmifgdcghaaDoor
