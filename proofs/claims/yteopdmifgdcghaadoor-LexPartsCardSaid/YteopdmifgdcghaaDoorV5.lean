/- Words with blanks beside them, in plain words. -/
import Derived.Test.YteopdmifgdcghaaDoorW4
namespace Go.Proofs.YteopdmifgdcghaaDoor
set_option linter.unusedSimpArgs false
set_option linter.unusedVariables false
theorem get_left (a b : ByteArray) (k : Nat) (h : k < a.size) : (a ++ b).get! k = a.get! k := by
  have := get_mid ByteArray.empty a b k h
  rw [ByteArray.empty_append] at this
  have e : ByteArray.empty.size + k = k := by show 0 + k = k; omega
  rw [e] at this
  exact this
theorem get_right (a b : ByteArray) (k : Nat) (h : k < b.size) : (a ++ b).get! (a.size + k) = b.get! k := by
  have := get_mid a b ByteArray.empty k h
  rw [ByteArray.append_empty] at this
  exact this
theorem get_lt (a : ByteArray) (k : Nat) : (a.get! k).toNat < 256 := (a.get! k).toNat_lt
/-- What is behind a text that begins with ASCII turns no rune of the text. -/
theorem decode_left (a b : ByteArray) (pos : Nat) (h : pos < a.size) (hb : b.size = 0 ∨ (b.get! 0).toNat < 128) : Utf8.decode (a ++ b) pos = Utf8.decode a pos ∧ pos + (Utf8.decode a pos).2 ≤ a.size := by
  rw [Lib.decode_at, Lib.decode_at, ByteArray.size_append, get_left a b pos h]
  obtain ⟨n, hn⟩ : ∃ n, a.size = pos + n := ⟨a.size - pos, by omega⟩
  have e1 : a.size + b.size - pos = n + b.size := by omega
  have e2 : a.size - pos = n := by omega
  rw [e1, e2]
  -- each further byte is a's own, or the first of b, or no matter
  have hk : ∀ k, k < n → (a ++ b).get! (pos + k) = a.get! (pos + k) := fun k hk => get_left a b _ (by omega)
  have hj : 0 < b.size → ((a ++ b).get! (pos + n)).toNat < 128 := fun hbs => by
    have := get_right a b 0 hbs
    rw [Nat.add_zero] at this
    rw [← hn, this]
    rcases hb with hb | hb
    · omega
    · exact hb
  generalize (a.get! pos).toNat = x0 at *
  have hA1 : 1 < n → ((a ++ b).get! (pos + 1)).toNat = (a.get! (pos + 1)).toNat := fun h => by rw [hk 1 h]
  have hA2 : 2 < n → ((a ++ b).get! (pos + 2)).toNat = (a.get! (pos + 2)).toNat := fun h => by rw [hk 2 h]
  have hA3 : 3 < n → ((a ++ b).get! (pos + 3)).toNat = (a.get! (pos + 3)).toNat := fun h => by rw [hk 3 h]
  have hB1 : n = 1 → 0 < b.size → ((a ++ b).get! (pos + 1)).toNat < 128 := fun h hbs => by have := hj hbs; rwa [h] at this
  have hB2 : n = 2 → 0 < b.size → ((a ++ b).get! (pos + 2)).toNat < 128 := fun h hbs => by have := hj hbs; rwa [h] at this
  have hB3 : n = 3 → 0 < b.size → ((a ++ b).get! (pos + 3)).toNat < 128 := fun h hbs => by have := hj hbs; rwa [h] at this
  have hn1 : 1 ≤ n := by omega
  rw [hn]
  generalize ((a ++ b).get! (pos + 1)).toNat = y1 at *
  generalize ((a ++ b).get! (pos + 2)).toNat = y2 at *
  generalize ((a ++ b).get! (pos + 3)).toNat = y3 at *
  generalize (a.get! (pos + 1)).toNat = x1 at *
  generalize (a.get! (pos + 2)).toNat = x2 at *
  generalize (a.get! (pos + 3)).toNat = x3 at *
  generalize b.size = m at *
  clear hk hj hb h hn e1 e2
  have key : Lib.decodeN (n + m) x0 y1 y2 y3 = Lib.decodeN n x0 x1 x2 x3 := by
    unfold Lib.decodeN
    by_cases c0 : x0 < 128
    · rw [if_pos c0, if_pos c0]
    rw [if_neg c0, if_neg c0]
    have c1 : (1 < n + m ∧ y1 / 64 = 2) ↔ (1 < n ∧ x1 / 64 = 2) := by
      rcases Nat.lt_or_ge 1 n with h | h
      · rw [hA1 h]; omega
      · have hh : n = 1 := by omega
        constructor
        · rintro ⟨p, q⟩; have := hB1 hh (by omega); omega
        · rintro ⟨p, q⟩; omega
    have c2 : (1 < n ∧ x1 / 64 = 2) → ((2 < n + m ∧ y2 / 64 = 2) ↔ (2 < n ∧ x2 / 64 = 2)) := by
      intro hh
      rcases Nat.lt_or_ge 2 n with h | h
      · rw [hA2 h]; omega
      · have hh2 : n = 2 := by omega
        constructor
        · rintro ⟨p, q⟩; have := hB2 hh2 (by omega); omega
        · rintro ⟨p, q⟩; omega
    have c3 : (2 < n ∧ x2 / 64 = 2) → ((3 < n + m ∧ y3 / 64 = 2) ↔ (3 < n ∧ x3 / 64 = 2)) := by
      intro hh
      rcases Nat.lt_or_ge 3 n with h | h
      · rw [hA3 h]; omega
      · have hh2 : n = 3 := by omega
        constructor
        · rintro ⟨p, q⟩; have := hB3 hh2 (by omega); omega
        · rintro ⟨p, q⟩; omega
    by_cases d1 : (1 < n ∧ x1 / 64 = 2)
    · have d1' := c1.2 d1
      have v1 : y1 = x1 := hA1 d1.1
      subst v1
      by_cases d2 : (2 < n ∧ x2 / 64 = 2)
      · have d2' := (c2 d1).2 d2
        have v2 : y2 = x2 := hA2 d2.1
        subst v2
        by_cases d3 : (3 < n ∧ x3 / 64 = 2)
        · have d3' := (c3 d2).2 d3
          have v3 : y3 = x3 := hA3 d3.1
          subst v3
          simp only [d1, d1', d2, d2', d3, d3', and_true, true_and, and_self]
        · have d3' : ¬ (3 < n + m ∧ y3 / 64 = 2) := fun h => d3 ((c3 d2).1 h)
          simp only [d1, d1', d2, d2', d3, d3', and_true, true_and, and_self, and_false, if_false]
      · have d2' : ¬ (2 < n + m ∧ y2 / 64 = 2) := fun h => d2 ((c2 d1).1 h)
        simp only [d1, d1', d2, d2', and_true, true_and, and_self, and_false, false_and, if_false]
    · have d1' : ¬ (1 < n + m ∧ y1 / 64 = 2) := fun h => d1 (c1.1 h)
      simp only [d1, d1', and_false, false_and, if_false]
  refine ⟨key, ?_⟩
  unfold Lib.decodeN
  repeat' split
  all_goals first | (show pos + 1 ≤ pos + n; omega) | (show pos + 2 ≤ pos + n; omega) | (show pos + 3 ≤ pos + n; omega) | (show pos + 4 ≤ pos + n; omega)
theorem decode_right (a b : ByteArray) (pos : Nat) (h : pos < b.size) : Utf8.decode (a ++ b) (a.size + pos) = Utf8.decode b pos := by
  rw [Lib.decode_at, Lib.decode_at, ByteArray.size_append, show a.size + b.size - (a.size + pos) = b.size - pos by omega, get_right a b pos h]
  have hk : ∀ k, pos + k < b.size → (a ++ b).get! (a.size + pos + k) = b.get! (pos + k) := fun k hk => by rw [Nat.add_assoc]; exact get_right a b _ hk
  obtain ⟨n, hn⟩ : ∃ n, b.size = pos + n := ⟨b.size - pos, by omega⟩
  rw [show b.size - pos = n by omega]
  have hA1 : 1 < n → ((a ++ b).get! (a.size + pos + 1)).toNat = (b.get! (pos + 1)).toNat := fun h => by rw [hk 1 (by omega)]
  have hA2 : 2 < n → ((a ++ b).get! (a.size + pos + 2)).toNat = (b.get! (pos + 2)).toNat := fun h => by rw [hk 2 (by omega)]
  have hA3 : 3 < n → ((a ++ b).get! (a.size + pos + 3)).toNat = (b.get! (pos + 3)).toNat := fun h => by rw [hk 3 (by omega)]
  generalize ((a ++ b).get! (a.size + pos + 1)).toNat = y1 at *
  generalize ((a ++ b).get! (a.size + pos + 2)).toNat = y2 at *
  generalize ((a ++ b).get! (a.size + pos + 3)).toNat = y3 at *
  generalize (b.get! (pos + 1)).toNat = x1 at *
  generalize (b.get! (pos + 2)).toNat = x2 at *
  generalize (b.get! (pos + 3)).toNat = x3 at *
  generalize (b.get! pos).toNat = x0 at *
  clear hk h hn
  unfold Lib.decodeN
  by_cases d1 : 1 < n
  · rw [hA1 d1]
    by_cases d2 : 2 < n
    · rw [hA2 d2]
      by_cases d3 : 3 < n
      · rw [hA3 d3]
      · simp only [d3, false_and, and_false, if_false]
    · have d3 : ¬ 3 < n := by omega
      simp only [d2, d3, false_and, and_false, if_false]
  · have d2 : ¬ 2 < n := by omega
    have d3 : ¬ 3 < n := by omega
    simp only [d1, d2, d3, false_and, and_false, if_false]
theorem runesOf_fuel (s : ByteArray) : ∀ f g pos, s.size ≤ pos + f → s.size ≤ pos + g → runesOf s f pos = runesOf s g pos
  | 0, 0, _, _, _ => rfl
  | 0, g + 1, pos, h, _ => by unfold runesOf; rw [if_neg (by omega)]
  | f + 1, 0, pos, _, h => by unfold runesOf; rw [if_neg (by omega)]
  | f + 1, g + 1, pos, h1, h2 => by
    unfold runesOf
    split
    · rename_i hp
      have := Lib.decode_width_pos s pos hp
      rw [runesOf_fuel s f g _ (by omega) (by omega)]
    · rfl
theorem runesOf_right (a b : ByteArray) : ∀ f pos, runesOf (a ++ b) f (a.size + pos) = runesOf b f pos
  | 0, _ => rfl
  | f + 1, pos => by
    unfold runesOf
    by_cases h : pos < b.size
    · rw [if_pos h, if_pos (by rw [ByteArray.size_append]; omega), decode_right a b pos h, Nat.add_assoc, runesOf_right a b f]
    · rw [if_neg h, if_neg (by rw [ByteArray.size_append]; omega)]
theorem runesOf_left (a b : ByteArray) (hb : b.size = 0 ∨ (b.get! 0).toNat < 128) : ∀ f pos, pos ≤ a.size → a.size + b.size ≤ pos + f → runesOf (a ++ b) f pos = runesOf a f pos ++ runes b
  | 0, pos, h1, h2 => by
    have hz : b.size = 0 := by omega
    unfold runes
    rw [hz]
    rfl
  | f + 1, pos, h1, h2 => by
    by_cases h : pos < a.size
    · obtain ⟨d1, d2⟩ := decode_left a b pos h hb
      have hw := Lib.decode_width_pos a pos h
      conv => lhs; unfold runesOf
      conv => rhs; unfold runesOf
      rw [if_pos h, if_pos (by rw [ByteArray.size_append]; omega), d1, runesOf_left a b hb f _ d2 (by omega)]
      rfl
    · obtain rfl : pos = a.size := by omega
      have e1 : runesOf a (f + 1) a.size = [] := by unfold runesOf; rw [if_neg h]
      rw [e1, List.nil_append]
      have e2 : runesOf (a ++ b) (f + 1) a.size = runesOf b (f + 1) 0 := runesOf_right a b (f + 1) 0
      rw [e2]
      exact runesOf_fuel b _ _ 0 (by omega) (by omega)
theorem runes_append (a b : ByteArray) (hb : b.size = 0 ∨ (b.get! 0).toNat < 128) : runes (a ++ b) = runes a ++ runes b := by
  have h := runesOf_left a b hb (a ++ b).size 0 (Nat.zero_le _) (by rw [ByteArray.size_append]; omega)
  unfold runes at h ⊢
  rw [h]
  congr 1
  exact runesOf_fuel a _ _ 0 (by rw [ByteArray.size_append]; omega) (by omega)
theorem runesOf_succ (s : ByteArray) (f pos : Nat) (h : pos < s.size) : runesOf s (f + 1) pos = (Utf8.decode s pos).1 :: runesOf s f (pos + (Utf8.decode s pos).2) := by
  show (if pos < s.size then _ else _) = _
  rw [if_pos h]
theorem runes_cons (b : ByteArray) : runes (blank ++ b) = 32 :: runes b := by
  have hsz : (blank ++ b).size = b.size + 1 := by rw [ByteArray.size_append]; show 1 + b.size = _; omega
  have hd : Utf8.decode (blank ++ b) 0 = (32, 1) := by
    rw [Lib.decode_at]
    have g : (blank ++ b).get! 0 = 32 := get_left blank b 0 (by decide)
    rw [g]
    unfold Lib.decodeN
    rfl
  unfold runes
  rw [hsz, runesOf_succ _ _ _ (by omega), hd]
  congr 1
  exact runesOf_right blank b b.size 0
theorem blank_head (b : ByteArray) : ((blank ++ b).get! 0).toNat < 128 := by
  have g : (blank ++ b).get! 0 = 32 := get_left blank b 0 (by decide)
  rw [g]
  decide
theorem okR_mid (a b : ByteArray) : okR (a ++ (blank ++ b)) = (okR a && okR b) := by
  unfold okR
  rw [runes_append a _ (.inr (blank_head b)), runes_cons, List.all_append, List.all_cons]
  have : decide (kindN ((32 : Nat) : Int) ≠ 0) = true := by decide
  rw [this, Bool.true_and]
theorem split_mid (c : UInt8) : ∀ (p r : List UInt8), splitL c (p ++ c :: r) = splitL c p ++ splitL c r
  | [], r => by rw [List.nil_append, splitL_sep]; rfl
  | b :: p, r => by
    have ih := split_mid c p r
    obtain ⟨x, xs, ex⟩ := splitL_ne c p
    by_cases hb : b = c
    · subst hb
      rw [List.cons_append, splitL_sep, splitL_sep, ih]
      rfl
    · rw [ex] at ih
      rw [List.cons_append, splitL_other hb _ ex, splitL_other hb _ ih]
      rfl
theorem parts_mid (a b : ByteArray) : parts (a ++ (blank ++ b)) = parts a ++ parts b := by
  unfold parts
  have hd : (a ++ (blank ++ b)).data.toList = a.data.toList ++ 32 :: b.data.toList := by
    rw [ByteArray.data_append, ByteArray.data_append, Array.toList_append, Array.toList_append]
    rfl
  rw [hd, split_mid, List.map_append]
theorem joinL_append (c : UInt8) : ∀ (ps qs : List (List UInt8)), ps ≠ [] → qs ≠ [] → joinL c (ps ++ qs) = joinL c ps ++ c :: joinL c qs
  | [], _, h, _ => absurd rfl h
  | [p], qs, _, h => joinL_cons c p h
  | p :: q :: ps, qs, _, h => by
    have ih := joinL_append c (q :: ps) qs (by simp) h
    rw [List.cons_append, joinL_cons _ _ (by simp), ih, show joinL c (p :: q :: ps) = p ++ c :: joinL c (q :: ps) from rfl, List.append_assoc]
    rfl
theorem mkB_append (a b : List UInt8) : mkB (a ++ b) = mkB a ++ mkB b := by
  apply data_inj
  rw [ByteArray.data_append, Array.toList_append]
  rfl
theorem joinS_split (l : List ByteArray) (n : Nat) (h0 : n ≠ 0) (h1 : n < l.length) : joinS l = joinS (l.take n) ++ (blank ++ joinS (l.drop n)) := by
  have e : bys l = bys (l.take n) ++ bys (l.drop n) := by
    unfold bys
    rw [← List.map_append, List.take_append_drop]
  have a1 : bys (l.take n) ≠ [] := by
    intro h
    have := congrArg List.length h
    unfold bys at this
    rw [List.length_map, List.length_take, List.length_nil] at this
    omega
  have a2 : bys (l.drop n) ≠ [] := by
    intro h
    have := congrArg List.length h
    unfold bys at this
    rw [List.length_map, List.length_drop, List.length_nil] at this
    omega
  unfold joinS
  rw [e, joinL_append 32 _ _ a1 a2, mkB_append]
  congr 1
/-- Words with one blank between are words; with one ahead, behind, or with two, they are none. -/
theorem parts_law (l : List ByteArray) (hl : l ≠ []) (hE : wordsE (joinS l) = 0) (hn : (wordsL (joinS l)).length = l.length) (hs : (joinS l).size ≤ 198) :
    wordsL (joinS l) = l ∧ wordsE (blank ++ joinS l) = 81 ∧ wordsE (joinS l ++ blank) = 81 ∧ ∀ n, n < l.length → wordsE (joinS (l.take n) ++ blank ++ blank ++ joinS (l.drop n)) = 81 := by
  have hW : wordsL (joinS l) = parts (joinS l) := by unfold wordsL; rw [if_pos hE]
  have hok : okR (joinS l) = true := by
    cases h : okR (joinS l) with
    | true => rfl
    | false => rw [(wordsE_80 (by omega) h).1] at hE; cases hE
  have hE0 : okR ByteArray.empty = true := rfl
  have hP0 : parts ByteArray.empty = [⟨#[]⟩] := rfl
  have e81 : ∀ a b : ByteArray, (a ++ (blank ++ b)).size ≤ 200 → okR a = true → okR b = true → ((⟨#[]⟩ : ByteArray) ∈ parts a ∨ (⟨#[]⟩ : ByteArray) ∈ parts b) → wordsE (a ++ (blank ++ b)) = 81 := by
    intro a b h1 h2 h3 h4
    refine (wordsE_81 h1 (by rw [okR_mid, h2, h3]; rfl) ?_).1
    rw [parts_mid]
    rcases h4 with h4 | h4
    · exact List.mem_append_left _ h4
    · exact List.mem_append_right _ h4
  refine ⟨?_, ?_, ?_, fun n hnl => ?_⟩
  · rw [hW] at hn ⊢
    have hb : bys l ≠ [] := by unfold bys; simpa using hl
    have hc := (join_count 32 (bys l) hb).2 (by
      unfold parts at hn
      rw [List.length_map] at hn
      have : (bys l).length = l.length := by unfold bys; rw [List.length_map]
      rw [this]
      exact hn)
    unfold parts
    have e1 : (joinS l).data.toList = joinL 32 (bys l) := rfl
    rw [e1, split_join 32 (bys l) hb hc]
    unfold bys
    rw [List.map_map]
    conv => rhs; rw [← List.map_id l]
    apply List.map_congr_left
    intro a _
    cases a
    rfl
  · have := e81 ByteArray.empty (joinS l) (by rw [ByteArray.empty_append, ByteArray.size_append]; show 1 + _ ≤ 200; omega) hE0 hok (.inl (by rw [hP0]; simp))
    rwa [ByteArray.empty_append] at this
  · have := e81 (joinS l) ByteArray.empty (by rw [ByteArray.append_empty, ByteArray.size_append]; show _ + 1 ≤ 200; omega) hok hE0 (.inr (by rw [hP0]; simp))
    rwa [ByteArray.append_empty] at this
  · have hmid : okR (joinS (l.take n)) = true ∧ okR (joinS (l.drop n)) = true ∧ (joinS (l.take n)).size + (joinS (l.drop n)).size ≤ 198 := by
      by_cases h0 : n = 0
      · subst h0
        rw [List.take_zero, List.drop_zero]
        exact ⟨rfl, hok, by show 0 + _ ≤ 198; omega⟩
      · have e := joinS_split l n h0 hnl
        rw [e, okR_mid] at hok
        rw [e, ByteArray.size_append, ByteArray.size_append] at hs
        simp only [Bool.and_eq_true] at hok
        exact ⟨hok.1, hok.2, by omega⟩
    obtain ⟨m1, m2, m3⟩ := hmid
    have hb1 : blank.size = 1 := rfl
    have := e81 (joinS (l.take n)) (blank ++ joinS (l.drop n)) (by rw [ByteArray.size_append, ByteArray.size_append, ByteArray.size_append, hb1]; omega) m1 (by
      have := okR_mid ByteArray.empty (joinS (l.drop n))
      rw [ByteArray.empty_append] at this
      rw [this, m2]
      rfl) (.inr (by
      have := parts_mid ByteArray.empty (joinS (l.drop n))
      rw [ByteArray.empty_append] at this
      rw [this, hP0]
      simp))
    rw [ByteArray.append_assoc, ByteArray.append_assoc]
    exact this
end Go.Proofs.YteopdmifgdcghaaDoor
