/- What a reader of a record knows, step by step: plain. And that bytes are one record at most. -/
import Derived.Test.YtnmmcnblepadlaaD2
namespace Go.Proofs.Ytnmmcnblepadlaa
set_option linter.unusedSimpArgs false
set_option linter.unusedVariables false
open Go.RowKit

def GoodOk (r : Rec) : Prop := Good r ∧ ∀ n ∈ r.nums, i64ok n
/-- Of whatever record s begins with. -/
def Of (s : List UInt8) (f : Rec → List UInt8 → Prop) : Prop := ∀ r tl, GoodOk r → s = body r ++ tl → f r tl
theorem body_eq (r : Rec) (tl : List UInt8) : body r ++ tl = UInt8.ofNat r.kind.toNat :: UInt8.ofNat r.who.size :: (r.who.data.toList ++ (UInt8.ofNat r.nums.length :: (numsB r.nums ++ (UInt8.ofNat (r.text.size / 256) :: UInt8.ofNat (r.text.size % 256) :: (r.text.data.toList ++ tl))))) := by
  unfold body head tail; simp
theorem tk1 {b : UInt8} {M L : List UInt8} (h : L = b :: M) (ok : Bool) : tkL L ok 1 = ok := by subst h; unfold tkL; simp
theorem hd1 {n : Nat} {M L : List UInt8} (h : L = UInt8.ofNat n :: M) (hn : n < 256) : hdN L = n := by subst h; exact u8_lt hn
def t3 (r : Rec) (tl : List UInt8) : List UInt8 := UInt8.ofNat (r.text.size / 256) :: UInt8.ofNat (r.text.size % 256) :: (r.text.data.toList ++ tl)
def t2 (r : Rec) (tl : List UInt8) : List UInt8 := UInt8.ofNat r.nums.length :: (numsB r.nums ++ t3 r tl)
def F1 (c : Nat) (L : List UInt8) (ok : Bool) (r : Rec) (tl : List UInt8) : Prop := ok = true ∧ (c : Int) = r.kind ∧ L = UInt8.ofNat r.who.size :: (r.who.data.toList ++ t2 r tl)
theorem of1 (s : List UInt8) : Of s (F1 (hdN s) (s.drop 1) (tkL s true 1)) := by
  intro r tl hg e
  rw [body_eq] at e
  obtain ⟨⟨g1, g2, g3, g4, g5⟩, g6⟩ := hg
  exact ⟨tk1 e true, by rw [hd1 e (by omega)]; omega, by rw [e]; rfl⟩
def F2 (c d : Nat) (L : List UInt8) (ok : Bool) (r : Rec) (tl : List UInt8) : Prop := ok = true ∧ (c : Int) = r.kind ∧ d = r.who.size ∧ L = r.who.data.toList ++ t2 r tl
theorem of2 {s L : List UInt8} {c : Nat} {ok : Bool} (h : Of s (F1 c L ok)) : Of s (F2 c (hdN L) (L.drop 1) (tkL L ok 1)) := by
  intro r tl hg e
  obtain ⟨h1, h2, h3⟩ := h r tl hg e
  obtain ⟨⟨g1, g2, g3, g4, g5⟩, g6⟩ := hg
  exact ⟨by rw [tk1 h3]; exact h1, h2, hd1 h3 (by omega), by rw [h3]; rfl⟩
def F3 (c : Nat) (x : List UInt8) (L : List UInt8) (ok : Bool) (r : Rec) (tl : List UInt8) : Prop := ok = true ∧ (c : Int) = r.kind ∧ x = r.who.data.toList ∧ L = t2 r tl
theorem of3 {s L : List UInt8} {c d : Nat} {ok : Bool} (h : Of s (F2 c d L ok)) : Of s (F3 c (L.take d) (L.drop d) (tkL L ok d)) := by
  intro r tl hg e
  obtain ⟨h1, h2, rfl, h3⟩ := h r tl hg e
  have hl := size_data r.who
  refine ⟨?_, h2, ?_, ?_⟩
  · unfold tkL; rw [h1, h3, List.length_append]; simp
  · rw [h3, ← hl]; simp
  · rw [h3, ← hl]; simp
def F4 (c : Nat) (x : List UInt8) (n : Nat) (ys : List Int) (L : List UInt8) (ok : Bool) (r : Rec) (tl : List UInt8) : Prop := ok = true ∧ (c : Int) = r.kind ∧ x = r.who.data.toList ∧ ∃ k, k + n = r.nums.length ∧ ys = r.nums.take k ∧ L = numsB (r.nums.drop k) ++ t3 r tl
theorem of4 {s x L : List UInt8} {c : Nat} {ok : Bool} (h : Of s (F3 c x L ok)) : Of s (F4 c x (hdN L) [] (L.drop 1) (tkL L ok 1)) := by
  intro r tl hg e
  obtain ⟨h1, h2, h4, h3⟩ := h r tl hg e
  obtain ⟨⟨g1, g2, g3, g4, g5⟩, g6⟩ := hg
  exact ⟨by rw [tk1 h3]; exact h1, h2, h4, 0, by rw [hd1 h3 (by omega)]; omega, by simp, by rw [h3]; simp [t2]⟩
theorem of4s {s x L L' : List UInt8} {c n : Nat} {ok ok' : Bool} {ys : List Int} {v : Int} (h : Of s (F4 c x n ys L ok)) (hn : 0 < n) (hp : NumPost L ok v L' ok') : Of s (F4 c x (n - 1) (ys ++ [v]) L' ok') := by
  intro r tl hg e
  obtain ⟨h1, h2, h4, k, hk, rfl, h3⟩ := h r tl hg e
  have hkl : k < r.nums.length := by omega
  have hd : r.nums.drop k = r.nums[k] :: r.nums.drop (k + 1) := List.drop_eq_getElem_cons hkl
  rw [hd, numsB_cons, List.append_assoc] at h3
  obtain ⟨e1, e2, e3⟩ := hp.2.2 h1 _ _ (hg.2 _ (List.getElem_mem hkl)) h3
  exact ⟨e3, h2, h4, k + 1, by omega, by rw [List.take_succ_eq_append_getElem hkl, e1], e2⟩
def F5 (c : Nat) (x : List UInt8) (ys : List Int) (L : List UInt8) (ok : Bool) (r : Rec) (tl : List UInt8) : Prop := ok = true ∧ (c : Int) = r.kind ∧ x = r.who.data.toList ∧ ys = r.nums ∧ L = t3 r tl
theorem of5 {s x L : List UInt8} {c n : Nat} {ok : Bool} {ys : List Int} (h : Of s (F4 c x n ys L ok)) (hx : n = 0 ∨ ok = false) : Of s (F5 c x ys L ok) := by
  intro r tl hg e
  obtain ⟨h1, h2, h4, k, hk, rfl, h3⟩ := h r tl hg e
  rcases hx with rfl | hx
  · obtain rfl : k = r.nums.length := by omega
    exact ⟨h1, h2, h4, by simp, by rw [h3]; simp [numsB]⟩
  · rw [hx] at h1; cases h1
def F6 (c : Nat) (x : List UInt8) (ys : List Int) (a : Nat) (L : List UInt8) (ok : Bool) (r : Rec) (tl : List UInt8) : Prop := ok = true ∧ (c : Int) = r.kind ∧ x = r.who.data.toList ∧ ys = r.nums ∧ a = r.text.size / 256 ∧ L = UInt8.ofNat (r.text.size % 256) :: (r.text.data.toList ++ tl)
theorem of6 {s x L : List UInt8} {c : Nat} {ok : Bool} {ys : List Int} (h : Of s (F5 c x ys L ok)) : Of s (F6 c x ys (hdN L) (L.drop 1) (tkL L ok 1)) := by
  intro r tl hg e
  obtain ⟨h1, h2, h4, h5, h3⟩ := h r tl hg e
  obtain ⟨⟨g1, g2, g3, g4, g5⟩, g6⟩ := hg
  exact ⟨by rw [tk1 h3]; exact h1, h2, h4, h5, hd1 h3 (by omega), by rw [h3]; rfl⟩
def F7 (c : Nat) (x : List UInt8) (ys : List Int) (a : Nat) (L : List UInt8) (ok : Bool) (r : Rec) (tl : List UInt8) : Prop := ok = true ∧ (c : Int) = r.kind ∧ x = r.who.data.toList ∧ ys = r.nums ∧ a = r.text.size ∧ L = r.text.data.toList ++ tl
theorem of7 {s x L : List UInt8} {c a : Nat} {ok : Bool} {ys : List Int} (h : Of s (F6 c x ys a L ok)) : Of s (F7 c x ys (a * 256 + hdN L) (L.drop 1) (tkL L ok 1)) := by
  intro r tl hg e
  obtain ⟨h1, h2, h4, h5, h6, h3⟩ := h r tl hg e
  exact ⟨by rw [tk1 h3]; exact h1, h2, h4, h5, by rw [hd1 h3 (by omega), h6]; omega, by rw [h3]; rfl⟩
def F8 (c : Nat) (x : List UInt8) (ys : List Int) (z : List UInt8) (L : List UInt8) (ok : Bool) (r : Rec) (tl : List UInt8) : Prop := ok = true ∧ (c : Int) = r.kind ∧ x = r.who.data.toList ∧ ys = r.nums ∧ z = r.text.data.toList ∧ L = tl
theorem of8 {s x L : List UInt8} {c a : Nat} {ok : Bool} {ys : List Int} (h : Of s (F7 c x ys a L ok)) : Of s (F8 c x ys (L.take a) (L.drop a) (tkL L ok a)) := by
  intro r tl hg e
  obtain ⟨h1, h2, h4, h5, rfl, h3⟩ := h r tl hg e
  have hl := size_data r.text
  refine ⟨?_, h2, h4, h5, ?_, ?_⟩
  · unfold tkL; rw [h1, h3, List.length_append]; simp
  · rw [h3, ← hl]; simp
  · rw [h3, ← hl]; simp
/-- Of s that begins with a record: the reader has it. -/
theorem of9 {s x z L : List UInt8} {c : Nat} {ok : Bool} {ys : List Int} (h : Of s (F8 c x ys z L ok)) : Of s (fun r tl => ok = true ∧ (⟨(c : Int), mkS x, ys, mkS z⟩ : Rec) = r ∧ L = tl) := by
  intro r tl hg e
  obtain ⟨h1, h2, rfl, rfl, rfl, h3⟩ := h r tl hg e
  obtain ⟨kind, who, nums, text⟩ := r
  simp only at h2
  exact ⟨h1, by rw [h2, mkS_of, mkS_of], h3⟩
theorem ofNat_inj {a b : Nat} (h : UInt8.ofNat a = UInt8.ofNat b) (ha : a < 256) (hb : b < 256) : a = b := by
  have := congrArg UInt8.toNat h
  rwa [u8_lt ha, u8_lt hb] at this
theorem vb_inj (a b : Nat) (x y : List UInt8) (h : vb a ++ x = vb b ++ y) : a = b ∧ x = y := by
  induction a using Nat.strongRecOn generalizing b with
  | _ a ih =>
    by_cases ha : a < 128
    · rw [vb_lo ha] at h
      by_cases hb : b < 128
      · rw [vb_lo hb] at h
        simp only [List.cons_append, List.nil_append, List.cons.injEq] at h
        exact ⟨ofNat_inj h.1 (by omega) (by omega), h.2⟩
      · rw [vb_hi (by omega)] at h
        simp only [List.cons_append, List.nil_append, List.cons.injEq] at h
        have := ofNat_inj h.1 (by omega) (by omega)
        omega
    · rw [vb_hi (by omega)] at h
      by_cases hb : b < 128
      · rw [vb_lo hb] at h
        simp only [List.cons_append, List.nil_append, List.cons.injEq] at h
        have := ofNat_inj h.1 (by omega) (by omega)
        omega
      · rw [vb_hi (show 128 ≤ b by omega)] at h
        simp only [List.cons_append, List.cons.injEq] at h
        have h1 := ofNat_inj h.1 (by omega) (by omega)
        obtain ⟨h2, h3⟩ := ih (a / 128) (by omega) (b / 128) h.2
        exact ⟨by omega, h3⟩
theorem numsB_inj : ∀ (l m : List Int) (x y : List UInt8), l.length = m.length → numsB l ++ x = numsB m ++ y → l = m ∧ x = y
  | [], [], _, _, _, h => ⟨rfl, h⟩
  | a :: l, b :: m, x, y, hl, h => by
    rw [numsB_cons, numsB_cons, List.append_assoc, List.append_assoc] at h
    obtain ⟨h1, h2⟩ := vb_inj _ _ _ _ h
    obtain ⟨h3, h4⟩ := numsB_inj l m x y (by simpa using hl) h2
    exact ⟨by rw [zz_inj h1, h3], h4⟩
  | [], _ :: _, _, _, hl, _ => by cases hl
  | _ :: _, [], _, _, hl, _ => by cases hl
theorem body_inj {r r' : Rec} {x y : List UInt8} (hg : GoodOk r) (hg' : GoodOk r') (h : body r ++ x = body r' ++ y) : r = r' ∧ x = y := by
  rw [body_eq, body_eq] at h
  obtain ⟨⟨g1, g2, g3, g4, g5⟩, _⟩ := hg
  obtain ⟨⟨k1, k2, k3, k4, k5⟩, _⟩ := hg'
  obtain ⟨kind, who, nums, text⟩ := r
  obtain ⟨kind', who', nums', text'⟩ := r'
  simp only at *
  simp only [List.cons.injEq] at h
  obtain ⟨h1, h2, h⟩ := h
  have e1 := ofNat_inj h1 (by omega) (by omega)
  have e2 := ofNat_inj h2 (by omega) (by omega)
  have hk : kind = kind' := by omega
  obtain ⟨hw, h⟩ := List.append_inj h (by rw [size_data, size_data]; exact e2)
  simp only [List.cons.injEq] at h
  obtain ⟨h3, h⟩ := h
  obtain ⟨hn, h⟩ := numsB_inj _ _ _ _ (ofNat_inj h3 (by omega) (by omega)) h
  simp only [List.cons.injEq] at h
  obtain ⟨h4, h5, h⟩ := h
  have e4 := ofNat_inj h4 (by omega) (by omega)
  have e5 := ofNat_inj h5 (by omega) (by omega)
  obtain ⟨ht, h⟩ := List.append_inj h (by rw [size_data, size_data]; omega)
  exact ⟨by rw [hk, data_inj hw, hn, data_inj ht], h⟩
/-- s is one record's bytes, and what is behind. -/
def IsRec (s : List UInt8) (r : Rec) : Prop := GoodOk r ∧ ∃ tl, s = body r ++ tl
/-- Bytes begin with one record at most. -/
theorem IsRec.uniq {s : List UInt8} {r r' : Rec} (h : IsRec s r) (h' : IsRec s r') : r = r' := by
  obtain ⟨g, tl, e⟩ := h
  obtain ⟨g', tl', e'⟩ := h'
  exact (body_inj g g' (e.symm.trans e')).1
theorem body_len (r : Rec) : 5 ≤ (body r).length := by
  have := congrArg List.length (body_eq r [])
  simp only [List.append_nil, List.length_cons, List.length_append] at this
  omega
/-- A slice that reads as xs, in a block of element type E. -/
def SlT {α : Type} (enc : α → Value) (E : TypeId) (w : World) (v : Value) (xs : List α) : Prop :=
  ∃ A c, v = .slice A xs.length c ∧ xs.length ≤ c ∧ c ≤ maxLen ∧ ∀ i (h : i < xs.length), ∃ b o C fr, A = some ⟨b, o, none⟩ ∧ w.heap[b]? = some (.cells C E fr) ∧ w.cell? ⟨b, o + i, none⟩ = some (enc xs[i])
section
variable {α : Type} {enc : α → Value} {E : TypeId} {w w' : World} {v : Value} {xs : List α}
theorem SlT.sl (h : SlT enc E w v xs) : SlE enc w v xs := by
  obtain ⟨A, c, e, h1, h2, h3⟩ := h
  refine ⟨A, c, e, h1, h2, fun i hi => ?_⟩
  obtain ⟨b, o, C, fr, e, hl, hc⟩ := h3 i hi
  exact ⟨b, o, e, lt_of_block hl, hc⟩
theorem SlT.new (h : SlT enc E w v xs) (hb : New w w') : SlT enc E w' v xs := by
  obtain ⟨A, c, e, h1, h2, h3⟩ := h
  refine ⟨A, c, e, h1, h2, fun i hi => ?_⟩
  obtain ⟨b, o, C, fr, e, hl, hc⟩ := h3 i hi
  exact ⟨b, o, C, fr, e, hb.block hl, hb.still hc⟩
theorem SlT.kept (h : SlT enc E w v xs) {F : TypeId} (hk : Kept F w w') (hne : E ≠ F) : SlT enc E w' v xs := by
  obtain ⟨A, c, e, h1, h2, h3⟩ := h
  refine ⟨A, c, e, h1, h2, fun i hi => ?_⟩
  obtain ⟨b, o, C, fr, e, hl, hc⟩ := h3 i hi
  have hb := hk.2 b C E fr hl hne
  refine ⟨b, o, C, fr, e, hb, ?_⟩
  rw [← hc]
  exact World.cell?_of_block (hb.trans hl.symm)
theorem OwnE.slt {B : Nat} (h : OwnE enc E B w v xs) : SlT enc E w v xs := by
  by_cases h0 : xs = []
  · subst h0
    obtain ⟨A, c, e, h1, h2, _⟩ := h.sl
    exact ⟨A, c, e, h1, h2, fun i hi => by cases hi⟩
  · obtain ⟨g, c, rfl, h1, h2, _, ⟨cur, h3⟩, h4⟩ := h.at h0
    exact ⟨_, _, rfl, h1, h2, fun i hi => ⟨g, 0, cur, _, rfl, h3, by rw [Nat.zero_add, h4 i hi]⟩⟩
end
/-- A record as a value, its numbers in a block of numbers. -/
def RecT (w : World) (v : Value) (r : Rec) : Prop := ∃ u, v = .agg #[.int .i64 r.kind, .string r.who, u, .string r.text] ∧ SlT nE 3 w u r.nums ∧ ∀ n ∈ r.nums, i64ok n
theorem RecT.v {w : World} {v : Value} {r : Rec} (h : RecT w v r) : RecV w v r := by
  obtain ⟨u, e, hs, ho⟩ := h; exact ⟨u, e, hs.sl, ho⟩
theorem RecT.new {w w' : World} {v : Value} {r : Rec} (h : RecT w v r) (hn : New w w') : RecT w' v r := by
  obtain ⟨u, e, hs, ho⟩ := h; exact ⟨u, e, hs.new hn, ho⟩
/-- What a reader of one record hands back: the record, and how many bytes; or nothing. -/
def First (s : List UInt8) (w' : World) (v : Value) (n : Nat) : Prop :=
  (∃ r, IsRec s r ∧ n = (body r).length ∧ RecT w' v r) ∨ (n = 0 ∧ (∀ r, ¬ IsRec s r) ∧ ∃ k x A c l y, v = .agg #[.int .i64 k, .string x, .slice A l c, .string y])
theorem First.form {s : List UInt8} {w' : World} {v : Value} {n : Nat} (h : First s w' v n) : ∃ k x A l c y, v = .agg #[.int .i64 k, .string x, .slice A l c, .string y] := by
  rcases h with ⟨r, _, _, u, rfl, ⟨A, c, rfl, _⟩, _⟩ | ⟨_, _, k, x, A, c, l, y, rfl⟩
  · exact ⟨_, _, _, _, _, _, rfl⟩
  · exact ⟨_, _, _, _, _, _, rfl⟩
/-- What a decoder hands back: all records, and as many bytes as they have. -/
def Dec (s : List UInt8) (rs : List Rec) (n : Nat) : Prop := (∀ r ∈ rs, GoodOk r) ∧ s.take n = rs.flatMap body ∧ n ≤ s.length ∧ ∀ r, ¬ IsRec (s.drop n) r
theorem dec_uniq0 : ∀ (rs rs' : List Rec) (s tl tl' : List UInt8), (∀ r ∈ rs, GoodOk r) → (∀ r ∈ rs', GoodOk r) → s = rs.flatMap body ++ tl → s = rs'.flatMap body ++ tl' → (∀ r, ¬ IsRec tl r) → (∀ r, ¬ IsRec tl' r) → rs = rs' ∧ tl = tl'
  | [], [], s, tl, tl', _, _, e, e', _, _ => ⟨rfl, by simpa using e.symm.trans e'⟩
  | [], r :: rs', s, tl, tl', _, g', e, e', n, _ => by
    refine absurd ?_ (n r)
    have e1 : s = tl := by simpa using e
    exact ⟨g' r (List.mem_cons_self ..), rs'.flatMap body ++ tl', by rw [← e1, e']; simp⟩
  | r :: rs, [], s, tl, tl', g, _, e, e', _, n' => by
    refine absurd ?_ (n' r)
    have e1 : s = tl' := by simpa using e'
    exact ⟨g r (List.mem_cons_self ..), rs.flatMap body ++ tl, by rw [← e1, e]; simp⟩
  | r :: rs, r' :: rs', s, tl, tl', g, g', e, e', n, n' => by
    simp only [List.flatMap_cons, List.append_assoc] at e e'
    obtain ⟨h1, h2⟩ := body_inj (g r (List.mem_cons_self ..)) (g' r' (List.mem_cons_self ..)) (e.symm.trans e')
    obtain ⟨h3, h4⟩ := dec_uniq0 rs rs' _ tl tl' (fun x hx => g x (List.mem_cons_of_mem _ hx)) (fun x hx => g' x (List.mem_cons_of_mem _ hx)) rfl h2 n n'
    exact ⟨by rw [h1, h3], h4⟩
theorem Dec.split {s : List UInt8} {rs : List Rec} {n : Nat} (h : Dec s rs n) : s = rs.flatMap body ++ s.drop n := by
  rw [← h.2.1, List.take_append_drop]
theorem Dec.uniq {s : List UInt8} {rs rs' : List Rec} {n n' : Nat} (h : Dec s rs n) (h' : Dec s rs' n') : rs = rs' ∧ n = n' := by
  obtain ⟨h1, h2⟩ := dec_uniq0 rs rs' s _ _ h.1 h'.1 h.split h'.split h.2.2.2 h'.2.2.2
  have h3 := congrArg List.length h2
  rw [List.length_drop, List.length_drop] at h3
  have := h.2.2.1; have := h'.2.2.1
  exact ⟨h1, by omega⟩
theorem Dec.len {s : List UInt8} {rs : List Rec} {n : Nat} (h : Dec s rs n) : (rs.flatMap body).length = n := by
  rw [← h.2.1, List.length_take]; have := h.2.2.1; omega
theorem flat_len (rs : List Rec) : 5 * rs.length ≤ (rs.flatMap body).length := by
  induction rs with
  | nil => simp
  | cons r rs ih => rw [List.flatMap_cons, List.length_append, List.length_cons]; have := body_len r; omega
/-- How a decoder goes on. -/
def DecTo (s : List UInt8) (rs : List Rec) (n : Nat) : Prop := (∀ r ∈ rs, GoodOk r) ∧ s.take n = rs.flatMap body ∧ n ≤ s.length
theorem DecTo.start (s : List UInt8) : DecTo s [] 0 := ⟨fun r hr => absurd hr List.not_mem_nil, by simp, Nat.zero_le _⟩
theorem DecTo.step {s : List UInt8} {rs : List Rec} {n : Nat} {r : Rec} (h : DecTo s rs n) (hr : IsRec (s.drop n) r) : DecTo s (rs ++ [r]) (n + (body r).length) := by
  obtain ⟨h1, h2, h3⟩ := h
  obtain ⟨hg, tl, e⟩ := hr
  have hl := congrArg List.length e
  rw [List.length_drop, List.length_append] at hl
  refine ⟨fun x hx => ?_, ?_, by omega⟩
  · rcases List.mem_append.1 hx with hx | hx
    · exact h1 x hx
    · rw [List.mem_singleton.1 hx]; exact hg
  · rw [List.take_add, h2, e]; simp
theorem DecTo.stop {s : List UInt8} {rs : List Rec} {n : Nat} (h : DecTo s rs n) (hn : ∀ r, ¬ IsRec (s.drop n) r) : Dec s rs n := ⟨h.1, h.2.1, h.2.2, hn⟩
theorem DecTo.len {s : List UInt8} {rs : List Rec} {n : Nat} (h : DecTo s rs n) : 5 * rs.length ≤ n := by
  have h1 := flat_len rs
  rw [← h.2.1, List.length_take] at h1
  omega
end Go.Proofs.Ytnmmcnblepadlaa
