/- Words of a text, in plain words. -/
import Derived.Test.YteopdmifgdcghaaDoorU2
import Derived.Lib.SplitLaws
namespace Go.Proofs.YteopdmifgdcghaaDoor
set_option linter.unusedSimpArgs false
set_option linter.unusedVariables false
/-- A row of bytes, cut at each c. -/
def splitL (c : UInt8) : List UInt8 → List (List UInt8)
  | [] => [[]]
  | b :: r => if b = c then [] :: splitL c r else match splitL c r with
    | p :: ps => (b :: p) :: ps
    | [] => [[b]]
theorem splitL_ne (c : UInt8) (l : List UInt8) : ∃ p ps, splitL c l = p :: ps := by
  cases l with
  | nil => exact ⟨[], [], rfl⟩
  | cons b r =>
    unfold splitL
    split
    · exact ⟨_, _, rfl⟩
    · split <;> exact ⟨_, _, rfl⟩
theorem splitL_sep (c : UInt8) (r : List UInt8) : splitL c (c :: r) = [] :: splitL c r := by
  conv => lhs; unfold splitL
  rw [if_pos rfl]
theorem splitL_other {b c : UInt8} (h : b ≠ c) (r : List UInt8) {p : List UInt8} {ps : List (List UInt8)} (e : splitL c r = p :: ps) : splitL c (b :: r) = (b :: p) :: ps := by
  conv => lhs; unfold splitL
  rw [if_neg h, e]
theorem splitL_pre (c : UInt8) : ∀ (p : List UInt8) (r : List UInt8), c ∉ p → splitL c (p ++ c :: r) = p :: splitL c r
  | [], r, _ => splitL_sep c r
  | b :: p, r, h => by
    have h1 : b ≠ c := fun e => h (by rw [e]; simp)
    have h2 := splitL_pre c p r (fun e => h (List.mem_cons_of_mem _ e))
    exact splitL_other h1 _ h2
theorem splitL_last (c : UInt8) : ∀ (p : List UInt8), c ∉ p → splitL c p = [p]
  | [], _ => rfl
  | b :: p, h => by
    have h1 : b ≠ c := fun e => h (by rw [e]; simp)
    exact splitL_other h1 _ (splitL_last c p (fun e => h (List.mem_cons_of_mem _ e)))
theorem index_cons_ne {b c : UInt8} (h : b ≠ c) (r : List UInt8) : Lib.index (b :: r) [c] = if Lib.index r [c] = -1 then -1 else Lib.index r [c] + 1 := by
  conv => lhs; unfold Lib.index
  have : ([c].isPrefixOf (b :: r)) = false := by simp [List.isPrefixOf, Ne.symm h]
  rw [this]
  simp
theorem index_cons_eq (c : UInt8) (r : List UInt8) : Lib.index (c :: r) [c] = 0 := by
  conv => lhs; unfold Lib.index
  simp [List.isPrefixOf]
theorem splitK_eq (c : UInt8) : ∀ s : List UInt8, Lib.splitK [c] 0 (Lib.count s [c]) s = splitL c s
  | [] => rfl
  | b :: r => by
    have ih := splitK_eq c r
    by_cases hb : b = c
    · subst hb
      rw [Lib.count_cons_eq, splitL_sep, Nat.add_comm, Lib.splitK, index_cons_eq]
      simp [ih]
    · rw [Lib.count_cons_ne b c r hb]
      cases hk : Lib.count r [c] with
      | zero =>
        rw [hk] at ih
        exact (splitL_other hb r (by rw [← ih]; rfl)).symm
      | succ k =>
        rw [hk] at ih
        by_cases hi : Lib.index r [c] = -1
        · rw [Lib.count_miss hi] at hk; cases hk
        · have hge := Lib.index_ge r [c]
          obtain ⟨i, hi2⟩ : ∃ i : Nat, Lib.index r [c] = i := ⟨(Lib.index r [c]).toNat, by omega⟩
          rw [Lib.splitK, hi2] at ih
          have hm : ¬ (((i : Nat) : Int) == -1) = true := by rw [beq_iff_eq]; omega
          rw [if_neg hm] at ih
          rw [Lib.splitK, index_cons_ne hb, if_neg hi, hi2]
          have hm2 : ¬ (((i : Nat) : Int) + 1 == -1) = true := by rw [beq_iff_eq]; omega
          rw [if_neg hm2]
          have e1 : (((i : Nat) : Int) + 1).toNat = i + 1 := by omega
          have e2 : (((i : Nat) : Int)).toNat = i := by omega
          rw [e1]
          rw [e2] at ih
          refine Eq.trans ?_ (splitL_other hb r ih.symm).symm
          simp
/-- A text's parts between blanks. -/
def parts (s : ByteArray) : List ByteArray := (splitL 32 s.data.toList).map fun l => ⟨l.toArray⟩
def blank : ByteArray := ⟨#[32]⟩
theorem splitB_parts (s : ByteArray) : Lib.splitB blank 0 (Lib.countB s blank) s = parts s := by
  have h := Lib.splitB_data blank 0 (Lib.countB s blank) s
  have e : Lib.splitK blank.data.toList 0 (Lib.countB s blank) s.data.toList = splitL 32 s.data.toList := splitK_eq 32 s.data.toList
  rw [e] at h
  unfold parts
  rw [← h, List.map_map]
  conv => lhs; rw [← List.map_id (Lib.splitB blank 0 (Lib.countB s blank) s)]
  apply List.map_congr_left
  intro a _
  cases a
  rfl
theorem count_parts (s : ByteArray) : (parts s).length = Lib.countB s blank + 1 := by
  rw [← splitB_parts]
  exact Lib.splitB_all blank (by decide) 0 _ s rfl
/-- May each rune be there? -/
def okR (s : ByteArray) : Bool := (runes s).all fun r => decide (kindN (r : Int) ≠ 0)
/-- Is a part none? -/
def hasE (s : ByteArray) : Bool := (splitL 32 s.data.toList).any fun l => l.isEmpty
theorem hasE_iff (s : ByteArray) : hasE s = true ↔ (⟨#[]⟩ : ByteArray) ∈ parts s := by
  unfold hasE parts
  rw [List.any_eq_true, List.mem_map]
  constructor
  · rintro ⟨l, h1, h2⟩
    refine ⟨l, h1, ?_⟩
    rw [List.isEmpty_iff.1 h2]
  · rintro ⟨l, h1, h2⟩
    refine ⟨l, h1, ?_⟩
    have := congrArg (fun b : ByteArray => b.data.toList) h2
    rw [List.isEmpty_iff]
    simpa using this
def wordsE (s : ByteArray) : Int := if 200 < s.size then 41 else if okR s = false then 80 else if hasE s = true then 81 else if 16 < (parts s).length then 82 else 0
def wordsL (s : ByteArray) : List ByteArray := if wordsE s = 0 then parts s else []
/-- A row joined again. -/
def joinL (c : UInt8) : List (List UInt8) → List UInt8
  | [] => []
  | [p] => p
  | p :: q :: ps => p ++ c :: joinL c (q :: ps)
theorem joinL_cons (c : UInt8) (p : List UInt8) {ps : List (List UInt8)} (h : ps ≠ []) : joinL c (p :: ps) = p ++ c :: joinL c ps := by
  cases ps with
  | nil => exact absurd rfl h
  | cons q ps => rfl
theorem join_split (c : UInt8) : ∀ s : List UInt8, joinL c (splitL c s) = s
  | [] => rfl
  | b :: r => by
    have ih := join_split c r
    obtain ⟨p, ps, e⟩ := splitL_ne c r
    by_cases hb : b = c
    · subst hb
      rw [splitL_sep, joinL_cons _ _ (by rw [e]; simp), ih]
      rfl
    · rw [splitL_other hb r e]
      rw [e] at ih
      cases ps with
      | nil => show b :: p = b :: r; rw [← ih]; rfl
      | cons q qs =>
        rw [joinL_cons _ _ (by simp)] at ih ⊢
        rw [List.cons_append, ih]
/-- Of rows without c what is joined comes apart as it was. -/
theorem split_join (c : UInt8) : ∀ ps : List (List UInt8), ps ≠ [] → (∀ p ∈ ps, c ∉ p) → splitL c (joinL c ps) = ps
  | [], h, _ => absurd rfl h
  | [p], _, hp => splitL_last c p (hp p (by simp))
  | p :: q :: ps, _, hp => by
    have ih := split_join c (q :: ps) (by simp) (fun x hx => hp x (List.mem_cons_of_mem _ hx))
    rw [joinL_cons _ _ (by simp), splitL_pre c p _ (hp p (by simp)), ih]
theorem split_append (c : UInt8) : ∀ (p r : List UInt8), (splitL c (p ++ c :: r)).length = (splitL c p).length + (splitL c r).length
  | [], r => by rw [List.nil_append, splitL_sep]; show (splitL c r).length + 1 = 1 + _; omega
  | b :: p, r => by
    have ih := split_append c p r
    obtain ⟨x, xs, ex⟩ := splitL_ne c p
    obtain ⟨y, ys, ey⟩ := splitL_ne c (p ++ c :: r)
    by_cases hb : b = c
    · subst hb
      rw [List.cons_append, splitL_sep, splitL_sep, List.length_cons, List.length_cons, ih]; omega
    · rw [List.cons_append, splitL_other hb _ ey, splitL_other hb _ ex]
      rw [ex, ey] at ih
      simp only [List.length_cons] at ih ⊢
      exact ih
theorem split_one_pos (c : UInt8) (p : List UInt8) : 1 ≤ (splitL c p).length := by
  obtain ⟨x, xs, e⟩ := splitL_ne c p
  rw [e]; simp
theorem split_one (c : UInt8) : ∀ (p : List UInt8), (splitL c p).length = 1 → c ∉ p
  | [], _ => by simp
  | b :: p, h => by
    by_cases hb : b = c
    · subst hb
      rw [splitL_sep] at h
      have := split_one_pos b p
      rw [List.length_cons] at h; omega
    · obtain ⟨x, xs, e⟩ := splitL_ne c p
      rw [splitL_other hb _ e] at h
      have := split_one c p (by rw [e]; simpa using h)
      simp [this, Ne.symm hb]
/-- As many parts as words: no word has a blank. -/
theorem join_count (c : UInt8) : ∀ ps : List (List UInt8), ps ≠ [] → ps.length ≤ (splitL c (joinL c ps)).length ∧ ((splitL c (joinL c ps)).length = ps.length → ∀ p ∈ ps, c ∉ p)
  | [], h => absurd rfl h
  | [p], _ => ⟨split_one_pos c p, fun h x hx => by rw [List.mem_singleton.1 hx]; exact split_one c p h⟩
  | p :: q :: ps, _ => by
    obtain ⟨h1, h2⟩ := join_count c (q :: ps) (by simp)
    have hp := split_one_pos c p
    rw [joinL_cons _ _ (by simp), split_append]
    refine ⟨by simp only [List.length_cons] at h1 ⊢; omega, fun h x hx => ?_⟩
    have e1 : (splitL c p).length = 1 := by simp only [List.length_cons] at h h1; omega
    have e2 : (splitL c (joinL c (q :: ps))).length = (q :: ps).length := by simp only [List.length_cons] at h h1 ⊢; omega
    rcases List.mem_cons.1 hx with rfl | hx
    · exact split_one c x e1
    · exact h2 e2 x hx
end Go.Proofs.YteopdmifgdcghaaDoor
