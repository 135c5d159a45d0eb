/- The sum of any text of at most 65536 bytes is the document's, and goes on byte by byte: no condition beyond the row's own bounds. -/
import Derived.Test.YtmcmhlbbclnomaaPWalSumsx1
namespace Go.Proofs.Ytmcmhlbbclnomaa.Pure
open Go.RowKit Go.Proofs.Ytmcmhlbbclnomaa.PWalSums Go.Proofs.YtmcmhlbbclnomaaW.PrintWords Go.Proofs.YtmcmhlbbclnomaaW.PrintLast

/-- One byte more. -/
def one (n b : Int) : Int := ((Go.bits .xor .u32 n (b % 4294967296)) * 16777619) % 4294967296
/-- All bytes of a list. -/
def all (l : List Int) (n : Int) : Int := l.foldl one n
theorem drop_at {s : ByteArray} {i : Nat} (h : i < s.size) : (bytesOf s).drop i = bt s i :: (bytesOf s).drop (i + 1) := by
  have hl : i < (bytesOf s).length := by rw [bytesOf_length]; exact h
  rw [List.drop_eq_getElem_cons hl, ← rd_bytesOf]
  simp [rd, List.getD_eq_getElem?_getD, List.getElem?_eq_getElem hl]
theorem ours (s : ByteArray) (hs : s.size ≤ 140737488351232) (d : Nat) : ∀ (i : Nat) (n : Int), i + d = s.size → Ev (fun k => wal_Sum.l0 k s n (s.size : Int) (i : Int)) (all ((bytesOf s).drop i) n) := by
  induction d with
  | zero =>
    intro i n h
    refine Ev.step (f := fun _ => some n) (fun k => ?_) ?_
    · simp only [wal_Sum.l0]; rw [if_neg (by omega)]
    · rw [List.drop_of_length_le (by rw [bytesOf_length]; omega)]; exact Ev.now _
  | succ d ih =>
    intro i n h
    refine Ev.step (f := fun k => wal_Sum.l0 k s (one n (bt s i)) (s.size : Int) ((i + 1 : Nat) : Int)) (fun k => ?_) ?_
    · simp only [wal_Sum.l0]; rw [if_pos (by omega), if_pos (by omega), if_pos (by omega)]
      have e : wrap64 ((i : Int) + 1) = ((i + 1 : Nat) : Int) := by unfold wrap64; omega
      rw [e]; rfl
    · rw [drop_at (by omega)]; exact ih (i + 1) _ (by omega)
theorem theirs (s : ByteArray) (hs : s.size ≤ 140737488351232) (d : Nat) : ∀ (i : Nat) (n : Int), i + d = s.size → Ev (fun k => noonbellref05_Sum.l0 k s n (i : Int)) (all ((bytesOf s).drop i) n) := by
  induction d with
  | zero =>
    intro i n h
    refine Ev.step (f := fun _ => some n) (fun k => ?_) ?_
    · simp only [noonbellref05_Sum.l0]; rw [if_neg (by omega)]
    · rw [List.drop_of_length_le (by rw [bytesOf_length]; omega)]; exact Ev.now _
  | succ d ih =>
    intro i n h
    refine Ev.step (f := fun k => noonbellref05_Sum.l0 k s (one n (bt s i)) ((i + 1 : Nat) : Int)) (fun k => ?_) ?_
    · simp only [noonbellref05_Sum.l0]; rw [if_pos (by omega), if_pos (by omega)]
      have e : wrap64 ((i : Int) + 1) = ((i + 1 : Nat) : Int) := by unfold wrap64; omega
      rw [e]; rfl
    · rw [drop_at (by omega)]; exact ih (i + 1) _ (by omega)
theorem sum_ev (s : ByteArray) (hs : s.size ≤ 140737488351232) : Ev (fun k => wal_Sum.f k s) (all (bytesOf s) 2166136261) := ours s hs s.size 0 _ (by omega)
theorem ref_ev (s : ByteArray) (hs : s.size ≤ 140737488351232) : Ev (fun k => noonbellref05_Sum.f k s) (all (bytesOf s) 2166136261) := theirs s hs s.size 0 _ (by omega)

theorem WalSums : noonbelllaw05_WalSums.Pure := by
  intro s c hs hc
  have hc' : 0 ≤ c ∧ c < 256 := by simp [Lit.wf, IntKind.min, IntKind.max, IntKind.signed, IntKind.bits] at hc; omega
  refine Ev.rounds (r := true) ?_
  unfold noonbelllaw05_WalSums.f
  by_cases h : (s.size : Int) > 65536
  · simp only [if_pos h]; exact Ev.now _
  · simp only [if_neg h, Option.bind_some]
    have hz : (strOfNums [c]).size = 1 := rfl
    have hb : bytesOf (s ++ strOfNums [c]) = bytesOf s ++ [c] := by
      simp [bytesOf, strOfNums, ByteArray.data_append]
      omega
    simp only [if_pos (show s.size + (strOfNums [c]).size ≤ 9223372036854775807 by omega)]
    refine Ev.bind (sum_ev s hs) (Ev.bind (sum_ev s hs) (Ev.bind (ref_ev s hs) ?_))
    simp only [if_true]
    refine Ev.bind (sum_ev _ (by rw [ByteArray.size_append]; omega)) ?_
    rw [hb]
    have e : all (bytesOf s ++ [c]) 2166136261 = one (all (bytesOf s) 2166136261) c := by simp [all]
    rw [e, show one (all (bytesOf s) 2166136261) c = ((Go.bits .xor .u32 (all (bytesOf s) 2166136261) (c % 4294967296)) * 16777619) % 4294967296 from rfl, beq_self_eq_true]
    exact Ev.now _

end Go.Proofs.Ytmcmhlbbclnomaa.Pure
