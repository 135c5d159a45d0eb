/- A number's text: the program's Number, walked. -/
import Derived.Test.YteopdmifgdcghaaDoorX1
import Derived.Test.YteopdmifgdcghaaDoorX2
import Derived.Lib.AtoiAllCases
import Derived.Lib.AppendIntMem
import Derived.Lib.SmallJoins
import Derived.Lib.SlicesS
namespace Go.Proofs.YteopdmifgdcghaaDoor
set_option linter.unusedSimpArgs false
set_option linter.unusedVariables false
open Go.RowKit
def numV (s : ByteArray) : Int := (refN s.data.toList).getD 0
def numE (s : ByteArray) : Int := if (refN s.data.toList).isSome then 0 else 81
def NPost (s : ByteArray) (w : World) (e : Ending) (w' : World) : Prop := e = .returned (.tuple #[.int .i64 (numV s), .int .i64 (numE s)]) ∧ New w w'
theorem NPost.bad {s : ByteArray} {w w' : World} (h : refN s.data.toList = none) (hn : New w w') : NPost s w (.returned (.tuple #[.int .i64 0, .int .i64 81])) w' :=
  ⟨by unfold numV numE; rw [h]; rfl, hn⟩
theorem NPost.good {s : ByteArray} {w w' : World} {n : Int} (h : refN s.data.toList = some n) (hn : New w w') : NPost s w (.returned (.tuple #[.int .i64 n, .int .i64 0])) w' :=
  ⟨by unfold numV numE; rw [h]; rfl, hn⟩
theorem mk_itoa {s : ByteArray} {n : Int} (h : Lib.itoa n = s.data.toList) : (⟨(Lib.itoa n).toArray⟩ : ByteArray) = s := by
  apply data_inj
  exact h
/-- Atoi, in each of its ways. -/
theorem atoi_c (s : ByteArray) (w : World) (hs : s.size ≤ 65536) (L : Laid w) :
    (∃ n, Lib.atoiAll s.data.toList = .ok n ∧ Calls Tryd.prog 26 #[.string s] w fun e w' => e = .returned (.tuple #[.int .i64 n, .nilIface]) ∧ New w w') ∨
    ((∀ n, Lib.atoiAll s.data.toList ≠ .ok n) ∧ ∃ x, Calls Tryd.prog 26 #[.string s] w fun e w' => (∃ N, e = .returned (.tuple #[.int .i64 x, .iface 61 (.pointer (some ⟨N, 0, none⟩))])) ∧ New w w') := by
  obtain ⟨te, pe, hs0⟩ := L.syn
  obtain ⟨tr, pr, hr0⟩ := L.rng
  cases h : Lib.atoiAll s.data.toList with
  | ok n =>
    refine .inl ⟨n, rfl, (Tryd.strconv_Atoi_ok s (by omega) n h w).mono fun e w' hh => ⟨hh.1, ?_⟩⟩
    rcases hh.2 with rfl | ⟨t, rfl⟩
    · exact New.refl _
    · exact Go.Joins.below_bytesWorld _ _ _ _ (Nat.le_refl _)
  | «syntax» =>
    refine .inr ⟨fun n hn => (by cases hn), 0, (Tryd.strconv_Atoi_syntax s (by omega) h _ w hs0 (.inr ⟨_, _, rfl⟩)).mono fun e w' hh => ?_⟩
    obtain ⟨N, h1, _, _, h4⟩ := hh
    exact ⟨⟨N, h1⟩, h4⟩
  | range =>
    refine .inr ⟨fun n hn => (by cases hn), Lib.atoiSat s.data.toList, (Tryd.strconv_Atoi_range s (by omega) h _ w hr0 (.inr ⟨_, _, rfl⟩)).mono fun e w' hh => ?_⟩
    obtain ⟨N, h1, _, _, h4⟩ := hh
    exact ⟨⟨N, h1⟩, h4⟩
theorem itoa_c (n : Int) (w : World) (h0 : -1000000000 ≤ n) (h1 : n ≤ 1000000000) (L : Laid w) : Calls Tryd.prog 27 #[.int .i64 n] w fun e w' => e = .returned (.string ⟨(Lib.itoa n).toArray⟩) ∧ New w w' :=
  (Tryd.strconv_Itoa n (by omega) (by omega) w L.tab).mono fun e w' hh => by
    obtain ⟨h1, k, os, rfl⟩ := hh
    exact ⟨h1, Lib.below_grow _ _ (Nat.le_refl _) _ _⟩
set_option maxRecDepth 100000 in
set_option maxHeartbeats 2000000 in
theorem number_c (s : ByteArray) (w : World) (hs : s.size ≤ 65536) (L : Laid w) : Calls Tryd.prog 14 #[.string s] w (NPost s w) := by
  have HL := Lib.hid L
  rcases atoi_c s w hs L with ⟨n, hn, hc⟩ | ⟨hno, x, hc⟩
  · have HC := Lib.hid hc
    rcases prog_num s.data.toList with ⟨m, h1, h2, h3, h4, h5⟩ | ⟨h1, h2⟩
    · obtain rfl : n = m := by rw [hn] at h1; injection h1
      have HR := Lib.hid h5
      have HI := Lib.hid (mk_itoa h4)
      have HIT := Lib.hid (fun W L => itoa_c n W h2 h3 L)
      rw [HI.out] at HIT
      clear hc h1 h4 h5 hn L hs
      go_enter Tryd.func14, Tryd.ntmps14
      go_wp2_with fail
      refine HC.out.mono ?_
      rintro e w1 ⟨rfl, hn⟩
      have HN := Lib.hid hn
      have HT := Lib.hid (HIT.out w1 (HL.out.new hn))
      clear hn HIT
      go_wp2_with fail
      refine HT.out.mono ?_
      rintro e w2 ⟨rfl, hn⟩
      have HN2 := Lib.hid (HN.out.trans hn)
      clear hn
      go_wp2
      go_ret2
      exact NPost.good HR.out HN2.out
    · have HR := Lib.hid h2
      have hw := h1 n hn
      by_cases c1 : n < -1000000000
      · clear hc h1 h2 hn L hs hw
        go_enter Tryd.func14, Tryd.ntmps14
        go_wp2_with fail
        refine HC.out.mono ?_
        rintro e w1 ⟨rfl, hn⟩
        have HN := Lib.hid hn
        clear hn
        go_wp2
        go_ret2
        exact NPost.bad HR.out HN.out
      by_cases c2 : 1000000000 < n
      · have c1' : -1000000000 ≤ n := by omega
        clear hc h1 h2 hn L hs hw c1
        go_enter Tryd.func14, Tryd.ntmps14
        go_wp2_with fail
        refine HC.out.mono ?_
        rintro e w1 ⟨rfl, hn⟩
        have HN := Lib.hid hn
        clear hn
        go_wp2
        go_ret2
        exact NPost.bad HR.out HN.out
      · have hne : Lib.itoa n ≠ s.data.toList := by
          rcases hw with h | h | h
          · omega
          · omega
          · exact h
        have hbe : ((⟨(Lib.itoa n).toArray⟩ : ByteArray).toList == s.toList) = false := (Lib.bytes_beq_false_iff _ _).2 fun e => hne (by rw [← e])
        have c1' : -1000000000 ≤ n := by omega
        have c2' : n ≤ 1000000000 := by omega
        have HIT := Lib.hid (fun W L => itoa_c n W c1' c2' L)
        generalize (⟨(Lib.itoa n).toArray⟩ : ByteArray) = J at *
        clear hc h1 h2 hn L hs hw c1 c2 hne
        go_enter Tryd.func14, Tryd.ntmps14
        go_wp2_with fail
        refine HC.out.mono ?_
        rintro e w1 ⟨rfl, hn⟩
        have HN := Lib.hid hn
        have HT := Lib.hid (HIT.out w1 (HL.out.new hn))
        clear hn HIT
        go_wp2_with fail
        refine HT.out.mono ?_
        rintro e w2 ⟨rfl, hn⟩
        have HN2 := Lib.hid (HN.out.trans hn)
        clear hn
        go_wp2
        go_ret2
        exact NPost.bad HR.out HN2.out
  · have HC := Lib.hid hc
    have hnone : refN s.data.toList = none := by
      rcases prog_num s.data.toList with ⟨m, h1, _⟩ | ⟨h1, h2⟩
      · exact absurd h1 (hno m)
      · exact h2
    have HR := Lib.hid hnone
    clear hc hno hnone L hs
    go_enter Tryd.func14, Tryd.ntmps14
    go_wp2_with fail
    refine HC.out.mono ?_
    rintro e w1 ⟨⟨N, rfl⟩, hn⟩
    have HN := Lib.hid hn
    clear hn
    go_wp2
    go_ret2
    exact NPost.bad HR.out HN.out
end Go.Proofs.YteopdmifgdcghaaDoor
