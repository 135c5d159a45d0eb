/- The law RecordDecodes, walked. -/
import Derived.Test.YtnmmcnblepadlaaD8
namespace Go.Proofs.Ytnmmcnblepadlaa
set_option linter.unusedSimpArgs false
set_option linter.unusedVariables false
open Go.RowKit

set_option maxHeartbeats 2000000 in
theorem recordDecodes_walk (s : ByteArray) (w : World) :
    Calls Try.prog 6 #[.string s] w fun e w' => e = .returned (.bool true) ∧ New w w' := by
  by_cases hl : s.size ≤ 131072
  · have H1 := Lib.hid (fun W => decode_c s W (by omega))
    have H2 := Lib.hid (fun W => rdecode_c s W (by omega))
    go_enter Try.func6, Try.ntmps6
    go_wp2_with fail
    refine (H1.out _).mono ?_
    rintro e w1 ⟨v1, n1, rs1, rfl, hs1, hd1, hn1⟩
    obtain ⟨A1, c1, rfl⟩ := hs1.form
    have HS1 := Lib.hid hs1
    have HD1 := Lib.hid hd1
    have HN1 := Lib.hid hn1
    clear hs1 hd1 hn1
    go_wp2_with fail
    refine (H2.out _).mono ?_
    rintro e w2 ⟨v2, n2, rs2, rfl, hs2, hd2, hn2⟩
    obtain ⟨he1, he2⟩ := HD1.out.uniq hd2
    subst he1
    subst he2
    obtain ⟨A2, c2, rfl⟩ := hs2.form
    have HC := Lib.hid (same_c rs1 _ _ w2 (HS1.out.new hn2) hs2)
    have HN2 := Lib.hid (HN1.out.trans hn2)
    clear hs2 hd2 hn2
    go_wp2_with fail
    refine HC.out.mono ?_
    rintro e w3 ⟨rfl, hn3⟩
    go_wp2
    go_ret
    exact ⟨rfl, HN2.out.trans hn3⟩
  · go_enter Try.func6, Try.ntmps6
    go_wp2
    go_ret
    exact ⟨rfl, New.refl _⟩
end Go.Proofs.Ytnmmcnblepadlaa
