/- The laws of 02: texts and orders whose answers are named; the reference's. -/
import Derived.Test.YtkjlmibleoecgaaGreatDoorLw
import Derived.Test.YtkjlmibleoecgaaGreatDoorRZ1
namespace Go.Proofs.YtkjlmibleoecgaaGreatDoor
set_option linter.unusedSimpArgs false
set_option linter.unusedVariables false
open Go.RowKit
section
variable {w : World} {u v : Value} {z y : Int} {k j : Nat}
theorem text_nw (s : ByteArray) (hz : NumB w v z k) (hk : k ≤ 100000) (L : Lib.TabIs Tryz.prog w "internal/strconv.uint64pow10" .u64 Lib.pow10Tab) (hs : numS z = s) :
    Calls Tryz.prog 27 #[v] w fun e w' => e = .returned (.string s) ∧ New w w' := hs ▸ text_n hz hk L
theorem rtext_nw (s : ByteArray) (hz : RNumB w v z k) (hk : k ≤ 100000) (hs : numS z = s) :
    Calls Tryz.prog 29 #[v] w fun e w' => e = .returned (.string s) ∧ New w w' := hs ▸ rtext_n hz hk
theorem cmp_v (s : Int) (hz : NumB w u z k) (hy : NumB w v y j) (hk : k ≤ 100000) (hj : j ≤ 100000) (hs : cmpZ z y = s) :
    Calls Tryz.prog 34 #[u, v] w fun e w' => e = .returned (.int .i64 s) ∧ New w w' := hs ▸ cmp_n hz hy hk hj
theorem rcmp_v (s : Int) (hz : RNumB w u z k) (hy : RNumB w v y j) (hk : k ≤ 40000) (hj : j ≤ 40000) (hs : cmpZ z y = s) :
    Calls Tryz.prog 35 #[u, v] w fun e w' => e = .returned (.int .i64 s) ∧ New w w' := hs ▸ rcmp_n hz hy hk hj
theorem sign_w (s : Int) (hz : NumB w v z k) (hk : k ≤ 100000) (hs : sgZ z = s) :
    Calls Tryz.prog 36 #[v] w fun e w' => e = .returned (.int .i64 s) ∧ New w w' := hs ▸ sign_n hz hk
theorem rsign_w (s : Int) (hz : RNumB w v z k) (hs : sgZ z = s) :
    Calls Tryz.prog 43 #[v] w fun e w' => e = .returned (.int .i64 s) ∧ New w w' := hs ▸ rsign_n hz
end
end Go.Proofs.YtkjlmibleoecgaaGreatDoor
