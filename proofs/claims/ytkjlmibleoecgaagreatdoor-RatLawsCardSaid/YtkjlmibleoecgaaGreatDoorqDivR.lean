/- DivMod, walked: one digit, over a frame of letters. (Printed by mkdiv3r.py.) -/
import Derived.Test.YtkjlmibleoecgaaGreatDoorM1
import Derived.Test.YtkjlmibleoecgaaGreatDoorM0
import Derived.Deep.RegionHeld3
import Derived.Deep.CutBlock
import Derived.WalkMore
import Derived.Deep.DeepCutAuto
import Derived.StillTailTactics
import Derived.Deep.RegionLaw
namespace Go.Proofs.YtkjlmibleoecgaaGreatDoor
set_option linter.unusedSimpArgs false
set_option linter.unusedVariables false
open Go.RowKit
/-- A block of a function's text. -/
def findBlock (k : Nat) : Code → Option Code
  | .block i c => if i == k then some (.block i c) else findBlock k c
  | .seq a b => match findBlock k a with
    | some c => some c
    | none => findBlock k b
  | .cond _ a b => match findBlock k a with
    | some c => some c
    | none => findBlock k b
  | .loop c => findBlock k c
  | .scope c => findBlock k c
  | _ => none
theorem round_any {P : Program} {c : Code} {K : Act → World → Prop} {Q : Exit → Act → World → Prop} {a : Act} {w : World} (h : Code.wp P c (Exit.then K (fun _ _ _ => False)) a w) : Code.wp P c (Exit.then K Q) a w :=
  Code.wp_mono (fun e a w h => by cases e <;> first | exact h | exact h.elim) h
noncomputable def roundCode : Code := ((Tryz.f14.body.bind (findBlock 2)).getD .skip)
set_option maxRecDepth 1000000 in
set_option maxHeartbeats 40000000 in
theorem divmod_round {w wr : World} {p4 p5 gU gV gQ n m lq k X : Nat} {V vs U Q : List Nat} {c0 c1 c2 c3 c4 c5 c6 c7 c8 c10 c23 c24 c25 c26 c27 c28 c29 c30 c31 c32 c33 c34 c35 c36 c37 c38 c39 c40 c41 c42 c43 c44 c45 c46 c47 c48 c49 c50 c51 c52 c53 c54 c55 c56 c57 c58 c59 c60 c61 c62 c63 c64 c65 c66 c67 c68 c69 c70 c71 c72 c73 c74 c75 c76 c77 c78 c79 c80 c81 c82 c83 c84 c85 c86 c87 c257 c258 c259 c260 c261 c262 c263 c264 c265 c266 c267 c268 c269 c270 c271 c272 c273 c274 c275 c276 c277 c278 c279 c280 c281 c282 c283 c284 c285 c286 : Value} {u15 u16 u17 u18 u19 u20 u21 u22 u88 u89 u90 u91 u92 u93 u94 u95 u96 u97 u98 u99 u100 u101 u102 u103 u104 u105 u106 u107 u108 u109 u110 u111 u112 u113 u114 u115 u116 u117 u118 u119 u120 u121 u122 u123 u124 u125 u126 u127 u128 u129 u130 u131 u132 u133 u134 u135 u136 u137 u138 u139 u140 u141 u142 u143 u144 u145 u146 u147 u148 u149 u150 u151 u152 u153 u154 u155 u156 u157 u158 u159 u160 u161 u162 u163 u164 u165 u166 u167 u168 u169 u170 u171 u172 u173 u174 u175 u176 u177 u178 u179 u180 u181 u182 u183 u184 u185 u186 u187 u188 u189 u190 u191 u192 u193 u194 u195 u196 u197 u198 u199 u200 u201 u202 u203 u204 u205 u206 u207 u208 u209 u210 u211 u212 u213 u214 u215 u216 u217 u218 u219 u220 u221 u222 u223 u224 u225 u226 u227 u228 u229 u230 u231 u232 u233 u234 u235 u236 u237 u238 u239 u240 u241 u242 u243 u244 u245 u246 u247 u248 u249 u250 u251 u252 u253 u254 u255 u256 : Value}
    (hn2 : 2 ≤ n) (hm3 : m ≤ 1000000) (hk : k + 1 ≤ lq) (hlq : lq + n = m + 1) (hmono : n ≤ m) (HLVS : Hid (vs.length = n)) (HDVS : Hid (∀ (d : Nat), d ∈ vs → d < B32)) (HTVS : Hid (1 ≤ vs.getD (n - 1) 0)) (HVS : Hid (∀ (i : Nat), i < n → vs.getD i 0 = V.getD i 0)) (HLV : Hid (V.length = n + 1))
    (HLU : Hid (U.length = m + 1)) (HLQ : Hid (Q.length = lq)) (HD : Hid (DSt w wr p4 p5 gU gV gQ V U Q)) (HI : Hid (DivInv B32 n X vs (k + 1) U Q)) {K : Act → World → Prop}
    (hK : ∀ (x15 x16 x17 x18 x19 x20 x21 x22 x88 x89 x90 x91 x92 x93 x94 x95 x96 x97 x98 x99 x100 x101 x102 x103 x104 x105 x106 x107 x108 x109 x110 x111 x112 x113 x114 x115 x116 x117 x118 x119 x120 x121 x122 x123 x124 x125 x126 x127 x128 x129 x130 x131 x132 x133 x134 x135 x136 x137 x138 x139 x140 x141 x142 x143 x144 x145 x146 x147 x148 x149 x150 x151 x152 x153 x154 x155 x156 x157 x158 x159 x160 x161 x162 x163 x164 x165 x166 x167 x168 x169 x170 x171 x172 x173 x174 x175 x176 x177 x178 x179 x180 x181 x182 x183 x184 x185 x186 x187 x188 x189 x190 x191 x192 x193 x194 x195 x196 x197 x198 x199 x200 x201 x202 x203 x204 x205 x206 x207 x208 x209 x210 x211 x212 x213 x214 x215 x216 x217 x218 x219 x220 x221 x222 x223 x224 x225 x226 x227 x228 x229 x230 x231 x232 x233 x234 x235 x236 x237 x238 x239 x240 x241 x242 x243 x244 x245 x246 x247 x248 x249 x250 x251 x252 x253 x254 x255 x256 : Value) (w' : World) (U' Q' : List Nat), Hid (DSt w w' p4 p5 gU gV gQ V U' Q') → Hid (DivInv B32 n X vs k U' Q') → Hid (U'.length = m + 1) → Hid (Q'.length = lq) → K ⟨#[c0, c1, c2, c3, c4, c5, c6, c7, c8, .int .i64 (n : Int), c10, .slice (some ⟨gV, 0, none⟩) n (n + 1), .slice (some ⟨gU, 0, none⟩) (m + 1) (m + 1), .slice (some ⟨gQ, 0, none⟩) lq lq, .int .i64 (k : Int), x15, x16, x17, x18, x19, x20, x21, x22, c23, c24, c25, c26, c27, c28, c29, c30, c31, c32, c33, c34, c35, c36, c37, c38, c39, c40, c41, c42, c43, c44, c45, c46, c47, c48, c49, c50, c51, c52, c53, c54, c55, c56, c57, c58, c59, c60, c61, c62, c63, c64, c65, c66, c67, c68, c69, c70, c71, c72, c73, c74, c75, c76, c77, c78, c79, c80, c81, c82, c83, c84, c85, c86, c87, x88, x89, x90, x91, x92, x93, x94, x95, x96, x97, x98, x99, x100, x101, x102, x103, x104, x105, x106, x107, x108, x109, x110, x111, x112, x113, x114, x115, x116, x117, x118, x119, x120, x121, x122, x123, x124, x125, x126, x127, x128, x129, x130, x131, x132, x133, x134, x135, x136, x137, x138, x139, x140, x141, x142, x143, x144, x145, x146, x147, x148, x149, x150, x151, x152, x153, x154, x155, x156, x157, x158, x159, x160, x161, x162, x163, x164, x165, x166, x167, x168, x169, x170, x171, x172, x173, x174, x175, x176, x177, x178, x179, x180, x181, x182, x183, x184, x185, x186, x187, x188, x189, x190, x191, x192, x193, x194, x195, x196, x197, x198, x199, x200, x201, x202, x203, x204, x205, x206, x207, x208, x209, x210, x211, x212, x213, x214, x215, x216, x217, x218, x219, x220, x221, x222, x223, x224, x225, x226, x227, x228, x229, x230, x231, x232, x233, x234, x235, x236, x237, x238, x239, x240, x241, x242, x243, x244, x245, x246, x247, x248, x249, x250, x251, x252, x253, x254, x255, x256, c257, c258, c259, c260, c261, c262, c263, c264, c265, c266, c267, c268, c269, c270, c271, c272, c273, c274, c275, c276, c277, c278, c279, c280, c281, c282, c283, c284, c285, c286], []⟩ w') :
    Code.wp Tryz.prog roundCode (Exit.then K (fun _ _ _ => False)) ⟨#[c0, c1, c2, c3, c4, c5, c6, c7, c8, .int .i64 (n : Int), c10, .slice (some ⟨gV, 0, none⟩) n (n + 1), .slice (some ⟨gU, 0, none⟩) (m + 1) (m + 1), .slice (some ⟨gQ, 0, none⟩) lq lq, .int .i64 (k : Int), u15, u16, u17, u18, u19, u20, u21, u22, c23, c24, c25, c26, c27, c28, c29, c30, c31, c32, c33, c34, c35, c36, c37, c38, c39, c40, c41, c42, c43, c44, c45, c46, c47, c48, c49, c50, c51, c52, c53, c54, c55, c56, c57, c58, c59, c60, c61, c62, c63, c64, c65, c66, c67, c68, c69, c70, c71, c72, c73, c74, c75, c76, c77, c78, c79, c80, c81, c82, c83, c84, c85, c86, c87, u88, u89, u90, u91, u92, u93, u94, u95, u96, u97, u98, u99, u100, u101, u102, u103, u104, u105, u106, u107, u108, u109, u110, u111, u112, u113, u114, u115, u116, u117, u118, u119, u120, u121, u122, u123, u124, u125, u126, u127, u128, u129, u130, u131, u132, u133, u134, u135, u136, u137, u138, u139, u140, u141, u142, u143, u144, u145, u146, u147, u148, u149, u150, u151, u152, u153, u154, u155, u156, u157, u158, u159, u160, u161, u162, u163, u164, u165, u166, u167, u168, u169, u170, u171, u172, u173, u174, u175, u176, u177, u178, u179, u180, u181, u182, u183, u184, u185, u186, u187, u188, u189, u190, u191, u192, u193, u194, u195, u196, u197, u198, u199, u200, u201, u202, u203, u204, u205, u206, u207, u208, u209, u210, u211, u212, u213, u214, u215, u216, u217, u218, u219, u220, u221, u222, u223, u224, u225, u226, u227, u228, u229, u230, u231, u232, u233, u234, u235, u236, u237, u238, u239, u240, u241, u242, u243, u244, u245, u246, u247, u248, u249, u250, u251, u252, u253, u254, u255, u256, c257, c258, c259, c260, c261, c262, c263, c264, c265, c266, c267, c268, c269, c270, c271, c272, c273, c274, c275, c276, c277, c278, c279, c280, c281, c282, c283, c284, c285, c286], []⟩ wr := by
  have HK := Lib.hid hK
  clear hK
  conv => arg 2; whnf
  have hlook := HI.out.look B32_2 hn2 HLVS.out HDVS.out HTVS.out (by rw [HLU.out]; omega)
  have HLK := Lib.hid hlook
  obtain ⟨kn, hkn⟩ : ∃ kn, k + n = kn := ⟨_, rfl⟩
  obtain ⟨n1, hn1e⟩ : ∃ n1, n - 1 = n1 := ⟨_, rfl⟩
  have hA4 : (n : Int) - 1 = (n1 : Int) := by omega
  obtain ⟨n2, hn2e⟩ : ∃ n2, n - 2 = n2 := ⟨_, rfl⟩
  obtain ⟨kn1, hkn1e⟩ : ∃ kn1, kn - 1 = kn1 := ⟨_, rfl⟩
  obtain ⟨kn2, hkn2e⟩ : ∃ kn2, kn - 2 = kn2 := ⟨_, rfl⟩
  have hu1 := hlook.ltU _ (getD_mem (d := 0) (show kn < U.length by rw [HLU.out]; omega))
  have hu0 := hlook.ltU _ (getD_mem (d := 0) (show kn1 < U.length by rw [HLU.out]; omega))
  have hu2 := hlook.ltU _ (getD_mem (d := 0) (show kn2 < U.length by rw [HLU.out]; omega))
  have hv1 := HDVS.out _ (getD_mem (d := 0) (show n1 < vs.length by rw [HLVS.out]; omega))
  have hv2 := HDVS.out _ (getD_mem (d := 0) (show n2 < vs.length by rw [HLVS.out]; omega))
  have hcU1 : wr.cell? ⟨gU, kn, none⟩ = _ := HD.out.bu.ecell (by rw [HLU.out]; omega)
  have hcU0 : wr.cell? ⟨gU, kn1, none⟩ = _ := HD.out.bu.ecell (by rw [HLU.out]; omega)
  have hcV1 : wr.cell? ⟨gV, n1, none⟩ = _ := HD.out.bv.ecell (by rw [HLV.out]; omega)
  rw [← HVS.out _ (by omega)] at hcV1
  have hF := fun g => hlook.first (g := g)
  have hMO := fun g r => hlook.more (g := g) (rest := r)
  have hEN := fun g r (h0 : g < B32) h1 h2 => hlook.enough (g := g) (rest := r) h0 h1 (by rw [hn2e]; exact hv2) h2
  simp only [hkn, hkn1e, hkn2e, hn1e, hn2e] at hF hMO hEN
  have HF := Lib.hid hF
  have HMO := Lib.hid hMO
  have HEN := Lib.hid hEN
  have hv1p : 1 ≤ vs.getD n1 0 := by rw [← hn1e]; exact HTVS.out
  clear hF hMO hEN
  generalize U.getD kn 0 = u1 at *
  generalize U.getD kn1 0 = u0 at *
  generalize hEU2 : U.getD kn2 0 = u2 at *
  generalize hEV1 : vs.getD n1 0 = v1 at *
  generalize hEV2 : vs.getD n2 0 = v2 at *
  have HEU2 := Lib.hid hEU2
  have HEV1 := Lib.hid hEV1
  have HEV2 := Lib.hid hEV2
  clear hEU2 hEV1 hEV2
  generalize hqd : val B32 U / (B32 ^ k * val B32 vs) = qd at *
  have HQD := Lib.hid hqd
  clear hqd hlook
  obtain ⟨T, hT⟩ : ∃ T, T = u1 * B32 + u0 := ⟨_, rfl⟩
  rw [← hT] at HF HMO HEN
  have hor := or_u64 hu1 hu0
  rw [← hT] at hor
  rw [B32_eq] at hu1 hu0 hu2 hv1 hv2
  have hT64 : (T : Int) ≤ 18446744073709551615 := by rw [hT, B32_eq]; omega
  clear hT
  have hA1 : (k : Int) + (n : Int) = (kn : Int) := by omega
  have hA2 : (kn : Int) - 1 = (kn1 : Int) := by omega
  have hA3 : (kn : Int) - 2 = (kn2 : Int) := by omega
  have hA5 : (n : Int) - 2 = (n2 : Int) := by omega
  have hx1 : IntKind.i64.wrap ((k : Int) + (n : Int)) = (kn : Int) := by rw [hA1]; exact IntWalk.i64_in _ (by omega)
  have hx2 : IntKind.i64.wrap ((kn : Int) - 1) = (kn1 : Int) := by rw [hA2]; exact IntWalk.i64_in _ (by omega)
  have hx3 : IntKind.i64.wrap ((kn : Int) - 2) = (kn2 : Int) := by rw [hA3]; exact IntWalk.i64_in _ (by omega)
  have hx4 : IntKind.i64.wrap ((n : Int) - 1) = (n1 : Int) := by rw [hA4]; exact IntWalk.i64_in _ (by omega)
  have hx5 : IntKind.i64.wrap ((n : Int) - 2) = (n2 : Int) := by rw [hA5]; exact IntWalk.i64_in _ (by omega)
  have hw1 : IntKind.u64.wrap (u1 : Int) = (u1 : Int) := IntWalk.u64_in _ (by omega)
  have hw2 : IntKind.u64.wrap ((u1 : Int) * 4294967296) = (u1 : Int) * 4294967296 := IntWalk.u64_in _ (by omega)
  have hw3 : IntKind.u64.wrap (u0 : Int) = (u0 : Int) := IntWalk.u64_in _ (by omega)
  have hw4 : IntKind.u64.wrap (v1 : Int) = (v1 : Int) := IntWalk.u64_in _ (by omega)
  have hw5 : IntKind.u64.wrap (v2 : Int) = (v2 : Int) := IntWalk.u64_in _ (by omega)
  have hw6 : IntKind.u64.wrap (u2 : Int) = (u2 : Int) := IntWalk.u64_in _ (by omega)
  have hqt : Int.tdiv (T : Int) (v1 : Int) = ((T / v1 : Nat) : Int) := by rw [Int.tdiv_eq_ediv_of_nonneg (by omega)]; exact (Int.natCast_ediv _ _).symm
  have hv0 : ¬ (v1 : Int) = 0 := by omega
  have hTv : T / v1 * v1 ≤ T := Nat.div_mul_le_self _ _
  have hTv2 : T / v1 ≤ T := Nat.div_le_self _ _
  have HQ0 := Lib.hid (HF.out _ rfl)
  have hgm : min (T / v1) (B32 - 1) * v1 ≤ T := Nat.le_trans (Nat.mul_le_mul_right _ (Nat.min_le_left _ _)) hTv
  generalize T / v1 = tq at *
  have hw7 : IntKind.u64.wrap (tq : Int) = (tq : Int) := IntWalk.u64_in _ (by omega)
  have hmin : min (tq : Int) 4294967295 = ((min tq (B32 - 1) : Nat) : Int) := by rw [B32_eq]; omega
  have hg32 : min tq (B32 - 1) < 4294967296 := by rw [B32_eq]; omega
  generalize min tq (B32 - 1) = g0 at *
  have hmul0 : (g0 : Int) * (v1 : Int) = ((g0 * v1 : Nat) : Int) := (Int.natCast_mul _ _).symm
  obtain ⟨r0, hr0⟩ : ∃ r0, r0 + g0 * v1 = T := ⟨T - g0 * v1, by omega⟩
  have HR0 := Lib.hid hr0
  have hw8 : IntKind.u64.wrap ((g0 * v1 : Nat) : Int) = ((g0 * v1 : Nat) : Int) := IntWalk.u64_in _ (by omega)
  have hsub0 : (T : Int) - ((g0 * v1 : Nat) : Int) = (r0 : Int) := by omega
  generalize g0 * v1 = p0 at hmul0 hw8 hsub0 hr0 hgm
  have hw9 : IntKind.u64.wrap (r0 : Int) = (r0 : Int) := IntWalk.u64_in _ (by omega)
  have hr064 : (r0 : Int) ≤ 18446744073709551615 := by omega
  clear hTv hTv2 hgm hr0 HF
  go_wp2
  go_quiet (fail)
  obtain ⟨W2, hW2⟩ : ∃ X, X = wr.drewN nq := ⟨_, rfl⟩
  have HDW : Hid (DSt w W2 p4 p5 gU gV gQ V U Q) := Lib.hid (by rw [hW2]; exact HD.out.drewN _)
  rw [← hW2]
  have hdV1 : W2.cell? ⟨gV, n1, none⟩ = some (.int .u32 (v1 : Int)) := by rw [hW2]; exact hcV1
  clear hW2 hcU1 hcU0 hcV1
  go_upto_block 3 with fail
  go_cut [16] from 124 to 157 (fun s16 wx => ∃ g : Nat, s16 = .int .u64 (g : Int) ∧ g < 4294967296 ∧ Hid (qd ≤ g) ∧ Hid (g ≤ qd + 1) ∧ Hid (DSt w wx p4 p5 gU gV gQ V U Q))
  case first =>
      go_wp2
      go_loopw [16, 17] (fun v16 v17 w' => ∃ (g r : Nat), v16 = .int .u64 (g : Int) ∧ v17 = .int .u64 (r : Int) ∧ g < 4294967296 ∧ (r : Int) ≤ 18446744073709551615 ∧ Hid (r + g * v1 = T) ∧ Hid (qd ≤ g) ∧ Hid (DSt w w' p4 p5 gU gV gQ V U Q)) (fun v16 _ _ => (intOf v16).toNat)
      case atStart => exact ⟨g0, r0, rfl, rfl, hg32, hr064, HR0.out, HQ0.out, HDW.out⟩
      case round =>
        obtain ⟨g, r, rfl, rfl, hgl, hrl, HRG, HQG, HDR⟩ := hrel
        have hcU2 := HDR.out.bu.ecell (i := kn2) (by rw [HLU.out]; omega)
        have hcV1 := HDR.out.bv.ecell (i := n1) (by rw [HLV.out]; omega)
        have hcV2 := HDR.out.bv.ecell (i := n2) (by rw [HLV.out]; omega)
        rw [← HVS.out _ (by omega), HEV1.out] at hcV1
        rw [← HVS.out _ (by omega), HEV2.out] at hcV2
        rw [HEU2.out] at hcU2
        have hm2 : (g : Int) * (v2 : Int) = ((g * v2 : Nat) : Int) := (Int.natCast_mul _ _).symm
        have hp2l : g * v2 ≤ 4294967295 * 4294967295 := Nat.mul_le_mul (by omega) (by omega)
        by_cases hcond : r < 4294967296 ∧ r * B32 + u2 < g * v2
        · obtain ⟨hr32, hgt⟩ := hcond
          have hw10 : IntKind.u64.wrap ((g * v2 : Nat) : Int) = ((g * v2 : Nat) : Int) := IntWalk.u64_in _ (by omega)
          have hor2 := or_u64 (c := r) (x := u2) (by rw [B32_eq]; omega) (by rw [B32_eq]; omega)
          have hw11 : IntKind.u64.wrap ((r : Int) * 4294967296) = (r : Int) * 4294967296 := IntWalk.u64_in _ (by omega)
          have hrr : (r : Int) < 4294967296 := by omega
          have HQ1 := HMO.out g r HRG.out hgt
          obtain ⟨g1, hg1e⟩ : ∃ g1, g1 + 1 = g := ⟨g - 1, by omega⟩
          have HQ2 : Hid (qd ≤ g1) := Lib.hid (by omega)
          have HRG2 : Hid (r + v1 + g1 * v1 = T) := Lib.hid (by have := HRG.out; rw [← hg1e, Nat.add_mul] at this; omega)
          have hg1 : (g : Int) - 1 = (g1 : Int) := by omega
          have hg1l : g1 < 4294967296 := by omega
          have HG1 := Lib.hid hg1e
          generalize g * v2 = p2 at *
          generalize r * B32 + u2 = y2 at *
          have hlt : (y2 : Int) < (p2 : Int) := by omega
          have hw12 : IntKind.u64.wrap (g1 : Int) = (g1 : Int) := IntWalk.u64_in _ (by omega)
          have hw13 : IntKind.u64.wrap ((r : Int) + (v1 : Int)) = (r : Int) + (v1 : Int) := IntWalk.u64_in _ (by omega)
          clear HQ1 hg1e
          go_wp2
          go_quiet (fail)
          obtain ⟨W3, hW3⟩ : ∃ X, X = wr.drewN nq := ⟨_, rfl⟩
          have HDX : Hid (DSt w W3 p4 p5 gU gV gQ V U Q) := Lib.hid (by rw [hW3]; exact HDR.out.drewN _)
          rw [← hW3]
          have hdV1 : W3.cell? ⟨gV, n1, none⟩ = some (.int .u32 (v1 : Int)) := by rw [hW3]; exact hcV1
          clear hW3 hcU2 hcV1 hcV2
          go_wp2
          go_roundw
          case rel => exact ⟨g1, r + v1, by go_num, by go_num, hg1l, by omega, HRG2.out, HQ2.out, HDX.out⟩
          case measure => have := HG1.out; simp [intOf]; omega
        · have HE1 := Lib.hid (HEN.out g r (by rw [B32_eq]; omega) HRG.out (by rw [B32_eq] at hcond ⊢; omega))
          have hor2 : r < 4294967296 → Go.bits .or .u64 ((r : Int) * 4294967296) (u2 : Int) = ((r * B32 + u2 : Nat) : Int) := fun h => or_u64 (c := r) (x := u2) (by rw [B32_eq]; omega) (by rw [B32_eq]; omega)
          have hw10 : IntKind.u64.wrap ((g * v2 : Nat) : Int) = ((g * v2 : Nat) : Int) := IntWalk.u64_in _ (by omega)
          have hcases : (¬ r < 4294967296) ∨ (r < 4294967296 ∧ ¬ r * B32 + u2 < g * v2) := by omega
          generalize g * v2 = p2 at *
          generalize r * B32 + u2 = y2 at *
          have HU1 := Lib.hid hu1
          clear hcond
          rcases hcases with hr32 | ⟨hr32, hgt⟩
          · have hrr : decide ((r : Int) < 4294967296) = false := decide_eq_false (by omega)
            clear hor2 HMO HEN HQ0 HR0 HRG
            go_wp2
            go_quiet (fail)
            have HDX : Hid (DSt w (wr.drewN nq) p4 p5 gU gV gQ V U Q) := Lib.hid (HDR.out.drewN _)
            go_wp2
            go_meet
            exact ⟨g, rfl, hgl, HQG.out, HE1.out, HDX.out⟩
          · have hor3 := hor2 hr32
            have hw11 : IntKind.u64.wrap ((r : Int) * 4294967296) = (r : Int) * 4294967296 := IntWalk.u64_in _ (by omega)
            have hrr : (r : Int) < 4294967296 := by omega
            have hlt : decide (y2 < p2) = false := decide_eq_false hgt
            clear hor2 HMO HEN HQ0 HR0 HRG
            go_wp2
            go_quiet (fail)
            have HDX : Hid (DSt w (wr.drewN nq) p4 p5 gU gV gQ V U Q) := Lib.hid (HDR.out.drewN _)
            go_wp2
            go_meet
            exact ⟨g, rfl, hgl, HQG.out, HE1.out, HDX.out⟩
  case rest =>
    clear HMO HEN HQ0 HR0 HDW hdV1
    obtain ⟨g, rfl, hgl, HQG, HE1, HDX⟩ := hcut
    go_wp2
    go_loopw [18, 19, 159] (fun v18 v19 v159 w' => ∃ (i c bo : Nat) (L : List Nat), v18 = .int .u32 (bo : Int) ∧ v19 = .int .u64 (c : Int) ∧ v159 = .int .i64 (i : Int) ∧ i ≤ n ∧ bo ≤ 1 ∧ c < 4294967296 ∧ Hid (SubMul B32 k g U vs i c bo L) ∧ Hid (DSt w w' p4 p5 gU gV gQ V L Q)) (fun _ _ v159 _ => n - (intOf v159).toNat)
    case atStart => exact ⟨0, 0, 0, U, rfl, rfl, rfl, by omega, by omega, by omega, SubMul.start B32_2 HLK.out.ltU, HDX.out⟩
    case round =>
      obtain ⟨i, c, bo, L, rfl, rfl, rfl, hi, hbo, hcl, HS, HD2⟩ := hrel
      have hLL : L.length = m + 1 := by rw [HS.out.len, HLU.out]
      by_cases hin : i < n
      · obtain ⟨ki, hki⟩ : ∃ ki, ki = k + i := ⟨_, rfl⟩
        have hcV := HD2.out.bv.ecell (i := i) (by rw [HLV.out]; omega)
        rw [← HVS.out i hin] at hcV
        have hvi := HDVS.out _ (getD_mem (d := 0) (show i < vs.length by rw [HLVS.out]; omega))
        have hcL := HD2.out.bu.ecell (i := ki) (by rw [hLL]; omega)
        have hfL := HD2.out.bu.frozen ki
        have hli := HS.out.lt _ (getD_mem (d := 0) (show ki < L.length by rw [hLL]; omega))
        have HST := Lib.hid (fun d bo' (hd : d < B32) (hb : bo' ≤ 1) e => HS.out.step B32_2 (by rw [HLU.out]; omega) hd hb (by rw [B32_eq]; omega) hvi (bo' := bo') (d := d) e)
        rw [← hki] at HST
        generalize vs.getD i 0 = vi at *
        generalize L.getD ki 0 = li at *
        rw [B32_eq] at hvi hli
        have hm3 : (g : Int) * (vi : Int) = ((g * vi : Nat) : Int) := (Int.natCast_mul _ _).symm
        have hp3l : g * vi ≤ 4294967295 * 4294967295 := Nat.mul_le_mul (by omega) (by omega)
        have hw20 : IntKind.u64.wrap (vi : Int) = (vi : Int) := IntWalk.u64_in _ (by omega)
        have hw21 : IntKind.u64.wrap ((g * vi : Nat) : Int) = ((g * vi : Nat) : Int) := IntWalk.u64_in _ (by omega)
        have hcz : (c : Int) + ((g * vi : Nat) : Int) = ((c + g * vi : Nat) : Int) := by omega
        have hw22 : IntKind.u64.wrap ((c + g * vi : Nat) : Int) = ((c + g * vi : Nat) : Int) := IntWalk.u64_in _ (by omega)
        have e1 : ((c + g * vi : Nat) : Int) % 4294967296 = (((c + g * vi) % B32 : Nat) : Int) := by rw [cast_mod]
        have e2 : ((c + g * vi : Nat) : Int) / 4294967296 = (((c + g * vi) / B32 : Nat) : Int) := by rw [cast_div]
        have hz1 : (c + g * vi) % B32 < B32 := Nat.mod_lt _ (by rw [B32_eq]; omega)
        have hz2 : (c + g * vi) / B32 < 4294967296 := by rw [B32_eq]; omega
        generalize (c + g * vi) % B32 = zm at *
        generalize (c + g * vi) / B32 = zd at *
        generalize c + g * vi = cz at *
        generalize g * vi = p3 at *
        have hA10 : (k : Int) + (i : Int) = (ki : Int) := by omega
        have hx10 : IntKind.i64.wrap ((k : Int) + (i : Int)) = (ki : Int) := by rw [hA10]; exact IntWalk.i64_in _ (by omega)
        have HSUB := Lib.hid (fun W => sub32_c (x := li) (y := zm) (b := bo) (by rw [B32_eq]; omega) hz1 hbo W)
        have hzm : zm < 4294967296 := by rw [B32_eq] at hz1; exact hz1
        have hkil : ki ≤ 2000000 := by omega
        clear hp3l hz1 hki
        go_wp2_with fail
        refine (HSUB.out _).mono ?_
        rintro e w2 ⟨d, hd, hsum, rfl, rfl⟩
        have HST2 := Lib.hid (HST.out d _ hd (borrow_le _ _ _) hsum)
        have hbl := borrow_le li zm bo
        generalize borrow li zm bo = bo' at *
        have HD3 := Lib.hid (HD2.out.setU ki d)
        clear hsum HST HSUB hd
        go_wp2_with fail
        go_roundw
        case rel => exact ⟨i + 1, zd, bo', L.set ki d, rfl, by go_num, by go_num, by omega, hbl, hz2, HST2.out, HD3.out⟩
        case measure => simp [intOf]; omega
      · obtain rfl : n = i := by omega
        have hcL := HD2.out.bu.ecell (i := kn) (by rw [hLL]; omega)
        have hfL := HD2.out.bu.frozen kn
        have hli := HS.out.lt _ (getD_mem (d := 0) (show kn < L.length by rw [hLL]; omega))
        have HST := Lib.hid (fun d bo' (hd : d < B32) (hb : bo' ≤ 1) e => HS.out.last HLK.out hd hb (bo' := bo') (d := d) e)
        rw [hkn] at HST
        generalize L.getD kn 0 = li at *
        have e1 : (c : Int) % 4294967296 = (c : Int) := by omega
        have HSUB := Lib.hid (fun W => sub32_c (x := li) (y := c) (b := bo) hli (by rw [B32_eq]; omega) hbo W)
        rw [B32_eq] at hli
        go_wp2_with fail
        refine (HSUB.out _).mono ?_
        rintro e w2 ⟨d, hd, hsum, rfl, rfl⟩
        have HT := Lib.hid (HST.out d _ hd (borrow_le _ _ _) hsum)
        have hbl := borrow_le li c bo
        generalize borrow li c bo = bo' at *
        have HD3 := Lib.hid (HD2.out.setU kn d)
        obtain ⟨L2, hL2⟩ : ∃ L2, L2 = L.set kn d := ⟨_, rfl⟩
        rw [← hL2] at HT HD3
        have hLL2 : L2.length = m + 1 := by rw [HT.out.len, HLU.out]
        have hcQ := HD3.out.bq.ecell (i := k) (by rw [HLQ.out]; omega)
        have hfQ := HD3.out.bq.frozen k
        generalize Q.getD k 0 = qk at hcQ
        have HD4 := Lib.hid (HD3.out.setQ k g)
        have eg : (g : Int) % 4294967296 = (g : Int) := by omega
        clear hsum HST HSUB hd hL2
        have hcg : (g : Int) - 1 = ((g - 1 : Nat) : Int) ∨ g = 0 := by omega
        rcases (show bo' = 0 ∨ bo' = 1 by omega) with rfl | rfl
        · obtain ⟨hgq, hvL⟩ := HT.out.right HLK.out (by rw [HQD.out]; exact HQG.out)
          have HI2 := Lib.hid (HI.out.step HLK.out (by rw [HLQ.out]; omega) HT.out.lt hvL)
          rw [← hgq] at HI2
          clear hgq hvL
          go_wp2
          exact HK.out _ _ _ _ _ _ _ _ _ _ _ _ _ _ _ _ _ _ _ _ _ _ _ _ _ _ _ _ _ _ _ _ _ _ _ _ _ _ _ _ _ _ _ _ _ _ _ _ _ _ _ _ _ _ _ _ _ _ _ _ _ _ _ _ _ _ _ _ _ _ _ _ _ _ _ _ _ _ _ _ _ _ _ _ _ _ _ _ _ _ _ _ _ _ _ _ _ _ _ _ _ _ _ _ _ _ _ _ _ _ _ _ _ _ _ _ _ _ _ _ _ _ _ _ _ _ _ _ _ _ _ _ _ _ _ _ _ _ _ _ _ _ _ _ _ _ _ _ _ _ _ _ _ _ _ _ _ _ _ _ _ _ _ _ _ _ _ _ _ _ _ _ _ _ _ _ _ _ L2 (Q.set k g) (Lib.hid (HD4.out)) (Lib.hid (HI2.out)) (Lib.hid (hLL2)) (Lib.hid ((by rw [List.length_set]; exact HLQ.out)))
        · have hgq := HT.out.wrong HLK.out (by rw [HQD.out]; exact HE1.out)
          rw [HQD.out] at hgq
          have hgd : (g : Int) - 1 = (qd : Int) := by omega
          have HT2 : Hid (Taken B32 k n (qd + 1) U vs 1 L2) := Lib.hid (by have := HT.out; rw [hgq] at this; exact this)
          clear hgq
          have hw30 : IntKind.u32.wrap (qd : Int) = (qd : Int) := IntWalk.u32_in _ (by omega)
          have HD5 := Lib.hid (HD4.out.setQ k qd)
          rw [List.set_set] at HD5
          have hLQ2 : (Q.set k qd).length = lq := by rw [List.length_set]; exact HLQ.out
          have HQS : Hid (Q.set k (val B32 U / (B32 ^ k * val B32 vs)) = Q.set k qd) := Lib.hid (by rw [HQD.out])
          go_wp2_with fail
          obtain ⟨W7, hW7⟩ : ∃ X : World, X = ((wr.setCell ⟨gU, kn, none⟩ (.int .u32 (d : Int))).setCell ⟨gQ, k, none⟩ (.int .u32 (g : Int))).setCell ⟨gQ, k, none⟩ (.int .u32 (qd : Int)) := ⟨_, rfl⟩
          rw [← hW7] at HD5 ⊢
          clear hW7
          generalize Q.set k qd = Q2 at *
          go_loopw [21, 224] (fun v21 v224 w' => ∃ (i c : Nat) (L : List Nat), v21 = .int .u32 (c : Int) ∧ v224 = .int .i64 (i : Int) ∧ i ≤ n ∧ c ≤ 1 ∧ Hid (Back B32 k L2 vs i c L) ∧ Hid (DSt w w' p4 p5 gU gV gQ V L Q2)) (fun _ v224 _ => n - (intOf v224).toNat)
          case atStart => exact ⟨0, 0, L2, rfl, rfl, by omega, by omega, Back.start HT.out.lt, HD5.out⟩
          case round =>
            obtain ⟨i, c, L, rfl, rfl, hi, hcl, HBK, HD6⟩ := hrel
            have hLL : L.length = m + 1 := by rw [HBK.out.len]; exact hLL2
            by_cases hin : i < n
            · obtain ⟨ki, hki⟩ : ∃ ki, ki = k + i := ⟨_, rfl⟩
              have hcV := HD6.out.bv.ecell (i := i) (by rw [HLV.out]; omega)
              rw [← HVS.out i hin] at hcV
              have hvi := HDVS.out _ (getD_mem (d := 0) (show i < vs.length by rw [HLVS.out]; omega))
              have hcL := HD6.out.bu.ecell (i := ki) (by rw [hLL]; omega)
              have hfL := HD6.out.bu.frozen ki
              have hli := HBK.out.lt _ (getD_mem (d := 0) (show ki < L.length by rw [hLL]; omega))
              have HST := Lib.hid (fun d c' (hd : d < B32) (hb : c' ≤ 1) e => HBK.out.step (by rw [hLL2]; omega) hd hb (c' := c') (d := d) e)
              rw [← hki] at HST
              generalize vs.getD i 0 = vi at *
              generalize L.getD ki 0 = li at *
              obtain ⟨d, hd⟩ : ∃ d, d = (li + vi + c) % B32 := ⟨_, rfl⟩
              obtain ⟨c2, hc2⟩ : ∃ c2, c2 = (li + vi + c) / B32 := ⟨_, rfl⟩
              have hc21 : c2 ≤ 1 := by rw [hc2, B32_eq]; rw [B32_eq] at hvi hli; omega
              have HST2 := Lib.hid (HST.out d c2 (by rw [hd]; exact Nat.mod_lt _ (by rw [B32_eq]; omega)) hc21 (by rw [hd, hc2]; exact Nat.mod_add_div _ _))
              have HADD := Lib.hid (fun W => add32_q (x := li) (y := vi) (b := c) (d := d) (c := c2) hli hvi hcl hd hc2 W)
              have HD7 := Lib.hid (HD6.out.setU ki d)
              have hA10 : (k : Int) + (i : Int) = (ki : Int) := by omega
              have hx10 : IntKind.i64.wrap ((k : Int) + (i : Int)) = (ki : Int) := by rw [hA10]; exact IntWalk.i64_in _ (by omega)
              have hkil : ki ≤ 2000000 := by omega
              clear hd hc2 HST hvi hli
              have hx11 : IntKind.i64.wrap (ki : Int) = (ki : Int) := IntWalk.i64_in _ (by omega)
              have hb1 : (0 : Int) ≤ (ki : Int) := by omega
              have hb2 : (ki : Int) < (m : Int) + 1 := by omega
              have hb3 : ki < m + 1 := by omega
              have hb4 : (0 : Int) ≤ (i : Int) := by omega
              have hb5 : (i : Int) < (n : Int) := by omega
              clear hki
              go_wp2
              go_region_law ((rw [if_pos (by rfl)]; (first | go_big_op | go_simp); refine (HADD.out _).mono ?_; rintro e w5 ⟨rfl, rfl⟩))
              all_goals
                go_wp2
                go_roundw
                case rel => exact ⟨i + 1, c2, L.set ki d, by go_num, by go_num, by omega, hc21, HST2.out, by first | exact HD7.out | exact HD7.out.drew | exact HD6.out.drew.setU ki d⟩
                case measure => simp [intOf]; omega
            · obtain rfl : n = i := by omega
              have hcL := HD6.out.bu.ecell (i := kn) (by rw [hLL]; omega)
              have hfL := HD6.out.bu.frozen kn
              obtain ⟨b1, b2, b3⟩ := HBK.out.last HLK.out HT2.out HQD.out.symm
              rw [hkn] at b1 b2 b3
              have hli := HBK.out.lt _ (getD_mem (d := 0) (show kn < L.length by rw [hLL]; omega))
              have hsum : IntKind.u32.wrap ((L.getD kn 0 : Nat) + (c : Int)) = (((L.getD kn 0 + c) % B32 : Nat) : Int) := by
                rw [IntKind.wrap_u32, cast_mod]; omega
              have HI2 := Lib.hid (HI.out.step HLK.out (by rw [HLQ.out]; omega) b1 b3)
              rw [HQS.out] at HI2
              have HD7 := Lib.hid (HD6.out.setU kn ((L.getD kn 0 + c) % B32))
              have HL7 := Lib.hid b2
              generalize (L.getD kn 0 + c) % B32 = d7 at *
              generalize L.getD kn 0 = li at *
              generalize L.set kn d7 = L7 at *
              clear b1 b2 b3 HBK
              go_wp2
              exact HK.out _ _ _ _ _ _ _ _ _ _ _ _ _ _ _ _ _ _ _ _ _ _ _ _ _ _ _ _ _ _ _ _ _ _ _ _ _ _ _ _ _ _ _ _ _ _ _ _ _ _ _ _ _ _ _ _ _ _ _ _ _ _ _ _ _ _ _ _ _ _ _ _ _ _ _ _ _ _ _ _ _ _ _ _ _ _ _ _ _ _ _ _ _ _ _ _ _ _ _ _ _ _ _ _ _ _ _ _ _ _ _ _ _ _ _ _ _ _ _ _ _ _ _ _ _ _ _ _ _ _ _ _ _ _ _ _ _ _ _ _ _ _ _ _ _ _ _ _ _ _ _ _ _ _ _ _ _ _ _ _ _ _ _ _ _ _ _ _ _ _ _ _ _ _ _ _ _ _ L7 Q2 (Lib.hid (HD7.out)) (Lib.hid (HI2.out)) (Lib.hid (HL7.out.trans HLU.out)) (Lib.hid (hLQ2))
end Go.Proofs.YtkjlmibleoecgaaGreatDoor
