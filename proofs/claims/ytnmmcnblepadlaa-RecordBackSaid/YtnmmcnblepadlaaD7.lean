/- noonbellref06.one, walked. -/
import Derived.Test.YtnmmcnblepadlaaD6
namespace Go.Proofs.Ytnmmcnblepadlaa
set_option linter.unusedSimpArgs false
set_option linter.unusedVariables false
open Go.RowKit

/-- The world within one: the result's cell, the record under way. -/
structure OS (w w' : World) (p2 p4 : Nat) (C : Array Value) : Prop where
  nw : New w w'
  rs : Box w' p2 zrec 24
  rc : Box w' p4 C 24
  ne : p2 ≠ p4
  ge : w.heap.size ≤ p2 ∧ w.heap.size ≤ p4
section
variable {w a b : World} {p2 p4 : Nat} {C : Array Value}
theorem OS.put (h : OS w a p2 p4 C) (i : Nat) (u : Value) : OS w (a.setCell ⟨p4, i, none⟩ u) p2 p4 (C.setIfInBounds i u) :=
  ⟨h.nw.setCell (p := ⟨p4, i, none⟩) h.ge.2 u, h.rs.far h.ne u, h.rc.set i u, h.ne, h.ge⟩
theorem OS.new (h : OS w a p2 p4 C) (hn : New a b) : OS w b p2 p4 C := ⟨h.nw.trans hn, h.rs.new hn, h.rc.new hn, h.ne, h.ge⟩
theorem OS.kept (h : OS w a p2 p4 C) (hn : New w b) (hk : Kept 3 a b) : OS w b p2 p4 C := ⟨hn, hk.box h.rs (by decide), hk.box h.rc (by decide), h.ne, h.ge⟩
theorem OS.start (w : World) (C : Array Value) : OS w ((w.alloc (.cells zrec 24)).alloc (.cells C 24)) w.heap.size (w.heap.size + 1) C :=
  ⟨((New.refl w).alloc _).alloc _, (Box.last w zrec 24).alloc _, Box.last2 _ _ _ _, by omega, by omega⟩
end
theorem OS.neg {w a : World} {p2 p4 : Nat} {s : List UInt8} {k : Int} {x y : ByteArray} {A : Option Addr} {l c : Nat} (h : OS w a p2 p4 #[.int .i64 k, .string x, .slice A l c, .string y]) (hno : ∀ r, ¬ IsRec s r) (Wf : World)
    (e : Wf = ((((a.setCell ⟨p2, 0, none⟩ (.int .i64 k)).setCell ⟨p2, 1, none⟩ (.string x)).setCell ⟨p2, 2, none⟩ (.slice A l c)).setCell ⟨p2, 3, none⟩ (.string y))) :
    First s Wf (.agg #[.int .i64 k, .string x, .slice A l c, .string y]) 0 ∧ New w Wf ∧ Box Wf p2 #[.int .i64 k, .string x, .slice A l c, .string y] 24 := by
  subst e
  exact ⟨.inr ⟨rfl, hno, _, _, _, _, _, _, rfl⟩, rs_new h.nw h.ge.1 _ _ _ _, rs_put h.rs⟩
theorem Of.len {s : List UInt8} {r : Rec} (h : IsRec s r) : 5 + r.who.size ≤ s.length ∧ hdN (s.drop 1) = r.who.size := by
  obtain ⟨hg, tl, e⟩ := h
  have e0 := e
  rw [body_eq] at e
  have := congrArg List.length e
  simp only [List.length_cons, List.length_append, size_data] at this
  refine ⟨by omega, ?_⟩
  rw [e]
  exact u8_lt (by have := hg.1; unfold Good at this; omega)
theorem RNum.post {L : List UInt8} {v : Int} {k : Nat} (h : RNum L v k) : NumPost L true v (L.drop k) true :=
  ⟨h.1, by rw [List.length_drop]; omega, fun _ m tl hm e => by
    obtain ⟨h1, h2⟩ := h.2.2 m tl hm e
    exact ⟨h1, by rw [h2, e]; simp, rfl⟩⟩
/-- A loop's state: what is read of the numbers. -/
def G4 (c : Nat) (x : List UInt8) (n : Nat) (ys : List Int) (L : List UInt8) (r : Rec) (tl : List UInt8) : Prop := F4 c x n ys L true r tl
theorem of4t {s x L : List UInt8} {c n : Nat} {ok : Bool} {ys : List Int} (h : Of s (F4 c x n ys L ok)) : Of s (F4 c x n ys L true) := by
  intro r tl hg e
  obtain ⟨_, h2⟩ := h r tl hg e
  exact ⟨rfl, h2⟩
theorem no_num {s x L : List UInt8} {c n : Nat} {ys : List Int} {v : Int} (h : Of s (F4 c x n ys L true)) (hn : 0 < n) (hp : RNum L v 0) : ∀ r, ¬ IsRec s r := by
  rintro r ⟨hg, tl, e⟩
  obtain ⟨h1, h2, h4, k, hk, rfl, h3⟩ := h r tl hg e
  have hkl : k < r.nums.length := by omega
  rw [List.drop_eq_getElem_cons hkl, numsB_cons, List.append_assoc] at h3
  have := (hp.2.2 _ _ (hg.2 _ (List.getElem_mem hkl)) h3).2
  have := vb_pos (zz r.nums[k])
  omega
theorem one_head (s : ByteArray) (h1 : 1 < s.size) (hl : 2 + (s[1]).toNat < s.size) :
    Of s.data.toList (F4 (s[0]).toNat (s.extract 2 (2 + (s[1]).toNat)).data.toList (s[2 + (s[1]).toNat]).toNat [] (s.data.toList.drop (2 + (s[1]).toNat + 1)) true) := by
  have o := of4t (of4 (of3 (of2 (of1 s.data.toList))))
  have e1 : hdN (s.data.toList.drop 1) = (s[1]).toNat := hd_at s 1 (by omega)
  have e0 : hdN s.data.toList = (s[0]).toNat := by have := hd_at s 0 (by omega); rwa [List.drop_zero] at this
  rw [e1, e0, List.drop_drop, List.drop_drop, List.drop_drop] at o
  rw [show 1 + 1 + (s[1]).toNat = 2 + (s[1]).toNat by omega] at o
  rw [hd_at s (2 + (s[1]).toNat) hl] at o
  have e2 : (s.extract 2 (2 + (s[1]).toNat)).data.toList = (s.data.toList.drop 2).take (s[1]).toNat := by
    rw [Lib.extract_data]; congr 1; omega
  rw [e2]
  exact o
theorem no_tail {s x L : List UInt8} {c : Nat} {ys : List Int} {ok : Bool} (h : Of s (F5 c x ys L ok)) (hl : L.length < 2) : ∀ r, ¬ IsRec s r := by
  rintro r ⟨hg, tl, e⟩
  obtain ⟨_, _, _, _, h5⟩ := h r tl hg e
  rw [h5] at hl
  simp [t3] at hl
  omega
theorem no_text {s x L : List UInt8} {c a : Nat} {ys : List Int} {ok : Bool} (h : Of s (F7 c x ys a L ok)) (hl : L.length < a) : ∀ r, ¬ IsRec s r := by
  rintro r ⟨hg, tl, e⟩
  obtain ⟨_, _, _, _, h4, h5⟩ := h r tl hg e
  rw [h5, List.length_append, size_data] at hl
  omega
set_option maxRecDepth 100000 in
set_option maxHeartbeats 8000000 in
theorem one_c (s : ByteArray) (w : World) (hs : s.size ≤ 1000000) :
    Calls Try.prog 17 #[.string s] w fun e w' => ∃ v n, e = .returned (.tuple #[v, .int .i64 (n : Nat)]) ∧ First s.data.toList w' v n ∧ New w w' := by
  have HF := Lib.hid (fun r (h : IsRec s.data.toList r) => Of.len h)
  by_cases h3 : 3 ≤ s.size
  · have hdl := (s[1]).toNat_lt
    have hcl := (s[0]).toNat_lt
    by_cases hlen : 3 + (s[1]).toNat ≤ s.size
    · have o4 := one_head s (by omega) (by omega)
      have hnl := (s[2 + (s[1]).toNat]).toNat_lt
      have HO0 := Lib.hid (OS.start w #[.int .i64 ((s[0]).toNat : Int), .string (s.extract 2 (2 + (s[1]).toNat)), .slice none 0 0, .string ⟨#[]⟩])
      have O4 := Lib.hid o4
      unfold zrec at HO0
      clear o4
      go_enter Try.func17, Try.ntmps17
      go_wp2
      generalize (w.alloc (.cells #[.int .i64 0, .string ⟨#[]⟩, .slice none 0 0, .string ⟨#[]⟩] 24)).alloc (.cells #[.int .i64 ((s[0]).toNat : Int), .string (s.extract 2 (2 + (s[1]).toNat)), .slice none 0 0, .string ⟨#[]⟩] 24) = W0 at *
      generalize w.heap.size + 1 = p4 at *
      obtain ⟨p2, hp2⟩ : ∃ p2, p2 = w.heap.size := ⟨_, rfl⟩
      rw [← hp2] at HO0 ⊢
      clear hp2
      obtain ⟨x, hx⟩ : ∃ x, x = (s.extract 2 (2 + (s[1]).toNat)) := ⟨_, rfl⟩
      rw [← hx] at HO0 O4 ⊢
      clear hx
      generalize (s[2 + (s[1]).toNat]).toNat = n0 at *
      generalize (s[0]).toNat = c1 at *
      go_loopw [5, 7] (fun v5 v7 w' => ∃ (i at_ : Nat) (ys : List Int) (A : Option Addr) (c : Nat), v7 = .int .i64 (i : Int) ∧ v5 = .int .i64 (at_ : Int) ∧ i ≤ n0 ∧ at_ ≤ s.size ∧ Hid (ys.length = i) ∧ Hid (OS w w' p2 p4 #[.int .i64 (c1 : Int), .string x, .slice A ys.length c, .string ⟨#[]⟩]) ∧ Hid (OwnE nE 3 w.heap.size w' (.slice A ys.length c) ys) ∧ Hid (∀ y ∈ ys, i64ok y) ∧ Hid (Of s.data.toList (F4 c1 x.data.toList (n0 - i) ys (s.data.toList.drop at_) true))) (fun _ v7 _ => n0 - (intOf v7).toNat)
      case atStart => exact ⟨0, 2 + (s[1]).toNat + 1, [], none, 0, rfl, by go_num, by omega, by omega, (rfl : ([] : List Int).length = 0), HO0.out, OwnE.nil _ _ _ _, (fun y hy => absurd hy List.not_mem_nil : ∀ y ∈ ([] : List Int), i64ok y), O4.out⟩
      case round =>
        obtain ⟨i, at_, ys, A, c, rfl, rfl, hi, hat, HYL, HOS, HOW, HY, HF4⟩ := hrel
        by_cases hin : i < n0
        · have HNM := Lib.hid (rnumber_c (s.extract at_ s.size) wr (by rw [← size_data, drop_data, List.length_drop, size_data]; omega))
          go_wp2_with fail
          refine HNM.out.mono ?_
          rintro e w1 ⟨v, k, rfl, hR, rfl⟩
          rw [drop_data] at hR
          have hkl := hR.2.1
          rw [List.length_drop, size_data] at hkl
          by_cases hk0 : k = 0
          · subst hk0
            have HNO := Lib.hid (no_num HF4.out (by omega) hR)
            have h0 := HOS.out.rc.cell 0
            have h1 := HOS.out.rc.cell 1
            have h2 := HOS.out.rc.cell 2
            have h3 := HOS.out.rc.cell 3
            have ha := HOS.out.rs.cell 0
            have hb := HOS.out.rs.cell 1
            have hc := HOS.out.rs.cell 2
            have hd := HOS.out.rs.cell 3
            have he := HOS.out.rs.frozen 0
            have hf := HOS.out.rs.frozen 1
            have hg := HOS.out.rs.frozen 2
            have hh := HOS.out.rs.frozen 3
            have hi := HOS.out.ne
            have hj : ¬ p4 = p2 := fun e => HOS.out.ne e.symm
            simp [zrec] at h0 h1 h2 h3 ha hb hc hd
            clear hR HF4
            go_wp2
            obtain ⟨Wf, hWf⟩ : ∃ Wf, Wf = ((((wr.setCell ⟨p2, 0, none⟩ (.int .i64 (c1 : Int))).setCell ⟨p2, 1, none⟩ (.string x)).setCell ⟨p2, 2, none⟩ (.slice A ys.length c)).setCell ⟨p2, 3, none⟩ (.string ⟨#[]⟩)) := ⟨_, rfl⟩
            obtain ⟨hF, hN, hB⟩ := OS.neg HOS.out HNO.out Wf hWf
            rw [← hWf]
            have k0 := hB.cell 0
            have k1 := hB.cell 1
            have k2 := hB.cell 2
            have k3 := hB.cell 3
            simp at k0 k1 k2 k3
            exact bodyPost_ret (v := .tuple #[.agg #[.int .i64 (c1 : Int), .string x, .slice A ys.length c, .string ⟨#[]⟩], .int .i64 0]) (by simp [results, Try.results17, go_sem, k0, k1, k2, k3]) rfl ⟨_, 0, rfl, hF, hN⟩
          · have o4s := of4s HF4.out (by omega) hR.post
            rw [List.drop_drop, Nat.sub_sub] at o4s
            have O4S := Lib.hid o4s
            have hyv : ∀ y ∈ ys ++ [v], i64ok y := fun y hy => by
              rcases List.mem_append.1 hy with h | h
              · exact HY.out y h
              · rw [List.mem_singleton.1 h]; exact hR.1
            have HYV := Lib.hid hyv
            have hyl : ys.length ≤ 255 := by have := HYL.out; omega
            have hne : ((k : Int) == 0) = false := by rw [beq_eq_false_iff_ne]; omega
            clear o4s hyv hR HF4 HY
            have hc2 := HOS.out.rc.cell 2
            simp at hc2
            have HB5 := Lib.hid ((Box.last wr #[.int .i64 v] 3).cell 0)
            go_wp2_with (at_builtin; refine app_one nE w _ rfl _ _ 22 3 rfl (.int .i64 0) 8 rfl info3 rfl (by omega) _ ys rfl (HOS.out.nw.alloc _) (HOW.out.new ((New.refl wr).alloc _)) _ 0 _ v rfl HB5.out nE_one (by omega) ?_)
            intro A6 c6 w6 ho6 hn6 hk6
            have hOS6 := (HOS.out.new ((New.refl wr).alloc (.cells #[.int .i64 v] 3))).kept hn6 hk6
            have hd2 := hOS6.rc.cell 2
            have hf2 := hOS6.rc.frozen 2
            simp at hd2
            have HOSZ := Lib.hid (hOS6.put 2 (.slice A6 (ys.length + 1) c6))
            have HOWZ := Lib.hid (ho6.set hOS6.rc (by decide) (i := 2) (.slice A6 (ys.length + 1) c6))
            clear ho6 hn6 hk6 hOS6 hc2 HB5
            go_wp2
            go_roundw
            case rel => exact ⟨i + 1, at_ + k, ys ++ [v], A6, c6, by go_num, by go_num, by omega, by omega, (by rw [List.length_append, HYL.out]; rfl : (ys ++ [v]).length = i + 1), (by rw [List.length_append]; exact HOSZ.out : OS _ _ _ _ #[.int .i64 (c1 : Int), .string x, .slice A6 (ys ++ [v]).length c6, .string ⟨#[]⟩]), (by rw [List.length_append]; exact HOWZ.out : OwnE nE 3 w.heap.size _ (.slice A6 (ys ++ [v]).length c6) (ys ++ [v])), HYV.out, (by exact O4S.out : Of _ (F4 _ _ (n0 - (i + 1)) _ _ _))⟩
            case measure => simp [intOf]; omega
        · obtain rfl : i = n0 := by omega
          rw [Nat.sub_self] at HF4
          have O5 := Lib.hid (of5 HF4.out (.inl rfl))
          have h0 := HOS.out.rc.cell 0
          have h1 := HOS.out.rc.cell 1
          have h2 := HOS.out.rc.cell 2
          have h3 := HOS.out.rc.cell 3
          have ha := HOS.out.rs.cell 0
          have hb := HOS.out.rs.cell 1
          have hc := HOS.out.rs.cell 2
          have hd := HOS.out.rs.cell 3
          have he := HOS.out.rs.frozen 0
          have hf := HOS.out.rs.frozen 1
          have hg := HOS.out.rs.frozen 2
          have hh := HOS.out.rs.frozen 3
          have hi := HOS.out.ne
          have hj : ¬ p4 = p2 := fun e => HOS.out.ne e.symm
          simp [zrec] at h0 h1 h2 h3 ha hb hc hd
          clear HF4 O4 HO0
          by_cases ht : at_ + 2 ≤ s.size
          · have hA := (s[at_]).toNat_lt
            have hBl := (s[at_ + 1]).toNat_lt
            have o7 := of7 (of6 O5.out)
            rw [hd_at s at_ (by omega), List.drop_drop, hd_at s (at_ + 1) (by omega), List.drop_drop] at o7
            have O7 := Lib.hid o7
            clear o7 O5
            go_wp2
            have q0 : (0 : Int) ≤ (at_ : Int) := by omega
            have q1 : (at_ : Int) < (s.size : Int) := by omega
            have q2 : IntKind.i64.wrap ((at_ : Int) + 1) = (at_ : Int) + 1 := IntWalk.i64_in _ (by omega)
            have q3 : (0 : Int) ≤ (at_ : Int) + 1 := by omega
            have q4 : (at_ : Int) + 1 < (s.size : Int) := by omega
            have q5 : ((at_ : Int) + 1).toNat = at_ + 1 := by omega
            have q6 : at_ < s.size := by omega
            have q7 : at_ + 1 < s.size := by omega
            have q8 : IntKind.i64.wrap (((s[at_]).toNat : Int) * 256) = ((s[at_]).toNat : Int) * 256 := IntWalk.i64_in _ (by omega)
            have q9 : IntKind.i64.wrap (((s[at_]).toNat : Int) * 256 + ((s[at_ + 1]).toNat : Int)) = ((s[at_]).toNat : Int) * 256 + ((s[at_ + 1]).toNat : Int) := IntWalk.i64_in _ (by omega)
            go_quiet (fail)
            obtain ⟨tz, htz⟩ : ∃ tz : Nat, tz = (s[at_]).toNat * 256 + (s[at_ + 1]).toNat := ⟨_, rfl⟩
            have etz : ((s[at_]).toNat : Int) * 256 + ((s[at_ + 1]).toNat : Int) = (tz : Int) := by omega
            rw [etz]
            rw [← htz] at O7
            have htl : tz ≤ 65535 := by omega
            have HOS2 := Lib.hid (HOS.out.new ((New.refl wr).drewN nq))
            have HOW2 := Lib.hid (HOW.out.new ((New.refl wr).drewN nq))
            try clear q2
            try clear q5
            try clear q8
            try clear q9
            clear htz etz HOS HOW h0 h1 h2 h3 ha hb hc hd he hf hg hh hi hj
            generalize wr.drewN nq = wq at *
            have h0 := HOS2.out.rc.cell 0
            have h1 := HOS2.out.rc.cell 1
            have h2 := HOS2.out.rc.cell 2
            have h3 := HOS2.out.rc.cell 3
            have ha := HOS2.out.rs.cell 0
            have hb := HOS2.out.rs.cell 1
            have hc := HOS2.out.rs.cell 2
            have hd := HOS2.out.rs.cell 3
            have he := HOS2.out.rs.frozen 0
            have hf := HOS2.out.rs.frozen 1
            have hg := HOS2.out.rs.frozen 2
            have hh := HOS2.out.rs.frozen 3
            have hi := HOS2.out.ne
            have hj : ¬ p4 = p2 := fun e => HOS2.out.ne e.symm
            simp [zrec] at h0 h1 h2 h3 ha hb hc hd
            generalize tkL (s.data.toList.drop (at_ + 1)) (tkL (s.data.toList.drop at_) true 1) 1 = okz at *
            by_cases hz : at_ + 2 + tz ≤ s.size
            · have o8 := of9 (of8 O7.out)
              have hzx : (s.extract (at_ + 2) (at_ + 2 + tz)).data.toList = (s.data.toList.drop (at_ + 1 + 1)).take tz := by
                rw [Lib.extract_data]; congr 1; omega
              rw [← hzx, mkS_of, mkS_of, List.drop_drop] at o8
              have O8 := Lib.hid o8
              clear o8 hzx O7
              obtain ⟨z, hz2⟩ : ∃ z : ByteArray, z = s.extract (at_ + 2) (at_ + 2 + tz) := ⟨_, rfl⟩
              rw [← hz2] at O8
              have hr0' : ∃ r0 : Rec, r0 = ⟨(c1 : Int), x, ys, z⟩ := ⟨_, rfl⟩
              obtain ⟨r0, hr0⟩ := hr0'
              rw [← hr0] at O8
              obtain ⟨nn, hnn⟩ : ∃ nn : Nat, nn = at_ + 2 + tz := ⟨_, rfl⟩
              have hsound : err r0 = 0 → encS r0 = s.extract 0 nn → IsRec s.data.toList r0 ∧ nn = (body r0).length := by
                intro he hb
                have hg := err_good.1 he
                rw [encS_good hg] at hb
                have hb2 := congrArg (fun t : ByteArray => t.data.toList) hb
                simp only [Lib.extract_data, List.drop_zero, Nat.sub_zero] at hb2
                have hb3 : body r0 = s.data.toList.take nn := hb2
                refine ⟨⟨⟨hg, by rw [hr0]; exact HY.out⟩, s.data.toList.drop nn, by rw [hb3, List.take_append_drop]⟩, ?_⟩
                rw [hb3, List.length_take, size_data]; omega
              have hcomp : ∀ r, IsRec s.data.toList r → err r0 = 0 ∧ encS r0 = s.extract 0 nn := by
                rintro r ⟨hg, tl, e⟩
                obtain ⟨_, h2, h3⟩ := O8.out r tl hg e
                subst h2
                refine ⟨err_good.2 hg.1, ?_⟩
                rw [encS_good hg.1]
                refine data_inj ?_
                rw [Lib.extract_data, List.drop_zero, Nat.sub_zero]
                have hln := congrArg List.length e
                have hld := congrArg List.length h3
                rw [size_data, List.length_append] at hln
                rw [List.length_drop, size_data] at hld
                have hnb : nn = (body r0).length := by omega
                rw [hnb, e]
                simp
              have HSN := Lib.hid hsound
              have HCM := Lib.hid hcomp
              have HR0 := Lib.hid hr0
              have HZ := Lib.hid hz2
              have hnn2 : ((at_ : Int) + 2 + (tz : Int)) = (nn : Int) := by omega
              have HNN := Lib.hid hnn2.symm
              have hnn3 : (at_ + 2 + tz) = nn := hnn.symm
              have HNN3 := Lib.hid hnn3
              have hOS9 := HOS2.out.put 3 (.string z)
              have HOW9 := Lib.hid (HOW2.out.set HOS2.out.rc (by decide) (i := 3) (.string z))
              have hf43 := HOS2.out.rc.frozen 3
              have HOS9 := Lib.hid hOS9
              clear hsound hcomp hr0 hnn2 hnn3 hOS9 O8 HOW2 HOS2 hnn hz2
              go_wp2_with fail
              rw [← HZ.out]
              generalize wq.setCell ⟨p4, 3, none⟩ (.string z) = w9 at *
              have hrv : RecV w9 (.agg #[.int .i64 (c1 : Int), .string x, .slice A ys.length c, .string z]) r0 := by rw [HR0.out]; exact ⟨_, rfl, HOW9.out.sl, HY.out⟩
              have HE := Lib.hid (renc_c r0 _ w9 hrv)
              generalize err r0 = er at *
              generalize encS r0 = es at *
              clear hrv h0 h1 h2 h3 ha hb hc hd he hf hg hh hf43
              refine HE.out.mono ?_
              rintro e wb ⟨rfl, hnb⟩
              have HOSB := Lib.hid ((show OS w w9 p2 p4 #[.int .i64 (c1 : Int), .string x, .slice A ys.length c, .string z] from HOS9.out).new hnb)
              have HOWB := Lib.hid (HOW9.out.new hnb)
              clear hnb HE HOS9 HOW9
              have h0 := HOSB.out.rc.cell 0
              have h1 := HOSB.out.rc.cell 1
              have h2 := HOSB.out.rc.cell 2
              have h3 := HOSB.out.rc.cell 3
              have ha := HOSB.out.rs.cell 0
              have hb := HOSB.out.rs.cell 1
              have hc := HOSB.out.rs.cell 2
              have hd := HOSB.out.rs.cell 3
              have he := HOSB.out.rs.frozen 0
              have hf := HOSB.out.rs.frozen 1
              have hg := HOSB.out.rs.frozen 2
              have hh := HOSB.out.rs.frozen 3
              have hi := HOSB.out.ne
              have hj : ¬ p4 = p2 := fun e => HOSB.out.ne e.symm
              simp [zrec] at h0 h1 h2 h3 ha hb hc hd
              by_cases her : er = 0
              · subst her
                by_cases hes : es = s.extract 0 nn
                · obtain ⟨hR, hl⟩ := HSN.out rfl hes
                  rw [← HNN3.out] at hes
                  subst hes
                  have HR := Lib.hid hR
                  have HLB := Lib.hid hl
                  clear hR hl HSN HCM
                  go_wp2
                  have hB := rs_put (D0 := .int .i64 (c1 : Int)) (D1 := .string x) (D2 := .slice A ys.length c) (D3 := .string z) HOSB.out.rs
                  have hN := rs_new HOSB.out.nw HOSB.out.ge.1 (.int .i64 (c1 : Int)) (.string x) (.slice A ys.length c) (.string z)
                  have hO := rs_own HOSB.out.rs HOWB.out (.int .i64 (c1 : Int)) (.string x) (.slice A ys.length c) (.string z)
                  generalize ((((wb.setCell ⟨p2, 0, none⟩ (.int .i64 (c1 : Int))).setCell ⟨p2, 1, none⟩ (.string x)).setCell ⟨p2, 2, none⟩ (.slice A ys.length c)).setCell ⟨p2, 3, none⟩ (.string z)) = Wf at *
                  have k0 := hB.cell 0
                  have k1 := hB.cell 1
                  have k2 := hB.cell 2
                  have k3 := hB.cell 3
                  simp at k0 k1 k2 k3
                  have hRV : RecT Wf (.agg #[.int .i64 (c1 : Int), .string x, .slice A ys.length c, .string z]) r0 := by rw [HR0.out]; exact ⟨_, rfl, hO.slt, HY.out⟩
                  exact bodyPost_ret (v := .tuple #[.agg #[.int .i64 (c1 : Int), .string x, .slice A ys.length c, .string z], .int .i64 ((at_ : Int) + 2 + (tz : Int))]) (by simp [results, Try.results17, go_sem, k0, k1, k2, k3]) rfl ⟨_, nn, by rw [HNN.out], .inl ⟨r0, HR.out, HLB.out, hRV⟩, hN⟩
                · have HNO := Lib.hid (fun r hr => hes (HCM.out r hr).2)
                  rw [← HNN3.out] at hes
                  have hes1 : ¬ es.toList = (s.extract 0 (at_ + 2 + tz)).toList := fun h => hes (data_inj (by rw [← Lib.toList_data, ← Lib.toList_data]; exact h))
                  have hes2 : (es.toList == (s.extract 0 (at_ + 2 + tz)).toList) = false := by rw [beq_eq_false_iff_ne]; exact hes1
                  have hes3 : (es.toList != (s.extract 0 (at_ + 2 + tz)).toList) = true := by simpa using hes1
                  clear HCM HSN hes hes1
                  go_wp2
                  obtain ⟨Wf, hWf⟩ : ∃ Wf, Wf = ((((wb.setCell ⟨p2, 0, none⟩ (.int .i64 (c1 : Int))).setCell ⟨p2, 1, none⟩ (.string x)).setCell ⟨p2, 2, none⟩ (.slice A ys.length c)).setCell ⟨p2, 3, none⟩ (.string z)) := ⟨_, rfl⟩
                  obtain ⟨hF, hN, hB⟩ := OS.neg HOSB.out HNO.out Wf hWf
                  rw [← hWf]
                  have k0 := hB.cell 0
                  have k1 := hB.cell 1
                  have k2 := hB.cell 2
                  have k3 := hB.cell 3
                  simp at k0 k1 k2 k3
                  exact bodyPost_ret (v := .tuple #[.agg #[.int .i64 (c1 : Int), .string x, .slice A ys.length c, .string z], .int .i64 0]) (by simp [results, Try.results17, go_sem, k0, k1, k2, k3]) rfl ⟨_, 0, rfl, hF, hN⟩
              · have HNO := Lib.hid (fun r hr => her (HCM.out r hr).1)
                have her2 : (er == 0) = false := by simpa using her
                have her3 : (er != 0) = true := by simpa using her
                clear HCM HSN
                go_wp2
                obtain ⟨Wf, hWf⟩ : ∃ Wf, Wf = ((((wb.setCell ⟨p2, 0, none⟩ (.int .i64 (c1 : Int))).setCell ⟨p2, 1, none⟩ (.string x)).setCell ⟨p2, 2, none⟩ (.slice A ys.length c)).setCell ⟨p2, 3, none⟩ (.string z)) := ⟨_, rfl⟩
                obtain ⟨hF, hN, hB⟩ := OS.neg HOSB.out HNO.out Wf hWf
                rw [← hWf]
                have k0 := hB.cell 0
                have k1 := hB.cell 1
                have k2 := hB.cell 2
                have k3 := hB.cell 3
                simp at k0 k1 k2 k3
                exact bodyPost_ret (v := .tuple #[.agg #[.int .i64 (c1 : Int), .string x, .slice A ys.length c, .string z], .int .i64 0]) (by simp [results, Try.results17, go_sem, k0, k1, k2, k3]) rfl ⟨_, 0, rfl, hF, hN⟩
            · have HNO := Lib.hid (no_text O7.out (by rw [List.length_drop, size_data]; omega))
              go_wp2
              obtain ⟨Wf, hWf⟩ : ∃ Wf, Wf = ((((wq.setCell ⟨p2, 0, none⟩ (.int .i64 (c1 : Int))).setCell ⟨p2, 1, none⟩ (.string x)).setCell ⟨p2, 2, none⟩ (.slice A ys.length c)).setCell ⟨p2, 3, none⟩ (.string ⟨#[]⟩)) := ⟨_, rfl⟩
              obtain ⟨hF, hN, hB⟩ := OS.neg HOS2.out HNO.out Wf hWf
              rw [← hWf]
              have k0 := hB.cell 0
              have k1 := hB.cell 1
              have k2 := hB.cell 2
              have k3 := hB.cell 3
              simp at k0 k1 k2 k3
              exact bodyPost_ret (v := .tuple #[.agg #[.int .i64 (c1 : Int), .string x, .slice A ys.length c, .string ⟨#[]⟩], .int .i64 0]) (by simp [results, Try.results17, go_sem, k0, k1, k2, k3]) rfl ⟨_, 0, rfl, hF, hN⟩
          · have HNO := Lib.hid (no_tail O5.out (by rw [List.length_drop, size_data]; omega))
            go_wp2
            obtain ⟨Wf, hWf⟩ : ∃ Wf, Wf = ((((wr.setCell ⟨p2, 0, none⟩ (.int .i64 (c1 : Int))).setCell ⟨p2, 1, none⟩ (.string x)).setCell ⟨p2, 2, none⟩ (.slice A ys.length c)).setCell ⟨p2, 3, none⟩ (.string ⟨#[]⟩)) := ⟨_, rfl⟩
            obtain ⟨hF, hN, hB⟩ := OS.neg HOS.out HNO.out Wf hWf
            rw [← hWf]
            have k0 := hB.cell 0
            have k1 := hB.cell 1
            have k2 := hB.cell 2
            have k3 := hB.cell 3
            simp at k0 k1 k2 k3
            exact bodyPost_ret (v := .tuple #[.agg #[.int .i64 (c1 : Int), .string x, .slice A ys.length c, .string ⟨#[]⟩], .int .i64 0]) (by simp [results, Try.results17, go_sem, k0, k1, k2, k3]) rfl ⟨_, 0, rfl, hF, hN⟩
    · have HNO : Hid (∀ r, ¬ IsRec s.data.toList r) := Lib.hid fun r hr => by
        obtain ⟨g1, g2⟩ := HF.out r hr
        rw [hd_at s 1 (by omega)] at g2
        rw [size_data] at g1
        omega
      have hOS0 := Lib.hid (OS.start w zrec)
      unfold zrec at hOS0
      go_enter Try.func17, Try.ntmps17
      go_wp2
      generalize (w.alloc (.cells #[.int .i64 0, .string ⟨#[]⟩, .slice none 0 0, .string ⟨#[]⟩] 24)).alloc (.cells #[.int .i64 0, .string ⟨#[]⟩, .slice none 0 0, .string ⟨#[]⟩] 24) = Wf at *
      have hB := hOS0.out.rs
      have k0 := hB.cell 0
      have k1 := hB.cell 1
      have k2 := hB.cell 2
      have k3 := hB.cell 3
      simp [zrec] at k0 k1 k2 k3
      exact bodyPost_ret (v := .tuple #[.agg #[.int .i64 0, .string ⟨#[]⟩, .slice none 0 0, .string ⟨#[]⟩], .int .i64 0]) (by simp [results, Try.results17, go_sem, k0, k1, k2, k3]) rfl ⟨_, 0, rfl, .inr ⟨rfl, HNO.out, _, _, _, _, _, _, rfl⟩, hOS0.out.nw⟩
  · have HNO : Hid (∀ r, ¬ IsRec s.data.toList r) := Lib.hid fun r hr => by
      obtain ⟨g1, g2⟩ := HF.out r hr
      rw [size_data] at g1
      omega
    have hOS0 := Lib.hid (OS.start w zrec)
    unfold zrec at hOS0
    go_enter Try.func17, Try.ntmps17
    go_wp2
    generalize (w.alloc (.cells #[.int .i64 0, .string ⟨#[]⟩, .slice none 0 0, .string ⟨#[]⟩] 24)).alloc (.cells #[.int .i64 0, .string ⟨#[]⟩, .slice none 0 0, .string ⟨#[]⟩] 24) = Wf at *
    have hB := hOS0.out.rs
    have k0 := hB.cell 0
    have k1 := hB.cell 1
    have k2 := hB.cell 2
    have k3 := hB.cell 3
    simp [zrec] at k0 k1 k2 k3
    exact bodyPost_ret (v := .tuple #[.agg #[.int .i64 0, .string ⟨#[]⟩, .slice none 0 0, .string ⟨#[]⟩], .int .i64 0]) (by simp [results, Try.results17, go_sem, k0, k1, k2, k3]) rfl ⟨_, 0, rfl, .inr ⟨rfl, HNO.out, _, _, _, _, _, _, rfl⟩, hOS0.out.nw⟩
end Go.Proofs.Ytnmmcnblepadlaa
