/- The law RecordBack, walked. -/
import Derived.Test.YtnmmcnblepadlaaD9
import Derived.Test.YtnmmcnblepadlaaL4
namespace Go.Proofs.Ytnmmcnblepadlaa
set_option linter.unusedSimpArgs false
set_option linter.unusedVariables false
open Go.RowKit

theorem OwnE.kept {α : Type} {enc : α → Value} {E F : TypeId} {B : Nat} {w w' : World} {v : Value} {xs : List α} (h : OwnE enc E B w v xs) (hk : Kept F w w') (hne : E ≠ F) : OwnE enc E B w' v xs := by
  refine ⟨h.1, ?_⟩
  rcases h.2 with ⟨rfl, h0⟩ | ⟨g, cap, cur, rfl, h1, h2, h3⟩
  · exact .inl ⟨rfl, h0⟩
  · exact .inr ⟨g, cap, cur, rfl, h1, hk.2 _ _ _ _ h2 hne, h3⟩
/-- Where the records end. -/
def pre (G : List Rec) : List Int := (List.range (G.length + 1)).map fun j => (((G.take j).flatMap body).length : Int)
theorem pre_len (G : List Rec) : (pre G).length = G.length + 1 := by simp [pre]
theorem pre_get (G : List Rec) (j : Nat) (h : j < (pre G).length) : (pre G)[j] = (((G.take j).flatMap body).length : Int) := by simp [pre]
theorem pre_snoc (G : List Rec) (r : Rec) : pre (G ++ [r]) = pre G ++ [(((G ++ [r]).flatMap body).length : Int)] := by
  unfold pre
  rw [List.length_append, show G.length + [r].length + 1 = (G.length + 1) + 1 from rfl, List.range_succ, List.map_append]
  congr 1
  · apply List.map_congr_left
    intro j hj
    have : j ≤ G.length := by have := List.mem_range.1 hj; omega
    rw [List.take_append_of_le_length this]
  · simp only [List.map_cons, List.map_nil]
    rw [List.take_of_length_le (by simp)]
theorem body_small {r : Rec} (h : GoodOk r) : (body r).length ≤ 17200 := by
  obtain ⟨⟨g1, g2, g3, g4, g5⟩, g6⟩ := h
  have h1 := congrArg List.length (body_eq r [])
  simp only [List.append_nil, List.length_cons, List.length_append, size_data] at h1
  have := numsB_len g6
  omega
/-- All of it. -/
theorem dec_all {G : List Rec} (hg : ∀ r ∈ G, GoodOk r) : Dec (G.flatMap body) G (G.flatMap body).length :=
  ⟨hg, by rw [List.take_length], Nat.le_refl _, fun x hx => by
    obtain ⟨_, tl, e⟩ := hx
    have := congrArg List.length e
    rw [List.drop_length, List.length_append] at this
    have := body_len x
    simp at *; omega⟩
theorem take_flat' (rs : List Rec) (k : Nat) (h : k < rs.length) : (rs.take (k + 1)).flatMap body = (rs.take k).flatMap body ++ body rs[k] := by
  rw [List.take_succ_eq_append_getElem h, List.flatMap_append]; simp
/-- Cut off anywhere. -/
theorem dec_cut {G : List Rec} (hg : ∀ r ∈ G, GoodOk r) {at_ m : Nat} (hm : m ≤ G.length) (h1 : ((G.take m).flatMap body).length ≤ at_) (h2 : m = G.length ∨ at_ < ((G.take (m + 1)).flatMap body).length) (hat : at_ ≤ (G.flatMap body).length) :
    Dec ((G.flatMap body).take at_) (G.take m) ((G.take m).flatMap body).length := by
  have hsp : G.flatMap body = (G.take m).flatMap body ++ (G.drop m).flatMap body := by
    conv => lhs; rw [← List.take_append_drop m G, List.flatMap_append]
  refine ⟨fun r hr => hg r (List.mem_of_mem_take hr), ?_, ?_, fun x hx => ?_⟩
  · rw [List.take_take, Nat.min_eq_left h1]
    conv => lhs; rw [hsp]
    exact List.take_left' rfl
  · rw [List.length_take]; omega
  · obtain ⟨gx, tl, e⟩ := hx
    have hlen := congrArg List.length e
    rw [List.length_drop, List.length_take, List.length_append, Nat.min_eq_left hat] at hlen
    rcases h2 with rfl | h2
    · have htk : ((G.take G.length).flatMap body).length = (G.flatMap body).length := by rw [List.take_length]
      have := body_len x
      omega
    · by_cases hml : m = G.length
      · subst hml
        have htk : ((G.take G.length).flatMap body).length = (G.flatMap body).length := by rw [List.take_length]
        rw [List.take_of_length_le (by omega)] at h2
        omega
      · have hmk : m < G.length := by omega
        have hd : G.drop m = G[m] :: G.drop (m + 1) := List.drop_eq_getElem_cons hmk
        rw [take_flat' G m hmk, List.length_append] at h2
        rw [hsp, hd, List.flatMap_cons] at e
        have e2 : body x ++ (tl ++ ((G.flatMap body).drop at_)) = body G[m] ++ (G.drop (m + 1)).flatMap body := by
          rw [← List.append_assoc, ← e]
          conv => lhs; rw [hsp, hd, List.flatMap_cons]
          generalize (G.take m).flatMap body = P at *
          generalize body G[m] ++ (G.drop (m + 1)).flatMap body = R at *
          rw [List.take_append, List.drop_append, List.drop_append]
          rw [List.take_of_length_le h1]
          simp only [List.drop_length, List.nil_append, Nat.sub_self, List.drop_zero]
          rw [List.drop_of_length_le h1, List.nil_append, List.take_append_drop]
        obtain ⟨hxx, _⟩ := body_inj gx (hg _ (List.getElem_mem hmk)) e2
        rw [← hxx] at h2
        omega
theorem SlR.take {w : World} {A : Option Addr} {n c : Nat} {rs : List Rec} (h : SlR w (.slice A n c) rs) (m : Nat) (hm : m ≤ rs.length) : SlR w (.slice A m c) (rs.take m) := by
  obtain ⟨A', c', e, h1, h2, h3⟩ := h
  obtain ⟨rfl, rfl, rfl⟩ : A = A' ∧ n = rs.length ∧ c = c' := by simpa using e
  have hl : (rs.take m).length = m := by rw [List.length_take]; omega
  refine ⟨A, c, by rw [hl], by omega, h2, fun i hi => ?_⟩
  obtain ⟨b, o, e, hr⟩ := h3 i (by omega)
  refine ⟨b, o, e, ?_⟩
  rw [List.getElem_take]; exact hr
/-- What a number is, brought into 0 .. n. -/
def cutAt (a : Int) (n : Nat) : Int := (a.tmod ((n : Int) + 1) + (n : Int) + 1).tmod ((n : Int) + 1)
theorem cutAt_lt (a : Int) (n : Nat) : 0 ≤ cutAt a n ∧ cutAt a n ≤ n := by
  have h0 : 0 < (n : Int) + 1 := by omega
  have h1 : -((n : Int) + 1) < a.tmod ((n : Int) + 1) := by
    rcases (show 0 ≤ a ∨ 0 ≤ -a by omega) with h | h
    · have := Int.tmod_nonneg ((n : Int) + 1) h; omega
    · have h5 := Int.tmod_lt_of_pos (-a) h0
      rw [Int.neg_tmod] at h5
      omega
  have h2 : 0 ≤ a.tmod ((n : Int) + 1) + (n : Int) + 1 := by omega
  unfold cutAt
  have h3 := Int.tmod_nonneg ((n : Int) + 1) h2
  have h4 := Int.tmod_lt_of_pos (a.tmod ((n : Int) + 1) + (n : Int) + 1) h0
  omega
theorem pre_bd {G : List Rec} {j : Nat} (h : j < (pre G).length) : 0 ≤ (pre G)[j] ∧ (pre G)[j] ≤ ((G.flatMap body).length : Int) := by
  rw [pre_get]
  have h1 : ((G.take j).flatMap body).length ≤ (G.flatMap body).length := by
    conv => rhs; rw [← List.take_append_drop j G, List.flatMap_append, List.length_append]
    omega
  omega
set_option maxRecDepth 1000000 in
set_option maxHeartbeats 8000000 in
theorem recordBack_walk (l : List Rec) (v : Value) (a : Int) (w : World) (h : SlR w v l) (ha0 : -9223372036854775808 ≤ a) (ha1 : a ≤ 9223372036854775807) :
    Calls Try.prog 7 #[v, .int .i64 a] w fun e w' => e = .returned (.bool true) ∧ New w w' := by
  obtain ⟨A, c, rfl, g1, g2, g3⟩ := h
  have HSL : Hid (SlR w (.slice A l.length c) l) := Lib.hid ⟨A, c, rfl, g1, g2, g3⟩
  have G3 := Lib.hid g3
  have HH := Lib.hid (fun W hn => heavy_c l (.slice A l.length c) W (HSL.out.new hn))
  unfold maxLen at g2
  clear g3
  go_enter Try.func7, Try.ntmps7
  go_wp2_with fail
  refine (HH.out _ (New.refl w)).mono ?_
  rintro e w1 ⟨b, rfl, hb, hn1⟩
  have HN1 := Lib.hid hn1
  cases b with
  | true =>
    go_wp2
    go_ret
    exact ⟨rfl, hn1⟩
  | false =>
    have hll := (hb rfl).1
    clear hb hn1 HH
    have HE0 : Hid (OwnE nE 3 w.heap.size ((w1.alloc (.cells #[.int .i64 0] 3)).alloc (.cells #[] 24)) (.slice (some ⟨w1.heap.size, 0, none⟩) 1 1) [0]) := Lib.hid ((OwnE.of_box (enc := nE) (xs := [0]) (Box.last w1 #[.int .i64 0] 3) HN1.out.le (by show 1 ≤ 2 ^ 63 - 1; decide)).new ((New.refl _).alloc _))
    have HG0 : Hid (OwnX w ((w1.alloc (.cells #[.int .i64 0] 3)).alloc (.cells #[] 24)) (.slice (some ⟨w1.heap.size + 1, 0, none⟩) 0 0) []) := Lib.hid (by
      have hx := World.ownsRow_lit (w := w1.alloc (.cells #[.int .i64 0] 3)) (base := w.heap.size) (e := 24) (size := 4) #[] 0 (by have := HN1.out.le; simp; omega) (Nat.zero_le _) rfl
      rw [show (w1.alloc (.cells #[.int .i64 0] 3)).heap.size = w1.heap.size + 1 by simp] at hx
      exact ⟨[], rfl, hx, fun p hp => absurd hp List.not_mem_nil⟩)
    have HNN : Hid (New w ((w1.alloc (.cells #[.int .i64 0] 3)).alloc (.cells #[] 24))) := Lib.hid ((HN1.out.alloc _).alloc _)
    obtain ⟨m, hm⟩ : ∃ m, m = l.length := ⟨_, rfl⟩
    rw [← hm] at g1 hll ⊢
    have HM := Lib.hid hm
    clear hm
    go_wp2
    go_loopw [5, 6, 7, 8] (fun v5 v6 v7 v8 w' => ∃ (k : Nat) (s : ByteArray) (G : List Rec) (A1 : Option Addr) (c1 : Nat) (A2 : Option Addr) (c2 : Nat), v8 = .int .i64 (k : Int) ∧ v5 = .string s ∧ v6 = .slice A1 (G.length + 1) c1 ∧ v7 = .slice A2 G.length c2 ∧ k ≤ m ∧ G.length ≤ k ∧ s.size ≤ 149000 ∧ Hid (s.data.toList = G.flatMap body) ∧ Hid (∀ r ∈ G, GoodOk r) ∧ Hid (OwnE nE 3 w.heap.size w' (.slice A1 (G.length + 1) c1) (pre G)) ∧ Hid (OwnX w w' (.slice A2 G.length c2) G) ∧ Hid (New w w')) (fun _ _ _ v8 _ => m - (intOf v8).toNat)
    case atStart => exact ⟨0, ⟨#[]⟩, [], some ⟨w1.heap.size, 0, none⟩, 1, some ⟨w1.heap.size + 1, 0, none⟩, 0, rfl, rfl, rfl, rfl, by omega, by simp, by decide, (rfl : (⟨#[]⟩ : ByteArray).data.toList = ([] : List Rec).flatMap body), (fun r hr => absurd hr List.not_mem_nil : ∀ r ∈ ([] : List Rec), GoodOk r), HE0.out, HG0.out, HNN.out⟩
    case round =>
      obtain ⟨k, s, G, A1, c1, A2, c2, rfl, rfl, rfl, rfl, hk, hGk, hss, HSD, HGG, HE, HX, HN⟩ := hrel
      by_cases hkm : k < m
      · have hkl : k < l.length := by rw [← HM.out]; exact hkm
        obtain ⟨b, o, rfl, hra⟩ := G3.out k hkl
        obtain ⟨u, hb, q0, q1, q2, q3, hsn, hok⟩ := hra
        have hE := fun W hn => enc_c l[k] (.agg #[.int .i64 l[k].kind, .string l[k].who, u, .string l[k].text]) W ⟨u, rfl, hsn.new hn, hok⟩
        have hR := fun W hn => renc_c l[k] (.agg #[.int .i64 l[k].kind, .string l[k].who, u, .string l[k].text]) W ⟨u, rfl, hsn.new hn, hok⟩
        have hgd : err l[k] = 0 → GoodOk l[k] ∧ encS l[k] = ⟨(body l[k]).toArray⟩ := fun e => ⟨⟨err_good.1 e, hok⟩, encS_good (err_good.1 e)⟩
        obtain ⟨A3, c3, rfl⟩ := hsn.form
        have HSN := Lib.hid hsn
        have HOK := Lib.hid hok
        obtain ⟨r, hr⟩ : ∃ r, r = l[k] := ⟨_, rfl⟩
        rw [← hr] at hE hR hgd q0 q1 q2 q3 HSN HOK
        clear hsn hok
        obtain ⟨kind, who, nums, text⟩ := r
        simp only at q0 q1 q2 q3 hE hR HSN HOK
        clear hr
        have HEE := Lib.hid hE
        have HRR := Lib.hid hR
        have HGD := Lib.hid hgd
        clear hE hR hgd
        have p0 := HN.out.still q0
        have p1 := HN.out.still q1
        have p2 := HN.out.still q2
        have p3 := HN.out.still q3
        go_wp2_with fail
        refine (HEE.out _ HN.out).mono ?_
        rintro e w3 ⟨rfl, hn3⟩
        have HN3 := Lib.hid (HN.out.trans hn3)
        have HE3 := Lib.hid (HE.out.new hn3)
        have HX3 := Lib.hid (HX.out.new hn3)
        have t0 := HN3.out.still q0
        have t1 := HN3.out.still q1
        have t2 := HN3.out.still q2
        have t3 := HN3.out.still q3
        clear p0 p1 p2 p3 hn3 HE HX HN
        go_wp2_with fail
        refine (HRR.out _ HN3.out).mono ?_
        rintro e w4 ⟨rfl, hn4⟩
        have HN4 := Lib.hid (HN3.out.trans hn4)
        have HE4 := Lib.hid (HE3.out.new hn4)
        have HX4 := Lib.hid (HX3.out.new hn4)
        have p0 := HN4.out.still q0
        have p1 := HN4.out.still q1
        have p2 := HN4.out.still q2
        have p3 := HN4.out.still q3
        clear t0 t1 t2 t3 hn4 HE3 HX3 HN3
        generalize err ⟨kind, who, nums, text⟩ = er at *
        generalize encS ⟨kind, who, nums, text⟩ = x at *
        have Q0 := Lib.hid q0
        have Q1 := Lib.hid q1
        have Q2 := Lib.hid q2
        have Q3 := Lib.hid q3
        clear q0 q1 q2 q3
        by_cases her : er = 0
        · obtain ⟨hgood, hx⟩ := HGD.out her
          subst her
          have hbs := body_small hgood
          have hxs : x.size ≤ 17200 := by rw [hx, size_mk]; exact hbs
          have hxd : x.data.toList = body ⟨kind, who, nums, text⟩ := by rw [hx]
          obtain ⟨r, hr⟩ : ∃ r : Rec, r = ⟨kind, who, nums, text⟩ := ⟨_, rfl⟩
          rw [← hr] at hxd hgood
          have HXD := Lib.hid hxd
          have HGOOD := Lib.hid hgood
          have HR := Lib.hid hr
          clear hx hxd hgood hbs hr HGD HEE HRR
          by_cases hs7 : s.size < 131072
          · have hsd2 : (s ++ x).data.toList = (G ++ [r]).flatMap body := by
              rw [ByteArray.data_append, Array.toList_append, HSD.out, HXD.out, List.flatMap_append]; simp
            have hsz2 : (s ++ x).size = s.size + x.size := ByteArray.size_append
            have HSD2 := Lib.hid hsd2
            have HSZ2 := Lib.hid hsz2
            clear hsd2 hsz2
            have hne : ((((G ++ [r]).flatMap body).length : Nat) : Int) = (s.size : Int) + (x.size : Int) := by
              rw [← HSD2.out, size_data, HSZ2.out]; omega
            have hcx := (Box.last w4 #[nE ((s.size : Int) + (x.size : Int))] 3).cell 0
            have HCX := Lib.hid hcx
            have HE5 := Lib.hid (HE4.out.new ((New.refl w4).alloc (.cells #[nE ((s.size : Int) + (x.size : Int))] 3)))
            have HN5 := Lib.hid (HN4.out.alloc (.cells #[nE ((s.size : Int) + (x.size : Int))] 3))
            have HPL := Lib.hid (pre_len G)
            have hpl : (pre G).length ≤ 200000 := by rw [pre_len]; omega
            have HNE := Lib.hid hne
            clear hcx hne
            unfold nE at HE5 HN5 HCX
            go_wp2_with (at_builtin; refine app_one nE w _ rfl _ _ 22 3 rfl (.int .i64 0) 8 rfl info3 rfl (by omega) _ (pre G) rfl HN5.out HE5.out _ 0 _ ((s.size : Int) + (x.size : Int)) rfl HCX.out nE_one (by omega) ?_)
            intro A6 c6 w6 ho6 hn6 hk6
            rw [HPL.out]
            rw [HPL.out, ← HNE.out, ← pre_snoc] at ho6
            have HE6 := Lib.hid ho6
            have HN6 := Lib.hid hn6
            have HX6 := Lib.hid ((HX4.out.new ((New.refl w4).alloc (.cells #[.int .i64 ((s.size : Int) + (x.size : Int))] 3))).kept hk6 (by decide))
            clear ho6 hn6 hk6 HE5 HN5 HCX HE4 HX4 HN4 p0 p1 p2 p3 hpl HPL HNE
            have p0 := HN6.out.still Q0.out
            have p1 := HN6.out.still Q1.out
            have p2 := HN6.out.still Q2.out
            have p3 := HN6.out.still Q3.out
            have HBX := Lib.hid (Box.last w6 #[.int .i64 kind, .string who, .slice A3 nums.length c3, .string text] 24)
            have hgl : G.length ≤ 200000 := by omega
            go_wp2_with (at_builtin; refine app_cells w _ rfl _ _ rfl _ G rfl (HN6.out.alloc _) (HX6.out.new ((New.refl w6).alloc _)) _ 0 _ [(⟨kind, who, nums, text⟩, .slice A3 nums.length c3)] rfl (fun j u hj => by rw [Nat.zero_add, HBX.out.cell, ← hj]; simp [flat, rcells]) (fun p hp => by rw [List.mem_singleton.1 hp]; exact ⟨HSN.out, HOK.out⟩) (by simp; omega) ?_)
            intro A7 c7 w7 ho7 hn7 hk7
            have HE7 := Lib.hid ((HE6.out.new ((New.refl w6).alloc (.cells #[.int .i64 kind, .string who, .slice A3 nums.length c3, .string text] 24))).kept hk7 (by decide))
            rw [← HR.out] at ho7
            have HX7 := Lib.hid ho7
            have HN7 := Lib.hid hn7
            have HGG2 : Hid (∀ y ∈ G ++ [r], GoodOk y) := Lib.hid fun y hy => by
              rcases List.mem_append.1 hy with h | h
              · exact HGG.out y h
              · rw [List.mem_singleton.1 h]; exact HGOOD.out
            have hgl1 : (G ++ [r]).length = G.length + 1 := by simp
            have HGL := Lib.hid hgl1
            clear ho7 hn7 hk7 p0 p1 p2 p3 HBX HE6 HX6 HN6 hgl1
            go_wp2
            go_roundw
            case rel => exact ⟨k + 1, s ++ x, G ++ [r], A6, c6, A7, c7, by go_num, rfl, by rw [HGL.out], by rw [HGL.out], by omega, by rw [HGL.out]; omega, by rw [HSZ2.out]; omega, HSD2.out, HGG2.out, (by rw [HGL.out]; exact HE7.out : OwnE nE 3 w.heap.size w7 (.slice A6 ((G ++ [r]).length + 1) c6) (pre (G ++ [r]))), (by rw [HGL.out]; exact HX7.out : OwnX w w7 (.slice A7 (G ++ [r]).length c7) (G ++ [r])), HN7.out⟩
            case measure => simp [intOf]; omega
          · clear HXD HGOOD HR
            have HNX := Lib.hid HN4.out
            clear p0 p1 p2 p3
            go_wp2
            go_roundw
            case rel => exact ⟨k + 1, s, G, A1, c1, A2, c2, by go_num, rfl, rfl, rfl, by omega, by omega, hss, HSD.out, HGG.out, HE4.out, HX4.out, HN4.out⟩
            case measure => simp [intOf]; omega
        · have her2 : (er == 0) = false := by simpa using her
          clear HGD HEE HRR
          have HNX := Lib.hid HN4.out
          clear p0 p1 p2 p3
          go_wp2
          go_roundw
          case rel => exact ⟨k + 1, s, G, A1, c1, A2, c2, by go_num, rfl, rfl, rfl, by omega, by omega, hss, HSD.out, HGG.out, HE4.out, HX4.out, HN4.out⟩
          case measure => simp [intOf]; omega
      · obtain rfl : k = m := by omega
        have hb1 : -((s.size : Int) + 1) < a.tmod ((s.size : Int) + 1) := by
          rcases (show 0 ≤ a ∨ 0 ≤ -a by omega) with h | h
          · have := Int.tmod_nonneg ((s.size : Int) + 1) h; omega
          · have h5 := Int.tmod_lt_of_pos (-a) (show 0 < (s.size : Int) + 1 by omega)
            rw [Int.neg_tmod] at h5
            omega
        have hb2 : a.tmod ((s.size : Int) + 1) < (s.size : Int) + 1 := Int.tmod_lt_of_pos a (by omega)
        clear g1 g2
        go_wp2
        obtain ⟨AT, hAT, hATs⟩ : ∃ AT : Nat, (a.tmod ((s.size : Int) + 1) + (s.size : Int) + 1) % ((s.size : Int) + 1) = (AT : Int) ∧ AT ≤ s.size := by
          have h1 := Int.emod_nonneg (a.tmod ((s.size : Int) + 1) + (s.size : Int) + 1) (show ((s.size : Int) + 1) ≠ 0 by omega)
          have h2 := Int.emod_lt_of_pos (a.tmod ((s.size : Int) + 1) + (s.size : Int) + 1) (show 0 < ((s.size : Int) + 1) by omega)
          exact ⟨((a.tmod ((s.size : Int) + 1) + (s.size : Int) + 1) % ((s.size : Int) + 1)).toNat, by omega, by omega⟩
        rw [hAT]
        clear hAT hb1 hb2 ha0 ha1
        obtain ⟨ge, ce, e0, z1, z2, _, _, hcells⟩ := HE.out.at (by intro h; have := pre_len G; rw [h] at this; simp at this)
        rw [pre_len] at e0 z1
        obtain ⟨rfl, rfl⟩ : A1 = some ⟨ge, 0, none⟩ ∧ c1 = ce := by simpa using e0
        have HCE := Lib.hid hcells
        unfold maxLen at z2
        clear e0 hcells
        have hsl : s.size = (G.flatMap body).length := by rw [← HSD.out, size_data]
        have HSS := Lib.hid hsl
        clear hsl
        have HRR1 := Lib.hid (decode_c s wr (by omega))
        have HRR2 := Lib.hid (fun W => decode_c (s.extract 0 AT) W (by rw [← size_data, Lib.extract_data, List.length_take]; have := size_data s; simp; omega))
        go_loop [13] (fun v13 => ∃ (M : Nat), v13 = .int .i64 (M : Int) ∧ M ≤ G.length ∧ Hid (((G.take M).flatMap body).length ≤ AT)) (fun v13 => G.length - (intOf v13).toNat)
        case atStart => exact ⟨0, rfl, Nat.zero_le _, (by simp : ((G.take 0).flatMap body).length ≤ AT)⟩
        case round =>
          obtain ⟨M, rfl, hM, HMA⟩ := hrel
          by_cases hMG : M < G.length
          · have hce := HCE.out (M + 1) (by rw [pre_len]; omega)
            rw [pre_get] at hce
            unfold nE at hce
            obtain ⟨P, hPE⟩ : ∃ P, P = ((G.take (M + 1)).flatMap body).length := ⟨_, rfl⟩
            rw [← hPE] at hce
            have HPE := Lib.hid hPE.symm
            clear hPE
            by_cases hP : P ≤ AT
            · have HP := Lib.hid hP
              go_wp2
              go_round
              case rel => exact ⟨M + 1, by go_num, by omega, by rw [HPE.out]; exact HP⟩
              case measure => simp [intOf]; omega
            · have hP2 : AT < P := by omega
              have HXX : Hid (M = G.length ∨ AT < ((G.take (M + 1)).flatMap body).length) := Lib.hid (.inr (by rw [HPE.out]; omega))
              have hdc := dec_cut HGG.out hM HMA.out HXX.out (by rw [← HSS.out]; exact hATs)
              have hda := dec_all HGG.out
              rw [← HSD.out] at hdc hda
              have hex : (s.extract 0 AT).data.toList = s.data.toList.take AT := by rw [Lib.extract_data]; simp
              rw [← hex] at hdc
              have hln : s.data.toList.length = s.size := size_data s
              rw [hln] at hda
              have hcM := HCE.out M (by rw [pre_len]; omega)
              rw [pre_get] at hcM
              unfold nE at hcM
              generalize ((G.take M).flatMap body).length = NM at *
              have HDC := Lib.hid hdc
              have HDA := Lib.hid hda
              have HCM := Lib.hid hcM
              have HSG := Lib.hid (HX.out.slr HN.out)
              have hMc : M ≤ c2 := by
                obtain ⟨A', c', e, h1, _, _⟩ := HSG.out
                obtain ⟨_, rfl⟩ : A2 = A' ∧ c2 = c' := by simpa using e
                omega
              clear hdc hda hex hln hcM
              go_wp2_with fail
              refine HRR1.out.mono ?_
              rintro e w5 ⟨v5, n5, rs5, rfl, hs5, hd5, hn5⟩
              obtain ⟨he1, he2⟩ := hd5.uniq HDA.out
              subst he1
              subst he2
              obtain ⟨A5, c5, rfl⟩ := hs5.form
              have HS5 := Lib.hid hs5
              have HN5 := Lib.hid hn5
              clear hs5 hd5 hn5 HDA
              go_wp2_with fail
              refine (HRR2.out _).mono ?_
              rintro e w6 ⟨v6, n6, rs6, rfl, hs6, hd6, hn6⟩
              obtain ⟨he1, he2⟩ := hd6.uniq HDC.out
              subst he1
              subst he2
              obtain ⟨A6, c6, rfl⟩ := hs6.form
              have htl : (rs5.take M).length = M := by rw [List.length_take]; omega
              rw [htl] at hs6 ⊢
              have HS6 := Lib.hid hs6
              have HSG6 := Lib.hid (HSG.out.new (HN5.out.trans hn6))
              have hc6 := (HN5.out.trans hn6).still HCM.out
              have HN6 := Lib.hid (HN.out.trans (HN5.out.trans hn6))
              have HS56 := Lib.hid (HS5.out.new hn6)
              clear hs6 hd6 hn6 htl HCM
              have HC1 := Lib.hid (same_c rs5 _ _ w6 HS56.out HSG6.out)
              go_wp2_with fail
              refine HC1.out.mono ?_
              rintro e w7 ⟨rfl, hn7⟩
              have hc7 := hn7.still hc6
              have HC2 := Lib.hid (same_c (rs5.take M) _ _ w7 (HS6.out.new hn7) ((HSG6.out.new hn7).take M hM))
              have HN7 := Lib.hid (HN6.out.trans hn7)
              clear hn7 hc6
              go_wp2_with fail
              refine HC2.out.mono ?_
              rintro e w8 ⟨rfl, hn8⟩
              have HN8 := Lib.hid (HN7.out.trans hn8)
              clear hn8 hc7
              go_wp2
              go_ret
              exact ⟨rfl, HN8.out⟩
          · have HXX : Hid (M = G.length ∨ AT < ((G.take (M + 1)).flatMap body).length) := Lib.hid (.inl (by omega))
            have hdc := dec_cut HGG.out hM HMA.out HXX.out (by rw [← HSS.out]; exact hATs)
            have hda := dec_all HGG.out
            rw [← HSD.out] at hdc hda
            have hex : (s.extract 0 AT).data.toList = s.data.toList.take AT := by rw [Lib.extract_data]; simp
            rw [← hex] at hdc
            have hln : s.data.toList.length = s.size := size_data s
            rw [hln] at hda
            have hcM := HCE.out M (by rw [pre_len]; omega)
            rw [pre_get] at hcM
            unfold nE at hcM
            generalize ((G.take M).flatMap body).length = NM at *
            have HDC := Lib.hid hdc
            have HDA := Lib.hid hda
            have HCM := Lib.hid hcM
            have HSG := Lib.hid (HX.out.slr HN.out)
            have hMc : M ≤ c2 := by
              obtain ⟨A', c', e, h1, _, _⟩ := HSG.out
              obtain ⟨_, rfl⟩ : A2 = A' ∧ c2 = c' := by simpa using e
              omega
            clear hdc hda hex hln hcM
            go_wp2_with fail
            refine HRR1.out.mono ?_
            rintro e w5 ⟨v5, n5, rs5, rfl, hs5, hd5, hn5⟩
            obtain ⟨he1, he2⟩ := hd5.uniq HDA.out
            subst he1
            subst he2
            obtain ⟨A5, c5, rfl⟩ := hs5.form
            have HS5 := Lib.hid hs5
            have HN5 := Lib.hid hn5
            clear hs5 hd5 hn5 HDA
            go_wp2_with fail
            refine (HRR2.out _).mono ?_
            rintro e w6 ⟨v6, n6, rs6, rfl, hs6, hd6, hn6⟩
            obtain ⟨he1, he2⟩ := hd6.uniq HDC.out
            subst he1
            subst he2
            obtain ⟨A6, c6, rfl⟩ := hs6.form
            have htl : (rs5.take M).length = M := by rw [List.length_take]; omega
            rw [htl] at hs6 ⊢
            have HS6 := Lib.hid hs6
            have HSG6 := Lib.hid (HSG.out.new (HN5.out.trans hn6))
            have hc6 := (HN5.out.trans hn6).still HCM.out
            have HN6 := Lib.hid (HN.out.trans (HN5.out.trans hn6))
            have HS56 := Lib.hid (HS5.out.new hn6)
            clear hs6 hd6 hn6 htl HCM
            have HC1 := Lib.hid (same_c rs5 _ _ w6 HS56.out HSG6.out)
            go_wp2_with fail
            refine HC1.out.mono ?_
            rintro e w7 ⟨rfl, hn7⟩
            have hc7 := hn7.still hc6
            have HC2 := Lib.hid (same_c (rs5.take M) _ _ w7 (HS6.out.new hn7) ((HSG6.out.new hn7).take M hM))
            have HN7 := Lib.hid (HN6.out.trans hn7)
            clear hn7 hc6
            go_wp2_with fail
            refine HC2.out.mono ?_
            rintro e w8 ⟨rfl, hn8⟩
            have HN8 := Lib.hid (HN7.out.trans hn8)
            clear hn8 hc7
            go_wp2
            go_ret
            exact ⟨rfl, HN8.out⟩
end Go.Proofs.Ytnmmcnblepadlaa
