/- record.first, walked. -/
import Derived.Test.YtnmmcnblepadlaaD3
import Derived.Deep.RegionHeld3
import Derived.Deep.RegionLaw
import Derived.Laws.EntriesVeiled
namespace Go.Proofs.Ytnmmcnblepadlaa
set_option linter.unusedSimpArgs false
set_option linter.unusedVariables false
open Go.RowKit

def zrec : Array Value := #[.int .i64 0, .string ⟨#[]⟩, .slice none 0 0, .string ⟨#[]⟩]
/-- The world within first: the closures' state, their cells, the record under way, the result's cell. -/
structure FS (w w' : World) (pr po p6 p7 p9 p2 : Nat) (L : List UInt8) (ok : Bool) (C : Array Value) : Prop where
  nw : New w w'
  st : St w' pr po L ok
  tk : TakeB w' pr po p6
  gt : GetB w' p6 p7
  rc : Box w' p9 C 24
  rs : Box w' p2 zrec 24
  n29 : p2 ≠ p9
  ge : w.heap.size ≤ pr ∧ w.heap.size ≤ po ∧ w.heap.size ≤ p9 ∧ w.heap.size ≤ p2
section
variable {w a b : World} {pr po p6 p7 p9 p2 : Nat} {L L' : List UInt8} {ok ok' : Bool} {C : Array Value}
theorem FS.call (h : FS w a pr po p6 p7 p9 p2 L ok C) (hs : St b pr po L' ok') (hb : But (Two pr po) a b) : FS w b pr po p6 p7 p9 p2 L' ok' C := by
  have n6 : ¬ Two pr po p6 := fun e => e.elim (fun e => Box.ne h.tk h.st.r (by decide) e) (fun e => Box.ne h.tk h.st.o (by decide) e)
  have n7 : ¬ Two pr po p7 := fun e => e.elim (fun e => Box.ne h.gt h.st.r (by decide) e) (fun e => Box.ne h.gt h.st.o (by decide) e)
  have n9 : ¬ Two pr po p9 := fun e => e.elim (fun e => Box.ne h.rc h.st.r (by decide) e) (fun e => Box.ne h.rc h.st.o (by decide) e)
  have n2 : ¬ Two pr po p2 := fun e => e.elim (fun e => Box.ne h.rs h.st.r (by decide) e) (fun e => Box.ne h.rs h.st.o (by decide) e)
  exact ⟨hb.new h.nw (fun k hk => by have := h.ge; rcases hk with rfl | rfl <;> omega), hs, hb.box h.tk n6, hb.box h.gt n7, hb.box h.rc n9, hb.box h.rs n2, h.n29, h.ge⟩
theorem FS.put (h : FS w a pr po p6 p7 p9 p2 L ok C) (i : Nat) (u : Value) : FS w (a.setCell ⟨p9, i, none⟩ u) pr po p6 p7 p9 p2 L ok (C.setIfInBounds i u) :=
  ⟨h.nw.setCell (p := ⟨p9, i, none⟩) h.ge.2.2.1 u, ⟨h.st.r.far (Box.ne h.st.r h.rc (by decide)) u, h.st.o.far (Box.ne h.st.o h.rc (by decide)) u, h.st.len⟩, Box.far h.tk (Box.ne h.tk h.rc (by decide)) u, Box.far h.gt (Box.ne h.gt h.rc (by decide)) u, h.rc.set i u, h.rs.far h.n29 u, h.n29, h.ge⟩
theorem FS.kept (h : FS w a pr po p6 p7 p9 p2 L ok C) (hn : New w b) (hk : Kept 3 a b) : FS w b pr po p6 p7 p9 p2 L ok C :=
  ⟨hn, ⟨hk.box h.st.r (by decide), hk.box h.st.o (by decide), h.st.len⟩, hk.box h.tk (by decide), hk.box h.gt (by decide), hk.box h.rc (by decide), hk.box h.rs (by decide), h.n29, h.ge⟩
theorem FS.own {α : Type} {enc : α → Value} {v : Value} {xs : List α} {B : Nat} (h : FS w a pr po p6 p7 p9 p2 L ok C) (ho : OwnE enc 3 B a v xs) (hb : But (Two pr po) a b) : OwnE enc 3 B b v xs :=
  ho.but hb fun k D hk e => by
    rcases hk with rfl | rfl
    · exact Box.ne h.st.r (show Box a _ D 3 from e) (by decide) rfl
    · exact Box.ne h.st.o (show Box a _ D 3 from e) (by decide) rfl
theorem FS.new (h : FS w a pr po p6 p7 p9 p2 L ok C) (hn : New a b) : FS w b pr po p6 p7 p9 p2 L ok C :=
  ⟨h.nw.trans hn, h.st.new hn, Box.new hn h.tk, Box.new hn h.gt, h.rc.new hn, h.rs.new hn, h.n29, h.ge⟩
end
theorem FS.start (s : ByteArray) (w : World) (hs : s.size ≤ 1000000) :
    FS w ((((((w.alloc (.cells zrec 24)).alloc (.cells #[.string s] 9)).alloc (.cells #[.bool true] 4)).alloc (.cells #[.func (.func 18) #[] #[.pointer (some ⟨w.heap.size + 1, 0, none⟩), .pointer (some ⟨w.heap.size + 1 + 1, 0, none⟩)]] 45)).alloc (.cells #[.func (.func 19) #[] #[.pointer (some ⟨w.heap.size + 1 + 1 + 1, 0, none⟩)]] 46)).alloc (.cells zrec 24))
      (w.heap.size + 1) (w.heap.size + 1 + 1) (w.heap.size + 1 + 1 + 1) (w.heap.size + 1 + 1 + 1 + 1) (w.heap.size + 1 + 1 + 1 + 1 + 1) w.heap.size s.data.toList true zrec := by
  have e : ∀ (v : World) (o : Obj), (v.alloc o).heap.size = v.heap.size + 1 := fun v o => by simp
  refine ⟨((((((New.refl w).alloc _).alloc _).alloc _).alloc _).alloc _).alloc _, ⟨?_, ?_, by rw [size_data]; exact hs⟩, ?_, ?_, ?_, ?_, by omega, by omega⟩
  · rw [mkS_of]; have := Box.last (w.alloc (.cells zrec 24)) #[.string s] 9; rw [e] at this; exact (((this.alloc _).alloc _).alloc _).alloc _
  · have := Box.last ((w.alloc (.cells zrec 24)).alloc (.cells #[.string s] 9)) #[.bool true] 4; rw [e, e] at this; exact ((this.alloc _).alloc _).alloc _
  · have := Box.last (((w.alloc (.cells zrec 24)).alloc (.cells #[.string s] 9)).alloc (.cells #[.bool true] 4)) #[.func (.func 18) #[] #[.pointer (some ⟨w.heap.size + 1, 0, none⟩), .pointer (some ⟨w.heap.size + 1 + 1, 0, none⟩)]] 45; rw [e, e, e] at this; exact (this.alloc _).alloc _
  · have := Box.last ((((w.alloc (.cells zrec 24)).alloc (.cells #[.string s] 9)).alloc (.cells #[.bool true] 4)).alloc (.cells #[.func (.func 18) #[] #[.pointer (some ⟨w.heap.size + 1, 0, none⟩), .pointer (some ⟨w.heap.size + 1 + 1, 0, none⟩)]] 45)) #[.func (.func 19) #[] #[.pointer (some ⟨w.heap.size + 1 + 1 + 1, 0, none⟩)]] 46; rw [e, e, e, e] at this; exact this.alloc _
  · have := Box.last (((((w.alloc (.cells zrec 24)).alloc (.cells #[.string s] 9)).alloc (.cells #[.bool true] 4)).alloc (.cells #[.func (.func 18) #[] #[.pointer (some ⟨w.heap.size + 1, 0, none⟩), .pointer (some ⟨w.heap.size + 1 + 1, 0, none⟩)]] 45)).alloc (.cells #[.func (.func 19) #[] #[.pointer (some ⟨w.heap.size + 1 + 1 + 1, 0, none⟩)]] 46)) zrec 24; rw [e, e, e, e, e] at this; exact this
  · exact (((((Box.last w zrec 24).alloc _).alloc _).alloc _).alloc _).alloc _
/-- A record stored into the result's cell. -/
theorem rs_put {w : World} {p : Nat} {C0 C1 C2 C3 D0 D1 D2 D3 : Value} (h : Box w p #[C0, C1, C2, C3] 24) :
    Box ((((w.setCell ⟨p, 0, none⟩ D0).setCell ⟨p, 1, none⟩ D1).setCell ⟨p, 2, none⟩ D2).setCell ⟨p, 3, none⟩ D3) p #[D0, D1, D2, D3] 24 :=
  (((h.set 0 D0).set 1 D1).set 2 D2).set 3 D3
theorem rs_new {w w1 : World} {p : Nat} (h : New w w1) (hp : w.heap.size ≤ p) (D0 D1 D2 D3 : Value) :
    New w ((((w1.setCell ⟨p, 0, none⟩ D0).setCell ⟨p, 1, none⟩ D1).setCell ⟨p, 2, none⟩ D2).setCell ⟨p, 3, none⟩ D3) :=
  (((h.setCell (p := ⟨p, 0, none⟩) hp D0).setCell (p := ⟨p, 1, none⟩) hp D1).setCell (p := ⟨p, 2, none⟩) hp D2).setCell (p := ⟨p, 3, none⟩) hp D3
theorem rs_own {w : World} {p B : Nat} {C0 C1 C2 C3 v : Value} {xs : List Int} (h : Box w p #[C0, C1, C2, C3] 24) (ho : OwnE nE 3 B w v xs) (D0 D1 D2 D3 : Value) :
    OwnE nE 3 B ((((w.setCell ⟨p, 0, none⟩ D0).setCell ⟨p, 1, none⟩ D1).setCell ⟨p, 2, none⟩ D2).setCell ⟨p, 3, none⟩ D3) v xs :=
  (((ho.set h (by decide) D0).set (h.set 0 D0) (by decide) D1).set ((h.set 0 D0).set 1 D1) (by decide) D2).set (((h.set 0 D0).set 1 D1).set 2 D2) (by decide) D3
theorem or_bytes {a b : Nat} (ha : a < 256) (hb : b < 256) : bits .or .i64 ((a : Int) * 256) (b : Int) = ((a * 256 + b : Nat) : Int) := by
  show IntKind.i64.wrap ((BitVec.ofInt 64 ((a : Int) * 256) ||| BitVec.ofInt 64 (b : Int)).toNat : Int) = _
  rw [BitVec.toNat_or, ofInt64 _ (by omega) (by omega), ofInt64 _ (by omega) (by omega), Int.toNat_natCast, show ((a : Int) * 256).toNat = 2 ^ 8 * a by omega, ← Nat.two_pow_add_eq_or_of_lt (show b < 2 ^ 8 by omega), IntKind.wrap_i64]
  omega
set_option maxRecDepth 100000 in
set_option maxHeartbeats 8000000 in
theorem first_c (s : ByteArray) (w : World) (hs : s.size ≤ 1000000) :
    Calls Try.prog 16 #[.string s] w fun e w' => ∃ v n, e = .returned (.tuple #[v, .int .i64 (n : Nat)]) ∧ First s.data.toList w' v n ∧ New w w' := by
  have FF := Lib.hid (FS.start s w hs)
  unfold zrec at FF
  have O1 := Lib.hid (of1 s.data.toList)
  go_enter Try.func16, Try.ntmps16
  go_wp2_with fail
  generalize (((((w.alloc (.cells #[.int .i64 0, .string ⟨#[]⟩, .slice none 0 0, .string ⟨#[]⟩] 24)).alloc (.cells #[.string s] 9)).alloc (.cells #[.bool true] 4)).alloc (.cells #[.func (.func 18) #[] #[.pointer (some ⟨w.heap.size + 1, 0, none⟩), .pointer (some ⟨w.heap.size + 1 + 1, 0, none⟩)]] 45)).alloc (.cells #[.func (.func 19) #[] #[.pointer (some ⟨w.heap.size + 1 + 1 + 1, 0, none⟩)]] 46)).alloc (.cells #[.int .i64 0, .string ⟨#[]⟩, .slice none 0 0, .string ⟨#[]⟩] 24) = W0 at *
  generalize w.heap.size + 1 + 1 + 1 + 1 + 1 = p9 at *
  generalize w.heap.size + 1 + 1 + 1 + 1 = p7 at *
  generalize w.heap.size + 1 + 1 + 1 = p6 at *
  generalize w.heap.size + 1 + 1 = po at *
  generalize w.heap.size + 1 = pr at *
  obtain ⟨p2, hp2⟩ : ∃ p2, p2 = w.heap.size := ⟨_, rfl⟩
  rw [← hp2] at FF ⊢
  clear hp2
  have hne := FF.out.n29
  refine (get_c _ _ _ _ _ _ FF.out.st FF.out.tk).mono ?_
  rintro e w1 ⟨rfl, hst, hb⟩
  have F1 := Lib.hid (FF.out.call hst hb)
  clear hst hb FF
  generalize hdN s.data.toList = c1 at *
  have hc9 := F1.out.rc.cell 0
  have hf9 := F1.out.rc.frozen 0
  have hc7 := Box.cell F1.out.gt 0
  have hc6 := Box.cell F1.out.tk 0
  simp at hc9 hc7 hc6
  go_wp2
  obtain ⟨W1, hW1⟩ : ∃ W1, W1 = w1.setCell ⟨p9, 0, none⟩ (.int .i64 (c1 : Int)) := ⟨_, rfl⟩
  have F1' := F1.out.put 0 (.int .i64 (c1 : Int))
  rw [← hW1] at F1' ⊢
  clear hc9 hf9 hc7 hc6 hW1 F1
  have hl1 : (s.data.toList.drop 1).length ≤ s.size := by rw [List.length_drop, size_data]; omega
  generalize tkL s.data.toList true 1 = ok1 at *
  generalize s.data.toList.drop 1 = L1 at *
  have o2 := of2 O1.out
  have o3 := of3 o2
  have F1d := F1'.new ((New.refl W1).drew)
  have FH := Lib.hid F1d
  have hd7 : W1.drew.cell? ⟨p7, 0, none⟩ = some (.func (.func 19) #[] #[.pointer (some ⟨p6, 0, none⟩)]) := Box.cell F1d.gt 0
  have hd6 : W1.drew.cell? ⟨p6, 0, none⟩ = some (.func (.func 18) #[] #[.pointer (some ⟨pr, 0, none⟩), .pointer (some ⟨po, 0, none⟩)]) := Box.cell F1d.tk 0
  clear F1d F1' O1
  have hG := get_c L1 ok1 pr po p6 W1.drew FH.out.st FH.out.tk
  have hl2 : (L1.drop 1).length ≤ s.size := by rw [List.length_drop]; omega
  generalize tkL L1 ok1 1 = ok2 at *
  generalize L1.drop 1 = L2 at *
  generalize hdN L1 = d at *
  have hT := fun W h => take_c d L2 ok2 pr po W h
  have hl3 : (L2.drop d).length ≤ s.size := by rw [List.length_drop]; omega
  generalize tkL L2 ok2 d = ok3 at *
  generalize L2.drop d = L3 at *
  generalize L2.take d = x at *
  have HG := Lib.hid hG
  have HT := Lib.hid hT
  have O3 := Lib.hid o3
  clear hG hT o2 o3
  go_region_held3 (fun V => V.cell? ⟨p7, 0, none⟩ = some (.func (.func 19) #[] #[.pointer (some ⟨p6, 0, none⟩)]) ∧ V.cell? ⟨p6, 0, none⟩ = some (.func (.func 18) #[] #[.pointer (some ⟨pr, 0, none⟩), .pointer (some ⟨po, 0, none⟩)]))
    (first | exact ⟨Box.cell (FY.out.put 1 (.string (mkS x))).gt 0, Box.cell (FY.out.put 1 (.string (mkS x))).tk 0⟩ | exact ⟨Box.cell FY.out.gt 0, Box.cell FY.out.tk 0⟩ | exact ⟨Box.cell FX.out.gt 0, Box.cell FX.out.tk 0⟩ | exact ⟨hd7, hd6⟩)
    (first
      | (go_at_call 19; refine HG.out.mono ?_; rintro e w2 ⟨rfl, hst, hb⟩; have FX := Lib.hid (FH.out.call hst hb); clear hst hb)
      | (go_at_call 18; refine (HT.out _ FX.out.st).mono ?_; rintro e w3 ⟨rfl, hst, hb⟩; have FY := Lib.hid (FX.out.call hst hb); clear hst hb; have hy9 : w3.cell? ⟨p9, 1, none⟩ = some (.string ⟨#[]⟩) := Box.cell FY.out.rc 1; have hyg : w3.frozen? ⟨p9, 1, none⟩ = false := Box.frozen FY.out.rc 1))
  obtain ⟨W2, hW2⟩ : ∃ W2, W2 = w3.setCell ⟨p9, 1, none⟩ (.string (mkS x)) := ⟨_, rfl⟩
  have F2' := FY.out.put 1 (.string (mkS x))
  rw [← hW2] at F2' ⊢
  rename_i hh
  clear hh hy9 hyg hW2 FY FX hd7 hd6 FH
  have F3 : Hid (FS w W2 pr po p6 p7 p9 p2 L3 ok3 #[.int .i64 (c1 : Int), .string (mkS x), .slice none 0 0, .string ⟨#[]⟩]) := Lib.hid F2'
  have hc7 := Box.cell F2'.gt 0
  simp at hc7
  clear F2' HG HT
  have hN := hdN_lt L3
  have o4 := of4 O3.out
  have hG := get_c L3 ok3 pr po p6 W2 F3.out.st F3.out.tk
  have hl4 : (L3.drop 1).length ≤ s.size := by rw [List.length_drop]; omega
  generalize tkL L3 ok3 1 = ok4 at *
  generalize L3.drop 1 = L4 at *
  generalize hdN L3 = n at *
  have O4 := Lib.hid o4
  clear o4 O3
  go_wp2_with fail
  refine hG.mono ?_
  rintro e w4 ⟨rfl, hst, hb⟩
  have F4 := Lib.hid (F3.out.call hst hb)
  clear hst hb hG F3 hc7
  go_wp2
  go_loopw [10] (fun v10 w' => ∃ (n : Nat) (ys : List Int) (A : Option Addr) (c : Nat) (L : List UInt8) (ok : Bool), v10 = .int .i64 (n : Int) ∧ ys.length + n ≤ 255 ∧ L.length ≤ s.size ∧ Hid (FS w w' pr po p6 p7 p9 p2 L ok #[.int .i64 (c1 : Int), .string (mkS x), .slice A ys.length c, .string ⟨#[]⟩]) ∧ Hid (OwnE nE 3 w.heap.size w' (.slice A ys.length c) ys) ∧ Hid (∀ y ∈ ys, i64ok y) ∧ Hid (Of s.data.toList (Ytnmmcnblepadlaa.F4 c1 x n ys L ok))) (fun v10 _ => (intOf v10).toNat)
  case atStart => exact ⟨n, [], none, 0, L4, ok4, rfl, by simp; omega, hl4, F4.out, OwnE.nil _ _ _ _, (fun y hy => absurd hy List.not_mem_nil : ∀ y ∈ ([] : List Int), i64ok y), O4.out⟩
  case round =>
    obtain ⟨m, ys, A, c, L, ok, rfl, hm, hL, FR, HO, HY, OF⟩ := hrel
    have hck := FR.out.st.o.cell 0
    simp at hck
    by_cases hmo : 0 < m ∧ ok = true
    · obtain ⟨hm0, rfl⟩ := hmo
      go_wp2
      have FD := FR.out.new ((New.refl wr).drew)
      have hx2 : wr.drew.cell? ⟨p9, 2, none⟩ = some (.slice A ys.length c) := FD.rc.cell 2
      have HN := Lib.hid (number_c L true pr po p6 p7 wr.drew FD.st FD.tk FD.gt)
      have FDH := Lib.hid FD
      have HOD := Lib.hid (HO.out.new ((New.refl wr).drew))
      have hyl : ys.length ≤ 255 := by omega
      clear FD hck FR HO
      go_region_law ((first
        | (refine step_app_one nE w _ (by rfl) _ _ 22 3 (by rfl) (.int .i64 0) 8 (by rfl) info3 (by rfl) (by omega) _ ys (by rfl) (FX.out.new ((New.refl w5).alloc (.cells #[.int .i64 v] 3))).nw (HO5.out.new ((New.refl w5).alloc (.cells #[.int .i64 v] 3))) _ 0 _ v (by rfl) ((Box.last w5 #[.int .i64 v] 3).cell 0) nE_one (by omega) ?_; intro A6 c6 w6 ho6 hn6 hk6; have FY := Lib.hid ((FX.out.new ((New.refl w5).alloc (.cells #[.int .i64 v] 3))).kept hn6 hk6); have hx6 : w6.cell? ⟨p9, 2, none⟩ = some (.slice A ys.length c) := FY.out.rc.cell 2; have hg6 : w6.frozen? ⟨p9, 2, none⟩ = false := FY.out.rc.frozen 2)
        | (rw [if_pos (by rfl)]; (first | go_big_op | go_simp); refine HN.out.mono ?_; rintro e w5 ⟨v, L5, ok5, rfl, hp, hst, hb⟩; have FX := Lib.hid (FDH.out.call hst hb); have HO5 := Lib.hid (FDH.out.own HOD.out hb); have hx5 : w5.cell? ⟨p9, 2, none⟩ = some (.slice A ys.length c) := FX.out.rc.cell 2; have hx5a : ∀ o, (w5.alloc o).cell? ⟨p9, 2, none⟩ = some (.slice A ys.length c) := fun o => (FX.out.new ((New.refl w5).alloc o)).rc.cell 2; have HPP := Lib.hid hp; clear hst hb hp; dsimp only)))
      all_goals
        have FZ := Lib.hid (FY.out.put 2 (.slice A6 (ys.length + 1) c6))
        have HOZ := Lib.hid (ho6.set FY.out.rc (by decide) (i := 2) (.slice A6 (ys.length + 1) c6))
        have OZ := Lib.hid (of4s OF.out hm0 HPP.out)
        have hL5 := HPP.out.2.1
        have HYZ : Hid (∀ y ∈ ys ++ [v], i64ok y) := Lib.hid fun y hy => by
          rcases List.mem_append.1 hy with h | h
          · exact HY.out y h
          · rw [List.mem_singleton.1 h]; exact HPP.out.1
        generalize w6.setCell ⟨p9, 2, none⟩ (.slice A6 (ys.length + 1) c6) = w7 at *
        clear ho6 hn6 hk6 FY hx6 hg6 hx5 hx5a FX HO5 hx2 HPP OF HY
        go_wp2
        go_roundw
        case rel => exact ⟨m - 1, ys ++ [v], A6, c6, L5, ok5, by go_num, by simp; omega, by omega, (by rw [List.length_append]; exact FZ.out : FS _ _ _ _ _ _ _ _ _ _ #[.int .i64 (c1 : Int), .string (mkS x), .slice A6 (ys ++ [v]).length c6, .string ⟨#[]⟩]), (by rw [List.length_append]; exact HOZ.out : OwnE nE 3 w.heap.size w7 (.slice A6 (ys ++ [v]).length c6) (ys ++ [v])), HYZ.out, OZ.out⟩
        case measure => simp [intOf]; omega
    · have hx : m = 0 ∨ ok = false := by
        rcases Nat.eq_zero_or_pos m with h | h
        · exact .inl h
        · cases ok
          · exact .inr rfl
          · exact absurd ⟨h, rfl⟩ hmo
      have o5 := of5 OF.out hx
      have hc2 : m = 0 ∨ (0 < m ∧ ok = false) := by
        rcases Nat.eq_zero_or_pos m with h | h
        · exact .inl h
        · exact .inr ⟨h, hx.resolve_left (by omega)⟩
      have o6 := of6 o5
      have hG := get_c L ok pr po p6 wr FR.out.st FR.out.tk
      have hA := hdN_lt L
      have hl6 : (L.drop 1).length ≤ s.size := by rw [List.length_drop]; omega
      have hc7 := Box.cell FR.out.gt 0
      have hc6 := Box.cell FR.out.tk 0
      simp at hc7 hc6
      generalize tkL L ok 1 = ok6 at *
      generalize L.drop 1 = L6 at *
      generalize hdN L = ah at *
      have O6 := Lib.hid o6
      have HG := Lib.hid hG
      clear o5 o6 hG hx hmo OF
      rcases hc2 with rfl | ⟨hm0, rfl⟩
      all_goals
        go_wp2_with fail
        refine HG.out.mono ?_
        rintro e w6 ⟨rfl, hst, hb⟩
        have F6 := Lib.hid (FR.out.call hst hb)
        have HO6 := Lib.hid (FR.out.own HO.out hb)
        clear hst hb HG FR HO hc7 hc6
        go_wp2_with fail
        have hBl := hdN_lt L6
        have o7 := of7 O6.out
        have o8 := of8 o7
        have F6d := F6.out.new ((New.refl w6).drew)
        have FH := Lib.hid F6d
        have hd7 : w6.drew.cell? ⟨p7, 0, none⟩ = some (.func (.func 19) #[] #[.pointer (some ⟨p6, 0, none⟩)]) := Box.cell F6d.gt 0
        have hd6 : w6.drew.cell? ⟨p6, 0, none⟩ = some (.func (.func 18) #[] #[.pointer (some ⟨pr, 0, none⟩), .pointer (some ⟨po, 0, none⟩)]) := Box.cell F6d.tk 0
        have hG := get_c L6 ok6 pr po p6 w6.drew F6d.st F6d.tk
        have HOD := Lib.hid (HO6.out.new ((New.refl w6).drew))
        clear F6d F6 HO6 O6
        have hl7 : (L6.drop 1).length ≤ s.size := by rw [List.length_drop]; omega
        have hor := or_bytes hA hBl
        generalize tkL L6 ok6 1 = ok7 at *
        generalize L6.drop 1 = L7 at *
        generalize hdN L6 = bl at *
        generalize ah * 256 + bl = tz at *
        have hw1 : IntKind.i64.wrap ((ah : Int) * 256) = (ah : Int) * 256 := IntWalk.i64_in _ (by omega)
        have hT := fun W h => take_c tz L7 ok7 pr po W h
        have hl8 : (L7.drop tz).length ≤ s.size := by rw [List.length_drop]; omega
        generalize tkL L7 ok7 tz = ok8 at *
        generalize L7.drop tz = L8 at *
        generalize L7.take tz = z at *
        have HG := Lib.hid hG
        have HT := Lib.hid hT
        have O9 := Lib.hid (of9 o8)
        clear hG hT o7 o8
        go_region_held3 (fun V => V.cell? ⟨p7, 0, none⟩ = some (.func (.func 19) #[] #[.pointer (some ⟨p6, 0, none⟩)]) ∧ V.cell? ⟨p6, 0, none⟩ = some (.func (.func 18) #[] #[.pointer (some ⟨pr, 0, none⟩), .pointer (some ⟨po, 0, none⟩)]))
          (first | exact ⟨Box.cell (FY.out.put 3 (.string (mkS z))).gt 0, Box.cell (FY.out.put 3 (.string (mkS z))).tk 0⟩ | exact ⟨Box.cell FY.out.gt 0, Box.cell FY.out.tk 0⟩ | exact ⟨Box.cell FX.out.gt 0, Box.cell FX.out.tk 0⟩ | exact ⟨hd7, hd6⟩)
          (first
            | (go_at_call 19; refine HG.out.mono ?_; rintro e w8 ⟨rfl, hst, hb⟩; have FX := Lib.hid (FH.out.call hst hb); have HOX := Lib.hid (FH.out.own HOD.out hb); clear hst hb)
            | (go_at_call 18; refine (HT.out _ FX.out.st).mono ?_; rintro e w9 ⟨rfl, hst, hb⟩; have FY := Lib.hid (FX.out.call hst hb); have HOY := Lib.hid (FX.out.own HOX.out hb); clear hst hb; have hy9 : w9.cell? ⟨p9, 3, none⟩ = some (.string ⟨#[]⟩) := Box.cell FY.out.rc 3; have hyg : w9.frozen? ⟨p9, 3, none⟩ = false := Box.frozen FY.out.rc 3))
        obtain ⟨W9, hW9⟩ : ∃ W9, W9 = w9.setCell ⟨p9, 3, none⟩ (.string (mkS z)) := ⟨_, rfl⟩
        have F9 : FS w (w9.setCell ⟨p9, 3, none⟩ (.string (mkS z))) pr po p6 p7 p9 p2 L8 ok8 #[.int .i64 (c1 : Int), .string (mkS x), .slice A ys.length c, .string (mkS z)] := FY.out.put 3 (.string (mkS z))
        have HO9 := HOY.out.set FY.out.rc (by decide) (i := 3) (.string (mkS z))
        rw [← hW9] at F9 HO9 ⊢
        rename_i hh
        clear hh hy9 hyg hW9 FY FX hd7 hd6 FH HOX HOY HOD HG HT hor hw1
        clear O4 F4 hl1 hl2 hl3 hl4 hl6 hl7 hck
        obtain ⟨r0, hr0⟩ : ∃ r0 : Rec, r0 = ⟨(c1 : Int), mkS x, ys, mkS z⟩ := ⟨_, rfl⟩
        have hE := fun v W h => enc_c r0 v W h
        have hrv : RecV W9 (.agg #[.int .i64 (c1 : Int), .string (mkS x), .slice A ys.length c, .string (mkS z)]) r0 := by rw [hr0]; exact ⟨_, rfl, HO9.sl, HY.out⟩
        have hsound : ok8 = true → err r0 = 0 → encS r0 = (s.extract 0 (s.size - L8.length)) → IsRec s.data.toList r0 ∧ s.size - L8.length = (body r0).length := by
          intro _ he hb
          have hg := err_good.1 he
          rw [encS_good hg] at hb
          have hb2 := congrArg (fun t : ByteArray => t.data.toList) hb
          simp only [Lib.extract_data, List.drop_zero, Nat.sub_zero] at hb2
          have hb3 : body r0 = s.data.toList.take (s.size - L8.length) := hb2
          refine ⟨⟨⟨hg, by rw [hr0]; exact HY.out⟩, s.data.toList.drop (s.size - L8.length), by rw [hb3, List.take_append_drop]⟩, ?_⟩
          rw [hb3, List.length_take, size_data]; omega
        have hcomp : ∀ r, IsRec s.data.toList r → ok8 = true ∧ err r0 = 0 ∧ encS r0 = (s.extract 0 (s.size - L8.length)) := by
          rintro r ⟨hg, tl, e⟩
          obtain ⟨h1, h2, h3⟩ := O9.out r tl hg e
          rw [← hr0] at h2
          subst h2
          refine ⟨h1, err_good.2 hg.1, ?_⟩
          rw [encS_good hg.1]
          refine data_inj ?_
          rw [Lib.extract_data, List.drop_zero, Nat.sub_zero, h3, e]
          have hsz : s.size = (body r0).length + tl.length := by rw [← size_data, e, List.length_append]
          rw [hsz, Nat.add_sub_cancel]
          simp
        have hc90 := F9.rc.cell 0
        have hc91 := F9.rc.cell 1
        have hc92 := F9.rc.cell 2
        have hc93 := F9.rc.cell 3
        have hcr := F9.st.r.cell 0
        have hL8 : (mkS L8).size = L8.length := mkS_size L8
        simp at hc90 hc91 hc92 hc93 hcr
        have HRV := Lib.hid hrv
        have HSN := Lib.hid hsound
        have HCM := Lib.hid hcomp
        have HE := Lib.hid (hE _ _ hrv)
        have F9H := Lib.hid F9
        have HL8 := Lib.hid hL8
        have HO9H := Lib.hid HO9
        have HR0 := Lib.hid hr0
        clear hrv hsound hcomp hE F9 HO9 O9 hr0 hL8
        generalize err r0 = er at *
        generalize encS r0 = es at *
        obtain ⟨nn, hnn⟩ : ∃ nn : Nat, nn = s.size - L8.length := ⟨_, rfl⟩
        rw [← hnn] at HSN HCM
        have hsub : (s.size : Int) - ((mkS L8).size : Int) = (nn : Int) := by rw [HL8.out]; omega
        have hnl : nn ≤ s.size := by omega
        clear hnn
        go_wp2_with fail
        refine HE.out.mono ?_
        rintro e w10 ⟨rfl, hn10⟩
        have F10 := F9H.out.new hn10
        have hco := F10.st.o.cell 0
        have hd0 := F10.rc.cell 0
        have hd1 := F10.rc.cell 1
        have hd2 := F10.rc.cell 2
        have hd3 := F10.rc.cell 3
        have he0 := F10.rs.cell 0
        have he1 := F10.rs.cell 1
        have he2 := F10.rs.cell 2
        have he3 := F10.rs.cell 3
        have hf0 := F10.rs.frozen 0
        have hf1 := F10.rs.frozen 1
        have hf2 := F10.rs.frozen 2
        have hf3 := F10.rs.frozen 3
        simp [zrec] at hco hd0 hd1 hd2 hd3 he0 he1 he2 he3
        have F10H := Lib.hid F10
        have HO10 := Lib.hid (HO9H.out.new hn10)
        clear hn10 HE F9H F10 hc90 hc91 hc92 hc93 hcr HRV HO9H
        have hneg : (∀ r, ¬ IsRec s.data.toList r) → ∀ Wf, Wf = ((((w10.setCell ⟨p2, 0, none⟩ (.int .i64 0)).setCell ⟨p2, 1, none⟩ (.string ⟨#[]⟩)).setCell ⟨p2, 2, none⟩ (.slice none 0 0)).setCell ⟨p2, 3, none⟩ (.string ⟨#[]⟩)) → First s.data.toList Wf (.agg #[.int .i64 0, .string ⟨#[]⟩, .slice none 0 0, .string ⟨#[]⟩]) 0 ∧ New w Wf ∧ Box Wf p2 #[.int .i64 0, .string ⟨#[]⟩, .slice none 0 0, .string ⟨#[]⟩] 24 := by
          rintro hno Wf rfl
          exact ⟨.inr ⟨rfl, hno, _, _, _, _, _, _, rfl⟩, rs_new F10H.out.nw F10H.out.ge.2.2.2 _ _ _ _, rs_put F10H.out.rs⟩
        have HNEG := Lib.hid hneg
        clear hneg
        cases ok8 with
        | false =>
          have HNO := Lib.hid (HNEG.out (fun r hr => by have := (HCM.out r hr).1; cases this))
          clear HNEG HCM HSN
          go_wp2
          obtain ⟨Wf, hWf⟩ : ∃ Wf, Wf = ((((w10.setCell ⟨p2, 0, none⟩ (.int .i64 0)).setCell ⟨p2, 1, none⟩ (.string ⟨#[]⟩)).setCell ⟨p2, 2, none⟩ (.slice none 0 0)).setCell ⟨p2, 3, none⟩ (.string ⟨#[]⟩)) := ⟨_, rfl⟩
          obtain ⟨hF, hN, hB⟩ := HNO.out Wf hWf
          rw [← hWf]
          have k0 := hB.cell 0
          have k1 := hB.cell 1
          have k2 := hB.cell 2
          have k3 := hB.cell 3
          simp at k0 k1 k2 k3
          exact bodyPost_ret (v := .tuple #[.agg #[.int .i64 0, .string ⟨#[]⟩, .slice none 0 0, .string ⟨#[]⟩], .int .i64 0]) (by simp [results, Try.results16, go_sem, k0, k1, k2, k3]) rfl ⟨_, 0, rfl, hF, hN⟩
        | true =>
          by_cases her : er = 0
          · subst her
            by_cases hes : es = s.extract 0 nn
            · obtain ⟨hR, hl⟩ := HSN.out rfl rfl hes
              subst hes
              have HR := Lib.hid hR
              have HLB := Lib.hid hl
              clear hR hl HSN HCM HNEG
              go_wp2
              have hB := rs_put (D0 := .int .i64 (c1 : Int)) (D1 := .string (mkS x)) (D2 := .slice A ys.length c) (D3 := .string (mkS z)) F10H.out.rs
              have hN := rs_new F10H.out.nw F10H.out.ge.2.2.2 (.int .i64 (c1 : Int)) (.string (mkS x)) (.slice A ys.length c) (.string (mkS z))
              have hO := rs_own F10H.out.rs HO10.out (.int .i64 (c1 : Int)) (.string (mkS x)) (.slice A ys.length c) (.string (mkS z))
              generalize ((((w10.setCell ⟨p2, 0, none⟩ (.int .i64 (c1 : Int))).setCell ⟨p2, 1, none⟩ (.string (mkS x))).setCell ⟨p2, 2, none⟩ (.slice A ys.length c)).setCell ⟨p2, 3, none⟩ (.string (mkS z))) = Wf at *
              have k0 := hB.cell 0
              have k1 := hB.cell 1
              have k2 := hB.cell 2
              have k3 := hB.cell 3
              simp at k0 k1 k2 k3
              have hRV : RecT Wf (.agg #[.int .i64 (c1 : Int), .string (mkS x), .slice A ys.length c, .string (mkS z)]) r0 := by rw [HR0.out]; exact ⟨_, rfl, hO.slt, HY.out⟩
              exact bodyPost_ret (v := .tuple #[.agg #[.int .i64 (c1 : Int), .string (mkS x), .slice A ys.length c, .string (mkS z)], .int .i64 (nn : Int)]) (by simp [results, Try.results16, go_sem, k0, k1, k2, k3]) rfl ⟨_, nn, rfl, .inl ⟨r0, HR.out, HLB.out, hRV⟩, hN⟩
            · have HNO := Lib.hid (HNEG.out (fun r hr => hes (HCM.out r hr).2.2))
              have hes1 : ¬ es.toList = (s.extract 0 nn).toList := fun h => hes (data_inj (by rw [← Lib.toList_data, ← Lib.toList_data]; exact h))
              have hes2 : (es.toList == (s.extract 0 nn).toList) = false := by rw [beq_eq_false_iff_ne]; exact hes1
              have hes3 : (es.toList != (s.extract 0 nn).toList) = true := by simpa using hes1
              clear HNEG HCM HSN hes hes1
              go_wp2
              obtain ⟨Wf, hWf⟩ : ∃ Wf, Wf = ((((w10.setCell ⟨p2, 0, none⟩ (.int .i64 0)).setCell ⟨p2, 1, none⟩ (.string ⟨#[]⟩)).setCell ⟨p2, 2, none⟩ (.slice none 0 0)).setCell ⟨p2, 3, none⟩ (.string ⟨#[]⟩)) := ⟨_, rfl⟩
              obtain ⟨hF, hN, hB⟩ := HNO.out Wf hWf
              rw [← hWf]
              have k0 := hB.cell 0
              have k1 := hB.cell 1
              have k2 := hB.cell 2
              have k3 := hB.cell 3
              simp at k0 k1 k2 k3
              exact bodyPost_ret (v := .tuple #[.agg #[.int .i64 0, .string ⟨#[]⟩, .slice none 0 0, .string ⟨#[]⟩], .int .i64 0]) (by simp [results, Try.results16, go_sem, k0, k1, k2, k3]) rfl ⟨_, 0, rfl, hF, hN⟩
          · have HNO := Lib.hid (HNEG.out (fun r hr => her (HCM.out r hr).2.1))
            clear HNEG HCM HSN
            have her2 : (er == 0) = false := by simpa using her
            have her3 : (er != 0) = true := by simpa using her
            go_wp2
            obtain ⟨Wf, hWf⟩ : ∃ Wf, Wf = ((((w10.setCell ⟨p2, 0, none⟩ (.int .i64 0)).setCell ⟨p2, 1, none⟩ (.string ⟨#[]⟩)).setCell ⟨p2, 2, none⟩ (.slice none 0 0)).setCell ⟨p2, 3, none⟩ (.string ⟨#[]⟩)) := ⟨_, rfl⟩
            obtain ⟨hF, hN, hB⟩ := HNO.out Wf hWf
            rw [← hWf]
            have k0 := hB.cell 0
            have k1 := hB.cell 1
            have k2 := hB.cell 2
            have k3 := hB.cell 3
            simp at k0 k1 k2 k3
            exact bodyPost_ret (v := .tuple #[.agg #[.int .i64 0, .string ⟨#[]⟩, .slice none 0 0, .string ⟨#[]⟩], .int .i64 0]) (by simp [results, Try.results16, go_sem, k0, k1, k2, k3]) rfl ⟨_, 0, rfl, hF, hN⟩
end Go.Proofs.Ytnmmcnblepadlaa
