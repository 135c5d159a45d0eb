/- The disk's Crash, walked. -/
import Derived.Test.YtjeaejeikgkcaaaK2
namespace Go.Proofs.Ytjeaejeikgkcaaa
set_option linter.unusedSimpArgs false
set_option linter.unusedVariables false
open Go.RowKit

theorem Box.setCells {t : TypeId} {b : Nat} : ∀ (vs : List Value) (o : Nat) (w : World) (X : List Value), Box w b X.toArray t → o + vs.length ≤ X.length → Box (w.setCells b o vs) b (X.take o ++ vs ++ X.drop (o + vs.length)).toArray t
  | [], o, w, X, h, _ => by simpa [World.setCells] using h
  | v :: r, o, w, X, h, hl => by
    rw [World.setCells]
    have h1 := h.set o v
    rw [List.setIfInBounds_toArray] at h1
    have hol : o < X.length := by simp at hl; omega
    have h2 := Box.setCells r (o + 1) _ (X.set o v) h1 (by simp at hl ⊢; omega)
    have e : (X.set o v).take (o + 1) ++ r ++ (X.set o v).drop (o + 1 + r.length) = X.take o ++ (v :: r) ++ X.drop (o + (v :: r).length) := by
      rw [List.take_succ_eq_append_getElem (by simpa using hol), List.getElem_set_self, List.take_set_of_le (Nat.le_refl _), List.drop_set_of_lt (by omega)]
      simp only [List.append_assoc, List.cons_append, List.nil_append, List.length_cons]
      congr 4
      omega
    rw [e] at h2
    exact h2
theorem But.setCells {S : Nat → Prop} {b : Nat} (hb : S b) : ∀ (vs : List Value) (o : Nat) (a w : World), But S a w → But S a (w.setCells b o vs)
  | [], _, _, _, h => h
  | v :: r, o, a, w, h => by
    rw [World.setCells]
    exact But.setCells hb r (o + 1) a _ (h.set hb v)
theorem DB.copyIs {w : World} {p : Nat} {d : DS} {c : Value} (h : DB w p d c) (ss : List ByteArray) (hs : ss.length = 256) : DB (w.setCells p 0 (ss.map Value.string)) p { d with is := ss } c := by
  refine ⟨?_, hs, h.l2⟩
  have h1 := Box.setCells (ss.map Value.string) 0 w (dcells d c) h.b (by simp [dcells, hs, h.l1])
  have e : (dcells d c).take 0 ++ ss.map Value.string ++ (dcells d c).drop (0 + (ss.map Value.string).length) = dcells { d with is := ss } c := by
    unfold dcells
    rw [List.take_zero, List.nil_append, Nat.zero_add, List.length_map, hs, List.drop_left' (by simp [h.l1])]
  rw [e] at h1
  exact h1
theorem DB.copyWas {w : World} {p : Nat} {d : DS} {c : Value} (h : DB w p d c) (ss : List ByteArray) (hs : ss.length = 256) : DB (w.setCells p 256 (ss.map Value.string)) p { d with was := ss } c := by
  refine ⟨?_, h.l1, hs⟩
  have h1 := Box.setCells (ss.map Value.string) 256 w (dcells d c) h.b (by simp [dcells, hs, h.l1, h.l2])
  have e : (dcells d c).take 256 ++ ss.map Value.string ++ (dcells d c).drop (256 + (ss.map Value.string).length) = dcells { d with was := ss } c := by
    unfold dcells
    rw [List.take_left' (by simp [h.l1]), List.length_map, hs, ← List.drop_drop, List.drop_left' (by simp [h.l1]), List.drop_left' (by simp [h.l2]), List.append_assoc]
  rw [e] at h1
  exact h1
theorem DB.rangeIs {w : World} {p : Nat} {d : DS} {c : Value} (h : DB w p d c) : w.rangeAt p 0 (d.is.map Value.string) := fun j v hj => by
  have hl := (List.getElem?_eq_some_iff.1 hj).1
  rw [h.at, Nat.zero_add]
  unfold dcells
  rw [List.getElem?_append_left hl, hj]
theorem DB.rangeWas {w : World} {p : Nat} {d : DS} {c : Value} (h : DB w p d c) : w.rangeAt p 256 (d.was.map Value.string) := fun j v hj => by
  have hl := (List.getElem?_eq_some_iff.1 hj).1
  rw [h.at]
  unfold dcells
  rw [List.getElem?_append_right (by simp [h.l1]), show 256 + j - (d.is.map Value.string).length = j by simp [h.l1], List.getElem?_append_left hl, hj]
theorem DB.there {w : World} {p : Nat} {d : DS} {c : Value} (h : DB w p d c) (o n : Nat) (ho : o + n ≤ 519) : w.there p o n := fun j hj => by
  refine ⟨?_, h.frozen _⟩
  rw [h.at, List.getElem?_eq_getElem (by simp [dcells, h.l1, h.l2]; omega)]
  rfl
theorem info56 : (Try.prog.info? 56).map (·.size) = some 256 := by kernel_rfl
/-- The sectors as they are, all at once. -/
theorem wpList_copyIs {ops : Array Oper} {rest : List Oper} {o : Oper} {a : Act} {w : World} {Q : Exit → Act → World → Prop} (hgd : o.guard = none) (x y : Operand) (ho : o.op = .store 56 x y)
    (p : Nat) (d : DS) (c : Value) (ss : List ByteArray) (hx : a.eval x = .pointer (some ⟨p, 0, none⟩)) (hy : a.eval y = .agg (ss.map Value.string).toArray) (hdb : DB w p d c) (hs : ss.length = 256)
    (h : ∀ w', DB w' p { d with is := ss } c → But (Onl p) w w' → wpList Try.prog ops Q rest (a.put o.dst undef) w') : wpList Try.prog ops Q (o :: rest) a w := by
  refine wpList_store_mid hgd 56 x y ho p 0 (ss.map Value.string).toArray hx hy ?_ ?_ ?_ ?_
  · simp only [List.size_toArray, List.length_map, hs]; exact hdb.there 0 256 (by omega)
  · simp only [List.size_toArray, List.length_map, hs]; exact info56
  · exact all_oneCell_toArray fun v hv => by obtain ⟨s, _, rfl⟩ := List.mem_map.1 hv; rfl
  · exact h _ (hdb.copyIs ss hs) (But.setCells (S := Onl p) (b := p) rfl _ 0 w w (But.refl _ _))
theorem wpList_copyWas {ops : Array Oper} {rest : List Oper} {o : Oper} {a : Act} {w : World} {Q : Exit → Act → World → Prop} (hgd : o.guard = none) (x y : Operand) (ho : o.op = .store 56 x y)
    (p : Nat) (d : DS) (c : Value) (ss : List ByteArray) (hx : a.eval x = .pointer (some ⟨p, 256, none⟩)) (hy : a.eval y = .agg (ss.map Value.string).toArray) (hdb : DB w p d c) (hs : ss.length = 256)
    (h : ∀ w', DB w' p { d with was := ss } c → But (Onl p) w w' → wpList Try.prog ops Q rest (a.put o.dst undef) w') : wpList Try.prog ops Q (o :: rest) a w := by
  refine wpList_store_mid hgd 56 x y ho p 256 (ss.map Value.string).toArray hx hy ?_ ?_ ?_ ?_
  · simp only [List.size_toArray, List.length_map, hs]; exact hdb.there 256 256 (by omega)
  · simp only [List.size_toArray, List.length_map, hs]; exact info56
  · exact all_oneCell_toArray fun v hv => by obtain ⟨s, _, rfl⟩ := List.mem_map.1 hv; rfl
  · exact h _ (hdb.copyWas ss hs) (But.setCells (S := Onl p) (b := p) rfl _ 256 w w (But.refl _ _))
/-- A sector's number. -/
def iE (n : Nat) : Value := .int .i64 (n : Int)
theorem iE_one (n : Nat) : (iE n).oneCell' = true := rfl
/-- What is kept of what is cached: the k-th one, if its bit is set. -/
def bitOn (keep : Int) (k : Nat) : Bool := bits .and .u64 (keep / 2 ^ (k % 64)) 1 == 1
/-- Sectors as they last behind a crash, k of the cached ones seen. -/
def crashW (is was : List ByteArray) (l : List Nat) (keep : Int) : Nat → List ByteArray
  | 0 => was
  | k + 1 => if bitOn keep k then (crashW is was l keep k).set (l.getD k 0) (is.getD (l.getD k 0) ⟨#[]⟩) else crashW is was l keep k
theorem crashW_len (is was : List ByteArray) (l : List Nat) (keep : Int) (k : Nat) : (crashW is was l keep k).length = was.length := by
  induction k with
  | zero => rfl
  | succ k ih => unfold crashW; split <;> simp [ih]
def crashD (d : DS) (l : List Nat) (keep : Int) : DS :=
  if d.dead then d else { d with is := crashW d.is d.was l keep l.length, was := crashW d.is d.was l keep l.length, cut := -1, fail := -1, dead := true }
section
variable {w : World} {p : Nat} {d : DS} {c : Value}
theorem crash_dead (h : DB w p d c) (hd : d.dead = true) (keep : Int) : Calls Try.prog 16 #[.pointer (some ⟨p, 0, none⟩), .int .u64 keep] w fun e w' => e = .returned (.tuple #[]) ∧ w = w' := by
  have k1 := h.dead
  rw [hd] at k1
  clear hd h
  go_enter Try.func16, Try.ntmps16
  go_wp2
  refine bodyPost_ret (results_none rfl _ _ _) rfl ?_
  exact ⟨rfl, rfl⟩
set_option maxRecDepth 100000 in
set_option maxHeartbeats 2000000 in
theorem crash_live (h : DB w p d c) (hd : d.dead = false) (keep : Int) (l : List Nat) (B : Nat) (hB : B ≤ p) (hc : OwnE iE 3 B w c l) (hl : ∀ i ∈ l, i < 256) (hll : l.length ≤ 1000000) (hk0 : 0 ≤ keep) (hk1 : keep < 18446744073709551616) :
    Calls Try.prog 16 #[.pointer (some ⟨p, 0, none⟩), .int .u64 keep] w fun e w' => e = .returned (.tuple #[]) ∧ DB w' p (crashD d l keep) (.slice none 0 0) ∧ But (Onl p) w w' := by
  obtain ⟨A, cc, rfl⟩ := hc.form
  have H := Lib.hid h
  have HD := Lib.hid hd
  have HC := Lib.hid hc
  have HL := Lib.hid hl
  have k1 := h.dead
  have k2 := h.cached
  rw [hd] at k1
  clear h hd hc hl
  go_enter Try.func16, Try.ntmps16
  have H0 : Hid (DB w p { d with was := crashW d.is d.was l keep 0 } (.slice A l.length cc)) := H
  go_wp2
  go_loopw [15] (fun v15 w' => ∃ k : Nat, v15 = .int .i64 (k : Int) ∧ k ≤ l.length ∧ Hid (DB w' p { d with was := crashW d.is d.was l keep k } (.slice A l.length cc)) ∧ Hid (OwnE iE 3 B w' (.slice A l.length cc) l) ∧ Hid (But (Onl p) w w')) (fun v15 _ => l.length - (intOf v15).toNat)
  case atStart => exact ⟨0, rfl, Nat.zero_le _, H0.out, HC.out, But.refl _ _⟩
  case round =>
    obtain ⟨k, rfl, hk, HDB, HO, HB⟩ := hrel
    by_cases hkl : k < l.length
    · obtain ⟨g, c', e0, z1, z2, _, ⟨cur, hcur⟩, hcells⟩ := HO.out.at (by intro h; rw [h] at hkl; cases hkl)
      obtain ⟨rfl, rfl⟩ : A = some ⟨g, 0, none⟩ ∧ cc = c' := by simpa using e0
      have hcell := hcells k hkl
      have hi := HL.out _ (List.getElem_mem hkl)
      unfold iE at hcell
      have hgd : l.getD k 0 = l[k] := by simp [List.getD, List.getElem?_eq_getElem hkl]
      have hcs : HDB.out.l1 = HDB.out.l1 := rfl
      have hisc := HDB.out.is hi
      have hfz := HDB.out.frozen (256 + l[k])
      have hwas := HDB.out.was hi
      generalize l[k] = i at *
      clear hcells e0 hcur hcs
      unfold maxLen at z2
      by_cases hbit : bitOn keep k = true
      · have hst : crashW d.is d.was l keep (k + 1) = (crashW d.is d.was l keep k).set i (d.is.getD i ⟨#[]⟩) := by
          conv => lhs; unfold crashW
          rw [if_pos hbit, hgd]
        have hgi : d.is.getD i ⟨#[]⟩ = d.is[i]'(by rw [HDB.out.l1]; exact hi) := by simp [List.getD, List.getElem?_eq_getElem (show i < d.is.length by rw [HDB.out.l1]; exact hi)]
        have HST := Lib.hid hst
        rw [hgi] at HST
        simp only at hisc
        have HPW := Lib.hid (HDB.out.putWas hi (d.is[i]'(by rw [HDB.out.l1]; exact hi)))
        have hisc2 := (HDB.out.putWas hi (d.is[i]'(by rw [HDB.out.l1]; exact hi))).is hi
        simp only at HPW hisc2
        rw [← HST.out] at HPW
        have HOW := Lib.hid (HO.out.set HDB.out.b (by decide) (i := 256 + i) (.string (d.is[i]'(by rw [HDB.out.l1]; exact hi))))
        have HBW := Lib.hid (HB.out.set (p := p) (i := 256 + i) rfl (.string (d.is[i]'(by rw [HDB.out.l1]; exact hi))))
        unfold bitOn at hbit
        generalize d.is[i]'(by rw [HDB.out.l1]; exact hi) = si at *
        generalize (crashW d.is d.was l keep k)[i]'_ = wi at *
        have HIS2 := Lib.hid hisc2
        have q0 : (0 : Int) ≤ (i : Int) := by omega
        have q1 : (i : Int) < 256 := by omega
        clear hst hgi hisc2
        go_wp2
        go_region_held3 (fun V => V.cell? ⟨p, i, none⟩ = some (.string si)) (first | exact hisc | exact HIS2.out) (fail)
        rename_i hh
        clear hh
        have HD3 : Hid (DB (wr.setCell ⟨p, 256 + i, none⟩ (.string si)).drew p { d with was := crashW d.is d.was l keep (k + 1) } (.slice (some ⟨g, 0, none⟩) l.length cc)) := Lib.hid ⟨HPW.out.b, HPW.out.l1, HPW.out.l2⟩
        have HO3 := Lib.hid (HOW.out.new (New.refl _).drew)
        have HB3 := Lib.hid (HBW.out.drew)
        generalize (wr.setCell ⟨p, 256 + i, none⟩ (.string si)).drew = w3 at *
        clear hisc hwas hfz hcell HPW HOW HBW HIS2 HST
        go_wp2
        go_roundw
        case rel => exact ⟨k + 1, by go_num, by omega, HD3.out, HO3.out, HB3.out⟩
        case measure => simp [intOf]; omega
      · have hst : crashW d.is d.was l keep (k + 1) = crashW d.is d.was l keep k := by
          conv => lhs; unfold crashW
          rw [if_neg hbit]
        have HDB2 := HDB
        rw [← hst] at HDB2
        have hbit2 : bitOn keep k = false := by simpa using hbit
        unfold bitOn at hbit2
        clear hst hbit hisc hwas
        go_wp2
        go_roundw
        case rel => exact ⟨k + 1, by go_num, by omega, HDB2.out, HO.out, HB.out⟩
        case measure => simp [intOf]; omega
    · obtain rfl : k = l.length := by omega
      have hfin : crashD d l keep = { d with is := crashW d.is d.was l keep l.length, was := crashW d.is d.was l keep l.length, cut := -1, fail := -1, dead := true } := by
        unfold crashD; rw [HD.out]; rfl
      have HFIN := Lib.hid hfin
      clear hfin
      generalize crashW d.is d.was l keep l.length = cw at *
      have hl2 : cw.length = 256 := HDB.out.l2
      have HRG := Lib.hid (HDB.out.rangeWas)
      have HL2 := Lib.hid hl2
      clear hl2
      go_wp2_with (first
        | (refine wpList_load_mid rfl 56 _ rfl p 256 rfl (cw.map Value.string) _ HRG.out rfl rfl (by rw [List.length_map, HL2.out]; exact info56) ?_)
        | (refine wpList_copyIs rfl _ _ rfl p _ _ cw rfl rfl HDB.out HL2.out ?_))
      intro w3 hd3 hb3
      have f1 := hd3.frozen 512
      have f2 := hd3.frozen 514
      have f3 := hd3.frozen 515
      have f4 := hd3.frozen 517
      have c1 := hd3.cached
      have c2 := hd3.cut
      have c3 := hd3.fail
      have c4 := hd3.dead
      have HR := Lib.hid ((((hd3.putCached (.slice none 0 0)).putCut (-1)).putFail (-1)).putDead true)
      have HBR := Lib.hid (((((HB.out.trans hb3).set (p := p) (i := 512) rfl (.slice none 0 0)).set (p := p) (i := 514) rfl (.int .i64 (-1))).set (p := p) (i := 515) rfl (.int .i64 (-1))).set (p := p) (i := 517) rfl (.bool true))
      clear hd3 hb3
      go_wp2
      go_end0
      exact ⟨rfl, by rw [HFIN.out]; exact HR.out, HBR.out⟩
end
end Go.Proofs.Ytjeaejeikgkcaaa
