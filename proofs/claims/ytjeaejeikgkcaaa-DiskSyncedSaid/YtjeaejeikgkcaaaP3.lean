/- What DiskEither and DiskLast ask, in plain words. -/
import Derived.Test.YtjeaejeikgkcaaaP2
namespace Go.Proofs.Ytjeaejeikgkcaaa
set_option linter.unusedSimpArgs false
set_option linter.unusedVariables false
open Go.RowKit
/-- Nothing is ordered of it. -/
structure Pl (d : DS) : Prop where
  dead : d.dead = false
  failing : d.failing = false
  cut : d.cut = -1
  fail : d.fail = -1
theorem Pl.new : Pl dsNew := ⟨rfl, rfl, rfl, rfl⟩
section
variable {d : DS}
theorem Pl.raw (h : Pl d) : rawE d = 0 := by
  obtain ⟨h1, h2, h3, h4⟩ := h
  simp [rawE, h1, h2, h3, h4]
theorem Pl.rawD (h : Pl d) (l : List Nat) : rawD d l = { d with ops := d.ops + 1 } := by
  rw [rawD_zero h.raw]
  obtain ⟨h1, h2, h3, h4⟩ := h
  rw [h3, h4, show less (-1) = -1 by decide]
theorem Pl.wrE (h : Pl d) (i : Int) (s : ByteArray) : wrE d i s = if fitB i = false then 40 else if 256 < s.size then 41 else 0 := by
  unfold Go.Proofs.Ytjeaejeikgkcaaa.wrE
  rw [h.raw]
theorem Pl.wrD (h : Pl d) (l : List Nat) {i : Int} {s : ByteArray} (hok : wrOk d i s) : wrD d l i s = { d with ops := d.ops + 1, is := d.is.set i.toNat s } := by
  unfold Go.Proofs.Ytjeaejeikgkcaaa.wrD
  rw [if_pos hok, if_pos h.raw, h.rawD]
theorem Pl.wrD_no {l : List Nat} {i : Int} {s : ByteArray} (hok : ¬ wrOk d i s) : Go.Proofs.Ytjeaejeikgkcaaa.wrD d l i s = d := by
  unfold Go.Proofs.Ytjeaejeikgkcaaa.wrD
  rw [if_neg hok]
theorem Pl.wr (h : Pl d) (l : List Nat) (i : Int) (s : ByteArray) : Pl (Go.Proofs.Ytjeaejeikgkcaaa.wrD d l i s) := by
  by_cases hok : wrOk d i s
  · rw [h.wrD l hok]; exact ⟨h.dead, h.failing, h.cut, h.fail⟩
  · rw [Pl.wrD_no hok]; exact h
theorem Pl.wrIs (h : Pl d) (l : List Nat) (i : Int) (s : ByteArray) : (Go.Proofs.Ytjeaejeikgkcaaa.wrD d l i s).is = if wrOk d i s then d.is.set i.toNat s else d.is := by
  by_cases hok : wrOk d i s
  · rw [h.wrD l hok, if_pos hok]
  · rw [Pl.wrD_no hok, if_neg hok]
theorem Pl.wrWas (h : Pl d) (l : List Nat) (i : Int) (s : ByteArray) : (Go.Proofs.Ytjeaejeikgkcaaa.wrD d l i s).was = d.was := by
  by_cases hok : wrOk d i s
  · rw [h.wrD l hok]
  · rw [Pl.wrD_no hok]
theorem Pl.wrOps (h : Pl d) (l : List Nat) (i : Int) (s : ByteArray) : (Go.Proofs.Ytjeaejeikgkcaaa.wrD d l i s).ops ≤ d.ops + 1 := by
  by_cases hok : wrOk d i s
  · rw [h.wrD l hok]; exact Int.le_refl _
  · rw [Pl.wrD_no hok]; omega
theorem Pl.wrL (h : Pl d) (l : List Nat) (i : Int) (s : ByteArray) : Go.Proofs.Ytjeaejeikgkcaaa.wrL d l i s = if wrOk d i s then (if i.toNat ∈ l then l else l ++ [i.toNat]) else l := by
  unfold Go.Proofs.Ytjeaejeikgkcaaa.wrL
  rw [if_pos h.raw, rawL_zero h.raw]
theorem Pl.syD (h : Pl d) (l : List Nat) : syD d l = { d with ops := d.ops + 1, was := d.is } := by
  unfold Go.Proofs.Ytjeaejeikgkcaaa.syD
  rw [if_pos h.raw, h.rawD]
theorem Pl.syL (h : Pl d) (l : List Nat) : syL d l = [] := by
  unfold Go.Proofs.Ytjeaejeikgkcaaa.syL
  rw [if_pos h.raw]
theorem Pl.crash (h : Pl d) (l : List Nat) (k : Int) : crashD d l k = { d with is := crashW d.is d.was l k l.length, was := crashW d.is d.was l k l.length, cut := -1, fail := -1, dead := true } := by
  unfold crashD
  rw [h.dead]
  rfl
theorem Pl.crL (h : Pl d) (l : List Nat) : crL d l = [] := by
  unfold Go.Proofs.Ytjeaejeikgkcaaa.crL
  rw [h.dead]
  rfl
end
theorem getD_set (l : List ByteArray) (i j : Nat) (s e : ByteArray) (hi : i < l.length) : (l.set i s).getD j e = if i = j then s else l.getD j e := by
  simp only [List.getD_eq_getElem?_getD, List.getElem?_set]
  by_cases h : i = j
  · subst h; simp [hi]
  · simp [h]
theorem crashW_range (is was : List ByteArray) (keep : Int) (n : Nat) (hn : n ≤ was.length) (j : Nat) : ∀ k, k ≤ n → (crashW is was (List.range n) keep k).getD j ⟨#[]⟩ = if j < k ∧ bitOn keep j = true then is.getD j ⟨#[]⟩ else was.getD j ⟨#[]⟩
  | 0, _ => by unfold crashW; rw [if_neg (by omega)]
  | k + 1, hk => by
    have ih := crashW_range is was keep n hn j k (by omega)
    have hr : (List.range n).getD k 0 = k := by simp [List.getD_eq_getElem?_getD, show k < n by omega]
    unfold crashW
    rw [hr]
    by_cases hb : bitOn keep k = true
    · rw [if_pos hb, getD_set _ _ _ _ _ (by rw [crashW_len]; omega), ih]
      by_cases hj : k = j
      · subst hj
        rw [if_pos rfl, if_pos ⟨by omega, hb⟩]
      · rw [if_neg hj]
        by_cases hjk : j < k
        · by_cases hbj : bitOn keep j = true
          · rw [if_pos ⟨hjk, hbj⟩, if_pos ⟨by omega, hbj⟩]
          · rw [if_neg (fun h => hbj h.2), if_neg (fun h => hbj h.2)]
        · rw [if_neg (fun h => hjk h.1), if_neg (fun h => by omega)]
    · rw [if_neg hb, ih]
      by_cases hbj : bitOn keep j = true
      · have : j ≠ k := fun e => hb (e ▸ hbj)
        by_cases hjk : j < k
        · rw [if_pos ⟨hjk, hbj⟩, if_pos ⟨by omega, hbj⟩]
        · rw [if_neg (fun h => hjk h.1), if_neg (fun h => by omega)]
      · rw [if_neg (fun h => hbj h.2), if_neg (fun h => hbj h.2)]
/-- A sector, if there is such a text, and it is not too long. -/
def secOf (ss : List ByteArray) (e : ByteArray) (j : Nat) : ByteArray := if h : j < ss.length then (if ss[j].size ≤ 256 then ss[j] else e) else e
theorem sec_at {w : World} {A : Option Addr} {n c : Nat} {ss : List ByteArray} (h : SlE Value.string w (.slice A n c) ss) (hs : ∀ s ∈ ss, s.size ≤ maxLen) (k : Nat) (e : ByteArray) :
    (((k : Int) < ss.length ∧ k < ss.length) ∧ ∃ b o s, A = some ⟨b, o, none⟩ ∧ w.cell? ⟨b, o + k, none⟩ = some (.string s) ∧ s.size ≤ 9223372036854775807 ∧ (((s.size : Int) ≤ 256 ∧ secOf ss e k = s) ∨ (¬ (s.size : Int) ≤ 256 ∧ secOf ss e k = e))) ∨ ((¬ (k : Int) < ss.length ∧ ¬ k < ss.length) ∧ secOf ss e k = e) := by
  obtain ⟨A', c', e1, _, _, hcell⟩ := h
  injection e1 with e1 _ _
  subst e1
  by_cases hk : k < ss.length
  · obtain ⟨b, o, rfl, _, hc⟩ := hcell k hk
    refine .inl ⟨⟨by omega, hk⟩, b, o, ss[k], rfl, hc, by have := hs _ (List.getElem_mem hk); unfold maxLen at this; omega, ?_⟩
    unfold secOf
    rw [dif_pos hk]
    by_cases h : ss[k].size ≤ 256
    · rw [if_pos h]; exact .inl ⟨by omega, rfl⟩
    · rw [if_neg h]; exact .inr ⟨by omega, rfl⟩
  · refine .inr ⟨⟨by omega, hk⟩, ?_⟩
    unfold secOf
    rw [dif_neg hk]
def btw : ByteArray := ⟨#[98, 101, 116, 119, 101, 101, 110]⟩
/-- What is there behind k writes of the first row. -/
structure EA (d : DS) (aa : List ByteArray) (k : Nat) : Prop where
  pl : Pl d
  ops : d.ops ≤ k
  is : ∀ j, d.is.getD j ⟨#[]⟩ = if j < k then secOf aa ⟨#[]⟩ j else ⟨#[]⟩
theorem EA.new (aa : List ByteArray) : EA dsNew aa 0 := ⟨Pl.new, by decide, fun j => by
  rw [if_neg (by omega)]
  simp only [dsNew, List.getD_eq_getElem?_getD, List.getElem?_replicate]
  split <;> rfl⟩
theorem EA.step {d : DS} {aa : List ByteArray} {k : Nat} (h : EA d aa k) (hk : k < aa.length) (hk2 : k < 256) (hl : d.is.length = 256) (l : List Nat) : EA (wrD d l k aa[k]) aa (k + 1) ∧ (wrE d k aa[k] = if 256 < aa[k].size then 41 else 0) := by
  have hf : fitB (k : Int) = true := fitB_yes (by omega) (by omega)
  refine ⟨⟨h.pl.wr l _ _, by have := h.pl.wrOps l k aa[k]; have := h.ops; omega, fun j => ?_⟩, by rw [h.pl.wrE]; simp [hf]⟩
  rw [h.pl.wrIs]
  by_cases hs : aa[k].size ≤ 256
  · rw [if_pos ⟨hf, hs⟩, Int.toNat_natCast, getD_set _ _ _ _ _ (by omega)]
    by_cases hj : k = j
    · subst hj
      rw [if_pos rfl, if_pos (by omega)]
      unfold secOf
      rw [dif_pos hk, if_pos hs]
    · rw [if_neg hj, h.is]
      by_cases hjk : j < k
      · rw [if_pos hjk, if_pos (by omega)]
      · rw [if_neg hjk, if_neg (by omega)]
  · rw [if_neg (fun h => hs h.2), h.is]
    by_cases hj : k = j
    · subst hj
      rw [if_neg (by omega), if_pos (by omega)]
      unfold secOf
      rw [dif_pos hk, if_neg hs]
    · by_cases hjk : j < k
      · rw [if_pos hjk, if_pos (by omega)]
      · rw [if_neg hjk, if_neg (by omega)]
/-- What is there behind k writes of the second row. -/
structure EB (d : DS) (l : List Nat) (aa bs : List ByteArray) (k : Nat) : Prop where
  pl : Pl d
  ops : d.ops ≤ 257 + 2 * k
  was : ∀ j, d.was.getD j ⟨#[]⟩ = secOf aa ⟨#[]⟩ j
  l : l = List.range k
  is : ∀ j, d.is.getD j ⟨#[]⟩ = if j < k then secOf bs btw j else secOf aa ⟨#[]⟩ j
theorem EB.start {d : DS} {aa : List ByteArray} (h : EA d aa aa.length) (ha : aa.length ≤ 256) (bs : List ByteArray) (l : List Nat) : EB (syD d l) (syL d l) aa bs 0 := by
  have key : ∀ j, d.is.getD j ⟨#[]⟩ = secOf aa ⟨#[]⟩ j := fun j => by
    rw [h.is]
    by_cases hj : j < aa.length
    · rw [if_pos hj]
    · rw [if_neg hj]; unfold secOf; rw [dif_neg hj]
  rw [h.pl.syD, h.pl.syL]
  refine ⟨⟨h.pl.dead, h.pl.failing, h.pl.cut, h.pl.fail⟩, by have := h.ops; show d.ops + 1 ≤ _; omega, key, rfl, fun j => ?_⟩
  rw [if_neg (by omega)]
  exact key j
theorem EB.step {d : DS} {l : List Nat} {aa bs : List ByteArray} {k : Nat} (h : EB d l aa bs k) (hk : k < bs.length) (hk2 : k < 256) (hl : d.is.length = 256) :
    EB (wrD (wrD d l k btw) (wrL d l k btw) k bs[k]) (wrL (wrD d l k btw) (wrL d l k btw) k bs[k]) aa bs (k + 1) := by
  have hf : fitB (k : Int) = true := fitB_yes (by omega) (by omega)
  have hok : wrOk d k btw := ⟨hf, by decide⟩
  have e1 := h.pl.wrD l hok
  have e2 : wrL d l k btw = List.range (k + 1) := by
    rw [h.pl.wrL, if_pos hok, h.l, Int.toNat_natCast, if_neg (by simp), List.range_succ]
  have hp1 := h.pl.wr l k btw
  rw [e2]
  generalize hd1 : wrD d l k btw = d1 at *
  have i1 : d1.is = d.is.set k btw := by rw [e1, Int.toNat_natCast]
  have w1 : d1.was = d.was := by rw [e1]
  have o1 : d1.ops = d.ops + 1 := by rw [e1]
  refine ⟨hp1.wr _ _ _, ?_, ?_, ?_, ?_⟩
  · have := hp1.wrOps (List.range (k + 1)) k bs[k]
    have := h.ops
    omega
  · rw [hp1.wrWas, w1]; exact h.was
  · rw [hp1.wrL, Int.toNat_natCast, if_pos (show k ∈ List.range (k + 1) by simp)]
    split <;> rfl
  · intro j
    rw [hp1.wrIs]
    have hin : ∀ j, (d.is.set k btw).getD j ⟨#[]⟩ = if k = j then btw else d.is.getD j ⟨#[]⟩ := fun j => getD_set _ _ _ _ _ (by omega)
    by_cases hs : bs[k].size ≤ 256
    · rw [if_pos ⟨hf, hs⟩, Int.toNat_natCast, getD_set _ _ _ _ _ (by rw [i1, List.length_set]; omega), i1, hin, h.is]
      by_cases hj : k = j
      · subst hj
        rw [if_pos rfl, if_pos (by omega)]
        unfold secOf
        rw [dif_pos hk, if_pos hs]
      · rw [if_neg hj, if_neg hj]
        by_cases hjk : j < k
        · rw [if_pos hjk, if_pos (by omega)]
        · rw [if_neg hjk, if_neg (by omega)]
    · rw [if_neg (fun h => hs h.2), i1, hin, h.is]
      by_cases hj : k = j
      · subst hj
        rw [if_pos rfl, if_pos (by omega)]
        unfold secOf
        rw [dif_pos hk, if_neg hs]
      · rw [if_neg hj]
        by_cases hjk : j < k
        · rw [if_pos hjk, if_pos (by omega)]
        · rw [if_neg hjk, if_neg (by omega)]
theorem EB.end {d : DS} {l : List Nat} {aa bs : List ByteArray} (h : EB d l aa bs bs.length) (hb : bs.length ≤ 256) (hl : d.was.length = 256) (keep : Int) (j : Nat) :
    (crashD d l keep).is.getD j ⟨#[]⟩ = if bitOn keep j = true then (if j < bs.length then secOf bs btw j else secOf aa ⟨#[]⟩ j) else secOf aa ⟨#[]⟩ j := by
  rw [h.pl.crash]
  have hlen : l.length = bs.length := by rw [h.l, List.length_range]
  show (crashW d.is d.was l keep l.length).getD j _ = _
  rw [hlen, h.l, crashW_range _ _ _ _ (by omega) _ _ (Nat.le_refl _), h.is, h.was]
  by_cases h1 : bitOn keep j = true
  · by_cases h2 : j < bs.length
    · rw [if_pos ⟨h2, h1⟩, if_pos h1]
    · rw [if_neg (fun h => h2 h.1), if_pos h1, if_neg h2]
  · rw [if_neg (fun h => h1 h.2), if_neg h1]
end Go.Proofs.Ytjeaejeikgkcaaa
