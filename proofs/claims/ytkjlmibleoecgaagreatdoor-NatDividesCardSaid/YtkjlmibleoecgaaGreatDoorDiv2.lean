/- DivMod: what holds ahead of the digits and behind them, in plain words; the world between. -/
import Derived.Test.YtkjlmibleoecgaaGreatDoorDiv1
namespace Go.Proofs.YtkjlmibleoecgaaGreatDoor
set_option linter.unusedSimpArgs false
set_option linter.unusedVariables false
open Go.RowKit
theorem top_room {y s : Nat} (hy : 0 < y) (hs : s < 32) (ht : (dg B32 y).getD ((dg B32 y).length - 1) 0 * 2 ^ s < B32) : 2 ^ s * y < B32 ^ (dg B32 y).length := by
  have hv := dg_val B32_2 y
  have hlt := dg_lt B32_2 y
  have hne : dg B32 y ≠ [] := fun h => by rw [dg_nil B32_2] at h; omega
  generalize dg B32 y = ys at *
  rcases List.eq_nil_or_concat ys with rfl | ⟨l, t, rfl⟩
  · exact absurd rfl hne
  · rw [List.concat_eq_append] at *
    have hg : (l ++ [t]).getD ((l ++ [t]).length - 1) 0 = t := by simp
    rw [hg] at ht
    rw [val_snoc] at hv
    have hlow := val_lt (b := B32) (xs := l) (by rw [B32_eq]; omega) (fun d hd => hlt d (by simp [hd]))
    obtain ⟨r, hr⟩ : ∃ r, r + s = 32 := ⟨32 - s, by omega⟩
    have hB : B32 = 2 ^ s * 2 ^ r := by rw [← Nat.pow_add, Nat.add_comm, hr]; rfl
    have hsp : 0 < 2 ^ s := Nat.pow_pos (by omega)
    have h1 : t < 2 ^ r := by
      rw [hB, Nat.mul_comm] at ht
      exact Nat.lt_of_mul_lt_mul_left ht
    have h2 : 2 ^ s * (t + 1) ≤ B32 := by rw [hB]; exact Nat.mul_le_mul_left _ h1
    rw [List.length_append, List.length_singleton, Nat.pow_succ]
    have h3 : y < B32 ^ l.length * (t + 1) := by rw [← hv, Nat.mul_add]; omega
    have h4 : 2 ^ s * y < 2 ^ s * (B32 ^ l.length * (t + 1)) := Nat.mul_lt_mul_of_pos_left h3 hsp
    have h5 : 2 ^ s * (B32 ^ l.length * (t + 1)) = B32 ^ l.length * (2 ^ s * (t + 1)) := Nat.mul_left_comm ..
    have h6 : B32 ^ l.length * (2 ^ s * (t + 1)) ≤ B32 ^ l.length * B32 := Nat.mul_le_mul_left _ h2
    omega
theorem vs_of {b n Y : Nat} {V : List Nat} (hb : 2 ≤ b) (hl : V.length = n + 1) (hd : ∀ d ∈ V, d < b) (hv : val b V = Y) (hY : Y < b ^ n) (h1 : b ^ (n - 1) ≤ Y) (hn : 1 ≤ n) :
    (V.take n).length = n ∧ (∀ d ∈ V.take n, d < b) ∧ val b (V.take n) = Y ∧ 1 ≤ (V.take n).getD (n - 1) 0 := by
  have hz := getD_zero_of (b := b) (by omega) hd (j := n) (by omega) n (Nat.le_refl _)
  have ht := vtake b V n
  rw [List.take_of_length_le (by omega), hz, Nat.mul_zero, Nat.add_zero, hv] at ht
  have hlt : ∀ d ∈ V.take n, d < b := fun d h => hd d (List.mem_of_mem_take h)
  refine ⟨by rw [List.length_take]; omega, hlt, ht.symm, ?_⟩
  rcases Nat.eq_zero_or_pos ((V.take n).getD (n - 1) 0) with h0 | h0
  · exfalso
    rw [getD_take _ _ _ _ (by omega)] at h0
    have h2 := vtake b V (n - 1)
    rw [show n - 1 + 1 = n by omega, h0, Nat.mul_zero, Nat.add_zero] at h2
    have h3 := val_lt (b := b) (xs := V.take (n - 1)) (by omega) (fun d h => hd d (List.mem_of_mem_take h))
    rw [List.length_take, show min (n - 1) V.length = n - 1 by omega] at h3
    omega
  · exact h0
theorem div_start {b n m S x y : Nat} {U vs : List Nat} (hb : 2 ≤ b) (hn : 1 ≤ n) (hnm : n ≤ m) (hU : ∀ d ∈ U, d < b) (hv : val b U = S * x) (hvs : val b vs = S * y) (hS : 0 < S) (hx : x < b ^ m) (hy : b ^ (n - 1) ≤ y) :
    DivInv b n (S * x) vs (m + 1 - n) U (List.replicate (m + 1 - n) 0) := by
  refine ⟨hU, fun d hd => ?_, ?_, fun j _ => ?_, ?_⟩
  · rw [List.mem_replicate] at hd; rw [hd.2]; omega
  · rw [hv, hvs, Nat.mul_left_comm]
    refine Nat.mul_lt_mul_of_pos_left ?_ hS
    refine Nat.lt_of_lt_of_le hx ?_
    have h1 : b ^ (m + 1 - n) * b ^ (n - 1) ≤ b ^ (m + 1 - n) * y := Nat.mul_le_mul_left _ hy
    rw [← Nat.pow_add, show m + 1 - n + (n - 1) = m by omega] at h1
    exact h1
  · simp [List.getD_eq_getElem?_getD, List.getElem?_replicate]; split <;> rfl
  · rw [hv, val_replicate]; omega
theorem div_done {b n S x y : Nat} {U vs Q : List Nat} (h : DivInv b n (S * x) vs 0 U Q) (hvs : val b vs = S * y) (hS : 0 < S) (hy : 0 < y) : val b Q = x / y ∧ val b U = S * (x % y) := by
  obtain ⟨h1, h2⟩ := h.done (by rw [hvs]; exact Nat.mul_pos hS hy)
  rw [hvs] at h1 h2
  exact ⟨by rw [h1, Nat.mul_div_mul_left _ _ hS], by rw [h2, Nat.mul_mod_mul_left]⟩
theorem div_rest {s n z : Nat} {U R : List Nat} (hs : s < 32) (hU : ∀ d ∈ U, d < B32) (hv : val B32 U = 2 ^ s * z) (hl : R.length = n) (hz : z < B32 ^ n) (hR : ∀ j, j < n → R.getD j 0 = (U.getD (j + 1) 0 * B32 + U.getD j 0) / 2 ^ s % B32) : val B32 R = z := by
  have hsp : 0 < 2 ^ s := Nat.pow_pos (by omega)
  have h1 := val_digits B32_2 z R (fun i hi => by
    rw [hR i (by omega), shifted_digit (t := 2 ^ (32 - s)) (by rw [← Nat.pow_add, show s + (32 - s) = 32 by omega]; rfl) hsp hU (by rw [B32_eq]; omega), hv, Nat.mul_div_cancel_left _ hsp])
  rw [h1, hl, Nat.mod_eq_of_lt hz]
theorem bx_cell0 {w : World} {p : Nat} {v : Value} {T : TypeId} (h : Box w p #[v] T) : w.cell? ⟨p, 0, none⟩ = some v ∧ w.frozen? ⟨p, 0, none⟩ = false := ⟨h.cell 0, h.frozen 0⟩
/-- The world between the digits: the rows of the divisor, of what is left, of the quotient; the results' boxes. -/
structure DSt (w0 w : World) (p4 p5 gU gV gQ : Nat) (V U Q : List Nat) : Prop where
  nw : New w0 w
  b4 : Box w p4 #[.slice none 0 0] 26
  b5 : Box w p5 #[.slice none 0 0] 26
  bu : Box w gU (ecells .u32 U) 89
  bv : Box w gV (ecells .u32 V) 89
  bq : Box w gQ (ecells .u32 Q) 89
  ne : (gU ≠ gV ∧ gU ≠ gQ ∧ gV ≠ gQ) ∧ (p4 ≠ gU ∧ p4 ≠ gQ ∧ p5 ≠ gU ∧ p5 ≠ gQ)
  le : w0.heap.size ≤ gU ∧ w0.heap.size ≤ gQ
theorem Box.ecset {w : World} {g : Nat} {L : List Nat} {T : TypeId} {k : IntKind} (h : Box w g (ecells k L) T) (i z : Nat) : Box (w.setCell ⟨g, i, none⟩ (.int k (z : Int))) g (ecells k (L.set i z)) T := by
  rw [← ecells_set]; exact h.set i _
theorem DSt.setU {w0 w : World} {p4 p5 gU gV gQ : Nat} {V U Q : List Nat} (h : DSt w0 w p4 p5 gU gV gQ V U Q) (i z : Nat) : DSt w0 (w.setCell ⟨gU, i, none⟩ (.int .u32 (z : Int))) p4 p5 gU gV gQ V (U.set i z) Q :=
  ⟨h.nw.setCell (p := ⟨gU, i, none⟩) h.le.1 _, h.b4.far h.ne.2.1 _, h.b5.far h.ne.2.2.2.1 _, h.bu.ecset i z, h.bv.far h.ne.1.1.symm _, h.bq.far h.ne.1.2.1.symm _, h.ne, h.le⟩
theorem DSt.setQ {w0 w : World} {p4 p5 gU gV gQ : Nat} {V U Q : List Nat} (h : DSt w0 w p4 p5 gU gV gQ V U Q) (i z : Nat) : DSt w0 (w.setCell ⟨gQ, i, none⟩ (.int .u32 (z : Int))) p4 p5 gU gV gQ V U (Q.set i z) :=
  ⟨h.nw.setCell (p := ⟨gQ, i, none⟩) h.le.2 _, h.b4.far h.ne.2.2.1 _, h.b5.far h.ne.2.2.2.2 _, h.bu.far h.ne.1.2.1 _, h.bv.far h.ne.1.2.2 _, h.bq.ecset i z, h.ne, h.le⟩
theorem Box.ecell {w : World} {g : Nat} {L : List Nat} {T : TypeId} {k : IntKind} (h : Box w g (ecells k L) T) {i : Nat} (hi : i < L.length) : w.cell? ⟨g, i, none⟩ = some (.int k (L.getD i 0 : Nat)) := by rw [h.cell, ecells_get k hi]
theorem DSt.drewN {w0 w : World} {p4 p5 gU gV gQ : Nat} {V U Q : List Nat} (h : DSt w0 w p4 p5 gU gV gQ V U Q) (n : Nat) : DSt w0 (w.drewN n) p4 p5 gU gV gQ V U Q :=
  have hn : New w (w.drewN n) := (New.refl w).drewN n
  ⟨h.nw.trans hn, h.b4.new hn, h.b5.new hn, h.bu.new hn, h.bv.new hn, h.bq.new hn, h.ne, h.le⟩
theorem DSt.drew {w0 w : World} {p4 p5 gU gV gQ : Nat} {V U Q : List Nat} (h : DSt w0 w p4 p5 gU gV gQ V U Q) : DSt w0 w.drew p4 p5 gU gV gQ V U Q :=
  have hn : New w w.drew := (New.refl w).drew
  ⟨h.nw.trans hn, h.b4.new hn, h.b5.new hn, h.bu.new hn, h.bv.new hn, h.bq.new hn, h.ne, h.le⟩
/-- The world behind the digits: the row of the remainder is being written. -/
structure RSt (w0 w : World) (p4 p5 gU gQ gR : Nat) (U Q R : List Nat) : Prop where
  nw : New w0 w
  b4 : Box w p4 #[.slice none 0 0] 26
  b5 : Box w p5 #[.slice none 0 0] 26
  bu : Box w gU (ecells .u32 U) 89
  bq : Box w gQ (ecells .u32 Q) 89
  br : Box w gR (ecells .u32 R) 89
  ne : p4 ≠ gR ∧ p5 ≠ gR ∧ gU ≠ gR ∧ gQ ≠ gR
  le : w0.heap.size ≤ gR
theorem DSt.rest {w0 w : World} {p4 p5 gU gV gQ : Nat} {V U Q : List Nat} (h : DSt w0 w p4 p5 gU gV gQ V U Q) (R : List Nat) : RSt w0 (w.alloc (.cells (ecells .u32 R) 89)) p4 p5 gU gQ w.heap.size U Q R :=
  ⟨h.nw.alloc _, h.b4.alloc _, h.b5.alloc _, h.bu.alloc _, h.bq.alloc _, Box.last w _ _, ⟨Nat.ne_of_lt h.b4.lt, Nat.ne_of_lt h.b5.lt, Nat.ne_of_lt h.bu.lt, Nat.ne_of_lt h.bq.lt⟩, h.nw.le⟩
theorem RSt.new {w0 w w' : World} {p4 p5 gU gQ gR : Nat} {U Q R : List Nat} (h : RSt w0 w p4 p5 gU gQ gR U Q R) (hn : New w w') : RSt w0 w' p4 p5 gU gQ gR U Q R :=
  ⟨h.nw.trans hn, h.b4.new hn, h.b5.new hn, h.bu.new hn, h.bq.new hn, h.br.new hn, h.ne, h.le⟩
theorem RSt.setR {w0 w : World} {p4 p5 gU gQ gR : Nat} {U Q R : List Nat} (h : RSt w0 w p4 p5 gU gQ gR U Q R) (i z : Nat) : RSt w0 (w.setCell ⟨gR, i, none⟩ (.int .u32 (z : Int))) p4 p5 gU gQ gR U Q (R.set i z) :=
  ⟨h.nw.setCell (p := ⟨gR, i, none⟩) h.le _, h.b4.far h.ne.1 _, h.b5.far h.ne.2.1 _, h.bu.far h.ne.2.2.1 _, h.bq.far h.ne.2.2.2 _, h.br.ecset i z, h.ne, h.le⟩
theorem dv_rest_step {U R : List Nat} {n s i : Nat} (hl : R.length = n) (hi : i < n) (h : ∀ j, j < i → R.getD j 0 = (U.getD (j + 1) 0 * B32 + U.getD j 0) / 2 ^ s % B32) :
    ∀ j, j < i + 1 → (R.set i ((U.getD (i + 1) 0 * B32 + U.getD i 0) / 2 ^ s % B32)).getD j 0 = (U.getD (j + 1) 0 * B32 + U.getD j 0) / 2 ^ s % B32 := by
  intro j hj
  by_cases e : i = j
  · subst e
    rw [List.getD_eq_getElem?_getD, List.getElem?_set_self (by omega), Option.getD_some]
  · rw [getD_set_ne _ e]; exact h j (by omega)
theorem dv_lt_of_getD {R : List Nat} {n : Nat} {f : Nat → Nat} (hl : R.length = n) (h : ∀ j, j < n → R.getD j 0 = f j % B32) : ∀ d ∈ R, d < B32 := by
  intro d hd
  obtain ⟨i, hi, rfl⟩ := List.getElem_of_mem hd
  have := h i (by omega)
  rw [getD_lt hi] at this
  rw [this]; exact Nat.mod_lt _ (by rw [B32_eq]; omega)
theorem dv_two_boxes {w : World} {p q : Nat} {a b u v : Value} {T : TypeId} (hp : Box w p #[a] T) (hq : Box w q #[b] T) (hne : p ≠ q) :
    Box ((w.setCell ⟨p, 0, none⟩ u).setCell ⟨q, 0, none⟩ v) p #[u] T ∧ Box ((w.setCell ⟨p, 0, none⟩ u).setCell ⟨q, 0, none⟩ v) q #[v] T :=
  ⟨(hp.set 0 u).far hne v, (hq.far (Ne.symm hne) u).set 0 v⟩
end Go.Proofs.YtkjlmibleoecgaaGreatDoor
