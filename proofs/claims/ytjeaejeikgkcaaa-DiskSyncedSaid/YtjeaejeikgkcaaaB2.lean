/- append(own, x): what it changes, block by block. -/
import Derived.Test.YtjeaejeikgkcaaaB0
namespace Go.Proofs.Ytjeaejeikgkcaaa
set_option linter.unusedSimpArgs false
set_option linter.unusedVariables false
open Go.RowKit
/-- The block that a slice owns. -/
def Foot (v : Value) (k : Nat) : Prop := v.ownBlock = some k
section
variable {P : Program} {α : Type}
theorem app_foot (enc : α → Value) (w : World) {ops : Array Oper} {rest : List Oper} {o : Oper} {a : Act} {Q : Exit → Act → World → Prop} (hgd : o.guard = none) (s x : Operand) (t E : TypeId)
    (ho : o.op = .call { callee := .builtin .append, args := #[s, x], argTypes := #[t, t] })
    (z : Value) (bytes : Nat) (ht : P.underlying t = some (.slice E)) (hi : (P.info? E).map (fun i => (i.zero, i.size, i.bytes)) = some (some z, 1, bytes)) (hzs : z.cells.size = 1) (hby : bytes ≤ 16)
    (v : Value) (xs : List α) (hs : a.eval s = v) (hown : OwnE enc E 0 w v xs)
    (b i c : Nat) (y : α) (hx : a.eval x = .slice (some ⟨b, i, none⟩) 1 c) (hy : w.cell? ⟨b, i, none⟩ = some (enc y)) (h1 : ∀ y, (enc y).oneCell' = true) (hl : xs.length ≤ 1099511627776 - 1)
    (h : ∀ v' w', OwnE enc E 0 w' v' (xs ++ [y]) → But (Foot v) w w' → (∀ k, Foot v' k → Foot v k ∨ w.heap.size ≤ k) → wpList P ops Q rest (a.put o.dst v') w') : wpList P ops Q (o :: rest) a w := by
  refine wpList_plain hgd fun K hK => ?_
  obtain ⟨i0, hi0, hz0, hz1, hz2⟩ := info_parts hi
  have hnews : ∀ (j : Nat) (u : Value), [enc y][j]? = some u → w.cell? ((⟨b, i, none⟩ : Addr).add j) = some u := by
    intro j u hj
    match j, hj with
    | 0, hj => rw [Addr.add_lit]; simpa [hy] using hj
    | j + 1, hj => simp at hj
  have hone : ∀ u ∈ [enc y], u.oneCell' = true := by
    intro u hu
    rw [List.mem_singleton.1 hu]; exact h1 y
  have hlen : [enc y].length = 1 * i0.size := by rw [hz1]; rfl
  have hbytes : (xs.length + 1) * bytes ≤ (xs.length + 1) * 16 := Nat.mul_le_mul_left _ hby
  obtain ⟨v', w', hr, h2, h3, h4⟩ := run_append_own (P := P) w 0 t o.type E i0 z 1 bytes ht hi0 hz0 hz1 hz2 hzs (by decide) v xs.length (xs.map enc) hown ⟨b, i, none⟩ 1 c [enc y] rfl hnews hone (by unfold maxLen; omega) (by omega) (Nat.zero_le _)
  have hfoot : ∀ k, Foot v' k → Foot v k ∨ w.heap.size ≤ k := by
    rcases hown.2 with ⟨rfl, hz⟩ | ⟨g, cap, cur, rfl, hbg, hg, hnc, hcm, hcs, htake⟩
    · have hq := run_append_nil (P := P) w t o.type E i0 z ht hi0 hz0 ⟨b, i, none⟩ 1 c [enc y] hlen hnews (by omega) (by omega) (by rw [hz2]; omega)
      rw [hq] at hr
      injection hr with e1 e2
      intro k hk
      subst e1
      right
      simp [Foot, Value.ownBlock] at hk
      omega
    · by_cases hroom : xs.length + 1 ≤ cap
      · have hq := run_append_room (P := P) w t o.type E i0 ht hi0 g xs.length cap cur hg ⟨b, i, none⟩ 1 c [enc y] hlen hnews hone hroom (by rw [hcs, hz1]; simp; omega)
        rw [hq] at hr
        injection hr with e1 e2
        intro k hk
        subst e1
        left
        simpa [Foot, Value.ownBlock] using hk
      · have holds : ∀ j u, (xs.map enc)[j]? = some u → w.cell? ((⟨g, 0, none⟩ : Addr).add j) = some u := hown.cells (g := g) rfl
        have hq := run_append_grow (P := P) w t o.type E i0 z ht hi0 hz0 ⟨g, 0, none⟩ xs.length cap (xs.map enc) (by rw [hz1]; simp) holds ⟨b, i, none⟩ 1 c [enc y] hlen hnews (by omega) (by omega) (by rw [hz2]; exact growslice_fits (by omega) (by omega))
        rw [hq] at hr
        injection hr with e1 e2
        intro k hk
        subst e1
        right
        simp [Foot, Value.ownBlock] at hk
        omega
  have hown' : OwnE enc E 0 w' v' (xs ++ [y]) := by unfold OwnE; rw [List.map_append, List.length_append]; exact h2
  have hbut : But (Foot v) w w' := ⟨h3.os, h3.tape, h3.output, h3.size, fun k hk hn => h3.block k hk fun e => hn e.symm⟩
  have := hK _ _ (h v' w' hown' hbut hfoot)
  unfold Oper.wp execOp
  simp only [ho, resolve, invoke, builtin, Sem.run_bind, Sem.run_pure, Result.andThen_ok, List.map_toArray, List.map_cons, List.map_nil, hs, hx, hr]
  exact this
end
end Go.Proofs.Ytjeaejeikgkcaaa
