/- heavy, make, and what a disk keeps beside other stores. -/
import Derived.Test.YtjeaejeikgkcaaaP3
import Derived.Test.YtjeaejeikgkcaaaO1
import Derived.Laws.MakeOwn
namespace Go.Proofs.Ytjeaejeikgkcaaa
set_option linter.unusedSimpArgs false
set_option linter.unusedVariables false
open Go.RowKit
theorem made_one (z : Value) (n : Nat) : madeCells #[z] n = (List.replicate n z).toArray := by
  unfold madeCells
  apply Array.ext
  · simp
  · intro i h1 h2
    simp [Nat.mod_one]
/-- What heavy tells. -/
def HvPost (n : Nat) (e : Ending) : Prop := ∃ b, e = .returned (.bool b) ∧ (b = false → n ≤ 1024)
theorem wpList_make {ops : Array Oper} {rest : List Oper} {o : Oper} {a : Act} {w : World} {Q : Exit → Act → World → Prop} (hgd : o.guard = none) (t e : TypeId) (z : Value) (bytes : Nat) (ht : Try.prog.underlying t = some (.slice e))
    (hi : (Try.prog.info? e).map (fun i => (i.zero, i.size, i.bytes)) = some (some z, 1, bytes)) (hz : z.cells = #[z]) (hby : bytes ≤ 16)
    (ho : o.op = .makeSlice t (.const (.int .i64 256)) (.const (.int .i64 256)))
    (h : ∀ w', New w w' → Box w' w.heap.size (List.replicate 256 z).toArray e → wpList Try.prog ops Q rest (a.put o.dst (.slice (some ⟨w.heap.size, 0, none⟩) 256 256)) w') : wpList Try.prog ops Q (o :: rest) a w :=
  wpList_plain hgd fun K hK => by
    obtain ⟨i0, hi0, hz0, hz1, hz2⟩ := info_parts hi
    unfold Oper.wp execOp
    have hr := run_make (P := Try.prog) w t e i0 z ht hi0 hz0 .i64 .i64 256 256 (by omega) (by omega) (by rw [hz2]; omega) (by omega)
    have hm : madeCells z.cells ((256 : Int).toNat * i0.size) = (List.replicate 256 z).toArray := by
      rw [hz1, hz]
      exact made_one z _
    rw [hm] at hr
    simp only [ho, Sem.run_bind, Act.eval, hr, Result.andThen_ok]
    exact hK _ _ (h _ ((New.refl w).alloc _) (Box.last w _ _))
theorem OwnE.frame {α : Type} {enc : α → Value} {E : TypeId} {B : Nat} {w w' : World} {v : Value} {xs : List α} {S : Nat → Prop} (h : OwnE enc E B w v xs) (hb : But S w w') (hS : ∀ k, Foot v k → ¬ S k) : OwnE enc E B w' v xs := by
  refine ⟨h.1, ?_⟩
  rcases h.2 with ⟨rfl, h0⟩ | ⟨g, cap, cur, rfl, h1, h2, h3⟩
  · exact .inl ⟨rfl, h0⟩
  · exact .inr ⟨g, cap, cur, rfl, h1, by rw [hb.block g (lt_of_block h2) (hS g rfl)]; exact h2, h3⟩
/-- Other stores leave a disk as it is. -/
theorem Dsk.frame {w w' : World} {p : Nat} {F S : Nat → Prop} {d : DS} {l : List Nat} (h : Dsk w p F d l) (hb : But S w w') (hS : ∀ k, F k → ¬ S k) : Dsk w' p F d l := by
  obtain ⟨c, k1, k2, k3⟩ := h.own
  exact ⟨⟨c, k1.but hb (hS p h.fp), k2.frame hb fun k hk => hS k (k3 k hk), k3⟩, h.fp, fun k hk => Nat.lt_of_lt_of_le (h.lt k hk) hb.size, h.wf, h.hl, h.len⟩
theorem LD.new {w0 w w' : World} {p : Nat} {F : Nat → Prop} {d : DS} {l : List Nat} (h : LD w0 w p F d l) (hn : New w w') : LD w0 w' p F d l :=
  ⟨h.dsk.frame (S := fun _ => False) (But.of_new hn) (fun _ _ h => h), h.nw.trans hn, h.hi⟩
theorem SlStp.at {w : World} {A : Option Addr} {n c : Nat} {rs : List Stp} (h : SlStp w (.slice A n c) rs) (k : Nat) (hk : k < rs.length) : ∃ b o, A = some ⟨b, o, none⟩ ∧ StpAt w b (o + k * 4) rs[k] := by
  obtain ⟨A', c', e1, _, _, hcell⟩ := h
  injection e1 with e1 _ _
  subst e1
  exact hcell k hk
set_option maxHeartbeats 2000000 in
theorem heavy_c (rs : List Stp) (v : Value) (w : World) (h : SlStp w v rs) : Calls Try.prog 18 #[v] w fun e w' => HvPost rs.length e ∧ w = w' := by
  obtain ⟨A, c, rfl, h1, h2, _⟩ := id h
  have H := Lib.hid h
  have hl : (rs.length : Int) ≤ 9223372036854775807 := by unfold maxLen at h2; omega
  clear h
  go_enter Try.func18, Try.ntmps18
  go_wp2
  go_loopw [3, 4] (fun v3 v4 w' => ∃ (n : Int) (k : Nat), v3 = .int .i64 n ∧ v4 = .int .i64 (k : Int) ∧ k ≤ rs.length ∧ 0 ≤ n ∧ n ≤ 9223372036854775807 ∧ w = w') (fun _ v4 _ => rs.length - (intOf v4).toNat)
  case atStart => exact ⟨rs.length, 0, rfl, rfl, Nat.zero_le _, by omega, hl, rfl⟩
  case round =>
    obtain ⟨n, k, rfl, rfl, hk, hn0, hn1, rfl⟩ := hrel
    by_cases hkl : k < rs.length
    · by_cases hn : n ≤ 65536
      · obtain ⟨b, o, rfl, hlt, _, _, hs, _, _, _, hsz, _⟩ := H.out.at k hkl
        generalize rs[k].s = s at *
        have hcases : (s.size : Int) < 1048576 ∨ (1048576 ≤ (s.size : Int)) := by omega
        rcases hcases with hc | hc
        all_goals
          go_wp2
          all_goals
            go_roundw
            case rel => exact ⟨_, k + 1, rfl, by go_num, by omega, by omega, by omega, trivial⟩
            case measure => simp [intOf]; omega
      · go_wp2
        go_ret
        first | exact ⟨⟨true, rfl, fun h => by cases h⟩, rfl⟩ | exact ⟨⟨false, rfl, fun h => by omega⟩, rfl⟩ | exact ⟨⟨decide (65536 < n) || decide (1024 < (rs.length : Int)), rfl, fun h => by simp at h; omega⟩, rfl⟩
    · by_cases hn : n ≤ 65536
      · by_cases hg : 1024 < rs.length
        · go_wp2
          go_ret
          first | exact ⟨⟨true, rfl, fun h => by cases h⟩, rfl⟩ | exact ⟨⟨false, rfl, fun h => by omega⟩, rfl⟩ | exact ⟨⟨decide (65536 < n) || decide (1024 < (rs.length : Int)), rfl, fun h => by simp at h; omega⟩, rfl⟩
        · go_wp2
          go_ret
          first | exact ⟨⟨true, rfl, fun h => by cases h⟩, rfl⟩ | exact ⟨⟨false, rfl, fun h => by omega⟩, rfl⟩ | exact ⟨⟨decide (65536 < n) || decide (1024 < (rs.length : Int)), rfl, fun h => by simp at h; omega⟩, rfl⟩
      · go_wp2
        go_ret
        first | exact ⟨⟨true, rfl, fun h => by cases h⟩, rfl⟩ | exact ⟨⟨false, rfl, fun h => by omega⟩, rfl⟩ | exact ⟨⟨decide (65536 < n) || decide (1024 < (rs.length : Int)), rfl, fun h => by simp at h; omega⟩, rfl⟩
end Go.Proofs.Ytjeaejeikgkcaaa
