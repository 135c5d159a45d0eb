/- The reference's disk: rows grown. -/
import Derived.Test.YtjeaejeikgkcaaaN1
namespace Go.Proofs.Ytjeaejeikgkcaaa
set_option linter.unusedSimpArgs false
set_option linter.unusedVariables false
open Go.RowKit
theorem foot_no {α : Type} {enc : α → Value} {E T : TypeId} {B : Nat} {w : World} {v : Value} {xs : List α} {p : Nat} {C : Array Value} (h : OwnE enc E B w v xs) (hb : Box w p C T) (ht : T ≠ E) : ¬ Foot v p := by
  rcases h.2 with ⟨rfl, h0⟩ | ⟨g, cap, cur, rfl, h1, h2, h3⟩
  · exact nil_foot p
  · intro hk
    obtain rfl : g = p := by simpa [Foot, Value.ownBlock] using hk
    unfold Box at hb
    rw [hb] at h2
    injection h2 with h2; injection h2 with _ h2 _
    exact ht h2
theorem foot_two {α β : Type} {enc : α → Value} {enc' : β → Value} {E T : TypeId} {B B' : Nat} {w : World} {v u : Value} {xs : List α} {ys : List β} {k : Nat} (h : OwnE enc E B w v xs) (g : OwnE enc' T B' w u ys) (ht : T ≠ E) (hk : Foot v k) : ¬ Foot u k := by
  rcases g.2 with ⟨rfl, h0⟩ | ⟨q, cap, cur, rfl, h1, h2, h3⟩
  · exact nil_foot k
  · intro hq
    obtain rfl : q = k := by simpa [Foot, Value.ownBlock] using hq
    exact foot_no h (show Box w q cur T from h2) ht hk
theorem foot_lt {α : Type} {enc : α → Value} {E : TypeId} {B : Nat} {w : World} {v : Value} {xs : List α} (h : OwnE enc E B w v xs) {k : Nat} (hk : Foot v k) : k < w.heap.size := (h.lt k hk).2
theorem setOther {w : World} {p i : Nat} {u : Value} : But (Onl p) w (w.setCell ⟨p, i, none⟩ u) := (But.refl (Onl p) w).set rfl u
theorem OwnE.apart {α : Type} {enc : α → Value} {E T : TypeId} {B : Nat} {w : World} {v u : Value} {xs : List α} {p i : Nat} {C : Array Value} (h : OwnE enc E B w v xs) (hb : Box w p C T) (ht : T ≠ E) : OwnE enc E B (w.setCell ⟨p, i, none⟩ u) v xs :=
  h.frame setOther fun k hk hp => foot_no h hb ht (by obtain rfl : k = p := hp; exact hk)
section
variable {w w1 w2 : World} {p : Nat} {F : Nat → Prop} {r : RS} {a b c v : Value}
/-- The row of what lasted, grown. -/
theorem Rdk.growWas (h : Rdk w p F r a b c) (y : ByteArray) (hn : New w w1) (ho : OwnE Value.string 9 0 w2 v (r.was ++ [y])) (hb : But (Foot a) w1 w2) (hs : ∀ k, Foot v k → Foot a k ∨ w1.heap.size ≤ k) :
    Rdk (w2.setCell ⟨p, 0, none⟩ v) p (fun k => F k ∨ Foot v k) { r with was := r.was ++ [y] } v b c := by
  have h1 : Rdk w1 p F r a b c := h.frame (S := fun _ => False) (But.of_new hn) (fun _ _ h => h)
  have hpa : ¬ Foot a p := foot_no h1.was h1.box (by decide)
  have hbox : Box w2 p (rcells r a b c).toArray 52 := hb.box h1.box hpa
  have hsz : w1.heap.size ≤ w2.heap.size := hb.size
  refine ⟨?_, ho.apart hbox (by decide), ?_, ?_, .inl h.fp, fun k hk => .inr hk, fun k hk => .inl (h.fb k hk), fun k hk => .inl (h.fc k hk), ?_, ?_⟩
  · have := hbox.set 0 v
    rw [List.setIfInBounds_toArray] at this
    exact this
  · exact (h1.is.frame hb fun k hk ha => h1.ab k ha hk).apart hbox (by decide)
  · exact (h1.cached.frame hb fun k hk ha => foot_two h1.was h1.cached (by decide) ha hk).apart hbox (by decide)
  · intro k hk hb2
    rcases hs k hk with h3 | h3
    · exact h1.ab k h3 hb2
    · have := foot_lt h1.is hb2; omega
  · intro k hk
    have h5 : (w2.setCell ⟨p, 0, none⟩ v).heap.size = w2.heap.size := by simp [World.setCell]
    rw [h5]
    rcases hk with hk | hk
    · have := h1.lt k hk; omega
    · exact foot_lt ho hk
/-- The row of what is, grown. -/
theorem Rdk.growIs (h : Rdk w p F r a b c) (y : ByteArray) (hn : New w w1) (ho : OwnE Value.string 9 0 w2 v (r.is ++ [y])) (hb : But (Foot b) w1 w2) (hs : ∀ k, Foot v k → Foot b k ∨ w1.heap.size ≤ k) :
    Rdk (w2.setCell ⟨p, 1, none⟩ v) p (fun k => F k ∨ Foot v k) { r with is := r.is ++ [y] } a v c := by
  have h1 : Rdk w1 p F r a b c := h.frame (S := fun _ => False) (But.of_new hn) (fun _ _ h => h)
  have hbox : Box w2 p (rcells r a b c).toArray 52 := hb.box h1.box (foot_no h1.is h1.box (by decide))
  have hsz : w1.heap.size ≤ w2.heap.size := hb.size
  refine ⟨?_, ?_, ho.apart hbox (by decide), ?_, .inl h.fp, fun k hk => .inl (h.fa k hk), fun k hk => .inr hk, fun k hk => .inl (h.fc k hk), ?_, ?_⟩
  · have := hbox.set 1 v
    rw [List.setIfInBounds_toArray] at this
    exact this
  · exact (h1.was.frame hb fun k hk ha => h1.ab k hk ha).apart hbox (by decide)
  · exact (h1.cached.frame hb fun k hk ha => foot_two h1.is h1.cached (by decide) ha hk).apart hbox (by decide)
  · intro k ha hk
    rcases hs k hk with h3 | h3
    · exact h1.ab k ha h3
    · have := foot_lt h1.was ha; omega
  · intro k hk
    have h5 : (w2.setCell ⟨p, 1, none⟩ v).heap.size = w2.heap.size := by simp [World.setCell]
    rw [h5]
    rcases hk with hk | hk
    · have := h1.lt k hk; omega
    · exact foot_lt ho hk
/-- The row of what is cached, grown. -/
theorem Rdk.growCached (h : Rdk w p F r a b c) (y : Nat) (hn : New w w1) (ho : OwnE iE 3 0 w2 v (r.cached ++ [y])) (hb : But (Foot c) w1 w2) (hs : ∀ k, Foot v k → Foot c k ∨ w1.heap.size ≤ k) :
    Rdk (w2.setCell ⟨p, 2, none⟩ v) p (fun k => F k ∨ Foot v k) { r with cached := r.cached ++ [y] } a b v := by
  have h1 : Rdk w1 p F r a b c := h.frame (S := fun _ => False) (But.of_new hn) (fun _ _ h => h)
  have hbox : Box w2 p (rcells r a b c).toArray 52 := hb.box h1.box (foot_no h1.cached h1.box (by decide))
  have hsz : w1.heap.size ≤ w2.heap.size := hb.size
  refine ⟨?_, ?_, ?_, ho.apart hbox (by decide), .inl h.fp, fun k hk => .inl (h.fa k hk), fun k hk => .inl (h.fb k hk), fun k hk => .inr hk, h.ab, ?_⟩
  · have := hbox.set 2 v
    rw [List.setIfInBounds_toArray] at this
    exact this
  · exact (h1.was.frame hb fun k hk ha => foot_two h1.was h1.cached (by decide) hk ha).apart hbox (by decide)
  · exact (h1.is.frame hb fun k hk ha => foot_two h1.is h1.cached (by decide) hk ha).apart hbox (by decide)
  · intro k hk
    have h5 : (w2.setCell ⟨p, 2, none⟩ v).heap.size = w2.heap.size := by simp [World.setCell]
    rw [h5]
    rcases hk with hk | hk
    · have := h1.lt k hk; omega
    · exact foot_lt ho hk
end
end Go.Proofs.Ytjeaejeikgkcaaa
