/- The disk's Write of a sector that was not cached; Write as a whole. -/
import Derived.Test.YtjeaejeikgkcaaaK7
namespace Go.Proofs.Ytjeaejeikgkcaaa
set_option linter.unusedSimpArgs false
set_option linter.unusedVariables false
open Go.RowKit

theorem info3 : (Try.prog.info? 3).map (fun i => (i.zero, i.size, i.bytes)) = some (some (.int .i64 0), 1, 8) := by kernel_rfl
section
variable {w : World} {p : Nat} {d : DS} {c : Value} {F : Nat → Prop} {l : List Nat}
theorem foot_ne {u : Value} (h : OwnE iE 3 0 w c l) (hd : DB w p d u) : ¬ Foot c p := by
  rcases h.2 with ⟨rfl, h0⟩ | ⟨g, cap, cur, rfl, h1, h2, h3⟩
  · exact nil_foot p
  · intro hk
    obtain rfl : g = p := by simpa [Foot, Value.ownBlock] using hk
    have h4 := hd.b
    unfold Box at h4
    rw [h4] at h2
    simp at h2
theorem DB.but {u : Value} (hd : DB w p d u) {S : Nat → Prop} {w' : World} (hb : But S w w') (hp : ¬ S p) : DB w' p d u := ⟨hb.box hd.b hp, hd.l1, hd.l2⟩
set_option maxRecDepth 10000 in
set_option maxHeartbeats 2000000 in
theorem write_out (h : Dsk w p F d l) (ho : d.ops ≤ 1000000) (i : Nat) (s : ByteArray) (hi : i < 256) (hs : s.size ≤ 256) (he : rawE d = 0) (hin : i ∉ rawL d l) (hx : ((rawL d l).length : Int) < (rawD d l).ops) : Calls Try.prog 12 #[.pointer (some ⟨p, 0, none⟩), .int .i64 (i : Int), .string s] w fun e w' => e = .returned (.int .i64 0) ∧ ∃ F', Dsk w' p F' { rawD d l with is := (rawD d l).is.set i s } (rawL d l ++ [i]) ∧ But F w w' ∧ Sprout w F F' := by
  have H := Lib.hid (fits_c (i : Int))
  have HC := Lib.hid (raw_c h ho)
  have hlen : (rawL d l).length ≤ 1000000 := by
    have := h.len
    have : (rawL d l).length ≤ l.length := by unfold rawL; split <;> simp
    omega
  rw [fitB_yes (i := (i : Int)) (by omega) (by omega)] at H
  rw [he] at HC
  clear h ho he
  generalize rawL d l = l1 at *
  obtain ⟨d1, hd1⟩ : ∃ d1, d1 = rawD d l := ⟨_, rfl⟩
  rw [← hd1] at HC hx ⊢
  clear hd1
  have HI := Lib.hid hi
  have HIN := Lib.hid hin
  have HLEN := Lib.hid hlen
  have HX := Lib.hid hx
  clear hi hin hlen hx
  go_enter Try.func12, Try.ntmps12
  go_wp2_with fail
  refine (H.out _).mono ?_
  rintro e w1 ⟨rfl, rfl⟩
  go_wp2_with fail
  refine (HC.out).mono ?_
  rintro e w1 ⟨rfl, h1, h2⟩
  obtain ⟨c1, hdb, hown, hf⟩ := h1.own
  have H1 := Lib.hid h1
  have HB := Lib.hid h2
  have hi := HI.out
  have q0 : (0 : Int) ≤ (i : Int) := by omega
  have q1 : (i : Int) < 256 := by omega
  have HR := Lib.hid (hdb.putIs hi s)
  have HBR := Lib.hid ((But.refl (Onl p) w1).set (p := p) (i := i) rfl (.string s))
  have HO := Lib.hid (hown.only hdb HBR.out)
  have HK := Lib.hid (contains_c (w := w1.setCell ⟨p, i, none⟩ (.string s)) i HO.out HLEN.out)
  simp only [HIN.out, decide_false] at HK
  have HF := Lib.hid hf
  have c0 := hdb.is hi
  have f0 := hdb.frozen i
  have c2 := hdb.cached
  generalize d1.is[i]'_ = si at c0
  clear h1 h2 HC hdb hown hf hi
  go_wp2_with fail
  refine (HK.out).mono ?_
  rintro e w2 ⟨rfl, rfl⟩
  clear c0 f0 c2 q0 q1 HK
  generalize w1.setCell ⟨p, i, none⟩ (.string s) = w2 at *
  have c2 := HR.out.cached
  have ca : ∀ o, (w2.alloc o).cell? ⟨p, 512, none⟩ = some c1 := fun o => (HR.out.new ((New.refl w2).alloc o)).cached
  have HB5 := Lib.hid ((Box.last w2 #[.int .i64 (i : Int)] 3).cell 0)
  go_wp2_with (at_builtin; refine app_foot iE _ rfl _ _ 48 3 rfl (.int .i64 0) 8 rfl info3 rfl (by omega) _ l1 rfl (HO.out.new ((New.refl w2).alloc _)) _ 0 _ i rfl HB5.out iE_one (by have := HLEN.out; omega) ?_)
  intro v6 w6 ho6 hb6 hs6
  obtain ⟨A6, cc6, rfl⟩ := ho6.form
  obtain ⟨v6, hv6⟩ : ∃ v6, v6 = Value.slice A6 (l1 ++ [i]).length cc6 := ⟨_, rfl⟩
  have HV := Lib.hid hv6
  rw [← hv6] at ho6 hs6
  clear hv6
  have hlt := HO.out
  have hne : ¬ Foot c1 p := foot_ne HO.out HR.out
  have hd6 := (HR.out.new ((New.refl w2).alloc (.cells #[.int .i64 (i : Int)] 3))).but hb6 hne
  have f6 := hd6.frozen 512
  have c6 := hd6.cached
  have HRZ := Lib.hid (hd6.putCached v6)
  rw [List.length_append, List.length_singleton] at HV
  have HBZ := Lib.hid ((But.refl (Onl p) w6).set (p := p) (i := 512) rfl v6)
  have HOZ := Lib.hid (ho6.only hd6 HBZ.out)
  have HB6 := Lib.hid hb6
  have HS6 := Lib.hid hs6
  clear hb6 hs6 hd6 ho6 hne hlt ca c2 HB5
  rw [HV.out] at *
  go_wp2
  go_ret
  have hall : But F w1 (w6.setCell ⟨p, 512, none⟩ (Value.slice A6 (l1.length + 1) cc6)) := by
    have b1 := H1.out.only HBR.out
    have b2 : But F w1 (w2.alloc (.cells #[.int .i64 (i : Int)] 3)) := b1.alloc _
    have b3 : But F w1 w6 := b2.trans (HB6.out.more fun k hk => HF.out k hk)
    exact b3.set H1.out.fp _
  have hsz : w1.heap.size ≤ w2.heap.size := HBR.out.size
  have hsp : ∀ k, (k = p ∨ Foot (Value.slice A6 (l1.length + 1) cc6) k) → F k ∨ w.heap.size ≤ k := by
    intro k hk
    rcases hk with rfl | hk
    · exact .inl H1.out.fp
    · rcases HS6.out k hk with h | h
      · exact .inl (HF.out k h)
      · have := HB.out.size
        exact .inr (by omega)
  refine ⟨rfl, fun k => k = p ∨ Foot (Value.slice A6 (l1.length + 1) cc6) k, ⟨⟨_, HRZ.out, HOZ.out, fun k hk => .inr hk⟩, .inl rfl, ?_, ⟨H1.out.wf.c0, H1.out.wf.c1, H1.out.wf.f0, H1.out.wf.f1, H1.out.wf.o0, H1.out.wf.k0, H1.out.wf.k1⟩, ?_, ?_⟩, HB.out.trans hall, hsp⟩
  · intro k hk
    rcases hk with rfl | hk
    · exact Nat.lt_of_lt_of_le (H1.out.lt _ H1.out.fp) hall.size
    · exact (HOZ.out.lt k hk).2
  · intro j hj
    rcases List.mem_append.1 hj with hj | hj
    · exact H1.out.hl j hj
    · rw [List.mem_singleton.1 hj]; exact HI.out
  · have := HX.out
    rw [List.length_append, List.length_singleton]
    show ((l1.length + 1 : Nat) : Int) ≤ d1.ops
    omega
end
end Go.Proofs.Ytjeaejeikgkcaaa
