/- utf.Append(b, r) returns a new slice of b's bytes followed by the encoding of r, or nil and false where r is no code point. -/
import Derived.Test.YtdhdpidjdadamaaDoorPx6
import Derived.WalkMore
namespace Go.Proofs.YtdhdpidjdadamaaDoor.PX
open Go.RowKit Go.Proofs.YtdhdpidjdadamaaDoorW.PrintWords Go.Proofs.YtdhdpidjdadamaaDoorW.PrintLast Go.Proofs.YtdhdpidjdadamaaDoorW.PrintMore
set_option linter.unusedVariables false
set_option linter.unusedSimpArgs false
def utf_Append.f (l0 : List Int) (a1 : Int) : Option (List Int × Bool) :=
 (utf_point.f a1).bind fun t => if t = true then (if l0.length ≤ 1000000000 then (utf_add.f l0 a1).bind fun y => some (y, true) else none) else some ([], false)
set_option maxHeartbeats 4000000 in
set_option maxRecDepth 100000 in
theorem utf_Append.calls (A0 : Option Addr) (c0 : Nat) (l0 : List Int) (a1 : Int) (r1 : List Int) (r2 : Bool) (w : World) (hr0 : Kd.C (Kd.int .u8) w A0 l0.length l0) (hc0 : l0.length ≤ c0) (h : utf_Append.f l0 a1 = some (r1, r2)) :
 Calls Tryd.prog 53 #[.slice A0 l0.length c0, .int .i64 a1] w fun e w' => ∃ v0_ : Value, e = .returned (.tuple #[v0_, .bool r2]) ∧ Kd.R (Kd.int .u8) 5 w' w.heap.size (fun _ => True) v0_ r1 ∧ Below w.heap.size w w' := by
 obtain ⟨t, hp, h⟩ := Option.bind_eq_some_iff.mp h;have A1 := Aside0.mk hp;have HR := Aside0.mk hr0;have HC := Aside0.mk hc0;clear hp hr0 hc0;cases t with
 | false =>
  simp only [Bool.false_eq_true, if_false, Option.some.injEq, Prod.mk.injEq] at h;obtain ⟨rfl, rfl⟩ := h;go_enter Tryd.func53, Tryd.ntmps53;go_wp2_with (go_at_call 61; (with_reducible refine (utf_point.calls a1 false _ A1.out).mono ?_); rintro e w' ⟨rfl, ⟨nd, rfl⟩⟩)
  go_ret2
  exact ⟨_, rfl, Kd.R_nil _ _ _ _ _, by repeat (first | exact Below.refl _ _ | apply pw_below_drewN | apply below_drew1 | apply below_alloc)⟩
 | true =>
  simp only [if_true] at h;by_cases hl : l0.length ≤ 1000000000
  ·rw [if_pos hl] at h;obtain ⟨y, hy, h⟩ := Option.bind_eq_some_iff.mp h;simp only [Option.some.injEq, Prod.mk.injEq] at h;obtain ⟨rfl, rfl⟩ := h;have A2 := Aside0.mk hy;have HL := Aside0.mk hl;have b0 : (l0.length : Int) ≤ 1000000000 := by omega
   clear hy hl;go_enter Tryd.func53, Tryd.ntmps53
   go_wp2_with (first | (go_at_call 61; (with_reducible refine (utf_point.calls a1 true _ A1.out).mono ?_); rintro e w' ⟨rfl, ⟨nd, rfl⟩⟩) | (at_make; refine wpList_make_own _ (by rfl) (.const (.int .i64 0)) (.tmp 11) 24 (by rfl) w.heap.size 5 _ (.int .u8 0) 1 Tryd.underlying24 (info_parts info5).choose_spec.1 (info_parts info5).choose_spec.2.1 (info_parts info5).choose_spec.2.2.1 .i64 .i64 ((l0.length : Int) + 4) (l0.length + 4) (by rfl) (by rfl) (by omega) (by rw [(info_parts info5).choose_spec.2.2.2]; have := HL.out; omega) (by unfold maxLen; have := HL.out; omega) (by simp) ?_; intro w1 ho1 hg1; have HB1 := Aside0.mk (show Below w.heap.size w w1 from ((Below.refl w.heap.size w).trans (Below.grown (Drawn0.below ⟨⟨nd, rfl⟩⟩) hg1 (Nat.le_refl _) (by simp)))); have HO := Aside0.mk (show Kd.R (Kd.int .u8) 5 w1 w.heap.size (fun _ => True) _ ([] : List Int) from Kd.R_of_own (enc := Value.int .u8) (xs := []) ho1 (fun _ _ => trivial)); clear ho1 hg1) | (at_builtin; refine Kd.R_append_row (Value.int .u8) (0 : Int) (h1 := fun _ => rfl) (w0 := w) w.heap.size (by rfl) (.tmp 12) (.tmp 13) 24 5 (.int .u8 0) 1 (by rfl) Tryd.underlying24 info5 rfl (by omega) _ [] l0 A0 l0.length c0 (fun _ => True) (by rfl) (by rfl) (fun _ _ => trivial) HO.out (Kd.C_below HR.out HB1.out) HB1.out HB1.out.size (by have := HL.out; simp; omega) ?_; intro v2 w2 ho2 hb2 hg2 hat2; have HB2 := Aside0.mk hb2; have HO2 := Aside0.mk ho2; clear ho2 hb2 hg2 hat2; clear HO HB1) | (go_at_call 62; (refine (utf_add.calls (fun _ => True) _ l0 a1 y w _ HB2.out HO2.out A2.out).mono ?_); rintro e w3 ⟨v3, rfl, ho3, hb3, _⟩; have HB3 := Aside0.mk hb3; have HO3 := Aside0.mk ho3; clear ho3 hb3))
   go_ret2
   exact ⟨_, rfl, Kd.R_mono HO3.out (fun _ _ => trivial), HB3.out⟩
  ·rw [if_neg hl] at h;simp at h
end Go.Proofs.YtdhdpidjdadamaaDoor.PX
