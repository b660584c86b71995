/- Printed by this session's program: Go functions of this seat as plain Lean functions, and proofs that their calls come to them. -/
import Derived.Test.YtdhdpidjdadamaaDoorPx0
import Derived.Test.YtdhdpidjdadamaaDoorPx3
namespace Go.Proofs.YtdhdpidjdadamaaDoor.PX
open Go.RowKit Go.Proofs.YtdhdpidjdadamaaDoorW.PrintWords Go.Proofs.YtdhdpidjdadamaaDoorW.PrintLast Go.Proofs.YtdhdpidjdadamaaDoorW.PrintMore
attribute [local go_sem] max2_int min2_int max_two min_two max_three min_three max_four min_four   -- for this text's walks alone
set_option linter.unusedVariables false
set_option linter.unusedSimpArgs false
/-! ### kp_Prefix: function 13 -/
def kp_Prefix.f (a0 : ByteArray) (a1 : ByteArray) : Option (Bool) := if (a0.size : Int) ≤ (a1.size : Int) then (if 0 ≤ (a0.size : Int) then (some ((a1.extract 0 ((a0.size : Int) : Int).toNat).toList == a0.toList)) else (none)) else (some false)
set_option maxHeartbeats 8000000 in
set_option maxRecDepth 100000 in
theorem kp_Prefix.calls (a0 : ByteArray) (a1 : ByteArray) (r : Bool) (w : World) (h : kp_Prefix.f a0 a1 = some r) :
 Calls Tryd.prog 13 #[.string a0, .string a1] w fun e w' => e = .returned (.bool r) ∧ Drawn0 w w' := by
 have H : (if (a0.size : Int) ≤ (a1.size : Int) then (if 0 ≤ (a0.size : Int) then (some ((a1.extract 0 ((a0.size : Int) : Int).toNat).toList == a0.toList)) else (none)) else (some false)) = some r := h
 clear h;by_cases c3 : (a0.size : Int) ≤ (a1.size : Int)
 ·rw [if_pos c3] at H;have c3b0 : decide ((a0.size : Int) ≤ (a1.size : Int)) = true := decide_eq_true c3;have c3b1 : decide (a0.size ≤ a1.size) = true := decide_eq_true (Int.ofNat_le.mp c3);clear c3;by_cases c4 : 0 ≤ (a0.size : Int)
  ·rw [if_pos c4] at H;have c4b0 := eq_true c4;have c4b1 : decide (0 ≤ (a0.size : Int)) = true := decide_eq_true c4;clear c4;have c5b0 := eq_true (of_decide_eq_true (by first | (with_reducible assumption) | assumption) : (a0.size : Int) ≤ (a1.size : Int))
   obtain rfl := Option.some.inj H;go_enter Tryd.func13, Tryd.ntmps13;go_wp2;go_ret;exact ⟨by first | rfl | (simp; done) | (simp [*]; done), by repeat (first | exact Drawn0.refl _ | apply Drawn0.step)⟩
  ·rw [if_neg c4] at H;exact absurd H (by simp)
 ·rw [if_neg c3] at H;have c3b0 : decide ((a0.size : Int) ≤ (a1.size : Int)) = false := decide_eq_false c3;have c3b1 : decide (a0.size ≤ a1.size) = false := decide_eq_false (fun h => c3 (Int.ofNat_le.mpr h))
  clear c3;obtain rfl := Option.some.inj H;go_enter Tryd.func13, Tryd.ntmps13;go_wp2;go_ret;exact ⟨by first | rfl | (simp; done) | (simp [*]; done), by repeat (first | exact Drawn0.refl _ | apply Drawn0.step)⟩
/-! ### flex_Name: function 17 -/
def flex_Name.f (k : Nat) (a0 : ByteArray) : Option (Bool) := if a0.toList = ([] : List UInt8) then (some false) else (if (a0.size : Int) ≤ 32 then ((flex_name.f k a0 0).bind fun t213 => (some (t213 == (a0.size : Int)))) else (some false))
theorem flex_Name.mono : ∀ a0 k, LeO (flex_Name.f k a0) (flex_Name.f (k + 1) a0) := by
 intro a0 k;unfold flex_Name.f;repeat' first | (with_reducible first | exact flex_name.mono _ _ _ | exact LeO.refl _ | exact LeO.none _ | refine LeO.ite ?_ ?_ | refine LeO.bind ?_ (fun _ => ?_)) | exact flex_name.mono _ _ _ | exact LeO.none _ | refine LeO.ite ?_ ?_ | refine LeO.bind ?_ (fun _ => ?_)
set_option maxHeartbeats 8000000 in
set_option maxRecDepth 100000 in
theorem flex_Name.calls (k : Nat) (a0 : ByteArray) (r : Bool) (w : World) (h : flex_Name.f k a0 = some r) :
 Calls Tryd.prog 17 #[.string a0] w fun e w' => e = .returned (.bool r) ∧ Drawn0 w w' := by
 have H : (if a0.toList = ([] : List UInt8) then (some false) else (if (a0.size : Int) ≤ 32 then ((flex_name.f k a0 0).bind fun t213 => (some (t213 == (a0.size : Int)))) else (some false))) = some r := h
 clear h;by_cases c2 : a0.toList = ([] : List UInt8)
 ·rw [if_pos c2] at H;have c2b0 : (a0.toList == ([] : List UInt8)) = true := beq_iff_eq.mpr c2;have c2b1 : (a0.toList != ([] : List UInt8)) = false := bne_eq_false_iff_eq.mpr c2;clear c2;obtain rfl := Option.some.inj H;go_enter Tryd.func17, Tryd.ntmps17;go_wp2;go_ret;exact ⟨by first | rfl | (simp; done) | (simp [*]; done), by repeat (first | exact Drawn0.refl _ | apply Drawn0.step)⟩
 ·rw [if_neg c2] at H;have c2b0 : (a0.toList == ([] : List UInt8)) = false := beq_eq_false_iff_ne.mpr c2;have c2b1 : (a0.toList != ([] : List UInt8)) = true := bne_iff_ne.mpr c2;by_cases c3 : (a0.size : Int) ≤ 32
  ·rw [if_pos c3] at H;have c3b0 : decide ((a0.size : Int) ≤ 32) = true := decide_eq_true c3;have c3b1 : decide (a0.size ≤ 32) = true := decide_eq_true (by omega)
   clear c3;replace H := Option.bind_eq_some_iff.mp H;obtain ⟨t213, A40, H⟩ := H;replace H : (some (t213 == (a0.size : Int))) = some r := H;have A4 := Aside0.mk A40;clear A40;obtain rfl := Option.some.inj H;go_enter Tryd.func17, Tryd.ntmps17;go_wp2_with (first | (go_at_call 23; (with_reducible refine (flex_name.calls k a0 0 t213 _ A4.out).mono ?_); rintro e w' ⟨rfl, ⟨nd, rfl⟩⟩))
   go_ret;exact ⟨by first | rfl | (simp; done) | (simp [*]; done), by repeat (first | exact Drawn0.refl _ | apply Drawn0.step)⟩
  ·rw [if_neg c3] at H;have c3b0 : decide ((a0.size : Int) ≤ 32) = false := decide_eq_false c3;have c3b1 : decide (a0.size ≤ 32) = false := decide_eq_false (by omega)
   clear c3;obtain rfl := Option.some.inj H;go_enter Tryd.func17, Tryd.ntmps17;go_wp2;go_ret;exact ⟨by first | rfl | (simp; done) | (simp [*]; done), by repeat (first | exact Drawn0.refl _ | apply Drawn0.step)⟩
end Go.Proofs.YtdhdpidjdadamaaDoor.PX
