/- ndjqref03.escape returns what the plain function rj_escape.f says, and writes nothing. -/
import Derived.Test.YtdhdpidjdadamaaDoorPx17
namespace Go.Proofs.YtdhdpidjdadamaaDoor.PX
open Go.RowKit Go.Proofs.YtdhdpidjdadamaaDoorW.PrintWords Go.Proofs.YtdhdpidjdadamaaDoorW.PrintLast Go.Proofs.YtdhdpidjdadamaaDoorW.PrintMore
set_option linter.unusedVariables false
set_option linter.unusedSimpArgs false
def rj_escape.f (k : Nat) (a0 : ByteArray) (a1 : Int) : Option (Int × Int) :=
 if a1 < 0 then none else if 1000000000 < a1 then none else if (a0.size : Int) ≤ a1 + 1 then some (0, 0)
 else if bt a0 (a1 + 1) = 34 then some (34, 2) else if bt a0 (a1 + 1) = 92 then some (92, 2) else if bt a0 (a1 + 1) = 47 then some (47, 2)
 else if bt a0 (a1 + 1) = 98 then some (8, 2) else if bt a0 (a1 + 1) = 102 then some (12, 2) else if bt a0 (a1 + 1) = 110 then some (10, 2)
 else if bt a0 (a1 + 1) = 114 then some (13, 2) else if bt a0 (a1 + 1) = 116 then some (9, 2)
 else if bt a0 (a1 + 1) = 117 then rj_unicode.f k a0 a1
 else some (0, -1)
theorem rj_escape.mono : ∀ a0 a1 k, LeO (rj_escape.f k a0 a1) (rj_escape.f (k + 1) a0 a1) := by
 intro a0 a1 k;unfold rj_escape.f;repeat' first
  | (with_reducible exact rj_unicode.mono _ _ _)
  | (with_reducible exact LeO.refl _)
  | (with_reducible exact LeO.none _)
  | refine LeO.ite ?_ ?_
set_option maxHeartbeats 4000000 in
set_option maxRecDepth 100000 in
theorem resc_short (a0 : ByteArray) (a1 : Int) (w : World) (h0 : 0 ≤ a1) (h1 : a1 ≤ 1000000000) (h : (a0.size : Int) ≤ a1 + 1) :
 Calls Tryd.prog 57 #[.string a0, .int .i64 a1] w fun e w' => e = .returned (.tuple #[.int .i64 0, .int .i64 0]) ∧ Drawn0 w w' := by
 have d0 : decide ((a0.size : Int) ≤ a1 + 1) = true := decide_eq_true h;clear h;go_enter Tryd.func57, Tryd.ntmps57;go_wp2;go_ret2
 exact ⟨rfl, by repeat (first | exact Drawn0.refl _ | apply Drawn0.step)⟩
set_option maxHeartbeats 4000000 in
set_option maxRecDepth 100000 in
theorem resc_34 (a0 : ByteArray) (a1 : Int) (w : World) (h0 : 0 ≤ a1) (h1 : a1 ≤ 1000000000) (hn : a1 + 1 < a0.size) (hc : bt a0 (a1 + 1) = 34) :
 Calls Tryd.prog 57 #[.string a0, .int .i64 a1] w fun e w' => e = .returned (.tuple #[.int .i64 34, .int .i64 2]) ∧ Drawn0 w w' := by
 have e34 : ((bt a0 (a1 + 1)) == 34) = true := beq_iff_eq.mpr hc;have q4 : (a1 + 1 < (a0.size : Int)) = True := eq_true (by omega)
 have p4 : (0 ≤ a1 + 1) = True := eq_true (by omega)
 have hx4 : ∀ h : (a1 + 1).toNat < a0.size, ((a0[(a1 + 1).toNat]'h).toNat : Int) = bt a0 (a1 + 1) := bt_at a0 (a1 + 1);have d0 : decide ((a0.size : Int) ≤ a1 + 1) = false := decide_eq_false (by omega)
 have d1 : decide (0 ≤ a1 + 1) = true := decide_eq_true (by omega)
 have d2 : decide (a1 + 1 < (a0.size : Int)) = true := decide_eq_true (by omega)
 have hw : wrap64 (bt a0 (a1 + 1)) = 34 := by rw [hc]; unfold wrap64; omega
 have Hw := Aside0.mk hw;clear hw;clear hc hn;go_enter Tryd.func57, Tryd.ntmps57;go_wp2;go_ret2
 exact ⟨by first | rfl | (rw [Hw.out]; rfl) | (simp [Hw.out]; done), by repeat (first | exact Drawn0.refl _ | apply Drawn0.step)⟩
set_option maxHeartbeats 4000000 in
set_option maxRecDepth 100000 in
theorem resc_92 (a0 : ByteArray) (a1 : Int) (w : World) (h0 : 0 ≤ a1) (h1 : a1 ≤ 1000000000) (hn : a1 + 1 < a0.size) (hc : bt a0 (a1 + 1) = 92) :
 Calls Tryd.prog 57 #[.string a0, .int .i64 a1] w fun e w' => e = .returned (.tuple #[.int .i64 92, .int .i64 2]) ∧ Drawn0 w w' := by
 have e34 : ((bt a0 (a1 + 1)) == 34) = false := beq_eq_false_iff_ne.mpr (by omega)
 have e92 : ((bt a0 (a1 + 1)) == 92) = true := beq_iff_eq.mpr hc;have q4 : (a1 + 1 < (a0.size : Int)) = True := eq_true (by omega)
 have p4 : (0 ≤ a1 + 1) = True := eq_true (by omega)
 have hx4 : ∀ h : (a1 + 1).toNat < a0.size, ((a0[(a1 + 1).toNat]'h).toNat : Int) = bt a0 (a1 + 1) := bt_at a0 (a1 + 1);have d0 : decide ((a0.size : Int) ≤ a1 + 1) = false := decide_eq_false (by omega)
 have d1 : decide (0 ≤ a1 + 1) = true := decide_eq_true (by omega)
 have d2 : decide (a1 + 1 < (a0.size : Int)) = true := decide_eq_true (by omega)
 have hw : wrap64 (bt a0 (a1 + 1)) = 92 := by rw [hc]; unfold wrap64; omega
 have Hw := Aside0.mk hw;clear hw;clear hc hn;go_enter Tryd.func57, Tryd.ntmps57;go_wp2;go_ret2
 exact ⟨by first | rfl | (rw [Hw.out]; rfl) | (simp [Hw.out]; done), by repeat (first | exact Drawn0.refl _ | apply Drawn0.step)⟩
set_option maxHeartbeats 4000000 in
set_option maxRecDepth 100000 in
theorem resc_47 (a0 : ByteArray) (a1 : Int) (w : World) (h0 : 0 ≤ a1) (h1 : a1 ≤ 1000000000) (hn : a1 + 1 < a0.size) (hc : bt a0 (a1 + 1) = 47) :
 Calls Tryd.prog 57 #[.string a0, .int .i64 a1] w fun e w' => e = .returned (.tuple #[.int .i64 47, .int .i64 2]) ∧ Drawn0 w w' := by
 have e34 : ((bt a0 (a1 + 1)) == 34) = false := beq_eq_false_iff_ne.mpr (by omega)
 have e92 : ((bt a0 (a1 + 1)) == 92) = false := beq_eq_false_iff_ne.mpr (by omega)
 have e47 : ((bt a0 (a1 + 1)) == 47) = true := beq_iff_eq.mpr hc;have q4 : (a1 + 1 < (a0.size : Int)) = True := eq_true (by omega)
 have p4 : (0 ≤ a1 + 1) = True := eq_true (by omega)
 have hx4 : ∀ h : (a1 + 1).toNat < a0.size, ((a0[(a1 + 1).toNat]'h).toNat : Int) = bt a0 (a1 + 1) := bt_at a0 (a1 + 1);have d0 : decide ((a0.size : Int) ≤ a1 + 1) = false := decide_eq_false (by omega)
 have d1 : decide (0 ≤ a1 + 1) = true := decide_eq_true (by omega)
 have d2 : decide (a1 + 1 < (a0.size : Int)) = true := decide_eq_true (by omega)
 have hw : wrap64 (bt a0 (a1 + 1)) = 47 := by rw [hc]; unfold wrap64; omega
 have Hw := Aside0.mk hw;clear hw;clear hc hn;go_enter Tryd.func57, Tryd.ntmps57;go_wp2;go_ret2
 exact ⟨by first | rfl | (rw [Hw.out]; rfl) | (simp [Hw.out]; done), by repeat (first | exact Drawn0.refl _ | apply Drawn0.step)⟩
set_option maxHeartbeats 4000000 in
set_option maxRecDepth 100000 in
theorem resc_98 (a0 : ByteArray) (a1 : Int) (w : World) (h0 : 0 ≤ a1) (h1 : a1 ≤ 1000000000) (hn : a1 + 1 < a0.size) (hc : bt a0 (a1 + 1) = 98) :
 Calls Tryd.prog 57 #[.string a0, .int .i64 a1] w fun e w' => e = .returned (.tuple #[.int .i64 8, .int .i64 2]) ∧ Drawn0 w w' := by
 have e34 : ((bt a0 (a1 + 1)) == 34) = false := beq_eq_false_iff_ne.mpr (by omega)
 have e92 : ((bt a0 (a1 + 1)) == 92) = false := beq_eq_false_iff_ne.mpr (by omega)
 have e47 : ((bt a0 (a1 + 1)) == 47) = false := beq_eq_false_iff_ne.mpr (by omega)
 have e98 : ((bt a0 (a1 + 1)) == 98) = true := beq_iff_eq.mpr hc;have q4 : (a1 + 1 < (a0.size : Int)) = True := eq_true (by omega)
 have p4 : (0 ≤ a1 + 1) = True := eq_true (by omega)
 have hx4 : ∀ h : (a1 + 1).toNat < a0.size, ((a0[(a1 + 1).toNat]'h).toNat : Int) = bt a0 (a1 + 1) := bt_at a0 (a1 + 1);have d0 : decide ((a0.size : Int) ≤ a1 + 1) = false := decide_eq_false (by omega)
 have d1 : decide (0 ≤ a1 + 1) = true := decide_eq_true (by omega)
 have d2 : decide (a1 + 1 < (a0.size : Int)) = true := decide_eq_true (by omega)
 clear hc hn;go_enter Tryd.func57, Tryd.ntmps57;go_wp2;go_ret2
 exact ⟨rfl, by repeat (first | exact Drawn0.refl _ | apply Drawn0.step)⟩
set_option maxHeartbeats 4000000 in
set_option maxRecDepth 100000 in
theorem resc_102 (a0 : ByteArray) (a1 : Int) (w : World) (h0 : 0 ≤ a1) (h1 : a1 ≤ 1000000000) (hn : a1 + 1 < a0.size) (hc : bt a0 (a1 + 1) = 102) :
 Calls Tryd.prog 57 #[.string a0, .int .i64 a1] w fun e w' => e = .returned (.tuple #[.int .i64 12, .int .i64 2]) ∧ Drawn0 w w' := by
 have e34 : ((bt a0 (a1 + 1)) == 34) = false := beq_eq_false_iff_ne.mpr (by omega)
 have e92 : ((bt a0 (a1 + 1)) == 92) = false := beq_eq_false_iff_ne.mpr (by omega)
 have e47 : ((bt a0 (a1 + 1)) == 47) = false := beq_eq_false_iff_ne.mpr (by omega)
 have e98 : ((bt a0 (a1 + 1)) == 98) = false := beq_eq_false_iff_ne.mpr (by omega)
 have e102 : ((bt a0 (a1 + 1)) == 102) = true := beq_iff_eq.mpr hc;have q4 : (a1 + 1 < (a0.size : Int)) = True := eq_true (by omega)
 have p4 : (0 ≤ a1 + 1) = True := eq_true (by omega)
 have hx4 : ∀ h : (a1 + 1).toNat < a0.size, ((a0[(a1 + 1).toNat]'h).toNat : Int) = bt a0 (a1 + 1) := bt_at a0 (a1 + 1);have d0 : decide ((a0.size : Int) ≤ a1 + 1) = false := decide_eq_false (by omega)
 have d1 : decide (0 ≤ a1 + 1) = true := decide_eq_true (by omega)
 have d2 : decide (a1 + 1 < (a0.size : Int)) = true := decide_eq_true (by omega)
 clear hc hn;go_enter Tryd.func57, Tryd.ntmps57;go_wp2;go_ret2
 exact ⟨rfl, by repeat (first | exact Drawn0.refl _ | apply Drawn0.step)⟩
set_option maxHeartbeats 4000000 in
set_option maxRecDepth 100000 in
theorem resc_110 (a0 : ByteArray) (a1 : Int) (w : World) (h0 : 0 ≤ a1) (h1 : a1 ≤ 1000000000) (hn : a1 + 1 < a0.size) (hc : bt a0 (a1 + 1) = 110) :
 Calls Tryd.prog 57 #[.string a0, .int .i64 a1] w fun e w' => e = .returned (.tuple #[.int .i64 10, .int .i64 2]) ∧ Drawn0 w w' := by
 have e34 : ((bt a0 (a1 + 1)) == 34) = false := beq_eq_false_iff_ne.mpr (by omega)
 have e92 : ((bt a0 (a1 + 1)) == 92) = false := beq_eq_false_iff_ne.mpr (by omega)
 have e47 : ((bt a0 (a1 + 1)) == 47) = false := beq_eq_false_iff_ne.mpr (by omega)
 have e98 : ((bt a0 (a1 + 1)) == 98) = false := beq_eq_false_iff_ne.mpr (by omega)
 have e102 : ((bt a0 (a1 + 1)) == 102) = false := beq_eq_false_iff_ne.mpr (by omega)
 have e110 : ((bt a0 (a1 + 1)) == 110) = true := beq_iff_eq.mpr hc;have q4 : (a1 + 1 < (a0.size : Int)) = True := eq_true (by omega)
 have p4 : (0 ≤ a1 + 1) = True := eq_true (by omega)
 have hx4 : ∀ h : (a1 + 1).toNat < a0.size, ((a0[(a1 + 1).toNat]'h).toNat : Int) = bt a0 (a1 + 1) := bt_at a0 (a1 + 1);have d0 : decide ((a0.size : Int) ≤ a1 + 1) = false := decide_eq_false (by omega)
 have d1 : decide (0 ≤ a1 + 1) = true := decide_eq_true (by omega)
 have d2 : decide (a1 + 1 < (a0.size : Int)) = true := decide_eq_true (by omega)
 clear hc hn;go_enter Tryd.func57, Tryd.ntmps57;go_wp2;go_ret2
 exact ⟨rfl, by repeat (first | exact Drawn0.refl _ | apply Drawn0.step)⟩
set_option maxHeartbeats 4000000 in
set_option maxRecDepth 100000 in
theorem resc_114 (a0 : ByteArray) (a1 : Int) (w : World) (h0 : 0 ≤ a1) (h1 : a1 ≤ 1000000000) (hn : a1 + 1 < a0.size) (hc : bt a0 (a1 + 1) = 114) :
 Calls Tryd.prog 57 #[.string a0, .int .i64 a1] w fun e w' => e = .returned (.tuple #[.int .i64 13, .int .i64 2]) ∧ Drawn0 w w' := by
 have e34 : ((bt a0 (a1 + 1)) == 34) = false := beq_eq_false_iff_ne.mpr (by omega)
 have e92 : ((bt a0 (a1 + 1)) == 92) = false := beq_eq_false_iff_ne.mpr (by omega)
 have e47 : ((bt a0 (a1 + 1)) == 47) = false := beq_eq_false_iff_ne.mpr (by omega)
 have e98 : ((bt a0 (a1 + 1)) == 98) = false := beq_eq_false_iff_ne.mpr (by omega)
 have e102 : ((bt a0 (a1 + 1)) == 102) = false := beq_eq_false_iff_ne.mpr (by omega)
 have e110 : ((bt a0 (a1 + 1)) == 110) = false := beq_eq_false_iff_ne.mpr (by omega)
 have e114 : ((bt a0 (a1 + 1)) == 114) = true := beq_iff_eq.mpr hc;have q4 : (a1 + 1 < (a0.size : Int)) = True := eq_true (by omega)
 have p4 : (0 ≤ a1 + 1) = True := eq_true (by omega)
 have hx4 : ∀ h : (a1 + 1).toNat < a0.size, ((a0[(a1 + 1).toNat]'h).toNat : Int) = bt a0 (a1 + 1) := bt_at a0 (a1 + 1);have d0 : decide ((a0.size : Int) ≤ a1 + 1) = false := decide_eq_false (by omega)
 have d1 : decide (0 ≤ a1 + 1) = true := decide_eq_true (by omega)
 have d2 : decide (a1 + 1 < (a0.size : Int)) = true := decide_eq_true (by omega)
 clear hc hn;go_enter Tryd.func57, Tryd.ntmps57;go_wp2;go_ret2
 exact ⟨rfl, by repeat (first | exact Drawn0.refl _ | apply Drawn0.step)⟩
set_option maxHeartbeats 4000000 in
set_option maxRecDepth 100000 in
theorem resc_116 (a0 : ByteArray) (a1 : Int) (w : World) (h0 : 0 ≤ a1) (h1 : a1 ≤ 1000000000) (hn : a1 + 1 < a0.size) (hc : bt a0 (a1 + 1) = 116) :
 Calls Tryd.prog 57 #[.string a0, .int .i64 a1] w fun e w' => e = .returned (.tuple #[.int .i64 9, .int .i64 2]) ∧ Drawn0 w w' := by
 have e34 : ((bt a0 (a1 + 1)) == 34) = false := beq_eq_false_iff_ne.mpr (by omega)
 have e92 : ((bt a0 (a1 + 1)) == 92) = false := beq_eq_false_iff_ne.mpr (by omega)
 have e47 : ((bt a0 (a1 + 1)) == 47) = false := beq_eq_false_iff_ne.mpr (by omega)
 have e98 : ((bt a0 (a1 + 1)) == 98) = false := beq_eq_false_iff_ne.mpr (by omega)
 have e102 : ((bt a0 (a1 + 1)) == 102) = false := beq_eq_false_iff_ne.mpr (by omega)
 have e110 : ((bt a0 (a1 + 1)) == 110) = false := beq_eq_false_iff_ne.mpr (by omega)
 have e114 : ((bt a0 (a1 + 1)) == 114) = false := beq_eq_false_iff_ne.mpr (by omega)
 have e116 : ((bt a0 (a1 + 1)) == 116) = true := beq_iff_eq.mpr hc;have q4 : (a1 + 1 < (a0.size : Int)) = True := eq_true (by omega)
 have p4 : (0 ≤ a1 + 1) = True := eq_true (by omega)
 have hx4 : ∀ h : (a1 + 1).toNat < a0.size, ((a0[(a1 + 1).toNat]'h).toNat : Int) = bt a0 (a1 + 1) := bt_at a0 (a1 + 1);have d0 : decide ((a0.size : Int) ≤ a1 + 1) = false := decide_eq_false (by omega)
 have d1 : decide (0 ≤ a1 + 1) = true := decide_eq_true (by omega)
 have d2 : decide (a1 + 1 < (a0.size : Int)) = true := decide_eq_true (by omega)
 clear hc hn;go_enter Tryd.func57, Tryd.ntmps57;go_wp2;go_ret2
 exact ⟨rfl, by repeat (first | exact Drawn0.refl _ | apply Drawn0.step)⟩
set_option maxHeartbeats 4000000 in
set_option maxRecDepth 100000 in
theorem resc_117 (k : Nat) (a0 : ByteArray) (a1 r1 r2 : Int) (w : World) (h0 : 0 ≤ a1) (h1 : a1 ≤ 1000000000) (hn : a1 + 1 < a0.size) (hc : bt a0 (a1 + 1) = 117) (hA : rj_unicode.f k a0 a1 = some (r1, r2)) :
 Calls Tryd.prog 57 #[.string a0, .int .i64 a1] w fun e w' => e = .returned (.tuple #[.int .i64 r1, .int .i64 r2]) ∧ Drawn0 w w' := by
 have e34 : ((bt a0 (a1 + 1)) == 34) = false := beq_eq_false_iff_ne.mpr (by omega)
 have e92 : ((bt a0 (a1 + 1)) == 92) = false := beq_eq_false_iff_ne.mpr (by omega)
 have e47 : ((bt a0 (a1 + 1)) == 47) = false := beq_eq_false_iff_ne.mpr (by omega)
 have e98 : ((bt a0 (a1 + 1)) == 98) = false := beq_eq_false_iff_ne.mpr (by omega)
 have e102 : ((bt a0 (a1 + 1)) == 102) = false := beq_eq_false_iff_ne.mpr (by omega)
 have e110 : ((bt a0 (a1 + 1)) == 110) = false := beq_eq_false_iff_ne.mpr (by omega)
 have e114 : ((bt a0 (a1 + 1)) == 114) = false := beq_eq_false_iff_ne.mpr (by omega)
 have e116 : ((bt a0 (a1 + 1)) == 116) = false := beq_eq_false_iff_ne.mpr (by omega)
 have e117 : ((bt a0 (a1 + 1)) == 117) = true := beq_iff_eq.mpr hc;have q4 : (a1 + 1 < (a0.size : Int)) = True := eq_true (by omega)
 have p4 : (0 ≤ a1 + 1) = True := eq_true (by omega)
 have hx4 : ∀ h : (a1 + 1).toNat < a0.size, ((a0[(a1 + 1).toNat]'h).toNat : Int) = bt a0 (a1 + 1) := bt_at a0 (a1 + 1);have d0 : decide ((a0.size : Int) ≤ a1 + 1) = false := decide_eq_false (by omega)
 have d1 : decide (0 ≤ a1 + 1) = true := decide_eq_true (by omega)
 have d2 : decide (a1 + 1 < (a0.size : Int)) = true := decide_eq_true (by omega)
 have A := Aside0.mk hA;clear hc hn hA;go_enter Tryd.func57, Tryd.ntmps57;go_wp2_with (first | (go_at_call 65; (with_reducible refine (rj_unicode.calls k a0 a1 r1 r2 _ A.out).mono ?_); rintro e_ w' ⟨rfl, ⟨nd, rfl⟩⟩))
 go_ret2
 exact ⟨rfl, by repeat (first | exact Drawn0.refl _ | apply Drawn0.step)⟩
set_option maxHeartbeats 4000000 in
set_option maxRecDepth 100000 in
theorem resc_else (a0 : ByteArray) (a1 : Int) (w : World) (h0 : 0 ≤ a1) (h1 : a1 ≤ 1000000000) (hn : a1 + 1 < a0.size) (n34 : bt a0 (a1 + 1) ≠ 34) (n92 : bt a0 (a1 + 1) ≠ 92) (n47 : bt a0 (a1 + 1) ≠ 47) (n98 : bt a0 (a1 + 1) ≠ 98) (n102 : bt a0 (a1 + 1) ≠ 102) (n110 : bt a0 (a1 + 1) ≠ 110) (n114 : bt a0 (a1 + 1) ≠ 114) (n116 : bt a0 (a1 + 1) ≠ 116) (n117 : bt a0 (a1 + 1) ≠ 117) :
 Calls Tryd.prog 57 #[.string a0, .int .i64 a1] w fun e w' => e = .returned (.tuple #[.int .i64 0, .int .i64 (-1)]) ∧ Drawn0 w w' := by
 have e34 : ((bt a0 (a1 + 1)) == 34) = false := beq_eq_false_iff_ne.mpr n34;have e92 : ((bt a0 (a1 + 1)) == 92) = false := beq_eq_false_iff_ne.mpr n92;have e47 : ((bt a0 (a1 + 1)) == 47) = false := beq_eq_false_iff_ne.mpr n47;have e98 : ((bt a0 (a1 + 1)) == 98) = false := beq_eq_false_iff_ne.mpr n98;have e102 : ((bt a0 (a1 + 1)) == 102) = false := beq_eq_false_iff_ne.mpr n102;have e110 : ((bt a0 (a1 + 1)) == 110) = false := beq_eq_false_iff_ne.mpr n110;have e114 : ((bt a0 (a1 + 1)) == 114) = false := beq_eq_false_iff_ne.mpr n114
 have e116 : ((bt a0 (a1 + 1)) == 116) = false := beq_eq_false_iff_ne.mpr n116;have e117 : ((bt a0 (a1 + 1)) == 117) = false := beq_eq_false_iff_ne.mpr n117;have q4 : (a1 + 1 < (a0.size : Int)) = True := eq_true (by omega)
 have p4 : (0 ≤ a1 + 1) = True := eq_true (by omega)
 have hx4 : ∀ h : (a1 + 1).toNat < a0.size, ((a0[(a1 + 1).toNat]'h).toNat : Int) = bt a0 (a1 + 1) := bt_at a0 (a1 + 1);have d0 : decide ((a0.size : Int) ≤ a1 + 1) = false := decide_eq_false (by omega)
 have d1 : decide (0 ≤ a1 + 1) = true := decide_eq_true (by omega)
 have d2 : decide (a1 + 1 < (a0.size : Int)) = true := decide_eq_true (by omega)
 clear hn n34 n92 n47 n98 n102 n110 n114 n116 n117;go_enter Tryd.func57, Tryd.ntmps57;go_wp2;go_ret2
 exact ⟨rfl, by repeat (first | exact Drawn0.refl _ | apply Drawn0.step)⟩
theorem rj_escape.calls (k : Nat) (a0 : ByteArray) (a1 : Int) (r1 : Int) (r2 : Int) (w : World) (h : rj_escape.f k a0 a1 = some (r1, r2)) :
 Calls Tryd.prog 57 #[.string a0, .int .i64 a1] w fun e w' => e = .returned (.tuple #[.int .i64 r1, .int .i64 r2]) ∧ Drawn0 w w' := by
 unfold rj_escape.f at h;by_cases h0 : a1 < 0
 ·rw [if_pos h0] at h; simp at h
 rw [if_neg h0] at h;by_cases h1 : 1000000000 < a1
 ·rw [if_pos h1] at h; simp at h
 rw [if_neg h1] at h;by_cases hs : (a0.size : Int) ≤ a1 + 1
 ·rw [if_pos hs] at h;simp only [Option.some.injEq, Prod.mk.injEq] at h;obtain ⟨rfl, rfl⟩ := h;exact resc_short a0 a1 w (by omega) (by omega) hs
 rw [if_neg hs] at h;by_cases c34 : bt a0 (a1 + 1) = 34
 ·rw [if_pos c34] at h;simp only [Option.some.injEq, Prod.mk.injEq] at h;obtain ⟨rfl, rfl⟩ := h;exact resc_34 a0 a1 w (by omega) (by omega) (by omega) c34
 rw [if_neg c34] at h;by_cases c92 : bt a0 (a1 + 1) = 92
 ·rw [if_pos c92] at h;simp only [Option.some.injEq, Prod.mk.injEq] at h;obtain ⟨rfl, rfl⟩ := h;exact resc_92 a0 a1 w (by omega) (by omega) (by omega) c92
 rw [if_neg c92] at h;by_cases c47 : bt a0 (a1 + 1) = 47
 ·rw [if_pos c47] at h;simp only [Option.some.injEq, Prod.mk.injEq] at h;obtain ⟨rfl, rfl⟩ := h;exact resc_47 a0 a1 w (by omega) (by omega) (by omega) c47
 rw [if_neg c47] at h;by_cases c98 : bt a0 (a1 + 1) = 98
 ·rw [if_pos c98] at h;simp only [Option.some.injEq, Prod.mk.injEq] at h;obtain ⟨rfl, rfl⟩ := h;exact resc_98 a0 a1 w (by omega) (by omega) (by omega) c98
 rw [if_neg c98] at h;by_cases c102 : bt a0 (a1 + 1) = 102
 ·rw [if_pos c102] at h;simp only [Option.some.injEq, Prod.mk.injEq] at h;obtain ⟨rfl, rfl⟩ := h;exact resc_102 a0 a1 w (by omega) (by omega) (by omega) c102
 rw [if_neg c102] at h;by_cases c110 : bt a0 (a1 + 1) = 110
 ·rw [if_pos c110] at h;simp only [Option.some.injEq, Prod.mk.injEq] at h;obtain ⟨rfl, rfl⟩ := h;exact resc_110 a0 a1 w (by omega) (by omega) (by omega) c110
 rw [if_neg c110] at h;by_cases c114 : bt a0 (a1 + 1) = 114
 ·rw [if_pos c114] at h;simp only [Option.some.injEq, Prod.mk.injEq] at h;obtain ⟨rfl, rfl⟩ := h;exact resc_114 a0 a1 w (by omega) (by omega) (by omega) c114
 rw [if_neg c114] at h;by_cases c116 : bt a0 (a1 + 1) = 116
 ·rw [if_pos c116] at h;simp only [Option.some.injEq, Prod.mk.injEq] at h;obtain ⟨rfl, rfl⟩ := h;exact resc_116 a0 a1 w (by omega) (by omega) (by omega) c116
 rw [if_neg c116] at h;by_cases c117 : bt a0 (a1 + 1) = 117
 ·rw [if_pos c117] at h;exact resc_117 k a0 a1 r1 r2 w (by omega) (by omega) (by omega) c117 h
 rw [if_neg c117] at h;simp only [Option.some.injEq, Prod.mk.injEq] at h;obtain ⟨rfl, rfl⟩ := h;exact resc_else a0 a1 w (by omega) (by omega) (by omega) c34 c92 c47 c98 c102 c110 c114 c116 c117
end Go.Proofs.YtdhdpidjdadamaaDoor.PX
