/- Printed by this session's program: Go functions of this seat as plain Lean functions, and proofs that their calls come to them. -/
import Derived.Test.YtdhdpidjdadamaaDoorPx0
import Derived.Test.YtdhdpidjdadamaaDoorPx2
namespace Go.Proofs.YtdhdpidjdadamaaDoor.PX
open Go.RowKit Go.Proofs.YtdhdpidjdadamaaDoorW.PrintWords Go.Proofs.YtdhdpidjdadamaaDoorW.PrintLast Go.Proofs.YtdhdpidjdadamaaDoorW.PrintMore
attribute [local go_sem] max2_int min2_int max_two min_two max_three min_three max_four min_four   -- for this text's walks alone
set_option linter.unusedVariables false
set_option linter.unusedSimpArgs false
/-! ### flex_name: function 23 -/
mutual
def flex_name.j0 : Nat → ByteArray → Int → Bool → Option (Int)
 | 0, _, _, _ => none
 | k + 1, x0, x1, x15 => if x15 = true then (some x1) else (flex_name.l0 k x0 x1)
def flex_name.l0 : Nat → ByteArray → Int → Option (Int)
 | 0, _, _ => none
 | k + 1, x0, x1 => if x1 < (x0.size : Int) then (if 0 ≤ x1 then ((flex_letter.f (bt x0 x1)).bind fun t104 => (if t104 = true then (flex_name.l0 k x0 (wrap64 (x1 + 1))) else ((flex_digit.f (bt x0 x1)).bind fun t105 => (if t105 = true then (flex_name.l0 k x0 (wrap64 (x1 + 1))) else (some x1))))) else (none)) else (some x1)
end
def flex_name.f (k : Nat) (a0 : ByteArray) (a1 : Int) : Option (Int) := if a1 ≥ (a0.size : Int) then (flex_name.j0 k a0 a1 true) else (if 0 ≤ a1 then (if a1 < (a0.size : Int) then ((flex_letter.f (bt a0 a1)).bind fun t103 => (flex_name.j0 k a0 a1 (!t103))) else (none)) else (none))
theorem flex_name.mono_l : ∀ k, (∀ y0 y1 y2, LeO (flex_name.j0 k y0 y1 y2) (flex_name.j0 (k + 1) y0 y1 y2)) ∧ (∀ y0 y1, LeO (flex_name.l0 k y0 y1) (flex_name.l0 (k + 1) y0 y1))
 | 0 => ⟨fun _ _ _ r h => by simp [flex_name.j0] at h, fun _ _ r h => by simp [flex_name.l0] at h⟩
 | k + 1 => by
  obtain ⟨ih0, ih1⟩ := flex_name.mono_l k;refine ⟨?_, ?_⟩
  all_goals (intros;first | unfold flex_name.j0 | unfold flex_name.l0)
  all_goals (repeat' first | (with_reducible first | exact ih0 _ _ _ | exact ih1 _ _ | exact LeO.refl _ | exact LeO.none _ | refine LeO.ite ?_ ?_ | refine LeO.bind ?_ (fun _ => ?_)) | exact ih0 _ _ _ | exact ih1 _ _ | exact LeO.none _ | refine LeO.ite ?_ ?_ | refine LeO.bind ?_ (fun _ => ?_))
theorem flex_name.mono : ∀ a0 a1 k, LeO (flex_name.f k a0 a1) (flex_name.f (k + 1) a0 a1) := by
 intro a0 a1 k;obtain ⟨ih0, ih1⟩ := flex_name.mono_l k;unfold flex_name.f;repeat' first | (with_reducible first | exact ih0 _ _ _ | exact ih1 _ _ | exact LeO.refl _ | exact LeO.none _ | refine LeO.ite ?_ ?_ | refine LeO.bind ?_ (fun _ => ?_)) | exact ih0 _ _ _ | exact ih1 _ _ | exact LeO.none _ | refine LeO.ite ?_ ?_ | refine LeO.bind ?_ (fun _ => ?_)
set_option maxHeartbeats 8000000 in
set_option maxRecDepth 100000 in
theorem flex_name.calls (k : Nat) (a0 : ByteArray) (a1 : Int) (r : Int) (w : World) (h : flex_name.f k a0 a1 = some r) :
 Calls Tryd.prog 23 #[.string a0, .int .i64 a1] w fun e w' => e = .returned (.int .i64 r) ∧ Drawn0 w w' := by
 have H : (if a1 ≥ (a0.size : Int) then (flex_name.j0 k a0 a1 true) else (if 0 ≤ a1 then (if a1 < (a0.size : Int) then ((flex_letter.f (bt a0 a1)).bind fun t103 => (flex_name.j0 k a0 a1 (!t103))) else (none)) else (none))) = some r := h
 clear h;have HC3 := Aside0.mk H;clear H;go_enter Tryd.func23, Tryd.ntmps23;go_upto_region 1 with (fail)
 go_cut [15] (fun v15 wc => ∃ (kq : Nat) (x15_2 : Bool), v15 = .bool x15_2 ∧ Aside0 (flex_name.j0 kq a0 a1 x15_2 = some r) ∧ Aside0 (kq ≤ k) ∧ Drawn0 w wc)
 case first =>
  have H := HC3.out;clear HC3;by_cases c4 : a1 ≥ (a0.size : Int)
  ·rw [if_pos c4] at H;have c4b0 : decide ((a0.size : Int) ≤ a1) = true := decide_eq_true c4;clear c4;(first | rw [c4b0] | (simp only [i64_w, i32_w]; rw [c4b0]) | skip)
   have H' := Aside0.mk H;clear H;go_wp2;go_meet
   case rel => exact ⟨_, (true), (by first | rfl | (simp; done) | (simp [*]; done)), H', ⟨by first | omega | exact Nat.le_refl _⟩, by repeat (first | exact Drawn0.refl _ | apply Drawn0.step)⟩
  ·rw [if_neg c4] at H;have c4b0 : decide ((a0.size : Int) ≤ a1) = false := decide_eq_false c4;clear c4;(first | rw [c4b0] | (simp only [i64_w, i32_w]; rw [c4b0]) | skip)
   by_cases c5 : 0 ≤ a1
   ·rw [if_pos c5] at H;have c5b0 : decide (0 ≤ a1) = true := decide_eq_true c5;clear c5;by_cases c6 : a1 < (a0.size : Int)
    ·rw [if_pos c6] at H;have c6b0 : decide (a1 < (a0.size : Int)) = true := decide_eq_true c6;clear c6;replace H := Option.bind_eq_some_iff.mp H;obtain ⟨t103, A80, H⟩ := H;replace H : (flex_name.j0 k a0 a1 (!t103)) = some r := H;have A8 := Aside0.mk A80;clear A80;have H' := Aside0.mk H;clear H;have p7 : 0 ≤ (a1 : Int) := of_decide_eq_true (by first | (with_reducible assumption) | assumption)
     have q7 : a1 < (a0.size : Int) := of_decide_eq_true (by first | (with_reducible assumption) | assumption)
     have hx7 := bt_at a0 a1;replace p7 := eq_true p7;replace q7 := eq_true q7;go_wp2_with (first | (go_at_call 26; (with_reducible refine (flex_letter.calls (bt a0 a1) t103 _ A8.out).mono ?_); rintro e w' ⟨rfl, ⟨nd, rfl⟩⟩))
     go_meet
     case rel => exact ⟨_, (!t103), (by first | rfl | (simp; done) | (simp [*]; done)), H', ⟨by first | omega | exact Nat.le_refl _⟩, by repeat (first | exact Drawn0.refl _ | apply Drawn0.step)⟩
    ·rw [if_neg c6] at H;exact absurd H (by simp)
   ·rw [if_neg c5] at H;exact absurd H (by simp)
 case rest =>
  clear HC3;try clear c2
  try clear p2
  try clear c4
  try clear c4b0
  try clear c5
  try clear c5b0
  try clear c6
  try clear c6b0
  try clear p7
  try clear q7
  try clear hx7
  try clear p7
  try clear q7
  obtain ⟨kq, x15_2, rfl, HA, HJ2, ⟨mc2, rfl⟩⟩ := hcut;cases kq with
  | zero => exact absurd HA.out (by simp [flex_name.j0])
  | succ kj2 =>
   have H := HA.out;clear HA;simp only [flex_name.j0] at H;by_cases c9 : x15_2 = true
   ·subst c9;have H1 : (some a1) = some r := by rw [if_pos rfl] at H; exact H
    clear H;have H := H1;clear H1;obtain rfl := Option.some.inj H;go_wp2;go_ret;exact ⟨by first | rfl | (simp; done) | (simp [*]; done), by repeat (first | exact Drawn0.refl _ | apply Drawn0.step)⟩
   ·replace c9 := Bool.eq_false_iff.mpr c9;subst c9;have H1 : (flex_name.l0 kj2 a0 a1) = some r := by rw [if_neg (show ¬ (false = true) by decide)] at H; exact H
    clear H;have H := H1;clear H1;have H' := Aside0.mk H;clear H;go_wp2;go_loopg [1] kj2 (fun kq v1 w' => ∃ (x1_2 : Int), v1 = .int .i64 x1_2 ∧ Aside0 (flex_name.l0 kq a0 x1_2 = some r) ∧ Aside0 (kq ≤ kj2) ∧ Drawn0 w w')
    case atStart => exact ⟨(a1), (by first | rfl | (simp; done) | (simp [*]; done)), H', ⟨Nat.le_refl _⟩, by repeat (first | exact Drawn0.refl _ | apply Drawn0.step)⟩
    case round =>
     clear H';try clear c2
     try clear p2
     try clear c4
     try clear c4b0
     try clear c5
     try clear c5b0
     try clear c6
     try clear c6b0
     try clear p7
     try clear q7
     try clear hx7
     try clear c9
     try clear p2
     try clear p7
     try clear q7
     obtain ⟨x1_2, rfl, HA, HK2, ⟨m2, rfl⟩⟩ := hrel;cases gk with
     | zero => exact absurd HA.out (by simp [flex_name.l0])
     | succ k2 =>
      have H := HA.out;clear HA;simp only [flex_name.l0] at H;by_cases c10 : x1_2 < (a0.size : Int)
      ·rw [if_pos c10] at H;have c10b0 : decide (x1_2 < (a0.size : Int)) = true := decide_eq_true c10;clear c10;by_cases c11 : 0 ≤ x1_2
       ·rw [if_pos c11] at H;have c11b0 : decide (0 ≤ x1_2) = true := decide_eq_true c11;clear c11;replace H := Option.bind_eq_some_iff.mp H;obtain ⟨t104, A130, H⟩ := H;replace H : (if t104 = true then (flex_name.l0 k2 a0 (wrap64 (x1_2 + 1))) else ((flex_digit.f (bt a0 x1_2)).bind fun t105 => (if t105 = true then (flex_name.l0 k2 a0 (wrap64 (x1_2 + 1))) else (some x1_2)))) = some r := H
        have A13 := Aside0.mk A130;clear A130;by_cases c14 : t104 = true
        ·subst c14;have H1 : (flex_name.l0 k2 a0 (wrap64 (x1_2 + 1))) = some r := by rw [if_pos rfl] at H; exact H
         clear H;have H := H1;clear H1;have H' := Aside0.mk H;clear H;have p12 : 0 ≤ (x1_2 : Int) := of_decide_eq_true (by first | (with_reducible assumption) | assumption)
         have q12 : x1_2 < (a0.size : Int) := of_decide_eq_true (by first | (with_reducible assumption) | assumption)
         have hx12 := bt_at a0 x1_2;replace p12 := eq_true p12;replace q12 := eq_true q12;go_wp2_with (first | (go_at_call 26; (with_reducible refine (flex_letter.calls (bt a0 x1_2) true _ A13.out).mono ?_); rintro e w' ⟨rfl, ⟨nd, rfl⟩⟩))
         go_roundg k2
         case measure => have := HJ2.out; have := HK2.out; omega
         case rel => exact ⟨(wrap64 (x1_2 + 1)), (by first | rfl | (simp; done) | (simp [*]; done)), H', ⟨by have := HJ2.out; have := HK2.out; omega⟩, by repeat (first | exact Drawn0.refl _ | apply Drawn0.step)⟩
        ·replace c14 := Bool.eq_false_iff.mpr c14;subst c14;have H1 : ((flex_digit.f (bt a0 x1_2)).bind fun t105 => (if t105 = true then (flex_name.l0 k2 a0 (wrap64 (x1_2 + 1))) else (some x1_2))) = some r := by rw [if_neg (show ¬ (false = true) by decide)] at H; exact H
         clear H;have H := H1;clear H1;replace H := Option.bind_eq_some_iff.mp H;obtain ⟨t105, A160, H⟩ := H;replace H : (if t105 = true then (flex_name.l0 k2 a0 (wrap64 (x1_2 + 1))) else (some x1_2)) = some r := H
         have A16 := Aside0.mk A160;clear A160;by_cases c17 : t105 = true
         ·subst c17;have H1 : (flex_name.l0 k2 a0 (wrap64 (x1_2 + 1))) = some r := by rw [if_pos rfl] at H; exact H
          clear H;have H := H1;clear H1;have H' := Aside0.mk H;clear H;have p12 : 0 ≤ (x1_2 : Int) := of_decide_eq_true (by first | (with_reducible assumption) | assumption)
          have q12 : x1_2 < (a0.size : Int) := of_decide_eq_true (by first | (with_reducible assumption) | assumption)
          have hx12 := bt_at a0 x1_2;replace p12 := eq_true p12;replace q12 := eq_true q12
          go_wp2_with (first | (go_at_call 26; (with_reducible refine (flex_letter.calls (bt a0 x1_2) false _ A13.out).mono ?_); rintro e w' ⟨rfl, ⟨nd, rfl⟩⟩; have p15 : 0 ≤ (x1_2 : Int) := of_decide_eq_true (by first | (with_reducible assumption) | assumption); have q15 : x1_2 < (a0.size : Int) := of_decide_eq_true (by first | (with_reducible assumption) | assumption); have hx15 := bt_at a0 x1_2; replace p15 := eq_true p15; replace q15 := eq_true q15) | (go_at_call 27; (with_reducible refine (flex_digit.calls (bt a0 x1_2) true _ A16.out).mono ?_); rintro e w' ⟨rfl, ⟨nd, rfl⟩⟩))
          go_roundg k2
          case measure => have := HJ2.out; have := HK2.out; omega
          case rel => exact ⟨(wrap64 (x1_2 + 1)), (by first | rfl | (simp; done) | (simp [*]; done)), H', ⟨by have := HJ2.out; have := HK2.out; omega⟩, by repeat (first | exact Drawn0.refl _ | apply Drawn0.step)⟩
         ·replace c17 := Bool.eq_false_iff.mpr c17;subst c17;have H1 : (some x1_2) = some r := by rw [if_neg (show ¬ (false = true) by decide)] at H; exact H
          clear H;have H := H1;clear H1;obtain rfl := Option.some.inj H;have p12 : 0 ≤ (x1_2 : Int) := of_decide_eq_true (by first | (with_reducible assumption) | assumption)
          have q12 : x1_2 < (a0.size : Int) := of_decide_eq_true (by first | (with_reducible assumption) | assumption)
          have hx12 := bt_at a0 x1_2;replace p12 := eq_true p12;replace q12 := eq_true q12
          go_wp2_with (first | (go_at_call 26; (with_reducible refine (flex_letter.calls (bt a0 x1_2) false _ A13.out).mono ?_); rintro e w' ⟨rfl, ⟨nd, rfl⟩⟩; have p15 : 0 ≤ (x1_2 : Int) := of_decide_eq_true (by first | (with_reducible assumption) | assumption); have q15 : x1_2 < (a0.size : Int) := of_decide_eq_true (by first | (with_reducible assumption) | assumption); have hx15 := bt_at a0 x1_2; replace p15 := eq_true p15; replace q15 := eq_true q15) | (go_at_call 27; (with_reducible refine (flex_digit.calls (bt a0 x1_2) false _ A16.out).mono ?_); rintro e w' ⟨rfl, ⟨nd, rfl⟩⟩))
          go_ret;exact ⟨by first | rfl | (simp; done) | (simp [*]; done), by repeat (first | exact Drawn0.refl _ | apply Drawn0.step)⟩
       ·rw [if_neg c11] at H;exact absurd H (by simp)
      ·rw [if_neg c10] at H;have c10b0 : decide (x1_2 < (a0.size : Int)) = false := decide_eq_false c10;clear c10;obtain rfl := Option.some.inj H;go_wp2;go_ret;exact ⟨by first | rfl | (simp; done) | (simp [*]; done), by repeat (first | exact Drawn0.refl _ | apply Drawn0.step)⟩
/-! ### jx_digit: function 40 -/
def jx_digit.f (a0 : Int) : Option (Bool) := if a0 ≥ 48 then (some (decide (a0 ≤ 57))) else (some false)
set_option maxHeartbeats 8000000 in
set_option maxRecDepth 100000 in
theorem jx_digit.calls (a0 : Int) (r : Bool) (w : World) (h : jx_digit.f a0 = some r) :
 Calls Tryd.prog 40 #[.int .u8 a0] w fun e w' => e = .returned (.bool r) ∧ Drawn0 w w' := by
 have H : (if a0 ≥ 48 then (some (decide (a0 ≤ 57))) else (some false)) = some r := h
 clear h;by_cases c2 : a0 ≥ 48
 ·rw [if_pos c2] at H;have c2b0 : decide (48 ≤ a0) = true := decide_eq_true c2;clear c2;obtain rfl := Option.some.inj H;go_enter Tryd.func40, Tryd.ntmps40;go_wp2;go_ret;exact ⟨by first | rfl | (simp; done) | (simp [*]; done), by repeat (first | exact Drawn0.refl _ | apply Drawn0.step)⟩
 ·rw [if_neg c2] at H;have c2b0 : decide (48 ≤ a0) = false := decide_eq_false c2;clear c2;obtain rfl := Option.some.inj H;go_enter Tryd.func40, Tryd.ntmps40;go_wp2;go_ret;exact ⟨by first | rfl | (simp; done) | (simp [*]; done), by repeat (first | exact Drawn0.refl _ | apply Drawn0.step)⟩
end Go.Proofs.YtdhdpidjdadamaaDoor.PX
