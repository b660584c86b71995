/- Printed by this session's program: Go functions of this seat as plain Lean functions, and proofs that their calls come to them. -/
import Derived.Test.YtdhdpidjdadamaaDoorPx0
namespace Go.Proofs.YtdhdpidjdadamaaDoor.PX
open Go.RowKit Go.Proofs.YtdhdpidjdadamaaDoorW.PrintWords Go.Proofs.YtdhdpidjdadamaaDoorW.PrintLast Go.Proofs.YtdhdpidjdadamaaDoorW.PrintMore
attribute [local go_sem] max2_int min2_int max_two min_two max_three min_three max_four min_four   -- for this text's walks alone
set_option linter.unusedVariables false
set_option linter.unusedSimpArgs false
/-! ### jx_Blank: function 39 -/
def jx_Blank.f (a0 : Int) : Option (Bool) := if a0 = 32 then (some true) else (if a0 = 9 then (some true) else (if a0 = 10 then (some true) else (some (a0 == 13))))
set_option maxHeartbeats 8000000 in
set_option maxRecDepth 100000 in
theorem jx_Blank.calls (a0 : Int) (r : Bool) (w : World) (h : jx_Blank.f a0 = some r) :
 Calls Tryd.prog 39 #[.int .u8 a0] w fun e w' => e = .returned (.bool r) ∧ Drawn0 w w' := by
 have H : (if a0 = 32 then (some true) else (if a0 = 9 then (some true) else (if a0 = 10 then (some true) else (some (a0 == 13))))) = some r := h
 clear h;by_cases c2 : a0 = 32
 ·rw [if_pos c2] at H;have c2b0 : (a0 == 32) = true := beq_iff_eq.mpr c2;have c2b1 : (a0 != 32) = false := bne_eq_false_iff_eq.mpr c2;clear c2;obtain rfl := Option.some.inj H;go_enter Tryd.func39, Tryd.ntmps39;go_wp2;go_ret;exact ⟨by first | rfl | (simp; done) | (simp [*]; done), by repeat (first | exact Drawn0.refl _ | apply Drawn0.step)⟩
 ·rw [if_neg c2] at H;have c2b0 : (a0 == 32) = false := beq_eq_false_iff_ne.mpr c2;have c2b1 : (a0 != 32) = true := bne_iff_ne.mpr c2;by_cases c3 : a0 = 9
  ·rw [if_pos c3] at H;have c3b0 : (a0 == 9) = true := beq_iff_eq.mpr c3;have c3b1 : (a0 != 9) = false := bne_eq_false_iff_eq.mpr c3;clear c3;obtain rfl := Option.some.inj H;go_enter Tryd.func39, Tryd.ntmps39;go_wp2;go_ret;exact ⟨by first | rfl | (simp; done) | (simp [*]; done), by repeat (first | exact Drawn0.refl _ | apply Drawn0.step)⟩
  ·rw [if_neg c3] at H;have c3b0 : (a0 == 9) = false := beq_eq_false_iff_ne.mpr c3;have c3b1 : (a0 != 9) = true := bne_iff_ne.mpr c3;by_cases c4 : a0 = 10
   ·rw [if_pos c4] at H;have c4b0 : (a0 == 10) = true := beq_iff_eq.mpr c4;have c4b1 : (a0 != 10) = false := bne_eq_false_iff_eq.mpr c4;clear c4;obtain rfl := Option.some.inj H;go_enter Tryd.func39, Tryd.ntmps39;go_wp2;go_ret;exact ⟨by first | rfl | (simp; done) | (simp [*]; done), by repeat (first | exact Drawn0.refl _ | apply Drawn0.step)⟩
   ·rw [if_neg c4] at H;have c4b0 : (a0 == 10) = false := beq_eq_false_iff_ne.mpr c4;have c4b1 : (a0 != 10) = true := bne_iff_ne.mpr c4;obtain rfl := Option.some.inj H;go_enter Tryd.func39, Tryd.ntmps39;go_wp2;go_ret;exact ⟨by first | rfl | (simp; done) | (simp [*]; done), by repeat (first | exact Drawn0.refl _ | apply Drawn0.step)⟩
/-! ### jx_Skip: function 25 -/
def jx_Skip.l0 : Nat → ByteArray → Int → Option (Int)
 | 0, _, _ => none
 | k + 1, x0, x1 => if x1 < (x0.size : Int) then (if 0 ≤ x1 then ((jx_Blank.f (bt x0 x1)).bind fun t101 => (if t101 = true then (jx_Skip.l0 k x0 (wrap64 (x1 + 1))) else (some x1))) else (none)) else (some x1)
def jx_Skip.f (k : Nat) (a0 : ByteArray) (a1 : Int) : Option (Int) := if a1 < 0 then (some a1) else (jx_Skip.l0 k a0 a1)
theorem jx_Skip.mono_l : ∀ k, (∀ y0 y1, LeO (jx_Skip.l0 k y0 y1) (jx_Skip.l0 (k + 1) y0 y1))
 | 0 => fun _ _ r h => by simp [jx_Skip.l0] at h
 | k + 1 => by
  have ih0 := jx_Skip.mono_l k
  all_goals (intros;first | unfold jx_Skip.l0)
  all_goals (repeat' first | (with_reducible first | exact ih0 _ _ | exact LeO.refl _ | exact LeO.none _ | refine LeO.ite ?_ ?_ | refine LeO.bind ?_ (fun _ => ?_)) | exact ih0 _ _ | exact LeO.none _ | refine LeO.ite ?_ ?_ | refine LeO.bind ?_ (fun _ => ?_))
theorem jx_Skip.mono : ∀ a0 a1 k, LeO (jx_Skip.f k a0 a1) (jx_Skip.f (k + 1) a0 a1) := by
 intro a0 a1 k;have ih0 := jx_Skip.mono_l k;unfold jx_Skip.f;repeat' first | (with_reducible first | exact ih0 _ _ | exact LeO.refl _ | exact LeO.none _ | refine LeO.ite ?_ ?_ | refine LeO.bind ?_ (fun _ => ?_)) | exact ih0 _ _ | exact LeO.none _ | refine LeO.ite ?_ ?_ | refine LeO.bind ?_ (fun _ => ?_)
set_option maxHeartbeats 8000000 in
set_option maxRecDepth 100000 in
theorem jx_Skip.calls (k : Nat) (a0 : ByteArray) (a1 : Int) (r : Int) (w : World) (h : jx_Skip.f k a0 a1 = some r) :
 Calls Tryd.prog 25 #[.string a0, .int .i64 a1] w fun e w' => e = .returned (.int .i64 r) ∧ Drawn0 w w' := by
 have H : (if a1 < 0 then (some a1) else (jx_Skip.l0 k a0 a1)) = some r := h
 clear h;by_cases c3 : a1 < 0
 ·rw [if_pos c3] at H;have c3b0 : decide (a1 < 0) = true := decide_eq_true c3;clear c3;obtain rfl := Option.some.inj H;go_enter Tryd.func25, Tryd.ntmps25;go_wp2;go_ret;exact ⟨by first | rfl | (simp; done) | (simp [*]; done), by repeat (first | exact Drawn0.refl _ | apply Drawn0.step)⟩
 ·rw [if_neg c3] at H;have c3b0 : decide (a1 < 0) = false := decide_eq_false c3;clear c3;have H' := Aside0.mk H;clear H;go_enter Tryd.func25, Tryd.ntmps25;go_wp2;go_loopg [1] k (fun kq v1 w' => ∃ (x1_1 : Int), v1 = .int .i64 x1_1 ∧ Aside0 (jx_Skip.l0 kq a0 x1_1 = some r) ∧ Aside0 (kq ≤ k) ∧ Drawn0 w w')
  case atStart => exact ⟨(a1), (by first | rfl | (simp; done) | (simp [*]; done)), H', ⟨Nat.le_refl _⟩, by repeat (first | exact Drawn0.refl _ | apply Drawn0.step)⟩
  case round =>
   clear H';try clear c2
   try clear p2
   try clear c3
   try clear c3b0
   obtain ⟨x1_1, rfl, HA, HK1, ⟨m1, rfl⟩⟩ := hrel;cases gk with
   | zero => exact absurd HA.out (by simp [jx_Skip.l0])
   | succ k1 =>
    have H := HA.out;clear HA;simp only [jx_Skip.l0] at H;by_cases c4 : x1_1 < (a0.size : Int)
    ·rw [if_pos c4] at H;have c4b0 : decide (x1_1 < (a0.size : Int)) = true := decide_eq_true c4;clear c4;by_cases c5 : 0 ≤ x1_1
     ·rw [if_pos c5] at H;have c5b0 : decide (0 ≤ x1_1) = true := decide_eq_true c5;clear c5;replace H := Option.bind_eq_some_iff.mp H;obtain ⟨t101, A70, H⟩ := H;replace H : (if t101 = true then (jx_Skip.l0 k1 a0 (wrap64 (x1_1 + 1))) else (some x1_1)) = some r := H
      have A7 := Aside0.mk A70;clear A70;by_cases c8 : t101 = true
      ·subst c8;have H1 : (jx_Skip.l0 k1 a0 (wrap64 (x1_1 + 1))) = some r := by rw [if_pos rfl] at H; exact H
       clear H;have H := H1;clear H1;have H' := Aside0.mk H;clear H;have p6 : 0 ≤ (x1_1 : Int) := of_decide_eq_true (by first | (with_reducible assumption) | assumption)
       have q6 : x1_1 < (a0.size : Int) := of_decide_eq_true (by first | (with_reducible assumption) | assumption)
       have hx6 := bt_at a0 x1_1;replace p6 := eq_true p6;replace q6 := eq_true q6;go_wp2_with (first | (go_at_call 39; (with_reducible refine (jx_Blank.calls (bt a0 x1_1) true _ A7.out).mono ?_); rintro e w' ⟨rfl, ⟨nd, rfl⟩⟩))
       go_roundg k1
       case measure => have := HK1.out; omega
       case rel => exact ⟨(wrap64 (x1_1 + 1)), (by first | rfl | (simp; done) | (simp [*]; done)), H', ⟨by have := HK1.out; omega⟩, by repeat (first | exact Drawn0.refl _ | apply Drawn0.step)⟩
      ·replace c8 := Bool.eq_false_iff.mpr c8;subst c8;have H1 : (some x1_1) = some r := by rw [if_neg (show ¬ (false = true) by decide)] at H; exact H
       clear H;have H := H1;clear H1;obtain rfl := Option.some.inj H;have p6 : 0 ≤ (x1_1 : Int) := of_decide_eq_true (by first | (with_reducible assumption) | assumption)
       have q6 : x1_1 < (a0.size : Int) := of_decide_eq_true (by first | (with_reducible assumption) | assumption)
       have hx6 := bt_at a0 x1_1;replace p6 := eq_true p6;replace q6 := eq_true q6;go_wp2_with (first | (go_at_call 39; (with_reducible refine (jx_Blank.calls (bt a0 x1_1) false _ A7.out).mono ?_); rintro e w' ⟨rfl, ⟨nd, rfl⟩⟩))
       go_ret;exact ⟨by first | rfl | (simp; done) | (simp [*]; done), by repeat (first | exact Drawn0.refl _ | apply Drawn0.step)⟩
     ·rw [if_neg c5] at H;exact absurd H (by simp)
    ·rw [if_neg c4] at H;have c4b0 : decide (x1_1 < (a0.size : Int)) = false := decide_eq_false c4;clear c4;obtain rfl := Option.some.inj H;go_wp2;go_ret;exact ⟨by first | rfl | (simp; done) | (simp [*]; done), by repeat (first | exact Drawn0.refl _ | apply Drawn0.step)⟩
/-! ### flex_skip: function 19 -/
mutual
def flex_skip.l0 : Nat → ByteArray → Int → Option (Int)
 | 0, _, _ => none
 | k + 1, x0, x1 => (jx_Skip.f k x0 x1).bind fun t102 => (if t102 = (x0.size : Int) then (flex_skip.j1 k x0 t102 true) else (if 0 ≤ t102 then (if t102 < (x0.size : Int) then (flex_skip.j1 k x0 t102 ((bt x0 t102) != 35)) else (none)) else (none)))
def flex_skip.j1 : Nat → ByteArray → Int → Bool → Option (Int)
 | 0, _, _, _ => none
 | k + 1, x0, x1, x17 => if x17 = true then (some x1) else (flex_skip.l1 k x0 x1)
def flex_skip.l1 : Nat → ByteArray → Int → Option (Int)
 | 0, _, _ => none
 | k + 1, x0, x1 => if x1 < (x0.size : Int) then (if 0 ≤ x1 then (if (bt x0 x1) = 10 then (flex_skip.l0 k x0 x1) else (flex_skip.l1 k x0 (wrap64 (x1 + 1)))) else (none)) else (flex_skip.l0 k x0 x1)
end
def flex_skip.f (k : Nat) (a0 : ByteArray) (a1 : Int) : Option (Int) := flex_skip.l0 k a0 a1
theorem flex_skip.mono_l : ∀ k, (∀ y0 y1, LeO (flex_skip.l0 k y0 y1) (flex_skip.l0 (k + 1) y0 y1)) ∧ (∀ y0 y1 y2, LeO (flex_skip.j1 k y0 y1 y2) (flex_skip.j1 (k + 1) y0 y1 y2)) ∧ (∀ y0 y1, LeO (flex_skip.l1 k y0 y1) (flex_skip.l1 (k + 1) y0 y1))
 | 0 => ⟨fun _ _ r h => by simp [flex_skip.l0] at h, fun _ _ _ r h => by simp [flex_skip.j1] at h, fun _ _ r h => by simp [flex_skip.l1] at h⟩
 | k + 1 => by
  obtain ⟨ih0, ih1, ih2⟩ := flex_skip.mono_l k;refine ⟨?_, ?_, ?_⟩
  all_goals (intros;first | unfold flex_skip.l0 | unfold flex_skip.j1 | unfold flex_skip.l1)
  all_goals (repeat' first | (with_reducible first | exact ih0 _ _ | exact ih1 _ _ _ | exact ih2 _ _ | exact jx_Skip.mono _ _ _ | exact LeO.refl _ | exact LeO.none _ | refine LeO.ite ?_ ?_ | refine LeO.bind ?_ (fun _ => ?_)) | exact ih0 _ _ | exact ih1 _ _ _ | exact ih2 _ _ | exact jx_Skip.mono _ _ _ | exact LeO.none _ | refine LeO.ite ?_ ?_ | refine LeO.bind ?_ (fun _ => ?_))
theorem flex_skip.mono : ∀ a0 a1 k, LeO (flex_skip.f k a0 a1) (flex_skip.f (k + 1) a0 a1) := by
 intro a0 a1 k;obtain ⟨ih0, ih1, ih2⟩ := flex_skip.mono_l k;unfold flex_skip.f;repeat' first | (with_reducible first | exact ih0 _ _ | exact ih1 _ _ _ | exact ih2 _ _ | exact jx_Skip.mono _ _ _ | exact LeO.refl _ | exact LeO.none _ | refine LeO.ite ?_ ?_ | refine LeO.bind ?_ (fun _ => ?_)) | exact ih0 _ _ | exact ih1 _ _ _ | exact ih2 _ _ | exact jx_Skip.mono _ _ _ | exact LeO.none _ | refine LeO.ite ?_ ?_ | refine LeO.bind ?_ (fun _ => ?_)
set_option maxHeartbeats 8000000 in
set_option maxRecDepth 100000 in
theorem flex_skip.calls (k : Nat) (a0 : ByteArray) (a1 : Int) (r : Int) (w : World) (h : flex_skip.f k a0 a1 = some r) :
 Calls Tryd.prog 19 #[.string a0, .int .i64 a1] w fun e w' => e = .returned (.int .i64 r) ∧ Drawn0 w w' := by
 have H : (flex_skip.l0 k a0 a1) = some r := h;clear h;have H' := Aside0.mk H;clear H;go_enter Tryd.func19, Tryd.ntmps19;go_wp2;go_loopg [1] k (fun kq v1 w' => ∃ (x1_1 : Int), v1 = .int .i64 x1_1 ∧ Aside0 (flex_skip.l0 kq a0 x1_1 = some r) ∧ Aside0 (kq ≤ k) ∧ Drawn0 w w')
 case atStart => exact ⟨(a1), (by first | rfl | (simp; done) | (simp [*]; done)), H', ⟨Nat.le_refl _⟩, by repeat (first | exact Drawn0.refl _ | apply Drawn0.step)⟩
 case round =>
  clear H';try clear c1
  try clear p2
  obtain ⟨x1_1, rfl, HA, HK1, ⟨m1, rfl⟩⟩ := hrel;cases gk with
  | zero => exact absurd HA.out (by simp [flex_skip.l0])
  | succ k1 =>
   have H := HA.out;clear HA;simp only [flex_skip.l0] at H;replace H := Option.bind_eq_some_iff.mp H;obtain ⟨t102, A30, H⟩ := H;replace H : (if t102 = (a0.size : Int) then (flex_skip.j1 k1 a0 t102 true) else (if 0 ≤ t102 then (if t102 < (a0.size : Int) then (flex_skip.j1 k1 a0 t102 ((bt a0 t102) != 35)) else (none)) else (none))) = some r := H
   have A3 := Aside0.mk A30;clear A30;have HC4 := Aside0.mk H;clear H;go_upto_region 2 with (first | ((with_reducible refine gate_callee (f := 25) rfl ?_); refine goesL_ (some 7) rfl rfl Tryd.func25 (by kernel_rfl) rfl #[.string a0, .int .i64 x1_1] rfl (by (try simp only [List.map_toArray, List.map_cons, List.map_nil]); first | done | rfl | (simp only [List.length_drop, List.length_take]; rfl)) ?_; (with_reducible refine (jx_Skip.calls k1 a0 x1_1 t102 _ A3.out).mono ?_); rintro e w' ⟨rfl, ⟨nd, rfl⟩⟩; refine ⟨_, rfl, ?_⟩))
   (try simp only [Act.put, List.setIfInBounds_toArray, List.set_cons_zero, List.set_cons_succ])
   go_cut [17] (fun v17 wc => ∃ (kq : Nat) (x17_3 : Bool), v17 = .bool x17_3 ∧ Aside0 (flex_skip.j1 kq a0 t102 x17_3 = some r) ∧ Aside0 (kq ≤ k1) ∧ Drawn0 w wc)
   case first =>
    have H := HC4.out;clear HC4;by_cases c5 : t102 = (a0.size : Int)
    ·rw [if_pos c5] at H;have c5b0 : (t102 == (a0.size : Int)) = true := beq_iff_eq.mpr c5;have c5b1 : (t102 != (a0.size : Int)) = false := bne_eq_false_iff_eq.mpr c5;clear c5;(first | rw [c5b0] | (simp only [i64_w, i32_w]; rw [c5b0]) | skip)
     have H' := Aside0.mk H;clear H;go_wp2;go_meet
     case rel => exact ⟨_, (true), (by first | rfl | (simp; done) | (simp [*]; done)), H', ⟨by have := HK1.out; first | omega | exact Nat.le_refl _⟩, by repeat (first | exact Drawn0.refl _ | apply Drawn0.step)⟩
    ·rw [if_neg c5] at H;have c5b0 : (t102 == (a0.size : Int)) = false := beq_eq_false_iff_ne.mpr c5;have c5b1 : (t102 != (a0.size : Int)) = true := bne_iff_ne.mpr c5;(first | rw [c5b0] | (simp only [i64_w, i32_w]; rw [c5b0]) | skip)
     by_cases c6 : 0 ≤ t102
     ·rw [if_pos c6] at H;have c6b0 : decide (0 ≤ t102) = true := decide_eq_true c6;clear c6;by_cases c7 : t102 < (a0.size : Int)
      ·rw [if_pos c7] at H;have c7b0 : decide (t102 < (a0.size : Int)) = true := decide_eq_true c7;clear c7;have H' := Aside0.mk H;clear H;have p8 : 0 ≤ (t102 : Int) := of_decide_eq_true (by first | (with_reducible assumption) | assumption)
       have q8 : t102 < (a0.size : Int) := of_decide_eq_true (by first | (with_reducible assumption) | assumption)
       have hx8 := bt_at a0 t102;replace p8 := eq_true p8;replace q8 := eq_true q8;go_wp2;go_meet
       case rel => exact ⟨_, (((bt a0 t102) != 35)), (by first | rfl | (simp; done) | (simp [*]; done)), H', ⟨by have := HK1.out; first | omega | exact Nat.le_refl _⟩, by repeat (first | exact Drawn0.refl _ | apply Drawn0.step)⟩
      ·rw [if_neg c7] at H;exact absurd H (by simp)
     ·rw [if_neg c6] at H;exact absurd H (by simp)
   case rest =>
    clear HC4;try clear c1
    try clear c2
    try clear p2
    try clear c5
    try clear c5b0
    try clear c5b1
    try clear c6
    try clear c6b0
    try clear c7
    try clear c7b0
    try clear p8
    try clear q8
    try clear hx8
    try clear p2
    try clear p8
    try clear q8
    obtain ⟨kq, x17_3, rfl, HA, HJ3, ⟨mc3, rfl⟩⟩ := hcut;cases kq with
    | zero => exact absurd HA.out (by simp [flex_skip.j1])
    | succ kj3 =>
     have H := HA.out;clear HA;simp only [flex_skip.j1] at H;by_cases c9 : x17_3 = true
     ·subst c9;have H1 : (some t102) = some r := by rw [if_pos rfl] at H; exact H
      clear H;have H := H1;clear H1;obtain rfl := Option.some.inj H;go_wp2;go_ret;exact ⟨by first | rfl | (simp; done) | (simp [*]; done), by repeat (first | exact Drawn0.refl _ | apply Drawn0.step)⟩
     ·replace c9 := Bool.eq_false_iff.mpr c9;subst c9;have H1 : (flex_skip.l1 kj3 a0 t102) = some r := by rw [if_neg (show ¬ (false = true) by decide)] at H; exact H
      clear H;have H := H1;clear H1;have H' := Aside0.mk H;clear H;go_wp2;go_loopg [1] kj3 (fun kq v1 w' => ∃ (x1_3 : Int), v1 = .int .i64 x1_3 ∧ Aside0 (flex_skip.l1 kq a0 x1_3 = some r) ∧ Aside0 (kq ≤ kj3) ∧ Drawn0 w w')
      case atStart => exact ⟨(t102), (by first | rfl | (simp; done) | (simp [*]; done)), H', ⟨Nat.le_refl _⟩, by repeat (first | exact Drawn0.refl _ | apply Drawn0.step)⟩
      case round =>
       clear H';try clear c1
       try clear c2
       try clear p2
       try clear c3
       try clear c5
       try clear c5b0
       try clear c5b1
       try clear c6
       try clear c6b0
       try clear c7
       try clear c7b0
       try clear p8
       try clear q8
       try clear hx8
       try clear c9
       try clear p2
       try clear p8
       try clear q8
       obtain ⟨x1_3, rfl, HA, HK3, ⟨m3, rfl⟩⟩ := hrel;cases gk with
       | zero => exact absurd HA.out (by simp [flex_skip.l1])
       | succ k3 =>
        have H := HA.out;clear HA;simp only [flex_skip.l1] at H;by_cases c10 : x1_3 < (a0.size : Int)
        ·rw [if_pos c10] at H;have c10b0 : decide (x1_3 < (a0.size : Int)) = true := decide_eq_true c10;clear c10;by_cases c11 : 0 ≤ x1_3
         ·rw [if_pos c11] at H;have c11b0 : decide (0 ≤ x1_3) = true := decide_eq_true c11;clear c11;by_cases c13 : (bt a0 x1_3) = 10
          ·rw [if_pos c13] at H;have c13b0 : ((bt a0 x1_3) == 10) = true := beq_iff_eq.mpr c13;have c13b1 : ((bt a0 x1_3) != 10) = false := bne_eq_false_iff_eq.mpr c13;clear c13;have H' := Aside0.mk H;clear H;have p12 : 0 ≤ (x1_3 : Int) := of_decide_eq_true (by first | (with_reducible assumption) | assumption)
           have q12 : x1_3 < (a0.size : Int) := of_decide_eq_true (by first | (with_reducible assumption) | assumption)
           have hx12 := bt_at a0 x1_3;replace p12 := eq_true p12;replace q12 := eq_true q12;go_wp2;go_roundg k3
           case measure => have := HK1.out; have := HJ3.out; have := HK3.out; omega
           case rel => exact ⟨(x1_3), (by first | rfl | (simp; done) | (simp [*]; done)), H', ⟨by have := HK1.out; have := HJ3.out; have := HK3.out; omega⟩, by repeat (first | exact Drawn0.refl _ | apply Drawn0.step)⟩
          ·rw [if_neg c13] at H;have c13b0 : ((bt a0 x1_3) == 10) = false := beq_eq_false_iff_ne.mpr c13;have c13b1 : ((bt a0 x1_3) != 10) = true := bne_iff_ne.mpr c13;have H' := Aside0.mk H;clear H;have p12 : 0 ≤ (x1_3 : Int) := of_decide_eq_true (by first | (with_reducible assumption) | assumption)
           have q12 : x1_3 < (a0.size : Int) := of_decide_eq_true (by first | (with_reducible assumption) | assumption)
           have hx12 := bt_at a0 x1_3;replace p12 := eq_true p12;replace q12 := eq_true q12;go_wp2;go_roundg k3
           case measure => have := HK1.out; have := HJ3.out; have := HK3.out; omega
           case rel => exact ⟨(wrap64 (x1_3 + 1)), (by first | rfl | (simp; done) | (simp [*]; done)), H', ⟨by have := HK1.out; have := HJ3.out; have := HK3.out; omega⟩, by repeat (first | exact Drawn0.refl _ | apply Drawn0.step)⟩
         ·rw [if_neg c11] at H;exact absurd H (by simp)
        ·rw [if_neg c10] at H;have c10b0 : decide (x1_3 < (a0.size : Int)) = false := decide_eq_false c10;clear c10;have H' := Aside0.mk H;clear H;go_wp2;go_roundg k3
         case measure => have := HK1.out; have := HJ3.out; have := HK3.out; omega
         case rel => exact ⟨(x1_3), (by first | rfl | (simp; done) | (simp [*]; done)), H', ⟨by have := HK1.out; have := HJ3.out; have := HK3.out; omega⟩, by repeat (first | exact Drawn0.refl _ | apply Drawn0.step)⟩
/-! ### flex_Keyword: function 15 -/
def flex_Keyword.f (a0 : ByteArray) : Option (Bool) := if a0.toList = ([97, 110, 100] : List UInt8) then (some true) else (if a0.toList = ([97, 115] : List UInt8) then (some true) else (if a0.toList = ([98, 114, 101, 97, 107] : List UInt8) then (some true) else (if a0.toList = ([99, 97, 116, 99, 104] : List UInt8) then (some true) else (if a0.toList = ([100, 101, 102] : List UInt8) then (some true) else (if a0.toList = ([101, 108, 105, 102] : List UInt8) then (some true) else (if a0.toList = ([101, 108, 115, 101] : List UInt8) then (some true) else (if a0.toList = ([101, 110, 100] : List UInt8) then (some true) else (if a0.toList = ([102, 97, 108, 115, 101] : List UInt8) then (some true) else (if a0.toList = ([102, 111, 114, 101, 97, 99, 104] : List UInt8) then (some true) else (if a0.toList = ([105, 102] : List UInt8) then (some true) else (if a0.toList = ([108, 97, 98, 101, 108] : List UInt8) then (some true) else (if a0.toList = ([110, 117, 108, 108] : List UInt8) then (some true) else (if a0.toList = ([111, 114] : List UInt8) then (some true) else (if a0.toList = ([114, 101, 100, 117, 99, 101] : List UInt8) then (some true) else (if a0.toList = ([116, 104, 101, 110] : List UInt8) then (some true) else (if a0.toList = ([116, 114, 117, 101] : List UInt8) then (some true) else (if a0.toList = ([116, 114, 121] : List UInt8) then (some true) else (some false))))))))))))))))))
set_option maxHeartbeats 8000000 in
set_option maxRecDepth 100000 in
theorem flex_Keyword.calls (a0 : ByteArray) (r : Bool) (w : World) (h : flex_Keyword.f a0 = some r) :
 Calls Tryd.prog 15 #[.string a0] w fun e w' => e = .returned (.bool r) ∧ Drawn0 w w' := by
 have H : (if a0.toList = ([97, 110, 100] : List UInt8) then (some true) else (if a0.toList = ([97, 115] : List UInt8) then (some true) else (if a0.toList = ([98, 114, 101, 97, 107] : List UInt8) then (some true) else (if a0.toList = ([99, 97, 116, 99, 104] : List UInt8) then (some true) else (if a0.toList = ([100, 101, 102] : List UInt8) then (some true) else (if a0.toList = ([101, 108, 105, 102] : List UInt8) then (some true) else (if a0.toList = ([101, 108, 115, 101] : List UInt8) then (some true) else (if a0.toList = ([101, 110, 100] : List UInt8) then (some true) else (if a0.toList = ([102, 97, 108, 115, 101] : List UInt8) then (some true) else (if a0.toList = ([102, 111, 114, 101, 97, 99, 104] : List UInt8) then (some true) else (if a0.toList = ([105, 102] : List UInt8) then (some true) else (if a0.toList = ([108, 97, 98, 101, 108] : List UInt8) then (some true) else (if a0.toList = ([110, 117, 108, 108] : List UInt8) then (some true) else (if a0.toList = ([111, 114] : List UInt8) then (some true) else (if a0.toList = ([114, 101, 100, 117, 99, 101] : List UInt8) then (some true) else (if a0.toList = ([116, 104, 101, 110] : List UInt8) then (some true) else (if a0.toList = ([116, 114, 117, 101] : List UInt8) then (some true) else (if a0.toList = ([116, 114, 121] : List UInt8) then (some true) else (some false))))))))))))))))))) = some r := h
 clear h;by_cases c2 : a0.toList = ([97, 110, 100] : List UInt8)
 ·rw [if_pos c2] at H;have c2b0 : (a0.toList == ([97, 110, 100] : List UInt8)) = true := beq_iff_eq.mpr c2;have c2b1 : (a0.toList != ([97, 110, 100] : List UInt8)) = false := bne_eq_false_iff_eq.mpr c2;clear c2;obtain rfl := Option.some.inj H;go_enter Tryd.func15, Tryd.ntmps15;go_wp2;go_ret;exact ⟨by first | rfl | (simp; done) | (simp [*]; done), by repeat (first | exact Drawn0.refl _ | apply Drawn0.step)⟩
 ·rw [if_neg c2] at H;have c2b0 : (a0.toList == ([97, 110, 100] : List UInt8)) = false := beq_eq_false_iff_ne.mpr c2;have c2b1 : (a0.toList != ([97, 110, 100] : List UInt8)) = true := bne_iff_ne.mpr c2;by_cases c3 : a0.toList = ([97, 115] : List UInt8)
  ·rw [if_pos c3] at H;have c3b0 : (a0.toList == ([97, 115] : List UInt8)) = true := beq_iff_eq.mpr c3;have c3b1 : (a0.toList != ([97, 115] : List UInt8)) = false := bne_eq_false_iff_eq.mpr c3;clear c3;obtain rfl := Option.some.inj H;go_enter Tryd.func15, Tryd.ntmps15;go_wp2;go_ret;exact ⟨by first | rfl | (simp; done) | (simp [*]; done), by repeat (first | exact Drawn0.refl _ | apply Drawn0.step)⟩
  ·rw [if_neg c3] at H;have c3b0 : (a0.toList == ([97, 115] : List UInt8)) = false := beq_eq_false_iff_ne.mpr c3;have c3b1 : (a0.toList != ([97, 115] : List UInt8)) = true := bne_iff_ne.mpr c3;by_cases c4 : a0.toList = ([98, 114, 101, 97, 107] : List UInt8)
   ·rw [if_pos c4] at H;have c4b0 : (a0.toList == ([98, 114, 101, 97, 107] : List UInt8)) = true := beq_iff_eq.mpr c4;have c4b1 : (a0.toList != ([98, 114, 101, 97, 107] : List UInt8)) = false := bne_eq_false_iff_eq.mpr c4;clear c4;obtain rfl := Option.some.inj H;go_enter Tryd.func15, Tryd.ntmps15;go_wp2;go_ret;exact ⟨by first | rfl | (simp; done) | (simp [*]; done), by repeat (first | exact Drawn0.refl _ | apply Drawn0.step)⟩
   ·rw [if_neg c4] at H;have c4b0 : (a0.toList == ([98, 114, 101, 97, 107] : List UInt8)) = false := beq_eq_false_iff_ne.mpr c4;have c4b1 : (a0.toList != ([98, 114, 101, 97, 107] : List UInt8)) = true := bne_iff_ne.mpr c4;by_cases c5 : a0.toList = ([99, 97, 116, 99, 104] : List UInt8)
    ·rw [if_pos c5] at H;have c5b0 : (a0.toList == ([99, 97, 116, 99, 104] : List UInt8)) = true := beq_iff_eq.mpr c5;have c5b1 : (a0.toList != ([99, 97, 116, 99, 104] : List UInt8)) = false := bne_eq_false_iff_eq.mpr c5;clear c5;obtain rfl := Option.some.inj H;go_enter Tryd.func15, Tryd.ntmps15;go_wp2;go_ret;exact ⟨by first | rfl | (simp; done) | (simp [*]; done), by repeat (first | exact Drawn0.refl _ | apply Drawn0.step)⟩
    ·rw [if_neg c5] at H;have c5b0 : (a0.toList == ([99, 97, 116, 99, 104] : List UInt8)) = false := beq_eq_false_iff_ne.mpr c5;have c5b1 : (a0.toList != ([99, 97, 116, 99, 104] : List UInt8)) = true := bne_iff_ne.mpr c5;by_cases c6 : a0.toList = ([100, 101, 102] : List UInt8)
     ·rw [if_pos c6] at H;have c6b0 : (a0.toList == ([100, 101, 102] : List UInt8)) = true := beq_iff_eq.mpr c6;have c6b1 : (a0.toList != ([100, 101, 102] : List UInt8)) = false := bne_eq_false_iff_eq.mpr c6;clear c6;obtain rfl := Option.some.inj H;go_enter Tryd.func15, Tryd.ntmps15;go_wp2;go_ret;exact ⟨by first | rfl | (simp; done) | (simp [*]; done), by repeat (first | exact Drawn0.refl _ | apply Drawn0.step)⟩
     ·rw [if_neg c6] at H;have c6b0 : (a0.toList == ([100, 101, 102] : List UInt8)) = false := beq_eq_false_iff_ne.mpr c6;have c6b1 : (a0.toList != ([100, 101, 102] : List UInt8)) = true := bne_iff_ne.mpr c6;by_cases c7 : a0.toList = ([101, 108, 105, 102] : List UInt8)
      ·rw [if_pos c7] at H;have c7b0 : (a0.toList == ([101, 108, 105, 102] : List UInt8)) = true := beq_iff_eq.mpr c7;have c7b1 : (a0.toList != ([101, 108, 105, 102] : List UInt8)) = false := bne_eq_false_iff_eq.mpr c7;clear c7;obtain rfl := Option.some.inj H;go_enter Tryd.func15, Tryd.ntmps15;go_wp2;go_ret;exact ⟨by first | rfl | (simp; done) | (simp [*]; done), by repeat (first | exact Drawn0.refl _ | apply Drawn0.step)⟩
      ·rw [if_neg c7] at H;have c7b0 : (a0.toList == ([101, 108, 105, 102] : List UInt8)) = false := beq_eq_false_iff_ne.mpr c7;have c7b1 : (a0.toList != ([101, 108, 105, 102] : List UInt8)) = true := bne_iff_ne.mpr c7;by_cases c8 : a0.toList = ([101, 108, 115, 101] : List UInt8)
       ·rw [if_pos c8] at H;have c8b0 : (a0.toList == ([101, 108, 115, 101] : List UInt8)) = true := beq_iff_eq.mpr c8;have c8b1 : (a0.toList != ([101, 108, 115, 101] : List UInt8)) = false := bne_eq_false_iff_eq.mpr c8;clear c8;obtain rfl := Option.some.inj H;go_enter Tryd.func15, Tryd.ntmps15;go_wp2;go_ret;exact ⟨by first | rfl | (simp; done) | (simp [*]; done), by repeat (first | exact Drawn0.refl _ | apply Drawn0.step)⟩
       ·rw [if_neg c8] at H;have c8b0 : (a0.toList == ([101, 108, 115, 101] : List UInt8)) = false := beq_eq_false_iff_ne.mpr c8;have c8b1 : (a0.toList != ([101, 108, 115, 101] : List UInt8)) = true := bne_iff_ne.mpr c8;by_cases c9 : a0.toList = ([101, 110, 100] : List UInt8)
        ·rw [if_pos c9] at H;have c9b0 : (a0.toList == ([101, 110, 100] : List UInt8)) = true := beq_iff_eq.mpr c9;have c9b1 : (a0.toList != ([101, 110, 100] : List UInt8)) = false := bne_eq_false_iff_eq.mpr c9;clear c9;obtain rfl := Option.some.inj H;go_enter Tryd.func15, Tryd.ntmps15;go_wp2;go_ret;exact ⟨by first | rfl | (simp; done) | (simp [*]; done), by repeat (first | exact Drawn0.refl _ | apply Drawn0.step)⟩
        ·rw [if_neg c9] at H;have c9b0 : (a0.toList == ([101, 110, 100] : List UInt8)) = false := beq_eq_false_iff_ne.mpr c9;have c9b1 : (a0.toList != ([101, 110, 100] : List UInt8)) = true := bne_iff_ne.mpr c9;by_cases c10 : a0.toList = ([102, 97, 108, 115, 101] : List UInt8)
         ·rw [if_pos c10] at H;have c10b0 : (a0.toList == ([102, 97, 108, 115, 101] : List UInt8)) = true := beq_iff_eq.mpr c10;have c10b1 : (a0.toList != ([102, 97, 108, 115, 101] : List UInt8)) = false := bne_eq_false_iff_eq.mpr c10;clear c10;obtain rfl := Option.some.inj H;go_enter Tryd.func15, Tryd.ntmps15;go_wp2;go_ret;exact ⟨by first | rfl | (simp; done) | (simp [*]; done), by repeat (first | exact Drawn0.refl _ | apply Drawn0.step)⟩
         ·rw [if_neg c10] at H;have c10b0 : (a0.toList == ([102, 97, 108, 115, 101] : List UInt8)) = false := beq_eq_false_iff_ne.mpr c10;have c10b1 : (a0.toList != ([102, 97, 108, 115, 101] : List UInt8)) = true := bne_iff_ne.mpr c10;by_cases c11 : a0.toList = ([102, 111, 114, 101, 97, 99, 104] : List UInt8)
          ·rw [if_pos c11] at H;have c11b0 : (a0.toList == ([102, 111, 114, 101, 97, 99, 104] : List UInt8)) = true := beq_iff_eq.mpr c11;have c11b1 : (a0.toList != ([102, 111, 114, 101, 97, 99, 104] : List UInt8)) = false := bne_eq_false_iff_eq.mpr c11;clear c11;obtain rfl := Option.some.inj H;go_enter Tryd.func15, Tryd.ntmps15;go_wp2;go_ret;exact ⟨by first | rfl | (simp; done) | (simp [*]; done), by repeat (first | exact Drawn0.refl _ | apply Drawn0.step)⟩
          ·rw [if_neg c11] at H;have c11b0 : (a0.toList == ([102, 111, 114, 101, 97, 99, 104] : List UInt8)) = false := beq_eq_false_iff_ne.mpr c11;have c11b1 : (a0.toList != ([102, 111, 114, 101, 97, 99, 104] : List UInt8)) = true := bne_iff_ne.mpr c11;by_cases c12 : a0.toList = ([105, 102] : List UInt8)
           ·rw [if_pos c12] at H;have c12b0 : (a0.toList == ([105, 102] : List UInt8)) = true := beq_iff_eq.mpr c12;have c12b1 : (a0.toList != ([105, 102] : List UInt8)) = false := bne_eq_false_iff_eq.mpr c12;clear c12;obtain rfl := Option.some.inj H;go_enter Tryd.func15, Tryd.ntmps15;go_wp2;go_ret;exact ⟨by first | rfl | (simp; done) | (simp [*]; done), by repeat (first | exact Drawn0.refl _ | apply Drawn0.step)⟩
           ·rw [if_neg c12] at H;have c12b0 : (a0.toList == ([105, 102] : List UInt8)) = false := beq_eq_false_iff_ne.mpr c12;have c12b1 : (a0.toList != ([105, 102] : List UInt8)) = true := bne_iff_ne.mpr c12;by_cases c13 : a0.toList = ([108, 97, 98, 101, 108] : List UInt8)
            ·rw [if_pos c13] at H;have c13b0 : (a0.toList == ([108, 97, 98, 101, 108] : List UInt8)) = true := beq_iff_eq.mpr c13;have c13b1 : (a0.toList != ([108, 97, 98, 101, 108] : List UInt8)) = false := bne_eq_false_iff_eq.mpr c13;clear c13;obtain rfl := Option.some.inj H;go_enter Tryd.func15, Tryd.ntmps15;go_wp2;go_ret;exact ⟨by first | rfl | (simp; done) | (simp [*]; done), by repeat (first | exact Drawn0.refl _ | apply Drawn0.step)⟩
            ·rw [if_neg c13] at H;have c13b0 : (a0.toList == ([108, 97, 98, 101, 108] : List UInt8)) = false := beq_eq_false_iff_ne.mpr c13;have c13b1 : (a0.toList != ([108, 97, 98, 101, 108] : List UInt8)) = true := bne_iff_ne.mpr c13;by_cases c14 : a0.toList = ([110, 117, 108, 108] : List UInt8)
             ·rw [if_pos c14] at H;have c14b0 : (a0.toList == ([110, 117, 108, 108] : List UInt8)) = true := beq_iff_eq.mpr c14;have c14b1 : (a0.toList != ([110, 117, 108, 108] : List UInt8)) = false := bne_eq_false_iff_eq.mpr c14;clear c14;obtain rfl := Option.some.inj H;go_enter Tryd.func15, Tryd.ntmps15;go_wp2;go_ret;exact ⟨by first | rfl | (simp; done) | (simp [*]; done), by repeat (first | exact Drawn0.refl _ | apply Drawn0.step)⟩
             ·rw [if_neg c14] at H;have c14b0 : (a0.toList == ([110, 117, 108, 108] : List UInt8)) = false := beq_eq_false_iff_ne.mpr c14;have c14b1 : (a0.toList != ([110, 117, 108, 108] : List UInt8)) = true := bne_iff_ne.mpr c14;by_cases c15 : a0.toList = ([111, 114] : List UInt8)
              ·rw [if_pos c15] at H;have c15b0 : (a0.toList == ([111, 114] : List UInt8)) = true := beq_iff_eq.mpr c15;have c15b1 : (a0.toList != ([111, 114] : List UInt8)) = false := bne_eq_false_iff_eq.mpr c15;clear c15;obtain rfl := Option.some.inj H;go_enter Tryd.func15, Tryd.ntmps15;go_wp2;go_ret;exact ⟨by first | rfl | (simp; done) | (simp [*]; done), by repeat (first | exact Drawn0.refl _ | apply Drawn0.step)⟩
              ·rw [if_neg c15] at H;have c15b0 : (a0.toList == ([111, 114] : List UInt8)) = false := beq_eq_false_iff_ne.mpr c15;have c15b1 : (a0.toList != ([111, 114] : List UInt8)) = true := bne_iff_ne.mpr c15;by_cases c16 : a0.toList = ([114, 101, 100, 117, 99, 101] : List UInt8)
               ·rw [if_pos c16] at H;have c16b0 : (a0.toList == ([114, 101, 100, 117, 99, 101] : List UInt8)) = true := beq_iff_eq.mpr c16;have c16b1 : (a0.toList != ([114, 101, 100, 117, 99, 101] : List UInt8)) = false := bne_eq_false_iff_eq.mpr c16;clear c16;obtain rfl := Option.some.inj H;go_enter Tryd.func15, Tryd.ntmps15;go_wp2;go_ret;exact ⟨by first | rfl | (simp; done) | (simp [*]; done), by repeat (first | exact Drawn0.refl _ | apply Drawn0.step)⟩
               ·rw [if_neg c16] at H;have c16b0 : (a0.toList == ([114, 101, 100, 117, 99, 101] : List UInt8)) = false := beq_eq_false_iff_ne.mpr c16;have c16b1 : (a0.toList != ([114, 101, 100, 117, 99, 101] : List UInt8)) = true := bne_iff_ne.mpr c16;by_cases c17 : a0.toList = ([116, 104, 101, 110] : List UInt8)
                ·rw [if_pos c17] at H;have c17b0 : (a0.toList == ([116, 104, 101, 110] : List UInt8)) = true := beq_iff_eq.mpr c17;have c17b1 : (a0.toList != ([116, 104, 101, 110] : List UInt8)) = false := bne_eq_false_iff_eq.mpr c17;clear c17;obtain rfl := Option.some.inj H;go_enter Tryd.func15, Tryd.ntmps15;go_wp2;go_ret;exact ⟨by first | rfl | (simp; done) | (simp [*]; done), by repeat (first | exact Drawn0.refl _ | apply Drawn0.step)⟩
                ·rw [if_neg c17] at H;have c17b0 : (a0.toList == ([116, 104, 101, 110] : List UInt8)) = false := beq_eq_false_iff_ne.mpr c17;have c17b1 : (a0.toList != ([116, 104, 101, 110] : List UInt8)) = true := bne_iff_ne.mpr c17;by_cases c18 : a0.toList = ([116, 114, 117, 101] : List UInt8)
                 ·rw [if_pos c18] at H;have c18b0 : (a0.toList == ([116, 114, 117, 101] : List UInt8)) = true := beq_iff_eq.mpr c18;have c18b1 : (a0.toList != ([116, 114, 117, 101] : List UInt8)) = false := bne_eq_false_iff_eq.mpr c18;clear c18;obtain rfl := Option.some.inj H;go_enter Tryd.func15, Tryd.ntmps15;go_wp2;go_ret;exact ⟨by first | rfl | (simp; done) | (simp [*]; done), by repeat (first | exact Drawn0.refl _ | apply Drawn0.step)⟩
                 ·rw [if_neg c18] at H;have c18b0 : (a0.toList == ([116, 114, 117, 101] : List UInt8)) = false := beq_eq_false_iff_ne.mpr c18;have c18b1 : (a0.toList != ([116, 114, 117, 101] : List UInt8)) = true := bne_iff_ne.mpr c18;by_cases c19 : a0.toList = ([116, 114, 121] : List UInt8)
                  ·rw [if_pos c19] at H;have c19b0 : (a0.toList == ([116, 114, 121] : List UInt8)) = true := beq_iff_eq.mpr c19;have c19b1 : (a0.toList != ([116, 114, 121] : List UInt8)) = false := bne_eq_false_iff_eq.mpr c19;clear c19;obtain rfl := Option.some.inj H;go_enter Tryd.func15, Tryd.ntmps15;go_wp2;go_ret;exact ⟨by first | rfl | (simp; done) | (simp [*]; done), by repeat (first | exact Drawn0.refl _ | apply Drawn0.step)⟩
                  ·rw [if_neg c19] at H;have c19b0 : (a0.toList == ([116, 114, 121] : List UInt8)) = false := beq_eq_false_iff_ne.mpr c19;have c19b1 : (a0.toList != ([116, 114, 121] : List UInt8)) = true := bne_iff_ne.mpr c19;obtain rfl := Option.some.inj H;go_enter Tryd.func15, Tryd.ntmps15;go_wp2;go_ret;exact ⟨by first | rfl | (simp; done) | (simp [*]; done), by repeat (first | exact Drawn0.refl _ | apply Drawn0.step)⟩
/-! ### flex_letter: function 26 -/
def flex_letter.f (a0 : Int) : Option (Bool) := if a0 ≥ 97 then (if a0 ≤ 122 then (some true) else (if a0 ≥ 65 then (if a0 ≤ 90 then (some true) else (some (a0 == 95))) else (some (a0 == 95)))) else (if a0 ≥ 65 then (if a0 ≤ 90 then (some true) else (some (a0 == 95))) else (some (a0 == 95)))
set_option maxHeartbeats 8000000 in
set_option maxRecDepth 100000 in
theorem flex_letter.calls (a0 : Int) (r : Bool) (w : World) (h : flex_letter.f a0 = some r) :
 Calls Tryd.prog 26 #[.int .u8 a0] w fun e w' => e = .returned (.bool r) ∧ Drawn0 w w' := by
 have H : (if a0 ≥ 97 then (if a0 ≤ 122 then (some true) else (if a0 ≥ 65 then (if a0 ≤ 90 then (some true) else (some (a0 == 95))) else (some (a0 == 95)))) else (if a0 ≥ 65 then (if a0 ≤ 90 then (some true) else (some (a0 == 95))) else (some (a0 == 95)))) = some r := h
 clear h;by_cases c2 : a0 ≥ 97
 ·rw [if_pos c2] at H;have c2b0 : decide (97 ≤ a0) = true := decide_eq_true c2;clear c2;by_cases c3 : a0 ≤ 122
  ·rw [if_pos c3] at H;have c3b0 : decide (a0 ≤ 122) = true := decide_eq_true c3;clear c3;obtain rfl := Option.some.inj H;go_enter Tryd.func26, Tryd.ntmps26;go_wp2;go_ret;exact ⟨by first | rfl | (simp; done) | (simp [*]; done), by repeat (first | exact Drawn0.refl _ | apply Drawn0.step)⟩
  ·rw [if_neg c3] at H;have c3b0 : decide (a0 ≤ 122) = false := decide_eq_false c3;clear c3;by_cases c4 : a0 ≥ 65
   ·rw [if_pos c4] at H;have c4b0 : decide (65 ≤ a0) = true := decide_eq_true c4;clear c4;by_cases c5 : a0 ≤ 90
    ·rw [if_pos c5] at H;have c5b0 : decide (a0 ≤ 90) = true := decide_eq_true c5;clear c5;obtain rfl := Option.some.inj H;go_enter Tryd.func26, Tryd.ntmps26;go_wp2;go_ret;exact ⟨by first | rfl | (simp; done) | (simp [*]; done), by repeat (first | exact Drawn0.refl _ | apply Drawn0.step)⟩
    ·rw [if_neg c5] at H;have c5b0 : decide (a0 ≤ 90) = false := decide_eq_false c5;clear c5;obtain rfl := Option.some.inj H;go_enter Tryd.func26, Tryd.ntmps26;go_wp2;go_ret;exact ⟨by first | rfl | (simp; done) | (simp [*]; done), by repeat (first | exact Drawn0.refl _ | apply Drawn0.step)⟩
   ·rw [if_neg c4] at H;have c4b0 : decide (65 ≤ a0) = false := decide_eq_false c4;clear c4;obtain rfl := Option.some.inj H;go_enter Tryd.func26, Tryd.ntmps26;go_wp2;go_ret;exact ⟨by first | rfl | (simp; done) | (simp [*]; done), by repeat (first | exact Drawn0.refl _ | apply Drawn0.step)⟩
 ·rw [if_neg c2] at H;have c2b0 : decide (97 ≤ a0) = false := decide_eq_false c2;clear c2;by_cases c6 : a0 ≥ 65
  ·rw [if_pos c6] at H;have c6b0 : decide (65 ≤ a0) = true := decide_eq_true c6;clear c6;by_cases c7 : a0 ≤ 90
   ·rw [if_pos c7] at H;have c7b0 : decide (a0 ≤ 90) = true := decide_eq_true c7;clear c7;obtain rfl := Option.some.inj H;go_enter Tryd.func26, Tryd.ntmps26;go_wp2;go_ret;exact ⟨by first | rfl | (simp; done) | (simp [*]; done), by repeat (first | exact Drawn0.refl _ | apply Drawn0.step)⟩
   ·rw [if_neg c7] at H;have c7b0 : decide (a0 ≤ 90) = false := decide_eq_false c7;clear c7;obtain rfl := Option.some.inj H;go_enter Tryd.func26, Tryd.ntmps26;go_wp2;go_ret;exact ⟨by first | rfl | (simp; done) | (simp [*]; done), by repeat (first | exact Drawn0.refl _ | apply Drawn0.step)⟩
  ·rw [if_neg c6] at H;have c6b0 : decide (65 ≤ a0) = false := decide_eq_false c6;clear c6;obtain rfl := Option.some.inj H;go_enter Tryd.func26, Tryd.ntmps26;go_wp2;go_ret;exact ⟨by first | rfl | (simp; done) | (simp [*]; done), by repeat (first | exact Drawn0.refl _ | apply Drawn0.step)⟩
/-! ### flex_digit: function 27 -/
def flex_digit.f (a0 : Int) : Option (Bool) := if a0 ≥ 48 then (some (decide (a0 ≤ 57))) else (some false)
set_option maxHeartbeats 8000000 in
set_option maxRecDepth 100000 in
theorem flex_digit.calls (a0 : Int) (r : Bool) (w : World) (h : flex_digit.f a0 = some r) :
 Calls Tryd.prog 27 #[.int .u8 a0] w fun e w' => e = .returned (.bool r) ∧ Drawn0 w w' := by
 have H : (if a0 ≥ 48 then (some (decide (a0 ≤ 57))) else (some false)) = some r := h
 clear h;by_cases c2 : a0 ≥ 48
 ·rw [if_pos c2] at H;have c2b0 : decide (48 ≤ a0) = true := decide_eq_true c2;clear c2;obtain rfl := Option.some.inj H;go_enter Tryd.func27, Tryd.ntmps27;go_wp2;go_ret;exact ⟨by first | rfl | (simp; done) | (simp [*]; done), by repeat (first | exact Drawn0.refl _ | apply Drawn0.step)⟩
 ·rw [if_neg c2] at H;have c2b0 : decide (48 ≤ a0) = false := decide_eq_false c2;clear c2;obtain rfl := Option.some.inj H;go_enter Tryd.func27, Tryd.ntmps27;go_wp2;go_ret;exact ⟨by first | rfl | (simp; done) | (simp [*]; done), by repeat (first | exact Drawn0.refl _ | apply Drawn0.step)⟩
end Go.Proofs.YtdhdpidjdadamaaDoor.PX
