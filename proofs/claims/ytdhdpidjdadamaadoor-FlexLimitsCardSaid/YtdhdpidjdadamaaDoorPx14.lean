/- Printed by this session's program: Go functions of this seat as plain Lean functions, and proofs that their calls come to them. -/
import Derived.Test.YtdhdpidjdadamaaDoorPx0
namespace Go.Proofs.YtdhdpidjdadamaaDoor.PX
open Go.RowKit Go.Proofs.YtdhdpidjdadamaaDoorW.PrintWords Go.Proofs.YtdhdpidjdadamaaDoorW.PrintLast Go.Proofs.YtdhdpidjdadamaaDoorW.PrintMore
attribute [local go_sem] max2_int min2_int max_two min_two max_three min_three max_four min_four   -- for this text's walks alone
set_option linter.unusedVariables false
set_option linter.unusedSimpArgs false
/-! ### rj_Blank: function 45 -/
def rj_Blank.f (a0 : Int) : Option (Bool) := if a0 = 32 then (some true) else (if a0 = 9 then (some true) else (if a0 = 10 then (some true) else (some (a0 == 13))))
set_option maxHeartbeats 8000000 in
set_option maxRecDepth 100000 in
theorem rj_Blank.calls (a0 : Int) (r : Bool) (w : World) (h : rj_Blank.f a0 = some r) :
 Calls Tryd.prog 45 #[.int .u8 a0] w fun e w' => e = .returned (.bool r) ∧ Drawn0 w w' := by
 have H : (if a0 = 32 then (some true) else (if a0 = 9 then (some true) else (if a0 = 10 then (some true) else (some (a0 == 13))))) = some r := h
 clear h;by_cases c2 : a0 = 32
 ·rw [if_pos c2] at H;have c2b0 : (a0 == 32) = true := beq_iff_eq.mpr c2;have c2b1 : (a0 != 32) = false := bne_eq_false_iff_eq.mpr c2;clear c2;obtain rfl := Option.some.inj H;go_enter Tryd.func45, Tryd.ntmps45;go_wp2;go_ret;exact ⟨by first | rfl | (simp; done) | (simp [*]; done), by repeat (first | exact Drawn0.refl _ | apply Drawn0.step)⟩
 ·rw [if_neg c2] at H;have c2b0 : (a0 == 32) = false := beq_eq_false_iff_ne.mpr c2;have c2b1 : (a0 != 32) = true := bne_iff_ne.mpr c2;by_cases c3 : a0 = 9
  ·rw [if_pos c3] at H;have c3b0 : (a0 == 9) = true := beq_iff_eq.mpr c3;have c3b1 : (a0 != 9) = false := bne_eq_false_iff_eq.mpr c3;clear c3;obtain rfl := Option.some.inj H;go_enter Tryd.func45, Tryd.ntmps45;go_wp2;go_ret;exact ⟨by first | rfl | (simp; done) | (simp [*]; done), by repeat (first | exact Drawn0.refl _ | apply Drawn0.step)⟩
  ·rw [if_neg c3] at H;have c3b0 : (a0 == 9) = false := beq_eq_false_iff_ne.mpr c3;have c3b1 : (a0 != 9) = true := bne_iff_ne.mpr c3;by_cases c4 : a0 = 10
   ·rw [if_pos c4] at H;have c4b0 : (a0 == 10) = true := beq_iff_eq.mpr c4;have c4b1 : (a0 != 10) = false := bne_eq_false_iff_eq.mpr c4;clear c4;obtain rfl := Option.some.inj H;go_enter Tryd.func45, Tryd.ntmps45;go_wp2;go_ret;exact ⟨by first | rfl | (simp; done) | (simp [*]; done), by repeat (first | exact Drawn0.refl _ | apply Drawn0.step)⟩
   ·rw [if_neg c4] at H;have c4b0 : (a0 == 10) = false := beq_eq_false_iff_ne.mpr c4;have c4b1 : (a0 != 10) = true := bne_iff_ne.mpr c4;obtain rfl := Option.some.inj H;go_enter Tryd.func45, Tryd.ntmps45;go_wp2;go_ret;exact ⟨by first | rfl | (simp; done) | (simp [*]; done), by repeat (first | exact Drawn0.refl _ | apply Drawn0.step)⟩
/-! ### rj_Skip: function 32 -/
mutual
def rj_Skip.j0 : Nat → ByteArray → Int → Bool → Option (Int)
 | 0, _, _, _ => none
 | k + 1, x0, x1, x12 => if x12 = true then (some x1) else (rj_Skip.l0 k x0 x1)
def rj_Skip.l0 : Nat → ByteArray → Int → Option (Int)
 | 0, _, _ => none
 | k + 1, x0, x1 => if x1 < (x0.size : Int) then (if 0 ≤ x1 then ((rj_Blank.f (bt x0 x1)).bind fun t214 => (if t214 = true then (rj_Skip.l0 k x0 (wrap64 (x1 + 1))) else (some x1))) else (none)) else (some x1)
end
def rj_Skip.f (k : Nat) (a0 : ByteArray) (a1 : Int) : Option (Int) := if a1 < 0 then (rj_Skip.j0 k a0 a1 true) else (rj_Skip.j0 k a0 a1 (decide (a1 > (a0.size : Int))))
theorem rj_Skip.mono_l : ∀ k, (∀ y0 y1 y2, LeO (rj_Skip.j0 k y0 y1 y2) (rj_Skip.j0 (k + 1) y0 y1 y2)) ∧ (∀ y0 y1, LeO (rj_Skip.l0 k y0 y1) (rj_Skip.l0 (k + 1) y0 y1))
 | 0 => ⟨fun _ _ _ r h => by simp [rj_Skip.j0] at h, fun _ _ r h => by simp [rj_Skip.l0] at h⟩
 | k + 1 => by
  obtain ⟨ih0, ih1⟩ := rj_Skip.mono_l k;refine ⟨?_, ?_⟩
  all_goals (intros;first | unfold rj_Skip.j0 | unfold rj_Skip.l0)
  all_goals (repeat' first | (with_reducible first | exact ih0 _ _ _ | exact ih1 _ _ | exact LeO.refl _ | exact LeO.none _ | refine LeO.ite ?_ ?_ | refine LeO.bind ?_ (fun _ => ?_)) | exact ih0 _ _ _ | exact ih1 _ _ | exact LeO.none _ | refine LeO.ite ?_ ?_ | refine LeO.bind ?_ (fun _ => ?_))
theorem rj_Skip.mono : ∀ a0 a1 k, LeO (rj_Skip.f k a0 a1) (rj_Skip.f (k + 1) a0 a1) := by
 intro a0 a1 k;obtain ⟨ih0, ih1⟩ := rj_Skip.mono_l k;unfold rj_Skip.f;repeat' first | (with_reducible first | exact ih0 _ _ _ | exact ih1 _ _ | exact LeO.refl _ | exact LeO.none _ | refine LeO.ite ?_ ?_ | refine LeO.bind ?_ (fun _ => ?_)) | exact ih0 _ _ _ | exact ih1 _ _ | exact LeO.none _ | refine LeO.ite ?_ ?_ | refine LeO.bind ?_ (fun _ => ?_)
set_option maxHeartbeats 8000000 in
set_option maxRecDepth 100000 in
theorem rj_Skip.calls (k : Nat) (a0 : ByteArray) (a1 : Int) (r : Int) (w : World) (h : rj_Skip.f k a0 a1 = some r) :
 Calls Tryd.prog 32 #[.string a0, .int .i64 a1] w fun e w' => e = .returned (.int .i64 r) ∧ Drawn0 w w' := by
 have H : (if a1 < 0 then (rj_Skip.j0 k a0 a1 true) else (rj_Skip.j0 k a0 a1 (decide (a1 > (a0.size : Int))))) = some r := h
 clear h;have HC3 := Aside0.mk H;clear H;go_enter Tryd.func32, Tryd.ntmps32;go_upto_region 1 with (fail)
 go_cut [12] (fun v12 wc => ∃ (kq : Nat) (x12_2 : Bool), v12 = .bool x12_2 ∧ Aside0 (rj_Skip.j0 kq a0 a1 x12_2 = some r) ∧ Aside0 (kq ≤ k) ∧ Drawn0 w wc)
 case first =>
  have H := HC3.out;clear HC3;by_cases c4 : a1 < 0
  ·rw [if_pos c4] at H;have c4b0 : decide (a1 < 0) = true := decide_eq_true c4;clear c4;(first | rw [c4b0] | (simp only [i64_w, i32_w]; rw [c4b0]) | skip)
   have H' := Aside0.mk H;clear H;go_wp2;go_meet
   case rel => exact ⟨_, (true), (by first | rfl | (simp; done) | (simp [*]; done)), H', ⟨by first | omega | exact Nat.le_refl _⟩, by repeat (first | exact Drawn0.refl _ | apply Drawn0.step)⟩
  ·rw [if_neg c4] at H;have c4b0 : decide (a1 < 0) = false := decide_eq_false c4;clear c4;(first | rw [c4b0] | (simp only [i64_w, i32_w]; rw [c4b0]) | skip)
   have H' := Aside0.mk H;clear H;go_wp2;go_meet
   case rel => exact ⟨_, (decide (a1 > (a0.size : Int))), (by first | rfl | (simp; done) | (simp [*]; done)), H', ⟨by first | omega | exact Nat.le_refl _⟩, by repeat (first | exact Drawn0.refl _ | apply Drawn0.step)⟩
 case rest =>
  clear HC3;try clear p2
  try clear c3
  try clear c4
  try clear c4b0
  obtain ⟨kq, x12_2, rfl, HA, HJ2, ⟨mc2, rfl⟩⟩ := hcut;cases kq with
  | zero => exact absurd HA.out (by simp [rj_Skip.j0])
  | succ kj2 =>
   have H := HA.out;clear HA;simp only [rj_Skip.j0] at H;by_cases c5 : x12_2 = true
   ·subst c5;have H1 : (some a1) = some r := by rw [if_pos rfl] at H; exact H
    clear H;have H := H1;clear H1;obtain rfl := Option.some.inj H;go_wp2;go_ret;exact ⟨by first | rfl | (simp; done) | (simp [*]; done), by repeat (first | exact Drawn0.refl _ | apply Drawn0.step)⟩
   ·replace c5 := Bool.eq_false_iff.mpr c5;subst c5;have H1 : (rj_Skip.l0 kj2 a0 a1) = some r := by rw [if_neg (show ¬ (false = true) by decide)] at H; exact H
    clear H;have H := H1;clear H1;have H' := Aside0.mk H;clear H;go_wp2;go_loopg [1] kj2 (fun kq v1 w' => ∃ (x1_2 : Int), v1 = .int .i64 x1_2 ∧ Aside0 (rj_Skip.l0 kq a0 x1_2 = some r) ∧ Aside0 (kq ≤ kj2) ∧ Drawn0 w w')
    case atStart => exact ⟨(a1), (by first | rfl | (simp; done) | (simp [*]; done)), H', ⟨Nat.le_refl _⟩, by repeat (first | exact Drawn0.refl _ | apply Drawn0.step)⟩
    case round =>
     clear H';try clear c2
     try clear p2
     try clear c3
     try clear c4
     try clear c4b0
     try clear c5
     try clear p2
     obtain ⟨x1_2, rfl, HA, HK2, ⟨m2, rfl⟩⟩ := hrel;cases gk with
     | zero => exact absurd HA.out (by simp [rj_Skip.l0])
     | succ k2 =>
      have H := HA.out;clear HA;simp only [rj_Skip.l0] at H;by_cases c6 : x1_2 < (a0.size : Int)
      ·rw [if_pos c6] at H;have c6b0 : decide (x1_2 < (a0.size : Int)) = true := decide_eq_true c6;clear c6;by_cases c7 : 0 ≤ x1_2
       ·rw [if_pos c7] at H;have c7b0 : decide (0 ≤ x1_2) = true := decide_eq_true c7;clear c7;replace H := Option.bind_eq_some_iff.mp H;obtain ⟨t214, A90, H⟩ := H;replace H : (if t214 = true then (rj_Skip.l0 k2 a0 (wrap64 (x1_2 + 1))) else (some x1_2)) = some r := H
        have A9 := Aside0.mk A90;clear A90;by_cases c10 : t214 = true
        ·subst c10;have H1 : (rj_Skip.l0 k2 a0 (wrap64 (x1_2 + 1))) = some r := by rw [if_pos rfl] at H; exact H
         clear H;have H := H1;clear H1;have H' := Aside0.mk H;clear H;have p8 : 0 ≤ (x1_2 : Int) := of_decide_eq_true (by first | (with_reducible assumption) | assumption)
         have q8 : x1_2 < (a0.size : Int) := of_decide_eq_true (by first | (with_reducible assumption) | assumption)
         have hx8 := bt_at a0 x1_2;replace p8 := eq_true p8;replace q8 := eq_true q8;go_wp2_with (first | (go_at_call 45; (with_reducible refine (rj_Blank.calls (bt a0 x1_2) true _ A9.out).mono ?_); rintro e w' ⟨rfl, ⟨nd, rfl⟩⟩))
         go_roundg k2
         case measure => have := HJ2.out; have := HK2.out; omega
         case rel => exact ⟨(wrap64 (x1_2 + 1)), (by first | rfl | (simp; done) | (simp [*]; done)), H', ⟨by have := HJ2.out; have := HK2.out; omega⟩, by repeat (first | exact Drawn0.refl _ | apply Drawn0.step)⟩
        ·replace c10 := Bool.eq_false_iff.mpr c10;subst c10;have H1 : (some x1_2) = some r := by rw [if_neg (show ¬ (false = true) by decide)] at H; exact H
         clear H;have H := H1;clear H1;obtain rfl := Option.some.inj H;have p8 : 0 ≤ (x1_2 : Int) := of_decide_eq_true (by first | (with_reducible assumption) | assumption)
         have q8 : x1_2 < (a0.size : Int) := of_decide_eq_true (by first | (with_reducible assumption) | assumption)
         have hx8 := bt_at a0 x1_2;replace p8 := eq_true p8;replace q8 := eq_true q8;go_wp2_with (first | (go_at_call 45; (with_reducible refine (rj_Blank.calls (bt a0 x1_2) false _ A9.out).mono ?_); rintro e w' ⟨rfl, ⟨nd, rfl⟩⟩))
         go_ret;exact ⟨by first | rfl | (simp; done) | (simp [*]; done), by repeat (first | exact Drawn0.refl _ | apply Drawn0.step)⟩
       ·rw [if_neg c7] at H;exact absurd H (by simp)
      ·rw [if_neg c6] at H;have c6b0 : decide (x1_2 < (a0.size : Int)) = false := decide_eq_false c6;clear c6;obtain rfl := Option.some.inj H;go_wp2;go_ret;exact ⟨by first | rfl | (simp; done) | (simp [*]; done), by repeat (first | exact Drawn0.refl _ | apply Drawn0.step)⟩
/-! ### rt_gap: function 21 -/
mutual
def rt_gap.l0 : Nat → ByteArray → Int → Option (Int)
 | 0, _, _ => none
 | k + 1, x0, x1 => (rj_Skip.f k x0 x1).bind fun t215 => (if t215 = (x0.size : Int) then (rt_gap.j1 k x0 t215 true) else (if 0 ≤ t215 then (if t215 < (x0.size : Int) then (rt_gap.j1 k x0 t215 ((bt x0 t215) != 35)) else (none)) else (none)))
def rt_gap.j1 : Nat → ByteArray → Int → Bool → Option (Int)
 | 0, _, _, _ => none
 | k + 1, x0, x1, x17 => if x17 = true then (some x1) else (rt_gap.l1 k x0 x1)
def rt_gap.l1 : Nat → ByteArray → Int → Option (Int)
 | 0, _, _ => none
 | k + 1, x0, x1 => if x1 < (x0.size : Int) then (if 0 ≤ x1 then (if (bt x0 x1) = 10 then (rt_gap.l0 k x0 x1) else (rt_gap.l1 k x0 (wrap64 (x1 + 1)))) else (none)) else (rt_gap.l0 k x0 x1)
end
def rt_gap.f (k : Nat) (a0 : ByteArray) (a1 : Int) : Option (Int) := rt_gap.l0 k a0 a1
theorem rt_gap.mono_l : ∀ k, (∀ y0 y1, LeO (rt_gap.l0 k y0 y1) (rt_gap.l0 (k + 1) y0 y1)) ∧ (∀ y0 y1 y2, LeO (rt_gap.j1 k y0 y1 y2) (rt_gap.j1 (k + 1) y0 y1 y2)) ∧ (∀ y0 y1, LeO (rt_gap.l1 k y0 y1) (rt_gap.l1 (k + 1) y0 y1))
 | 0 => ⟨fun _ _ r h => by simp [rt_gap.l0] at h, fun _ _ _ r h => by simp [rt_gap.j1] at h, fun _ _ r h => by simp [rt_gap.l1] at h⟩
 | k + 1 => by
  obtain ⟨ih0, ih1, ih2⟩ := rt_gap.mono_l k;refine ⟨?_, ?_, ?_⟩
  all_goals (intros;first | unfold rt_gap.l0 | unfold rt_gap.j1 | unfold rt_gap.l1)
  all_goals (repeat' first | (with_reducible first | exact ih0 _ _ | exact ih1 _ _ _ | exact ih2 _ _ | exact rj_Skip.mono _ _ _ | exact LeO.refl _ | exact LeO.none _ | refine LeO.ite ?_ ?_ | refine LeO.bind ?_ (fun _ => ?_)) | exact ih0 _ _ | exact ih1 _ _ _ | exact ih2 _ _ | exact rj_Skip.mono _ _ _ | exact LeO.none _ | refine LeO.ite ?_ ?_ | refine LeO.bind ?_ (fun _ => ?_))
theorem rt_gap.mono : ∀ a0 a1 k, LeO (rt_gap.f k a0 a1) (rt_gap.f (k + 1) a0 a1) := by
 intro a0 a1 k;obtain ⟨ih0, ih1, ih2⟩ := rt_gap.mono_l k;unfold rt_gap.f;repeat' first | (with_reducible first | exact ih0 _ _ | exact ih1 _ _ _ | exact ih2 _ _ | exact rj_Skip.mono _ _ _ | exact LeO.refl _ | exact LeO.none _ | refine LeO.ite ?_ ?_ | refine LeO.bind ?_ (fun _ => ?_)) | exact ih0 _ _ | exact ih1 _ _ _ | exact ih2 _ _ | exact rj_Skip.mono _ _ _ | exact LeO.none _ | refine LeO.ite ?_ ?_ | refine LeO.bind ?_ (fun _ => ?_)
set_option maxHeartbeats 8000000 in
set_option maxRecDepth 100000 in
theorem rt_gap.calls (k : Nat) (a0 : ByteArray) (a1 : Int) (r : Int) (w : World) (h : rt_gap.f k a0 a1 = some r) :
 Calls Tryd.prog 21 #[.string a0, .int .i64 a1] w fun e w' => e = .returned (.int .i64 r) ∧ Drawn0 w w' := by
 have H : (rt_gap.l0 k a0 a1) = some r := h;clear h;have H' := Aside0.mk H;clear H;go_enter Tryd.func21, Tryd.ntmps21;go_wp2;go_loopg [1] k (fun kq v1 w' => ∃ (x1_1 : Int), v1 = .int .i64 x1_1 ∧ Aside0 (rt_gap.l0 kq a0 x1_1 = some r) ∧ Aside0 (kq ≤ k) ∧ Drawn0 w w')
 case atStart => exact ⟨(a1), (by first | rfl | (simp; done) | (simp [*]; done)), H', ⟨Nat.le_refl _⟩, by repeat (first | exact Drawn0.refl _ | apply Drawn0.step)⟩
 case round =>
  clear H';try clear c2
  try clear p2
  obtain ⟨x1_1, rfl, HA, HK1, ⟨m1, rfl⟩⟩ := hrel;cases gk with
  | zero => exact absurd HA.out (by simp [rt_gap.l0])
  | succ k1 =>
   have H := HA.out;clear HA;simp only [rt_gap.l0] at H;replace H := Option.bind_eq_some_iff.mp H;obtain ⟨t215, A30, H⟩ := H;replace H : (if t215 = (a0.size : Int) then (rt_gap.j1 k1 a0 t215 true) else (if 0 ≤ t215 then (if t215 < (a0.size : Int) then (rt_gap.j1 k1 a0 t215 ((bt a0 t215) != 35)) else (none)) else (none))) = some r := H
   have A3 := Aside0.mk A30;clear A30;have HC4 := Aside0.mk H;clear H;go_upto_region 2 with (first | ((with_reducible refine gate_callee (f := 32) rfl ?_); refine goesL_ (some 7) rfl rfl Tryd.func32 (by kernel_rfl) rfl #[.string a0, .int .i64 x1_1] rfl (by (try simp only [List.map_toArray, List.map_cons, List.map_nil]); first | done | rfl | (simp only [List.length_drop, List.length_take]; rfl)) ?_; (with_reducible refine (rj_Skip.calls k1 a0 x1_1 t215 _ A3.out).mono ?_); rintro e w' ⟨rfl, ⟨nd, rfl⟩⟩; refine ⟨_, rfl, ?_⟩))
   (try simp only [Act.put, List.setIfInBounds_toArray, List.set_cons_zero, List.set_cons_succ])
   go_cut [17] (fun v17 wc => ∃ (kq : Nat) (x17_3 : Bool), v17 = .bool x17_3 ∧ Aside0 (rt_gap.j1 kq a0 t215 x17_3 = some r) ∧ Aside0 (kq ≤ k1) ∧ Drawn0 w wc)
   case first =>
    have H := HC4.out;clear HC4;by_cases c5 : t215 = (a0.size : Int)
    ·rw [if_pos c5] at H;have c5b0 : (t215 == (a0.size : Int)) = true := beq_iff_eq.mpr c5;have c5b1 : (t215 != (a0.size : Int)) = false := bne_eq_false_iff_eq.mpr c5;clear c5;(first | rw [c5b0] | (simp only [i64_w, i32_w]; rw [c5b0]) | skip)
     have H' := Aside0.mk H;clear H;go_wp2;go_meet
     case rel => exact ⟨_, (true), (by first | rfl | (simp; done) | (simp [*]; done)), H', ⟨by have := HK1.out; first | omega | exact Nat.le_refl _⟩, by repeat (first | exact Drawn0.refl _ | apply Drawn0.step)⟩
    ·rw [if_neg c5] at H;have c5b0 : (t215 == (a0.size : Int)) = false := beq_eq_false_iff_ne.mpr c5;have c5b1 : (t215 != (a0.size : Int)) = true := bne_iff_ne.mpr c5;(first | rw [c5b0] | (simp only [i64_w, i32_w]; rw [c5b0]) | skip)
     by_cases c6 : 0 ≤ t215
     ·rw [if_pos c6] at H;have c6b0 : decide (0 ≤ t215) = true := decide_eq_true c6;clear c6;by_cases c7 : t215 < (a0.size : Int)
      ·rw [if_pos c7] at H;have c7b0 : decide (t215 < (a0.size : Int)) = true := decide_eq_true c7;clear c7;have H' := Aside0.mk H;clear H;have p8 : 0 ≤ (t215 : Int) := of_decide_eq_true (by first | (with_reducible assumption) | assumption)
       have q8 : t215 < (a0.size : Int) := of_decide_eq_true (by first | (with_reducible assumption) | assumption)
       have hx8 := bt_at a0 t215;replace p8 := eq_true p8;replace q8 := eq_true q8;go_wp2;go_meet
       case rel => exact ⟨_, (((bt a0 t215) != 35)), (by first | rfl | (simp; done) | (simp [*]; done)), H', ⟨by have := HK1.out; first | omega | exact Nat.le_refl _⟩, by repeat (first | exact Drawn0.refl _ | apply Drawn0.step)⟩
      ·rw [if_neg c7] at H;exact absurd H (by simp)
     ·rw [if_neg c6] at H;exact absurd H (by simp)
   case rest =>
    clear HC4;try clear c2
    try clear p2
    try clear c3
    try clear c5
    try clear c5b0
    try clear c5b1
    try clear c6
    try clear c6b0
    try clear c7
    try clear c7b0
    try clear p8
    try clear q8
    try clear hx8
    try clear p2
    try clear p8
    try clear q8
    obtain ⟨kq, x17_3, rfl, HA, HJ3, ⟨mc3, rfl⟩⟩ := hcut;cases kq with
    | zero => exact absurd HA.out (by simp [rt_gap.j1])
    | succ kj3 =>
     have H := HA.out;clear HA;simp only [rt_gap.j1] at H;by_cases c9 : x17_3 = true
     ·subst c9;have H1 : (some t215) = some r := by rw [if_pos rfl] at H; exact H
      clear H;have H := H1;clear H1;obtain rfl := Option.some.inj H;go_wp2;go_ret;exact ⟨by first | rfl | (simp; done) | (simp [*]; done), by repeat (first | exact Drawn0.refl _ | apply Drawn0.step)⟩
     ·replace c9 := Bool.eq_false_iff.mpr c9;subst c9;have H1 : (rt_gap.l1 kj3 a0 t215) = some r := by rw [if_neg (show ¬ (false = true) by decide)] at H; exact H
      clear H;have H := H1;clear H1;have H' := Aside0.mk H;clear H;go_wp2;go_loopg [1] kj3 (fun kq v1 w' => ∃ (x1_3 : Int), v1 = .int .i64 x1_3 ∧ Aside0 (rt_gap.l1 kq a0 x1_3 = some r) ∧ Aside0 (kq ≤ kj3) ∧ Drawn0 w w')
      case atStart => exact ⟨(t215), (by first | rfl | (simp; done) | (simp [*]; done)), H', ⟨Nat.le_refl _⟩, by repeat (first | exact Drawn0.refl _ | apply Drawn0.step)⟩
      case round =>
       clear H';try clear c2
       try clear p2
       try clear c3
       try clear c5
       try clear c5b0
       try clear c5b1
       try clear c6
       try clear c6b0
       try clear c7
       try clear c7b0
       try clear p8
       try clear q8
       try clear hx8
       try clear c9
       try clear p2
       try clear p8
       try clear q8
       obtain ⟨x1_3, rfl, HA, HK3, ⟨m3, rfl⟩⟩ := hrel;cases gk with
       | zero => exact absurd HA.out (by simp [rt_gap.l1])
       | succ k3 =>
        have H := HA.out;clear HA;simp only [rt_gap.l1] at H;by_cases c10 : x1_3 < (a0.size : Int)
        ·rw [if_pos c10] at H;have c10b0 : decide (x1_3 < (a0.size : Int)) = true := decide_eq_true c10;clear c10;by_cases c11 : 0 ≤ x1_3
         ·rw [if_pos c11] at H;have c11b0 : decide (0 ≤ x1_3) = true := decide_eq_true c11;clear c11;by_cases c13 : (bt a0 x1_3) = 10
          ·rw [if_pos c13] at H;have c13b0 : ((bt a0 x1_3) == 10) = true := beq_iff_eq.mpr c13;have c13b1 : ((bt a0 x1_3) != 10) = false := bne_eq_false_iff_eq.mpr c13;clear c13;have H' := Aside0.mk H;clear H;have p12 : 0 ≤ (x1_3 : Int) := of_decide_eq_true (by first | (with_reducible assumption) | assumption)
           have q12 : x1_3 < (a0.size : Int) := of_decide_eq_true (by first | (with_reducible assumption) | assumption)
           have hx12 := bt_at a0 x1_3;replace p12 := eq_true p12;replace q12 := eq_true q12;go_wp2;go_roundg k3
           case measure => have := HK1.out; have := HJ3.out; have := HK3.out; omega
           case rel => exact ⟨(x1_3), (by first | rfl | (simp; done) | (simp [*]; done)), H', ⟨by have := HK1.out; have := HJ3.out; have := HK3.out; omega⟩, by repeat (first | exact Drawn0.refl _ | apply Drawn0.step)⟩
          ·rw [if_neg c13] at H;have c13b0 : ((bt a0 x1_3) == 10) = false := beq_eq_false_iff_ne.mpr c13;have c13b1 : ((bt a0 x1_3) != 10) = true := bne_iff_ne.mpr c13;have H' := Aside0.mk H;clear H;have p12 : 0 ≤ (x1_3 : Int) := of_decide_eq_true (by first | (with_reducible assumption) | assumption)
           have q12 : x1_3 < (a0.size : Int) := of_decide_eq_true (by first | (with_reducible assumption) | assumption)
           have hx12 := bt_at a0 x1_3;replace p12 := eq_true p12;replace q12 := eq_true q12;go_wp2;go_roundg k3
           case measure => have := HK1.out; have := HJ3.out; have := HK3.out; omega
           case rel => exact ⟨(wrap64 (x1_3 + 1)), (by first | rfl | (simp; done) | (simp [*]; done)), H', ⟨by have := HK1.out; have := HJ3.out; have := HK3.out; omega⟩, by repeat (first | exact Drawn0.refl _ | apply Drawn0.step)⟩
         ·rw [if_neg c11] at H;exact absurd H (by simp)
        ·rw [if_neg c10] at H;have c10b0 : decide (x1_3 < (a0.size : Int)) = false := decide_eq_false c10;clear c10;have H' := Aside0.mk H;clear H;go_wp2;go_roundg k3
         case measure => have := HK1.out; have := HJ3.out; have := HK3.out; omega
         case rel => exact ⟨(x1_3), (by first | rfl | (simp; done) | (simp [*]; done)), H', ⟨by have := HK1.out; have := HJ3.out; have := HK3.out; omega⟩, by repeat (first | exact Drawn0.refl _ | apply Drawn0.step)⟩
/-! ### rt_letter: function 33 -/
def rt_letter.f (a0 : Int) : Option (Bool) := if a0 ≥ 97 then (if a0 ≤ 122 then (some true) else (if a0 ≥ 65 then (if a0 ≤ 90 then (some true) else (some (a0 == 95))) else (some (a0 == 95)))) else (if a0 ≥ 65 then (if a0 ≤ 90 then (some true) else (some (a0 == 95))) else (some (a0 == 95)))
set_option maxHeartbeats 8000000 in
set_option maxRecDepth 100000 in
theorem rt_letter.calls (a0 : Int) (r : Bool) (w : World) (h : rt_letter.f a0 = some r) :
 Calls Tryd.prog 33 #[.int .u8 a0] w fun e w' => e = .returned (.bool r) ∧ Drawn0 w w' := by
 have H : (if a0 ≥ 97 then (if a0 ≤ 122 then (some true) else (if a0 ≥ 65 then (if a0 ≤ 90 then (some true) else (some (a0 == 95))) else (some (a0 == 95)))) else (if a0 ≥ 65 then (if a0 ≤ 90 then (some true) else (some (a0 == 95))) else (some (a0 == 95)))) = some r := h
 clear h;by_cases c2 : a0 ≥ 97
 ·rw [if_pos c2] at H;have c2b0 : decide (97 ≤ a0) = true := decide_eq_true c2;clear c2;by_cases c3 : a0 ≤ 122
  ·rw [if_pos c3] at H;have c3b0 : decide (a0 ≤ 122) = true := decide_eq_true c3;clear c3;obtain rfl := Option.some.inj H;go_enter Tryd.func33, Tryd.ntmps33;go_wp2;go_ret;exact ⟨by first | rfl | (simp; done) | (simp [*]; done), by repeat (first | exact Drawn0.refl _ | apply Drawn0.step)⟩
  ·rw [if_neg c3] at H;have c3b0 : decide (a0 ≤ 122) = false := decide_eq_false c3;clear c3;by_cases c4 : a0 ≥ 65
   ·rw [if_pos c4] at H;have c4b0 : decide (65 ≤ a0) = true := decide_eq_true c4;clear c4;by_cases c5 : a0 ≤ 90
    ·rw [if_pos c5] at H;have c5b0 : decide (a0 ≤ 90) = true := decide_eq_true c5;clear c5;obtain rfl := Option.some.inj H;go_enter Tryd.func33, Tryd.ntmps33;go_wp2;go_ret;exact ⟨by first | rfl | (simp; done) | (simp [*]; done), by repeat (first | exact Drawn0.refl _ | apply Drawn0.step)⟩
    ·rw [if_neg c5] at H;have c5b0 : decide (a0 ≤ 90) = false := decide_eq_false c5;clear c5;obtain rfl := Option.some.inj H;go_enter Tryd.func33, Tryd.ntmps33;go_wp2;go_ret;exact ⟨by first | rfl | (simp; done) | (simp [*]; done), by repeat (first | exact Drawn0.refl _ | apply Drawn0.step)⟩
   ·rw [if_neg c4] at H;have c4b0 : decide (65 ≤ a0) = false := decide_eq_false c4;clear c4;obtain rfl := Option.some.inj H;go_enter Tryd.func33, Tryd.ntmps33;go_wp2;go_ret;exact ⟨by first | rfl | (simp; done) | (simp [*]; done), by repeat (first | exact Drawn0.refl _ | apply Drawn0.step)⟩
 ·rw [if_neg c2] at H;have c2b0 : decide (97 ≤ a0) = false := decide_eq_false c2;clear c2;by_cases c6 : a0 ≥ 65
  ·rw [if_pos c6] at H;have c6b0 : decide (65 ≤ a0) = true := decide_eq_true c6;clear c6;by_cases c7 : a0 ≤ 90
   ·rw [if_pos c7] at H;have c7b0 : decide (a0 ≤ 90) = true := decide_eq_true c7;clear c7;obtain rfl := Option.some.inj H;go_enter Tryd.func33, Tryd.ntmps33;go_wp2;go_ret;exact ⟨by first | rfl | (simp; done) | (simp [*]; done), by repeat (first | exact Drawn0.refl _ | apply Drawn0.step)⟩
   ·rw [if_neg c7] at H;have c7b0 : decide (a0 ≤ 90) = false := decide_eq_false c7;clear c7;obtain rfl := Option.some.inj H;go_enter Tryd.func33, Tryd.ntmps33;go_wp2;go_ret;exact ⟨by first | rfl | (simp; done) | (simp [*]; done), by repeat (first | exact Drawn0.refl _ | apply Drawn0.step)⟩
  ·rw [if_neg c6] at H;have c6b0 : decide (65 ≤ a0) = false := decide_eq_false c6;clear c6;obtain rfl := Option.some.inj H;go_enter Tryd.func33, Tryd.ntmps33;go_wp2;go_ret;exact ⟨by first | rfl | (simp; done) | (simp [*]; done), by repeat (first | exact Drawn0.refl _ | apply Drawn0.step)⟩
/-! ### rt_digit: function 35 -/
def rt_digit.f (a0 : Int) : Option (Bool) := if a0 ≥ 48 then (some (decide (a0 ≤ 57))) else (some false)
set_option maxHeartbeats 8000000 in
set_option maxRecDepth 100000 in
theorem rt_digit.calls (a0 : Int) (r : Bool) (w : World) (h : rt_digit.f a0 = some r) :
 Calls Tryd.prog 35 #[.int .u8 a0] w fun e w' => e = .returned (.bool r) ∧ Drawn0 w w' := by
 have H : (if a0 ≥ 48 then (some (decide (a0 ≤ 57))) else (some false)) = some r := h
 clear h;by_cases c2 : a0 ≥ 48
 ·rw [if_pos c2] at H;have c2b0 : decide (48 ≤ a0) = true := decide_eq_true c2;clear c2;obtain rfl := Option.some.inj H;go_enter Tryd.func35, Tryd.ntmps35;go_wp2;go_ret;exact ⟨by first | rfl | (simp; done) | (simp [*]; done), by repeat (first | exact Drawn0.refl _ | apply Drawn0.step)⟩
 ·rw [if_neg c2] at H;have c2b0 : decide (48 ≤ a0) = false := decide_eq_false c2;clear c2;obtain rfl := Option.some.inj H;go_enter Tryd.func35, Tryd.ntmps35;go_wp2;go_ret;exact ⟨by first | rfl | (simp; done) | (simp [*]; done), by repeat (first | exact Drawn0.refl _ | apply Drawn0.step)⟩
end Go.Proofs.YtdhdpidjdadamaaDoor.PX
