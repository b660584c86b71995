/- Printed by this session's program: Go functions of this seat as plain Lean functions, and proofs that their calls come to them. -/
import Derived.Test.YtdhdpidjdadamaaDoorPx0
import Derived.Test.YtdhdpidjdadamaaDoorPx2
import Derived.Test.YtdhdpidjdadamaaDoorHNext
namespace Go.Proofs.YtdhdpidjdadamaaDoor.PX
open Go.RowKit Go.Proofs.YtdhdpidjdadamaaDoorW.PrintWords Go.Proofs.YtdhdpidjdadamaaDoorW.PrintLast Go.Proofs.YtdhdpidjdadamaaDoorW.PrintMore
attribute [local go_sem] max2_int min2_int max_two min_two max_three min_three max_four min_four   -- for this text's walks alone
set_option linter.unusedVariables false
set_option linter.unusedSimpArgs false
-- BREAK: function 29 (jx_Next): by hand in YtdhdpidjdadamaaDoorHNext
/-! ### flex_number: function 28 -/
mutual
def flex_number.j1 : Nat → ByteArray → Int → Int → Option (Int × Int × ByteArray × Int × Int × Int)
 | 0, _, _, _ => none
 | k + 1, x0, x1, x7 => if 0 ≤ x1 then (if x1 < (x0.size : Int) then (if (bt x0 x1) = 48 then (flex_number.j2 k x0 x1 x7 (decide (x7 > (wrap64 (x1 + 1))))) else (flex_number.j2 k x0 x1 x7 false)) else (none)) else (none)
def flex_number.j2 : Nat → ByteArray → Int → Int → Bool → Option (Int × Int × ByteArray × Int × Int × Int)
 | 0, _, _, _, _ => none
 | k + 1, x0, x1, x7, x33 => if x33 = true then (some (0, 0, (⟨#[]⟩ : ByteArray), 0, x1, 4)) else (if x7 < (x0.size : Int) then (if 0 ≤ x7 then ((flex_letter.f (bt x0 x7)).bind fun t150 => (if t150 = true then (flex_number.j3 k x0 x1 x7 true) else (if (wrap64 (x7 + 1)) < (x0.size : Int) then (if (bt x0 x7) = 46 then (if 0 ≤ (wrap64 (x7 + 1)) then ((flex_digit.f (bt x0 (wrap64 (x7 + 1)))).bind fun t151 => (flex_number.j3 k x0 x1 x7 t151)) else (none)) else (flex_number.j3 k x0 x1 x7 false)) else (flex_number.j3 k x0 x1 x7 false)))) else (none)) else (if (wrap64 (x7 + 1)) < (x0.size : Int) then (if 0 ≤ x7 then (none) else (none)) else (flex_number.j3 k x0 x1 x7 false)))
def flex_number.j3 : Nat → ByteArray → Int → Int → Bool → Option (Int × Int × ByteArray × Int × Int × Int)
 | 0, _, _, _, _ => none
 | k + 1, x0, x1, x7, x65 => if x65 = true then (some (0, 0, (⟨#[]⟩ : ByteArray), 0, x1, 7)) else (if 0 ≤ x1 then (if x1 ≤ x7 then (if x7 ≤ (x0.size : Int) then ((jx_Next.f k (x0.extract (x1 : Int).toNat (x7 : Int).toNat) 0).bind fun bt152 => (if bt152.2.2.2.2.2.2.2 = 0 then (some (5, 0, (⟨#[]⟩ : ByteArray), bt152.2.2.2.2.1, x7, 0)) else (some (0, 0, (⟨#[]⟩ : ByteArray), 0, x1, 7)))) else (none)) else (none)) else (none))
def flex_number.l0 : Nat → ByteArray → Int → Int → Option (Int × Int × ByteArray × Int × Int × Int)
 | 0, _, _, _ => none
 | k + 1, x0, x1, x7 => if x7 < (x0.size : Int) then (if 0 ≤ x7 then ((flex_digit.f (bt x0 x7)).bind fun t149 => (if t149 = true then (flex_number.l0 k x0 x1 (wrap64 (x7 + 1))) else (flex_number.j1 k x0 x1 x7))) else (none)) else (flex_number.j1 k x0 x1 x7)
end
def flex_number.f (k : Nat) (a0 : ByteArray) (a1 : Int) : Option (Int × Int × ByteArray × Int × Int × Int) := flex_number.l0 k a0 a1 a1
theorem flex_number.mono_l : ∀ k, (∀ y0 y1 y2, LeO (flex_number.j1 k y0 y1 y2) (flex_number.j1 (k + 1) y0 y1 y2)) ∧ (∀ y0 y1 y2 y3, LeO (flex_number.j2 k y0 y1 y2 y3) (flex_number.j2 (k + 1) y0 y1 y2 y3)) ∧ (∀ y0 y1 y2 y3, LeO (flex_number.j3 k y0 y1 y2 y3) (flex_number.j3 (k + 1) y0 y1 y2 y3)) ∧ (∀ y0 y1 y2, LeO (flex_number.l0 k y0 y1 y2) (flex_number.l0 (k + 1) y0 y1 y2))
 | 0 => ⟨fun _ _ _ r h => by simp [flex_number.j1] at h, fun _ _ _ _ r h => by simp [flex_number.j2] at h, fun _ _ _ _ r h => by simp [flex_number.j3] at h, fun _ _ _ r h => by simp [flex_number.l0] at h⟩
 | k + 1 => by
  obtain ⟨ih0, ih1, ih2, ih3⟩ := flex_number.mono_l k;refine ⟨?_, ?_, ?_, ?_⟩
  all_goals (intros;first | unfold flex_number.j1 | unfold flex_number.j2 | unfold flex_number.j3 | unfold flex_number.l0)
  all_goals (repeat' first | (with_reducible first | exact ih0 _ _ _ | exact ih1 _ _ _ _ | exact ih2 _ _ _ _ | exact ih3 _ _ _ | exact jx_Next.mono _ _ _ | exact LeO.refl _ | exact LeO.none _ | refine LeO.ite ?_ ?_ | refine LeO.bind ?_ (fun _ => ?_)) | exact ih0 _ _ _ | exact ih1 _ _ _ _ | exact ih2 _ _ _ _ | exact ih3 _ _ _ | exact jx_Next.mono _ _ _ | exact LeO.none _ | refine LeO.ite ?_ ?_ | refine LeO.bind ?_ (fun _ => ?_))
theorem flex_number.mono : ∀ a0 a1 k, LeO (flex_number.f k a0 a1) (flex_number.f (k + 1) a0 a1) := by
 intro a0 a1 k;obtain ⟨ih0, ih1, ih2, ih3⟩ := flex_number.mono_l k;unfold flex_number.f;repeat' first | (with_reducible first | exact ih0 _ _ _ | exact ih1 _ _ _ _ | exact ih2 _ _ _ _ | exact ih3 _ _ _ | exact jx_Next.mono _ _ _ | exact LeO.refl _ | exact LeO.none _ | refine LeO.ite ?_ ?_ | refine LeO.bind ?_ (fun _ => ?_)) | exact ih0 _ _ _ | exact ih1 _ _ _ _ | exact ih2 _ _ _ _ | exact ih3 _ _ _ | exact jx_Next.mono _ _ _ | exact LeO.none _ | refine LeO.ite ?_ ?_ | refine LeO.bind ?_ (fun _ => ?_)
set_option maxHeartbeats 8000000 in
set_option maxRecDepth 100000 in
theorem flex_number.calls (k : Nat) (a0 : ByteArray) (a1 : Int) (r1 : Int) (r2 : Int) (r3 : ByteArray) (r4 : Int) (r5 : Int) (r6 : Int) (w : World) (h : flex_number.f k a0 a1 = some (r1, r2, r3, r4, r5, r6)) :
 Calls Tryd.prog 28 #[.string a0, .int .i64 a1] w fun e w' => e = .returned (.tuple #[.agg #[.int .i64 r1, .int .i64 r2, .string r3, .int .i64 r4], .int .i64 r5, .int .i64 r6]) ∧ Below w.heap.size w w' := by
 have hu33 := Tryd.underlying33;have hu46 := Tryd.underlying46;have HB := Aside0.mk (Below.refl w.heap.size w);have H : (flex_number.l0 k a0 a1 a1) = some (r1, r2, r3, r4, r5, r6) := h;clear h;have HC3 := Aside0.mk H;clear H;go_enter Tryd.func28, Tryd.ntmps28
 go_upto_block 0 with (first | ((with_reducible refine gate_dst (N := 4) rfl ?_); (try (refine gate_guard (by rfl) ?_; dsimp only)); refine box_event ?hg (N := 4) ?hd (cs := #[.int .i64 0, .int .i64 0, .string (⟨#[]⟩ : ByteArray), .int .i64 0]) (t := 33) ?hr ?_; (case hd => rfl); (case hg => rfl); (case hr => first | (go_simp; done) | (go_simp; rfl)); intro gb148 hg w4 hbox hb; have n0_ := Aside0.mk (below_step (by repeat (first | (with_reducible first | exact HB.out | apply below_alloc | apply pw_below_drewN | apply below_drew1) | exact HB.out)) hb); have n1_ := Aside0.mk (hbox); have n2_ := Aside0.mk ((by rw [hg]; exact (below_size (by repeat (first | (with_reducible first | exact HB.out | apply below_alloc | apply pw_below_drewN | apply below_drew1) | exact HB.out))) : w.heap.size ≤ gb148)); have n3_ := Aside0.mk ((by rw [hg]; exact (below_size (by repeat (first | (with_reducible first | exact HB.out | apply below_alloc | apply pw_below_drewN | apply below_drew1) | exact HB.out))) : w.heap.size ≤ gb148)); clear HB; have HB := n0_; have BK148 := n1_; have GW148 := n2_; have GE148 := n3_; clear n0_ n1_ n2_ n3_; clear hb hbox hg))
 (try simp only [Act.put, List.setIfInBounds_toArray, List.set_cons_zero, List.set_cons_succ])
 go_cut [7] (fun v7 wc => ∃ (kq : Nat) (x7_2 : Int), v7 = .int .i64 x7_2 ∧ Aside0 (flex_number.j1 kq a0 a1 x7_2 = some (r1, r2, r3, r4, r5, r6)) ∧ Aside0 (kq ≤ k) ∧ Aside0 (wc.heap[gb148]? = some (.cells #[.int .i64 0, .int .i64 0, .string (⟨#[]⟩ : ByteArray), .int .i64 0] 33 (0, 0))) ∧ Aside0 (Below w.heap.size w wc))
 case first =>
  have H := HC3.out;clear HC3;have H' := Aside0.mk H;clear H;go_wp2;go_loopg [7] k (fun kq v7 w' => ∃ (x7_1 : Int), v7 = .int .i64 x7_1 ∧ Aside0 (flex_number.l0 kq a0 a1 x7_1 = some (r1, r2, r3, r4, r5, r6)) ∧ Aside0 (kq ≤ k) ∧ Aside0 (w'.heap[gb148]? = some (.cells #[.int .i64 0, .int .i64 0, .string (⟨#[]⟩ : ByteArray), .int .i64 0] 33 (0, 0))) ∧ Aside0 (Below w.heap.size w w'))
  case atStart => exact ⟨(a1), (by first | rfl | (simp; done) | (simp [*]; done)), H', ⟨Nat.le_refl _⟩, ⟨by (with_reducible repeat (first | refine blk_drewN ?_ _ | refine blk_drew ?_ | refine blk_alloc ?_ _)); exact BK148.out⟩, ⟨by repeat (first | (with_reducible first | exact HB.out | apply below_alloc | apply pw_below_drewN | apply below_drew1 | refine below_set ?_ GE148.out) | exact HB.out)⟩⟩
  case round =>
   clear H';try clear c2
   try clear p2
   obtain ⟨x7_1, rfl, HA, HK1, BK148, HB⟩ := hrel;cases gk with
   | zero => exact absurd HA.out (by simp [flex_number.l0])
   | succ k1 =>
    have H := HA.out;clear HA;simp only [flex_number.l0] at H;by_cases c5 : x7_1 < (a0.size : Int)
    ·rw [if_pos c5] at H;have c5b0 : decide (x7_1 < (a0.size : Int)) = true := decide_eq_true c5;clear c5;(first | rw [c5b0] | (simp only [i64_w, i32_w]; rw [c5b0]) | skip)
     by_cases c6 : 0 ≤ x7_1
     ·rw [if_pos c6] at H;have c6b0 : decide (0 ≤ x7_1) = true := decide_eq_true c6;clear c6;replace H := Option.bind_eq_some_iff.mp H;obtain ⟨t149, A80, H⟩ := H;replace H : (if t149 = true then (flex_number.l0 k1 a0 a1 (wrap64 (x7_1 + 1))) else (flex_number.j1 k1 a0 a1 x7_1)) = some (r1, r2, r3, r4, r5, r6) := H
      have A8 := Aside0.mk A80;clear A80;by_cases c9 : t149 = true
      ·subst c9;have H1 : (flex_number.l0 k1 a0 a1 (wrap64 (x7_1 + 1))) = some (r1, r2, r3, r4, r5, r6) := by rw [if_pos rfl] at H; exact H
       clear H;have H := H1;clear H1;have H' := Aside0.mk H;clear H;have p7 : 0 ≤ (x7_1 : Int) := of_decide_eq_true (by first | (with_reducible assumption) | assumption)
       have q7 : x7_1 < (a0.size : Int) := of_decide_eq_true (by first | (with_reducible assumption) | assumption)
       have hx7 := bt_at a0 x7_1;replace p7 := eq_true p7;replace q7 := eq_true q7;go_wp2_with (first | (go_at_call 27; (with_reducible refine (flex_digit.calls (bt a0 x7_1) true _ A8.out).mono ?_); rintro e w' ⟨rfl, ⟨nd, rfl⟩⟩))
       go_roundg k1
       case measure => have := HK1.out; omega
       case rel => exact ⟨(wrap64 (x7_1 + 1)), (by first | rfl | (simp; done) | (simp [*]; done)), H', ⟨by have := HK1.out; omega⟩, ⟨by (with_reducible repeat (first | refine blk_drewN ?_ _ | refine blk_drew ?_ | refine blk_alloc ?_ _)); exact BK148.out⟩, ⟨by repeat (first | (with_reducible first | exact HB.out | apply below_alloc | apply pw_below_drewN | apply below_drew1 | refine below_set ?_ GE148.out) | exact HB.out)⟩⟩
      ·replace c9 := Bool.eq_false_iff.mpr c9;subst c9;have H1 : (flex_number.j1 k1 a0 a1 x7_1) = some (r1, r2, r3, r4, r5, r6) := by rw [if_neg (show ¬ (false = true) by decide)] at H; exact H
       clear H;have H := H1;clear H1;have H' := Aside0.mk H;clear H;have p7 : 0 ≤ (x7_1 : Int) := of_decide_eq_true (by first | (with_reducible assumption) | assumption)
       have q7 : x7_1 < (a0.size : Int) := of_decide_eq_true (by first | (with_reducible assumption) | assumption)
       have hx7 := bt_at a0 x7_1;replace p7 := eq_true p7;replace q7 := eq_true q7;go_wp2_with (first | (go_at_call 27; (with_reducible refine (flex_digit.calls (bt a0 x7_1) false _ A8.out).mono ?_); rintro e w' ⟨rfl, ⟨nd, rfl⟩⟩))
       go_meet
       case rel => exact ⟨_, (x7_1), (by first | rfl | (simp; done) | (simp [*]; done)), H', ⟨by have := HK1.out; first | omega | exact Nat.le_refl _⟩, ⟨by (with_reducible repeat (first | refine blk_drewN ?_ _ | refine blk_drew ?_ | refine blk_alloc ?_ _)); exact BK148.out⟩, ⟨by repeat (first | (with_reducible first | exact HB.out | apply below_alloc | apply pw_below_drewN | apply below_drew1 | refine below_set ?_ GE148.out) | exact HB.out)⟩⟩
     ·rw [if_neg c6] at H;exact absurd H (by simp)
    ·rw [if_neg c5] at H;have c5b0 : decide (x7_1 < (a0.size : Int)) = false := decide_eq_false c5;clear c5;(first | rw [c5b0] | (simp only [i64_w, i32_w]; rw [c5b0]) | skip)
     have H' := Aside0.mk H;clear H;go_wp2;go_meet
     case rel => exact ⟨_, (x7_1), (by first | rfl | (simp; done) | (simp [*]; done)), H', ⟨by have := HK1.out; first | omega | exact Nat.le_refl _⟩, ⟨by (with_reducible repeat (first | refine blk_drewN ?_ _ | refine blk_drew ?_ | refine blk_alloc ?_ _)); exact BK148.out⟩, ⟨by repeat (first | (with_reducible first | exact HB.out | apply below_alloc | apply pw_below_drewN | apply below_drew1 | refine below_set ?_ GE148.out) | exact HB.out)⟩⟩
 case rest =>
  clear HC3;try clear c2
  try clear p2
  try clear c5
  try clear c5b0
  try clear c6
  try clear c6b0
  try clear p6
  try clear p7
  try clear q7
  try clear hx7
  try clear c9
  try clear p2
  try clear p7
  try clear q7
  obtain ⟨kq, x7_2, rfl, HA, HJ2, BK148, HB⟩ := hcut;cases kq with
  | zero => exact absurd HA.out (by simp [flex_number.j1])
  | succ kj2 =>
   have H := HA.out;clear HA;simp only [flex_number.j1] at H;have HC10 := Aside0.mk H;clear H;go_upto_region 4 with (fail)
   go_cut [33] (fun v33 wc => ∃ (kq : Nat) (x33_9 : Bool), v33 = .bool x33_9 ∧ Aside0 (flex_number.j2 kq a0 a1 x7_2 x33_9 = some (r1, r2, r3, r4, r5, r6)) ∧ Aside0 (kq ≤ kj2) ∧ Aside0 (wc.heap[gb148]? = some (.cells #[.int .i64 0, .int .i64 0, .string (⟨#[]⟩ : ByteArray), .int .i64 0] 33 (0, 0))) ∧ Aside0 (Below w.heap.size w wc))
   case first =>
    have H := HC10.out;clear HC10;by_cases c11 : 0 ≤ a1
    ·rw [if_pos c11] at H;have c11b0 : decide (0 ≤ a1) = true := decide_eq_true c11;clear c11;(first | rw [c11b0] | (simp only [i64_w, i32_w]; rw [c11b0]) | skip)
     by_cases c12 : a1 < (a0.size : Int)
     ·rw [if_pos c12] at H;have c12b0 : decide (a1 < (a0.size : Int)) = true := decide_eq_true c12;clear c12;by_cases c14 : (bt a0 a1) = 48
      ·rw [if_pos c14] at H;have c14b0 : ((bt a0 a1) == 48) = true := beq_iff_eq.mpr c14;have c14b1 : ((bt a0 a1) != 48) = false := bne_eq_false_iff_eq.mpr c14;clear c14;have H' := Aside0.mk H;clear H;have p13 : 0 ≤ (a1 : Int) := of_decide_eq_true (by first | (with_reducible assumption) | assumption)
       have q13 : a1 < (a0.size : Int) := of_decide_eq_true (by first | (with_reducible assumption) | assumption)
       have hx13 := bt_at a0 a1;replace p13 := eq_true p13;replace q13 := eq_true q13;go_wp2;go_meet
       case rel => exact ⟨_, (decide (x7_2 > (wrap64 (a1 + 1)))), (by first | rfl | (simp; done) | (simp [*]; done)), H', ⟨by have := HJ2.out; first | omega | exact Nat.le_refl _⟩, ⟨by (with_reducible repeat (first | refine blk_drewN ?_ _ | refine blk_drew ?_ | refine blk_alloc ?_ _)); exact BK148.out⟩, ⟨by repeat (first | (with_reducible first | exact HB.out | apply below_alloc | apply pw_below_drewN | apply below_drew1 | refine below_set ?_ GE148.out) | exact HB.out)⟩⟩
      ·rw [if_neg c14] at H;have c14b0 : ((bt a0 a1) == 48) = false := beq_eq_false_iff_ne.mpr c14;have c14b1 : ((bt a0 a1) != 48) = true := bne_iff_ne.mpr c14;have H' := Aside0.mk H;clear H;have p13 : 0 ≤ (a1 : Int) := of_decide_eq_true (by first | (with_reducible assumption) | assumption)
       have q13 : a1 < (a0.size : Int) := of_decide_eq_true (by first | (with_reducible assumption) | assumption)
       have hx13 := bt_at a0 a1;replace p13 := eq_true p13;replace q13 := eq_true q13;go_wp2;go_meet
       case rel => exact ⟨_, (false), (by first | rfl | (simp; done) | (simp [*]; done)), H', ⟨by have := HJ2.out; first | omega | exact Nat.le_refl _⟩, ⟨by (with_reducible repeat (first | refine blk_drewN ?_ _ | refine blk_drew ?_ | refine blk_alloc ?_ _)); exact BK148.out⟩, ⟨by repeat (first | (with_reducible first | exact HB.out | apply below_alloc | apply pw_below_drewN | apply below_drew1 | refine below_set ?_ GE148.out) | exact HB.out)⟩⟩
     ·rw [if_neg c12] at H;exact absurd H (by simp)
    ·rw [if_neg c11] at H;exact absurd H (by simp)
   case rest =>
    clear HC10;try clear c1
    try clear p1
    try clear q1
    try clear hx1
    try clear c2
    try clear p2
    try clear c5
    try clear c5b0
    try clear c6
    try clear c6b0
    try clear p6
    try clear p7
    try clear q7
    try clear hx7
    try clear c9
    try clear c11
    try clear c11b0
    try clear c12
    try clear c12b0
    try clear p13
    try clear q13
    try clear hx13
    try clear c14
    try clear c14b0
    try clear c14b1
    try clear p13
    try clear p2
    try clear p6
    try clear p7
    try clear q13
    try clear q7
    obtain ⟨kq, x33_9, rfl, HA, HJ9, BK148, HB⟩ := hcut;cases kq with
    | zero => exact absurd HA.out (by simp [flex_number.j2])
    | succ kj9 =>
     have H := HA.out;clear HA;simp only [flex_number.j2] at H;by_cases c15 : x33_9 = true
     ·subst c15;have H1 : (some (0, 0, (⟨#[]⟩ : ByteArray), 0, a1, 4)) = some (r1, r2, r3, r4, r5, r6) := by rw [if_pos rfl] at H; exact H
      clear H;have H := H1;clear H1;simp only [Option.some.injEq, Prod.mk.injEq] at H;obtain ⟨rfl, rfl, rfl, rfl, rfl, rfl⟩ := H;have hcz16_0 : wc.cell? ⟨gb148, 0, none⟩ = some (.int .i64 0) := (blk_cell BK148.out 0).trans rfl;have hcz16_1 : wc.cell? ⟨gb148, 1, none⟩ = some (.int .i64 0) := (blk_cell BK148.out 1).trans rfl;have hcz16_2 : wc.cell? ⟨gb148, 2, none⟩ = some (.string (⟨#[]⟩ : ByteArray)) := (blk_cell BK148.out 2).trans rfl;have hcz16_3 : wc.cell? ⟨gb148, 3, none⟩ = some (.int .i64 0) := (blk_cell BK148.out 3).trans rfl;have hfz16_0 := blk_frozen BK148.out 0
      have hfz16_1 := blk_frozen BK148.out 1;have hfz16_2 := blk_frozen BK148.out 2;have hfz16_3 := blk_frozen BK148.out 3;go_wp2
      refine bodyPost_ret (results_ctt rfl _ _ gb148 33 #[.int .i64 0, .int .i64 0, .string (⟨#[]⟩ : ByteArray), .int .i64 0] (0, 0) _ rfl (by (with_reducible repeat (first | refine blk_drewN ?_ _ | refine blk_drew ?_ | refine blk_alloc ?_ _)); refine blk_put (cs := #[.int .i64 0, .int .i64 0, .string (⟨#[]⟩ : ByteArray), .int .i64 0]) ?_ 3 _ rfl; (with_reducible repeat (first | refine blk_drewN ?_ _ | refine blk_drew ?_ | refine blk_alloc ?_ _)); refine blk_put (cs := #[.int .i64 0, .int .i64 0, .string (⟨#[]⟩ : ByteArray), .int .i64 0]) ?_ 2 _ rfl; (with_reducible repeat (first | refine blk_drewN ?_ _ | refine blk_drew ?_ | refine blk_alloc ?_ _)); refine blk_put (cs := #[.int .i64 0, .int .i64 0, .string (⟨#[]⟩ : ByteArray), .int .i64 0]) ?_ 1 _ rfl; (with_reducible repeat (first | refine blk_drewN ?_ _ | refine blk_drew ?_ | refine blk_alloc ?_ _)); refine blk_put (cs := #[.int .i64 0, .int .i64 0, .string (⟨#[]⟩ : ByteArray), .int .i64 0]) ?_ 0 _ rfl; (with_reducible repeat (first | refine blk_drewN ?_ _ | refine blk_drew ?_ | refine blk_alloc ?_ _)); exact BK148.out) Tryd.underlying33 rfl (by kernel_rfl)) rfl ?_
      exact ⟨by first | rfl | (simp [errW_none, errW_some] <;> rfl) | (simp [*, errW_none, errW_some] <;> rfl), by repeat (first | (with_reducible first | exact HB.out | apply below_alloc | apply pw_below_drewN | apply below_drew1 | refine below_set ?_ GE148.out) | exact HB.out)⟩
     ·replace c15 := Bool.eq_false_iff.mpr c15;subst c15
      have H1 : (if x7_2 < (a0.size : Int) then (if 0 ≤ x7_2 then ((flex_letter.f (bt a0 x7_2)).bind fun t150 => (if t150 = true then (flex_number.j3 kj9 a0 a1 x7_2 true) else (if (wrap64 (x7_2 + 1)) < (a0.size : Int) then (if (bt a0 x7_2) = 46 then (if 0 ≤ (wrap64 (x7_2 + 1)) then ((flex_digit.f (bt a0 (wrap64 (x7_2 + 1)))).bind fun t151 => (flex_number.j3 kj9 a0 a1 x7_2 t151)) else (none)) else (flex_number.j3 kj9 a0 a1 x7_2 false)) else (flex_number.j3 kj9 a0 a1 x7_2 false)))) else (none)) else (if (wrap64 (x7_2 + 1)) < (a0.size : Int) then (if 0 ≤ x7_2 then (none) else (none)) else (flex_number.j3 kj9 a0 a1 x7_2 false))) = some (r1, r2, r3, r4, r5, r6) := by rw [if_neg (show ¬ (false = true) by decide)] at H; exact H
      clear H;have H := H1;clear H1;have HC17 := Aside0.mk H;clear H;go_upto_region 6 with (fail)
      go_cut [65] (fun v65 wc => ∃ (kq : Nat) (x65_16 : Bool), v65 = .bool x65_16 ∧ Aside0 (flex_number.j3 kq a0 a1 x7_2 x65_16 = some (r1, r2, r3, r4, r5, r6)) ∧ Aside0 (kq ≤ kj9) ∧ Aside0 (wc.heap[gb148]? = some (.cells #[.int .i64 0, .int .i64 0, .string (⟨#[]⟩ : ByteArray), .int .i64 0] 33 (0, 0))) ∧ Aside0 (Below w.heap.size w wc))
      case first =>
       have H := HC17.out;clear HC17;by_cases c18 : x7_2 < (a0.size : Int)
       ·rw [if_pos c18] at H;have c18b0 : decide (x7_2 < (a0.size : Int)) = true := decide_eq_true c18;clear c18;(first | rw [c18b0] | (simp only [i64_w, i32_w]; rw [c18b0]) | skip)
        by_cases c19 : 0 ≤ x7_2
        ·rw [if_pos c19] at H;have c19b0 : decide (0 ≤ x7_2) = true := decide_eq_true c19;clear c19;replace H := Option.bind_eq_some_iff.mp H;obtain ⟨t150, A210, H⟩ := H;replace H : (if t150 = true then (flex_number.j3 kj9 a0 a1 x7_2 true) else (if (wrap64 (x7_2 + 1)) < (a0.size : Int) then (if (bt a0 x7_2) = 46 then (if 0 ≤ (wrap64 (x7_2 + 1)) then ((flex_digit.f (bt a0 (wrap64 (x7_2 + 1)))).bind fun t151 => (flex_number.j3 kj9 a0 a1 x7_2 t151)) else (none)) else (flex_number.j3 kj9 a0 a1 x7_2 false)) else (flex_number.j3 kj9 a0 a1 x7_2 false))) = some (r1, r2, r3, r4, r5, r6) := H
         have A21 := Aside0.mk A210;clear A210;by_cases c22 : t150 = true
         ·subst c22;have H1 : (flex_number.j3 kj9 a0 a1 x7_2 true) = some (r1, r2, r3, r4, r5, r6) := by rw [if_pos rfl] at H; exact H
          clear H;have H := H1;clear H1;have H' := Aside0.mk H;clear H;have p20 : 0 ≤ (x7_2 : Int) := of_decide_eq_true (by first | (with_reducible assumption) | assumption)
          have q20 : x7_2 < (a0.size : Int) := of_decide_eq_true (by first | (with_reducible assumption) | assumption)
          have hx20 := bt_at a0 x7_2;replace p20 := eq_true p20;replace q20 := eq_true q20;go_wp2_with (first | (go_at_call 26; (with_reducible refine (flex_letter.calls (bt a0 x7_2) true _ A21.out).mono ?_); rintro e w' ⟨rfl, ⟨nd, rfl⟩⟩))
          go_meet
          case rel => exact ⟨_, (true), (by first | rfl | (simp; done) | (simp [*]; done)), H', ⟨by have := HJ2.out; have := HJ9.out; first | omega | exact Nat.le_refl _⟩, ⟨by (with_reducible repeat (first | refine blk_drewN ?_ _ | refine blk_drew ?_ | refine blk_alloc ?_ _)); exact BK148.out⟩, ⟨by repeat (first | (with_reducible first | exact HB.out | apply below_alloc | apply pw_below_drewN | apply below_drew1 | refine below_set ?_ GE148.out) | exact HB.out)⟩⟩
         ·replace c22 := Bool.eq_false_iff.mpr c22;subst c22;have H1 : (if (wrap64 (x7_2 + 1)) < (a0.size : Int) then (if (bt a0 x7_2) = 46 then (if 0 ≤ (wrap64 (x7_2 + 1)) then ((flex_digit.f (bt a0 (wrap64 (x7_2 + 1)))).bind fun t151 => (flex_number.j3 kj9 a0 a1 x7_2 t151)) else (none)) else (flex_number.j3 kj9 a0 a1 x7_2 false)) else (flex_number.j3 kj9 a0 a1 x7_2 false)) = some (r1, r2, r3, r4, r5, r6) := by rw [if_neg (show ¬ (false = true) by decide)] at H; exact H
          clear H;have H := H1;clear H1;by_cases c23 : (wrap64 (x7_2 + 1)) < (a0.size : Int)
          ·rw [if_pos c23] at H;have c23b0 : decide ((wrap64 (x7_2 + 1)) < (a0.size : Int)) = true := decide_eq_true c23;clear c23;by_cases c25 : (bt a0 x7_2) = 46
           ·rw [if_pos c25] at H;have c25b0 : ((bt a0 x7_2) == 46) = true := beq_iff_eq.mpr c25;have c25b1 : ((bt a0 x7_2) != 46) = false := bne_eq_false_iff_eq.mpr c25;clear c25;obtain ⟨ji26, hji26⟩ : ∃ j_ : Int, (wrap64 (x7_2 + 1)) = j_ := ⟨_, rfl⟩;replace H : (if 0 ≤ (ji26) then ((flex_digit.f (bt a0 (ji26))).bind fun t151 => (flex_number.j3 kj9 a0 a1 x7_2 t151)) else (none)) = some (r1, r2, r3, r4, r5, r6) := by first | (rw [hji26] at H; exact H) | (simp only [hji26] at H ⊢; exact H)
            (try rw [hji26] at c23b0)
            (try rw [hji26] at A21)
            have hji26w : (IntKind.i64.wrap (x7_2 + 1)) = ji26 := (i64_w _).trans hji26;by_cases c27 : 0 ≤ (ji26)
            ·rw [if_pos c27] at H;have c27b0 : decide (0 ≤ (ji26)) = true := decide_eq_true c27;clear c27;replace H := Option.bind_eq_some_iff.mp H;obtain ⟨t151, A290, H⟩ := H;replace H : (flex_number.j3 kj9 a0 a1 x7_2 t151) = some (r1, r2, r3, r4, r5, r6) := H;have A29 := Aside0.mk A290;clear A290;have H' := Aside0.mk H;clear H;have p20 : 0 ≤ (x7_2 : Int) := of_decide_eq_true (by first | (with_reducible assumption) | assumption)
             have q20 : x7_2 < (a0.size : Int) := of_decide_eq_true (by first | (with_reducible assumption) | assumption)
             have hx20 := bt_at a0 x7_2;replace p20 := eq_true p20;replace q20 := eq_true q20
             go_wp2_with (first | (go_at_call 26; (with_reducible refine (flex_letter.calls (bt a0 x7_2) false _ A21.out).mono ?_); rintro e w' ⟨rfl, ⟨nd, rfl⟩⟩; have p24 : 0 ≤ (x7_2 : Int) := of_decide_eq_true (by first | (with_reducible assumption) | assumption); have q24 : x7_2 < (a0.size : Int) := of_decide_eq_true (by first | (with_reducible assumption) | assumption); have hx24 := bt_at a0 x7_2; replace p24 := eq_true p24; replace q24 := eq_true q24; have p28 : 0 ≤ ((ji26) : Int) := of_decide_eq_true (by first | (with_reducible assumption) | assumption); have q28 : (ji26) < (a0.size : Int) := of_decide_eq_true (by first | (with_reducible assumption) | assumption); have hx28 := bt_at a0 (ji26); replace p28 := eq_true p28; replace q28 := eq_true q28) | (go_at_call 27; (with_reducible refine (flex_digit.calls (bt a0 (ji26)) t151 _ A29.out).mono ?_); rintro e w' ⟨rfl, ⟨nd, rfl⟩⟩))
             go_meet
             case rel => exact ⟨_, (t151), (by first | rfl | (simp; done) | (simp [*]; done)), H', ⟨by have := HJ2.out; have := HJ9.out; first | omega | exact Nat.le_refl _⟩, ⟨by (with_reducible repeat (first | refine blk_drewN ?_ _ | refine blk_drew ?_ | refine blk_alloc ?_ _)); exact BK148.out⟩, ⟨by repeat (first | (with_reducible first | exact HB.out | apply below_alloc | apply pw_below_drewN | apply below_drew1 | refine below_set ?_ GE148.out) | exact HB.out)⟩⟩
            ·rw [if_neg c27] at H;exact absurd H (by simp)
           ·rw [if_neg c25] at H;have c25b0 : ((bt a0 x7_2) == 46) = false := beq_eq_false_iff_ne.mpr c25;have c25b1 : ((bt a0 x7_2) != 46) = true := bne_iff_ne.mpr c25;have H' := Aside0.mk H;clear H;have p20 : 0 ≤ (x7_2 : Int) := of_decide_eq_true (by first | (with_reducible assumption) | assumption)
            have q20 : x7_2 < (a0.size : Int) := of_decide_eq_true (by first | (with_reducible assumption) | assumption)
            have hx20 := bt_at a0 x7_2;replace p20 := eq_true p20;replace q20 := eq_true q20;go_wp2_with (first | (go_at_call 26; (with_reducible refine (flex_letter.calls (bt a0 x7_2) false _ A21.out).mono ?_); rintro e w' ⟨rfl, ⟨nd, rfl⟩⟩; have p24 : 0 ≤ (x7_2 : Int) := of_decide_eq_true (by first | (with_reducible assumption) | assumption); have q24 : x7_2 < (a0.size : Int) := of_decide_eq_true (by first | (with_reducible assumption) | assumption); have hx24 := bt_at a0 x7_2; replace p24 := eq_true p24; replace q24 := eq_true q24))
            go_meet
            case rel => exact ⟨_, (false), (by first | rfl | (simp; done) | (simp [*]; done)), H', ⟨by have := HJ2.out; have := HJ9.out; first | omega | exact Nat.le_refl _⟩, ⟨by (with_reducible repeat (first | refine blk_drewN ?_ _ | refine blk_drew ?_ | refine blk_alloc ?_ _)); exact BK148.out⟩, ⟨by repeat (first | (with_reducible first | exact HB.out | apply below_alloc | apply pw_below_drewN | apply below_drew1 | refine below_set ?_ GE148.out) | exact HB.out)⟩⟩
          ·rw [if_neg c23] at H;have c23b0 : decide ((wrap64 (x7_2 + 1)) < (a0.size : Int)) = false := decide_eq_false c23;clear c23;have H' := Aside0.mk H;clear H;have p20 : 0 ≤ (x7_2 : Int) := of_decide_eq_true (by first | (with_reducible assumption) | assumption)
           have q20 : x7_2 < (a0.size : Int) := of_decide_eq_true (by first | (with_reducible assumption) | assumption)
           have hx20 := bt_at a0 x7_2;replace p20 := eq_true p20;replace q20 := eq_true q20;go_wp2_with (first | (go_at_call 26; (with_reducible refine (flex_letter.calls (bt a0 x7_2) false _ A21.out).mono ?_); rintro e w' ⟨rfl, ⟨nd, rfl⟩⟩))
           go_meet
           case rel => exact ⟨_, (false), (by first | rfl | (simp; done) | (simp [*]; done)), H', ⟨by have := HJ2.out; have := HJ9.out; first | omega | exact Nat.le_refl _⟩, ⟨by (with_reducible repeat (first | refine blk_drewN ?_ _ | refine blk_drew ?_ | refine blk_alloc ?_ _)); exact BK148.out⟩, ⟨by repeat (first | (with_reducible first | exact HB.out | apply below_alloc | apply pw_below_drewN | apply below_drew1 | refine below_set ?_ GE148.out) | exact HB.out)⟩⟩
        ·rw [if_neg c19] at H;exact absurd H (by simp)
       ·rw [if_neg c18] at H;have c18b0 : decide (x7_2 < (a0.size : Int)) = false := decide_eq_false c18;clear c18;(first | rw [c18b0] | (simp only [i64_w, i32_w]; rw [c18b0]) | skip)
        by_cases c30 : (wrap64 (x7_2 + 1)) < (a0.size : Int)
        ·rw [if_pos c30] at H;have c30b0 : decide ((wrap64 (x7_2 + 1)) < (a0.size : Int)) = true := decide_eq_true c30;clear c30;by_cases c31 : 0 ≤ x7_2
         ·rw [if_pos c31] at H;exact absurd H (by simp)
         ·rw [if_neg c31] at H;exact absurd H (by simp)
        ·rw [if_neg c30] at H;have c30b0 : decide ((wrap64 (x7_2 + 1)) < (a0.size : Int)) = false := decide_eq_false c30;clear c30;have H' := Aside0.mk H;clear H;go_wp2;go_meet
         case rel => exact ⟨_, (false), (by first | rfl | (simp; done) | (simp [*]; done)), H', ⟨by have := HJ2.out; have := HJ9.out; first | omega | exact Nat.le_refl _⟩, ⟨by (with_reducible repeat (first | refine blk_drewN ?_ _ | refine blk_drew ?_ | refine blk_alloc ?_ _)); exact BK148.out⟩, ⟨by repeat (first | (with_reducible first | exact HB.out | apply below_alloc | apply pw_below_drewN | apply below_drew1 | refine below_set ?_ GE148.out) | exact HB.out)⟩⟩
      case rest =>
       clear HC17;try clear c1
       try clear p1
       try clear q1
       try clear hx1
       try clear c2
       try clear p2
       try clear q2
       try clear hx2
       try clear c3
       try clear c5
       try clear c5b0
       try clear c6
       try clear c6b0
       try clear p6
       try clear p7
       try clear q7
       try clear hx7
       try clear c9
       try clear c11
       try clear c11b0
       try clear c12
       try clear c12b0
       try clear p13
       try clear q13
       try clear hx13
       try clear c14
       try clear c14b0
       try clear c14b1
       try clear c15
       try clear c18
       try clear c18b0
       try clear c19
       try clear c19b0
       try clear p20
       try clear q20
       try clear hx20
       try clear c22
       try clear c23
       try clear c23b0
       try clear p24
       try clear q24
       try clear hx24
       try clear c25
       try clear c25b0
       try clear c25b1
       try clear c27
       try clear c27b0
       try clear c28
       try clear p28
       try clear q28
       try clear hx28
       try clear c30
       try clear c30b0
       try clear c31
       try clear hcz16_0
       try clear hcz16_1
       try clear hcz16_2
       try clear hcz16_3
       try clear hfz16_0
       try clear hfz16_1
       try clear hfz16_2
       try clear hfz16_3
       try clear p1
       try clear p13
       try clear p2
       try clear p20
       try clear p24
       try clear p28
       try clear p6
       try clear p7
       try clear q1
       try clear q13
       try clear q20
       try clear q24
       try clear q28
       try clear q7
       obtain ⟨kq, x65_16, rfl, HA, HJ16, BK148, HB⟩ := hcut;cases kq with
       | zero => exact absurd HA.out (by simp [flex_number.j3])
       | succ kj16 =>
        have H := HA.out;clear HA;simp only [flex_number.j3] at H;by_cases c32 : x65_16 = true
        ·subst c32;have H1 : (some (0, 0, (⟨#[]⟩ : ByteArray), 0, a1, 7)) = some (r1, r2, r3, r4, r5, r6) := by rw [if_pos rfl] at H; exact H
         clear H;have H := H1;clear H1;simp only [Option.some.injEq, Prod.mk.injEq] at H;obtain ⟨rfl, rfl, rfl, rfl, rfl, rfl⟩ := H;have hcz33_0 : wc.cell? ⟨gb148, 0, none⟩ = some (.int .i64 0) := (blk_cell BK148.out 0).trans rfl;have hcz33_1 : wc.cell? ⟨gb148, 1, none⟩ = some (.int .i64 0) := (blk_cell BK148.out 1).trans rfl;have hcz33_2 : wc.cell? ⟨gb148, 2, none⟩ = some (.string (⟨#[]⟩ : ByteArray)) := (blk_cell BK148.out 2).trans rfl;have hcz33_3 : wc.cell? ⟨gb148, 3, none⟩ = some (.int .i64 0) := (blk_cell BK148.out 3).trans rfl;have hfz33_0 := blk_frozen BK148.out 0
         have hfz33_1 := blk_frozen BK148.out 1;have hfz33_2 := blk_frozen BK148.out 2;have hfz33_3 := blk_frozen BK148.out 3;go_wp2
         refine bodyPost_ret (results_ctt rfl _ _ gb148 33 #[.int .i64 0, .int .i64 0, .string (⟨#[]⟩ : ByteArray), .int .i64 0] (0, 0) _ rfl (by (with_reducible repeat (first | refine blk_drewN ?_ _ | refine blk_drew ?_ | refine blk_alloc ?_ _)); refine blk_put (cs := #[.int .i64 0, .int .i64 0, .string (⟨#[]⟩ : ByteArray), .int .i64 0]) ?_ 3 _ rfl; (with_reducible repeat (first | refine blk_drewN ?_ _ | refine blk_drew ?_ | refine blk_alloc ?_ _)); refine blk_put (cs := #[.int .i64 0, .int .i64 0, .string (⟨#[]⟩ : ByteArray), .int .i64 0]) ?_ 2 _ rfl; (with_reducible repeat (first | refine blk_drewN ?_ _ | refine blk_drew ?_ | refine blk_alloc ?_ _)); refine blk_put (cs := #[.int .i64 0, .int .i64 0, .string (⟨#[]⟩ : ByteArray), .int .i64 0]) ?_ 1 _ rfl; (with_reducible repeat (first | refine blk_drewN ?_ _ | refine blk_drew ?_ | refine blk_alloc ?_ _)); refine blk_put (cs := #[.int .i64 0, .int .i64 0, .string (⟨#[]⟩ : ByteArray), .int .i64 0]) ?_ 0 _ rfl; (with_reducible repeat (first | refine blk_drewN ?_ _ | refine blk_drew ?_ | refine blk_alloc ?_ _)); exact BK148.out) Tryd.underlying33 rfl (by kernel_rfl)) rfl ?_
         exact ⟨by first | rfl | (simp [errW_none, errW_some] <;> rfl) | (simp [*, errW_none, errW_some] <;> rfl), by repeat (first | (with_reducible first | exact HB.out | apply below_alloc | apply pw_below_drewN | apply below_drew1 | refine below_set ?_ GE148.out) | exact HB.out)⟩
        ·replace c32 := Bool.eq_false_iff.mpr c32;subst c32;have H1 : (if 0 ≤ a1 then (if a1 ≤ x7_2 then (if x7_2 ≤ (a0.size : Int) then ((jx_Next.f kj16 (a0.extract (a1 : Int).toNat (x7_2 : Int).toNat) 0).bind fun bt152 => (if bt152.2.2.2.2.2.2.2 = 0 then (some (5, 0, (⟨#[]⟩ : ByteArray), bt152.2.2.2.2.1, x7_2, 0)) else (some (0, 0, (⟨#[]⟩ : ByteArray), 0, a1, 7)))) else (none)) else (none)) else (none)) = some (r1, r2, r3, r4, r5, r6) := by rw [if_neg (show ¬ (false = true) by decide)] at H; exact H
         clear H;have H := H1;clear H1;by_cases c34 : 0 ≤ a1
         ·rw [if_pos c34] at H;have c34b0 := eq_true c34;have c34b1 : decide (0 ≤ a1) = true := decide_eq_true c34;clear c34;by_cases c35 : a1 ≤ x7_2
          ·rw [if_pos c35] at H;have c35b0 := eq_true c35;have c35b1 : decide (a1 ≤ x7_2) = true := decide_eq_true c35;clear c35;by_cases c36 : x7_2 ≤ (a0.size : Int)
           ·rw [if_pos c36] at H;have c36b0 := eq_true c36;have c36b1 : decide (x7_2 ≤ (a0.size : Int)) = true := decide_eq_true c36;clear c36;replace H := Option.bind_eq_some_iff.mp H;obtain ⟨⟨t152, t153, t154, t155, t156, t157, t158, t159⟩, A370, H⟩ := H;replace H : (if t159 = 0 then (some (5, 0, (⟨#[]⟩ : ByteArray), t156, x7_2, 0)) else (some (0, 0, (⟨#[]⟩ : ByteArray), 0, a1, 7))) = some (r1, r2, r3, r4, r5, r6) := H
            have A37 := Aside0.mk A370;clear A370;by_cases c38 : t159 = 0
            ·rw [if_pos c38] at H;have c38b0 : (t159 == 0) = true := beq_iff_eq.mpr c38;have c38b1 : (t159 != 0) = false := bne_eq_false_iff_eq.mpr c38;clear c38;simp only [Option.some.injEq, Prod.mk.injEq] at H;obtain ⟨rfl, rfl, rfl, rfl, rfl, rfl⟩ := H
             go_wp2_with (first | ((with_reducible refine gate_callee (f := 29) rfl ?_); refine goesL_ (some 73) rfl rfl Tryd.func29 (by kernel_rfl) rfl #[.string (a0.extract (a1 : Int).toNat (x7_2 : Int).toNat), .int .i64 0] rfl (by (try simp only [List.map_toArray, List.map_cons, List.map_nil]); first | done | rfl | (simp only [List.length_drop, List.length_take]; rfl)) ?_; (with_reducible refine (jx_Next.calls kj16 (a0.extract (a1 : Int).toNat (x7_2 : Int).toNat) 0 t152 t153 t154 t155 t156 t157 t158 t159 _ A37.out).mono ?_); rintro e w39 ⟨rfl, hb⟩; refine ⟨_, rfl, ?_⟩; have n0_ := Aside0.mk (blk_below (g := gb148) (o := .cells #[.int .i64 0, .int .i64 0, .string (⟨#[]⟩ : ByteArray), .int .i64 0] 33 (0, 0)) (by (with_reducible repeat (first | refine blk_drewN ?_ _ | refine blk_drew ?_ | refine blk_alloc ?_ _)); exact BK148.out) hb); have n1_ := Aside0.mk (below_step (by repeat (first | (with_reducible first | exact HB.out | apply below_alloc | apply pw_below_drewN | apply below_drew1 | refine below_set ?_ GE148.out) | exact HB.out)) hb); clear BK148; clear HB; have BK148 := n0_; have HB := n1_; clear n0_ n1_; (try clear hb); (try clear hb2); (try clear hk); (try clear hi)) | ((with_reducible refine gate_dst (N := 8) rfl ?_); (try (refine gate_guard (by rfl) ?_; dsimp only)); refine box_event ?hg (N := 8) ?hd (cs := #[.int .i64 0, .int .i64 0, .int .i64 0, .int .u8 0, .int .i64 0, .string (⟨#[]⟩ : ByteArray)]) (t := 46) ?hr ?_; (case hd => rfl); (case hg => rfl); (case hr => first | (go_simp; done) | (go_simp; rfl)); intro gb160 hg w40 hbox hb; have n0_ := Aside0.mk (blk_below (g := gb148) (o := .cells #[.int .i64 0, .int .i64 0, .string (⟨#[]⟩ : ByteArray), .int .i64 0] 33 (0, 0)) (by (with_reducible repeat (first | refine blk_drewN ?_ _ | refine blk_drew ?_ | refine blk_alloc ?_ _)); exact BK148.out) hb); have n1_ := Aside0.mk (below_step (by repeat (first | (with_reducible first | exact HB.out | apply below_alloc | apply pw_below_drewN | apply below_drew1 | refine below_set ?_ GE148.out) | exact HB.out)) hb); have n2_ := Aside0.mk (hbox); have n3_ := Aside0.mk ((by rw [hg]; exact (below_size (by repeat (first | (with_reducible first | exact HB.out | apply below_alloc | apply pw_below_drewN | apply below_drew1 | refine below_set ?_ GE148.out) | exact HB.out))) : w.heap.size ≤ gb160)); have n4_ := Aside0.mk ((by rw [hg]; exact (below_size (by repeat (first | (with_reducible first | exact HB.out | apply below_alloc | apply pw_below_drewN | apply below_drew1 | refine below_set ?_ GE148.out) | exact HB.out))) : w.heap.size ≤ gb160)); have n5_ := Aside0.mk ((by rw [hg]; exact Nat.ne_of_lt (blk_lt (g := gb148) (o := .cells #[.int .i64 0, .int .i64 0, .string (⟨#[]⟩ : ByteArray), .int .i64 0] 33 (0, 0)) (by (with_reducible repeat (first | refine blk_drewN ?_ _ | refine blk_drew ?_ | refine blk_alloc ?_ _)); exact BK148.out)) : gb148 ≠ gb160)); have n6_ := Aside0.mk ((by rw [hg]; exact Nat.ne_of_gt (blk_lt (g := gb148) (o := .cells #[.int .i64 0, .int .i64 0, .string (⟨#[]⟩ : ByteArray), .int .i64 0] 33 (0, 0)) (by (with_reducible repeat (first | refine blk_drewN ?_ _ | refine blk_drew ?_ | refine blk_alloc ?_ _)); exact BK148.out)) : gb160 ≠ gb148)); clear BK148; clear HB; have BK148 := n0_; have HB := n1_; have BK160 := n2_; have GW160 := n3_; have GE160 := n4_; have NB148_160 := n5_; have NB160_148 := n6_; clear n0_ n1_ n2_ n3_ n4_ n5_ n6_; clear hb hbox hg; have hnb41 := NB160_148.out; have hnc41 := NB148_160.out; have hcz42_0 : w40.cell? ⟨gb160, 0, none⟩ = some (.int .i64 0) := (blk_cell BK160.out 0).trans rfl; have hcz42_1 : w40.cell? ⟨gb160, 1, none⟩ = some (.int .i64 0) := (blk_cell BK160.out 1).trans rfl; have hcz42_2 : w40.cell? ⟨gb160, 2, none⟩ = some (.int .i64 0) := (blk_cell BK160.out 2).trans rfl; have hcz42_3 : w40.cell? ⟨gb160, 3, none⟩ = some (.int .u8 0) := (blk_cell BK160.out 3).trans rfl; have hcz42_4 : w40.cell? ⟨gb160, 4, none⟩ = some (.int .i64 0) := (blk_cell BK160.out 4).trans rfl; have hcz42_5 : w40.cell? ⟨gb160, 5, none⟩ = some (.string (⟨#[]⟩ : ByteArray)) := (blk_cell BK160.out 5).trans rfl; have hfz42_0 := blk_frozen BK160.out 0; have hfz42_1 := blk_frozen BK160.out 1; have hfz42_2 := blk_frozen BK160.out 2; have hfz42_3 := blk_frozen BK160.out 3; have hfz42_4 := blk_frozen BK160.out 4; have hfz42_5 := blk_frozen BK160.out 5; have hcz43_0 : w40.cell? ⟨gb148, 0, none⟩ = some (.int .i64 0) := (blk_cell BK148.out 0).trans rfl; have hcz43_1 : w40.cell? ⟨gb148, 1, none⟩ = some (.int .i64 0) := (blk_cell BK148.out 1).trans rfl; have hcz43_2 : w40.cell? ⟨gb148, 2, none⟩ = some (.string (⟨#[]⟩ : ByteArray)) := (blk_cell BK148.out 2).trans rfl; have hcz43_3 : w40.cell? ⟨gb148, 3, none⟩ = some (.int .i64 0) := (blk_cell BK148.out 3).trans rfl; have hfz43_0 := blk_frozen BK148.out 0; have hfz43_1 := blk_frozen BK148.out 1; have hfz43_2 := blk_frozen BK148.out 2; have hfz43_3 := blk_frozen BK148.out 3))
             refine bodyPost_ret (results_ctt rfl _ _ gb148 33 #[.int .i64 5, .int .i64 0, .string (⟨#[]⟩ : ByteArray), .int .i64 t156] (0, 0) _ rfl (by (with_reducible repeat (first | refine blk_drewN ?_ _ | refine blk_drew ?_ | refine blk_alloc ?_ _)); refine blk_put (cs := #[.int .i64 5, .int .i64 0, .string (⟨#[]⟩ : ByteArray), .int .i64 0]) ?_ 3 _ rfl; (with_reducible repeat (first | refine blk_drewN ?_ _ | refine blk_drew ?_ | refine blk_alloc ?_ _)); refine blk_put (cs := #[.int .i64 5, .int .i64 0, .string (⟨#[]⟩ : ByteArray), .int .i64 0]) ?_ 2 _ rfl; (with_reducible repeat (first | refine blk_drewN ?_ _ | refine blk_drew ?_ | refine blk_alloc ?_ _)); refine blk_put (cs := #[.int .i64 5, .int .i64 0, .string (⟨#[]⟩ : ByteArray), .int .i64 0]) ?_ 1 _ rfl; (with_reducible repeat (first | refine blk_drewN ?_ _ | refine blk_drew ?_ | refine blk_alloc ?_ _)); refine blk_put (cs := #[.int .i64 0, .int .i64 0, .string (⟨#[]⟩ : ByteArray), .int .i64 0]) ?_ 0 _ rfl; (with_reducible repeat (first | refine blk_drewN ?_ _ | refine blk_drew ?_ | refine blk_alloc ?_ _)); refine blk_far ?_ NB148_160.out _; (with_reducible repeat (first | refine blk_drewN ?_ _ | refine blk_drew ?_ | refine blk_alloc ?_ _)); refine blk_far ?_ NB148_160.out _; (with_reducible repeat (first | refine blk_drewN ?_ _ | refine blk_drew ?_ | refine blk_alloc ?_ _)); refine blk_far ?_ NB148_160.out _; (with_reducible repeat (first | refine blk_drewN ?_ _ | refine blk_drew ?_ | refine blk_alloc ?_ _)); refine blk_far ?_ NB148_160.out _; (with_reducible repeat (first | refine blk_drewN ?_ _ | refine blk_drew ?_ | refine blk_alloc ?_ _)); refine blk_far ?_ NB148_160.out _; (with_reducible repeat (first | refine blk_drewN ?_ _ | refine blk_drew ?_ | refine blk_alloc ?_ _)); refine blk_far ?_ NB148_160.out _; (with_reducible repeat (first | refine blk_drewN ?_ _ | refine blk_drew ?_ | refine blk_alloc ?_ _)); exact BK148.out) Tryd.underlying33 rfl (by kernel_rfl)) rfl ?_
             exact ⟨by first | rfl | (simp [errW_none, errW_some] <;> rfl) | (simp [*, errW_none, errW_some] <;> rfl), by repeat (first | (with_reducible first | exact HB.out | apply below_alloc | apply pw_below_drewN | apply below_drew1 | refine below_set ?_ GE148.out | refine below_set ?_ GE160.out) | exact HB.out)⟩
            ·rw [if_neg c38] at H;have c38b0 : (t159 == 0) = false := beq_eq_false_iff_ne.mpr c38;have c38b1 : (t159 != 0) = true := bne_iff_ne.mpr c38;simp only [Option.some.injEq, Prod.mk.injEq] at H;obtain ⟨rfl, rfl, rfl, rfl, rfl, rfl⟩ := H
             go_wp2_with (first | ((with_reducible refine gate_callee (f := 29) rfl ?_); refine goesL_ (some 73) rfl rfl Tryd.func29 (by kernel_rfl) rfl #[.string (a0.extract (a1 : Int).toNat (x7_2 : Int).toNat), .int .i64 0] rfl (by (try simp only [List.map_toArray, List.map_cons, List.map_nil]); first | done | rfl | (simp only [List.length_drop, List.length_take]; rfl)) ?_; (with_reducible refine (jx_Next.calls kj16 (a0.extract (a1 : Int).toNat (x7_2 : Int).toNat) 0 t152 t153 t154 t155 t156 t157 t158 t159 _ A37.out).mono ?_); rintro e w44 ⟨rfl, hb⟩; refine ⟨_, rfl, ?_⟩; have n0_ := Aside0.mk (blk_below (g := gb148) (o := .cells #[.int .i64 0, .int .i64 0, .string (⟨#[]⟩ : ByteArray), .int .i64 0] 33 (0, 0)) (by (with_reducible repeat (first | refine blk_drewN ?_ _ | refine blk_drew ?_ | refine blk_alloc ?_ _)); exact BK148.out) hb); have n1_ := Aside0.mk (below_step (by repeat (first | (with_reducible first | exact HB.out | apply below_alloc | apply pw_below_drewN | apply below_drew1 | refine below_set ?_ GE148.out) | exact HB.out)) hb); clear BK148; clear HB; have BK148 := n0_; have HB := n1_; clear n0_ n1_; (try clear hb); (try clear hb2); (try clear hk); (try clear hi)) | ((with_reducible refine gate_dst (N := 8) rfl ?_); (try (refine gate_guard (by rfl) ?_; dsimp only)); refine box_event ?hg (N := 8) ?hd (cs := #[.int .i64 0, .int .i64 0, .int .i64 0, .int .u8 0, .int .i64 0, .string (⟨#[]⟩ : ByteArray)]) (t := 46) ?hr ?_; (case hd => rfl); (case hg => rfl); (case hr => first | (go_simp; done) | (go_simp; rfl)); intro gb160 hg w45 hbox hb; have n0_ := Aside0.mk (blk_below (g := gb148) (o := .cells #[.int .i64 0, .int .i64 0, .string (⟨#[]⟩ : ByteArray), .int .i64 0] 33 (0, 0)) (by (with_reducible repeat (first | refine blk_drewN ?_ _ | refine blk_drew ?_ | refine blk_alloc ?_ _)); exact BK148.out) hb); have n1_ := Aside0.mk (below_step (by repeat (first | (with_reducible first | exact HB.out | apply below_alloc | apply pw_below_drewN | apply below_drew1 | refine below_set ?_ GE148.out) | exact HB.out)) hb); have n2_ := Aside0.mk (hbox); have n3_ := Aside0.mk ((by rw [hg]; exact (below_size (by repeat (first | (with_reducible first | exact HB.out | apply below_alloc | apply pw_below_drewN | apply below_drew1 | refine below_set ?_ GE148.out) | exact HB.out))) : w.heap.size ≤ gb160)); have n4_ := Aside0.mk ((by rw [hg]; exact (below_size (by repeat (first | (with_reducible first | exact HB.out | apply below_alloc | apply pw_below_drewN | apply below_drew1 | refine below_set ?_ GE148.out) | exact HB.out))) : w.heap.size ≤ gb160)); have n5_ := Aside0.mk ((by rw [hg]; exact Nat.ne_of_lt (blk_lt (g := gb148) (o := .cells #[.int .i64 0, .int .i64 0, .string (⟨#[]⟩ : ByteArray), .int .i64 0] 33 (0, 0)) (by (with_reducible repeat (first | refine blk_drewN ?_ _ | refine blk_drew ?_ | refine blk_alloc ?_ _)); exact BK148.out)) : gb148 ≠ gb160)); have n6_ := Aside0.mk ((by rw [hg]; exact Nat.ne_of_gt (blk_lt (g := gb148) (o := .cells #[.int .i64 0, .int .i64 0, .string (⟨#[]⟩ : ByteArray), .int .i64 0] 33 (0, 0)) (by (with_reducible repeat (first | refine blk_drewN ?_ _ | refine blk_drew ?_ | refine blk_alloc ?_ _)); exact BK148.out)) : gb160 ≠ gb148)); clear BK148; clear HB; have BK148 := n0_; have HB := n1_; have BK160 := n2_; have GW160 := n3_; have GE160 := n4_; have NB148_160 := n5_; have NB160_148 := n6_; clear n0_ n1_ n2_ n3_ n4_ n5_ n6_; clear hb hbox hg; have hnb46 := NB160_148.out; have hnc46 := NB148_160.out; have hcz47_0 : w45.cell? ⟨gb160, 0, none⟩ = some (.int .i64 0) := (blk_cell BK160.out 0).trans rfl; have hcz47_1 : w45.cell? ⟨gb160, 1, none⟩ = some (.int .i64 0) := (blk_cell BK160.out 1).trans rfl; have hcz47_2 : w45.cell? ⟨gb160, 2, none⟩ = some (.int .i64 0) := (blk_cell BK160.out 2).trans rfl; have hcz47_3 : w45.cell? ⟨gb160, 3, none⟩ = some (.int .u8 0) := (blk_cell BK160.out 3).trans rfl; have hcz47_4 : w45.cell? ⟨gb160, 4, none⟩ = some (.int .i64 0) := (blk_cell BK160.out 4).trans rfl; have hcz47_5 : w45.cell? ⟨gb160, 5, none⟩ = some (.string (⟨#[]⟩ : ByteArray)) := (blk_cell BK160.out 5).trans rfl; have hfz47_0 := blk_frozen BK160.out 0; have hfz47_1 := blk_frozen BK160.out 1; have hfz47_2 := blk_frozen BK160.out 2; have hfz47_3 := blk_frozen BK160.out 3; have hfz47_4 := blk_frozen BK160.out 4; have hfz47_5 := blk_frozen BK160.out 5; have hcz48_0 : w45.cell? ⟨gb148, 0, none⟩ = some (.int .i64 0) := (blk_cell BK148.out 0).trans rfl; have hcz48_1 : w45.cell? ⟨gb148, 1, none⟩ = some (.int .i64 0) := (blk_cell BK148.out 1).trans rfl; have hcz48_2 : w45.cell? ⟨gb148, 2, none⟩ = some (.string (⟨#[]⟩ : ByteArray)) := (blk_cell BK148.out 2).trans rfl; have hcz48_3 : w45.cell? ⟨gb148, 3, none⟩ = some (.int .i64 0) := (blk_cell BK148.out 3).trans rfl; have hfz48_0 := blk_frozen BK148.out 0; have hfz48_1 := blk_frozen BK148.out 1; have hfz48_2 := blk_frozen BK148.out 2; have hfz48_3 := blk_frozen BK148.out 3))
             refine bodyPost_ret (results_ctt rfl _ _ gb148 33 #[.int .i64 0, .int .i64 0, .string (⟨#[]⟩ : ByteArray), .int .i64 0] (0, 0) _ rfl (by (with_reducible repeat (first | refine blk_drewN ?_ _ | refine blk_drew ?_ | refine blk_alloc ?_ _)); refine blk_put (cs := #[.int .i64 0, .int .i64 0, .string (⟨#[]⟩ : ByteArray), .int .i64 0]) ?_ 3 _ rfl; (with_reducible repeat (first | refine blk_drewN ?_ _ | refine blk_drew ?_ | refine blk_alloc ?_ _)); refine blk_put (cs := #[.int .i64 0, .int .i64 0, .string (⟨#[]⟩ : ByteArray), .int .i64 0]) ?_ 2 _ rfl; (with_reducible repeat (first | refine blk_drewN ?_ _ | refine blk_drew ?_ | refine blk_alloc ?_ _)); refine blk_put (cs := #[.int .i64 0, .int .i64 0, .string (⟨#[]⟩ : ByteArray), .int .i64 0]) ?_ 1 _ rfl; (with_reducible repeat (first | refine blk_drewN ?_ _ | refine blk_drew ?_ | refine blk_alloc ?_ _)); refine blk_put (cs := #[.int .i64 0, .int .i64 0, .string (⟨#[]⟩ : ByteArray), .int .i64 0]) ?_ 0 _ rfl; (with_reducible repeat (first | refine blk_drewN ?_ _ | refine blk_drew ?_ | refine blk_alloc ?_ _)); refine blk_far ?_ NB148_160.out _; (with_reducible repeat (first | refine blk_drewN ?_ _ | refine blk_drew ?_ | refine blk_alloc ?_ _)); refine blk_far ?_ NB148_160.out _; (with_reducible repeat (first | refine blk_drewN ?_ _ | refine blk_drew ?_ | refine blk_alloc ?_ _)); refine blk_far ?_ NB148_160.out _; (with_reducible repeat (first | refine blk_drewN ?_ _ | refine blk_drew ?_ | refine blk_alloc ?_ _)); refine blk_far ?_ NB148_160.out _; (with_reducible repeat (first | refine blk_drewN ?_ _ | refine blk_drew ?_ | refine blk_alloc ?_ _)); refine blk_far ?_ NB148_160.out _; (with_reducible repeat (first | refine blk_drewN ?_ _ | refine blk_drew ?_ | refine blk_alloc ?_ _)); refine blk_far ?_ NB148_160.out _; (with_reducible repeat (first | refine blk_drewN ?_ _ | refine blk_drew ?_ | refine blk_alloc ?_ _)); exact BK148.out) Tryd.underlying33 rfl (by kernel_rfl)) rfl ?_
             exact ⟨by first | rfl | (simp [errW_none, errW_some] <;> rfl) | (simp [*, errW_none, errW_some] <;> rfl), by repeat (first | (with_reducible first | exact HB.out | apply below_alloc | apply pw_below_drewN | apply below_drew1 | refine below_set ?_ GE148.out | refine below_set ?_ GE160.out) | exact HB.out)⟩
           ·rw [if_neg c36] at H;exact absurd H (by simp)
          ·rw [if_neg c35] at H;exact absurd H (by simp)
         ·rw [if_neg c34] at H;exact absurd H (by simp)
-- NOT PRINTED: function 55 (strings_FieldsFunc)
-- NOT PRINTED: function 68 (unicode_is16)
-- NOT PRINTED: function 69 (unicode_is32)
-- NOT PRINTED: function 64 (unicode_isExcludingLatin)
-- NOT PRINTED: function 56 (unicode_IsSpace)
-- NOT PRINTED: function 43 (strings_Fields)
end Go.Proofs.YtdhdpidjdadamaaDoor.PX
