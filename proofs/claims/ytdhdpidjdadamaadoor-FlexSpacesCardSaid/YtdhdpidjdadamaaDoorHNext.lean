/- jsonlex.Next, where a string or digits begin (nothing is said elsewhere): its token, its end, its error; nothing that was there is written. -/
import Derived.Test.YtdhdpidjdadamaaDoorPx8
import Derived.Test.YtdhdpidjdadamaaDoorPx4
import Derived.StillTailTactics
namespace Go.Proofs.YtdhdpidjdadamaaDoor.PX
open Go.RowKit Go.Proofs.YtdhdpidjdadamaaDoorW.PrintWords Go.Proofs.YtdhdpidjdadamaaDoorW.PrintLast Go.Proofs.YtdhdpidjdadamaaDoorW.PrintMore
set_option linter.unusedVariables false
set_option linter.unusedSimpArgs false
def jx_Next.f (k : Nat) (a0 : ByteArray) (a1 : Int) : Option (Int × Int × Int × Int × Int × ByteArray × Int × Int) :=
 if a1 < 0 then none else if (a0.size : Int) < a1 then none else (jx_Skip.f k a0 a1).bind fun t =>
  if t < 0 then none else if (a0.size : Int) ≤ t then none
  else if bt a0 t = 34 then (jx_text.f k a0 t).bind fun u => if u.2.2 = 0 then some (4, t, u.2.1, 0, 0, u.1, u.2.1, 0) else some (0, 0, 0, 0, 0, (⟨#[]⟩ : ByteArray), u.2.1, u.2.2)
  else if 48 ≤ bt a0 t ∧ bt a0 t ≤ 57 then (jx_number.f k a0 t).bind fun u => if u.2.2 = 0 then some (3, t, u.2.1, 0, u.1, (⟨#[]⟩ : ByteArray), u.2.1, 0) else some (0, 0, 0, 0, 0, (⟨#[]⟩ : ByteArray), u.2.1, u.2.2)
  else none
theorem jx_Next.mono : ∀ a0 a1 k, LeO (jx_Next.f k a0 a1) (jx_Next.f (k + 1) a0 a1) := by
 intro a0 a1 k;unfold jx_Next.f;repeat' first
  | (with_reducible exact jx_Skip.mono _ _ _)
  | (with_reducible exact jx_text.mono _ _ _)
  | (with_reducible exact jx_number.mono _ _ _)
  | (with_reducible exact LeO.refl _)
  | (with_reducible exact LeO.none _)
  | refine LeO.ite ?_ ?_
  | refine LeO.bind ?_ (fun _ => ?_)
theorem next_digit_f (c : Int) : jx_digit.f c = some (decide (48 ≤ c ∧ c ≤ 57)) := by
 unfold jx_digit.f;split
 ·congr 1; rw [Bool.eq_iff_iff, decide_eq_true_iff, decide_eq_true_iff]; omega
 ·congr 1; rw [eq_comm, decide_eq_false_iff_not]; omega
set_option maxHeartbeats 4000000 in
set_option maxRecDepth 100000 in
theorem next_string (k : Nat) (a0 : ByteArray) (a1 t : Int) (x : ByteArray) (y z : Int) (w : World) (h0 : 0 ≤ a1) (h1 : a1 ≤ a0.size) (hS : jx_Skip.f k a0 a1 = some t) (ht0 : 0 ≤ t) (ht1 : t < a0.size) (hc : bt a0 t = 34) (hT : jx_text.f k a0 t = some (x, y, z)) (hz : z = 0) :
 Calls Tryd.prog 29 #[.string a0, .int .i64 a1] w fun e w' => e = .returned (.tuple #[.agg #[.int .i64 4, .int .i64 t, .int .i64 y, .int .u8 0, .int .i64 0, .string x], .int .i64 y, .int .i64 0]) ∧ Below w.heap.size w w' := by
 have HU := Tryd.underlying46;have AS := Aside0.mk hS;have f0 : decide (a1 < 0) = false := decide_eq_false (by omega)
 have f1 : decide ((a0.size : Int) < a1) = false := decide_eq_false (by omega)
 have f2 : (t == (a0.size : Int)) = false := beq_eq_false_iff_ne.mpr (by omega)
 have p4 : (0 ≤ t) = True := eq_true (by omega)
 have q4 : (t < (a0.size : Int)) = True := eq_true (by omega)
 have hx4 : ∀ h : t.toNat < a0.size, ((a0[t.toNat]'h).toNat : Int) = bt a0 t := bt_at a0 t;have e91 : ((bt a0 t) == 91) = false := beq_eq_false_iff_ne.mpr (by omega)
 have e93 : ((bt a0 t) == 93) = false := beq_eq_false_iff_ne.mpr (by omega)
 have e123 : ((bt a0 t) == 123) = false := beq_eq_false_iff_ne.mpr (by omega)
 have e125 : ((bt a0 t) == 125) = false := beq_eq_false_iff_ne.mpr (by omega)
 have e44 : ((bt a0 t) == 44) = false := beq_eq_false_iff_ne.mpr (by omega)
 have e58 : ((bt a0 t) == 58) = false := beq_eq_false_iff_ne.mpr (by omega)
 have e45 : ((bt a0 t) == 45) = false := beq_eq_false_iff_ne.mpr (by omega)
 have e34 : ((bt a0 t) == 34) = true := beq_iff_eq.mpr hc;have e97 : decide (97 ≤ (bt a0 t)) = false := decide_eq_false (by omega)
 have AD := Aside0.mk (show jx_digit.f (bt a0 t) = some false by rw [next_digit_f, decide_eq_false (by omega)])
 have AT := Aside0.mk hT;have z0 : (z == 0) = true := beq_iff_eq.mpr hz;have z1 : (z != 0) = false := bne_eq_false_iff_eq.mpr hz;clear h0 h1 hS ht0 ht1 hc hT hz;go_enter Tryd.func29, Tryd.ntmps29
 go_wp2_with (first | (go_at_call 25; (with_reducible refine (jx_Skip.calls k a0 a1 t _ AS.out).mono ?_); rintro e w' ⟨rfl, ⟨nd, rfl⟩⟩) | (go_at_call 40; (with_reducible refine (jx_digit.calls (bt a0 t) false _ AD.out).mono ?_); rintro e w' ⟨rfl, ⟨nd2, rfl⟩⟩) | (go_at_call 42; (with_reducible refine (jx_text.calls k a0 t x y z _ AT.out).mono ?_); rintro e w2 ⟨rfl, hb⟩; have B7 := Aside0.mk (show w2.heap[w.heap.size + 1]? = some (.cells #[.int .i64 4, .int .i64 t, .int .i64 0, .int .u8 0, .int .i64 0, .string ⟨#[]⟩] 46 (0, 0)) from blk_below (blk_put (blk_drewN (by simpa using blk_new ((w.alloc (.cells #[.int .i64 0, .int .i64 0, .int .i64 0, .int .u8 0, .int .i64 0, .string ⟨#[]⟩] 46)).drewN nd) (.cells #[.int .i64 0, .int .i64 t, .int .i64 0, .int .u8 0, .int .i64 0, .string ⟨#[]⟩] 46)) nd2) 0 _ rfl) hb); have B4 := Aside0.mk (show w2.heap[w.heap.size]? = some (.cells #[.int .i64 0, .int .i64 0, .int .i64 0, .int .u8 0, .int .i64 0, .string ⟨#[]⟩] 46 (0, 0)) from blk_below (blk_far (blk_drewN (blk_alloc (blk_drewN (blk_new w _) nd) _) nd2) (by simp) _) hb); have HB := Aside0.mk (show Below w.heap.size w w2 from ((((((Below.refl w.heap.size w).alloc (Nat.le_refl _) _).trans (Below.mono (Drawn0.below ⟨⟨nd, rfl⟩⟩) (by simp))).alloc (by simp) _).trans (Below.mono (Drawn0.below ⟨⟨nd2, rfl⟩⟩) (by simp; omega))).setCell (by simp) _).trans (hb.mono (by simp; omega))); clear hb; have c70 := (blk_cell B7.out 0).trans rfl; have c72 := (blk_cell B7.out 2).trans rfl; have c7f := (blk_cell B7.out 5).trans rfl; have z72 := blk_frozen B7.out 2; have z7f := blk_frozen B7.out 5))
 have N7 := Aside0.mk (blk_put (blk_put B7.out 5 (.string x) rfl) 2 (.int .i64 y) rfl);have N4 := Aside0.mk (blk_far (blk_far B4.out (p := ⟨w.heap.size + 1, 5, none⟩) (by simp) (.string x)) (p := ⟨w.heap.size + 1, 2, none⟩) (by simp) (.int .i64 y))
 have NB := Aside0.mk ((HB.out.setCell (p := ⟨w.heap.size + 1, 5, none⟩) (by simp) (.string x)).setCell (p := ⟨w.heap.size + 1, 2, none⟩) (by simp) (.int .i64 y))
 clear B7 B4 HB c70 c72 c7f z72 z7f;generalize (w2.setCell ⟨w.heap.size + 1, 5, none⟩ (.string x)).setCell ⟨w.heap.size + 1, 2, none⟩ (.int .i64 y) = w3 at N7 N4 NB ⊢;have c0 := (blk_cell N7.out 0).trans rfl;have c1 := (blk_cell N7.out 1).trans rfl;have c2 := (blk_cell N7.out 2).trans rfl;have c3 := (blk_cell N7.out 3).trans rfl;have c4 := (blk_cell N7.out 4).trans rfl;have c5 := (blk_cell N7.out 5).trans rfl;have k0 := (blk_cell N4.out 0).trans rfl;have k1 := (blk_cell N4.out 1).trans rfl;have k2 := (blk_cell N4.out 2).trans rfl;have k3 := (blk_cell N4.out 3).trans rfl
 have k4 := (blk_cell N4.out 4).trans rfl;have k5 := (blk_cell N4.out 5).trans rfl;have y0 := blk_frozen N4.out 0;have y1 := blk_frozen N4.out 1;have y2 := blk_frozen N4.out 2;have y3 := blk_frozen N4.out 3;have y4 := blk_frozen N4.out 4;have y5 := blk_frozen N4.out 5;go_region
 go_wp2;refine bodyPost_ret (results_ctt rfl _ _ w.heap.size 46 #[.int .i64 4, .int .i64 t, .int .i64 y, .int .u8 0, .int .i64 0, .string x] (0, 0) _ rfl (blk_drew (blk_put (blk_put (blk_put (blk_put (blk_put (blk_put N4.out 0 (.int .i64 4) rfl) 1 (.int .i64 t) rfl) 2 (.int .i64 y) rfl) 3 (.int .u8 0) rfl) 4 (.int .i64 0) rfl) 5 (.string x) rfl)) Tryd.underlying46 rfl (by kernel_rfl)) rfl ?_
 exact ⟨rfl, below_drew1 ((((((NB.out.setCell (by simp) _).setCell (by simp) _).setCell (by simp) _).setCell (by simp) _).setCell (by simp) _).setCell (by simp) _)⟩
set_option maxHeartbeats 4000000 in
set_option maxRecDepth 100000 in
theorem next_string_err (k : Nat) (a0 : ByteArray) (a1 t : Int) (x : ByteArray) (y z : Int) (w : World) (h0 : 0 ≤ a1) (h1 : a1 ≤ a0.size) (hS : jx_Skip.f k a0 a1 = some t) (ht0 : 0 ≤ t) (ht1 : t < a0.size) (hc : bt a0 t = 34) (hT : jx_text.f k a0 t = some (x, y, z)) (hz : z ≠ 0) :
 Calls Tryd.prog 29 #[.string a0, .int .i64 a1] w fun e w' => e = .returned (.tuple #[.agg #[.int .i64 0, .int .i64 0, .int .i64 0, .int .u8 0, .int .i64 0, .string ⟨#[]⟩], .int .i64 y, .int .i64 z]) ∧ Below w.heap.size w w' := by
 have HU := Tryd.underlying46;have AS := Aside0.mk hS;have f0 : decide (a1 < 0) = false := decide_eq_false (by omega)
 have f1 : decide ((a0.size : Int) < a1) = false := decide_eq_false (by omega)
 have f2 : (t == (a0.size : Int)) = false := beq_eq_false_iff_ne.mpr (by omega)
 have p4 : (0 ≤ t) = True := eq_true (by omega)
 have q4 : (t < (a0.size : Int)) = True := eq_true (by omega)
 have hx4 : ∀ h : t.toNat < a0.size, ((a0[t.toNat]'h).toNat : Int) = bt a0 t := bt_at a0 t;have e91 : ((bt a0 t) == 91) = false := beq_eq_false_iff_ne.mpr (by omega)
 have e93 : ((bt a0 t) == 93) = false := beq_eq_false_iff_ne.mpr (by omega)
 have e123 : ((bt a0 t) == 123) = false := beq_eq_false_iff_ne.mpr (by omega)
 have e125 : ((bt a0 t) == 125) = false := beq_eq_false_iff_ne.mpr (by omega)
 have e44 : ((bt a0 t) == 44) = false := beq_eq_false_iff_ne.mpr (by omega)
 have e58 : ((bt a0 t) == 58) = false := beq_eq_false_iff_ne.mpr (by omega)
 have e45 : ((bt a0 t) == 45) = false := beq_eq_false_iff_ne.mpr (by omega)
 have e34 : ((bt a0 t) == 34) = true := beq_iff_eq.mpr hc;have e97 : decide (97 ≤ (bt a0 t)) = false := decide_eq_false (by omega)
 have AD := Aside0.mk (show jx_digit.f (bt a0 t) = some false by rw [next_digit_f, decide_eq_false (by omega)])
 have AT := Aside0.mk hT;have z0 : (z == 0) = false := beq_eq_false_iff_ne.mpr hz;have z1 : (z != 0) = true := bne_iff_ne.mpr hz;clear h0 h1 hS ht0 ht1 hc hT hz;go_enter Tryd.func29, Tryd.ntmps29
 go_wp2_with (first | (go_at_call 25; (with_reducible refine (jx_Skip.calls k a0 a1 t _ AS.out).mono ?_); rintro e w' ⟨rfl, ⟨nd, rfl⟩⟩) | (go_at_call 40; (with_reducible refine (jx_digit.calls (bt a0 t) false _ AD.out).mono ?_); rintro e w' ⟨rfl, ⟨nd2, rfl⟩⟩) | (go_at_call 42; (with_reducible refine (jx_text.calls k a0 t x y z _ AT.out).mono ?_); rintro e w2 ⟨rfl, hb⟩; have B7 := Aside0.mk (show w2.heap[w.heap.size + 1]? = some (.cells #[.int .i64 4, .int .i64 t, .int .i64 0, .int .u8 0, .int .i64 0, .string ⟨#[]⟩] 46 (0, 0)) from blk_below (blk_put (blk_drewN (by simpa using blk_new ((w.alloc (.cells #[.int .i64 0, .int .i64 0, .int .i64 0, .int .u8 0, .int .i64 0, .string ⟨#[]⟩] 46)).drewN nd) (.cells #[.int .i64 0, .int .i64 t, .int .i64 0, .int .u8 0, .int .i64 0, .string ⟨#[]⟩] 46)) nd2) 0 _ rfl) hb); have B4 := Aside0.mk (show w2.heap[w.heap.size]? = some (.cells #[.int .i64 0, .int .i64 0, .int .i64 0, .int .u8 0, .int .i64 0, .string ⟨#[]⟩] 46 (0, 0)) from blk_below (blk_far (blk_drewN (blk_alloc (blk_drewN (blk_new w _) nd) _) nd2) (by simp) _) hb); have HB := Aside0.mk (show Below w.heap.size w w2 from ((((((Below.refl w.heap.size w).alloc (Nat.le_refl _) _).trans (Below.mono (Drawn0.below ⟨⟨nd, rfl⟩⟩) (by simp))).alloc (by simp) _).trans (Below.mono (Drawn0.below ⟨⟨nd2, rfl⟩⟩) (by simp; omega))).setCell (by simp) _).trans (hb.mono (by simp; omega))); clear hb; have c70 := (blk_cell B7.out 0).trans rfl; have c72 := (blk_cell B7.out 2).trans rfl; have c7f := (blk_cell B7.out 5).trans rfl; have z72 := blk_frozen B7.out 2; have z7f := blk_frozen B7.out 5))
 have N7 := Aside0.mk (blk_put (blk_put B7.out 5 (.string x) rfl) 2 (.int .i64 y) rfl);have N4 := Aside0.mk (blk_far (blk_far B4.out (p := ⟨w.heap.size + 1, 5, none⟩) (by simp) (.string x)) (p := ⟨w.heap.size + 1, 2, none⟩) (by simp) (.int .i64 y))
 have NB := Aside0.mk ((HB.out.setCell (p := ⟨w.heap.size + 1, 5, none⟩) (by simp) (.string x)).setCell (p := ⟨w.heap.size + 1, 2, none⟩) (by simp) (.int .i64 y))
 clear B7 B4 HB c70 c72 c7f z72 z7f;generalize (w2.setCell ⟨w.heap.size + 1, 5, none⟩ (.string x)).setCell ⟨w.heap.size + 1, 2, none⟩ (.int .i64 y) = w3 at N7 N4 NB ⊢;have c0 := (blk_cell N7.out 0).trans rfl;have c1 := (blk_cell N7.out 1).trans rfl;have c2 := (blk_cell N7.out 2).trans rfl;have c3 := (blk_cell N7.out 3).trans rfl;have c4 := (blk_cell N7.out 4).trans rfl;have c5 := (blk_cell N7.out 5).trans rfl;have k0 := (blk_cell N4.out 0).trans rfl;have k1 := (blk_cell N4.out 1).trans rfl;have k2 := (blk_cell N4.out 2).trans rfl;have k3 := (blk_cell N4.out 3).trans rfl
 have k4 := (blk_cell N4.out 4).trans rfl;have k5 := (blk_cell N4.out 5).trans rfl;have y0 := blk_frozen N4.out 0;have y1 := blk_frozen N4.out 1;have y2 := blk_frozen N4.out 2;have y3 := blk_frozen N4.out 3;have y4 := blk_frozen N4.out 4;have y5 := blk_frozen N4.out 5;go_region
 go_wp2;refine bodyPost_ret (results_ctt rfl _ _ w.heap.size 46 #[.int .i64 0, .int .i64 0, .int .i64 0, .int .u8 0, .int .i64 0, .string ⟨#[]⟩] (0, 0) _ rfl (blk_drew (blk_put (blk_put (blk_put (blk_put (blk_put (blk_put N4.out 0 (.int .i64 0) rfl) 1 (.int .i64 0) rfl) 2 (.int .i64 0) rfl) 3 (.int .u8 0) rfl) 4 (.int .i64 0) rfl) 5 (.string ⟨#[]⟩) rfl)) Tryd.underlying46 rfl (by kernel_rfl)) rfl ?_
 exact ⟨rfl, below_drew1 ((((((NB.out.setCell (by simp) _).setCell (by simp) _).setCell (by simp) _).setCell (by simp) _).setCell (by simp) _).setCell (by simp) _)⟩
set_option maxHeartbeats 4000000 in
set_option maxRecDepth 100000 in
theorem next_number (k : Nat) (a0 : ByteArray) (a1 t : Int) (x : Int) (y z : Int) (w : World) (h0 : 0 ≤ a1) (h1 : a1 ≤ a0.size) (hS : jx_Skip.f k a0 a1 = some t) (ht0 : 0 ≤ t) (ht1 : t < a0.size) (hc : 48 ≤ bt a0 t ∧ bt a0 t ≤ 57) (hT : jx_number.f k a0 t = some (x, y, z)) (hz : z = 0) :
 Calls Tryd.prog 29 #[.string a0, .int .i64 a1] w fun e w' => e = .returned (.tuple #[.agg #[.int .i64 3, .int .i64 t, .int .i64 y, .int .u8 0, .int .i64 x, .string ⟨#[]⟩], .int .i64 y, .int .i64 0]) ∧ Below w.heap.size w w' := by
 have HU := Tryd.underlying46;have AS := Aside0.mk hS;have f0 : decide (a1 < 0) = false := decide_eq_false (by omega)
 have f1 : decide ((a0.size : Int) < a1) = false := decide_eq_false (by omega)
 have f2 : (t == (a0.size : Int)) = false := beq_eq_false_iff_ne.mpr (by omega)
 have p4 : (0 ≤ t) = True := eq_true (by omega)
 have q4 : (t < (a0.size : Int)) = True := eq_true (by omega)
 have hx4 : ∀ h : t.toNat < a0.size, ((a0[t.toNat]'h).toNat : Int) = bt a0 t := bt_at a0 t;have e91 : ((bt a0 t) == 91) = false := beq_eq_false_iff_ne.mpr (by omega)
 have e93 : ((bt a0 t) == 93) = false := beq_eq_false_iff_ne.mpr (by omega)
 have e123 : ((bt a0 t) == 123) = false := beq_eq_false_iff_ne.mpr (by omega)
 have e125 : ((bt a0 t) == 125) = false := beq_eq_false_iff_ne.mpr (by omega)
 have e44 : ((bt a0 t) == 44) = false := beq_eq_false_iff_ne.mpr (by omega)
 have e58 : ((bt a0 t) == 58) = false := beq_eq_false_iff_ne.mpr (by omega)
 have e45 : ((bt a0 t) == 45) = false := beq_eq_false_iff_ne.mpr (by omega)
 have e97 : decide (97 ≤ (bt a0 t)) = false := decide_eq_false (by omega)
 have AD := Aside0.mk (show jx_digit.f (bt a0 t) = some true by rw [next_digit_f, decide_eq_true (by omega)])
 have AT := Aside0.mk hT;have z0 : (z == 0) = true := beq_iff_eq.mpr hz;have z1 : (z != 0) = false := bne_eq_false_iff_eq.mpr hz;clear h0 h1 hS ht0 ht1 hc hT hz;go_enter Tryd.func29, Tryd.ntmps29
 go_wp2_with (first | (go_at_call 25; (with_reducible refine (jx_Skip.calls k a0 a1 t _ AS.out).mono ?_); rintro e w' ⟨rfl, ⟨nd, rfl⟩⟩) | (go_at_call 40; (with_reducible refine (jx_digit.calls (bt a0 t) true _ AD.out).mono ?_); rintro e w' ⟨rfl, ⟨nd2, rfl⟩⟩) | (go_at_call 41; (with_reducible refine (jx_number.calls k a0 t x y z _ AT.out).mono ?_); rintro e w2 ⟨rfl, hd⟩; have hb := hd.below; have B7 := Aside0.mk (show w2.heap[w.heap.size + 1]? = some (.cells #[.int .i64 3, .int .i64 t, .int .i64 0, .int .u8 0, .int .i64 0, .string ⟨#[]⟩] 46 (0, 0)) from blk_below (blk_put (blk_drewN (by simpa using blk_new ((w.alloc (.cells #[.int .i64 0, .int .i64 0, .int .i64 0, .int .u8 0, .int .i64 0, .string ⟨#[]⟩] 46)).drewN nd) (.cells #[.int .i64 0, .int .i64 t, .int .i64 0, .int .u8 0, .int .i64 0, .string ⟨#[]⟩] 46)) nd2) 0 _ rfl) hb); have B4 := Aside0.mk (show w2.heap[w.heap.size]? = some (.cells #[.int .i64 0, .int .i64 0, .int .i64 0, .int .u8 0, .int .i64 0, .string ⟨#[]⟩] 46 (0, 0)) from blk_below (blk_far (blk_drewN (blk_alloc (blk_drewN (blk_new w _) nd) _) nd2) (by simp) _) hb); have HB := Aside0.mk (show Below w.heap.size w w2 from ((((((Below.refl w.heap.size w).alloc (Nat.le_refl _) _).trans (Below.mono (Drawn0.below ⟨⟨nd, rfl⟩⟩) (by simp))).alloc (by simp) _).trans (Below.mono (Drawn0.below ⟨⟨nd2, rfl⟩⟩) (by simp; omega))).setCell (by simp) _).trans (hb.mono (by simp; omega))); clear hb; have c70 := (blk_cell B7.out 0).trans rfl; have c72 := (blk_cell B7.out 2).trans rfl; have c7f := (blk_cell B7.out 4).trans rfl; have z72 := blk_frozen B7.out 2; have z7f := blk_frozen B7.out 4))
 have N7 := Aside0.mk (blk_put (blk_put B7.out 4 (.int .i64 x) rfl) 2 (.int .i64 y) rfl);have N4 := Aside0.mk (blk_far (blk_far B4.out (p := ⟨w.heap.size + 1, 4, none⟩) (by simp) (.int .i64 x)) (p := ⟨w.heap.size + 1, 2, none⟩) (by simp) (.int .i64 y))
 have NB := Aside0.mk ((HB.out.setCell (p := ⟨w.heap.size + 1, 4, none⟩) (by simp) (.int .i64 x)).setCell (p := ⟨w.heap.size + 1, 2, none⟩) (by simp) (.int .i64 y))
 clear B7 B4 HB c70 c72 c7f z72 z7f;generalize (w2.setCell ⟨w.heap.size + 1, 4, none⟩ (.int .i64 x)).setCell ⟨w.heap.size + 1, 2, none⟩ (.int .i64 y) = w3 at N7 N4 NB ⊢;have c0 := (blk_cell N7.out 0).trans rfl;have c1 := (blk_cell N7.out 1).trans rfl;have c2 := (blk_cell N7.out 2).trans rfl;have c3 := (blk_cell N7.out 3).trans rfl;have c4 := (blk_cell N7.out 4).trans rfl;have c5 := (blk_cell N7.out 5).trans rfl;have k0 := (blk_cell N4.out 0).trans rfl;have k1 := (blk_cell N4.out 1).trans rfl;have k2 := (blk_cell N4.out 2).trans rfl;have k3 := (blk_cell N4.out 3).trans rfl
 have k4 := (blk_cell N4.out 4).trans rfl;have k5 := (blk_cell N4.out 5).trans rfl;have y0 := blk_frozen N4.out 0;have y1 := blk_frozen N4.out 1;have y2 := blk_frozen N4.out 2;have y3 := blk_frozen N4.out 3;have y4 := blk_frozen N4.out 4;have y5 := blk_frozen N4.out 5;go_region
 go_wp2;refine bodyPost_ret (results_ctt rfl _ _ w.heap.size 46 #[.int .i64 3, .int .i64 t, .int .i64 y, .int .u8 0, .int .i64 x, .string ⟨#[]⟩] (0, 0) _ rfl (blk_drew (blk_put (blk_put (blk_put (blk_put (blk_put (blk_put N4.out 0 (.int .i64 3) rfl) 1 (.int .i64 t) rfl) 2 (.int .i64 y) rfl) 3 (.int .u8 0) rfl) 4 (.int .i64 x) rfl) 5 (.string ⟨#[]⟩) rfl)) Tryd.underlying46 rfl (by kernel_rfl)) rfl ?_
 exact ⟨rfl, below_drew1 ((((((NB.out.setCell (by simp) _).setCell (by simp) _).setCell (by simp) _).setCell (by simp) _).setCell (by simp) _).setCell (by simp) _)⟩
set_option maxHeartbeats 4000000 in
set_option maxRecDepth 100000 in
theorem next_number_err (k : Nat) (a0 : ByteArray) (a1 t : Int) (x : Int) (y z : Int) (w : World) (h0 : 0 ≤ a1) (h1 : a1 ≤ a0.size) (hS : jx_Skip.f k a0 a1 = some t) (ht0 : 0 ≤ t) (ht1 : t < a0.size) (hc : 48 ≤ bt a0 t ∧ bt a0 t ≤ 57) (hT : jx_number.f k a0 t = some (x, y, z)) (hz : z ≠ 0) :
 Calls Tryd.prog 29 #[.string a0, .int .i64 a1] w fun e w' => e = .returned (.tuple #[.agg #[.int .i64 0, .int .i64 0, .int .i64 0, .int .u8 0, .int .i64 0, .string ⟨#[]⟩], .int .i64 y, .int .i64 z]) ∧ Below w.heap.size w w' := by
 have HU := Tryd.underlying46;have AS := Aside0.mk hS;have f0 : decide (a1 < 0) = false := decide_eq_false (by omega)
 have f1 : decide ((a0.size : Int) < a1) = false := decide_eq_false (by omega)
 have f2 : (t == (a0.size : Int)) = false := beq_eq_false_iff_ne.mpr (by omega)
 have p4 : (0 ≤ t) = True := eq_true (by omega)
 have q4 : (t < (a0.size : Int)) = True := eq_true (by omega)
 have hx4 : ∀ h : t.toNat < a0.size, ((a0[t.toNat]'h).toNat : Int) = bt a0 t := bt_at a0 t;have e91 : ((bt a0 t) == 91) = false := beq_eq_false_iff_ne.mpr (by omega)
 have e93 : ((bt a0 t) == 93) = false := beq_eq_false_iff_ne.mpr (by omega)
 have e123 : ((bt a0 t) == 123) = false := beq_eq_false_iff_ne.mpr (by omega)
 have e125 : ((bt a0 t) == 125) = false := beq_eq_false_iff_ne.mpr (by omega)
 have e44 : ((bt a0 t) == 44) = false := beq_eq_false_iff_ne.mpr (by omega)
 have e58 : ((bt a0 t) == 58) = false := beq_eq_false_iff_ne.mpr (by omega)
 have e45 : ((bt a0 t) == 45) = false := beq_eq_false_iff_ne.mpr (by omega)
 have e97 : decide (97 ≤ (bt a0 t)) = false := decide_eq_false (by omega)
 have AD := Aside0.mk (show jx_digit.f (bt a0 t) = some true by rw [next_digit_f, decide_eq_true (by omega)])
 have AT := Aside0.mk hT;have z0 : (z == 0) = false := beq_eq_false_iff_ne.mpr hz;have z1 : (z != 0) = true := bne_iff_ne.mpr hz;clear h0 h1 hS ht0 ht1 hc hT hz;go_enter Tryd.func29, Tryd.ntmps29
 go_wp2_with (first | (go_at_call 25; (with_reducible refine (jx_Skip.calls k a0 a1 t _ AS.out).mono ?_); rintro e w' ⟨rfl, ⟨nd, rfl⟩⟩) | (go_at_call 40; (with_reducible refine (jx_digit.calls (bt a0 t) true _ AD.out).mono ?_); rintro e w' ⟨rfl, ⟨nd2, rfl⟩⟩) | (go_at_call 41; (with_reducible refine (jx_number.calls k a0 t x y z _ AT.out).mono ?_); rintro e w2 ⟨rfl, hd⟩; have hb := hd.below; have B7 := Aside0.mk (show w2.heap[w.heap.size + 1]? = some (.cells #[.int .i64 3, .int .i64 t, .int .i64 0, .int .u8 0, .int .i64 0, .string ⟨#[]⟩] 46 (0, 0)) from blk_below (blk_put (blk_drewN (by simpa using blk_new ((w.alloc (.cells #[.int .i64 0, .int .i64 0, .int .i64 0, .int .u8 0, .int .i64 0, .string ⟨#[]⟩] 46)).drewN nd) (.cells #[.int .i64 0, .int .i64 t, .int .i64 0, .int .u8 0, .int .i64 0, .string ⟨#[]⟩] 46)) nd2) 0 _ rfl) hb); have B4 := Aside0.mk (show w2.heap[w.heap.size]? = some (.cells #[.int .i64 0, .int .i64 0, .int .i64 0, .int .u8 0, .int .i64 0, .string ⟨#[]⟩] 46 (0, 0)) from blk_below (blk_far (blk_drewN (blk_alloc (blk_drewN (blk_new w _) nd) _) nd2) (by simp) _) hb); have HB := Aside0.mk (show Below w.heap.size w w2 from ((((((Below.refl w.heap.size w).alloc (Nat.le_refl _) _).trans (Below.mono (Drawn0.below ⟨⟨nd, rfl⟩⟩) (by simp))).alloc (by simp) _).trans (Below.mono (Drawn0.below ⟨⟨nd2, rfl⟩⟩) (by simp; omega))).setCell (by simp) _).trans (hb.mono (by simp; omega))); clear hb; have c70 := (blk_cell B7.out 0).trans rfl; have c72 := (blk_cell B7.out 2).trans rfl; have c7f := (blk_cell B7.out 4).trans rfl; have z72 := blk_frozen B7.out 2; have z7f := blk_frozen B7.out 4))
 have N7 := Aside0.mk (blk_put (blk_put B7.out 4 (.int .i64 x) rfl) 2 (.int .i64 y) rfl);have N4 := Aside0.mk (blk_far (blk_far B4.out (p := ⟨w.heap.size + 1, 4, none⟩) (by simp) (.int .i64 x)) (p := ⟨w.heap.size + 1, 2, none⟩) (by simp) (.int .i64 y))
 have NB := Aside0.mk ((HB.out.setCell (p := ⟨w.heap.size + 1, 4, none⟩) (by simp) (.int .i64 x)).setCell (p := ⟨w.heap.size + 1, 2, none⟩) (by simp) (.int .i64 y))
 clear B7 B4 HB c70 c72 c7f z72 z7f;generalize (w2.setCell ⟨w.heap.size + 1, 4, none⟩ (.int .i64 x)).setCell ⟨w.heap.size + 1, 2, none⟩ (.int .i64 y) = w3 at N7 N4 NB ⊢;have c0 := (blk_cell N7.out 0).trans rfl;have c1 := (blk_cell N7.out 1).trans rfl;have c2 := (blk_cell N7.out 2).trans rfl;have c3 := (blk_cell N7.out 3).trans rfl;have c4 := (blk_cell N7.out 4).trans rfl;have c5 := (blk_cell N7.out 5).trans rfl;have k0 := (blk_cell N4.out 0).trans rfl;have k1 := (blk_cell N4.out 1).trans rfl;have k2 := (blk_cell N4.out 2).trans rfl;have k3 := (blk_cell N4.out 3).trans rfl
 have k4 := (blk_cell N4.out 4).trans rfl;have k5 := (blk_cell N4.out 5).trans rfl;have y0 := blk_frozen N4.out 0;have y1 := blk_frozen N4.out 1;have y2 := blk_frozen N4.out 2;have y3 := blk_frozen N4.out 3;have y4 := blk_frozen N4.out 4;have y5 := blk_frozen N4.out 5;go_region
 go_wp2;refine bodyPost_ret (results_ctt rfl _ _ w.heap.size 46 #[.int .i64 0, .int .i64 0, .int .i64 0, .int .u8 0, .int .i64 0, .string ⟨#[]⟩] (0, 0) _ rfl (blk_drew (blk_put (blk_put (blk_put (blk_put (blk_put (blk_put N4.out 0 (.int .i64 0) rfl) 1 (.int .i64 0) rfl) 2 (.int .i64 0) rfl) 3 (.int .u8 0) rfl) 4 (.int .i64 0) rfl) 5 (.string ⟨#[]⟩) rfl)) Tryd.underlying46 rfl (by kernel_rfl)) rfl ?_
 exact ⟨rfl, below_drew1 ((((((NB.out.setCell (by simp) _).setCell (by simp) _).setCell (by simp) _).setCell (by simp) _).setCell (by simp) _).setCell (by simp) _)⟩
theorem jx_Next.calls (k : Nat) (a0 : ByteArray) (a1 : Int) (r1 : Int) (r2 : Int) (r3 : Int) (r4 : Int) (r5 : Int) (r6 : ByteArray) (r7 : Int) (r8 : Int) (w : World) (h : jx_Next.f k a0 a1 = some (r1, r2, r3, r4, r5, r6, r7, r8)) :
 Calls Tryd.prog 29 #[.string a0, .int .i64 a1] w fun e w' => e = .returned (.tuple #[.agg #[.int .i64 r1, .int .i64 r2, .int .i64 r3, .int .u8 r4, .int .i64 r5, .string r6], .int .i64 r7, .int .i64 r8]) ∧ Below w.heap.size w w' := by
 unfold jx_Next.f at h;by_cases h0 : a1 < 0
 ·rw [if_pos h0] at h; simp at h
 rw [if_neg h0] at h;by_cases h1 : (a0.size : Int) < a1
 ·rw [if_pos h1] at h; simp at h
 rw [if_neg h1] at h;obtain ⟨t, hS, h⟩ := Option.bind_eq_some_iff.mp h;by_cases h2 : t < 0
 ·rw [if_pos h2] at h; simp at h
 rw [if_neg h2] at h;by_cases h3 : (a0.size : Int) ≤ t
 ·rw [if_pos h3] at h; simp at h
 rw [if_neg h3] at h;by_cases hc : bt a0 t = 34
 ·rw [if_pos hc] at h;obtain ⟨⟨x, y, z⟩, hT, h⟩ := Option.bind_eq_some_iff.mp h;by_cases hz : z = 0
  ·rw [if_pos hz] at h;simp only [Option.some.injEq, Prod.mk.injEq] at h;obtain ⟨rfl, rfl, rfl, rfl, rfl, rfl, rfl, rfl⟩ := h;exact next_string k a0 a1 _ _ _ z w (by omega) (by omega) hS (by omega) (by omega) hc hT hz
  ·rw [if_neg hz] at h;simp only [Option.some.injEq, Prod.mk.injEq] at h;obtain ⟨rfl, rfl, rfl, rfl, rfl, rfl, rfl, rfl⟩ := h;exact next_string_err k a0 a1 t x _ _ w (by omega) (by omega) hS (by omega) (by omega) hc hT hz
 rw [if_neg hc] at h;by_cases hd : 48 ≤ bt a0 t ∧ bt a0 t ≤ 57
 ·rw [if_pos hd] at h;obtain ⟨⟨x, y, z⟩, hT, h⟩ := Option.bind_eq_some_iff.mp h;by_cases hz : z = 0
  ·rw [if_pos hz] at h;simp only [Option.some.injEq, Prod.mk.injEq] at h;obtain ⟨rfl, rfl, rfl, rfl, rfl, rfl, rfl, rfl⟩ := h;exact next_number k a0 a1 _ _ _ z w (by omega) (by omega) hS (by omega) (by omega) hd hT hz
  ·rw [if_neg hz] at h;simp only [Option.some.injEq, Prod.mk.injEq] at h;obtain ⟨rfl, rfl, rfl, rfl, rfl, rfl, rfl, rfl⟩ := h;exact next_number_err k a0 a1 t x _ _ w (by omega) (by omega) hS (by omega) (by omega) hd hT hz
 ·rw [if_neg hd] at h; simp at h
end Go.Proofs.YtdhdpidjdadamaaDoor.PX
