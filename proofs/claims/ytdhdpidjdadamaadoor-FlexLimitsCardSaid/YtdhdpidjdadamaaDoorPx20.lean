/- Printed by this session's program: Go functions of this seat as plain Lean functions, and proofs that their calls come to them. -/
import Derived.Test.YtdhdpidjdadamaaDoorPx0
import Derived.Test.YtdhdpidjdadamaaDoorPx14
import Derived.Test.YtdhdpidjdadamaaDoorPx15
import Derived.Test.YtdhdpidjdadamaaDoorPx16
import Derived.Test.YtdhdpidjdadamaaDoorPx19
import Derived.Test.YtdhdpidjdadamaaDoorHG
namespace Go.Proofs.YtdhdpidjdadamaaDoor.PX
open Go.RowKit Go.Proofs.YtdhdpidjdadamaaDoorW.PrintWords Go.Proofs.YtdhdpidjdadamaaDoorW.PrintLast Go.Proofs.YtdhdpidjdadamaaDoorW.PrintMore
attribute [local go_sem] max2_int min2_int max_two min_two max_three min_three max_four min_four   -- for this text's walks alone
set_option linter.unusedVariables false
set_option linter.unusedSimpArgs false
/-! ### rt_token: function 22 -/
mutual
def rt_token.j0 : Nat → ByteArray → Int → Int → Bool → Option (Int × Int × ByteArray × Int × Int × Int × Int)
 | 0, _, _, _, _ => none
 | k + 1, x0, x1, x8, x28 => if x28 = true then ((rt_named.f k x0 3 x1 (wrap64 (x1 + 1))).bind fun bt297 => (some (bt297.1, bt297.2.1, bt297.2.2.1, bt297.2.2.2.1, bt297.2.2.2.2.1, bt297.2.2.2.2.2.1, bt297.2.2.2.2.2.2))) else (if x8 = 46 then ((rt_word.f k x0 (wrap64 (x1 + 1))).bind fun t304 => (rt_token.j1 k x0 x1 x8 (decide (t304 > (wrap64 (x1 + 1)))))) else (rt_token.j1 k x0 x1 x8 false))
def rt_token.j1 : Nat → ByteArray → Int → Int → Bool → Option (Int × Int × ByteArray × Int × Int × Int × Int)
 | 0, _, _, _, _ => none
 | k + 1, x0, x1, x8, x49 => if x49 = true then ((rt_named.f k x0 4 x1 (wrap64 (x1 + 1))).bind fun bt305 => (some (bt305.1, bt305.2.1, bt305.2.2.1, bt305.2.2.2.1, bt305.2.2.2.2.1, bt305.2.2.2.2.2.1, bt305.2.2.2.2.2.2))) else ((rt_digit.f x8).bind fun t312 => (if t312 = true then ((rt_number.f k x0 x1).bind fun bt313 => (some (bt313.1, bt313.2.1, bt313.2.2.1, bt313.2.2.2.1, bt313.2.2.2.2.1, bt313.2.2.2.2.2.1, bt313.2.2.2.2.2.2))) else (if x8 = 34 then ((rj_Next.f k x0 x1).bind fun bt320 => (if bt320.2.2.2.2.2.2.2 = 0 then (some (6, x1, bt320.2.2.2.2.2.1, 0, bt320.2.2.2.2.2.2.1, 0, 0)) else (some (0, 0, (⟨#[]⟩ : ByteArray), 0, 0, bt320.2.2.2.2.2.2.1, bt320.2.2.2.2.2.2.2)))) else ((rt_signs.f).bind fun t329 => (rt_token.l0 k x0 x1 t329 0)))))
def rt_token.l0 : Nat → ByteArray → Int → List ByteArray → Int → Option (Int × Int × ByteArray × Int × Int × Int × Int)
 | 0, _, _, _, _ => none
 | k + 1, x0, x1, x12, x13 => if x13 < (x12.length : Int) then (if 0 ≤ x13 then (if (wrap64 ((x0.size : Int) - x1)) ≥ ((rdOf ByteArray.empty x12 x13).size : Int) then (if 0 ≤ x1 then (if x1 ≤ (wrap64 (x1 + ((rdOf ByteArray.empty x12 x13).size : Int))) then (if (wrap64 (x1 + ((rdOf ByteArray.empty x12 x13).size : Int))) ≤ (x0.size : Int) then (if (x0.extract (x1 : Int).toNat ((wrap64 (x1 + ((rdOf ByteArray.empty x12 x13).size : Int))) : Int).toNat).toList = (rdOf ByteArray.empty x12 x13).toList then (some (7, x1, rdOf ByteArray.empty x12 x13, 0, wrap64 (x1 + ((rdOf ByteArray.empty x12 x13).size : Int)), 0, 0)) else (rt_token.l0 k x0 x1 x12 (wrap64 (x13 + 1)))) else (none)) else (none)) else (none)) else (rt_token.l0 k x0 x1 x12 (wrap64 (x13 + 1)))) else (none)) else (some (0, 0, (⟨#[]⟩ : ByteArray), 0, 0, x1, 4))
end
def rt_token.f (k : Nat) (a0 : ByteArray) (a1 : Int) : Option (Int × Int × ByteArray × Int × Int × Int × Int) := if 0 ≤ a1 then (if a1 < (a0.size : Int) then ((rt_letter.f (bt a0 a1)).bind fun t288 => (if t288 = true then ((rt_named.f k a0 1 a1 a1).bind fun bt289 => (some (bt289.1, bt289.2.1, bt289.2.2.1, bt289.2.2.2.1, bt289.2.2.2.2.1, bt289.2.2.2.2.2.1, bt289.2.2.2.2.2.2))) else (if (bt a0 a1) = 36 then ((rt_word.f k a0 (wrap64 (a1 + 1))).bind fun t296 => (rt_token.j0 k a0 a1 (bt a0 a1) (decide (t296 > (wrap64 (a1 + 1)))))) else (rt_token.j0 k a0 a1 (bt a0 a1) false)))) else (none)) else (none)
theorem rt_token.mono_l : ∀ k, (∀ y0 y1 y2 y3, LeO (rt_token.j0 k y0 y1 y2 y3) (rt_token.j0 (k + 1) y0 y1 y2 y3)) ∧ (∀ y0 y1 y2 y3, LeO (rt_token.j1 k y0 y1 y2 y3) (rt_token.j1 (k + 1) y0 y1 y2 y3)) ∧ (∀ y0 y1 y2 y3, LeO (rt_token.l0 k y0 y1 y2 y3) (rt_token.l0 (k + 1) y0 y1 y2 y3))
 | 0 => ⟨fun _ _ _ _ r h => by simp [rt_token.j0] at h, fun _ _ _ _ r h => by simp [rt_token.j1] at h, fun _ _ _ _ r h => by simp [rt_token.l0] at h⟩
 | k + 1 => by
  obtain ⟨ih0, ih1, ih2⟩ := rt_token.mono_l k;refine ⟨?_, ?_, ?_⟩
  all_goals (intros;first | unfold rt_token.j0 | unfold rt_token.j1 | unfold rt_token.l0)
  all_goals (repeat' first | (with_reducible first | exact ih0 _ _ _ _ | exact ih1 _ _ _ _ | exact ih2 _ _ _ _ | exact rj_Next.mono _ _ _ | exact rt_named.mono _ _ _ _ _ | exact rt_number.mono _ _ _ | exact rt_word.mono _ _ _ | exact LeO.refl _ | exact LeO.none _ | refine LeO.ite ?_ ?_ | refine LeO.bind ?_ (fun _ => ?_)) | exact ih0 _ _ _ _ | exact ih1 _ _ _ _ | exact ih2 _ _ _ _ | exact rj_Next.mono _ _ _ | exact rt_named.mono _ _ _ _ _ | exact rt_number.mono _ _ _ | exact rt_word.mono _ _ _ | exact LeO.none _ | refine LeO.ite ?_ ?_ | refine LeO.bind ?_ (fun _ => ?_))
theorem rt_token.mono : ∀ a0 a1 k, LeO (rt_token.f k a0 a1) (rt_token.f (k + 1) a0 a1) := by
 intro a0 a1 k;obtain ⟨ih0, ih1, ih2⟩ := rt_token.mono_l k;unfold rt_token.f;repeat' first | (with_reducible first | exact ih0 _ _ _ _ | exact ih1 _ _ _ _ | exact ih2 _ _ _ _ | exact rj_Next.mono _ _ _ | exact rt_named.mono _ _ _ _ _ | exact rt_number.mono _ _ _ | exact rt_word.mono _ _ _ | exact LeO.refl _ | exact LeO.none _ | refine LeO.ite ?_ ?_ | refine LeO.bind ?_ (fun _ => ?_)) | exact ih0 _ _ _ _ | exact ih1 _ _ _ _ | exact ih2 _ _ _ _ | exact rj_Next.mono _ _ _ | exact rt_named.mono _ _ _ _ _ | exact rt_number.mono _ _ _ | exact rt_word.mono _ _ _ | exact LeO.none _ | refine LeO.ite ?_ ?_ | refine LeO.bind ?_ (fun _ => ?_)
def rt_token.T19 : Bool × List (List Nat × List Nat) := (true, [([], []), ([0], [0]), ([], []), ([1, 2], [1, 2]), ([], []), ([], []), ([4, 5], [4, 5]), ([6], [6]), ([7], [7]), ([3, 8], [3, 8]), ([9], [9]), ([10], [10]), ([10], [10]), ([10], [10]), ([10], [10]), ([10], [10]), ([14, 15, 10], [10, 14, 15]), ([16, 10], [10, 16]), ([17, 10], [10, 17]), ([13, 18, 10], [10, 13, 18]), ([11, 12, 19, 10], [10, 11, 12, 19]), ([10], [10]), ([10], [10]), ([21, 22, 10], [10, 21, 22]), ([23, 10], [10, 23]), ([20, 24, 10], [10, 20, 24]), ([10, 25], [10, 25])])
def rt_token.B19 : List Nat := [0, 1, 0, 7, 0, 0, 48, 112, 240, 511, 1023, 2047, 2047, 2047, 2047, 2047, 51199, 116735, 247807, 518143, 1048575, 2047, 2047, 6293503, 14682111, 33554431, 67108863]
theorem rt_token.tab19 : rtab .any (opsOf Tryd.f22 19) = rt_token.T19 := by kernel_rfl
theorem rt_token.bits19 : waitsOk rt_token.T19.2 rt_token.B19 = true := by kernel_rfl
def rt_token.T20 : Bool × List (List Nat × List Nat) := (true, [([], []), ([], []), ([], []), ([1, 2], [1, 2]), ([3], [3]), ([0, 4], [0, 4]), ([], []), ([], []), ([], []), ([7, 8], [7, 8]), ([9], [9]), ([10], [10]), ([6, 11], [6, 11]), ([5, 0, 1, 2, 3, 4, 5], [5]), ([12, 13, 0, 1, 2, 3, 4, 5, 6, 7, 8, 9, 10, 11, 12, 13], [12]), ([14, 0, 1, 2, 3, 4, 5, 6, 7, 8, 9, 10, 11, 12, 13, 14], []), ([15, 0, 1, 2, 3, 4, 5, 6, 7, 8, 9, 10, 11, 12, 13, 14, 15], [])])
def rt_token.B20 : List Nat := [0, 0, 0, 6, 14, 31, 0, 0, 0, 384, 896, 1920, 4032, 63, 16383, 32767, 65535]
theorem rt_token.tab20 : rtab .any (opsOf Tryd.f22 20) = rt_token.T20 := by kernel_rfl
theorem rt_token.bits20 : waitsOk rt_token.T20.2 rt_token.B20 = true := by kernel_rfl
set_option maxHeartbeats 8000000 in
set_option maxRecDepth 100000 in
theorem rt_token.calls (k : Nat) (a0 : ByteArray) (a1 : Int) (r1 : Int) (r2 : Int) (r3 : ByteArray) (r4 : Int) (r5 : Int) (r6 : Int) (r7 : Int) (w : World) (h : rt_token.f k a0 a1 = some (r1, r2, r3, r4, r5, r6, r7)) :
 Calls Tryd.prog 22 #[.string a0, .int .i64 a1] w fun e w' => e = .returned (.tuple #[.agg #[.int .i64 r1, .int .i64 r2, .string r3, .int .i64 r4], .int .i64 r5, .int .i64 r6, .int .i64 r7]) ∧ Below w.heap.size w w' := by
 have hu33 := Tryd.underlying33;have hu46 := Tryd.underlying46;have HB := Aside0.mk (Below.refl w.heap.size w)
 have H : (if 0 ≤ a1 then (if a1 < (a0.size : Int) then ((rt_letter.f (bt a0 a1)).bind fun t288 => (if t288 = true then ((rt_named.f k a0 1 a1 a1).bind fun bt289 => (some (bt289.1, bt289.2.1, bt289.2.2.1, bt289.2.2.2.1, bt289.2.2.2.2.1, bt289.2.2.2.2.2.1, bt289.2.2.2.2.2.2))) else (if (bt a0 a1) = 36 then ((rt_word.f k a0 (wrap64 (a1 + 1))).bind fun t296 => (rt_token.j0 k a0 a1 (bt a0 a1) (decide (t296 > (wrap64 (a1 + 1)))))) else (rt_token.j0 k a0 a1 (bt a0 a1) false)))) else (none)) else (none)) = some (r1, r2, r3, r4, r5, r6, r7) := h
 clear h;by_cases c3 : 0 ≤ a1
 ·rw [if_pos c3] at H;have c3b0 : decide (0 ≤ a1) = true := decide_eq_true c3;clear c3;by_cases c4 : a1 < (a0.size : Int)
  ·rw [if_pos c4] at H;have c4b0 : decide (a1 < (a0.size : Int)) = true := decide_eq_true c4;clear c4;replace H := Option.bind_eq_some_iff.mp H;obtain ⟨t288, A60, H⟩ := H;replace H : (if t288 = true then ((rt_named.f k a0 1 a1 a1).bind fun bt289 => (some (bt289.1, bt289.2.1, bt289.2.2.1, bt289.2.2.2.1, bt289.2.2.2.2.1, bt289.2.2.2.2.2.1, bt289.2.2.2.2.2.2))) else (if (bt a0 a1) = 36 then ((rt_word.f k a0 (wrap64 (a1 + 1))).bind fun t296 => (rt_token.j0 k a0 a1 (bt a0 a1) (decide (t296 > (wrap64 (a1 + 1)))))) else (rt_token.j0 k a0 a1 (bt a0 a1) false))) = some (r1, r2, r3, r4, r5, r6, r7) := H
   have A6 := Aside0.mk A60;clear A60;by_cases c7 : t288 = true
   ·subst c7;have H1 : ((rt_named.f k a0 1 a1 a1).bind fun bt289 => (some (bt289.1, bt289.2.1, bt289.2.2.1, bt289.2.2.2.1, bt289.2.2.2.2.1, bt289.2.2.2.2.2.1, bt289.2.2.2.2.2.2))) = some (r1, r2, r3, r4, r5, r6, r7) := by rw [if_pos rfl] at H; exact H
    clear H;have H := H1;clear H1;replace H := Option.bind_eq_some_iff.mp H;obtain ⟨⟨t289, t290, t291, t292, t293, t294, t295⟩, A80, H⟩ := H;replace H : (some (t289, t290, t291, t292, t293, t294, t295)) = some (r1, r2, r3, r4, r5, r6, r7) := H;have A8 := Aside0.mk A80;clear A80;simp only [Option.some.injEq, Prod.mk.injEq] at H;obtain ⟨rfl, rfl, rfl, rfl, rfl, rfl, rfl⟩ := H;go_enter Tryd.func22, Tryd.ntmps22
    go_wp2_with (first | ((with_reducible refine gate_dst (N := 4) rfl ?_); (try (refine gate_guard (by rfl) ?_; dsimp only)); refine box_event ?hg (N := 4) ?hd (cs := #[.int .i64 0, .int .i64 0, .string (⟨#[]⟩ : ByteArray), .int .i64 0]) (t := 33) ?hr ?_; (case hd => rfl); (case hg => rfl); (case hr => first | (go_simp; done) | (go_simp; rfl)); intro gb287 hg w9 hbox hb; have n0_ := Aside0.mk (below_step (by repeat (first | (with_reducible first | exact HB.out | apply below_alloc | apply pw_below_drewN | apply below_drew1) | exact HB.out)) hb); have n1_ := Aside0.mk (hbox); have n2_ := Aside0.mk ((by rw [hg]; exact (below_size (by repeat (first | (with_reducible first | exact HB.out | apply below_alloc | apply pw_below_drewN | apply below_drew1) | exact HB.out))) : w.heap.size ≤ gb287)); have n3_ := Aside0.mk ((by rw [hg]; exact (below_size (by repeat (first | (with_reducible first | exact HB.out | apply below_alloc | apply pw_below_drewN | apply below_drew1) | exact HB.out))) : w.heap.size ≤ gb287)); clear HB; have HB := n0_; have BK287 := n1_; have GW287 := n2_; have GE287 := n3_; clear n0_ n1_ n2_ n3_; clear hb hbox hg; have p5 : 0 ≤ (a1 : Int) := of_decide_eq_true (by first | (with_reducible assumption) | assumption); have q5 : a1 < (a0.size : Int) := of_decide_eq_true (by first | (with_reducible assumption) | assumption); have hx5 := bt_at a0 a1; replace p5 := eq_true p5; replace q5 := eq_true q5) | ((with_reducible refine gate_callee (f := 33) rfl ?_); refine goesL_ (some 19) rfl rfl Tryd.func33 (by kernel_rfl) rfl #[.int .u8 (bt a0 a1)] rfl (by (try simp only [List.map_toArray, List.map_cons, List.map_nil]); first | done | rfl | (simp only [List.length_drop, List.length_take]; rfl)) ?_; (with_reducible refine (rt_letter.calls (bt a0 a1) true _ A6.out).mono ?_); rintro e w' ⟨rfl, ⟨nd, rfl⟩⟩; refine ⟨_, rfl, ?_⟩; (try (rw [drewN_self w9]; generalize hq_ : World.drewN w9 _ = w9; have n0_ : Aside0 (w9.heap[gb287]? = some (.cells #[.int .i64 0, .int .i64 0, .string (⟨#[]⟩ : ByteArray), .int .i64 0] 33 (0, 0))) := ⟨by rw [← hq_]; exact (by (with_reducible repeat (first | refine blk_drewN ?_ _ | refine blk_drew ?_ | refine blk_alloc ?_ _)); exact BK287.out)⟩; have n1_ : Aside0 (Below w.heap.size w w9) := ⟨by rw [← hq_]; exact (by repeat (first | (with_reducible first | exact HB.out | apply below_alloc | apply pw_below_drewN | apply below_drew1 | refine below_set ?_ GE287.out) | exact HB.out))⟩; clear BK287 HB hq_; have BK287 := n0_; have HB := n1_; clear n0_ n1_))) | ((with_reducible refine gate_callee (f := 34) rfl ?_); refine goesL_ (some 23) rfl rfl Tryd.func34 (by kernel_rfl) rfl #[.string a0, .int .i64 1, .int .i64 a1, .int .i64 a1] rfl (by (try simp only [List.map_toArray, List.map_cons, List.map_nil]); first | done | rfl | (simp only [List.length_drop, List.length_take]; rfl)) ?_; (with_reducible refine (rt_named.calls k a0 1 a1 a1 t289 t290 t291 t292 t293 t294 t295 _ A8.out).mono ?_); rintro e w10 ⟨rfl, hb⟩; refine ⟨_, rfl, ?_⟩; have n0_ := Aside0.mk (blk_below (g := gb287) (o := .cells #[.int .i64 0, .int .i64 0, .string (⟨#[]⟩ : ByteArray), .int .i64 0] 33 (0, 0)) (by (with_reducible repeat (first | refine blk_drewN ?_ _ | refine blk_drew ?_ | refine blk_alloc ?_ _)); exact BK287.out) hb); have n1_ := Aside0.mk (below_step (by repeat (first | (with_reducible first | exact HB.out | apply below_alloc | apply pw_below_drewN | apply below_drew1 | refine below_set ?_ GE287.out) | exact HB.out)) hb); clear BK287; clear HB; have BK287 := n0_; have HB := n1_; clear n0_ n1_; (try clear hb); (try clear hb2); (try clear hk); (try clear hi); have hcz11_0 : w10.cell? ⟨gb287, 0, none⟩ = some (.int .i64 0) := (blk_cell BK287.out 0).trans rfl; have hcz11_1 : w10.cell? ⟨gb287, 1, none⟩ = some (.int .i64 0) := (blk_cell BK287.out 1).trans rfl; have hcz11_2 : w10.cell? ⟨gb287, 2, none⟩ = some (.string (⟨#[]⟩ : ByteArray)) := (blk_cell BK287.out 2).trans rfl; have hcz11_3 : w10.cell? ⟨gb287, 3, none⟩ = some (.int .i64 0) := (blk_cell BK287.out 3).trans rfl; have hfz11_0 := blk_frozen BK287.out 0; have hfz11_1 := blk_frozen BK287.out 1; have hfz11_2 := blk_frozen BK287.out 2; have hfz11_3 := blk_frozen BK287.out 3))
    refine bodyPost_ret (results_list (rs := [.cell 4 33, .tmp 5, .tmp 6, .tmp 7]) rfl (by simp) (.cell gb287 33 #[.int .i64 t289, .int .i64 t290, .string t291, .int .i64 t292] (0, 0) _ rfl (by (with_reducible repeat (first | refine blk_drewN ?_ _ | refine blk_drew ?_ | refine blk_alloc ?_ _)); refine blk_put (cs := #[.int .i64 t289, .int .i64 t290, .string t291, .int .i64 0]) ?_ 3 _ rfl; (with_reducible repeat (first | refine blk_drewN ?_ _ | refine blk_drew ?_ | refine blk_alloc ?_ _)); refine blk_put (cs := #[.int .i64 t289, .int .i64 t290, .string (⟨#[]⟩ : ByteArray), .int .i64 0]) ?_ 2 _ rfl; (with_reducible repeat (first | refine blk_drewN ?_ _ | refine blk_drew ?_ | refine blk_alloc ?_ _)); refine blk_put (cs := #[.int .i64 t289, .int .i64 0, .string (⟨#[]⟩ : ByteArray), .int .i64 0]) ?_ 1 _ rfl; (with_reducible repeat (first | refine blk_drewN ?_ _ | refine blk_drew ?_ | refine blk_alloc ?_ _)); refine blk_put (cs := #[.int .i64 0, .int .i64 0, .string (⟨#[]⟩ : ByteArray), .int .i64 0]) ?_ 0 _ rfl; (with_reducible repeat (first | refine blk_drewN ?_ _ | refine blk_drew ?_ | refine blk_alloc ?_ _)); exact BK287.out) Tryd.underlying33 rfl (by kernel_rfl) (.tmp (.tmp (.tmp .nil))))) rfl ?_
    exact ⟨by first | rfl | (simp [errW_none, errW_some] <;> rfl) | (simp [*, errW_none, errW_some] <;> rfl), by repeat (first | (with_reducible first | exact HB.out | apply below_alloc | apply pw_below_drewN | apply below_drew1 | refine below_set ?_ GE287.out) | exact HB.out)⟩
   ·replace c7 := Bool.eq_false_iff.mpr c7;subst c7;have H1 : (if (bt a0 a1) = 36 then ((rt_word.f k a0 (wrap64 (a1 + 1))).bind fun t296 => (rt_token.j0 k a0 a1 (bt a0 a1) (decide (t296 > (wrap64 (a1 + 1)))))) else (rt_token.j0 k a0 a1 (bt a0 a1) false)) = some (r1, r2, r3, r4, r5, r6, r7) := by rw [if_neg (show ¬ (false = true) by decide)] at H; exact H
    clear H;have H := H1;clear H1;have HC12 := Aside0.mk H;clear H;go_enter Tryd.func22, Tryd.ntmps22
    go_upto_region 4 with (first | ((with_reducible refine gate_dst (N := 4) rfl ?_); (try (refine gate_guard (by rfl) ?_; dsimp only)); refine box_event ?hg (N := 4) ?hd (cs := #[.int .i64 0, .int .i64 0, .string (⟨#[]⟩ : ByteArray), .int .i64 0]) (t := 33) ?hr ?_; (case hd => rfl); (case hg => rfl); (case hr => first | (go_simp; done) | (go_simp; rfl)); intro gb287 hg w13 hbox hb; have n0_ := Aside0.mk (below_step (by repeat (first | (with_reducible first | exact HB.out | apply below_alloc | apply pw_below_drewN | apply below_drew1) | exact HB.out)) hb); have n1_ := Aside0.mk (hbox); have n2_ := Aside0.mk ((by rw [hg]; exact (below_size (by repeat (first | (with_reducible first | exact HB.out | apply below_alloc | apply pw_below_drewN | apply below_drew1) | exact HB.out))) : w.heap.size ≤ gb287)); have n3_ := Aside0.mk ((by rw [hg]; exact (below_size (by repeat (first | (with_reducible first | exact HB.out | apply below_alloc | apply pw_below_drewN | apply below_drew1) | exact HB.out))) : w.heap.size ≤ gb287)); clear HB; have HB := n0_; have BK287 := n1_; have GW287 := n2_; have GE287 := n3_; clear n0_ n1_ n2_ n3_; clear hb hbox hg; have p5 : 0 ≤ (a1 : Int) := of_decide_eq_true (by first | (with_reducible assumption) | assumption); have q5 : a1 < (a0.size : Int) := of_decide_eq_true (by first | (with_reducible assumption) | assumption); have hx5 := bt_at a0 a1; replace p5 := eq_true p5; replace q5 := eq_true q5) | ((with_reducible refine gate_callee (f := 33) rfl ?_); refine goesL_ (some 19) rfl rfl Tryd.func33 (by kernel_rfl) rfl #[.int .u8 (bt a0 a1)] rfl (by (try simp only [List.map_toArray, List.map_cons, List.map_nil]); first | done | rfl | (simp only [List.length_drop, List.length_take]; rfl)) ?_; (with_reducible refine (rt_letter.calls (bt a0 a1) false _ A6.out).mono ?_); rintro e w' ⟨rfl, ⟨nd, rfl⟩⟩; refine ⟨_, rfl, ?_⟩))
    (try simp only [Act.put, List.setIfInBounds_toArray, List.set_cons_zero, List.set_cons_succ])
    go_cut [28] (fun v28 wc => ∃ (kq : Nat) (x28_11 : Bool), v28 = .bool x28_11 ∧ Aside0 (rt_token.j0 kq a0 a1 (bt a0 a1) x28_11 = some (r1, r2, r3, r4, r5, r6, r7)) ∧ Aside0 (kq ≤ k) ∧ Aside0 (wc.heap[gb287]? = some (.cells #[.int .i64 0, .int .i64 0, .string (⟨#[]⟩ : ByteArray), .int .i64 0] 33 (0, 0))) ∧ Aside0 (Below w.heap.size w wc))
    case first =>
     have H := HC12.out;clear HC12;by_cases c14 : (bt a0 a1) = 36
     ·rw [if_pos c14] at H;have c14b0 : ((bt a0 a1) == 36) = true := beq_iff_eq.mpr c14;have c14b1 : ((bt a0 a1) != 36) = false := bne_eq_false_iff_eq.mpr c14;clear c14;(first | rw [c14b0] | (simp only [i64_w, i32_w]; rw [c14b0]) | skip)
      replace H := Option.bind_eq_some_iff.mp H;obtain ⟨t296, A150, H⟩ := H;replace H : (rt_token.j0 k a0 a1 (bt a0 a1) (decide (t296 > (wrap64 (a1 + 1))))) = some (r1, r2, r3, r4, r5, r6, r7) := H;have A15 := Aside0.mk A150;clear A150;have H' := Aside0.mk H;clear H;go_wp2_with (first | (go_at_call 24; (with_reducible refine (rt_word.calls k a0 (wrap64 (a1 + 1)) t296 _ A15.out).mono ?_); rintro e w' ⟨rfl, ⟨nd, rfl⟩⟩))
      go_meet
      case rel => exact ⟨_, (decide (t296 > (wrap64 (a1 + 1)))), (by first | rfl | (simp; done) | (simp [*]; done)), H', ⟨by first | omega | exact Nat.le_refl _⟩, ⟨by (with_reducible repeat (first | refine blk_drewN ?_ _ | refine blk_drew ?_ | refine blk_alloc ?_ _)); exact BK287.out⟩, ⟨by repeat (first | (with_reducible first | exact HB.out | apply below_alloc | apply pw_below_drewN | apply below_drew1 | refine below_set ?_ GE287.out) | exact HB.out)⟩⟩
     ·rw [if_neg c14] at H;have c14b0 : ((bt a0 a1) == 36) = false := beq_eq_false_iff_ne.mpr c14;have c14b1 : ((bt a0 a1) != 36) = true := bne_iff_ne.mpr c14;(first | rw [c14b0] | (simp only [i64_w, i32_w]; rw [c14b0]) | skip)
      have H' := Aside0.mk H;clear H;go_wp2;go_meet
      case rel => exact ⟨_, (false), (by first | rfl | (simp; done) | (simp [*]; done)), H', ⟨by first | omega | exact Nat.le_refl _⟩, ⟨by (with_reducible repeat (first | refine blk_drewN ?_ _ | refine blk_drew ?_ | refine blk_alloc ?_ _)); exact BK287.out⟩, ⟨by repeat (first | (with_reducible first | exact HB.out | apply below_alloc | apply pw_below_drewN | apply below_drew1 | refine below_set ?_ GE287.out) | exact HB.out)⟩⟩
    case rest =>
     clear HC12;try clear c1
     try clear c2
     try clear p2
     try clear c3
     try clear c3b0
     try clear c4
     try clear c4b0
     try clear p5
     try clear q5
     try clear hx5
     try clear p6
     try clear c7
     try clear c14
     try clear c14b0
     try clear c14b1
     try clear hcz11_0
     try clear hcz11_1
     try clear hcz11_2
     try clear hcz11_3
     try clear hfz11_0
     try clear hfz11_1
     try clear hfz11_2
     try clear hfz11_3
     try clear p5
     try clear q5
     obtain ⟨kq, x28_11, rfl, HA, HJ11, BK287, HB⟩ := hcut;cases kq with
     | zero => exact absurd HA.out (by simp [rt_token.j0])
     | succ kj11 =>
      have H := HA.out;clear HA;simp only [rt_token.j0] at H;by_cases c16 : x28_11 = true
      ·subst c16;have H1 : ((rt_named.f kj11 a0 3 a1 (wrap64 (a1 + 1))).bind fun bt297 => (some (bt297.1, bt297.2.1, bt297.2.2.1, bt297.2.2.2.1, bt297.2.2.2.2.1, bt297.2.2.2.2.2.1, bt297.2.2.2.2.2.2))) = some (r1, r2, r3, r4, r5, r6, r7) := by rw [if_pos rfl] at H; exact H
       clear H;have H := H1;clear H1;replace H := Option.bind_eq_some_iff.mp H;obtain ⟨⟨t297, t298, t299, t300, t301, t302, t303⟩, A170, H⟩ := H;replace H : (some (t297, t298, t299, t300, t301, t302, t303)) = some (r1, r2, r3, r4, r5, r6, r7) := H;have A17 := Aside0.mk A170;clear A170;simp only [Option.some.injEq, Prod.mk.injEq] at H;obtain ⟨rfl, rfl, rfl, rfl, rfl, rfl, rfl⟩ := H
       go_wp2_with (first | ((with_reducible refine gate_callee (f := 34) rfl ?_); refine goesL_ (some 44) rfl rfl Tryd.func34 (by kernel_rfl) rfl #[.string a0, .int .i64 3, .int .i64 a1, .int .i64 (wrap64 (a1 + 1))] rfl (by (try simp only [List.map_toArray, List.map_cons, List.map_nil]); first | done | rfl | (simp only [List.length_drop, List.length_take]; rfl)) ?_; (with_reducible refine (rt_named.calls kj11 a0 3 a1 (wrap64 (a1 + 1)) t297 t298 t299 t300 t301 t302 t303 _ A17.out).mono ?_); rintro e w18 ⟨rfl, hb⟩; refine ⟨_, rfl, ?_⟩; have n0_ := Aside0.mk (blk_below (g := gb287) (o := .cells #[.int .i64 0, .int .i64 0, .string (⟨#[]⟩ : ByteArray), .int .i64 0] 33 (0, 0)) (by (with_reducible repeat (first | refine blk_drewN ?_ _ | refine blk_drew ?_ | refine blk_alloc ?_ _)); exact BK287.out) hb); have n1_ := Aside0.mk (below_step (by repeat (first | (with_reducible first | exact HB.out | apply below_alloc | apply pw_below_drewN | apply below_drew1 | refine below_set ?_ GE287.out) | exact HB.out)) hb); clear BK287; clear HB; have BK287 := n0_; have HB := n1_; clear n0_ n1_; (try clear hb); (try clear hb2); (try clear hk); (try clear hi); have hcz19_0 : w18.cell? ⟨gb287, 0, none⟩ = some (.int .i64 0) := (blk_cell BK287.out 0).trans rfl; have hcz19_1 : w18.cell? ⟨gb287, 1, none⟩ = some (.int .i64 0) := (blk_cell BK287.out 1).trans rfl; have hcz19_2 : w18.cell? ⟨gb287, 2, none⟩ = some (.string (⟨#[]⟩ : ByteArray)) := (blk_cell BK287.out 2).trans rfl; have hcz19_3 : w18.cell? ⟨gb287, 3, none⟩ = some (.int .i64 0) := (blk_cell BK287.out 3).trans rfl; have hfz19_0 := blk_frozen BK287.out 0; have hfz19_1 := blk_frozen BK287.out 1; have hfz19_2 := blk_frozen BK287.out 2; have hfz19_3 := blk_frozen BK287.out 3))
       refine bodyPost_ret (results_list (rs := [.cell 4 33, .tmp 5, .tmp 6, .tmp 7]) rfl (by simp) (.cell gb287 33 #[.int .i64 t297, .int .i64 t298, .string t299, .int .i64 t300] (0, 0) _ rfl (by (with_reducible repeat (first | refine blk_drewN ?_ _ | refine blk_drew ?_ | refine blk_alloc ?_ _)); refine blk_put (cs := #[.int .i64 t297, .int .i64 t298, .string t299, .int .i64 0]) ?_ 3 _ rfl; (with_reducible repeat (first | refine blk_drewN ?_ _ | refine blk_drew ?_ | refine blk_alloc ?_ _)); refine blk_put (cs := #[.int .i64 t297, .int .i64 t298, .string (⟨#[]⟩ : ByteArray), .int .i64 0]) ?_ 2 _ rfl; (with_reducible repeat (first | refine blk_drewN ?_ _ | refine blk_drew ?_ | refine blk_alloc ?_ _)); refine blk_put (cs := #[.int .i64 t297, .int .i64 0, .string (⟨#[]⟩ : ByteArray), .int .i64 0]) ?_ 1 _ rfl; (with_reducible repeat (first | refine blk_drewN ?_ _ | refine blk_drew ?_ | refine blk_alloc ?_ _)); refine blk_put (cs := #[.int .i64 0, .int .i64 0, .string (⟨#[]⟩ : ByteArray), .int .i64 0]) ?_ 0 _ rfl; (with_reducible repeat (first | refine blk_drewN ?_ _ | refine blk_drew ?_ | refine blk_alloc ?_ _)); exact BK287.out) Tryd.underlying33 rfl (by kernel_rfl) (.tmp (.tmp (.tmp .nil))))) rfl ?_
       exact ⟨by first | rfl | (simp [errW_none, errW_some] <;> rfl) | (simp [*, errW_none, errW_some] <;> rfl), by repeat (first | (with_reducible first | exact HB.out | apply below_alloc | apply pw_below_drewN | apply below_drew1 | refine below_set ?_ GE287.out) | exact HB.out)⟩
      ·replace c16 := Bool.eq_false_iff.mpr c16;subst c16;have H1 : (if (bt a0 a1) = 46 then ((rt_word.f kj11 a0 (wrap64 (a1 + 1))).bind fun t304 => (rt_token.j1 kj11 a0 a1 (bt a0 a1) (decide (t304 > (wrap64 (a1 + 1)))))) else (rt_token.j1 kj11 a0 a1 (bt a0 a1) false)) = some (r1, r2, r3, r4, r5, r6, r7) := by rw [if_neg (show ¬ (false = true) by decide)] at H; exact H
       clear H;have H := H1;clear H1;have HC20 := Aside0.mk H;clear H;go_upto_region 6 with (fail)
       go_cut [49] (fun v49 wc => ∃ (kq : Nat) (x49_19 : Bool), v49 = .bool x49_19 ∧ Aside0 (rt_token.j1 kq a0 a1 (bt a0 a1) x49_19 = some (r1, r2, r3, r4, r5, r6, r7)) ∧ Aside0 (kq ≤ kj11) ∧ Aside0 (wc.heap[gb287]? = some (.cells #[.int .i64 0, .int .i64 0, .string (⟨#[]⟩ : ByteArray), .int .i64 0] 33 (0, 0))) ∧ Aside0 (Below w.heap.size w wc))
       case first =>
        have H := HC20.out;clear HC20;by_cases c21 : (bt a0 a1) = 46
        ·rw [if_pos c21] at H;have c21b0 : ((bt a0 a1) == 46) = true := beq_iff_eq.mpr c21;have c21b1 : ((bt a0 a1) != 46) = false := bne_eq_false_iff_eq.mpr c21;clear c21;(first | rw [c21b0] | (simp only [i64_w, i32_w]; rw [c21b0]) | skip)
         replace H := Option.bind_eq_some_iff.mp H;obtain ⟨t304, A220, H⟩ := H;replace H : (rt_token.j1 kj11 a0 a1 (bt a0 a1) (decide (t304 > (wrap64 (a1 + 1))))) = some (r1, r2, r3, r4, r5, r6, r7) := H;have A22 := Aside0.mk A220;clear A220;have H' := Aside0.mk H;clear H;go_wp2_with (first | (go_at_call 24; (with_reducible refine (rt_word.calls kj11 a0 (wrap64 (a1 + 1)) t304 _ A22.out).mono ?_); rintro e w' ⟨rfl, ⟨nd, rfl⟩⟩))
         go_meet
         case rel => exact ⟨_, (decide (t304 > (wrap64 (a1 + 1)))), (by first | rfl | (simp; done) | (simp [*]; done)), H', ⟨by have := HJ11.out; first | omega | exact Nat.le_refl _⟩, ⟨by (with_reducible repeat (first | refine blk_drewN ?_ _ | refine blk_drew ?_ | refine blk_alloc ?_ _)); exact BK287.out⟩, ⟨by repeat (first | (with_reducible first | exact HB.out | apply below_alloc | apply pw_below_drewN | apply below_drew1 | refine below_set ?_ GE287.out) | exact HB.out)⟩⟩
        ·rw [if_neg c21] at H;have c21b0 : ((bt a0 a1) == 46) = false := beq_eq_false_iff_ne.mpr c21;have c21b1 : ((bt a0 a1) != 46) = true := bne_iff_ne.mpr c21;(first | rw [c21b0] | (simp only [i64_w, i32_w]; rw [c21b0]) | skip)
         have H' := Aside0.mk H;clear H;go_wp2;go_meet
         case rel => exact ⟨_, (false), (by first | rfl | (simp; done) | (simp [*]; done)), H', ⟨by have := HJ11.out; first | omega | exact Nat.le_refl _⟩, ⟨by (with_reducible repeat (first | refine blk_drewN ?_ _ | refine blk_drew ?_ | refine blk_alloc ?_ _)); exact BK287.out⟩, ⟨by repeat (first | (with_reducible first | exact HB.out | apply below_alloc | apply pw_below_drewN | apply below_drew1 | refine below_set ?_ GE287.out) | exact HB.out)⟩⟩
       case rest =>
        clear HC20;try clear c1
        try clear c2
        try clear p2
        try clear c3
        try clear c3b0
        try clear c4
        try clear c4b0
        try clear p5
        try clear q5
        try clear hx5
        try clear p6
        try clear c7
        try clear c14
        try clear c14b0
        try clear c14b1
        try clear c16
        try clear c21
        try clear c21b0
        try clear c21b1
        try clear c22
        try clear hcz11_0
        try clear hcz11_1
        try clear hcz11_2
        try clear hcz11_3
        try clear hcz19_0
        try clear hcz19_1
        try clear hcz19_2
        try clear hcz19_3
        try clear hfz11_0
        try clear hfz11_1
        try clear hfz11_2
        try clear hfz11_3
        try clear hfz19_0
        try clear hfz19_1
        try clear hfz19_2
        try clear hfz19_3
        try clear p2
        try clear p5
        try clear p6
        try clear q5
        obtain ⟨kq, x49_19, rfl, HA, HJ19, BK287, HB⟩ := hcut;cases kq with
        | zero => exact absurd HA.out (by simp [rt_token.j1])
        | succ kj19 =>
         have H := HA.out;clear HA;simp only [rt_token.j1] at H;by_cases c23 : x49_19 = true
         ·subst c23;have H1 : ((rt_named.f kj19 a0 4 a1 (wrap64 (a1 + 1))).bind fun bt305 => (some (bt305.1, bt305.2.1, bt305.2.2.1, bt305.2.2.2.1, bt305.2.2.2.2.1, bt305.2.2.2.2.2.1, bt305.2.2.2.2.2.2))) = some (r1, r2, r3, r4, r5, r6, r7) := by rw [if_pos rfl] at H; exact H
          clear H;have H := H1;clear H1;replace H := Option.bind_eq_some_iff.mp H;obtain ⟨⟨t305, t306, t307, t308, t309, t310, t311⟩, A240, H⟩ := H;replace H : (some (t305, t306, t307, t308, t309, t310, t311)) = some (r1, r2, r3, r4, r5, r6, r7) := H;have A24 := Aside0.mk A240;clear A240;simp only [Option.some.injEq, Prod.mk.injEq] at H;obtain ⟨rfl, rfl, rfl, rfl, rfl, rfl, rfl⟩ := H
          go_wp2_with (first | ((with_reducible refine gate_callee (f := 34) rfl ?_); refine goesL_ (some 65) rfl rfl Tryd.func34 (by kernel_rfl) rfl #[.string a0, .int .i64 4, .int .i64 a1, .int .i64 (wrap64 (a1 + 1))] rfl (by (try simp only [List.map_toArray, List.map_cons, List.map_nil]); first | done | rfl | (simp only [List.length_drop, List.length_take]; rfl)) ?_; (with_reducible refine (rt_named.calls kj19 a0 4 a1 (wrap64 (a1 + 1)) t305 t306 t307 t308 t309 t310 t311 _ A24.out).mono ?_); rintro e w25 ⟨rfl, hb⟩; refine ⟨_, rfl, ?_⟩; have n0_ := Aside0.mk (blk_below (g := gb287) (o := .cells #[.int .i64 0, .int .i64 0, .string (⟨#[]⟩ : ByteArray), .int .i64 0] 33 (0, 0)) (by (with_reducible repeat (first | refine blk_drewN ?_ _ | refine blk_drew ?_ | refine blk_alloc ?_ _)); exact BK287.out) hb); have n1_ := Aside0.mk (below_step (by repeat (first | (with_reducible first | exact HB.out | apply below_alloc | apply pw_below_drewN | apply below_drew1 | refine below_set ?_ GE287.out) | exact HB.out)) hb); clear BK287; clear HB; have BK287 := n0_; have HB := n1_; clear n0_ n1_; (try clear hb); (try clear hb2); (try clear hk); (try clear hi); have hcz26_0 : w25.cell? ⟨gb287, 0, none⟩ = some (.int .i64 0) := (blk_cell BK287.out 0).trans rfl; have hcz26_1 : w25.cell? ⟨gb287, 1, none⟩ = some (.int .i64 0) := (blk_cell BK287.out 1).trans rfl; have hcz26_2 : w25.cell? ⟨gb287, 2, none⟩ = some (.string (⟨#[]⟩ : ByteArray)) := (blk_cell BK287.out 2).trans rfl; have hcz26_3 : w25.cell? ⟨gb287, 3, none⟩ = some (.int .i64 0) := (blk_cell BK287.out 3).trans rfl; have hfz26_0 := blk_frozen BK287.out 0; have hfz26_1 := blk_frozen BK287.out 1; have hfz26_2 := blk_frozen BK287.out 2; have hfz26_3 := blk_frozen BK287.out 3))
          refine bodyPost_ret (results_list (rs := [.cell 4 33, .tmp 5, .tmp 6, .tmp 7]) rfl (by simp) (.cell gb287 33 #[.int .i64 t305, .int .i64 t306, .string t307, .int .i64 t308] (0, 0) _ rfl (by (with_reducible repeat (first | refine blk_drewN ?_ _ | refine blk_drew ?_ | refine blk_alloc ?_ _)); refine blk_put (cs := #[.int .i64 t305, .int .i64 t306, .string t307, .int .i64 0]) ?_ 3 _ rfl; (with_reducible repeat (first | refine blk_drewN ?_ _ | refine blk_drew ?_ | refine blk_alloc ?_ _)); refine blk_put (cs := #[.int .i64 t305, .int .i64 t306, .string (⟨#[]⟩ : ByteArray), .int .i64 0]) ?_ 2 _ rfl; (with_reducible repeat (first | refine blk_drewN ?_ _ | refine blk_drew ?_ | refine blk_alloc ?_ _)); refine blk_put (cs := #[.int .i64 t305, .int .i64 0, .string (⟨#[]⟩ : ByteArray), .int .i64 0]) ?_ 1 _ rfl; (with_reducible repeat (first | refine blk_drewN ?_ _ | refine blk_drew ?_ | refine blk_alloc ?_ _)); refine blk_put (cs := #[.int .i64 0, .int .i64 0, .string (⟨#[]⟩ : ByteArray), .int .i64 0]) ?_ 0 _ rfl; (with_reducible repeat (first | refine blk_drewN ?_ _ | refine blk_drew ?_ | refine blk_alloc ?_ _)); exact BK287.out) Tryd.underlying33 rfl (by kernel_rfl) (.tmp (.tmp (.tmp .nil))))) rfl ?_
          exact ⟨by first | rfl | (simp [errW_none, errW_some] <;> rfl) | (simp [*, errW_none, errW_some] <;> rfl), by repeat (first | (with_reducible first | exact HB.out | apply below_alloc | apply pw_below_drewN | apply below_drew1 | refine below_set ?_ GE287.out) | exact HB.out)⟩
         ·replace c23 := Bool.eq_false_iff.mpr c23;subst c23
          have H1 : ((rt_digit.f (bt a0 a1)).bind fun t312 => (if t312 = true then ((rt_number.f kj19 a0 a1).bind fun bt313 => (some (bt313.1, bt313.2.1, bt313.2.2.1, bt313.2.2.2.1, bt313.2.2.2.2.1, bt313.2.2.2.2.2.1, bt313.2.2.2.2.2.2))) else (if (bt a0 a1) = 34 then ((rj_Next.f kj19 a0 a1).bind fun bt320 => (if bt320.2.2.2.2.2.2.2 = 0 then (some (6, a1, bt320.2.2.2.2.2.1, 0, bt320.2.2.2.2.2.2.1, 0, 0)) else (some (0, 0, (⟨#[]⟩ : ByteArray), 0, 0, bt320.2.2.2.2.2.2.1, bt320.2.2.2.2.2.2.2)))) else ((rt_signs.f).bind fun t329 => (rt_token.l0 kj19 a0 a1 t329 0))))) = some (r1, r2, r3, r4, r5, r6, r7) := by rw [if_neg (show ¬ (false = true) by decide)] at H; exact H
          clear H;have H := H1;clear H1;replace H := Option.bind_eq_some_iff.mp H;obtain ⟨t312, A270, H⟩ := H
          replace H : (if t312 = true then ((rt_number.f kj19 a0 a1).bind fun bt313 => (some (bt313.1, bt313.2.1, bt313.2.2.1, bt313.2.2.2.1, bt313.2.2.2.2.1, bt313.2.2.2.2.2.1, bt313.2.2.2.2.2.2))) else (if (bt a0 a1) = 34 then ((rj_Next.f kj19 a0 a1).bind fun bt320 => (if bt320.2.2.2.2.2.2.2 = 0 then (some (6, a1, bt320.2.2.2.2.2.1, 0, bt320.2.2.2.2.2.2.1, 0, 0)) else (some (0, 0, (⟨#[]⟩ : ByteArray), 0, 0, bt320.2.2.2.2.2.2.1, bt320.2.2.2.2.2.2.2)))) else ((rt_signs.f).bind fun t329 => (rt_token.l0 kj19 a0 a1 t329 0)))) = some (r1, r2, r3, r4, r5, r6, r7) := H
          have A27 := Aside0.mk A270;clear A270;by_cases c28 : t312 = true
          ·subst c28;have H1 : ((rt_number.f kj19 a0 a1).bind fun bt313 => (some (bt313.1, bt313.2.1, bt313.2.2.1, bt313.2.2.2.1, bt313.2.2.2.2.1, bt313.2.2.2.2.2.1, bt313.2.2.2.2.2.2))) = some (r1, r2, r3, r4, r5, r6, r7) := by rw [if_pos rfl] at H; exact H
           clear H;have H := H1;clear H1;replace H := Option.bind_eq_some_iff.mp H;obtain ⟨⟨t313, t314, t315, t316, t317, t318, t319⟩, A290, H⟩ := H;replace H : (some (t313, t314, t315, t316, t317, t318, t319)) = some (r1, r2, r3, r4, r5, r6, r7) := H;have A29 := Aside0.mk A290;clear A290;simp only [Option.some.injEq, Prod.mk.injEq] at H;obtain ⟨rfl, rfl, rfl, rfl, rfl, rfl, rfl⟩ := H
           go_wp2_with (first | ((with_reducible refine gate_callee (f := 35) rfl ?_); refine goesL_ (some 72) rfl rfl Tryd.func35 (by kernel_rfl) rfl #[.int .u8 (bt a0 a1)] rfl (by (try simp only [List.map_toArray, List.map_cons, List.map_nil]); first | done | rfl | (simp only [List.length_drop, List.length_take]; rfl)) ?_; (with_reducible refine (rt_digit.calls (bt a0 a1) true _ A27.out).mono ?_); rintro e w' ⟨rfl, ⟨nd, rfl⟩⟩; refine ⟨_, rfl, ?_⟩; (try (rw [drewN_self wc]; generalize hq_ : World.drewN wc _ = wc; have n0_ : Aside0 (wc.heap[gb287]? = some (.cells #[.int .i64 0, .int .i64 0, .string (⟨#[]⟩ : ByteArray), .int .i64 0] 33 (0, 0))) := ⟨by rw [← hq_]; exact (by (with_reducible repeat (first | refine blk_drewN ?_ _ | refine blk_drew ?_ | refine blk_alloc ?_ _)); exact BK287.out)⟩; have n1_ : Aside0 (Below w.heap.size w wc) := ⟨by rw [← hq_]; exact (by repeat (first | (with_reducible first | exact HB.out | apply below_alloc | apply pw_below_drewN | apply below_drew1 | refine below_set ?_ GE287.out) | exact HB.out))⟩; clear BK287 HB hq_; have BK287 := n0_; have HB := n1_; clear n0_ n1_))) | ((with_reducible refine gate_callee (f := 36) rfl ?_); refine goesL_ (some 75) rfl rfl Tryd.func36 (by kernel_rfl) rfl #[.string a0, .int .i64 a1] rfl (by (try simp only [List.map_toArray, List.map_cons, List.map_nil]); first | done | rfl | (simp only [List.length_drop, List.length_take]; rfl)) ?_; (with_reducible refine (rt_number.calls kj19 a0 a1 t313 t314 t315 t316 t317 t318 t319 _ A29.out).mono ?_); rintro e w30 ⟨rfl, hb⟩; refine ⟨_, rfl, ?_⟩; have n0_ := Aside0.mk (blk_below (g := gb287) (o := .cells #[.int .i64 0, .int .i64 0, .string (⟨#[]⟩ : ByteArray), .int .i64 0] 33 (0, 0)) (by (with_reducible repeat (first | refine blk_drewN ?_ _ | refine blk_drew ?_ | refine blk_alloc ?_ _)); exact BK287.out) hb); have n1_ := Aside0.mk (below_step (by repeat (first | (with_reducible first | exact HB.out | apply below_alloc | apply pw_below_drewN | apply below_drew1 | refine below_set ?_ GE287.out) | exact HB.out)) hb); clear BK287; clear HB; have BK287 := n0_; have HB := n1_; clear n0_ n1_; (try clear hb); (try clear hb2); (try clear hk); (try clear hi); have hcz31_0 : w30.cell? ⟨gb287, 0, none⟩ = some (.int .i64 0) := (blk_cell BK287.out 0).trans rfl; have hcz31_1 : w30.cell? ⟨gb287, 1, none⟩ = some (.int .i64 0) := (blk_cell BK287.out 1).trans rfl; have hcz31_2 : w30.cell? ⟨gb287, 2, none⟩ = some (.string (⟨#[]⟩ : ByteArray)) := (blk_cell BK287.out 2).trans rfl; have hcz31_3 : w30.cell? ⟨gb287, 3, none⟩ = some (.int .i64 0) := (blk_cell BK287.out 3).trans rfl; have hfz31_0 := blk_frozen BK287.out 0; have hfz31_1 := blk_frozen BK287.out 1; have hfz31_2 := blk_frozen BK287.out 2; have hfz31_3 := blk_frozen BK287.out 3))
           refine bodyPost_ret (results_list (rs := [.cell 4 33, .tmp 5, .tmp 6, .tmp 7]) rfl (by simp) (.cell gb287 33 #[.int .i64 t313, .int .i64 t314, .string t315, .int .i64 t316] (0, 0) _ rfl (by (with_reducible repeat (first | refine blk_drewN ?_ _ | refine blk_drew ?_ | refine blk_alloc ?_ _)); refine blk_put (cs := #[.int .i64 t313, .int .i64 t314, .string t315, .int .i64 0]) ?_ 3 _ rfl; (with_reducible repeat (first | refine blk_drewN ?_ _ | refine blk_drew ?_ | refine blk_alloc ?_ _)); refine blk_put (cs := #[.int .i64 t313, .int .i64 t314, .string (⟨#[]⟩ : ByteArray), .int .i64 0]) ?_ 2 _ rfl; (with_reducible repeat (first | refine blk_drewN ?_ _ | refine blk_drew ?_ | refine blk_alloc ?_ _)); refine blk_put (cs := #[.int .i64 t313, .int .i64 0, .string (⟨#[]⟩ : ByteArray), .int .i64 0]) ?_ 1 _ rfl; (with_reducible repeat (first | refine blk_drewN ?_ _ | refine blk_drew ?_ | refine blk_alloc ?_ _)); refine blk_put (cs := #[.int .i64 0, .int .i64 0, .string (⟨#[]⟩ : ByteArray), .int .i64 0]) ?_ 0 _ rfl; (with_reducible repeat (first | refine blk_drewN ?_ _ | refine blk_drew ?_ | refine blk_alloc ?_ _)); exact BK287.out) Tryd.underlying33 rfl (by kernel_rfl) (.tmp (.tmp (.tmp .nil))))) rfl ?_
           exact ⟨by first | rfl | (simp [errW_none, errW_some] <;> rfl) | (simp [*, errW_none, errW_some] <;> rfl), by repeat (first | (with_reducible first | exact HB.out | apply below_alloc | apply pw_below_drewN | apply below_drew1 | refine below_set ?_ GE287.out) | exact HB.out)⟩
          ·replace c28 := Bool.eq_false_iff.mpr c28;subst c28;have H1 : (if (bt a0 a1) = 34 then ((rj_Next.f kj19 a0 a1).bind fun bt320 => (if bt320.2.2.2.2.2.2.2 = 0 then (some (6, a1, bt320.2.2.2.2.2.1, 0, bt320.2.2.2.2.2.2.1, 0, 0)) else (some (0, 0, (⟨#[]⟩ : ByteArray), 0, 0, bt320.2.2.2.2.2.2.1, bt320.2.2.2.2.2.2.2)))) else ((rt_signs.f).bind fun t329 => (rt_token.l0 kj19 a0 a1 t329 0))) = some (r1, r2, r3, r4, r5, r6, r7) := by rw [if_neg (show ¬ (false = true) by decide)] at H; exact H
           clear H;have H := H1;clear H1;by_cases c32 : (bt a0 a1) = 34
           ·rw [if_pos c32] at H;have c32b0 : ((bt a0 a1) == 34) = true := beq_iff_eq.mpr c32;have c32b1 : ((bt a0 a1) != 34) = false := bne_eq_false_iff_eq.mpr c32;clear c32;replace H := Option.bind_eq_some_iff.mp H;obtain ⟨⟨t320, t321, t322, t323, t324, t325, t326, t327⟩, A330, H⟩ := H;replace H : (if t327 = 0 then (some (6, a1, t325, 0, t326, 0, 0)) else (some (0, 0, (⟨#[]⟩ : ByteArray), 0, 0, t326, t327))) = some (r1, r2, r3, r4, r5, r6, r7) := H
            have A33 := Aside0.mk A330;clear A330;by_cases c34 : t327 = 0
            ·rw [if_pos c34] at H;have c34b0 : (t327 == 0) = true := beq_iff_eq.mpr c34;have c34b1 : (t327 != 0) = false := bne_eq_false_iff_eq.mpr c34;clear c34;simp only [Option.some.injEq, Prod.mk.injEq] at H;obtain ⟨rfl, rfl, rfl, rfl, rfl, rfl, rfl⟩ := H
             go_wp2_with (first | ((with_reducible refine gate_callee (f := 35) rfl ?_); refine goesL_ (some 72) rfl rfl Tryd.func35 (by kernel_rfl) rfl #[.int .u8 (bt a0 a1)] rfl (by (try simp only [List.map_toArray, List.map_cons, List.map_nil]); first | done | rfl | (simp only [List.length_drop, List.length_take]; rfl)) ?_; (with_reducible refine (rt_digit.calls (bt a0 a1) false _ A27.out).mono ?_); rintro e w' ⟨rfl, ⟨nd, rfl⟩⟩; refine ⟨_, rfl, ?_⟩; (try (rw [drewN_self wc]; generalize hq_ : World.drewN wc _ = wc; have n0_ : Aside0 (wc.heap[gb287]? = some (.cells #[.int .i64 0, .int .i64 0, .string (⟨#[]⟩ : ByteArray), .int .i64 0] 33 (0, 0))) := ⟨by rw [← hq_]; exact (by (with_reducible repeat (first | refine blk_drewN ?_ _ | refine blk_drew ?_ | refine blk_alloc ?_ _)); exact BK287.out)⟩; have n1_ : Aside0 (Below w.heap.size w wc) := ⟨by rw [← hq_]; exact (by repeat (first | (with_reducible first | exact HB.out | apply below_alloc | apply pw_below_drewN | apply below_drew1 | refine below_set ?_ GE287.out) | exact HB.out))⟩; clear BK287 HB hq_; have BK287 := n0_; have HB := n1_; clear n0_ n1_))) | ((with_reducible refine gate_callee (f := 37) rfl ?_); refine goesL_ (some 86) rfl rfl Tryd.func37 (by kernel_rfl) rfl #[.string a0, .int .i64 a1] rfl (by (try simp only [List.map_toArray, List.map_cons, List.map_nil]); first | done | rfl | (simp only [List.length_drop, List.length_take]; rfl)) ?_; (with_reducible refine (rj_Next.calls kj19 a0 a1 t320 t321 t322 t323 t324 t325 t326 t327 _ A33.out).mono ?_); rintro e w35 ⟨rfl, hb⟩; refine ⟨_, rfl, ?_⟩; have n0_ := Aside0.mk (blk_below (g := gb287) (o := .cells #[.int .i64 0, .int .i64 0, .string (⟨#[]⟩ : ByteArray), .int .i64 0] 33 (0, 0)) (by (with_reducible repeat (first | refine blk_drewN ?_ _ | refine blk_drew ?_ | refine blk_alloc ?_ _)); exact BK287.out) hb); have n1_ := Aside0.mk (below_step (by repeat (first | (with_reducible first | exact HB.out | apply below_alloc | apply pw_below_drewN | apply below_drew1 | refine below_set ?_ GE287.out) | exact HB.out)) hb); clear BK287; clear HB; have BK287 := n0_; have HB := n1_; clear n0_ n1_; (try clear hb); (try clear hb2); (try clear hk); (try clear hi)) | ((with_reducible refine gate_dst (N := 9) rfl ?_); (try (refine gate_guard (by rfl) ?_; dsimp only)); refine box_event ?hg (N := 9) ?hd (cs := #[.int .i64 0, .int .i64 0, .int .i64 0, .int .u8 0, .int .i64 0, .string (⟨#[]⟩ : ByteArray)]) (t := 46) ?hr ?_; (case hd => rfl); (case hg => rfl); (case hr => first | (go_simp; done) | (go_simp; rfl)); intro gb328 hg w36 hbox hb; have n0_ := Aside0.mk (blk_below (g := gb287) (o := .cells #[.int .i64 0, .int .i64 0, .string (⟨#[]⟩ : ByteArray), .int .i64 0] 33 (0, 0)) (by (with_reducible repeat (first | refine blk_drewN ?_ _ | refine blk_drew ?_ | refine blk_alloc ?_ _)); exact BK287.out) hb); have n1_ := Aside0.mk (below_step (by repeat (first | (with_reducible first | exact HB.out | apply below_alloc | apply pw_below_drewN | apply below_drew1 | refine below_set ?_ GE287.out) | exact HB.out)) hb); have n2_ := Aside0.mk (hbox); have n3_ := Aside0.mk ((by rw [hg]; exact (below_size (by repeat (first | (with_reducible first | exact HB.out | apply below_alloc | apply pw_below_drewN | apply below_drew1 | refine below_set ?_ GE287.out) | exact HB.out))) : w.heap.size ≤ gb328)); have n4_ := Aside0.mk ((by rw [hg]; exact (below_size (by repeat (first | (with_reducible first | exact HB.out | apply below_alloc | apply pw_below_drewN | apply below_drew1 | refine below_set ?_ GE287.out) | exact HB.out))) : w.heap.size ≤ gb328)); have n5_ := Aside0.mk ((by rw [hg]; exact Nat.ne_of_lt (blk_lt (g := gb287) (o := .cells #[.int .i64 0, .int .i64 0, .string (⟨#[]⟩ : ByteArray), .int .i64 0] 33 (0, 0)) (by (with_reducible repeat (first | refine blk_drewN ?_ _ | refine blk_drew ?_ | refine blk_alloc ?_ _)); exact BK287.out)) : gb287 ≠ gb328)); have n6_ := Aside0.mk ((by rw [hg]; exact Nat.ne_of_gt (blk_lt (g := gb287) (o := .cells #[.int .i64 0, .int .i64 0, .string (⟨#[]⟩ : ByteArray), .int .i64 0] 33 (0, 0)) (by (with_reducible repeat (first | refine blk_drewN ?_ _ | refine blk_drew ?_ | refine blk_alloc ?_ _)); exact BK287.out)) : gb328 ≠ gb287)); clear BK287; clear HB; have BK287 := n0_; have HB := n1_; have BK328 := n2_; have GW328 := n3_; have GE328 := n4_; have NB287_328 := n5_; have NB328_287 := n6_; clear n0_ n1_ n2_ n3_ n4_ n5_ n6_; clear hb hbox hg; have hnb37 := NB328_287.out; have hnc37 := NB287_328.out; have hcz38_0 : w36.cell? ⟨gb328, 0, none⟩ = some (.int .i64 0) := (blk_cell BK328.out 0).trans rfl; have hcz38_1 : w36.cell? ⟨gb328, 1, none⟩ = some (.int .i64 0) := (blk_cell BK328.out 1).trans rfl; have hcz38_2 : w36.cell? ⟨gb328, 2, none⟩ = some (.int .i64 0) := (blk_cell BK328.out 2).trans rfl; have hcz38_3 : w36.cell? ⟨gb328, 3, none⟩ = some (.int .u8 0) := (blk_cell BK328.out 3).trans rfl; have hcz38_4 : w36.cell? ⟨gb328, 4, none⟩ = some (.int .i64 0) := (blk_cell BK328.out 4).trans rfl; have hcz38_5 : w36.cell? ⟨gb328, 5, none⟩ = some (.string (⟨#[]⟩ : ByteArray)) := (blk_cell BK328.out 5).trans rfl; have hfz38_0 := blk_frozen BK328.out 0; have hfz38_1 := blk_frozen BK328.out 1; have hfz38_2 := blk_frozen BK328.out 2; have hfz38_3 := blk_frozen BK328.out 3; have hfz38_4 := blk_frozen BK328.out 4; have hfz38_5 := blk_frozen BK328.out 5; have hcz39_0 : w36.cell? ⟨gb287, 0, none⟩ = some (.int .i64 0) := (blk_cell BK287.out 0).trans rfl; have hcz39_1 : w36.cell? ⟨gb287, 1, none⟩ = some (.int .i64 0) := (blk_cell BK287.out 1).trans rfl; have hcz39_2 : w36.cell? ⟨gb287, 2, none⟩ = some (.string (⟨#[]⟩ : ByteArray)) := (blk_cell BK287.out 2).trans rfl; have hcz39_3 : w36.cell? ⟨gb287, 3, none⟩ = some (.int .i64 0) := (blk_cell BK287.out 3).trans rfl; have hfz39_0 := blk_frozen BK287.out 0; have hfz39_1 := blk_frozen BK287.out 1; have hfz39_2 := blk_frozen BK287.out 2; have hfz39_3 := blk_frozen BK287.out 3))
             refine bodyPost_ret (results_list (rs := [.cell 4 33, .tmp 5, .tmp 6, .tmp 7]) rfl (by simp) (.cell gb287 33 #[.int .i64 6, .int .i64 a1, .string t325, .int .i64 0] (0, 0) _ rfl (by (with_reducible repeat (first | refine blk_drewN ?_ _ | refine blk_drew ?_ | refine blk_alloc ?_ _)); refine blk_put (cs := #[.int .i64 6, .int .i64 a1, .string t325, .int .i64 0]) ?_ 3 _ rfl; (with_reducible repeat (first | refine blk_drewN ?_ _ | refine blk_drew ?_ | refine blk_alloc ?_ _)); refine blk_put (cs := #[.int .i64 6, .int .i64 a1, .string (⟨#[]⟩ : ByteArray), .int .i64 0]) ?_ 2 _ rfl; (with_reducible repeat (first | refine blk_drewN ?_ _ | refine blk_drew ?_ | refine blk_alloc ?_ _)); refine blk_put (cs := #[.int .i64 6, .int .i64 0, .string (⟨#[]⟩ : ByteArray), .int .i64 0]) ?_ 1 _ rfl; (with_reducible repeat (first | refine blk_drewN ?_ _ | refine blk_drew ?_ | refine blk_alloc ?_ _)); refine blk_put (cs := #[.int .i64 0, .int .i64 0, .string (⟨#[]⟩ : ByteArray), .int .i64 0]) ?_ 0 _ rfl; (with_reducible repeat (first | refine blk_drewN ?_ _ | refine blk_drew ?_ | refine blk_alloc ?_ _)); refine blk_far ?_ NB287_328.out _; (with_reducible repeat (first | refine blk_drewN ?_ _ | refine blk_drew ?_ | refine blk_alloc ?_ _)); refine blk_far ?_ NB287_328.out _; (with_reducible repeat (first | refine blk_drewN ?_ _ | refine blk_drew ?_ | refine blk_alloc ?_ _)); refine blk_far ?_ NB287_328.out _; (with_reducible repeat (first | refine blk_drewN ?_ _ | refine blk_drew ?_ | refine blk_alloc ?_ _)); refine blk_far ?_ NB287_328.out _; (with_reducible repeat (first | refine blk_drewN ?_ _ | refine blk_drew ?_ | refine blk_alloc ?_ _)); refine blk_far ?_ NB287_328.out _; (with_reducible repeat (first | refine blk_drewN ?_ _ | refine blk_drew ?_ | refine blk_alloc ?_ _)); refine blk_far ?_ NB287_328.out _; (with_reducible repeat (first | refine blk_drewN ?_ _ | refine blk_drew ?_ | refine blk_alloc ?_ _)); exact BK287.out) Tryd.underlying33 rfl (by kernel_rfl) (.tmp (.tmp (.tmp .nil))))) rfl ?_
             exact ⟨by first | rfl | (simp [errW_none, errW_some] <;> rfl) | (simp [*, errW_none, errW_some] <;> rfl), by repeat (first | (with_reducible first | exact HB.out | apply below_alloc | apply pw_below_drewN | apply below_drew1 | refine below_set ?_ GE287.out | refine below_set ?_ GE328.out) | exact HB.out)⟩
            ·rw [if_neg c34] at H;have c34b0 : (t327 == 0) = false := beq_eq_false_iff_ne.mpr c34;have c34b1 : (t327 != 0) = true := bne_iff_ne.mpr c34;simp only [Option.some.injEq, Prod.mk.injEq] at H;obtain ⟨rfl, rfl, rfl, rfl, rfl, rfl, rfl⟩ := H
             go_wp2_with (first | ((with_reducible refine gate_callee (f := 35) rfl ?_); refine goesL_ (some 72) rfl rfl Tryd.func35 (by kernel_rfl) rfl #[.int .u8 (bt a0 a1)] rfl (by (try simp only [List.map_toArray, List.map_cons, List.map_nil]); first | done | rfl | (simp only [List.length_drop, List.length_take]; rfl)) ?_; (with_reducible refine (rt_digit.calls (bt a0 a1) false _ A27.out).mono ?_); rintro e w' ⟨rfl, ⟨nd, rfl⟩⟩; refine ⟨_, rfl, ?_⟩; (try (rw [drewN_self wc]; generalize hq_ : World.drewN wc _ = wc; have n0_ : Aside0 (wc.heap[gb287]? = some (.cells #[.int .i64 0, .int .i64 0, .string (⟨#[]⟩ : ByteArray), .int .i64 0] 33 (0, 0))) := ⟨by rw [← hq_]; exact (by (with_reducible repeat (first | refine blk_drewN ?_ _ | refine blk_drew ?_ | refine blk_alloc ?_ _)); exact BK287.out)⟩; have n1_ : Aside0 (Below w.heap.size w wc) := ⟨by rw [← hq_]; exact (by repeat (first | (with_reducible first | exact HB.out | apply below_alloc | apply pw_below_drewN | apply below_drew1 | refine below_set ?_ GE287.out) | exact HB.out))⟩; clear BK287 HB hq_; have BK287 := n0_; have HB := n1_; clear n0_ n1_))) | ((with_reducible refine gate_callee (f := 37) rfl ?_); refine goesL_ (some 86) rfl rfl Tryd.func37 (by kernel_rfl) rfl #[.string a0, .int .i64 a1] rfl (by (try simp only [List.map_toArray, List.map_cons, List.map_nil]); first | done | rfl | (simp only [List.length_drop, List.length_take]; rfl)) ?_; (with_reducible refine (rj_Next.calls kj19 a0 a1 t320 t321 t322 t323 t324 t325 t326 t327 _ A33.out).mono ?_); rintro e w40 ⟨rfl, hb⟩; refine ⟨_, rfl, ?_⟩; have n0_ := Aside0.mk (blk_below (g := gb287) (o := .cells #[.int .i64 0, .int .i64 0, .string (⟨#[]⟩ : ByteArray), .int .i64 0] 33 (0, 0)) (by (with_reducible repeat (first | refine blk_drewN ?_ _ | refine blk_drew ?_ | refine blk_alloc ?_ _)); exact BK287.out) hb); have n1_ := Aside0.mk (below_step (by repeat (first | (with_reducible first | exact HB.out | apply below_alloc | apply pw_below_drewN | apply below_drew1 | refine below_set ?_ GE287.out) | exact HB.out)) hb); clear BK287; clear HB; have BK287 := n0_; have HB := n1_; clear n0_ n1_; (try clear hb); (try clear hb2); (try clear hk); (try clear hi)) | ((with_reducible refine gate_dst (N := 9) rfl ?_); (try (refine gate_guard (by rfl) ?_; dsimp only)); refine box_event ?hg (N := 9) ?hd (cs := #[.int .i64 0, .int .i64 0, .int .i64 0, .int .u8 0, .int .i64 0, .string (⟨#[]⟩ : ByteArray)]) (t := 46) ?hr ?_; (case hd => rfl); (case hg => rfl); (case hr => first | (go_simp; done) | (go_simp; rfl)); intro gb328 hg w41 hbox hb; have n0_ := Aside0.mk (blk_below (g := gb287) (o := .cells #[.int .i64 0, .int .i64 0, .string (⟨#[]⟩ : ByteArray), .int .i64 0] 33 (0, 0)) (by (with_reducible repeat (first | refine blk_drewN ?_ _ | refine blk_drew ?_ | refine blk_alloc ?_ _)); exact BK287.out) hb); have n1_ := Aside0.mk (below_step (by repeat (first | (with_reducible first | exact HB.out | apply below_alloc | apply pw_below_drewN | apply below_drew1 | refine below_set ?_ GE287.out) | exact HB.out)) hb); have n2_ := Aside0.mk (hbox); have n3_ := Aside0.mk ((by rw [hg]; exact (below_size (by repeat (first | (with_reducible first | exact HB.out | apply below_alloc | apply pw_below_drewN | apply below_drew1 | refine below_set ?_ GE287.out) | exact HB.out))) : w.heap.size ≤ gb328)); have n4_ := Aside0.mk ((by rw [hg]; exact (below_size (by repeat (first | (with_reducible first | exact HB.out | apply below_alloc | apply pw_below_drewN | apply below_drew1 | refine below_set ?_ GE287.out) | exact HB.out))) : w.heap.size ≤ gb328)); have n5_ := Aside0.mk ((by rw [hg]; exact Nat.ne_of_lt (blk_lt (g := gb287) (o := .cells #[.int .i64 0, .int .i64 0, .string (⟨#[]⟩ : ByteArray), .int .i64 0] 33 (0, 0)) (by (with_reducible repeat (first | refine blk_drewN ?_ _ | refine blk_drew ?_ | refine blk_alloc ?_ _)); exact BK287.out)) : gb287 ≠ gb328)); have n6_ := Aside0.mk ((by rw [hg]; exact Nat.ne_of_gt (blk_lt (g := gb287) (o := .cells #[.int .i64 0, .int .i64 0, .string (⟨#[]⟩ : ByteArray), .int .i64 0] 33 (0, 0)) (by (with_reducible repeat (first | refine blk_drewN ?_ _ | refine blk_drew ?_ | refine blk_alloc ?_ _)); exact BK287.out)) : gb328 ≠ gb287)); clear BK287; clear HB; have BK287 := n0_; have HB := n1_; have BK328 := n2_; have GW328 := n3_; have GE328 := n4_; have NB287_328 := n5_; have NB328_287 := n6_; clear n0_ n1_ n2_ n3_ n4_ n5_ n6_; clear hb hbox hg; have hnb42 := NB328_287.out; have hnc42 := NB287_328.out; have hcz43_0 : w41.cell? ⟨gb328, 0, none⟩ = some (.int .i64 0) := (blk_cell BK328.out 0).trans rfl; have hcz43_1 : w41.cell? ⟨gb328, 1, none⟩ = some (.int .i64 0) := (blk_cell BK328.out 1).trans rfl; have hcz43_2 : w41.cell? ⟨gb328, 2, none⟩ = some (.int .i64 0) := (blk_cell BK328.out 2).trans rfl; have hcz43_3 : w41.cell? ⟨gb328, 3, none⟩ = some (.int .u8 0) := (blk_cell BK328.out 3).trans rfl; have hcz43_4 : w41.cell? ⟨gb328, 4, none⟩ = some (.int .i64 0) := (blk_cell BK328.out 4).trans rfl; have hcz43_5 : w41.cell? ⟨gb328, 5, none⟩ = some (.string (⟨#[]⟩ : ByteArray)) := (blk_cell BK328.out 5).trans rfl; have hfz43_0 := blk_frozen BK328.out 0; have hfz43_1 := blk_frozen BK328.out 1; have hfz43_2 := blk_frozen BK328.out 2; have hfz43_3 := blk_frozen BK328.out 3; have hfz43_4 := blk_frozen BK328.out 4; have hfz43_5 := blk_frozen BK328.out 5; have hcz44_0 : w41.cell? ⟨gb287, 0, none⟩ = some (.int .i64 0) := (blk_cell BK287.out 0).trans rfl; have hcz44_1 : w41.cell? ⟨gb287, 1, none⟩ = some (.int .i64 0) := (blk_cell BK287.out 1).trans rfl; have hcz44_2 : w41.cell? ⟨gb287, 2, none⟩ = some (.string (⟨#[]⟩ : ByteArray)) := (blk_cell BK287.out 2).trans rfl; have hcz44_3 : w41.cell? ⟨gb287, 3, none⟩ = some (.int .i64 0) := (blk_cell BK287.out 3).trans rfl; have hfz44_0 := blk_frozen BK287.out 0; have hfz44_1 := blk_frozen BK287.out 1; have hfz44_2 := blk_frozen BK287.out 2; have hfz44_3 := blk_frozen BK287.out 3))
             refine bodyPost_ret (results_list (rs := [.cell 4 33, .tmp 5, .tmp 6, .tmp 7]) rfl (by simp) (.cell gb287 33 #[.int .i64 0, .int .i64 0, .string (⟨#[]⟩ : ByteArray), .int .i64 0] (0, 0) _ rfl (by (with_reducible repeat (first | refine blk_drewN ?_ _ | refine blk_drew ?_ | refine blk_alloc ?_ _)); refine blk_put (cs := #[.int .i64 0, .int .i64 0, .string (⟨#[]⟩ : ByteArray), .int .i64 0]) ?_ 3 _ rfl; (with_reducible repeat (first | refine blk_drewN ?_ _ | refine blk_drew ?_ | refine blk_alloc ?_ _)); refine blk_put (cs := #[.int .i64 0, .int .i64 0, .string (⟨#[]⟩ : ByteArray), .int .i64 0]) ?_ 2 _ rfl; (with_reducible repeat (first | refine blk_drewN ?_ _ | refine blk_drew ?_ | refine blk_alloc ?_ _)); refine blk_put (cs := #[.int .i64 0, .int .i64 0, .string (⟨#[]⟩ : ByteArray), .int .i64 0]) ?_ 1 _ rfl; (with_reducible repeat (first | refine blk_drewN ?_ _ | refine blk_drew ?_ | refine blk_alloc ?_ _)); refine blk_put (cs := #[.int .i64 0, .int .i64 0, .string (⟨#[]⟩ : ByteArray), .int .i64 0]) ?_ 0 _ rfl; (with_reducible repeat (first | refine blk_drewN ?_ _ | refine blk_drew ?_ | refine blk_alloc ?_ _)); refine blk_far ?_ NB287_328.out _; (with_reducible repeat (first | refine blk_drewN ?_ _ | refine blk_drew ?_ | refine blk_alloc ?_ _)); refine blk_far ?_ NB287_328.out _; (with_reducible repeat (first | refine blk_drewN ?_ _ | refine blk_drew ?_ | refine blk_alloc ?_ _)); refine blk_far ?_ NB287_328.out _; (with_reducible repeat (first | refine blk_drewN ?_ _ | refine blk_drew ?_ | refine blk_alloc ?_ _)); refine blk_far ?_ NB287_328.out _; (with_reducible repeat (first | refine blk_drewN ?_ _ | refine blk_drew ?_ | refine blk_alloc ?_ _)); refine blk_far ?_ NB287_328.out _; (with_reducible repeat (first | refine blk_drewN ?_ _ | refine blk_drew ?_ | refine blk_alloc ?_ _)); refine blk_far ?_ NB287_328.out _; (with_reducible repeat (first | refine blk_drewN ?_ _ | refine blk_drew ?_ | refine blk_alloc ?_ _)); exact BK287.out) Tryd.underlying33 rfl (by kernel_rfl) (.tmp (.tmp (.tmp .nil))))) rfl ?_
             exact ⟨by first | rfl | (simp [errW_none, errW_some] <;> rfl) | (simp [*, errW_none, errW_some] <;> rfl), by repeat (first | (with_reducible first | exact HB.out | apply below_alloc | apply pw_below_drewN | apply below_drew1 | refine below_set ?_ GE287.out | refine below_set ?_ GE328.out) | exact HB.out)⟩
           ·rw [if_neg c32] at H;have c32b0 : ((bt a0 a1) == 34) = false := beq_eq_false_iff_ne.mpr c32;have c32b1 : ((bt a0 a1) != 34) = true := bne_iff_ne.mpr c32;replace H := Option.bind_eq_some_iff.mp H;obtain ⟨t329, A450, H⟩ := H;replace H : (rt_token.l0 kj19 a0 a1 t329 0) = some (r1, r2, r3, r4, r5, r6, r7) := H;have A45 := Aside0.mk A450;clear A450;have H' := Aside0.mk H;clear H
            go_wp2_with (first | ((with_reducible refine gate_callee (f := 35) rfl ?_); refine goesL_ (some 72) rfl rfl Tryd.func35 (by kernel_rfl) rfl #[.int .u8 (bt a0 a1)] rfl (by (try simp only [List.map_toArray, List.map_cons, List.map_nil]); first | done | rfl | (simp only [List.length_drop, List.length_take]; rfl)) ?_; (with_reducible refine (rt_digit.calls (bt a0 a1) false _ A27.out).mono ?_); rintro e w' ⟨rfl, ⟨nd, rfl⟩⟩; refine ⟨_, rfl, ?_⟩) | ((with_reducible refine gate_callee (f := 38) rfl ?_); refine goesL_ (some 100) rfl rfl Tryd.func38 (by kernel_rfl) rfl #[] rfl (by (try simp only [List.map_toArray, List.map_cons, List.map_nil]); first | done | rfl | (simp only [List.length_drop, List.length_take]; rfl)) ?_; (with_reducible refine (rt_signs.calls  t329 _ A45.out).mono ?_); rintro e w46 ⟨v330, rfl, ho0, hb⟩; refine ⟨_, rfl, ?_⟩; have n0_ := Aside0.mk (Kd.R_lower ho0 (below_size (by repeat (first | (with_reducible first | exact HB.out | apply below_alloc | apply pw_below_drewN | apply below_drew1 | refine below_set ?_ GE287.out) | exact HB.out)))); have n1_ := Aside0.mk (blk_below (g := gb287) (o := .cells #[.int .i64 0, .int .i64 0, .string (⟨#[]⟩ : ByteArray), .int .i64 0] 33 (0, 0)) (by (with_reducible repeat (first | refine blk_drewN ?_ _ | refine blk_drew ?_ | refine blk_alloc ?_ _)); exact BK287.out) hb); have n2_ := Aside0.mk (below_step (by repeat (first | (with_reducible first | exact HB.out | apply below_alloc | apply pw_below_drewN | apply below_drew1 | refine below_set ?_ GE287.out) | exact HB.out)) hb); clear BK287; clear HB; have HO331 := n0_; have BK287 := n1_; have HB := n2_; clear n0_ n1_ n2_; (try clear hb); (try clear hb2); (try clear hk); (try clear hi); (try clear ho0)))
            go_loopg [13] kj19 (fun kq v13 w' => ∃ (x13_3 : Int) (x288000_3 : Int) (x288001_3 : Int) (x288002_3 : ByteArray) (x288003_3 : Int), v13 = .int .i64 x13_3 ∧ Aside0 (rt_token.l0 kq a0 a1 t329 x13_3 = some (r1, r2, r3, r4, r5, r6, r7)) ∧ Aside0 (kq ≤ kj19) ∧ Aside0 (Kd.R Kd.string 9 w' w.heap.size (fun _ => True) v330 t329) ∧ Aside0 (w'.heap[gb287]? = some (.cells #[.int .i64 x288000_3, .int .i64 x288001_3, .string x288002_3, .int .i64 x288003_3] 33 (0, 0))) ∧ Aside0 (Below w.heap.size w w'))
            case atStart => exact ⟨(0), (0), (0), ((⟨#[]⟩ : ByteArray)), (0), (by first | rfl | (simp; done) | (simp [*]; done)), H', ⟨Nat.le_refl _⟩, ⟨by (with_reducible repeat (first | apply Kd.R_alloc | apply Kd.R_drewN | apply Kd.R_drew)); exact HO331.out⟩, ⟨by (with_reducible repeat (first | refine blk_drewN ?_ _ | refine blk_drew ?_ | refine blk_alloc ?_ _)); exact BK287.out⟩, ⟨by repeat (first | (with_reducible first | exact HB.out | apply below_alloc | apply pw_below_drewN | apply below_drew1 | refine below_set ?_ GE287.out) | exact HB.out)⟩⟩
            case round =>
             clear H';try clear c1
             try clear c2
             try clear p2
             try clear c3
             try clear c3b0
             try clear c4
             try clear c4b0
             try clear p5
             try clear q5
             try clear hx5
             try clear p6
             try clear c7
             try clear c14
             try clear c14b0
             try clear c14b1
             try clear c16
             try clear c21
             try clear c21b0
             try clear c21b1
             try clear c22
             try clear c23
             try clear c28
             try clear c32
             try clear c32b0
             try clear c32b1
             try clear c33
             try clear c34
             try clear c34b0
             try clear c34b1
             try clear c35
             try clear c36
             try clear c37
             try clear c38
             try clear c42
             try clear hcz11_0
             try clear hcz11_1
             try clear hcz11_2
             try clear hcz11_3
             try clear hcz19_0
             try clear hcz19_1
             try clear hcz19_2
             try clear hcz19_3
             try clear hcz26_0
             try clear hcz26_1
             try clear hcz26_2
             try clear hcz26_3
             try clear hcz31_0
             try clear hcz31_1
             try clear hcz31_2
             try clear hcz31_3
             try clear hcz38_0
             try clear hcz38_1
             try clear hcz38_2
             try clear hcz38_3
             try clear hcz38_4
             try clear hcz38_5
             try clear hcz39_0
             try clear hcz39_1
             try clear hcz39_2
             try clear hcz39_3
             try clear hcz43_0
             try clear hcz43_1
             try clear hcz43_2
             try clear hcz43_3
             try clear hcz43_4
             try clear hcz43_5
             try clear hcz44_0
             try clear hcz44_1
             try clear hcz44_2
             try clear hcz44_3
             try clear hfz11_0
             try clear hfz11_1
             try clear hfz11_2
             try clear hfz11_3
             try clear hfz19_0
             try clear hfz19_1
             try clear hfz19_2
             try clear hfz19_3
             try clear hfz26_0
             try clear hfz26_1
             try clear hfz26_2
             try clear hfz26_3
             try clear hfz31_0
             try clear hfz31_1
             try clear hfz31_2
             try clear hfz31_3
             try clear hfz38_0
             try clear hfz38_1
             try clear hfz38_2
             try clear hfz38_3
             try clear hfz38_4
             try clear hfz38_5
             try clear hfz39_0
             try clear hfz39_1
             try clear hfz39_2
             try clear hfz39_3
             try clear hfz43_0
             try clear hfz43_1
             try clear hfz43_2
             try clear hfz43_3
             try clear hfz43_4
             try clear hfz43_5
             try clear hfz44_0
             try clear hfz44_1
             try clear hfz44_2
             try clear hfz44_3
             try clear p2
             try clear p5
             try clear p6
             try clear q5
             obtain ⟨x13_3, x288000_3, x288001_3, x288002_3, x288003_3, rfl, HA, HK3, HO_12, BK287, HB⟩ := hrel;cases gk with
             | zero => exact absurd HA.out (by simp [rt_token.l0])
             | succ k3 =>
              have H := HA.out;clear HA;simp only [rt_token.l0] at H;by_cases c47 : x13_3 < (t329.length : Int)
              ·rw [if_pos c47] at H;have c47b0 : decide (x13_3 < (t329.length : Int)) = true := decide_eq_true c47;clear c47;by_cases c48 : 0 ≤ x13_3
               ·rw [if_pos c48] at H;have c48b0 : decide (0 ≤ x13_3) = true := decide_eq_true c48;clear c48;by_cases c49 : (wrap64 ((a0.size : Int) - a1)) ≥ ((rdOf ByteArray.empty t329 x13_3).size : Int)
                ·rw [if_pos c49] at H;have c49b0 : decide (((rdOf ByteArray.empty t329 x13_3).size : Int) ≤ (wrap64 ((a0.size : Int) - a1))) = true := decide_eq_true c49;clear c49;by_cases c50 : 0 ≤ a1
                 ·rw [if_pos c50] at H;have c50b0 := eq_true c50;have c50b1 : decide (0 ≤ a1) = true := decide_eq_true c50;clear c50;by_cases c51 : a1 ≤ (wrap64 (a1 + ((rdOf ByteArray.empty t329 x13_3).size : Int)))
                  ·rw [if_pos c51] at H;have c51b0 := eq_true c51;have c51b1 : decide (a1 ≤ (wrap64 (a1 + ((rdOf ByteArray.empty t329 x13_3).size : Int)))) = true := decide_eq_true c51;by_cases c52 : (wrap64 (a1 + ((rdOf ByteArray.empty t329 x13_3).size : Int))) ≤ (a0.size : Int)
                   ·rw [if_pos c52] at H;have c52b0 := eq_true c52;have c52b1 : decide ((wrap64 (a1 + ((rdOf ByteArray.empty t329 x13_3).size : Int))) ≤ (a0.size : Int)) = true := decide_eq_true c52;by_cases c53 : (a0.extract (a1 : Int).toNat ((wrap64 (a1 + ((rdOf ByteArray.empty t329 x13_3).size : Int))) : Int).toNat).toList = (rdOf ByteArray.empty t329 x13_3).toList
                    ·rw [if_pos c53] at H;have c53b0 : ((a0.extract (a1 : Int).toNat ((wrap64 (a1 + ((rdOf ByteArray.empty t329 x13_3).size : Int))) : Int).toNat).toList == (rdOf ByteArray.empty t329 x13_3).toList) = true := beq_iff_eq.mpr c53;have c53b1 : ((a0.extract (a1 : Int).toNat ((wrap64 (a1 + ((rdOf ByteArray.empty t329 x13_3).size : Int))) : Int).toNat).toList != (rdOf ByteArray.empty t329 x13_3).toList) = false := bne_eq_false_iff_eq.mpr c53;clear c53;simp only [Option.some.injEq, Prod.mk.injEq] at H;obtain ⟨rfl, rfl, rfl, rfl, rfl, rfl, rfl⟩ := H
                     obtain ⟨Ao54, co54, eo54⟩ := Kd.R_slice HO_12.out;subst eo54;try go_wp2
                     have n0_ := Aside0.mk (Kd.R_drew HO_12.out);have n1_ := Aside0.mk (blk_drew BK287.out);have n2_ := Aside0.mk (below_drew1 HB.out);clear HO_12;clear BK287;clear HB;have HO_12 := n0_;have BK287 := n1_;have HB := n2_;clear n0_ n1_ n2_;have p332 : 0 ≤ (x13_3 : Int) := of_decide_eq_true (by first | (with_reducible assumption) | assumption)
                     have q332 : x13_3 < (t329.length : Int) := of_decide_eq_true (by first | (with_reducible assumption) | assumption)
                     obtain ⟨ad332, e332, hx332_0⟩ := Kd.at_string (Kd.R_reads' HO_12.out).2.2 x13_3 p332 q332;cases e332;replace p332 := eq_true p332;replace q332 := eq_true q332;have p333 : 0 ≤ (x13_3 : Int) := of_decide_eq_true (by first | (with_reducible assumption) | assumption)
                     have q333 : x13_3 < (t329.length : Int) := of_decide_eq_true (by first | (with_reducible assumption) | assumption)
                     obtain ⟨ad333, e333, hx333_0⟩ := Kd.at_string (Kd.R_reads' HO_12.out).2.2 x13_3 p333 q333;obtain rfl : ad332 = ad333 := (by injection e333)
                     replace p333 := eq_true p333;replace q333 := eq_true q333;have p334 : 0 ≤ (x13_3 : Int) := of_decide_eq_true (by first | (with_reducible assumption) | assumption)
                     have q334 : x13_3 < (t329.length : Int) := of_decide_eq_true (by first | (with_reducible assumption) | assumption)
                     obtain ⟨ad334, e334, hx334_0⟩ := Kd.at_string (Kd.R_reads' HO_12.out).2.2 x13_3 p334 q334;obtain rfl : ad332 = ad334 := (by injection e334)
                     replace p334 := eq_true p334;replace q334 := eq_true q334
                     refine start_ (n := 27) (S := fun w' => w'.cell? (ad332.add (x13_3).toNat) = some (.string (rdOf ByteArray.empty t329 x13_3)) ∧ w'.cell? (ad332.add (x13_3).toNat) = some (.string (rdOf ByteArray.empty t329 x13_3)) ∧ w'.cell? (ad332.add (x13_3).toNat) = some (.string (rdOf ByteArray.empty t329 x13_3))) (ds := []) #[false, false, false, false, false, false, false, false, false, false, false, false, false, false, false, false, false, false, false, false, false, false, false, false, false, false, false] (by kernel_rfl) rfl rfl ⟨hx332_0, hx333_0, hx334_0⟩ (fun hHeld => ?_); refine with_tabW rt_token.tab19 rt_token.bits19 (fun HT_ HW_ => ?_)
                     generalize wr.drew = w55 at HO_12 BK287 HB hx332_0 hx333_0 hx334_0 hHeld ⊢;refine pure_ (i := 0) (N := some 107) (v := ?_) (a' := ?_) #[true, false, false, false, false, false, false, false, false, false, false, false, false, false, false, false, false, false, false, false, false, false, false, false, false, false, false] rfl rfl (any_of HT_.out (by kernel_rfl)) (fun _ _ _ h => h) (Or.inl ⟨by rfl, ?_⟩) ?_ ?_
                     rotate_left
                     ·intro w';go_simp
                      with_reducible rfl
                     rotate_left
                     ·simp only [Act.put, List.setIfInBounds_toArray, List.set_cons_zero, List.set_cons_succ, i64_w, i32_w];rfl
                     refine pure_ (i := 1) (N := some 108) (v := ?_) (a' := ?_) #[true, true, false, false, false, false, false, false, false, false, false, false, false, false, false, false, false, false, false, false, false, false, false, false, false, false, false] rfl rfl (any_of HT_.out (by kernel_rfl)) (fun _ _ _ h => h) (Or.inl ⟨by rfl, ?_⟩) ?_ ?_
                     rotate_left
                     ·intro w';go_simp
                      with_reducible rfl
                     rotate_left
                     ·simp only [Act.put, List.setIfInBounds_toArray, List.set_cons_zero, List.set_cons_succ, i64_w, i32_w];rfl
                     refine pure_ (i := 2) (N := some 109) (v := ?_) (a' := ?_) #[true, true, true, false, false, false, false, false, false, false, false, false, false, false, false, false, false, false, false, false, false, false, false, false, false, false, false] rfl rfl (any_of HT_.out (by kernel_rfl)) (fun _ _ _ h => h) (Or.inl ⟨by rfl, ?_⟩) ?_ ?_
                     rotate_left
                     ·intro w';go_simp
                      with_reducible rfl
                     rotate_left
                     ·simp only [Act.put, List.setIfInBounds_toArray, List.set_cons_zero, List.set_cons_succ, i64_w, i32_w];rfl
                     refine pure_ (i := 3) (N := some 110) (v := ?_) (a' := ?_) #[true, true, true, true, false, false, false, false, false, false, false, false, false, false, false, false, false, false, false, false, false, false, false, false, false, false, false] rfl rfl (any_of HT_.out (by kernel_rfl)) (fun _ _ _ h => h) (Or.inl ⟨by rfl, ?_⟩) ?_ ?_
                     rotate_left
                     ·intro w';go_simp
                      with_reducible rfl
                     rotate_left
                     ·simp only [Act.put, List.setIfInBounds_toArray, List.set_cons_zero, List.set_cons_succ, i64_w, i32_w];rfl
                     refine pure_ (i := 4) (N := some 111) (v := ?_) (a' := ?_) #[true, true, true, true, true, false, false, false, false, false, false, false, false, false, false, false, false, false, false, false, false, false, false, false, false, false, false] rfl rfl (any_of HT_.out (by kernel_rfl)) (fun _ _ _ h => h) (Or.inl ⟨by rfl, ?_⟩) ?_ ?_
                     rotate_left
                     ·intro w';go_simp
                      with_reducible rfl
                     rotate_left
                     ·simp only [Act.put, List.setIfInBounds_toArray, List.set_cons_zero, List.set_cons_succ, i64_w, i32_w];rfl
                     refine pure_ (i := 5) (N := some 112) (v := ?_) (a' := ?_) #[true, true, true, true, true, true, false, false, false, false, false, false, false, false, false, false, false, false, false, false, false, false, false, false, false, false, false] rfl rfl (any_of HT_.out (by kernel_rfl)) (fun _ _ _ h => h) (Or.inl ⟨by rfl, ?_⟩) ?_ ?_
                     rotate_left
                     ·intro w';go_simp
                      with_reducible rfl
                     rotate_left
                     ·simp only [Act.put, List.setIfInBounds_toArray, List.set_cons_zero, List.set_cons_succ, i64_w, i32_w];rfl
                     refine pure_ (i := 6) (N := some 113) (v := ?_) (a' := ?_) #[true, true, true, true, true, true, true, false, false, false, false, false, false, false, false, false, false, false, false, false, false, false, false, false, false, false, false] rfl rfl (any_of HT_.out (by kernel_rfl)) (fun _ _ _ h => h) (Or.inl ⟨by rfl, ?_⟩) ?_ ?_
                     rotate_left
                     ·intro w';go_simp
                      with_reducible rfl
                     rotate_left
                     ·simp only [Act.put, List.setIfInBounds_toArray, List.set_cons_zero, List.set_cons_succ, i64_w, i32_w];rfl
                     refine take_ (i := 7) (N := some 114) (v := ?_) (a' := ?_) #[true, true, true, true, true, true, true, true, false, false, false, false, false, false, false, false, false, false, false, false, false, false, false, false, false, false, false] rfl rfl (take_ofW HT_.out HW_.out (by kernel_rfl)) (fun _ _ _ h => h) (Or.inl ⟨by rfl, ?_⟩) hHeld ?_ ?_
                     rotate_left
                     ·rintro w' ⟨s0, s1, s2⟩;go_simp
                      with_reducible rfl
                     rotate_left
                     ·simp only [Act.put, List.setIfInBounds_toArray, List.set_cons_zero, List.set_cons_succ, i64_w, i32_w];rfl
                     refine pure_ (i := 8) (N := some 115) (v := ?_) (a' := ?_) #[true, true, true, true, true, true, true, true, true, false, false, false, false, false, false, false, false, false, false, false, false, false, false, false, false, false, false] rfl rfl (any_of HT_.out (by kernel_rfl)) (fun _ _ _ h => h) (Or.inl ⟨by rfl, ?_⟩) ?_ ?_
                     rotate_left
                     ·intro w';go_simp
                      with_reducible rfl
                     rotate_left
                     ·simp only [Act.put, List.setIfInBounds_toArray, List.set_cons_zero, List.set_cons_succ, i64_w, i32_w];rfl
                     refine pure_ (i := 9) (N := some 116) (v := ?_) (a' := ?_) #[true, true, true, true, true, true, true, true, true, true, false, false, false, false, false, false, false, false, false, false, false, false, false, false, false, false, false] rfl rfl (any_of HT_.out (by kernel_rfl)) (fun _ _ _ h => h) (Or.inl ⟨by rfl, ?_⟩) ?_ ?_
                     rotate_left
                     ·intro w';go_simp
                      with_reducible rfl
                     rotate_left
                     ·simp only [Act.put, List.setIfInBounds_toArray, List.set_cons_zero, List.set_cons_succ, i64_w, i32_w];rfl
                     refine pure_ (i := 10) (N := some 117) (v := ?_) (a' := ?_) #[true, true, true, true, true, true, true, true, true, true, true, false, false, false, false, false, false, false, false, false, false, false, false, false, false, false, false] rfl rfl (any_of HT_.out (by kernel_rfl)) (fun _ _ _ h => h) (Or.inl ⟨by rfl, ?_⟩) ?_ ?_
                     rotate_left
                     ·intro w';go_simp
                      with_reducible rfl
                     rotate_left
                     ·simp only [Act.put, List.setIfInBounds_toArray, List.set_cons_zero, List.set_cons_succ, i64_w, i32_w];rfl
                     refine pure_ (i := 11) (N := some 118) (v := ?_) (a' := ?_) #[true, true, true, true, true, true, true, true, true, true, true, true, false, false, false, false, false, false, false, false, false, false, false, false, false, false, false] rfl rfl (any_of HT_.out (by kernel_rfl)) (fun _ _ _ h => h) (Or.inl ⟨by rfl, ?_⟩) ?_ ?_
                     rotate_left
                     ·intro w';go_simp
                      with_reducible rfl
                     rotate_left
                     ·simp only [Act.put, List.setIfInBounds_toArray, List.set_cons_zero, List.set_cons_succ, i64_w, i32_w];rfl
                     refine pure_ (i := 12) (N := some 119) (v := ?_) (a' := ?_) #[true, true, true, true, true, true, true, true, true, true, true, true, true, false, false, false, false, false, false, false, false, false, false, false, false, false, false] rfl rfl (any_of HT_.out (by kernel_rfl)) (fun _ _ _ h => h) (Or.inl ⟨by rfl, ?_⟩) ?_ ?_
                     rotate_left
                     ·intro w';go_simp
                      with_reducible rfl
                     rotate_left
                     ·simp only [Act.put, List.setIfInBounds_toArray, List.set_cons_zero, List.set_cons_succ, i64_w, i32_w];rfl
                     refine pure_ (i := 13) (N := some 120) (v := ?_) (a' := ?_) #[true, true, true, true, true, true, true, true, true, true, true, true, true, true, false, false, false, false, false, false, false, false, false, false, false, false, false] rfl rfl (any_of HT_.out (by kernel_rfl)) (fun _ _ _ h => h) (Or.inl ⟨by rfl, ?_⟩) ?_ ?_
                     rotate_left
                     ·intro w';go_simp
                      with_reducible rfl
                     rotate_left
                     ·simp only [Act.put, List.setIfInBounds_toArray, List.set_cons_zero, List.set_cons_succ, i64_w, i32_w];rfl
                     refine pure_ (i := 14) (N := some 121) (v := ?_) (a' := ?_) #[true, true, true, true, true, true, true, true, true, true, true, true, true, true, true, false, false, false, false, false, false, false, false, false, false, false, false] rfl rfl (any_of HT_.out (by kernel_rfl)) (fun _ _ _ h => h) (Or.inl ⟨by rfl, ?_⟩) ?_ ?_
                     rotate_left
                     ·intro w';go_simp
                      with_reducible rfl
                     rotate_left
                     ·simp only [Act.put, List.setIfInBounds_toArray, List.set_cons_zero, List.set_cons_succ, i64_w, i32_w];rfl
                     refine pure_ (i := 15) (N := some 122) (v := ?_) (a' := ?_) #[true, true, true, true, true, true, true, true, true, true, true, true, true, true, true, true, false, false, false, false, false, false, false, false, false, false, false] rfl rfl (any_of HT_.out (by kernel_rfl)) (fun _ _ _ h => h) (Or.inl ⟨by rfl, ?_⟩) ?_ ?_
                     rotate_left
                     ·intro w';go_simp
                      with_reducible rfl
                     rotate_left
                     ·simp only [Act.put, List.setIfInBounds_toArray, List.set_cons_zero, List.set_cons_succ, i64_w, i32_w];rfl
                     refine pure_ (i := 16) (N := some 123) (v := ?_) (a' := ?_) #[true, true, true, true, true, true, true, true, true, true, true, true, true, true, true, true, true, false, false, false, false, false, false, false, false, false, false] rfl rfl (any_of HT_.out (by kernel_rfl)) (fun _ _ _ h => h) (Or.inl ⟨by rfl, ?_⟩) ?_ ?_
                     rotate_left
                     ·intro w';go_simp
                      with_reducible rfl
                     rotate_left
                     ·simp only [Act.put, List.setIfInBounds_toArray, List.set_cons_zero, List.set_cons_succ, i64_w, i32_w];rfl
                     refine pure_ (i := 21) (N := some 128) (v := ?_) (a' := ?_) #[true, true, true, true, true, true, true, true, true, true, true, true, true, true, true, true, true, false, false, false, false, true, false, false, false, false, false] rfl rfl (any_of HT_.out (by kernel_rfl)) (fun _ _ _ h => h) (Or.inl ⟨by rfl, ?_⟩) ?_ ?_
                     rotate_left
                     ·intro w';go_simp
                      with_reducible rfl
                     rotate_left
                     ·simp only [Act.put, List.setIfInBounds_toArray, List.set_cons_zero, List.set_cons_succ, i64_w, i32_w];rfl
                     refine pure_ (i := 22) (N := some 129) (v := ?_) (a' := ?_) #[true, true, true, true, true, true, true, true, true, true, true, true, true, true, true, true, true, false, false, false, false, true, true, false, false, false, false] rfl rfl (any_of HT_.out (by kernel_rfl)) (fun _ _ _ h => h) (Or.inl ⟨by rfl, ?_⟩) ?_ ?_
                     rotate_left
                     ·intro w';go_simp
                      with_reducible rfl
                     rotate_left
                     ·simp only [Act.put, List.setIfInBounds_toArray, List.set_cons_zero, List.set_cons_succ, i64_w, i32_w];rfl
                     refine pure_ (i := 23) (N := some 130) (v := ?_) (a' := ?_) #[true, true, true, true, true, true, true, true, true, true, true, true, true, true, true, true, true, false, false, false, false, true, true, true, false, false, false] rfl rfl (any_of HT_.out (by kernel_rfl)) (fun _ _ _ h => h) (Or.inl ⟨by rfl, ?_⟩) ?_ ?_
                     rotate_left
                     ·intro w';go_simp
                      with_reducible rfl
                     rotate_left
                     ·simp only [Act.put, List.setIfInBounds_toArray, List.set_cons_zero, List.set_cons_succ, i64_w, i32_w];rfl
                     refine take_ (i := 17) (N := some 124) (v := ?_) (a' := ?_) #[true, true, true, true, true, true, true, true, true, true, true, true, true, true, true, true, true, true, false, false, false, true, true, true, false, false, false] rfl rfl (take_ofW HT_.out HW_.out (by kernel_rfl)) (fun _ _ _ h => h) (Or.inl ⟨by rfl, ?_⟩) hHeld ?_ ?_
                     rotate_left
                     ·rintro w' ⟨s0, s1, s2⟩;go_simp
                      with_reducible rfl
                     rotate_left
                     ·simp only [Act.put, List.setIfInBounds_toArray, List.set_cons_zero, List.set_cons_succ, i64_w, i32_w];rfl
                     refine pure_ (i := 18) (N := some 125) (v := ?_) (a' := ?_) #[true, true, true, true, true, true, true, true, true, true, true, true, true, true, true, true, true, true, true, false, false, true, true, true, false, false, false] rfl rfl (any_of HT_.out (by kernel_rfl)) (fun _ _ _ h => h) (Or.inl ⟨by rfl, ?_⟩) ?_ ?_
                     rotate_left
                     ·intro w';go_simp
                      with_reducible rfl
                     rotate_left
                     ·simp only [Act.put, List.setIfInBounds_toArray, List.set_cons_zero, List.set_cons_succ, i64_w, i32_w];rfl
                     refine pure_ (i := 19) (N := some 126) (v := ?_) (a' := ?_) #[true, true, true, true, true, true, true, true, true, true, true, true, true, true, true, true, true, true, true, true, false, true, true, true, false, false, false] rfl rfl (any_of HT_.out (by kernel_rfl)) (fun _ _ _ h => h) (Or.inl ⟨by rfl, ?_⟩) ?_ ?_
                     rotate_left
                     ·intro w';go_simp
                      with_reducible rfl
                     rotate_left
                     ·simp only [Act.put, List.setIfInBounds_toArray, List.set_cons_zero, List.set_cons_succ, i64_w, i32_w];rfl
                     refine pure_ (i := 20) (N := some 127) (v := ?_) (a' := ?_) #[true, true, true, true, true, true, true, true, true, true, true, true, true, true, true, true, true, true, true, true, true, true, true, true, false, false, false] rfl rfl (any_of HT_.out (by kernel_rfl)) (fun _ _ _ h => h) (Or.inl ⟨by rfl, ?_⟩) ?_ ?_
                     rotate_left
                     ·intro w';go_simp
                      with_reducible rfl
                     rotate_left
                     ·simp only [Act.put, List.setIfInBounds_toArray, List.set_cons_zero, List.set_cons_succ, i64_w, i32_w];rfl
                     refine take_ (i := 24) (N := some 131) (v := ?_) (a' := ?_) #[true, true, true, true, true, true, true, true, true, true, true, true, true, true, true, true, true, true, true, true, true, true, true, true, true, false, false] rfl rfl (take_ofW HT_.out HW_.out (by kernel_rfl)) (fun _ _ _ h => h) (Or.inl ⟨by rfl, ?_⟩) hHeld ?_ ?_
                     rotate_left
                     ·rintro w' ⟨s0, s1, s2⟩;go_simp
                      with_reducible rfl
                     rotate_left
                     ·simp only [Act.put, List.setIfInBounds_toArray, List.set_cons_zero, List.set_cons_succ, i64_w, i32_w];rfl
                     refine pure_ (i := 25) (N := some 132) (v := ?_) (a' := ?_) #[true, true, true, true, true, true, true, true, true, true, true, true, true, true, true, true, true, true, true, true, true, true, true, true, true, true, false] rfl rfl (any_of HT_.out (by kernel_rfl)) (fun _ _ _ h => h) (Or.inl ⟨by rfl, ?_⟩) ?_ ?_
                     rotate_left
                     ·intro w';go_simp
                      with_reducible rfl
                     rotate_left
                     ·simp only [Act.put, List.setIfInBounds_toArray, List.set_cons_zero, List.set_cons_succ, i64_w, i32_w];rfl
                     refine pure_ (i := 26) (N := some 133) (v := ?_) (a' := ?_) #[true, true, true, true, true, true, true, true, true, true, true, true, true, true, true, true, true, true, true, true, true, true, true, true, true, true, true] rfl rfl (any_of HT_.out (by kernel_rfl)) (fun _ _ _ h => h) (Or.inl ⟨by rfl, ?_⟩) ?_ ?_
                     rotate_left
                     ·intro w';go_simp
                      with_reducible rfl
                     rotate_left
                     ·simp only [Act.put, List.setIfInBounds_toArray, List.set_cons_zero, List.set_cons_succ, i64_w, i32_w];rfl
                     refine done_ (done_of HT_.out (by kernel_rfl)) ?_
                     try go_wp2
                     have n0_ := Aside0.mk (Kd.R_drew HO_12.out);have n1_ := Aside0.mk (blk_drew BK287.out);have n2_ := Aside0.mk (below_drew1 HB.out);clear HO_12;clear BK287;clear HB;have HO_12 := n0_;have BK287 := n1_;have HB := n2_;clear n0_ n1_ n2_;have p335 : 0 ≤ (x13_3 : Int) := of_decide_eq_true (by first | (with_reducible assumption) | assumption)
                     have q335 : x13_3 < (t329.length : Int) := of_decide_eq_true (by first | (with_reducible assumption) | assumption)
                     obtain ⟨ad335, e335, hx335_0⟩ := Kd.at_string (Kd.R_reads' HO_12.out).2.2 x13_3 p335 q335;obtain rfl : ad332 = ad335 := (by injection e335)
                     replace p335 := eq_true p335;replace q335 := eq_true q335;have p336 : 0 ≤ (x13_3 : Int) := of_decide_eq_true (by first | (with_reducible assumption) | assumption)
                     have q336 : x13_3 < (t329.length : Int) := of_decide_eq_true (by first | (with_reducible assumption) | assumption)
                     obtain ⟨ad336, e336, hx336_0⟩ := Kd.at_string (Kd.R_reads' HO_12.out).2.2 x13_3 p336 q336;obtain rfl : ad332 = ad336 := (by injection e336)
                     replace p336 := eq_true p336;replace q336 := eq_true q336;refine start_ (n := 17) (S := fun w' => w'.cell? (ad332.add (x13_3).toNat) = some (.string (rdOf ByteArray.empty t329 x13_3)) ∧ w'.cell? (ad332.add (x13_3).toNat) = some (.string (rdOf ByteArray.empty t329 x13_3))) (ds := []) #[false, false, false, false, false, false, false, false, false, false, false, false, false, false, false, false, false] (by kernel_rfl) rfl rfl ⟨hx335_0, hx336_0⟩ (fun hHeld => ?_); refine with_tabW rt_token.tab20 rt_token.bits20 (fun HT_ HW_ => ?_)
                     generalize w55.drew = w56 at HO_12 BK287 HB hx335_0 hx336_0 hHeld ⊢;refine pure_ (i := 0) (N := some 134) (v := ?_) (a' := ?_) #[true, false, false, false, false, false, false, false, false, false, false, false, false, false, false, false, false] rfl rfl (any_of HT_.out (by kernel_rfl)) (fun _ _ _ h => h) (Or.inl ⟨by rfl, ?_⟩) ?_ ?_
                     rotate_left
                     ·intro w';go_simp
                      with_reducible rfl
                     rotate_left
                     ·simp only [Act.put, List.setIfInBounds_toArray, List.set_cons_zero, List.set_cons_succ, i64_w, i32_w];rfl
                     refine pure_ (i := 1) (N := some 135) (v := ?_) (a' := ?_) #[true, true, false, false, false, false, false, false, false, false, false, false, false, false, false, false, false] rfl rfl (any_of HT_.out (by kernel_rfl)) (fun _ _ _ h => h) (Or.inl ⟨by rfl, ?_⟩) ?_ ?_
                     rotate_left
                     ·intro w';go_simp
                      with_reducible rfl
                     rotate_left
                     ·simp only [Act.put, List.setIfInBounds_toArray, List.set_cons_zero, List.set_cons_succ, i64_w, i32_w];rfl
                     refine pure_ (i := 2) (N := some 136) (v := ?_) (a' := ?_) #[true, true, true, false, false, false, false, false, false, false, false, false, false, false, false, false, false] rfl rfl (any_of HT_.out (by kernel_rfl)) (fun _ _ _ h => h) (Or.inl ⟨by rfl, ?_⟩) ?_ ?_
                     rotate_left
                     ·intro w';go_simp
                      with_reducible rfl
                     rotate_left
                     ·simp only [Act.put, List.setIfInBounds_toArray, List.set_cons_zero, List.set_cons_succ, i64_w, i32_w];rfl
                     refine pure_ (i := 3) (N := some 137) (v := ?_) (a' := ?_) #[true, true, true, true, false, false, false, false, false, false, false, false, false, false, false, false, false] rfl rfl (any_of HT_.out (by kernel_rfl)) (fun _ _ _ h => h) (Or.inl ⟨by rfl, ?_⟩) ?_ ?_
                     rotate_left
                     ·intro w';go_simp
                      with_reducible rfl
                     rotate_left
                     ·simp only [Act.put, List.setIfInBounds_toArray, List.set_cons_zero, List.set_cons_succ, i64_w, i32_w];rfl
                     refine pure_ (i := 6) (N := some 140) (v := ?_) (a' := ?_) #[true, true, true, true, false, false, true, false, false, false, false, false, false, false, false, false, false] rfl rfl (any_of HT_.out (by kernel_rfl)) (fun _ _ _ h => h) (Or.inl ⟨by rfl, ?_⟩) ?_ ?_
                     rotate_left
                     ·intro w';go_simp
                      with_reducible rfl
                     rotate_left
                     ·simp only [Act.put, List.setIfInBounds_toArray, List.set_cons_zero, List.set_cons_succ, i64_w, i32_w];rfl
                     refine pure_ (i := 7) (N := some 141) (v := ?_) (a' := ?_) #[true, true, true, true, false, false, true, true, false, false, false, false, false, false, false, false, false] rfl rfl (any_of HT_.out (by kernel_rfl)) (fun _ _ _ h => h) (Or.inl ⟨by rfl, ?_⟩) ?_ ?_
                     rotate_left
                     ·intro w';go_simp
                      with_reducible rfl
                     rotate_left
                     ·simp only [Act.put, List.setIfInBounds_toArray, List.set_cons_zero, List.set_cons_succ, i64_w, i32_w];rfl
                     refine pure_ (i := 8) (N := some 142) (v := ?_) (a' := ?_) #[true, true, true, true, false, false, true, true, true, false, false, false, false, false, false, false, false] rfl rfl (any_of HT_.out (by kernel_rfl)) (fun _ _ _ h => h) (Or.inl ⟨by rfl, ?_⟩) ?_ ?_
                     rotate_left
                     ·intro w';go_simp
                      with_reducible rfl
                     rotate_left
                     ·simp only [Act.put, List.setIfInBounds_toArray, List.set_cons_zero, List.set_cons_succ, i64_w, i32_w];rfl
                     refine pure_ (i := 9) (N := some 143) (v := ?_) (a' := ?_) #[true, true, true, true, false, false, true, true, true, true, false, false, false, false, false, false, false] rfl rfl (any_of HT_.out (by kernel_rfl)) (fun _ _ _ h => h) (Or.inl ⟨by rfl, ?_⟩) ?_ ?_
                     rotate_left
                     ·intro w';go_simp
                      with_reducible rfl
                     rotate_left
                     ·simp only [Act.put, List.setIfInBounds_toArray, List.set_cons_zero, List.set_cons_succ, i64_w, i32_w];rfl
                     refine take_ (i := 4) (N := some 138) (v := ?_) (a' := ?_) #[true, true, true, true, true, false, true, true, true, true, false, false, false, false, false, false, false] rfl rfl (take_ofW HT_.out HW_.out (by kernel_rfl)) (fun _ _ _ h => h) (Or.inl ⟨by rfl, ?_⟩) hHeld ?_ ?_
                     rotate_left
                     ·rintro w' ⟨s0, s1⟩;go_simp
                      with_reducible rfl
                     rotate_left
                     ·simp only [Act.put, List.setIfInBounds_toArray, List.set_cons_zero, List.set_cons_succ, i64_w, i32_w];rfl
                     refine pure_ (i := 5) (N := some 139) (v := ?_) (a' := ?_) #[true, true, true, true, true, true, true, true, true, true, false, false, false, false, false, false, false] rfl rfl (any_of HT_.out (by kernel_rfl)) (fun _ _ _ h => h) (Or.inl ⟨by rfl, ?_⟩) ?_ ?_
                     rotate_left
                     ·intro w';go_simp
                      with_reducible rfl
                     rotate_left
                     ·simp only [Act.put, List.setIfInBounds_toArray, List.set_cons_zero, List.set_cons_succ, i64_w, i32_w];rfl
                     refine take_ (i := 10) (N := some 144) (v := ?_) (a' := ?_) #[true, true, true, true, true, true, true, true, true, true, true, false, false, false, false, false, false] rfl rfl (take_ofW HT_.out HW_.out (by kernel_rfl)) (fun _ _ _ h => h) (Or.inl ⟨by rfl, ?_⟩) hHeld ?_ ?_
                     rotate_left
                     ·rintro w' ⟨s0, s1⟩;go_simp
                      with_reducible rfl
                     rotate_left
                     ·simp only [Act.put, List.setIfInBounds_toArray, List.set_cons_zero, List.set_cons_succ, i64_w, i32_w];rfl
                     refine pure_ (i := 11) (N := some 145) (v := ?_) (a' := ?_) #[true, true, true, true, true, true, true, true, true, true, true, true, false, false, false, false, false] rfl rfl (any_of HT_.out (by kernel_rfl)) (fun _ _ _ h => h) (Or.inl ⟨by rfl, ?_⟩) ?_ ?_
                     rotate_left
                     ·intro w';go_simp
                      with_reducible rfl
                     rotate_left
                     ·simp only [Act.put, List.setIfInBounds_toArray, List.set_cons_zero, List.set_cons_succ, i64_w, i32_w];rfl
                     refine pure_ (i := 12) (N := some 146) (v := ?_) (a' := ?_) #[true, true, true, true, true, true, true, true, true, true, true, true, true, false, false, false, false] rfl rfl (any_of HT_.out (by kernel_rfl)) (fun _ _ _ h => h) (Or.inl ⟨by rfl, ?_⟩) ?_ ?_
                     rotate_left
                     ·intro w';go_simp
                      with_reducible rfl
                     rotate_left
                     ·simp only [Act.put, List.setIfInBounds_toArray, List.set_cons_zero, List.set_cons_succ, i64_w, i32_w];rfl
                     refine one_ (i := 13) (N := none) #[true, true, true, true, true, true, true, true, true, true, true, true, true, true, false, false, false] rfl rfl (one_of HT_.out (by kernel_rfl)) (by decide) (fun K hK => ?_)
                     have hs57 : w56.cell? ⟨gb287, 0, none⟩ = some (.int .i64 x288000_3) := (blk_cell BK287.out 0).trans rfl;have hfs57 := blk_frozen BK287.out 0;have hs58 : w56.cell? ⟨gb287, 1, none⟩ = some (.int .i64 x288001_3) := (blk_cell BK287.out 1).trans rfl;have hfs58 := blk_frozen BK287.out 1;have hs59 : w56.cell? ⟨gb287, 2, none⟩ = some (.string x288002_3) := (blk_cell BK287.out 2).trans rfl;have hfs59 := blk_frozen BK287.out 2;have hs60 : w56.cell? ⟨gb287, 3, none⟩ = some (.int .i64 x288003_3) := (blk_cell BK287.out 3).trans rfl;have hfs60 := blk_frozen BK287.out 3
                     refine skip_ (w1 := ?_) (by rfl) rfl ?_ ?_
                     rotate_left
                     ·go_simp
                      rfl
                     refine hK.out _ _ ⟨((cell_far (p := ⟨gb287, _, none⟩) (by first | exact Kd.own_blk (Kd.R_ne HO_12.out BK287.out (by decide)) | (rw [add_block]; exact Kd.own_blk (Kd.R_ne HO_12.out BK287.out (by decide))) | (show (Addr.add _ _).block ≠ _; rw [add_block]; exact Kd.own_blk (Kd.R_ne HO_12.out BK287.out (by decide))) | (dsimp only; exact Kd.own_blk (Kd.R_ne HO_12.out BK287.out (by decide)))) _).trans (((cell_far (p := ⟨gb287, _, none⟩) (by first | exact Kd.own_blk (Kd.R_ne HO_12.out BK287.out (by decide)) | (rw [add_block]; exact Kd.own_blk (Kd.R_ne HO_12.out BK287.out (by decide))) | (show (Addr.add _ _).block ≠ _; rw [add_block]; exact Kd.own_blk (Kd.R_ne HO_12.out BK287.out (by decide))) | (dsimp only; exact Kd.own_blk (Kd.R_ne HO_12.out BK287.out (by decide)))) _).trans (((cell_far (p := ⟨gb287, _, none⟩) (by first | exact Kd.own_blk (Kd.R_ne HO_12.out BK287.out (by decide)) | (rw [add_block]; exact Kd.own_blk (Kd.R_ne HO_12.out BK287.out (by decide))) | (show (Addr.add _ _).block ≠ _; rw [add_block]; exact Kd.own_blk (Kd.R_ne HO_12.out BK287.out (by decide))) | (dsimp only; exact Kd.own_blk (Kd.R_ne HO_12.out BK287.out (by decide)))) _).trans (((cell_far (p := ⟨gb287, _, none⟩) (by first | exact Kd.own_blk (Kd.R_ne HO_12.out BK287.out (by decide)) | (rw [add_block]; exact Kd.own_blk (Kd.R_ne HO_12.out BK287.out (by decide))) | (show (Addr.add _ _).block ≠ _; rw [add_block]; exact Kd.own_blk (Kd.R_ne HO_12.out BK287.out (by decide))) | (dsimp only; exact Kd.own_blk (Kd.R_ne HO_12.out BK287.out (by decide)))) _).trans (hHeld.1)))))))), ((cell_far (p := ⟨gb287, _, none⟩) (by first | exact Kd.own_blk (Kd.R_ne HO_12.out BK287.out (by decide)) | (rw [add_block]; exact Kd.own_blk (Kd.R_ne HO_12.out BK287.out (by decide))) | (show (Addr.add _ _).block ≠ _; rw [add_block]; exact Kd.own_blk (Kd.R_ne HO_12.out BK287.out (by decide))) | (dsimp only; exact Kd.own_blk (Kd.R_ne HO_12.out BK287.out (by decide)))) _).trans (((cell_far (p := ⟨gb287, _, none⟩) (by first | exact Kd.own_blk (Kd.R_ne HO_12.out BK287.out (by decide)) | (rw [add_block]; exact Kd.own_blk (Kd.R_ne HO_12.out BK287.out (by decide))) | (show (Addr.add _ _).block ≠ _; rw [add_block]; exact Kd.own_blk (Kd.R_ne HO_12.out BK287.out (by decide))) | (dsimp only; exact Kd.own_blk (Kd.R_ne HO_12.out BK287.out (by decide)))) _).trans (((cell_far (p := ⟨gb287, _, none⟩) (by first | exact Kd.own_blk (Kd.R_ne HO_12.out BK287.out (by decide)) | (rw [add_block]; exact Kd.own_blk (Kd.R_ne HO_12.out BK287.out (by decide))) | (show (Addr.add _ _).block ≠ _; rw [add_block]; exact Kd.own_blk (Kd.R_ne HO_12.out BK287.out (by decide))) | (dsimp only; exact Kd.own_blk (Kd.R_ne HO_12.out BK287.out (by decide)))) _).trans (((cell_far (p := ⟨gb287, _, none⟩) (by first | exact Kd.own_blk (Kd.R_ne HO_12.out BK287.out (by decide)) | (rw [add_block]; exact Kd.own_blk (Kd.R_ne HO_12.out BK287.out (by decide))) | (show (Addr.add _ _).block ≠ _; rw [add_block]; exact Kd.own_blk (Kd.R_ne HO_12.out BK287.out (by decide))) | (dsimp only; exact Kd.own_blk (Kd.R_ne HO_12.out BK287.out (by decide)))) _).trans (hHeld.2))))))))⟩ (fun hHeld => ?_)
                     clear hK K;refine pure_ (i := 14) (N := some 5) (v := ?_) (a' := ?_) #[true, true, true, true, true, true, true, true, true, true, true, true, true, true, true, false, false] rfl rfl (any_of HT_.out (by kernel_rfl)) (fun _ _ _ h => h) (Or.inl ⟨by rfl, ?_⟩) ?_ ?_
                     rotate_left
                     ·intro w';go_simp
                      with_reducible rfl
                     rotate_left
                     ·simp only [Act.put, List.setIfInBounds_toArray, List.set_cons_zero, List.set_cons_succ, i64_w, i32_w];rfl
                     refine pure_ (i := 15) (N := some 6) (v := ?_) (a' := ?_) #[true, true, true, true, true, true, true, true, true, true, true, true, true, true, true, true, false] rfl rfl (any_of HT_.out (by kernel_rfl)) (fun _ _ _ h => h) (Or.inl ⟨by rfl, ?_⟩) ?_ ?_
                     rotate_left
                     ·intro w';go_simp
                      with_reducible rfl
                     rotate_left
                     ·simp only [Act.put, List.setIfInBounds_toArray, List.set_cons_zero, List.set_cons_succ, i64_w, i32_w];rfl
                     refine pure_ (i := 16) (N := some 7) (v := ?_) (a' := ?_) #[true, true, true, true, true, true, true, true, true, true, true, true, true, true, true, true, true] rfl rfl (any_of HT_.out (by kernel_rfl)) (fun _ _ _ h => h) (Or.inl ⟨by rfl, ?_⟩) ?_ ?_
                     rotate_left
                     ·intro w';go_simp
                      with_reducible rfl
                     rotate_left
                     ·simp only [Act.put, List.setIfInBounds_toArray, List.set_cons_zero, List.set_cons_succ, i64_w, i32_w];rfl
                     refine done_ (done_of HT_.out (by kernel_rfl)) ?_
                     try go_wp2
                     refine bodyPost_ret (results_list (rs := [.cell 4 33, .tmp 5, .tmp 6, .tmp 7]) rfl (by simp) (.cell gb287 33 #[.int .i64 7, .int .i64 a1, .string (rdOf ByteArray.empty t329 x13_3), .int .i64 0] (0, 0) _ rfl (by (with_reducible repeat (first | refine blk_drewN ?_ _ | refine blk_drew ?_ | refine blk_alloc ?_ _)); refine blk_put (cs := #[.int .i64 7, .int .i64 a1, .string (rdOf ByteArray.empty t329 x13_3), .int .i64 x288003_3]) ?_ 3 _ rfl; (with_reducible repeat (first | refine blk_drewN ?_ _ | refine blk_drew ?_ | refine blk_alloc ?_ _)); refine blk_put (cs := #[.int .i64 7, .int .i64 a1, .string x288002_3, .int .i64 x288003_3]) ?_ 2 _ rfl; (with_reducible repeat (first | refine blk_drewN ?_ _ | refine blk_drew ?_ | refine blk_alloc ?_ _)); refine blk_put (cs := #[.int .i64 7, .int .i64 x288001_3, .string x288002_3, .int .i64 x288003_3]) ?_ 1 _ rfl; (with_reducible repeat (first | refine blk_drewN ?_ _ | refine blk_drew ?_ | refine blk_alloc ?_ _)); refine blk_put (cs := #[.int .i64 x288000_3, .int .i64 x288001_3, .string x288002_3, .int .i64 x288003_3]) ?_ 0 _ rfl; (with_reducible repeat (first | refine blk_drewN ?_ _ | refine blk_drew ?_ | refine blk_alloc ?_ _)); exact BK287.out) Tryd.underlying33 rfl (by kernel_rfl) (.tmp (.tmp (.tmp .nil))))) rfl ?_
                     exact ⟨by first | rfl | (simp [errW_none, errW_some] <;> rfl) | (simp [*, errW_none, errW_some] <;> rfl), by repeat (first | (with_reducible first | exact HB.out | apply below_alloc | apply pw_below_drewN | apply below_drew1 | refine below_set ?_ GE287.out) | exact HB.out)⟩
                    ·rw [if_neg c53] at H;have c53b0 : ((a0.extract (a1 : Int).toNat ((wrap64 (a1 + ((rdOf ByteArray.empty t329 x13_3).size : Int))) : Int).toNat).toList == (rdOf ByteArray.empty t329 x13_3).toList) = false := beq_eq_false_iff_ne.mpr c53;have c53b1 : ((a0.extract (a1 : Int).toNat ((wrap64 (a1 + ((rdOf ByteArray.empty t329 x13_3).size : Int))) : Int).toNat).toList != (rdOf ByteArray.empty t329 x13_3).toList) = true := bne_iff_ne.mpr c53;have H' := Aside0.mk H;clear H;obtain ⟨Ao61, co61, eo61⟩ := Kd.R_slice HO_12.out;subst eo61;try go_wp2
                     have n0_ := Aside0.mk (Kd.R_drew HO_12.out);have n1_ := Aside0.mk (blk_drew BK287.out);have n2_ := Aside0.mk (below_drew1 HB.out);clear HO_12;clear BK287;clear HB;have HO_12 := n0_;have BK287 := n1_;have HB := n2_;clear n0_ n1_ n2_;have p332 : 0 ≤ (x13_3 : Int) := of_decide_eq_true (by first | (with_reducible assumption) | assumption)
                     have q332 : x13_3 < (t329.length : Int) := of_decide_eq_true (by first | (with_reducible assumption) | assumption)
                     obtain ⟨ad332, e332, hx332_0⟩ := Kd.at_string (Kd.R_reads' HO_12.out).2.2 x13_3 p332 q332;cases e332;replace p332 := eq_true p332;replace q332 := eq_true q332;have p333 : 0 ≤ (x13_3 : Int) := of_decide_eq_true (by first | (with_reducible assumption) | assumption)
                     have q333 : x13_3 < (t329.length : Int) := of_decide_eq_true (by first | (with_reducible assumption) | assumption)
                     obtain ⟨ad333, e333, hx333_0⟩ := Kd.at_string (Kd.R_reads' HO_12.out).2.2 x13_3 p333 q333;obtain rfl : ad332 = ad333 := (by injection e333)
                     replace p333 := eq_true p333;replace q333 := eq_true q333;have p334 : 0 ≤ (x13_3 : Int) := of_decide_eq_true (by first | (with_reducible assumption) | assumption)
                     have q334 : x13_3 < (t329.length : Int) := of_decide_eq_true (by first | (with_reducible assumption) | assumption)
                     obtain ⟨ad334, e334, hx334_0⟩ := Kd.at_string (Kd.R_reads' HO_12.out).2.2 x13_3 p334 q334;obtain rfl : ad332 = ad334 := (by injection e334)
                     replace p334 := eq_true p334;replace q334 := eq_true q334
                     refine start_ (n := 27) (S := fun w' => w'.cell? (ad332.add (x13_3).toNat) = some (.string (rdOf ByteArray.empty t329 x13_3)) ∧ w'.cell? (ad332.add (x13_3).toNat) = some (.string (rdOf ByteArray.empty t329 x13_3)) ∧ w'.cell? (ad332.add (x13_3).toNat) = some (.string (rdOf ByteArray.empty t329 x13_3))) (ds := []) #[false, false, false, false, false, false, false, false, false, false, false, false, false, false, false, false, false, false, false, false, false, false, false, false, false, false, false] (by kernel_rfl) rfl rfl ⟨hx332_0, hx333_0, hx334_0⟩ (fun hHeld => ?_); refine with_tabW rt_token.tab19 rt_token.bits19 (fun HT_ HW_ => ?_)
                     generalize wr.drew = w62 at HO_12 BK287 HB hx332_0 hx333_0 hx334_0 hHeld ⊢;refine pure_ (i := 0) (N := some 107) (v := ?_) (a' := ?_) #[true, false, false, false, false, false, false, false, false, false, false, false, false, false, false, false, false, false, false, false, false, false, false, false, false, false, false] rfl rfl (any_of HT_.out (by kernel_rfl)) (fun _ _ _ h => h) (Or.inl ⟨by rfl, ?_⟩) ?_ ?_
                     rotate_left
                     ·intro w';go_simp
                      with_reducible rfl
                     rotate_left
                     ·simp only [Act.put, List.setIfInBounds_toArray, List.set_cons_zero, List.set_cons_succ, i64_w, i32_w];rfl
                     refine pure_ (i := 1) (N := some 108) (v := ?_) (a' := ?_) #[true, true, false, false, false, false, false, false, false, false, false, false, false, false, false, false, false, false, false, false, false, false, false, false, false, false, false] rfl rfl (any_of HT_.out (by kernel_rfl)) (fun _ _ _ h => h) (Or.inl ⟨by rfl, ?_⟩) ?_ ?_
                     rotate_left
                     ·intro w';go_simp
                      with_reducible rfl
                     rotate_left
                     ·simp only [Act.put, List.setIfInBounds_toArray, List.set_cons_zero, List.set_cons_succ, i64_w, i32_w];rfl
                     refine pure_ (i := 2) (N := some 109) (v := ?_) (a' := ?_) #[true, true, true, false, false, false, false, false, false, false, false, false, false, false, false, false, false, false, false, false, false, false, false, false, false, false, false] rfl rfl (any_of HT_.out (by kernel_rfl)) (fun _ _ _ h => h) (Or.inl ⟨by rfl, ?_⟩) ?_ ?_
                     rotate_left
                     ·intro w';go_simp
                      with_reducible rfl
                     rotate_left
                     ·simp only [Act.put, List.setIfInBounds_toArray, List.set_cons_zero, List.set_cons_succ, i64_w, i32_w];rfl
                     refine pure_ (i := 3) (N := some 110) (v := ?_) (a' := ?_) #[true, true, true, true, false, false, false, false, false, false, false, false, false, false, false, false, false, false, false, false, false, false, false, false, false, false, false] rfl rfl (any_of HT_.out (by kernel_rfl)) (fun _ _ _ h => h) (Or.inl ⟨by rfl, ?_⟩) ?_ ?_
                     rotate_left
                     ·intro w';go_simp
                      with_reducible rfl
                     rotate_left
                     ·simp only [Act.put, List.setIfInBounds_toArray, List.set_cons_zero, List.set_cons_succ, i64_w, i32_w];rfl
                     refine pure_ (i := 4) (N := some 111) (v := ?_) (a' := ?_) #[true, true, true, true, true, false, false, false, false, false, false, false, false, false, false, false, false, false, false, false, false, false, false, false, false, false, false] rfl rfl (any_of HT_.out (by kernel_rfl)) (fun _ _ _ h => h) (Or.inl ⟨by rfl, ?_⟩) ?_ ?_
                     rotate_left
                     ·intro w';go_simp
                      with_reducible rfl
                     rotate_left
                     ·simp only [Act.put, List.setIfInBounds_toArray, List.set_cons_zero, List.set_cons_succ, i64_w, i32_w];rfl
                     refine pure_ (i := 5) (N := some 112) (v := ?_) (a' := ?_) #[true, true, true, true, true, true, false, false, false, false, false, false, false, false, false, false, false, false, false, false, false, false, false, false, false, false, false] rfl rfl (any_of HT_.out (by kernel_rfl)) (fun _ _ _ h => h) (Or.inl ⟨by rfl, ?_⟩) ?_ ?_
                     rotate_left
                     ·intro w';go_simp
                      with_reducible rfl
                     rotate_left
                     ·simp only [Act.put, List.setIfInBounds_toArray, List.set_cons_zero, List.set_cons_succ, i64_w, i32_w];rfl
                     refine pure_ (i := 6) (N := some 113) (v := ?_) (a' := ?_) #[true, true, true, true, true, true, true, false, false, false, false, false, false, false, false, false, false, false, false, false, false, false, false, false, false, false, false] rfl rfl (any_of HT_.out (by kernel_rfl)) (fun _ _ _ h => h) (Or.inl ⟨by rfl, ?_⟩) ?_ ?_
                     rotate_left
                     ·intro w';go_simp
                      with_reducible rfl
                     rotate_left
                     ·simp only [Act.put, List.setIfInBounds_toArray, List.set_cons_zero, List.set_cons_succ, i64_w, i32_w];rfl
                     refine take_ (i := 7) (N := some 114) (v := ?_) (a' := ?_) #[true, true, true, true, true, true, true, true, false, false, false, false, false, false, false, false, false, false, false, false, false, false, false, false, false, false, false] rfl rfl (take_ofW HT_.out HW_.out (by kernel_rfl)) (fun _ _ _ h => h) (Or.inl ⟨by rfl, ?_⟩) hHeld ?_ ?_
                     rotate_left
                     ·rintro w' ⟨s0, s1, s2⟩;go_simp
                      with_reducible rfl
                     rotate_left
                     ·simp only [Act.put, List.setIfInBounds_toArray, List.set_cons_zero, List.set_cons_succ, i64_w, i32_w];rfl
                     refine pure_ (i := 8) (N := some 115) (v := ?_) (a' := ?_) #[true, true, true, true, true, true, true, true, true, false, false, false, false, false, false, false, false, false, false, false, false, false, false, false, false, false, false] rfl rfl (any_of HT_.out (by kernel_rfl)) (fun _ _ _ h => h) (Or.inl ⟨by rfl, ?_⟩) ?_ ?_
                     rotate_left
                     ·intro w';go_simp
                      with_reducible rfl
                     rotate_left
                     ·simp only [Act.put, List.setIfInBounds_toArray, List.set_cons_zero, List.set_cons_succ, i64_w, i32_w];rfl
                     refine pure_ (i := 9) (N := some 116) (v := ?_) (a' := ?_) #[true, true, true, true, true, true, true, true, true, true, false, false, false, false, false, false, false, false, false, false, false, false, false, false, false, false, false] rfl rfl (any_of HT_.out (by kernel_rfl)) (fun _ _ _ h => h) (Or.inl ⟨by rfl, ?_⟩) ?_ ?_
                     rotate_left
                     ·intro w';go_simp
                      with_reducible rfl
                     rotate_left
                     ·simp only [Act.put, List.setIfInBounds_toArray, List.set_cons_zero, List.set_cons_succ, i64_w, i32_w];rfl
                     refine pure_ (i := 10) (N := some 117) (v := ?_) (a' := ?_) #[true, true, true, true, true, true, true, true, true, true, true, false, false, false, false, false, false, false, false, false, false, false, false, false, false, false, false] rfl rfl (any_of HT_.out (by kernel_rfl)) (fun _ _ _ h => h) (Or.inl ⟨by rfl, ?_⟩) ?_ ?_
                     rotate_left
                     ·intro w';go_simp
                      with_reducible rfl
                     rotate_left
                     ·simp only [Act.put, List.setIfInBounds_toArray, List.set_cons_zero, List.set_cons_succ, i64_w, i32_w];rfl
                     refine pure_ (i := 11) (N := some 118) (v := ?_) (a' := ?_) #[true, true, true, true, true, true, true, true, true, true, true, true, false, false, false, false, false, false, false, false, false, false, false, false, false, false, false] rfl rfl (any_of HT_.out (by kernel_rfl)) (fun _ _ _ h => h) (Or.inl ⟨by rfl, ?_⟩) ?_ ?_
                     rotate_left
                     ·intro w';go_simp
                      with_reducible rfl
                     rotate_left
                     ·simp only [Act.put, List.setIfInBounds_toArray, List.set_cons_zero, List.set_cons_succ, i64_w, i32_w];rfl
                     refine pure_ (i := 12) (N := some 119) (v := ?_) (a' := ?_) #[true, true, true, true, true, true, true, true, true, true, true, true, true, false, false, false, false, false, false, false, false, false, false, false, false, false, false] rfl rfl (any_of HT_.out (by kernel_rfl)) (fun _ _ _ h => h) (Or.inl ⟨by rfl, ?_⟩) ?_ ?_
                     rotate_left
                     ·intro w';go_simp
                      with_reducible rfl
                     rotate_left
                     ·simp only [Act.put, List.setIfInBounds_toArray, List.set_cons_zero, List.set_cons_succ, i64_w, i32_w];rfl
                     refine pure_ (i := 13) (N := some 120) (v := ?_) (a' := ?_) #[true, true, true, true, true, true, true, true, true, true, true, true, true, true, false, false, false, false, false, false, false, false, false, false, false, false, false] rfl rfl (any_of HT_.out (by kernel_rfl)) (fun _ _ _ h => h) (Or.inl ⟨by rfl, ?_⟩) ?_ ?_
                     rotate_left
                     ·intro w';go_simp
                      with_reducible rfl
                     rotate_left
                     ·simp only [Act.put, List.setIfInBounds_toArray, List.set_cons_zero, List.set_cons_succ, i64_w, i32_w];rfl
                     refine pure_ (i := 14) (N := some 121) (v := ?_) (a' := ?_) #[true, true, true, true, true, true, true, true, true, true, true, true, true, true, true, false, false, false, false, false, false, false, false, false, false, false, false] rfl rfl (any_of HT_.out (by kernel_rfl)) (fun _ _ _ h => h) (Or.inl ⟨by rfl, ?_⟩) ?_ ?_
                     rotate_left
                     ·intro w';go_simp
                      with_reducible rfl
                     rotate_left
                     ·simp only [Act.put, List.setIfInBounds_toArray, List.set_cons_zero, List.set_cons_succ, i64_w, i32_w];rfl
                     refine pure_ (i := 15) (N := some 122) (v := ?_) (a' := ?_) #[true, true, true, true, true, true, true, true, true, true, true, true, true, true, true, true, false, false, false, false, false, false, false, false, false, false, false] rfl rfl (any_of HT_.out (by kernel_rfl)) (fun _ _ _ h => h) (Or.inl ⟨by rfl, ?_⟩) ?_ ?_
                     rotate_left
                     ·intro w';go_simp
                      with_reducible rfl
                     rotate_left
                     ·simp only [Act.put, List.setIfInBounds_toArray, List.set_cons_zero, List.set_cons_succ, i64_w, i32_w];rfl
                     refine pure_ (i := 16) (N := some 123) (v := ?_) (a' := ?_) #[true, true, true, true, true, true, true, true, true, true, true, true, true, true, true, true, true, false, false, false, false, false, false, false, false, false, false] rfl rfl (any_of HT_.out (by kernel_rfl)) (fun _ _ _ h => h) (Or.inl ⟨by rfl, ?_⟩) ?_ ?_
                     rotate_left
                     ·intro w';go_simp
                      with_reducible rfl
                     rotate_left
                     ·simp only [Act.put, List.setIfInBounds_toArray, List.set_cons_zero, List.set_cons_succ, i64_w, i32_w];rfl
                     refine pure_ (i := 21) (N := some 128) (v := ?_) (a' := ?_) #[true, true, true, true, true, true, true, true, true, true, true, true, true, true, true, true, true, false, false, false, false, true, false, false, false, false, false] rfl rfl (any_of HT_.out (by kernel_rfl)) (fun _ _ _ h => h) (Or.inl ⟨by rfl, ?_⟩) ?_ ?_
                     rotate_left
                     ·intro w';go_simp
                      with_reducible rfl
                     rotate_left
                     ·simp only [Act.put, List.setIfInBounds_toArray, List.set_cons_zero, List.set_cons_succ, i64_w, i32_w];rfl
                     refine pure_ (i := 22) (N := some 129) (v := ?_) (a' := ?_) #[true, true, true, true, true, true, true, true, true, true, true, true, true, true, true, true, true, false, false, false, false, true, true, false, false, false, false] rfl rfl (any_of HT_.out (by kernel_rfl)) (fun _ _ _ h => h) (Or.inl ⟨by rfl, ?_⟩) ?_ ?_
                     rotate_left
                     ·intro w';go_simp
                      with_reducible rfl
                     rotate_left
                     ·simp only [Act.put, List.setIfInBounds_toArray, List.set_cons_zero, List.set_cons_succ, i64_w, i32_w];rfl
                     refine pure_ (i := 23) (N := some 130) (v := ?_) (a' := ?_) #[true, true, true, true, true, true, true, true, true, true, true, true, true, true, true, true, true, false, false, false, false, true, true, true, false, false, false] rfl rfl (any_of HT_.out (by kernel_rfl)) (fun _ _ _ h => h) (Or.inl ⟨by rfl, ?_⟩) ?_ ?_
                     rotate_left
                     ·intro w';go_simp
                      with_reducible rfl
                     rotate_left
                     ·simp only [Act.put, List.setIfInBounds_toArray, List.set_cons_zero, List.set_cons_succ, i64_w, i32_w];rfl
                     refine take_ (i := 17) (N := some 124) (v := ?_) (a' := ?_) #[true, true, true, true, true, true, true, true, true, true, true, true, true, true, true, true, true, true, false, false, false, true, true, true, false, false, false] rfl rfl (take_ofW HT_.out HW_.out (by kernel_rfl)) (fun _ _ _ h => h) (Or.inl ⟨by rfl, ?_⟩) hHeld ?_ ?_
                     rotate_left
                     ·rintro w' ⟨s0, s1, s2⟩;go_simp
                      with_reducible rfl
                     rotate_left
                     ·simp only [Act.put, List.setIfInBounds_toArray, List.set_cons_zero, List.set_cons_succ, i64_w, i32_w];rfl
                     refine pure_ (i := 18) (N := some 125) (v := ?_) (a' := ?_) #[true, true, true, true, true, true, true, true, true, true, true, true, true, true, true, true, true, true, true, false, false, true, true, true, false, false, false] rfl rfl (any_of HT_.out (by kernel_rfl)) (fun _ _ _ h => h) (Or.inl ⟨by rfl, ?_⟩) ?_ ?_
                     rotate_left
                     ·intro w';go_simp
                      with_reducible rfl
                     rotate_left
                     ·simp only [Act.put, List.setIfInBounds_toArray, List.set_cons_zero, List.set_cons_succ, i64_w, i32_w];rfl
                     refine pure_ (i := 19) (N := some 126) (v := ?_) (a' := ?_) #[true, true, true, true, true, true, true, true, true, true, true, true, true, true, true, true, true, true, true, true, false, true, true, true, false, false, false] rfl rfl (any_of HT_.out (by kernel_rfl)) (fun _ _ _ h => h) (Or.inl ⟨by rfl, ?_⟩) ?_ ?_
                     rotate_left
                     ·intro w';go_simp
                      with_reducible rfl
                     rotate_left
                     ·simp only [Act.put, List.setIfInBounds_toArray, List.set_cons_zero, List.set_cons_succ, i64_w, i32_w];rfl
                     refine pure_ (i := 20) (N := some 127) (v := ?_) (a' := ?_) #[true, true, true, true, true, true, true, true, true, true, true, true, true, true, true, true, true, true, true, true, true, true, true, true, false, false, false] rfl rfl (any_of HT_.out (by kernel_rfl)) (fun _ _ _ h => h) (Or.inl ⟨by rfl, ?_⟩) ?_ ?_
                     rotate_left
                     ·intro w';go_simp
                      with_reducible rfl
                     rotate_left
                     ·simp only [Act.put, List.setIfInBounds_toArray, List.set_cons_zero, List.set_cons_succ, i64_w, i32_w];rfl
                     refine take_ (i := 24) (N := some 131) (v := ?_) (a' := ?_) #[true, true, true, true, true, true, true, true, true, true, true, true, true, true, true, true, true, true, true, true, true, true, true, true, true, false, false] rfl rfl (take_ofW HT_.out HW_.out (by kernel_rfl)) (fun _ _ _ h => h) (Or.inl ⟨by rfl, ?_⟩) hHeld ?_ ?_
                     rotate_left
                     ·rintro w' ⟨s0, s1, s2⟩;go_simp
                      with_reducible rfl
                     rotate_left
                     ·simp only [Act.put, List.setIfInBounds_toArray, List.set_cons_zero, List.set_cons_succ, i64_w, i32_w];rfl
                     refine pure_ (i := 25) (N := some 132) (v := ?_) (a' := ?_) #[true, true, true, true, true, true, true, true, true, true, true, true, true, true, true, true, true, true, true, true, true, true, true, true, true, true, false] rfl rfl (any_of HT_.out (by kernel_rfl)) (fun _ _ _ h => h) (Or.inl ⟨by rfl, ?_⟩) ?_ ?_
                     rotate_left
                     ·intro w';go_simp
                      with_reducible rfl
                     rotate_left
                     ·simp only [Act.put, List.setIfInBounds_toArray, List.set_cons_zero, List.set_cons_succ, i64_w, i32_w];rfl
                     refine pure_ (i := 26) (N := some 133) (v := ?_) (a' := ?_) #[true, true, true, true, true, true, true, true, true, true, true, true, true, true, true, true, true, true, true, true, true, true, true, true, true, true, true] rfl rfl (any_of HT_.out (by kernel_rfl)) (fun _ _ _ h => h) (Or.inl ⟨by rfl, ?_⟩) ?_ ?_
                     rotate_left
                     ·intro w';go_simp
                      with_reducible rfl
                     rotate_left
                     ·simp only [Act.put, List.setIfInBounds_toArray, List.set_cons_zero, List.set_cons_succ, i64_w, i32_w];rfl
                     refine done_ (done_of HT_.out (by kernel_rfl)) ?_
                     try go_wp2
                     go_roundg k3
                     case measure => have := HJ11.out; have := HJ19.out; have := HK3.out; omega
                     case rel => exact ⟨(wrap64 (x13_3 + 1)), (x288000_3), (x288001_3), (x288002_3), (x288003_3), (by first | rfl | (simp; done) | (simp [*]; done)), H', ⟨by have := HJ11.out; have := HJ19.out; have := HK3.out; omega⟩, ⟨by (with_reducible repeat (first | apply Kd.R_alloc | apply Kd.R_drewN | apply Kd.R_drew)); exact HO_12.out⟩, ⟨by (with_reducible repeat (first | refine blk_drewN ?_ _ | refine blk_drew ?_ | refine blk_alloc ?_ _)); exact BK287.out⟩, ⟨by repeat (first | (with_reducible first | exact HB.out | apply below_alloc | apply pw_below_drewN | apply below_drew1 | refine below_set ?_ GE287.out) | exact HB.out)⟩⟩
                   ·rw [if_neg c52] at H;exact absurd H (by simp)
                  ·rw [if_neg c51] at H;exact absurd H (by simp)
                 ·rw [if_neg c50] at H;exact absurd H (by simp)
                ·rw [if_neg c49] at H;have c49b0 : decide (((rdOf ByteArray.empty t329 x13_3).size : Int) ≤ (wrap64 ((a0.size : Int) - a1))) = false := decide_eq_false c49;clear c49;have H' := Aside0.mk H;clear H;obtain ⟨Ao63, co63, eo63⟩ := Kd.R_slice HO_12.out;subst eo63;try go_wp2
                 have n0_ := Aside0.mk (Kd.R_drew HO_12.out);have n1_ := Aside0.mk (blk_drew BK287.out);have n2_ := Aside0.mk (below_drew1 HB.out);clear HO_12;clear BK287;clear HB;have HO_12 := n0_;have BK287 := n1_;have HB := n2_;clear n0_ n1_ n2_;have p332 : 0 ≤ (x13_3 : Int) := of_decide_eq_true (by first | (with_reducible assumption) | assumption)
                 have q332 : x13_3 < (t329.length : Int) := of_decide_eq_true (by first | (with_reducible assumption) | assumption)
                 obtain ⟨ad332, e332, hx332_0⟩ := Kd.at_string (Kd.R_reads' HO_12.out).2.2 x13_3 p332 q332;cases e332;replace p332 := eq_true p332;replace q332 := eq_true q332
                 refine start_ (n := 27) (S := fun w' => w'.cell? (ad332.add (x13_3).toNat) = some (.string (rdOf ByteArray.empty t329 x13_3))) (ds := []) #[false, false, false, false, false, false, false, false, false, false, false, false, false, false, false, false, false, false, false, false, false, false, false, false, false, false, false] (by kernel_rfl) rfl rfl (hx332_0) (fun hHeld => ?_); refine with_tabW rt_token.tab19 rt_token.bits19 (fun HT_ HW_ => ?_)
                 generalize wr.drew = w64 at HO_12 BK287 HB hx332_0 hHeld ⊢;refine pure_ (i := 0) (N := some 107) (v := ?_) (a' := ?_) #[true, false, false, false, false, false, false, false, false, false, false, false, false, false, false, false, false, false, false, false, false, false, false, false, false, false, false] rfl rfl (any_of HT_.out (by kernel_rfl)) (fun _ _ _ h => h) (Or.inl ⟨by rfl, ?_⟩) ?_ ?_
                 rotate_left
                 ·intro w';go_simp
                  with_reducible rfl
                 rotate_left
                 ·simp only [Act.put, List.setIfInBounds_toArray, List.set_cons_zero, List.set_cons_succ, i64_w, i32_w];rfl
                 refine pure_ (i := 1) (N := some 108) (v := ?_) (a' := ?_) #[true, true, false, false, false, false, false, false, false, false, false, false, false, false, false, false, false, false, false, false, false, false, false, false, false, false, false] rfl rfl (any_of HT_.out (by kernel_rfl)) (fun _ _ _ h => h) (Or.inl ⟨by rfl, ?_⟩) ?_ ?_
                 rotate_left
                 ·intro w';go_simp
                  with_reducible rfl
                 rotate_left
                 ·simp only [Act.put, List.setIfInBounds_toArray, List.set_cons_zero, List.set_cons_succ, i64_w, i32_w];rfl
                 refine pure_ (i := 2) (N := some 109) (v := ?_) (a' := ?_) #[true, true, true, false, false, false, false, false, false, false, false, false, false, false, false, false, false, false, false, false, false, false, false, false, false, false, false] rfl rfl (any_of HT_.out (by kernel_rfl)) (fun _ _ _ h => h) (Or.inl ⟨by rfl, ?_⟩) ?_ ?_
                 rotate_left
                 ·intro w';go_simp
                  with_reducible rfl
                 rotate_left
                 ·simp only [Act.put, List.setIfInBounds_toArray, List.set_cons_zero, List.set_cons_succ, i64_w, i32_w];rfl
                 refine pure_ (i := 3) (N := some 110) (v := ?_) (a' := ?_) #[true, true, true, true, false, false, false, false, false, false, false, false, false, false, false, false, false, false, false, false, false, false, false, false, false, false, false] rfl rfl (any_of HT_.out (by kernel_rfl)) (fun _ _ _ h => h) (Or.inl ⟨by rfl, ?_⟩) ?_ ?_
                 rotate_left
                 ·intro w';go_simp
                  with_reducible rfl
                 rotate_left
                 ·simp only [Act.put, List.setIfInBounds_toArray, List.set_cons_zero, List.set_cons_succ, i64_w, i32_w];rfl
                 refine pure_ (i := 4) (N := some 111) (v := ?_) (a' := ?_) #[true, true, true, true, true, false, false, false, false, false, false, false, false, false, false, false, false, false, false, false, false, false, false, false, false, false, false] rfl rfl (any_of HT_.out (by kernel_rfl)) (fun _ _ _ h => h) (Or.inl ⟨by rfl, ?_⟩) ?_ ?_
                 rotate_left
                 ·intro w';go_simp
                  with_reducible rfl
                 rotate_left
                 ·simp only [Act.put, List.setIfInBounds_toArray, List.set_cons_zero, List.set_cons_succ, i64_w, i32_w];rfl
                 refine pure_ (i := 5) (N := some 112) (v := ?_) (a' := ?_) #[true, true, true, true, true, true, false, false, false, false, false, false, false, false, false, false, false, false, false, false, false, false, false, false, false, false, false] rfl rfl (any_of HT_.out (by kernel_rfl)) (fun _ _ _ h => h) (Or.inl ⟨by rfl, ?_⟩) ?_ ?_
                 rotate_left
                 ·intro w';go_simp
                  with_reducible rfl
                 rotate_left
                 ·simp only [Act.put, List.setIfInBounds_toArray, List.set_cons_zero, List.set_cons_succ, i64_w, i32_w];rfl
                 refine pure_ (i := 6) (N := some 113) (v := ?_) (a' := ?_) #[true, true, true, true, true, true, true, false, false, false, false, false, false, false, false, false, false, false, false, false, false, false, false, false, false, false, false] rfl rfl (any_of HT_.out (by kernel_rfl)) (fun _ _ _ h => h) (Or.inl ⟨by rfl, ?_⟩) ?_ ?_
                 rotate_left
                 ·intro w';go_simp
                  with_reducible rfl
                 rotate_left
                 ·simp only [Act.put, List.setIfInBounds_toArray, List.set_cons_zero, List.set_cons_succ, i64_w, i32_w];rfl
                 refine take_ (i := 7) (N := some 114) (v := ?_) (a' := ?_) #[true, true, true, true, true, true, true, true, false, false, false, false, false, false, false, false, false, false, false, false, false, false, false, false, false, false, false] rfl rfl (take_ofW HT_.out HW_.out (by kernel_rfl)) (fun _ _ _ h => h) (Or.inl ⟨by rfl, ?_⟩) hHeld ?_ ?_
                 rotate_left
                 ·intro w' s0;go_simp
                  with_reducible rfl
                 rotate_left
                 ·simp only [Act.put, List.setIfInBounds_toArray, List.set_cons_zero, List.set_cons_succ, i64_w, i32_w];rfl
                 refine pure_ (i := 8) (N := some 115) (v := ?_) (a' := ?_) #[true, true, true, true, true, true, true, true, true, false, false, false, false, false, false, false, false, false, false, false, false, false, false, false, false, false, false] rfl rfl (any_of HT_.out (by kernel_rfl)) (fun _ _ _ h => h) (Or.inl ⟨by rfl, ?_⟩) ?_ ?_
                 rotate_left
                 ·intro w';go_simp
                  with_reducible rfl
                 rotate_left
                 ·simp only [Act.put, List.setIfInBounds_toArray, List.set_cons_zero, List.set_cons_succ, i64_w, i32_w];rfl
                 refine pure_ (i := 9) (N := some 116) (v := ?_) (a' := ?_) #[true, true, true, true, true, true, true, true, true, true, false, false, false, false, false, false, false, false, false, false, false, false, false, false, false, false, false] rfl rfl (any_of HT_.out (by kernel_rfl)) (fun _ _ _ h => h) (Or.inl ⟨by rfl, ?_⟩) ?_ ?_
                 rotate_left
                 ·intro w';go_simp
                  with_reducible rfl
                 rotate_left
                 ·simp only [Act.put, List.setIfInBounds_toArray, List.set_cons_zero, List.set_cons_succ, i64_w, i32_w];rfl
                 refine pure_ (i := 10) (N := some 117) (v := ?_) (a' := ?_) #[true, true, true, true, true, true, true, true, true, true, true, false, false, false, false, false, false, false, false, false, false, false, false, false, false, false, false] rfl rfl (any_of HT_.out (by kernel_rfl)) (fun _ _ _ h => h) (Or.inl ⟨by rfl, ?_⟩) ?_ ?_
                 rotate_left
                 ·intro w';go_simp
                  with_reducible rfl
                 rotate_left
                 ·simp only [Act.put, List.setIfInBounds_toArray, List.set_cons_zero, List.set_cons_succ, i64_w, i32_w];rfl
                 refine pure_ (i := 11) (N := some 118) (v := undef) (a' := ?_) #[true, true, true, true, true, true, true, true, true, true, true, true, false, false, false, false, false, false, false, false, false, false, false, false, false, false, false] rfl rfl (any_of HT_.out (by kernel_rfl)) (fun _ _ _ h => h) (Or.inr ⟨by rfl, rfl⟩) ?_ ?_
                 rotate_left
                 ·simp only [Act.put, List.setIfInBounds_toArray, List.set_cons_zero, List.set_cons_succ, i64_w, i32_w];rfl
                 refine pure_ (i := 12) (N := some 119) (v := undef) (a' := ?_) #[true, true, true, true, true, true, true, true, true, true, true, true, true, false, false, false, false, false, false, false, false, false, false, false, false, false, false] rfl rfl (any_of HT_.out (by kernel_rfl)) (fun _ _ _ h => h) (Or.inr ⟨by rfl, rfl⟩) ?_ ?_
                 rotate_left
                 ·simp only [Act.put, List.setIfInBounds_toArray, List.set_cons_zero, List.set_cons_succ, i64_w, i32_w];rfl
                 refine pure_ (i := 13) (N := some 120) (v := undef) (a' := ?_) #[true, true, true, true, true, true, true, true, true, true, true, true, true, true, false, false, false, false, false, false, false, false, false, false, false, false, false] rfl rfl (any_of HT_.out (by kernel_rfl)) (fun _ _ _ h => h) (Or.inr ⟨by rfl, rfl⟩) ?_ ?_
                 rotate_left
                 ·simp only [Act.put, List.setIfInBounds_toArray, List.set_cons_zero, List.set_cons_succ, i64_w, i32_w];rfl
                 refine pure_ (i := 14) (N := some 121) (v := undef) (a' := ?_) #[true, true, true, true, true, true, true, true, true, true, true, true, true, true, true, false, false, false, false, false, false, false, false, false, false, false, false] rfl rfl (any_of HT_.out (by kernel_rfl)) (fun _ _ _ h => h) (Or.inr ⟨by rfl, rfl⟩) ?_ ?_
                 rotate_left
                 ·simp only [Act.put, List.setIfInBounds_toArray, List.set_cons_zero, List.set_cons_succ, i64_w, i32_w];rfl
                 refine pure_ (i := 15) (N := some 122) (v := undef) (a' := ?_) #[true, true, true, true, true, true, true, true, true, true, true, true, true, true, true, true, false, false, false, false, false, false, false, false, false, false, false] rfl rfl (any_of HT_.out (by kernel_rfl)) (fun _ _ _ h => h) (Or.inr ⟨by rfl, rfl⟩) ?_ ?_
                 rotate_left
                 ·simp only [Act.put, List.setIfInBounds_toArray, List.set_cons_zero, List.set_cons_succ, i64_w, i32_w];rfl
                 refine pure_ (i := 16) (N := some 123) (v := undef) (a' := ?_) #[true, true, true, true, true, true, true, true, true, true, true, true, true, true, true, true, true, false, false, false, false, false, false, false, false, false, false] rfl rfl (any_of HT_.out (by kernel_rfl)) (fun _ _ _ h => h) (Or.inr ⟨by rfl, rfl⟩) ?_ ?_
                 rotate_left
                 ·simp only [Act.put, List.setIfInBounds_toArray, List.set_cons_zero, List.set_cons_succ, i64_w, i32_w];rfl
                 refine pure_ (i := 17) (N := some 124) (v := undef) (a' := ?_) #[true, true, true, true, true, true, true, true, true, true, true, true, true, true, true, true, true, true, false, false, false, false, false, false, false, false, false] rfl rfl (any_of HT_.out (by kernel_rfl)) (fun _ _ _ h => h) (Or.inr ⟨by rfl, rfl⟩) ?_ ?_
                 rotate_left
                 ·simp only [Act.put, List.setIfInBounds_toArray, List.set_cons_zero, List.set_cons_succ, i64_w, i32_w];rfl
                 refine pure_ (i := 18) (N := some 125) (v := undef) (a' := ?_) #[true, true, true, true, true, true, true, true, true, true, true, true, true, true, true, true, true, true, true, false, false, false, false, false, false, false, false] rfl rfl (any_of HT_.out (by kernel_rfl)) (fun _ _ _ h => h) (Or.inr ⟨by rfl, rfl⟩) ?_ ?_
                 rotate_left
                 ·simp only [Act.put, List.setIfInBounds_toArray, List.set_cons_zero, List.set_cons_succ, i64_w, i32_w];rfl
                 refine pure_ (i := 19) (N := some 126) (v := undef) (a' := ?_) #[true, true, true, true, true, true, true, true, true, true, true, true, true, true, true, true, true, true, true, true, false, false, false, false, false, false, false] rfl rfl (any_of HT_.out (by kernel_rfl)) (fun _ _ _ h => h) (Or.inr ⟨by rfl, rfl⟩) ?_ ?_
                 rotate_left
                 ·simp only [Act.put, List.setIfInBounds_toArray, List.set_cons_zero, List.set_cons_succ, i64_w, i32_w];rfl
                 refine pure_ (i := 20) (N := some 127) (v := undef) (a' := ?_) #[true, true, true, true, true, true, true, true, true, true, true, true, true, true, true, true, true, true, true, true, true, false, false, false, false, false, false] rfl rfl (any_of HT_.out (by kernel_rfl)) (fun _ _ _ h => h) (Or.inr ⟨by rfl, rfl⟩) ?_ ?_
                 rotate_left
                 ·simp only [Act.put, List.setIfInBounds_toArray, List.set_cons_zero, List.set_cons_succ, i64_w, i32_w];rfl
                 refine pure_ (i := 21) (N := some 128) (v := undef) (a' := ?_) #[true, true, true, true, true, true, true, true, true, true, true, true, true, true, true, true, true, true, true, true, true, true, false, false, false, false, false] rfl rfl (any_of HT_.out (by kernel_rfl)) (fun _ _ _ h => h) (Or.inr ⟨by rfl, rfl⟩) ?_ ?_
                 rotate_left
                 ·simp only [Act.put, List.setIfInBounds_toArray, List.set_cons_zero, List.set_cons_succ, i64_w, i32_w];rfl
                 refine pure_ (i := 22) (N := some 129) (v := undef) (a' := ?_) #[true, true, true, true, true, true, true, true, true, true, true, true, true, true, true, true, true, true, true, true, true, true, true, false, false, false, false] rfl rfl (any_of HT_.out (by kernel_rfl)) (fun _ _ _ h => h) (Or.inr ⟨by rfl, rfl⟩) ?_ ?_
                 rotate_left
                 ·simp only [Act.put, List.setIfInBounds_toArray, List.set_cons_zero, List.set_cons_succ, i64_w, i32_w];rfl
                 refine pure_ (i := 23) (N := some 130) (v := undef) (a' := ?_) #[true, true, true, true, true, true, true, true, true, true, true, true, true, true, true, true, true, true, true, true, true, true, true, true, false, false, false] rfl rfl (any_of HT_.out (by kernel_rfl)) (fun _ _ _ h => h) (Or.inr ⟨by rfl, rfl⟩) ?_ ?_
                 rotate_left
                 ·simp only [Act.put, List.setIfInBounds_toArray, List.set_cons_zero, List.set_cons_succ, i64_w, i32_w];rfl
                 refine pure_ (i := 24) (N := some 131) (v := undef) (a' := ?_) #[true, true, true, true, true, true, true, true, true, true, true, true, true, true, true, true, true, true, true, true, true, true, true, true, true, false, false] rfl rfl (any_of HT_.out (by kernel_rfl)) (fun _ _ _ h => h) (Or.inr ⟨by rfl, rfl⟩) ?_ ?_
                 rotate_left
                 ·simp only [Act.put, List.setIfInBounds_toArray, List.set_cons_zero, List.set_cons_succ, i64_w, i32_w];rfl
                 refine pure_ (i := 25) (N := some 132) (v := undef) (a' := ?_) #[true, true, true, true, true, true, true, true, true, true, true, true, true, true, true, true, true, true, true, true, true, true, true, true, true, true, false] rfl rfl (any_of HT_.out (by kernel_rfl)) (fun _ _ _ h => h) (Or.inr ⟨by rfl, rfl⟩) ?_ ?_
                 rotate_left
                 ·simp only [Act.put, List.setIfInBounds_toArray, List.set_cons_zero, List.set_cons_succ, i64_w, i32_w];rfl
                 refine pure_ (i := 26) (N := some 133) (v := ?_) (a' := ?_) #[true, true, true, true, true, true, true, true, true, true, true, true, true, true, true, true, true, true, true, true, true, true, true, true, true, true, true] rfl rfl (any_of HT_.out (by kernel_rfl)) (fun _ _ _ h => h) (Or.inl ⟨by rfl, ?_⟩) ?_ ?_
                 rotate_left
                 ·intro w';go_simp
                  with_reducible rfl
                 rotate_left
                 ·simp only [Act.put, List.setIfInBounds_toArray, List.set_cons_zero, List.set_cons_succ, i64_w, i32_w];rfl
                 refine done_ (done_of HT_.out (by kernel_rfl)) ?_
                 try go_wp2
                 go_roundg k3
                 case measure => have := HJ11.out; have := HJ19.out; have := HK3.out; omega
                 case rel => exact ⟨(wrap64 (x13_3 + 1)), (x288000_3), (x288001_3), (x288002_3), (x288003_3), (by first | rfl | (simp; done) | (simp [*]; done)), H', ⟨by have := HJ11.out; have := HJ19.out; have := HK3.out; omega⟩, ⟨by (with_reducible repeat (first | apply Kd.R_alloc | apply Kd.R_drewN | apply Kd.R_drew)); exact HO_12.out⟩, ⟨by (with_reducible repeat (first | refine blk_drewN ?_ _ | refine blk_drew ?_ | refine blk_alloc ?_ _)); exact BK287.out⟩, ⟨by repeat (first | (with_reducible first | exact HB.out | apply below_alloc | apply pw_below_drewN | apply below_drew1 | refine below_set ?_ GE287.out) | exact HB.out)⟩⟩
               ·rw [if_neg c48] at H;exact absurd H (by simp)
              ·rw [if_neg c47] at H;have c47b0 : decide (x13_3 < (t329.length : Int)) = false := decide_eq_false c47;clear c47;simp only [Option.some.injEq, Prod.mk.injEq] at H;obtain ⟨rfl, rfl, rfl, rfl, rfl, rfl, rfl⟩ := H;obtain ⟨Ao65, co65, eo65⟩ := Kd.R_slice HO_12.out;subst eo65;have hcz66_0 : wr.cell? ⟨gb287, 0, none⟩ = some (.int .i64 x288000_3) := (blk_cell BK287.out 0).trans rfl;have hcz66_1 : wr.cell? ⟨gb287, 1, none⟩ = some (.int .i64 x288001_3) := (blk_cell BK287.out 1).trans rfl
               have hcz66_2 : wr.cell? ⟨gb287, 2, none⟩ = some (.string x288002_3) := (blk_cell BK287.out 2).trans rfl;have hcz66_3 : wr.cell? ⟨gb287, 3, none⟩ = some (.int .i64 x288003_3) := (blk_cell BK287.out 3).trans rfl;have hfz66_0 := blk_frozen BK287.out 0;have hfz66_1 := blk_frozen BK287.out 1;have hfz66_2 := blk_frozen BK287.out 2;have hfz66_3 := blk_frozen BK287.out 3;go_wp2
               refine bodyPost_ret (results_list (rs := [.cell 4 33, .tmp 5, .tmp 6, .tmp 7]) rfl (by simp) (.cell gb287 33 #[.int .i64 0, .int .i64 0, .string (⟨#[]⟩ : ByteArray), .int .i64 0] (0, 0) _ rfl (by (with_reducible repeat (first | refine blk_drewN ?_ _ | refine blk_drew ?_ | refine blk_alloc ?_ _)); refine blk_put (cs := #[.int .i64 0, .int .i64 0, .string (⟨#[]⟩ : ByteArray), .int .i64 x288003_3]) ?_ 3 _ rfl; (with_reducible repeat (first | refine blk_drewN ?_ _ | refine blk_drew ?_ | refine blk_alloc ?_ _)); refine blk_put (cs := #[.int .i64 0, .int .i64 0, .string x288002_3, .int .i64 x288003_3]) ?_ 2 _ rfl; (with_reducible repeat (first | refine blk_drewN ?_ _ | refine blk_drew ?_ | refine blk_alloc ?_ _)); refine blk_put (cs := #[.int .i64 0, .int .i64 x288001_3, .string x288002_3, .int .i64 x288003_3]) ?_ 1 _ rfl; (with_reducible repeat (first | refine blk_drewN ?_ _ | refine blk_drew ?_ | refine blk_alloc ?_ _)); refine blk_put (cs := #[.int .i64 x288000_3, .int .i64 x288001_3, .string x288002_3, .int .i64 x288003_3]) ?_ 0 _ rfl; (with_reducible repeat (first | refine blk_drewN ?_ _ | refine blk_drew ?_ | refine blk_alloc ?_ _)); exact BK287.out) Tryd.underlying33 rfl (by kernel_rfl) (.tmp (.tmp (.tmp .nil))))) rfl ?_
               exact ⟨by first | rfl | (simp [errW_none, errW_some] <;> rfl) | (simp [*, errW_none, errW_some] <;> rfl), by repeat (first | (with_reducible first | exact HB.out | apply below_alloc | apply pw_below_drewN | apply below_drew1 | refine below_set ?_ GE287.out) | exact HB.out)⟩
  ·rw [if_neg c4] at H;exact absurd H (by simp)
 ·rw [if_neg c3] at H;exact absurd H (by simp)
end Go.Proofs.YtdhdpidjdadamaaDoor.PX
