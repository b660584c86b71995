/- Printed by this session's program: Go functions of this seat as plain Lean functions, and proofs that their calls come to them. -/
import Derived.Test.YtdhdpidjdadamaaDoorPx0
import Derived.Test.YtdhdpidjdadamaaDoorPx2
import Derived.Test.YtdhdpidjdadamaaDoorPx3
import Derived.Test.YtdhdpidjdadamaaDoorPx9
import Derived.Test.YtdhdpidjdadamaaDoorHSigns
import Derived.Test.YtdhdpidjdadamaaDoorHNext
namespace Go.Proofs.YtdhdpidjdadamaaDoor.PX
open Go.RowKit Go.Proofs.YtdhdpidjdadamaaDoorW.PrintWords Go.Proofs.YtdhdpidjdadamaaDoorW.PrintLast Go.Proofs.YtdhdpidjdadamaaDoorW.PrintMore
attribute [local go_sem] max2_int min2_int max_two min_two max_three min_three max_four min_four   -- for this text's walks alone
set_option linter.unusedVariables false
set_option linter.unusedSimpArgs false
-- BREAK: function 30 (flex_signs): by hand in YtdhdpidjdadamaaDoorHSigns
/-! ### stringslite_HasPrefix: function 44 -/
def stringslite_HasPrefix.f (a0 : ByteArray) (a1 : ByteArray) : Option (Bool) := if (a0.size : Int) ≥ (a1.size : Int) then (if 0 ≤ (a1.size : Int) then (if (a1.size : Int) ≤ (a0.size : Int) then (some ((a0.extract 0 ((a1.size : Int) : Int).toNat).toList == a1.toList)) else (none)) else (none)) else (some false)
set_option maxHeartbeats 8000000 in
set_option maxRecDepth 100000 in
theorem stringslite_HasPrefix.calls (a0 : ByteArray) (a1 : ByteArray) (r : Bool) (w : World) (h : stringslite_HasPrefix.f a0 a1 = some r) :
 Calls Tryd.prog 44 #[.string a0, .string a1] w fun e w' => e = .returned (.bool r) ∧ Drawn0 w w' := by
 have H : (if (a0.size : Int) ≥ (a1.size : Int) then (if 0 ≤ (a1.size : Int) then (if (a1.size : Int) ≤ (a0.size : Int) then (some ((a0.extract 0 ((a1.size : Int) : Int).toNat).toList == a1.toList)) else (none)) else (none)) else (some false)) = some r := h
 clear h;by_cases c3 : (a0.size : Int) ≥ (a1.size : Int)
 ·rw [if_pos c3] at H;have c3b0 : decide ((a1.size : Int) ≤ (a0.size : Int)) = true := decide_eq_true c3;have c3b1 : decide (a1.size ≤ a0.size) = true := decide_eq_true (Int.ofNat_le.mp c3);clear c3;by_cases c4 : 0 ≤ (a1.size : Int)
  ·rw [if_pos c4] at H;have c4b0 := eq_true c4;have c4b1 : decide (0 ≤ (a1.size : Int)) = true := decide_eq_true c4;clear c4;by_cases c5 : (a1.size : Int) ≤ (a0.size : Int)
   ·rw [if_pos c5] at H;have c5b0 := eq_true c5;have c5b1 : decide ((a1.size : Int) ≤ (a0.size : Int)) = true := decide_eq_true c5;clear c5;obtain rfl := Option.some.inj H;go_enter Tryd.func44, Tryd.ntmps44;go_wp2;go_ret;exact ⟨by first | rfl | (simp; done) | (simp [*]; done), by repeat (first | exact Drawn0.refl _ | apply Drawn0.step)⟩
   ·rw [if_neg c5] at H;exact absurd H (by simp)
  ·rw [if_neg c4] at H;exact absurd H (by simp)
 ·rw [if_neg c3] at H;have c3b0 : decide ((a1.size : Int) ≤ (a0.size : Int)) = false := decide_eq_false c3;have c3b1 : decide (a1.size ≤ a0.size) = false := decide_eq_false (fun h => c3 (Int.ofNat_le.mpr h))
  clear c3;obtain rfl := Option.some.inj H;go_enter Tryd.func44, Tryd.ntmps44;go_wp2;go_ret;exact ⟨by first | rfl | (simp; done) | (simp [*]; done), by repeat (first | exact Drawn0.refl _ | apply Drawn0.step)⟩
/-! ### strings_HasPrefix: function 31 -/
def strings_HasPrefix.f (a0 : ByteArray) (a1 : ByteArray) : Option (Bool) := (stringslite_HasPrefix.f a0 a1).bind fun t161 => (some t161)
set_option maxHeartbeats 8000000 in
set_option maxRecDepth 100000 in
theorem strings_HasPrefix.calls (a0 : ByteArray) (a1 : ByteArray) (r : Bool) (w : World) (h : strings_HasPrefix.f a0 a1 = some r) :
 Calls Tryd.prog 31 #[.string a0, .string a1] w fun e w' => e = .returned (.bool r) ∧ Drawn0 w w' := by
 have H : ((stringslite_HasPrefix.f a0 a1).bind fun t161 => (some t161)) = some r := h
 clear h;replace H := Option.bind_eq_some_iff.mp H;obtain ⟨t161, A30, H⟩ := H;replace H : (some t161) = some r := H;have A3 := Aside0.mk A30;clear A30;obtain rfl := Option.some.inj H;go_enter Tryd.func31, Tryd.ntmps31
 go_wp2_with (first | ((with_reducible refine gate_callee (f := 44) rfl ?_); refine goesL_ (some 7) rfl rfl Tryd.func44 (by kernel_rfl) rfl #[.string a0, .string a1] rfl (by (try simp only [List.map_toArray, List.map_cons, List.map_nil]); first | done | rfl | (simp only [List.length_drop, List.length_take]; rfl)) ?_; (with_reducible refine (stringslite_HasPrefix.calls a0 a1 t161 _ A3.out).mono ?_); rintro e w' ⟨rfl, ⟨nd, rfl⟩⟩; refine ⟨_, rfl, ?_⟩))
 go_ret;exact ⟨by first | rfl | (simp; done) | (simp [*]; done), by repeat (first | exact Drawn0.refl _ | apply Drawn0.step)⟩
/-! ### flex_token: function 20 -/
mutual
def flex_token.j2 : Nat → ByteArray → Int → Int → Int → Option (Int × Int × ByteArray × Int × Int × Int)
 | 0, _, _, _, _ => none
 | k + 1, x0, x1, x7, x8 => (flex_name.f k x0 x7).bind fun t186 => (if t186 = x7 then (some (0, 0, (⟨#[]⟩ : ByteArray), 0, x1, 4)) else (if (wrap64 (t186 - x7)) > 32 then (some (0, 0, (⟨#[]⟩ : ByteArray), 0, x1, 2)) else (if x8 = 1 then (if 0 ≤ x7 then (if x7 ≤ t186 then (if t186 ≤ (x0.size : Int) then ((flex_Keyword.f (x0.extract (x7 : Int).toNat (t186 : Int).toNat)).bind fun t187 => (if t187 = true then (some (2, 0, x0.extract (x7 : Int).toNat (t186 : Int).toNat, 0, t186, 0)) else (some (x8, 0, x0.extract (x7 : Int).toNat (t186 : Int).toNat, 0, t186, 0)))) else (none)) else (none)) else (none)) else (if 0 ≤ x7 then (if x7 ≤ t186 then (if t186 ≤ (x0.size : Int) then (some (x8, 0, x0.extract (x7 : Int).toNat (t186 : Int).toNat, 0, t186, 0)) else (none)) else (none)) else (none)))))
def flex_token.j0 : Nat → ByteArray → Int → Int → Bool → Option (Int × Int × ByteArray × Int × Int × Int)
 | 0, _, _, _, _ => none
 | k + 1, x0, x1, x9, x48 => if x48 = true then (flex_token.j2 k x0 x1 (wrap64 (x1 + 1)) 4) else ((flex_digit.f x9).bind fun t165 => (if t165 = true then ((flex_number.f k x0 x1).bind fun bt166 => (some (bt166.1, bt166.2.1, bt166.2.2.1, bt166.2.2.2.1, bt166.2.2.2.2.1, bt166.2.2.2.2.2))) else (if x9 = 34 then ((jx_Next.f k x0 x1).bind fun bt172 => (some (6, 0, bt172.2.2.2.2.2.1, 0, bt172.2.2.2.2.2.2.1, bt172.2.2.2.2.2.2.2))) else ((flex_signs.f).bind fun t181 => (flex_token.l0 k x0 x1 t181 (t181.length : Int) 0)))))
def flex_token.l0 : Nat → ByteArray → Int → List ByteArray → Int → Int → Option (Int × Int × ByteArray × Int × Int × Int)
 | 0, _, _, _, _, _ => none
 | k + 1, x0, x1, x20, x21, x22 => if x22 < x21 then (if 0 ≤ x22 then (if x22 < (x20.length : Int) then (if 0 ≤ x1 then (if x1 ≤ (x0.size : Int) then ((strings_HasPrefix.f (x0.extract (x1 : Int).toNat x0.size) (rdOf ByteArray.empty x20 x22)).bind fun t185 => (if t185 = true then (some (7, 0, rdOf ByteArray.empty x20 x22, 0, wrap64 (x1 + ((rdOf ByteArray.empty x20 x22).size : Int)), 0)) else (flex_token.l0 k x0 x1 x20 x21 (wrap64 (x22 + 1))))) else (none)) else (none)) else (none)) else (none)) else (some (0, 0, (⟨#[]⟩ : ByteArray), 0, x1, 4))
end
def flex_token.f (k : Nat) (a0 : ByteArray) (a1 : Int) : Option (Int × Int × ByteArray × Int × Int × Int) := if 0 ≤ a1 then (if a1 < (a0.size : Int) then ((flex_letter.f (bt a0 a1)).bind fun t163 => (if t163 = true then (flex_token.j2 k a0 a1 a1 1) else (if (bt a0 a1) = 36 then (flex_token.j2 k a0 a1 (wrap64 (a1 + 1)) 3) else (if (bt a0 a1) = 46 then ((flex_name.f k a0 (wrap64 (a1 + 1))).bind fun t164 => (flex_token.j0 k a0 a1 (bt a0 a1) (decide (t164 > (wrap64 (a1 + 1)))))) else (flex_token.j0 k a0 a1 (bt a0 a1) false))))) else (none)) else (none)
theorem flex_token.mono_l : ∀ k, (∀ y0 y1 y2 y3, LeO (flex_token.j2 k y0 y1 y2 y3) (flex_token.j2 (k + 1) y0 y1 y2 y3)) ∧ (∀ y0 y1 y2 y3, LeO (flex_token.j0 k y0 y1 y2 y3) (flex_token.j0 (k + 1) y0 y1 y2 y3)) ∧ (∀ y0 y1 y2 y3 y4, LeO (flex_token.l0 k y0 y1 y2 y3 y4) (flex_token.l0 (k + 1) y0 y1 y2 y3 y4))
 | 0 => ⟨fun _ _ _ _ r h => by simp [flex_token.j2] at h, fun _ _ _ _ r h => by simp [flex_token.j0] at h, fun _ _ _ _ _ r h => by simp [flex_token.l0] at h⟩
 | k + 1 => by
  obtain ⟨ih0, ih1, ih2⟩ := flex_token.mono_l k;refine ⟨?_, ?_, ?_⟩
  all_goals (intros;first | unfold flex_token.j2 | unfold flex_token.j0 | unfold flex_token.l0)
  all_goals (repeat' first | (with_reducible first | exact ih0 _ _ _ _ | exact ih1 _ _ _ _ | exact ih2 _ _ _ _ _ | exact flex_name.mono _ _ _ | exact flex_number.mono _ _ _ | exact jx_Next.mono _ _ _ | exact LeO.refl _ | exact LeO.none _ | refine LeO.ite ?_ ?_ | refine LeO.bind ?_ (fun _ => ?_)) | exact ih0 _ _ _ _ | exact ih1 _ _ _ _ | exact ih2 _ _ _ _ _ | exact flex_name.mono _ _ _ | exact flex_number.mono _ _ _ | exact jx_Next.mono _ _ _ | exact LeO.none _ | refine LeO.ite ?_ ?_ | refine LeO.bind ?_ (fun _ => ?_))
theorem flex_token.mono : ∀ a0 a1 k, LeO (flex_token.f k a0 a1) (flex_token.f (k + 1) a0 a1) := by
 intro a0 a1 k;obtain ⟨ih0, ih1, ih2⟩ := flex_token.mono_l k;unfold flex_token.f;repeat' first | (with_reducible first | exact ih0 _ _ _ _ | exact ih1 _ _ _ _ | exact ih2 _ _ _ _ _ | exact flex_name.mono _ _ _ | exact flex_number.mono _ _ _ | exact jx_Next.mono _ _ _ | exact LeO.refl _ | exact LeO.none _ | refine LeO.ite ?_ ?_ | refine LeO.bind ?_ (fun _ => ?_)) | exact ih0 _ _ _ _ | exact ih1 _ _ _ _ | exact ih2 _ _ _ _ _ | exact flex_name.mono _ _ _ | exact flex_number.mono _ _ _ | exact jx_Next.mono _ _ _ | exact LeO.none _ | refine LeO.ite ?_ ?_ | refine LeO.bind ?_ (fun _ => ?_)
set_option maxHeartbeats 8000000 in
set_option maxRecDepth 100000 in
theorem flex_token.calls (k : Nat) (a0 : ByteArray) (a1 : Int) (r1 : Int) (r2 : Int) (r3 : ByteArray) (r4 : Int) (r5 : Int) (r6 : Int) (w : World) (h : flex_token.f k a0 a1 = some (r1, r2, r3, r4, r5, r6)) (hG0 : GW w) :
 Calls Tryd.prog 20 #[.string a0, .int .i64 a1] w fun e w' => e = .returned (.tuple #[.agg #[.int .i64 r1, .int .i64 r2, .string r3, .int .i64 r4], .int .i64 r5, .int .i64 r6]) ∧ Below w.heap.size w w' := by
 have hu33 := Tryd.underlying33;have hu46 := Tryd.underlying46;have HB := Aside0.mk (Below.refl w.heap.size w);have HG := Aside0.mk hG0;clear hG0
 have H : (if 0 ≤ a1 then (if a1 < (a0.size : Int) then ((flex_letter.f (bt a0 a1)).bind fun t163 => (if t163 = true then (flex_token.j2 k a0 a1 a1 1) else (if (bt a0 a1) = 36 then (flex_token.j2 k a0 a1 (wrap64 (a1 + 1)) 3) else (if (bt a0 a1) = 46 then ((flex_name.f k a0 (wrap64 (a1 + 1))).bind fun t164 => (flex_token.j0 k a0 a1 (bt a0 a1) (decide (t164 > (wrap64 (a1 + 1)))))) else (flex_token.j0 k a0 a1 (bt a0 a1) false))))) else (none)) else (none)) = some (r1, r2, r3, r4, r5, r6) := h
 clear h;by_cases c3 : 0 ≤ a1
 ·rw [if_pos c3] at H;have c3b0 : decide (0 ≤ a1) = true := decide_eq_true c3;clear c3;by_cases c4 : a1 < (a0.size : Int)
  ·rw [if_pos c4] at H;have c4b0 : decide (a1 < (a0.size : Int)) = true := decide_eq_true c4;clear c4;have HC6 := Aside0.mk H;clear H;go_enter Tryd.func20, Tryd.ntmps20
   go_upto_block 0 with (first | ((with_reducible refine gate_dst (N := 4) rfl ?_); refine box_event ?hg (N := 4) ?hd (cs := #[.int .i64 0, .int .i64 0, .string (⟨#[]⟩ : ByteArray), .int .i64 0]) (t := 33) ?hr ?_; (case hd => rfl); (case hg => rfl); (case hr => first | (go_simp; done) | (go_simp; rfl)); intro gb162 hg w7 hbox hb; have n0_ := Aside0.mk (below_step (by repeat (first | (with_reducible first | exact HB.out | apply below_alloc | apply pw_below_drewN | apply below_drew1) | exact HB.out)) hb); have n1_ := Aside0.mk (hbox); have n2_ := Aside0.mk ((by rw [hg]; exact (below_size (by repeat (first | (with_reducible first | exact HB.out | apply below_alloc | apply pw_below_drewN | apply below_drew1) | exact HB.out))) : w.heap.size ≤ gb162)); have n3_ := Aside0.mk ((by rw [hg]; exact (below_size (by repeat (first | (with_reducible first | exact HB.out | apply below_alloc | apply pw_below_drewN | apply below_drew1) | exact HB.out))) : w.heap.size ≤ gb162)); clear HB; have HB := n0_; have BK162 := n1_; have GW162 := n2_; have GE162 := n3_; clear n0_ n1_ n2_ n3_; clear hb hbox hg; have p5 : 0 ≤ (a1 : Int) := of_decide_eq_true (by first | (with_reducible assumption) | assumption); have q5 : a1 < (a0.size : Int) := of_decide_eq_true (by first | (with_reducible assumption) | assumption); have hx5 := bt_at a0 a1; replace p5 := eq_true p5; replace q5 := eq_true q5))
   (try simp only [Act.put, List.setIfInBounds_toArray, List.set_cons_zero, List.set_cons_succ])
   go_cut [7, 8] (fun v7 v8 wc => ∃ (kq : Nat) (x7_5 : Int) (x8_5 : Int) (x163000_5 : Int) (x163001_5 : Int) (x163002_5 : ByteArray) (x163003_5 : Int), v7 = .int .i64 x7_5 ∧ v8 = .int .i64 x8_5 ∧ Aside0 (flex_token.j2 kq a0 a1 x7_5 x8_5 = some (r1, r2, r3, r4, r5, r6)) ∧ Aside0 (kq ≤ k) ∧ Aside0 (wc.heap[gb162]? = some (.cells #[.int .i64 x163000_5, .int .i64 x163001_5, .string x163002_5, .int .i64 x163003_5] 33 (0, 0))) ∧ Aside0 (Below w.heap.size w wc))
   case first =>
    have H := HC6.out;clear HC6;replace H := Option.bind_eq_some_iff.mp H;obtain ⟨t163, A80, H⟩ := H;replace H : (if t163 = true then (flex_token.j2 k a0 a1 a1 1) else (if (bt a0 a1) = 36 then (flex_token.j2 k a0 a1 (wrap64 (a1 + 1)) 3) else (if (bt a0 a1) = 46 then ((flex_name.f k a0 (wrap64 (a1 + 1))).bind fun t164 => (flex_token.j0 k a0 a1 (bt a0 a1) (decide (t164 > (wrap64 (a1 + 1)))))) else (flex_token.j0 k a0 a1 (bt a0 a1) false)))) = some (r1, r2, r3, r4, r5, r6) := H
    have A8 := Aside0.mk A80;clear A80;by_cases c9 : t163 = true
    ·subst c9;have H1 : (flex_token.j2 k a0 a1 a1 1) = some (r1, r2, r3, r4, r5, r6) := by rw [if_pos rfl] at H; exact H
     clear H;have H := H1;clear H1;have H' := Aside0.mk H;clear H;go_wp2_with (first | ((with_reducible refine gate_callee (f := 26) rfl ?_); refine goesL_ (some 42) rfl rfl Tryd.func26 (by kernel_rfl) rfl #[.int .u8 (bt a0 a1)] rfl (by (try simp only [List.map_toArray, List.map_cons, List.map_nil]); first | done | rfl | (simp only [List.length_drop, List.length_take]; rfl)) ?_; (with_reducible refine (flex_letter.calls (bt a0 a1) true _ A8.out).mono ?_); rintro e w' ⟨rfl, ⟨nd, rfl⟩⟩; refine ⟨_, rfl, ?_⟩))
     go_meet
     case rel => exact ⟨_, (a1), (1), (0), (0), ((⟨#[]⟩ : ByteArray)), (0), (by first | rfl | (simp; done) | (simp [*]; done)), (by first | rfl | (simp; done) | (simp [*]; done)), H', ⟨by first | omega | exact Nat.le_refl _⟩, ⟨by (with_reducible repeat (first | refine blk_drewN ?_ _ | refine blk_drew ?_ | refine blk_alloc ?_ _)); exact BK162.out⟩, ⟨by repeat (first | (with_reducible first | exact HB.out | apply below_alloc | apply pw_below_drewN | apply below_drew1 | refine below_set ?_ GE162.out) | exact HB.out)⟩⟩
    ·replace c9 := Bool.eq_false_iff.mpr c9;subst c9;have H1 : (if (bt a0 a1) = 36 then (flex_token.j2 k a0 a1 (wrap64 (a1 + 1)) 3) else (if (bt a0 a1) = 46 then ((flex_name.f k a0 (wrap64 (a1 + 1))).bind fun t164 => (flex_token.j0 k a0 a1 (bt a0 a1) (decide (t164 > (wrap64 (a1 + 1)))))) else (flex_token.j0 k a0 a1 (bt a0 a1) false))) = some (r1, r2, r3, r4, r5, r6) := by rw [if_neg (show ¬ (false = true) by decide)] at H; exact H
     clear H;have H := H1;clear H1;by_cases c10 : (bt a0 a1) = 36
     ·rw [if_pos c10] at H;have c10b0 : ((bt a0 a1) == 36) = true := beq_iff_eq.mpr c10;have c10b1 : ((bt a0 a1) != 36) = false := bne_eq_false_iff_eq.mpr c10;clear c10;(first | rw [c10b0] | (simp only [i64_w, i32_w]; rw [c10b0]) | skip)
      have H' := Aside0.mk H;clear H;go_wp2_with (first | ((with_reducible refine gate_callee (f := 26) rfl ?_); refine goesL_ (some 42) rfl rfl Tryd.func26 (by kernel_rfl) rfl #[.int .u8 (bt a0 a1)] rfl (by (try simp only [List.map_toArray, List.map_cons, List.map_nil]); first | done | rfl | (simp only [List.length_drop, List.length_take]; rfl)) ?_; (with_reducible refine (flex_letter.calls (bt a0 a1) false _ A8.out).mono ?_); rintro e w' ⟨rfl, ⟨nd, rfl⟩⟩; refine ⟨_, rfl, ?_⟩))
      go_meet
      case rel => exact ⟨_, (wrap64 (a1 + 1)), (3), (0), (0), ((⟨#[]⟩ : ByteArray)), (0), (by first | rfl | (simp; done) | (simp [*]; done)), (by first | rfl | (simp; done) | (simp [*]; done)), H', ⟨by first | omega | exact Nat.le_refl _⟩, ⟨by (with_reducible repeat (first | refine blk_drewN ?_ _ | refine blk_drew ?_ | refine blk_alloc ?_ _)); exact BK162.out⟩, ⟨by repeat (first | (with_reducible first | exact HB.out | apply below_alloc | apply pw_below_drewN | apply below_drew1 | refine below_set ?_ GE162.out) | exact HB.out)⟩⟩
     ·rw [if_neg c10] at H;have c10b0 : ((bt a0 a1) == 36) = false := beq_eq_false_iff_ne.mpr c10;have c10b1 : ((bt a0 a1) != 36) = true := bne_iff_ne.mpr c10;(first | rw [c10b0] | (simp only [i64_w, i32_w]; rw [c10b0]) | skip)
      have HC11 := Aside0.mk H;clear H;go_upto_region 13 with (first | ((with_reducible refine gate_callee (f := 26) rfl ?_); refine goesL_ (some 42) rfl rfl Tryd.func26 (by kernel_rfl) rfl #[.int .u8 (bt a0 a1)] rfl (by (try simp only [List.map_toArray, List.map_cons, List.map_nil]); first | done | rfl | (simp only [List.length_drop, List.length_take]; rfl)) ?_; (with_reducible refine (flex_letter.calls (bt a0 a1) false _ A8.out).mono ?_); rintro e w' ⟨rfl, ⟨nd, rfl⟩⟩; refine ⟨_, rfl, ?_⟩))
      (try simp only [Act.put, List.setIfInBounds_toArray, List.set_cons_zero, List.set_cons_succ])
      go_cut [48] (fun v48 wc => ∃ (kq : Nat) (x48_10 : Bool), v48 = .bool x48_10 ∧ Aside0 (flex_token.j0 kq a0 a1 (bt a0 a1) x48_10 = some (r1, r2, r3, r4, r5, r6)) ∧ Aside0 (kq ≤ k) ∧ Aside0 (wc.heap[gb162]? = some (.cells #[.int .i64 0, .int .i64 0, .string (⟨#[]⟩ : ByteArray), .int .i64 0] 33 (0, 0))) ∧ Aside0 (Below w.heap.size w wc))
      case first =>
       have H := HC11.out;clear HC11;by_cases c12 : (bt a0 a1) = 46
       ·rw [if_pos c12] at H;have c12b0 : ((bt a0 a1) == 46) = true := beq_iff_eq.mpr c12;have c12b1 : ((bt a0 a1) != 46) = false := bne_eq_false_iff_eq.mpr c12;clear c12;(first | rw [c12b0] | (simp only [i64_w, i32_w]; rw [c12b0]) | skip)
        replace H := Option.bind_eq_some_iff.mp H;obtain ⟨t164, A130, H⟩ := H;replace H : (flex_token.j0 k a0 a1 (bt a0 a1) (decide (t164 > (wrap64 (a1 + 1))))) = some (r1, r2, r3, r4, r5, r6) := H;have A13 := Aside0.mk A130;clear A130;have H' := Aside0.mk H;clear H;go_wp2_with (first | (go_at_call 23; (with_reducible refine (flex_name.calls k a0 (wrap64 (a1 + 1)) t164 _ A13.out).mono ?_); rintro e w' ⟨rfl, ⟨nd, rfl⟩⟩))
        go_meet
        case rel => exact ⟨_, (decide (t164 > (wrap64 (a1 + 1)))), (by first | rfl | (simp; done) | (simp [*]; done)), H', ⟨by first | omega | exact Nat.le_refl _⟩, ⟨by (with_reducible repeat (first | refine blk_drewN ?_ _ | refine blk_drew ?_ | refine blk_alloc ?_ _)); exact BK162.out⟩, ⟨by repeat (first | (with_reducible first | exact HB.out | apply below_alloc | apply pw_below_drewN | apply below_drew1 | refine below_set ?_ GE162.out) | exact HB.out)⟩⟩
       ·rw [if_neg c12] at H;have c12b0 : ((bt a0 a1) == 46) = false := beq_eq_false_iff_ne.mpr c12;have c12b1 : ((bt a0 a1) != 46) = true := bne_iff_ne.mpr c12;(first | rw [c12b0] | (simp only [i64_w, i32_w]; rw [c12b0]) | skip)
        have H' := Aside0.mk H;clear H;go_wp2;go_meet
        case rel => exact ⟨_, (false), (by first | rfl | (simp; done) | (simp [*]; done)), H', ⟨by first | omega | exact Nat.le_refl _⟩, ⟨by (with_reducible repeat (first | refine blk_drewN ?_ _ | refine blk_drew ?_ | refine blk_alloc ?_ _)); exact BK162.out⟩, ⟨by repeat (first | (with_reducible first | exact HB.out | apply below_alloc | apply pw_below_drewN | apply below_drew1 | refine below_set ?_ GE162.out) | exact HB.out)⟩⟩
      case rest =>
       clear HC11;try clear c1
       try clear c2
       try clear p2
       try clear c3
       try clear c3b0
       try clear c4
       try clear c4b0
       try clear p5
       try clear q5
       try clear hx5
       try clear p6
       try clear c9
       try clear c10
       try clear c10b0
       try clear c10b1
       try clear c12
       try clear c12b0
       try clear c12b1
       try clear p5
       try clear q5
       obtain ⟨kq, x48_10, rfl, HA, HJ10, BK162, HB⟩ := hcut;cases kq with
       | zero => exact absurd HA.out (by simp [flex_token.j0])
       | succ kj10 =>
        have H := HA.out;clear HA;simp only [flex_token.j0] at H;by_cases c14 : x48_10 = true
        ·subst c14;have H1 : (flex_token.j2 kj10 a0 a1 (wrap64 (a1 + 1)) 4) = some (r1, r2, r3, r4, r5, r6) := by rw [if_pos rfl] at H; exact H
         clear H;have H := H1;clear H1;have H' := Aside0.mk H;clear H;go_wp2;go_meet
         case rel => exact ⟨_, (wrap64 (a1 + 1)), (4), (0), (0), ((⟨#[]⟩ : ByteArray)), (0), (by first | rfl | (simp; done) | (simp [*]; done)), (by first | rfl | (simp; done) | (simp [*]; done)), H', ⟨by have := HJ10.out; first | omega | exact Nat.le_refl _⟩, ⟨by (with_reducible repeat (first | refine blk_drewN ?_ _ | refine blk_drew ?_ | refine blk_alloc ?_ _)); exact BK162.out⟩, ⟨by repeat (first | (with_reducible first | exact HB.out | apply below_alloc | apply pw_below_drewN | apply below_drew1 | refine below_set ?_ GE162.out) | exact HB.out)⟩⟩
        ·replace c14 := Bool.eq_false_iff.mpr c14;subst c14
         have H1 : ((flex_digit.f (bt a0 a1)).bind fun t165 => (if t165 = true then ((flex_number.f kj10 a0 a1).bind fun bt166 => (some (bt166.1, bt166.2.1, bt166.2.2.1, bt166.2.2.2.1, bt166.2.2.2.2.1, bt166.2.2.2.2.2))) else (if (bt a0 a1) = 34 then ((jx_Next.f kj10 a0 a1).bind fun bt172 => (some (6, 0, bt172.2.2.2.2.2.1, 0, bt172.2.2.2.2.2.2.1, bt172.2.2.2.2.2.2.2))) else ((flex_signs.f).bind fun t181 => (flex_token.l0 kj10 a0 a1 t181 (t181.length : Int) 0))))) = some (r1, r2, r3, r4, r5, r6) := by rw [if_neg (show ¬ (false = true) by decide)] at H; exact H
         clear H;have H := H1;clear H1;replace H := Option.bind_eq_some_iff.mp H;obtain ⟨t165, A150, H⟩ := H;replace H : (if t165 = true then ((flex_number.f kj10 a0 a1).bind fun bt166 => (some (bt166.1, bt166.2.1, bt166.2.2.1, bt166.2.2.2.1, bt166.2.2.2.2.1, bt166.2.2.2.2.2))) else (if (bt a0 a1) = 34 then ((jx_Next.f kj10 a0 a1).bind fun bt172 => (some (6, 0, bt172.2.2.2.2.2.1, 0, bt172.2.2.2.2.2.2.1, bt172.2.2.2.2.2.2.2))) else ((flex_signs.f).bind fun t181 => (flex_token.l0 kj10 a0 a1 t181 (t181.length : Int) 0)))) = some (r1, r2, r3, r4, r5, r6) := H
         have A15 := Aside0.mk A150;clear A150;by_cases c16 : t165 = true
         ·subst c16;have H1 : ((flex_number.f kj10 a0 a1).bind fun bt166 => (some (bt166.1, bt166.2.1, bt166.2.2.1, bt166.2.2.2.1, bt166.2.2.2.2.1, bt166.2.2.2.2.2))) = some (r1, r2, r3, r4, r5, r6) := by rw [if_pos rfl] at H; exact H
          clear H;have H := H1;clear H1;replace H := Option.bind_eq_some_iff.mp H;obtain ⟨⟨t166, t167, t168, t169, t170, t171⟩, A170, H⟩ := H;replace H : (some (t166, t167, t168, t169, t170, t171)) = some (r1, r2, r3, r4, r5, r6) := H;have A17 := Aside0.mk A170;clear A170;simp only [Option.some.injEq, Prod.mk.injEq] at H;obtain ⟨rfl, rfl, rfl, rfl, rfl, rfl⟩ := H
          go_wp2_with (first | ((with_reducible refine gate_callee (f := 27) rfl ?_); refine goesL_ (some 64) rfl rfl Tryd.func27 (by kernel_rfl) rfl #[.int .u8 (bt a0 a1)] rfl (by (try simp only [List.map_toArray, List.map_cons, List.map_nil]); first | done | rfl | (simp only [List.length_drop, List.length_take]; rfl)) ?_; (with_reducible refine (flex_digit.calls (bt a0 a1) true _ A15.out).mono ?_); rintro e w' ⟨rfl, ⟨nd, rfl⟩⟩; refine ⟨_, rfl, ?_⟩; (try (rw [drewN_self wc]; generalize hq_ : World.drewN wc _ = wc; have n0_ : Aside0 (wc.heap[gb162]? = some (.cells #[.int .i64 0, .int .i64 0, .string (⟨#[]⟩ : ByteArray), .int .i64 0] 33 (0, 0))) := ⟨by rw [← hq_]; exact (by (with_reducible repeat (first | refine blk_drewN ?_ _ | refine blk_drew ?_ | refine blk_alloc ?_ _)); exact BK162.out)⟩; have n1_ : Aside0 (Below w.heap.size w wc) := ⟨by rw [← hq_]; exact (by repeat (first | (with_reducible first | exact HB.out | apply below_alloc | apply pw_below_drewN | apply below_drew1 | refine below_set ?_ GE162.out) | exact HB.out))⟩; clear BK162 HB hq_; have BK162 := n0_; have HB := n1_; clear n0_ n1_))) | ((with_reducible refine gate_callee (f := 28) rfl ?_); refine goesL_ (some 67) rfl rfl Tryd.func28 (by kernel_rfl) rfl #[.string a0, .int .i64 a1] rfl (by (try simp only [List.map_toArray, List.map_cons, List.map_nil]); first | done | rfl | (simp only [List.length_drop, List.length_take]; rfl)) ?_; (with_reducible refine (flex_number.calls kj10 a0 a1 t166 t167 t168 t169 t170 t171 _ A17.out).mono ?_); rintro e w18 ⟨rfl, hb⟩; refine ⟨_, rfl, ?_⟩; have n0_ := Aside0.mk (blk_below (g := gb162) (o := .cells #[.int .i64 0, .int .i64 0, .string (⟨#[]⟩ : ByteArray), .int .i64 0] 33 (0, 0)) (by (with_reducible repeat (first | refine blk_drewN ?_ _ | refine blk_drew ?_ | refine blk_alloc ?_ _)); exact BK162.out) hb); have n1_ := Aside0.mk (below_step (by repeat (first | (with_reducible first | exact HB.out | apply below_alloc | apply pw_below_drewN | apply below_drew1 | refine below_set ?_ GE162.out) | exact HB.out)) hb); clear BK162; clear HB; have BK162 := n0_; have HB := n1_; clear n0_ n1_; (try clear hb); (try clear hb2); (try clear hk); (try clear hi); have hcz19_0 : w18.cell? ⟨gb162, 0, none⟩ = some (.int .i64 0) := (blk_cell BK162.out 0).trans rfl; have hcz19_1 : w18.cell? ⟨gb162, 1, none⟩ = some (.int .i64 0) := (blk_cell BK162.out 1).trans rfl; have hcz19_2 : w18.cell? ⟨gb162, 2, none⟩ = some (.string (⟨#[]⟩ : ByteArray)) := (blk_cell BK162.out 2).trans rfl; have hcz19_3 : w18.cell? ⟨gb162, 3, none⟩ = some (.int .i64 0) := (blk_cell BK162.out 3).trans rfl; have hfz19_0 := blk_frozen BK162.out 0; have hfz19_1 := blk_frozen BK162.out 1; have hfz19_2 := blk_frozen BK162.out 2; have hfz19_3 := blk_frozen BK162.out 3))
          refine bodyPost_ret (results_ctt rfl _ _ gb162 33 #[.int .i64 t166, .int .i64 t167, .string t168, .int .i64 t169] (0, 0) _ rfl (by (with_reducible repeat (first | refine blk_drewN ?_ _ | refine blk_drew ?_ | refine blk_alloc ?_ _)); refine blk_put (cs := #[.int .i64 t166, .int .i64 t167, .string t168, .int .i64 0]) ?_ 3 _ rfl; (with_reducible repeat (first | refine blk_drewN ?_ _ | refine blk_drew ?_ | refine blk_alloc ?_ _)); refine blk_put (cs := #[.int .i64 t166, .int .i64 t167, .string (⟨#[]⟩ : ByteArray), .int .i64 0]) ?_ 2 _ rfl; (with_reducible repeat (first | refine blk_drewN ?_ _ | refine blk_drew ?_ | refine blk_alloc ?_ _)); refine blk_put (cs := #[.int .i64 t166, .int .i64 0, .string (⟨#[]⟩ : ByteArray), .int .i64 0]) ?_ 1 _ rfl; (with_reducible repeat (first | refine blk_drewN ?_ _ | refine blk_drew ?_ | refine blk_alloc ?_ _)); refine blk_put (cs := #[.int .i64 0, .int .i64 0, .string (⟨#[]⟩ : ByteArray), .int .i64 0]) ?_ 0 _ rfl; (with_reducible repeat (first | refine blk_drewN ?_ _ | refine blk_drew ?_ | refine blk_alloc ?_ _)); exact BK162.out) Tryd.underlying33 rfl (by kernel_rfl)) rfl ?_
          exact ⟨by first | rfl | (simp [errW_none, errW_some] <;> rfl) | (simp [*, errW_none, errW_some] <;> rfl), by repeat (first | (with_reducible first | exact HB.out | apply below_alloc | apply pw_below_drewN | apply below_drew1 | refine below_set ?_ GE162.out) | exact HB.out)⟩
         ·replace c16 := Bool.eq_false_iff.mpr c16;subst c16;have H1 : (if (bt a0 a1) = 34 then ((jx_Next.f kj10 a0 a1).bind fun bt172 => (some (6, 0, bt172.2.2.2.2.2.1, 0, bt172.2.2.2.2.2.2.1, bt172.2.2.2.2.2.2.2))) else ((flex_signs.f).bind fun t181 => (flex_token.l0 kj10 a0 a1 t181 (t181.length : Int) 0))) = some (r1, r2, r3, r4, r5, r6) := by rw [if_neg (show ¬ (false = true) by decide)] at H; exact H
          clear H;have H := H1;clear H1;by_cases c20 : (bt a0 a1) = 34
          ·rw [if_pos c20] at H;have c20b0 : ((bt a0 a1) == 34) = true := beq_iff_eq.mpr c20;have c20b1 : ((bt a0 a1) != 34) = false := bne_eq_false_iff_eq.mpr c20;clear c20;replace H := Option.bind_eq_some_iff.mp H;obtain ⟨⟨t172, t173, t174, t175, t176, t177, t178, t179⟩, A210, H⟩ := H;replace H : (some (6, 0, t177, 0, t178, t179)) = some (r1, r2, r3, r4, r5, r6) := H;have A21 := Aside0.mk A210;clear A210;simp only [Option.some.injEq, Prod.mk.injEq] at H;obtain ⟨rfl, rfl, rfl, rfl, rfl, rfl⟩ := H
           go_wp2_with (first | ((with_reducible refine gate_callee (f := 27) rfl ?_); refine goesL_ (some 64) rfl rfl Tryd.func27 (by kernel_rfl) rfl #[.int .u8 (bt a0 a1)] rfl (by (try simp only [List.map_toArray, List.map_cons, List.map_nil]); first | done | rfl | (simp only [List.length_drop, List.length_take]; rfl)) ?_; (with_reducible refine (flex_digit.calls (bt a0 a1) false _ A15.out).mono ?_); rintro e w' ⟨rfl, ⟨nd, rfl⟩⟩; refine ⟨_, rfl, ?_⟩; (try (rw [drewN_self wc]; generalize hq_ : World.drewN wc _ = wc; have n0_ : Aside0 (wc.heap[gb162]? = some (.cells #[.int .i64 0, .int .i64 0, .string (⟨#[]⟩ : ByteArray), .int .i64 0] 33 (0, 0))) := ⟨by rw [← hq_]; exact (by (with_reducible repeat (first | refine blk_drewN ?_ _ | refine blk_drew ?_ | refine blk_alloc ?_ _)); exact BK162.out)⟩; have n1_ : Aside0 (Below w.heap.size w wc) := ⟨by rw [← hq_]; exact (by repeat (first | (with_reducible first | exact HB.out | apply below_alloc | apply pw_below_drewN | apply below_drew1 | refine below_set ?_ GE162.out) | exact HB.out))⟩; clear BK162 HB hq_; have BK162 := n0_; have HB := n1_; clear n0_ n1_))) | ((with_reducible refine gate_callee (f := 29) rfl ?_); refine goesL_ (some 77) rfl rfl Tryd.func29 (by kernel_rfl) rfl #[.string a0, .int .i64 a1] rfl (by (try simp only [List.map_toArray, List.map_cons, List.map_nil]); first | done | rfl | (simp only [List.length_drop, List.length_take]; rfl)) ?_; (with_reducible refine (jx_Next.calls kj10 a0 a1 t172 t173 t174 t175 t176 t177 t178 t179 _ A21.out).mono ?_); rintro e w22 ⟨rfl, hb⟩; refine ⟨_, rfl, ?_⟩; have n0_ := Aside0.mk (blk_below (g := gb162) (o := .cells #[.int .i64 0, .int .i64 0, .string (⟨#[]⟩ : ByteArray), .int .i64 0] 33 (0, 0)) (by (with_reducible repeat (first | refine blk_drewN ?_ _ | refine blk_drew ?_ | refine blk_alloc ?_ _)); exact BK162.out) hb); have n1_ := Aside0.mk (below_step (by repeat (first | (with_reducible first | exact HB.out | apply below_alloc | apply pw_below_drewN | apply below_drew1 | refine below_set ?_ GE162.out) | exact HB.out)) hb); clear BK162; clear HB; have BK162 := n0_; have HB := n1_; clear n0_ n1_; (try clear hb); (try clear hb2); (try clear hk); (try clear hi)) | ((with_reducible refine gate_dst (N := 10) rfl ?_); refine box_event ?hg (N := 10) ?hd (cs := #[.int .i64 0, .int .i64 0, .int .i64 0, .int .u8 0, .int .i64 0, .string (⟨#[]⟩ : ByteArray)]) (t := 46) ?hr ?_; (case hd => rfl); (case hg => rfl); (case hr => first | (go_simp; done) | (go_simp; rfl)); intro gb180 hg w23 hbox hb; have n0_ := Aside0.mk (blk_below (g := gb162) (o := .cells #[.int .i64 0, .int .i64 0, .string (⟨#[]⟩ : ByteArray), .int .i64 0] 33 (0, 0)) (by (with_reducible repeat (first | refine blk_drewN ?_ _ | refine blk_drew ?_ | refine blk_alloc ?_ _)); exact BK162.out) hb); have n1_ := Aside0.mk (below_step (by repeat (first | (with_reducible first | exact HB.out | apply below_alloc | apply pw_below_drewN | apply below_drew1 | refine below_set ?_ GE162.out) | exact HB.out)) hb); have n2_ := Aside0.mk (hbox); have n3_ := Aside0.mk ((by rw [hg]; exact (below_size (by repeat (first | (with_reducible first | exact HB.out | apply below_alloc | apply pw_below_drewN | apply below_drew1 | refine below_set ?_ GE162.out) | exact HB.out))) : w.heap.size ≤ gb180)); have n4_ := Aside0.mk ((by rw [hg]; exact (below_size (by repeat (first | (with_reducible first | exact HB.out | apply below_alloc | apply pw_below_drewN | apply below_drew1 | refine below_set ?_ GE162.out) | exact HB.out))) : w.heap.size ≤ gb180)); have n5_ := Aside0.mk ((by rw [hg]; exact Nat.ne_of_lt (blk_lt (g := gb162) (o := .cells #[.int .i64 0, .int .i64 0, .string (⟨#[]⟩ : ByteArray), .int .i64 0] 33 (0, 0)) (by (with_reducible repeat (first | refine blk_drewN ?_ _ | refine blk_drew ?_ | refine blk_alloc ?_ _)); exact BK162.out)) : gb162 ≠ gb180)); have n6_ := Aside0.mk ((by rw [hg]; exact Nat.ne_of_gt (blk_lt (g := gb162) (o := .cells #[.int .i64 0, .int .i64 0, .string (⟨#[]⟩ : ByteArray), .int .i64 0] 33 (0, 0)) (by (with_reducible repeat (first | refine blk_drewN ?_ _ | refine blk_drew ?_ | refine blk_alloc ?_ _)); exact BK162.out)) : gb180 ≠ gb162)); clear BK162; clear HB; have BK162 := n0_; have HB := n1_; have BK180 := n2_; have GW180 := n3_; have GE180 := n4_; have NB162_180 := n5_; have NB180_162 := n6_; clear n0_ n1_ n2_ n3_ n4_ n5_ n6_; clear hb hbox hg; have hnb24 := NB180_162.out; have hnc24 := NB162_180.out; have hcz25_0 : w23.cell? ⟨gb180, 0, none⟩ = some (.int .i64 0) := (blk_cell BK180.out 0).trans rfl; have hcz25_1 : w23.cell? ⟨gb180, 1, none⟩ = some (.int .i64 0) := (blk_cell BK180.out 1).trans rfl; have hcz25_2 : w23.cell? ⟨gb180, 2, none⟩ = some (.int .i64 0) := (blk_cell BK180.out 2).trans rfl; have hcz25_3 : w23.cell? ⟨gb180, 3, none⟩ = some (.int .u8 0) := (blk_cell BK180.out 3).trans rfl; have hcz25_4 : w23.cell? ⟨gb180, 4, none⟩ = some (.int .i64 0) := (blk_cell BK180.out 4).trans rfl; have hcz25_5 : w23.cell? ⟨gb180, 5, none⟩ = some (.string (⟨#[]⟩ : ByteArray)) := (blk_cell BK180.out 5).trans rfl; have hfz25_0 := blk_frozen BK180.out 0; have hfz25_1 := blk_frozen BK180.out 1; have hfz25_2 := blk_frozen BK180.out 2; have hfz25_3 := blk_frozen BK180.out 3; have hfz25_4 := blk_frozen BK180.out 4; have hfz25_5 := blk_frozen BK180.out 5; have hcz26_0 : w23.cell? ⟨gb162, 0, none⟩ = some (.int .i64 0) := (blk_cell BK162.out 0).trans rfl; have hcz26_1 : w23.cell? ⟨gb162, 1, none⟩ = some (.int .i64 0) := (blk_cell BK162.out 1).trans rfl; have hcz26_2 : w23.cell? ⟨gb162, 2, none⟩ = some (.string (⟨#[]⟩ : ByteArray)) := (blk_cell BK162.out 2).trans rfl; have hcz26_3 : w23.cell? ⟨gb162, 3, none⟩ = some (.int .i64 0) := (blk_cell BK162.out 3).trans rfl; have hfz26_0 := blk_frozen BK162.out 0; have hfz26_1 := blk_frozen BK162.out 1; have hfz26_2 := blk_frozen BK162.out 2; have hfz26_3 := blk_frozen BK162.out 3))
           refine bodyPost_ret (results_ctt rfl _ _ gb162 33 #[.int .i64 6, .int .i64 0, .string t177, .int .i64 0] (0, 0) _ rfl (by (with_reducible repeat (first | refine blk_drewN ?_ _ | refine blk_drew ?_ | refine blk_alloc ?_ _)); refine blk_put (cs := #[.int .i64 6, .int .i64 0, .string t177, .int .i64 0]) ?_ 3 _ rfl; (with_reducible repeat (first | refine blk_drewN ?_ _ | refine blk_drew ?_ | refine blk_alloc ?_ _)); refine blk_put (cs := #[.int .i64 6, .int .i64 0, .string (⟨#[]⟩ : ByteArray), .int .i64 0]) ?_ 2 _ rfl; (with_reducible repeat (first | refine blk_drewN ?_ _ | refine blk_drew ?_ | refine blk_alloc ?_ _)); refine blk_put (cs := #[.int .i64 6, .int .i64 0, .string (⟨#[]⟩ : ByteArray), .int .i64 0]) ?_ 1 _ rfl; (with_reducible repeat (first | refine blk_drewN ?_ _ | refine blk_drew ?_ | refine blk_alloc ?_ _)); refine blk_put (cs := #[.int .i64 0, .int .i64 0, .string (⟨#[]⟩ : ByteArray), .int .i64 0]) ?_ 0 _ rfl; (with_reducible repeat (first | refine blk_drewN ?_ _ | refine blk_drew ?_ | refine blk_alloc ?_ _)); refine blk_far ?_ NB162_180.out _; (with_reducible repeat (first | refine blk_drewN ?_ _ | refine blk_drew ?_ | refine blk_alloc ?_ _)); refine blk_far ?_ NB162_180.out _; (with_reducible repeat (first | refine blk_drewN ?_ _ | refine blk_drew ?_ | refine blk_alloc ?_ _)); refine blk_far ?_ NB162_180.out _; (with_reducible repeat (first | refine blk_drewN ?_ _ | refine blk_drew ?_ | refine blk_alloc ?_ _)); refine blk_far ?_ NB162_180.out _; (with_reducible repeat (first | refine blk_drewN ?_ _ | refine blk_drew ?_ | refine blk_alloc ?_ _)); refine blk_far ?_ NB162_180.out _; (with_reducible repeat (first | refine blk_drewN ?_ _ | refine blk_drew ?_ | refine blk_alloc ?_ _)); refine blk_far ?_ NB162_180.out _; (with_reducible repeat (first | refine blk_drewN ?_ _ | refine blk_drew ?_ | refine blk_alloc ?_ _)); exact BK162.out) Tryd.underlying33 rfl (by kernel_rfl)) rfl ?_
           exact ⟨by first | rfl | (simp [errW_none, errW_some] <;> rfl) | (simp [*, errW_none, errW_some] <;> rfl), by repeat (first | (with_reducible first | exact HB.out | apply below_alloc | apply pw_below_drewN | apply below_drew1 | refine below_set ?_ GE162.out | refine below_set ?_ GE180.out) | exact HB.out)⟩
          ·rw [if_neg c20] at H;have c20b0 : ((bt a0 a1) == 34) = false := beq_eq_false_iff_ne.mpr c20;have c20b1 : ((bt a0 a1) != 34) = true := bne_iff_ne.mpr c20;replace H := Option.bind_eq_some_iff.mp H;obtain ⟨t181, A270, H⟩ := H;replace H : (flex_token.l0 kj10 a0 a1 t181 (t181.length : Int) 0) = some (r1, r2, r3, r4, r5, r6) := H;have A27 := Aside0.mk A270;clear A270;have H' := Aside0.mk H;clear H
           go_wp2_with (first | ((with_reducible refine gate_callee (f := 27) rfl ?_); refine goesL_ (some 64) rfl rfl Tryd.func27 (by kernel_rfl) rfl #[.int .u8 (bt a0 a1)] rfl (by (try simp only [List.map_toArray, List.map_cons, List.map_nil]); first | done | rfl | (simp only [List.length_drop, List.length_take]; rfl)) ?_; (with_reducible refine (flex_digit.calls (bt a0 a1) false _ A15.out).mono ?_); rintro e w' ⟨rfl, ⟨nd, rfl⟩⟩; refine ⟨_, rfl, ?_⟩) | ((with_reducible refine gate_callee (f := 30) rfl ?_); refine goesL_ (some 20) rfl rfl Tryd.func30 (by kernel_rfl) rfl #[] rfl (by (try simp only [List.map_toArray, List.map_cons, List.map_nil]); first | done | rfl | (simp only [List.length_drop, List.length_take]; rfl)) ?_; (with_reducible refine (flex_signs.calls  t181 _ A27.out (by exact GW.at HG.out (by repeat (first | (with_reducible first | exact HB.out | apply below_alloc | apply pw_below_drewN | apply below_drew1 | refine below_set ?_ GE162.out) | exact HB.out)))).mono ?_); rintro e w28 ⟨v182, rfl, ho0, hb⟩; refine ⟨_, rfl, ?_⟩; have n0_ := Aside0.mk (Kd.R_lower ho0 (below_size (by repeat (first | (with_reducible first | exact HB.out | apply below_alloc | apply pw_below_drewN | apply below_drew1 | refine below_set ?_ GE162.out) | exact HB.out)))); have n1_ := Aside0.mk (blk_below (g := gb162) (o := .cells #[.int .i64 0, .int .i64 0, .string (⟨#[]⟩ : ByteArray), .int .i64 0] 33 (0, 0)) (by (with_reducible repeat (first | refine blk_drewN ?_ _ | refine blk_drew ?_ | refine blk_alloc ?_ _)); exact BK162.out) hb); have n2_ := Aside0.mk (below_step (by repeat (first | (with_reducible first | exact HB.out | apply below_alloc | apply pw_below_drewN | apply below_drew1 | refine below_set ?_ GE162.out) | exact HB.out)) hb); clear BK162; clear HB; have HO183 := n0_; have BK162 := n1_; have HB := n2_; clear n0_ n1_ n2_; (try clear hb); (try clear hb2); (try clear hk); (try clear hi); (try clear ho0); obtain ⟨Ao29, co29, eo29⟩ := Kd.R_slice HO183.out; subst eo29))
           go_loopg [22] kj10 (fun kq v22 w' => ∃ (x22_2 : Int) (x163000_2 : Int) (x163001_2 : Int) (x163002_2 : ByteArray) (x163003_2 : Int), v22 = .int .i64 x22_2 ∧ Aside0 (flex_token.l0 kq a0 a1 t181 (t181.length : Int) x22_2 = some (r1, r2, r3, r4, r5, r6)) ∧ Aside0 (kq ≤ kj10) ∧ Aside0 (Kd.R Kd.string 9 w' w.heap.size (fun _ => True) (.slice Ao29 t181.length co29) t181) ∧ Aside0 (w'.heap[gb162]? = some (.cells #[.int .i64 x163000_2, .int .i64 x163001_2, .string x163002_2, .int .i64 x163003_2] 33 (0, 0))) ∧ Aside0 (Below w.heap.size w w'))
           case atStart => exact ⟨(0), (0), (0), ((⟨#[]⟩ : ByteArray)), (0), (by first | rfl | (simp; done) | (simp [*]; done)), H', ⟨Nat.le_refl _⟩, ⟨by (with_reducible repeat (first | apply Kd.R_alloc | apply Kd.R_drewN | apply Kd.R_drew)); exact HO183.out⟩, ⟨by (with_reducible repeat (first | refine blk_drewN ?_ _ | refine blk_drew ?_ | refine blk_alloc ?_ _)); exact BK162.out⟩, ⟨by repeat (first | (with_reducible first | exact HB.out | apply below_alloc | apply pw_below_drewN | apply below_drew1 | refine below_set ?_ GE162.out) | exact HB.out)⟩⟩
           case round =>
            clear H';try clear c1
            try clear c2
            try clear p2
            try clear c3
            try clear c3b0
            try clear c4
            try clear c4b0
            try clear p5
            try clear q5
            try clear hx5
            try clear p6
            try clear c9
            try clear c10
            try clear c10b0
            try clear c10b1
            try clear c12
            try clear c12b0
            try clear c12b1
            try clear c14
            try clear c16
            try clear c20
            try clear c20b0
            try clear c20b1
            try clear c24
            try clear c26
            try clear c27
            try clear c28
            try clear c29
            try clear hcz19_0
            try clear hcz19_1
            try clear hcz19_2
            try clear hcz19_3
            try clear hcz25_0
            try clear hcz25_1
            try clear hcz25_2
            try clear hcz25_3
            try clear hcz25_4
            try clear hcz25_5
            try clear hcz26_0
            try clear hcz26_1
            try clear hcz26_2
            try clear hcz26_3
            try clear hfz19_0
            try clear hfz19_1
            try clear hfz19_2
            try clear hfz19_3
            try clear hfz25_0
            try clear hfz25_1
            try clear hfz25_2
            try clear hfz25_3
            try clear hfz25_4
            try clear hfz25_5
            try clear hfz26_0
            try clear hfz26_1
            try clear hfz26_2
            try clear hfz26_3
            try clear p2
            try clear p5
            try clear p6
            try clear q5
            obtain ⟨x22_2, x163000_2, x163001_2, x163002_2, x163003_2, rfl, HA, HK2, HO_20, BK162, HB⟩ := hrel;cases gk with
            | zero => exact absurd HA.out (by simp [flex_token.l0])
            | succ k2 =>
             have H := HA.out;clear HA;simp only [flex_token.l0] at H;by_cases c30 : x22_2 < (t181.length : Int)
             ·rw [if_pos c30] at H;have c30b0 : decide (x22_2 < (t181.length : Int)) = true := decide_eq_true c30;clear c30;by_cases c31 : 0 ≤ x22_2
              ·rw [if_pos c31] at H;have c31b0 : decide (0 ≤ x22_2) = true := decide_eq_true c31;clear c31;by_cases c32 : x22_2 < (t181.length : Int)
               ·rw [if_pos c32] at H;have c32b0 : decide (x22_2 < (t181.length : Int)) = true := decide_eq_true c32;clear c32;by_cases c33 : 0 ≤ a1
                ·rw [if_pos c33] at H;have c33b0 := eq_true c33;have c33b1 : decide (0 ≤ a1) = true := decide_eq_true c33;clear c33;by_cases c34 : a1 ≤ (a0.size : Int)
                 ·rw [if_pos c34] at H;have c34b0 := eq_true c34;have c34b1 : decide (a1 ≤ (a0.size : Int)) = true := decide_eq_true c34;clear c34;replace H := Option.bind_eq_some_iff.mp H;obtain ⟨t185, A350, H⟩ := H;replace H : (if t185 = true then (some (7, 0, rdOf ByteArray.empty t181 x22_2, 0, wrap64 (a1 + ((rdOf ByteArray.empty t181 x22_2).size : Int)), 0)) else (flex_token.l0 k2 a0 a1 t181 (t181.length : Int) (wrap64 (x22_2 + 1)))) = some (r1, r2, r3, r4, r5, r6) := H
                  have A35 := Aside0.mk A350;clear A350;by_cases c36 : t185 = true
                  ·subst c36;have H1 : (some (7, 0, rdOf ByteArray.empty t181 x22_2, 0, wrap64 (a1 + ((rdOf ByteArray.empty t181 x22_2).size : Int)), 0)) = some (r1, r2, r3, r4, r5, r6) := by rw [if_pos rfl] at H; exact H
                   clear H;have H := H1;clear H1;simp only [Option.some.injEq, Prod.mk.injEq] at H;obtain ⟨rfl, rfl, rfl, rfl, rfl, rfl⟩ := H;have p184 : 0 ≤ (x22_2 : Int) := of_decide_eq_true (by first | (with_reducible assumption) | assumption)
                   have q184 : x22_2 < (t181.length : Int) := of_decide_eq_true (by first | (with_reducible assumption) | assumption)
                   obtain ⟨ad184, e184, hx184_0⟩ := Kd.at_string (Kd.R_reads' HO_20.out).2.2 x22_2 p184 q184;cases e184;replace p184 := eq_true p184;replace q184 := eq_true q184
                   go_wp2_with (first | ((with_reducible refine gate_callee (f := 31) rfl ?_); refine goesL_ (some 30) rfl rfl Tryd.func31 (by kernel_rfl) rfl #[.string (a0.extract (a1 : Int).toNat a0.size), .string (rdOf ByteArray.empty t181 x22_2)] rfl (by (try simp only [List.map_toArray, List.map_cons, List.map_nil]); first | done | rfl | (simp only [List.length_drop, List.length_take]; rfl)) ?_; (with_reducible refine (strings_HasPrefix.calls (a0.extract (a1 : Int).toNat a0.size) (rdOf ByteArray.empty t181 x22_2) true _ A35.out).mono ?_); rintro e w' ⟨rfl, ⟨nd, rfl⟩⟩; refine ⟨_, rfl, ?_⟩; (try (rw [drewN_self wr]; generalize hq_ : World.drewN wr _ = wr; have n0_ : Aside0 (Kd.R Kd.string 9 wr w.heap.size (fun _ => True) (.slice (some ad184) t181.length co29) t181) := ⟨by rw [← hq_]; exact (by (with_reducible repeat (first | apply Kd.R_alloc | apply Kd.R_drewN | apply Kd.R_drew)); exact HO_20.out)⟩; have n1_ : Aside0 (wr.heap[gb162]? = some (.cells #[.int .i64 x163000_2, .int .i64 x163001_2, .string x163002_2, .int .i64 x163003_2] 33 (0, 0))) := ⟨by rw [← hq_]; exact (by (with_reducible repeat (first | refine blk_drewN ?_ _ | refine blk_drew ?_ | refine blk_alloc ?_ _)); exact BK162.out)⟩; have n2_ : Aside0 (Below w.heap.size w wr) := ⟨by rw [← hq_]; exact (by repeat (first | (with_reducible first | exact HB.out | apply below_alloc | apply pw_below_drewN | apply below_drew1 | refine below_set ?_ GE162.out) | exact HB.out))⟩; clear HO_20 BK162 HB hq_; have HO_20 := n0_; have BK162 := n1_; have HB := n2_; clear n0_ n1_ n2_)); have hcz37_0 : wr.cell? ⟨gb162, 0, none⟩ = some (.int .i64 x163000_2) := (blk_cell BK162.out 0).trans rfl; have hcz37_1 : wr.cell? ⟨gb162, 1, none⟩ = some (.int .i64 x163001_2) := (blk_cell BK162.out 1).trans rfl; have hcz37_2 : wr.cell? ⟨gb162, 2, none⟩ = some (.string x163002_2) := (blk_cell BK162.out 2).trans rfl; have hcz37_3 : wr.cell? ⟨gb162, 3, none⟩ = some (.int .i64 x163003_2) := (blk_cell BK162.out 3).trans rfl; have hfz37_0 := blk_frozen BK162.out 0; have hfz37_1 := blk_frozen BK162.out 1; have hfz37_2 := blk_frozen BK162.out 2; have hfz37_3 := blk_frozen BK162.out 3))
                   refine bodyPost_ret (results_ctt rfl _ _ gb162 33 #[.int .i64 7, .int .i64 0, .string (rdOf ByteArray.empty t181 x22_2), .int .i64 0] (0, 0) _ rfl (by (with_reducible repeat (first | refine blk_drewN ?_ _ | refine blk_drew ?_ | refine blk_alloc ?_ _)); refine blk_put (cs := #[.int .i64 7, .int .i64 0, .string (rdOf ByteArray.empty t181 x22_2), .int .i64 x163003_2]) ?_ 3 _ rfl; (with_reducible repeat (first | refine blk_drewN ?_ _ | refine blk_drew ?_ | refine blk_alloc ?_ _)); refine blk_put (cs := #[.int .i64 7, .int .i64 0, .string x163002_2, .int .i64 x163003_2]) ?_ 2 _ rfl; (with_reducible repeat (first | refine blk_drewN ?_ _ | refine blk_drew ?_ | refine blk_alloc ?_ _)); refine blk_put (cs := #[.int .i64 7, .int .i64 x163001_2, .string x163002_2, .int .i64 x163003_2]) ?_ 1 _ rfl; (with_reducible repeat (first | refine blk_drewN ?_ _ | refine blk_drew ?_ | refine blk_alloc ?_ _)); refine blk_put (cs := #[.int .i64 x163000_2, .int .i64 x163001_2, .string x163002_2, .int .i64 x163003_2]) ?_ 0 _ rfl; (with_reducible repeat (first | refine blk_drewN ?_ _ | refine blk_drew ?_ | refine blk_alloc ?_ _)); exact BK162.out) Tryd.underlying33 rfl (by kernel_rfl)) rfl ?_
                   exact ⟨by first | rfl | (simp [errW_none, errW_some] <;> rfl) | (simp [*, errW_none, errW_some] <;> rfl), by repeat (first | (with_reducible first | exact HB.out | apply below_alloc | apply pw_below_drewN | apply below_drew1 | refine below_set ?_ GE162.out) | exact HB.out)⟩
                  ·replace c36 := Bool.eq_false_iff.mpr c36;subst c36;have H1 : (flex_token.l0 k2 a0 a1 t181 (t181.length : Int) (wrap64 (x22_2 + 1))) = some (r1, r2, r3, r4, r5, r6) := by rw [if_neg (show ¬ (false = true) by decide)] at H; exact H
                   clear H;have H := H1;clear H1;have H' := Aside0.mk H;clear H;have p184 : 0 ≤ (x22_2 : Int) := of_decide_eq_true (by first | (with_reducible assumption) | assumption)
                   have q184 : x22_2 < (t181.length : Int) := of_decide_eq_true (by first | (with_reducible assumption) | assumption)
                   obtain ⟨ad184, e184, hx184_0⟩ := Kd.at_string (Kd.R_reads' HO_20.out).2.2 x22_2 p184 q184;cases e184;replace p184 := eq_true p184;replace q184 := eq_true q184
                   go_wp2_with (first | ((with_reducible refine gate_callee (f := 31) rfl ?_); refine goesL_ (some 30) rfl rfl Tryd.func31 (by kernel_rfl) rfl #[.string (a0.extract (a1 : Int).toNat a0.size), .string (rdOf ByteArray.empty t181 x22_2)] rfl (by (try simp only [List.map_toArray, List.map_cons, List.map_nil]); first | done | rfl | (simp only [List.length_drop, List.length_take]; rfl)) ?_; (with_reducible refine (strings_HasPrefix.calls (a0.extract (a1 : Int).toNat a0.size) (rdOf ByteArray.empty t181 x22_2) false _ A35.out).mono ?_); rintro e w' ⟨rfl, ⟨nd, rfl⟩⟩; refine ⟨_, rfl, ?_⟩))
                   go_roundg k2
                   case measure => have := HJ10.out; have := HK2.out; omega
                   case rel => exact ⟨(wrap64 (x22_2 + 1)), (x163000_2), (x163001_2), (x163002_2), (x163003_2), (by first | rfl | (simp; done) | (simp [*]; done)), H', ⟨by have := HJ10.out; have := HK2.out; omega⟩, ⟨by (with_reducible repeat (first | apply Kd.R_alloc | apply Kd.R_drewN | apply Kd.R_drew)); exact HO_20.out⟩, ⟨by (with_reducible repeat (first | refine blk_drewN ?_ _ | refine blk_drew ?_ | refine blk_alloc ?_ _)); exact BK162.out⟩, ⟨by repeat (first | (with_reducible first | exact HB.out | apply below_alloc | apply pw_below_drewN | apply below_drew1 | refine below_set ?_ GE162.out) | exact HB.out)⟩⟩
                 ·rw [if_neg c34] at H;exact absurd H (by simp)
                ·rw [if_neg c33] at H;exact absurd H (by simp)
               ·rw [if_neg c32] at H;exact absurd H (by simp)
              ·rw [if_neg c31] at H;exact absurd H (by simp)
             ·rw [if_neg c30] at H;have c30b0 : decide (x22_2 < (t181.length : Int)) = false := decide_eq_false c30;clear c30;simp only [Option.some.injEq, Prod.mk.injEq] at H;obtain ⟨rfl, rfl, rfl, rfl, rfl, rfl⟩ := H;have hcz38_0 : wr.cell? ⟨gb162, 0, none⟩ = some (.int .i64 x163000_2) := (blk_cell BK162.out 0).trans rfl;have hcz38_1 : wr.cell? ⟨gb162, 1, none⟩ = some (.int .i64 x163001_2) := (blk_cell BK162.out 1).trans rfl;have hcz38_2 : wr.cell? ⟨gb162, 2, none⟩ = some (.string x163002_2) := (blk_cell BK162.out 2).trans rfl
              have hcz38_3 : wr.cell? ⟨gb162, 3, none⟩ = some (.int .i64 x163003_2) := (blk_cell BK162.out 3).trans rfl;have hfz38_0 := blk_frozen BK162.out 0;have hfz38_1 := blk_frozen BK162.out 1;have hfz38_2 := blk_frozen BK162.out 2;have hfz38_3 := blk_frozen BK162.out 3;go_wp2
              refine bodyPost_ret (results_ctt rfl _ _ gb162 33 #[.int .i64 0, .int .i64 0, .string (⟨#[]⟩ : ByteArray), .int .i64 0] (0, 0) _ rfl (by (with_reducible repeat (first | refine blk_drewN ?_ _ | refine blk_drew ?_ | refine blk_alloc ?_ _)); refine blk_put (cs := #[.int .i64 0, .int .i64 0, .string (⟨#[]⟩ : ByteArray), .int .i64 x163003_2]) ?_ 3 _ rfl; (with_reducible repeat (first | refine blk_drewN ?_ _ | refine blk_drew ?_ | refine blk_alloc ?_ _)); refine blk_put (cs := #[.int .i64 0, .int .i64 0, .string x163002_2, .int .i64 x163003_2]) ?_ 2 _ rfl; (with_reducible repeat (first | refine blk_drewN ?_ _ | refine blk_drew ?_ | refine blk_alloc ?_ _)); refine blk_put (cs := #[.int .i64 0, .int .i64 x163001_2, .string x163002_2, .int .i64 x163003_2]) ?_ 1 _ rfl; (with_reducible repeat (first | refine blk_drewN ?_ _ | refine blk_drew ?_ | refine blk_alloc ?_ _)); refine blk_put (cs := #[.int .i64 x163000_2, .int .i64 x163001_2, .string x163002_2, .int .i64 x163003_2]) ?_ 0 _ rfl; (with_reducible repeat (first | refine blk_drewN ?_ _ | refine blk_drew ?_ | refine blk_alloc ?_ _)); exact BK162.out) Tryd.underlying33 rfl (by kernel_rfl)) rfl ?_
              exact ⟨by first | rfl | (simp [errW_none, errW_some] <;> rfl) | (simp [*, errW_none, errW_some] <;> rfl), by repeat (first | (with_reducible first | exact HB.out | apply below_alloc | apply pw_below_drewN | apply below_drew1 | refine below_set ?_ GE162.out) | exact HB.out)⟩
   case rest =>
    clear HC6;try clear c1
    try clear p1
    try clear q1
    try clear hx1
    try clear c2
    try clear p2
    try clear c3
    try clear c3b0
    try clear c4
    try clear c4b0
    try clear p5
    try clear q5
    try clear hx5
    try clear p6
    try clear c9
    try clear c10
    try clear c10b0
    try clear c10b1
    try clear c12
    try clear c12b0
    try clear c12b1
    try clear c14
    try clear c16
    try clear p18
    try clear q18
    try clear hx18
    try clear c20
    try clear c20b0
    try clear c20b1
    try clear c24
    try clear c26
    try clear c27
    try clear c28
    try clear c29
    try clear c30
    try clear c30b0
    try clear c31
    try clear c31b0
    try clear c32
    try clear c32b0
    try clear c33
    try clear c33b0
    try clear c33b1
    try clear c34
    try clear c34b0
    try clear c34b1
    try clear c36
    try clear hcz19_0
    try clear hcz19_1
    try clear hcz19_2
    try clear hcz19_3
    try clear hcz25_0
    try clear hcz25_1
    try clear hcz25_2
    try clear hcz25_3
    try clear hcz25_4
    try clear hcz25_5
    try clear hcz26_0
    try clear hcz26_1
    try clear hcz26_2
    try clear hcz26_3
    try clear hcz37_0
    try clear hcz37_1
    try clear hcz37_2
    try clear hcz37_3
    try clear hcz38_0
    try clear hcz38_1
    try clear hcz38_2
    try clear hcz38_3
    try clear hfz19_0
    try clear hfz19_1
    try clear hfz19_2
    try clear hfz19_3
    try clear hfz25_0
    try clear hfz25_1
    try clear hfz25_2
    try clear hfz25_3
    try clear hfz25_4
    try clear hfz25_5
    try clear hfz26_0
    try clear hfz26_1
    try clear hfz26_2
    try clear hfz26_3
    try clear hfz37_0
    try clear hfz37_1
    try clear hfz37_2
    try clear hfz37_3
    try clear hfz38_0
    try clear hfz38_1
    try clear hfz38_2
    try clear hfz38_3
    try clear hx184_0
    try clear p184
    try clear p2
    try clear p5
    try clear p6
    try clear q184
    try clear q5
    obtain ⟨kq, x7_5, x8_5, x163000_5, x163001_5, x163002_5, x163003_5, rfl, rfl, HA, HJ5, BK162, HB⟩ := hcut;cases kq with
    | zero => exact absurd HA.out (by simp [flex_token.j2])
    | succ kj5 =>
     have H := HA.out;clear HA;simp only [flex_token.j2] at H;replace H := Option.bind_eq_some_iff.mp H;obtain ⟨t186, A390, H⟩ := H
     replace H : (if t186 = x7_5 then (some (0, 0, (⟨#[]⟩ : ByteArray), 0, a1, 4)) else (if (wrap64 (t186 - x7_5)) > 32 then (some (0, 0, (⟨#[]⟩ : ByteArray), 0, a1, 2)) else (if x8_5 = 1 then (if 0 ≤ x7_5 then (if x7_5 ≤ t186 then (if t186 ≤ (a0.size : Int) then ((flex_Keyword.f (a0.extract (x7_5 : Int).toNat (t186 : Int).toNat)).bind fun t187 => (if t187 = true then (some (2, 0, a0.extract (x7_5 : Int).toNat (t186 : Int).toNat, 0, t186, 0)) else (some (x8_5, 0, a0.extract (x7_5 : Int).toNat (t186 : Int).toNat, 0, t186, 0)))) else (none)) else (none)) else (none)) else (if 0 ≤ x7_5 then (if x7_5 ≤ t186 then (if t186 ≤ (a0.size : Int) then (some (x8_5, 0, a0.extract (x7_5 : Int).toNat (t186 : Int).toNat, 0, t186, 0)) else (none)) else (none)) else (none))))) = some (r1, r2, r3, r4, r5, r6) := H
     have A39 := Aside0.mk A390;clear A390;by_cases c40 : t186 = x7_5
     ·rw [if_pos c40] at H;have c40b0 : (t186 == x7_5) = true := beq_iff_eq.mpr c40;have c40b1 : (t186 != x7_5) = false := bne_eq_false_iff_eq.mpr c40;clear c40;simp only [Option.some.injEq, Prod.mk.injEq] at H;obtain ⟨rfl, rfl, rfl, rfl, rfl, rfl⟩ := H
      go_wp2_with (first | ((with_reducible refine gate_callee (f := 23) rfl ?_); refine goesL_ (some 88) rfl rfl Tryd.func23 (by kernel_rfl) rfl #[.string a0, .int .i64 x7_5] rfl (by (try simp only [List.map_toArray, List.map_cons, List.map_nil]); first | done | rfl | (simp only [List.length_drop, List.length_take]; rfl)) ?_; (with_reducible refine (flex_name.calls kj5 a0 x7_5 t186 _ A39.out).mono ?_); rintro e w' ⟨rfl, ⟨nd, rfl⟩⟩; refine ⟨_, rfl, ?_⟩; (try (rw [drewN_self wc]; generalize hq_ : World.drewN wc _ = wc; have n0_ : Aside0 (wc.heap[gb162]? = some (.cells #[.int .i64 x163000_5, .int .i64 x163001_5, .string x163002_5, .int .i64 x163003_5] 33 (0, 0))) := ⟨by rw [← hq_]; exact (by (with_reducible repeat (first | refine blk_drewN ?_ _ | refine blk_drew ?_ | refine blk_alloc ?_ _)); exact BK162.out)⟩; have n1_ : Aside0 (Below w.heap.size w wc) := ⟨by rw [← hq_]; exact (by repeat (first | (with_reducible first | exact HB.out | apply below_alloc | apply pw_below_drewN | apply below_drew1 | refine below_set ?_ GE162.out) | exact HB.out))⟩; clear BK162 HB hq_; have BK162 := n0_; have HB := n1_; clear n0_ n1_)); have hcz41_0 : wc.cell? ⟨gb162, 0, none⟩ = some (.int .i64 x163000_5) := (blk_cell BK162.out 0).trans rfl; have hcz41_1 : wc.cell? ⟨gb162, 1, none⟩ = some (.int .i64 x163001_5) := (blk_cell BK162.out 1).trans rfl; have hcz41_2 : wc.cell? ⟨gb162, 2, none⟩ = some (.string x163002_5) := (blk_cell BK162.out 2).trans rfl; have hcz41_3 : wc.cell? ⟨gb162, 3, none⟩ = some (.int .i64 x163003_5) := (blk_cell BK162.out 3).trans rfl; have hfz41_0 := blk_frozen BK162.out 0; have hfz41_1 := blk_frozen BK162.out 1; have hfz41_2 := blk_frozen BK162.out 2; have hfz41_3 := blk_frozen BK162.out 3))
      refine bodyPost_ret (results_ctt rfl _ _ gb162 33 #[.int .i64 0, .int .i64 0, .string (⟨#[]⟩ : ByteArray), .int .i64 0] (0, 0) _ rfl (by (with_reducible repeat (first | refine blk_drewN ?_ _ | refine blk_drew ?_ | refine blk_alloc ?_ _)); refine blk_put (cs := #[.int .i64 0, .int .i64 0, .string (⟨#[]⟩ : ByteArray), .int .i64 x163003_5]) ?_ 3 _ rfl; (with_reducible repeat (first | refine blk_drewN ?_ _ | refine blk_drew ?_ | refine blk_alloc ?_ _)); refine blk_put (cs := #[.int .i64 0, .int .i64 0, .string x163002_5, .int .i64 x163003_5]) ?_ 2 _ rfl; (with_reducible repeat (first | refine blk_drewN ?_ _ | refine blk_drew ?_ | refine blk_alloc ?_ _)); refine blk_put (cs := #[.int .i64 0, .int .i64 x163001_5, .string x163002_5, .int .i64 x163003_5]) ?_ 1 _ rfl; (with_reducible repeat (first | refine blk_drewN ?_ _ | refine blk_drew ?_ | refine blk_alloc ?_ _)); refine blk_put (cs := #[.int .i64 x163000_5, .int .i64 x163001_5, .string x163002_5, .int .i64 x163003_5]) ?_ 0 _ rfl; (with_reducible repeat (first | refine blk_drewN ?_ _ | refine blk_drew ?_ | refine blk_alloc ?_ _)); exact BK162.out) Tryd.underlying33 rfl (by kernel_rfl)) rfl ?_
      exact ⟨by first | rfl | (simp [errW_none, errW_some] <;> rfl) | (simp [*, errW_none, errW_some] <;> rfl), by repeat (first | (with_reducible first | exact HB.out | apply below_alloc | apply pw_below_drewN | apply below_drew1 | refine below_set ?_ GE162.out) | exact HB.out)⟩
     ·rw [if_neg c40] at H;have c40b0 : (t186 == x7_5) = false := beq_eq_false_iff_ne.mpr c40;have c40b1 : (t186 != x7_5) = true := bne_iff_ne.mpr c40;by_cases c42 : (wrap64 (t186 - x7_5)) > 32
      ·rw [if_pos c42] at H;have c42b0 : decide (32 < (wrap64 (t186 - x7_5))) = true := decide_eq_true c42;clear c42;simp only [Option.some.injEq, Prod.mk.injEq] at H;obtain ⟨rfl, rfl, rfl, rfl, rfl, rfl⟩ := H
       go_wp2_with (first | ((with_reducible refine gate_callee (f := 23) rfl ?_); refine goesL_ (some 88) rfl rfl Tryd.func23 (by kernel_rfl) rfl #[.string a0, .int .i64 x7_5] rfl (by (try simp only [List.map_toArray, List.map_cons, List.map_nil]); first | done | rfl | (simp only [List.length_drop, List.length_take]; rfl)) ?_; (with_reducible refine (flex_name.calls kj5 a0 x7_5 t186 _ A39.out).mono ?_); rintro e w' ⟨rfl, ⟨nd, rfl⟩⟩; refine ⟨_, rfl, ?_⟩; (try (rw [drewN_self wc]; generalize hq_ : World.drewN wc _ = wc; have n0_ : Aside0 (wc.heap[gb162]? = some (.cells #[.int .i64 x163000_5, .int .i64 x163001_5, .string x163002_5, .int .i64 x163003_5] 33 (0, 0))) := ⟨by rw [← hq_]; exact (by (with_reducible repeat (first | refine blk_drewN ?_ _ | refine blk_drew ?_ | refine blk_alloc ?_ _)); exact BK162.out)⟩; have n1_ : Aside0 (Below w.heap.size w wc) := ⟨by rw [← hq_]; exact (by repeat (first | (with_reducible first | exact HB.out | apply below_alloc | apply pw_below_drewN | apply below_drew1 | refine below_set ?_ GE162.out) | exact HB.out))⟩; clear BK162 HB hq_; have BK162 := n0_; have HB := n1_; clear n0_ n1_)); have hcz43_0 : wc.cell? ⟨gb162, 0, none⟩ = some (.int .i64 x163000_5) := (blk_cell BK162.out 0).trans rfl; have hcz43_1 : wc.cell? ⟨gb162, 1, none⟩ = some (.int .i64 x163001_5) := (blk_cell BK162.out 1).trans rfl; have hcz43_2 : wc.cell? ⟨gb162, 2, none⟩ = some (.string x163002_5) := (blk_cell BK162.out 2).trans rfl; have hcz43_3 : wc.cell? ⟨gb162, 3, none⟩ = some (.int .i64 x163003_5) := (blk_cell BK162.out 3).trans rfl; have hfz43_0 := blk_frozen BK162.out 0; have hfz43_1 := blk_frozen BK162.out 1; have hfz43_2 := blk_frozen BK162.out 2; have hfz43_3 := blk_frozen BK162.out 3))
       refine bodyPost_ret (results_ctt rfl _ _ gb162 33 #[.int .i64 0, .int .i64 0, .string (⟨#[]⟩ : ByteArray), .int .i64 0] (0, 0) _ rfl (by (with_reducible repeat (first | refine blk_drewN ?_ _ | refine blk_drew ?_ | refine blk_alloc ?_ _)); refine blk_put (cs := #[.int .i64 0, .int .i64 0, .string (⟨#[]⟩ : ByteArray), .int .i64 x163003_5]) ?_ 3 _ rfl; (with_reducible repeat (first | refine blk_drewN ?_ _ | refine blk_drew ?_ | refine blk_alloc ?_ _)); refine blk_put (cs := #[.int .i64 0, .int .i64 0, .string x163002_5, .int .i64 x163003_5]) ?_ 2 _ rfl; (with_reducible repeat (first | refine blk_drewN ?_ _ | refine blk_drew ?_ | refine blk_alloc ?_ _)); refine blk_put (cs := #[.int .i64 0, .int .i64 x163001_5, .string x163002_5, .int .i64 x163003_5]) ?_ 1 _ rfl; (with_reducible repeat (first | refine blk_drewN ?_ _ | refine blk_drew ?_ | refine blk_alloc ?_ _)); refine blk_put (cs := #[.int .i64 x163000_5, .int .i64 x163001_5, .string x163002_5, .int .i64 x163003_5]) ?_ 0 _ rfl; (with_reducible repeat (first | refine blk_drewN ?_ _ | refine blk_drew ?_ | refine blk_alloc ?_ _)); exact BK162.out) Tryd.underlying33 rfl (by kernel_rfl)) rfl ?_
       exact ⟨by first | rfl | (simp [errW_none, errW_some] <;> rfl) | (simp [*, errW_none, errW_some] <;> rfl), by repeat (first | (with_reducible first | exact HB.out | apply below_alloc | apply pw_below_drewN | apply below_drew1 | refine below_set ?_ GE162.out) | exact HB.out)⟩
      ·rw [if_neg c42] at H;have c42b0 : decide (32 < (wrap64 (t186 - x7_5))) = false := decide_eq_false c42;clear c42;by_cases c44 : x8_5 = 1
       ·rw [if_pos c44] at H;have c44b0 : (x8_5 == 1) = true := beq_iff_eq.mpr c44;have c44b1 : (x8_5 != 1) = false := bne_eq_false_iff_eq.mpr c44;clear c44;by_cases c45 : 0 ≤ x7_5
        ·rw [if_pos c45] at H;have c45b0 := eq_true c45;have c45b1 : decide (0 ≤ x7_5) = true := decide_eq_true c45;clear c45;by_cases c46 : x7_5 ≤ t186
         ·rw [if_pos c46] at H;have c46b0 := eq_true c46;have c46b1 : decide (x7_5 ≤ t186) = true := decide_eq_true c46;clear c46;by_cases c47 : t186 ≤ (a0.size : Int)
          ·rw [if_pos c47] at H;have c47b0 := eq_true c47;have c47b1 : decide (t186 ≤ (a0.size : Int)) = true := decide_eq_true c47;clear c47;replace H := Option.bind_eq_some_iff.mp H;obtain ⟨t187, A480, H⟩ := H;replace H : (if t187 = true then (some (2, 0, a0.extract (x7_5 : Int).toNat (t186 : Int).toNat, 0, t186, 0)) else (some (x8_5, 0, a0.extract (x7_5 : Int).toNat (t186 : Int).toNat, 0, t186, 0))) = some (r1, r2, r3, r4, r5, r6) := H
           have A48 := Aside0.mk A480;clear A480;by_cases c49 : t187 = true
           ·subst c49;have H1 : (some (2, 0, a0.extract (x7_5 : Int).toNat (t186 : Int).toNat, 0, t186, 0)) = some (r1, r2, r3, r4, r5, r6) := by rw [if_pos rfl] at H; exact H
            clear H;have H := H1;clear H1;have c50b0 := eq_true (of_decide_eq_true (by first | (with_reducible assumption) | assumption) : 0 ≤ x7_5)
            have c51b0 := eq_true (of_decide_eq_true (by first | (with_reducible assumption) | assumption) : x7_5 ≤ t186)
            have c52b0 := eq_true (of_decide_eq_true (by first | (with_reducible assumption) | assumption) : t186 ≤ (a0.size : Int))
            simp only [Option.some.injEq, Prod.mk.injEq] at H;obtain ⟨rfl, rfl, rfl, rfl, rfl, rfl⟩ := H
            go_wp2_with (first | ((with_reducible refine gate_callee (f := 23) rfl ?_); refine goesL_ (some 88) rfl rfl Tryd.func23 (by kernel_rfl) rfl #[.string a0, .int .i64 x7_5] rfl (by (try simp only [List.map_toArray, List.map_cons, List.map_nil]); first | done | rfl | (simp only [List.length_drop, List.length_take]; rfl)) ?_; (with_reducible refine (flex_name.calls kj5 a0 x7_5 t186 _ A39.out).mono ?_); rintro e w' ⟨rfl, ⟨nd, rfl⟩⟩; refine ⟨_, rfl, ?_⟩; (try (rw [drewN_self wc]; generalize hq_ : World.drewN wc _ = wc; have n0_ : Aside0 (wc.heap[gb162]? = some (.cells #[.int .i64 x163000_5, .int .i64 x163001_5, .string x163002_5, .int .i64 x163003_5] 33 (0, 0))) := ⟨by rw [← hq_]; exact (by (with_reducible repeat (first | refine blk_drewN ?_ _ | refine blk_drew ?_ | refine blk_alloc ?_ _)); exact BK162.out)⟩; have n1_ : Aside0 (Below w.heap.size w wc) := ⟨by rw [← hq_]; exact (by repeat (first | (with_reducible first | exact HB.out | apply below_alloc | apply pw_below_drewN | apply below_drew1 | refine below_set ?_ GE162.out) | exact HB.out))⟩; clear BK162 HB hq_; have BK162 := n0_; have HB := n1_; clear n0_ n1_))) | (go_at_call 15; (with_reducible refine (flex_Keyword.calls (a0.extract (x7_5 : Int).toNat (t186 : Int).toNat) true _ A48.out).mono ?_); rintro e w' ⟨rfl, ⟨nd, rfl⟩⟩; (try (rw [drewN_self wc]; generalize hq_ : World.drewN wc _ = wc; have n0_ : Aside0 (wc.heap[gb162]? = some (.cells #[.int .i64 x163000_5, .int .i64 x163001_5, .string x163002_5, .int .i64 x163003_5] 33 (0, 0))) := ⟨by rw [← hq_]; exact (by (with_reducible repeat (first | refine blk_drewN ?_ _ | refine blk_drew ?_ | refine blk_alloc ?_ _)); exact BK162.out)⟩; have n1_ : Aside0 (Below w.heap.size w wc) := ⟨by rw [← hq_]; exact (by repeat (first | (with_reducible first | exact HB.out | apply below_alloc | apply pw_below_drewN | apply below_drew1 | refine below_set ?_ GE162.out) | exact HB.out))⟩; clear BK162 HB hq_; have BK162 := n0_; have HB := n1_; clear n0_ n1_)); have hcz53_0 : wc.cell? ⟨gb162, 0, none⟩ = some (.int .i64 x163000_5) := (blk_cell BK162.out 0).trans rfl; have hcz53_1 : wc.cell? ⟨gb162, 1, none⟩ = some (.int .i64 x163001_5) := (blk_cell BK162.out 1).trans rfl; have hcz53_2 : wc.cell? ⟨gb162, 2, none⟩ = some (.string x163002_5) := (blk_cell BK162.out 2).trans rfl; have hcz53_3 : wc.cell? ⟨gb162, 3, none⟩ = some (.int .i64 x163003_5) := (blk_cell BK162.out 3).trans rfl; have hfz53_0 := blk_frozen BK162.out 0; have hfz53_1 := blk_frozen BK162.out 1; have hfz53_2 := blk_frozen BK162.out 2; have hfz53_3 := blk_frozen BK162.out 3))
            refine bodyPost_ret (results_ctt rfl _ _ gb162 33 #[.int .i64 2, .int .i64 0, .string (a0.extract (x7_5 : Int).toNat (t186 : Int).toNat), .int .i64 0] (0, 0) _ rfl (by (with_reducible repeat (first | refine blk_drewN ?_ _ | refine blk_drew ?_ | refine blk_alloc ?_ _)); refine blk_put (cs := #[.int .i64 2, .int .i64 0, .string (a0.extract (x7_5 : Int).toNat (t186 : Int).toNat), .int .i64 x163003_5]) ?_ 3 _ rfl; (with_reducible repeat (first | refine blk_drewN ?_ _ | refine blk_drew ?_ | refine blk_alloc ?_ _)); refine blk_put (cs := #[.int .i64 2, .int .i64 0, .string x163002_5, .int .i64 x163003_5]) ?_ 2 _ rfl; (with_reducible repeat (first | refine blk_drewN ?_ _ | refine blk_drew ?_ | refine blk_alloc ?_ _)); refine blk_put (cs := #[.int .i64 2, .int .i64 x163001_5, .string x163002_5, .int .i64 x163003_5]) ?_ 1 _ rfl; (with_reducible repeat (first | refine blk_drewN ?_ _ | refine blk_drew ?_ | refine blk_alloc ?_ _)); refine blk_put (cs := #[.int .i64 x163000_5, .int .i64 x163001_5, .string x163002_5, .int .i64 x163003_5]) ?_ 0 _ rfl; (with_reducible repeat (first | refine blk_drewN ?_ _ | refine blk_drew ?_ | refine blk_alloc ?_ _)); exact BK162.out) Tryd.underlying33 rfl (by kernel_rfl)) rfl ?_
            exact ⟨by first | rfl | (simp [errW_none, errW_some] <;> rfl) | (simp [*, errW_none, errW_some] <;> rfl), by repeat (first | (with_reducible first | exact HB.out | apply below_alloc | apply pw_below_drewN | apply below_drew1 | refine below_set ?_ GE162.out) | exact HB.out)⟩
           ·replace c49 := Bool.eq_false_iff.mpr c49;subst c49;have H1 : (some (x8_5, 0, a0.extract (x7_5 : Int).toNat (t186 : Int).toNat, 0, t186, 0)) = some (r1, r2, r3, r4, r5, r6) := by rw [if_neg (show ¬ (false = true) by decide)] at H; exact H
            clear H;have H := H1;clear H1;have c54b0 := eq_true (of_decide_eq_true (by first | (with_reducible assumption) | assumption) : 0 ≤ x7_5)
            have c55b0 := eq_true (of_decide_eq_true (by first | (with_reducible assumption) | assumption) : x7_5 ≤ t186)
            have c56b0 := eq_true (of_decide_eq_true (by first | (with_reducible assumption) | assumption) : t186 ≤ (a0.size : Int))
            simp only [Option.some.injEq, Prod.mk.injEq] at H;obtain ⟨rfl, rfl, rfl, rfl, rfl, rfl⟩ := H
            go_wp2_with (first | ((with_reducible refine gate_callee (f := 23) rfl ?_); refine goesL_ (some 88) rfl rfl Tryd.func23 (by kernel_rfl) rfl #[.string a0, .int .i64 x7_5] rfl (by (try simp only [List.map_toArray, List.map_cons, List.map_nil]); first | done | rfl | (simp only [List.length_drop, List.length_take]; rfl)) ?_; (with_reducible refine (flex_name.calls kj5 a0 x7_5 t186 _ A39.out).mono ?_); rintro e w' ⟨rfl, ⟨nd, rfl⟩⟩; refine ⟨_, rfl, ?_⟩; (try (rw [drewN_self wc]; generalize hq_ : World.drewN wc _ = wc; have n0_ : Aside0 (wc.heap[gb162]? = some (.cells #[.int .i64 x163000_5, .int .i64 x163001_5, .string x163002_5, .int .i64 x163003_5] 33 (0, 0))) := ⟨by rw [← hq_]; exact (by (with_reducible repeat (first | refine blk_drewN ?_ _ | refine blk_drew ?_ | refine blk_alloc ?_ _)); exact BK162.out)⟩; have n1_ : Aside0 (Below w.heap.size w wc) := ⟨by rw [← hq_]; exact (by repeat (first | (with_reducible first | exact HB.out | apply below_alloc | apply pw_below_drewN | apply below_drew1 | refine below_set ?_ GE162.out) | exact HB.out))⟩; clear BK162 HB hq_; have BK162 := n0_; have HB := n1_; clear n0_ n1_))) | (go_at_call 15; (with_reducible refine (flex_Keyword.calls (a0.extract (x7_5 : Int).toNat (t186 : Int).toNat) false _ A48.out).mono ?_); rintro e w' ⟨rfl, ⟨nd, rfl⟩⟩; (try (rw [drewN_self wc]; generalize hq_ : World.drewN wc _ = wc; have n0_ : Aside0 (wc.heap[gb162]? = some (.cells #[.int .i64 x163000_5, .int .i64 x163001_5, .string x163002_5, .int .i64 x163003_5] 33 (0, 0))) := ⟨by rw [← hq_]; exact (by (with_reducible repeat (first | refine blk_drewN ?_ _ | refine blk_drew ?_ | refine blk_alloc ?_ _)); exact BK162.out)⟩; have n1_ : Aside0 (Below w.heap.size w wc) := ⟨by rw [← hq_]; exact (by repeat (first | (with_reducible first | exact HB.out | apply below_alloc | apply pw_below_drewN | apply below_drew1 | refine below_set ?_ GE162.out) | exact HB.out))⟩; clear BK162 HB hq_; have BK162 := n0_; have HB := n1_; clear n0_ n1_)); have hcz57_0 : wc.cell? ⟨gb162, 0, none⟩ = some (.int .i64 x163000_5) := (blk_cell BK162.out 0).trans rfl; have hcz57_1 : wc.cell? ⟨gb162, 1, none⟩ = some (.int .i64 x163001_5) := (blk_cell BK162.out 1).trans rfl; have hcz57_2 : wc.cell? ⟨gb162, 2, none⟩ = some (.string x163002_5) := (blk_cell BK162.out 2).trans rfl; have hcz57_3 : wc.cell? ⟨gb162, 3, none⟩ = some (.int .i64 x163003_5) := (blk_cell BK162.out 3).trans rfl; have hfz57_0 := blk_frozen BK162.out 0; have hfz57_1 := blk_frozen BK162.out 1; have hfz57_2 := blk_frozen BK162.out 2; have hfz57_3 := blk_frozen BK162.out 3))
            refine bodyPost_ret (results_ctt rfl _ _ gb162 33 #[.int .i64 x8_5, .int .i64 0, .string (a0.extract (x7_5 : Int).toNat (t186 : Int).toNat), .int .i64 0] (0, 0) _ rfl (by (with_reducible repeat (first | refine blk_drewN ?_ _ | refine blk_drew ?_ | refine blk_alloc ?_ _)); refine blk_put (cs := #[.int .i64 x8_5, .int .i64 0, .string (a0.extract (x7_5 : Int).toNat (t186 : Int).toNat), .int .i64 x163003_5]) ?_ 3 _ rfl; (with_reducible repeat (first | refine blk_drewN ?_ _ | refine blk_drew ?_ | refine blk_alloc ?_ _)); refine blk_put (cs := #[.int .i64 x8_5, .int .i64 0, .string x163002_5, .int .i64 x163003_5]) ?_ 2 _ rfl; (with_reducible repeat (first | refine blk_drewN ?_ _ | refine blk_drew ?_ | refine blk_alloc ?_ _)); refine blk_put (cs := #[.int .i64 x8_5, .int .i64 x163001_5, .string x163002_5, .int .i64 x163003_5]) ?_ 1 _ rfl; (with_reducible repeat (first | refine blk_drewN ?_ _ | refine blk_drew ?_ | refine blk_alloc ?_ _)); refine blk_put (cs := #[.int .i64 x163000_5, .int .i64 x163001_5, .string x163002_5, .int .i64 x163003_5]) ?_ 0 _ rfl; (with_reducible repeat (first | refine blk_drewN ?_ _ | refine blk_drew ?_ | refine blk_alloc ?_ _)); exact BK162.out) Tryd.underlying33 rfl (by kernel_rfl)) rfl ?_
            exact ⟨by first | rfl | (simp [errW_none, errW_some] <;> rfl) | (simp [*, errW_none, errW_some] <;> rfl), by repeat (first | (with_reducible first | exact HB.out | apply below_alloc | apply pw_below_drewN | apply below_drew1 | refine below_set ?_ GE162.out) | exact HB.out)⟩
          ·rw [if_neg c47] at H;exact absurd H (by simp)
         ·rw [if_neg c46] at H;exact absurd H (by simp)
        ·rw [if_neg c45] at H;exact absurd H (by simp)
       ·rw [if_neg c44] at H;have c44b0 : (x8_5 == 1) = false := beq_eq_false_iff_ne.mpr c44;have c44b1 : (x8_5 != 1) = true := bne_iff_ne.mpr c44;by_cases c58 : 0 ≤ x7_5
        ·rw [if_pos c58] at H;have c58b0 := eq_true c58;have c58b1 : decide (0 ≤ x7_5) = true := decide_eq_true c58;clear c58;by_cases c59 : x7_5 ≤ t186
         ·rw [if_pos c59] at H;have c59b0 := eq_true c59;have c59b1 : decide (x7_5 ≤ t186) = true := decide_eq_true c59;clear c59;by_cases c60 : t186 ≤ (a0.size : Int)
          ·rw [if_pos c60] at H;have c60b0 := eq_true c60;have c60b1 : decide (t186 ≤ (a0.size : Int)) = true := decide_eq_true c60;clear c60;simp only [Option.some.injEq, Prod.mk.injEq] at H;obtain ⟨rfl, rfl, rfl, rfl, rfl, rfl⟩ := H
           go_wp2_with (first | ((with_reducible refine gate_callee (f := 23) rfl ?_); refine goesL_ (some 88) rfl rfl Tryd.func23 (by kernel_rfl) rfl #[.string a0, .int .i64 x7_5] rfl (by (try simp only [List.map_toArray, List.map_cons, List.map_nil]); first | done | rfl | (simp only [List.length_drop, List.length_take]; rfl)) ?_; (with_reducible refine (flex_name.calls kj5 a0 x7_5 t186 _ A39.out).mono ?_); rintro e w' ⟨rfl, ⟨nd, rfl⟩⟩; refine ⟨_, rfl, ?_⟩; (try (rw [drewN_self wc]; generalize hq_ : World.drewN wc _ = wc; have n0_ : Aside0 (wc.heap[gb162]? = some (.cells #[.int .i64 x163000_5, .int .i64 x163001_5, .string x163002_5, .int .i64 x163003_5] 33 (0, 0))) := ⟨by rw [← hq_]; exact (by (with_reducible repeat (first | refine blk_drewN ?_ _ | refine blk_drew ?_ | refine blk_alloc ?_ _)); exact BK162.out)⟩; have n1_ : Aside0 (Below w.heap.size w wc) := ⟨by rw [← hq_]; exact (by repeat (first | (with_reducible first | exact HB.out | apply below_alloc | apply pw_below_drewN | apply below_drew1 | refine below_set ?_ GE162.out) | exact HB.out))⟩; clear BK162 HB hq_; have BK162 := n0_; have HB := n1_; clear n0_ n1_)); have hcz61_0 : wc.cell? ⟨gb162, 0, none⟩ = some (.int .i64 x163000_5) := (blk_cell BK162.out 0).trans rfl; have hcz61_1 : wc.cell? ⟨gb162, 1, none⟩ = some (.int .i64 x163001_5) := (blk_cell BK162.out 1).trans rfl; have hcz61_2 : wc.cell? ⟨gb162, 2, none⟩ = some (.string x163002_5) := (blk_cell BK162.out 2).trans rfl; have hcz61_3 : wc.cell? ⟨gb162, 3, none⟩ = some (.int .i64 x163003_5) := (blk_cell BK162.out 3).trans rfl; have hfz61_0 := blk_frozen BK162.out 0; have hfz61_1 := blk_frozen BK162.out 1; have hfz61_2 := blk_frozen BK162.out 2; have hfz61_3 := blk_frozen BK162.out 3))
           refine bodyPost_ret (results_ctt rfl _ _ gb162 33 #[.int .i64 x8_5, .int .i64 0, .string (a0.extract (x7_5 : Int).toNat (t186 : Int).toNat), .int .i64 0] (0, 0) _ rfl (by (with_reducible repeat (first | refine blk_drewN ?_ _ | refine blk_drew ?_ | refine blk_alloc ?_ _)); refine blk_put (cs := #[.int .i64 x8_5, .int .i64 0, .string (a0.extract (x7_5 : Int).toNat (t186 : Int).toNat), .int .i64 x163003_5]) ?_ 3 _ rfl; (with_reducible repeat (first | refine blk_drewN ?_ _ | refine blk_drew ?_ | refine blk_alloc ?_ _)); refine blk_put (cs := #[.int .i64 x8_5, .int .i64 0, .string x163002_5, .int .i64 x163003_5]) ?_ 2 _ rfl; (with_reducible repeat (first | refine blk_drewN ?_ _ | refine blk_drew ?_ | refine blk_alloc ?_ _)); refine blk_put (cs := #[.int .i64 x8_5, .int .i64 x163001_5, .string x163002_5, .int .i64 x163003_5]) ?_ 1 _ rfl; (with_reducible repeat (first | refine blk_drewN ?_ _ | refine blk_drew ?_ | refine blk_alloc ?_ _)); refine blk_put (cs := #[.int .i64 x163000_5, .int .i64 x163001_5, .string x163002_5, .int .i64 x163003_5]) ?_ 0 _ rfl; (with_reducible repeat (first | refine blk_drewN ?_ _ | refine blk_drew ?_ | refine blk_alloc ?_ _)); exact BK162.out) Tryd.underlying33 rfl (by kernel_rfl)) rfl ?_
           exact ⟨by first | rfl | (simp [errW_none, errW_some] <;> rfl) | (simp [*, errW_none, errW_some] <;> rfl), by repeat (first | (with_reducible first | exact HB.out | apply below_alloc | apply pw_below_drewN | apply below_drew1 | refine below_set ?_ GE162.out) | exact HB.out)⟩
          ·rw [if_neg c60] at H;exact absurd H (by simp)
         ·rw [if_neg c59] at H;exact absurd H (by simp)
        ·rw [if_neg c58] at H;exact absurd H (by simp)
  ·rw [if_neg c4] at H;exact absurd H (by simp)
 ·rw [if_neg c3] at H;exact absurd H (by simp)
end Go.Proofs.YtdhdpidjdadamaaDoor.PX
