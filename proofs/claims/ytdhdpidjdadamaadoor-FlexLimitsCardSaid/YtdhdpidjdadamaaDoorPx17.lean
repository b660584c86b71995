/- Printed by this session's program: Go functions of this seat as plain Lean functions, and proofs that their calls come to them. -/
import Derived.Test.YtdhdpidjdadamaaDoorPx0
import Derived.Test.YtdhdpidjdadamaaDoorPx16
namespace Go.Proofs.YtdhdpidjdadamaaDoor.PX
open Go.RowKit Go.Proofs.YtdhdpidjdadamaaDoorW.PrintWords Go.Proofs.YtdhdpidjdadamaaDoorW.PrintLast Go.Proofs.YtdhdpidjdadamaaDoorW.PrintMore
attribute [local go_sem] max2_int min2_int max_two min_two max_three min_three max_four min_four   -- for this text's walks alone
set_option linter.unusedVariables false
set_option linter.unusedSimpArgs false
/-! ### rj_quad: function 70 -/
def rj_quad.l0 : Nat → ByteArray → Int → Int → Int → Int → Int → Option (Int × Int)
 | 0, _, _, _, _, _, _ => none
 | k + 1, x0, x1, x2, x3, x10, x11 => if x11 < 4 then (if (wrap64 (x1 + x11)) ≥ (x0.size : Int) then (some (x11, 0)) else (if 0 ≤ (wrap64 (x1 + x11)) then (if (wrap64 (x1 + x11)) < (x0.size : Int) then ((rj_hex.f k (bt x0 (wrap64 (x1 + x11)))).bind fun bt228 => (if bt228.2 = true then (if 0 ≤ (wrap64 (4 * (wrap64 (3 - x11)))) then (if (wrap64 ((shl .i64 (wrap64 ((Go.bits .or .i64 (wrap64 (x10 * 16)) bt228.1) + 1)) (wrap64 (4 * (wrap64 (3 - x11))))) - 1)) < x2 then (some (x11, (-1))) else (if (shl .i64 (Go.bits .or .i64 (wrap64 (x10 * 16)) bt228.1) (wrap64 (4 * (wrap64 (3 - x11))))) > x3 then (some (x11, (-1))) else (rj_quad.l0 k x0 x1 x2 x3 (Go.bits .or .i64 (wrap64 (x10 * 16)) bt228.1) (wrap64 (x11 + 1))))) else (none)) else (some (x11, (-1))))) else (none)) else (none))) else (some (4, x10))
def rj_quad.f (k : Nat) (a0 : ByteArray) (a1 : Int) (a2 : Int) (a3 : Int) : Option (Int × Int) := rj_quad.l0 k a0 a1 a2 a3 0 0
theorem rj_quad.mono_l : ∀ k, (∀ y0 y1 y2 y3 y4 y5, LeO (rj_quad.l0 k y0 y1 y2 y3 y4 y5) (rj_quad.l0 (k + 1) y0 y1 y2 y3 y4 y5))
 | 0 => fun _ _ _ _ _ _ r h => by simp [rj_quad.l0] at h
 | k + 1 => by
  have ih0 := rj_quad.mono_l k
  all_goals (intros;first | unfold rj_quad.l0)
  all_goals (repeat' first | (with_reducible first | exact ih0 _ _ _ _ _ _ | exact rj_hex.mono _ _ | exact LeO.refl _ | exact LeO.none _ | refine LeO.ite ?_ ?_ | refine LeO.bind ?_ (fun _ => ?_)) | exact ih0 _ _ _ _ _ _ | exact rj_hex.mono _ _ | exact LeO.none _ | refine LeO.ite ?_ ?_ | refine LeO.bind ?_ (fun _ => ?_))
theorem rj_quad.mono : ∀ a0 a1 a2 a3 k, LeO (rj_quad.f k a0 a1 a2 a3) (rj_quad.f (k + 1) a0 a1 a2 a3) := by
 intro a0 a1 a2 a3 k;have ih0 := rj_quad.mono_l k;unfold rj_quad.f;repeat' first | (with_reducible first | exact ih0 _ _ _ _ _ _ | exact rj_hex.mono _ _ | exact LeO.refl _ | exact LeO.none _ | refine LeO.ite ?_ ?_ | refine LeO.bind ?_ (fun _ => ?_)) | exact ih0 _ _ _ _ _ _ | exact rj_hex.mono _ _ | exact LeO.none _ | refine LeO.ite ?_ ?_ | refine LeO.bind ?_ (fun _ => ?_)
set_option maxHeartbeats 8000000 in
set_option maxRecDepth 100000 in
theorem rj_quad.calls (k : Nat) (a0 : ByteArray) (a1 : Int) (a2 : Int) (a3 : Int) (r1 : Int) (r2 : Int) (w : World) (h : rj_quad.f k a0 a1 a2 a3 = some (r1, r2)) :
 Calls Tryd.prog 70 #[.string a0, .int .i64 a1, .int .i64 a2, .int .i64 a3] w fun e w' => e = .returned (.tuple #[.int .i64 r1, .int .i64 r2]) ∧ Drawn0 w w' := by
 have H : (rj_quad.l0 k a0 a1 a2 a3 0 0) = some (r1, r2) := h;clear h;have H' := Aside0.mk H;clear H;go_enter Tryd.func70, Tryd.ntmps70;go_wp2;go_loopg [10, 11] k (fun kq v10 v11 w' => ∃ (x10_1 : Int) (x11_1 : Int), v10 = .int .i64 x10_1 ∧ v11 = .int .i64 x11_1 ∧ Aside0 (rj_quad.l0 kq a0 a1 a2 a3 x10_1 x11_1 = some (r1, r2)) ∧ Aside0 (kq ≤ k) ∧ Drawn0 w w')
 case atStart => exact ⟨(0), (0), (by first | rfl | (simp; done) | (simp [*]; done)), (by first | rfl | (simp; done) | (simp [*]; done)), H', ⟨Nat.le_refl _⟩, by repeat (first | exact Drawn0.refl _ | apply Drawn0.step)⟩
 case round =>
  clear H';try clear p2
  obtain ⟨x10_1, x11_1, rfl, rfl, HA, HK1, ⟨m1, rfl⟩⟩ := hrel;cases gk with
  | zero => exact absurd HA.out (by simp [rj_quad.l0])
  | succ k1 =>
   have H := HA.out;clear HA;simp only [rj_quad.l0] at H;by_cases c5 : x11_1 < 4
   ·rw [if_pos c5] at H;have c5b0 : decide (x11_1 < 4) = true := decide_eq_true c5;clear c5;by_cases c6 : (wrap64 (a1 + x11_1)) ≥ (a0.size : Int)
    ·rw [if_pos c6] at H;have c6b0 : decide ((a0.size : Int) ≤ (wrap64 (a1 + x11_1))) = true := decide_eq_true c6;clear c6;simp only [Option.some.injEq, Prod.mk.injEq] at H;obtain ⟨rfl, rfl⟩ := H;go_wp2;go_ret2
     exact ⟨by first | rfl | (simp; done) | (simp [*]; done), by repeat (first | exact Drawn0.refl _ | apply Drawn0.step)⟩
    ·rw [if_neg c6] at H;have c6b0 : decide ((a0.size : Int) ≤ (wrap64 (a1 + x11_1))) = false := decide_eq_false c6;clear c6;obtain ⟨ji7, hji7⟩ : ∃ j_ : Int, (wrap64 (a1 + x11_1)) = j_ := ⟨_, rfl⟩
     replace H : (if 0 ≤ (ji7) then (if (ji7) < (a0.size : Int) then ((rj_hex.f k1 (bt a0 (ji7))).bind fun bt228 => (if bt228.2 = true then (if 0 ≤ (wrap64 (4 * (wrap64 (3 - x11_1)))) then (if (wrap64 ((shl .i64 (wrap64 ((Go.bits .or .i64 (wrap64 (x10_1 * 16)) bt228.1) + 1)) (wrap64 (4 * (wrap64 (3 - x11_1))))) - 1)) < a2 then (some (x11_1, (-1))) else (if (shl .i64 (Go.bits .or .i64 (wrap64 (x10_1 * 16)) bt228.1) (wrap64 (4 * (wrap64 (3 - x11_1))))) > a3 then (some (x11_1, (-1))) else (rj_quad.l0 k1 a0 a1 a2 a3 (Go.bits .or .i64 (wrap64 (x10_1 * 16)) bt228.1) (wrap64 (x11_1 + 1))))) else (none)) else (some (x11_1, (-1))))) else (none)) else (none)) = some (r1, r2) := by first | (rw [hji7] at H; exact H) | (simp only [hji7] at H ⊢; exact H)
     (try rw [hji7] at c6b0)
     have hji7w : (IntKind.i64.wrap (a1 + x11_1)) = ji7 := (i64_w _).trans hji7;by_cases c8 : 0 ≤ (ji7)
     ·rw [if_pos c8] at H;have c8b0 : decide (0 ≤ (ji7)) = true := decide_eq_true c8;clear c8;by_cases c9 : (ji7) < (a0.size : Int)
      ·rw [if_pos c9] at H;have c9b0 : decide ((ji7) < (a0.size : Int)) = true := decide_eq_true c9;clear c9;replace H := Option.bind_eq_some_iff.mp H;obtain ⟨⟨t228, t229⟩, A110, H⟩ := H
       replace H : (if t229 = true then (if 0 ≤ (wrap64 (4 * (wrap64 (3 - x11_1)))) then (if (wrap64 ((shl .i64 (wrap64 ((Go.bits .or .i64 (wrap64 (x10_1 * 16)) t228) + 1)) (wrap64 (4 * (wrap64 (3 - x11_1))))) - 1)) < a2 then (some (x11_1, (-1))) else (if (shl .i64 (Go.bits .or .i64 (wrap64 (x10_1 * 16)) t228) (wrap64 (4 * (wrap64 (3 - x11_1))))) > a3 then (some (x11_1, (-1))) else (rj_quad.l0 k1 a0 a1 a2 a3 (Go.bits .or .i64 (wrap64 (x10_1 * 16)) t228) (wrap64 (x11_1 + 1))))) else (none)) else (some (x11_1, (-1)))) = some (r1, r2) := H
       have A11 := Aside0.mk A110;clear A110;by_cases c12 : t229 = true
       ·subst c12;have H1 : (if 0 ≤ (wrap64 (4 * (wrap64 (3 - x11_1)))) then (if (wrap64 ((shl .i64 (wrap64 ((Go.bits .or .i64 (wrap64 (x10_1 * 16)) t228) + 1)) (wrap64 (4 * (wrap64 (3 - x11_1))))) - 1)) < a2 then (some (x11_1, (-1))) else (if (shl .i64 (Go.bits .or .i64 (wrap64 (x10_1 * 16)) t228) (wrap64 (4 * (wrap64 (3 - x11_1))))) > a3 then (some (x11_1, (-1))) else (rj_quad.l0 k1 a0 a1 a2 a3 (Go.bits .or .i64 (wrap64 (x10_1 * 16)) t228) (wrap64 (x11_1 + 1))))) else (none)) = some (r1, r2) := by rw [if_pos rfl] at H; exact H
        clear H;have H := H1;clear H1;obtain ⟨ji13, hji13⟩ : ∃ j_ : Int, (wrap64 (4 * (wrap64 (3 - x11_1)))) = j_ := ⟨_, rfl⟩;replace H : (if 0 ≤ (ji13) then (if (wrap64 ((shl .i64 (wrap64 ((Go.bits .or .i64 (wrap64 (x10_1 * 16)) t228) + 1)) (ji13)) - 1)) < a2 then (some (x11_1, (-1))) else (if (shl .i64 (Go.bits .or .i64 (wrap64 (x10_1 * 16)) t228) (ji13)) > a3 then (some (x11_1, (-1))) else (rj_quad.l0 k1 a0 a1 a2 a3 (Go.bits .or .i64 (wrap64 (x10_1 * 16)) t228) (wrap64 (x11_1 + 1))))) else (none)) = some (r1, r2) := by first | (rw [hji13] at H; exact H) | (simp only [hji13] at H ⊢; exact H)
        (try rw [hji13] at A11)
        have hji13w : (IntKind.i64.wrap (4 * (wrap64 (3 - x11_1)))) = ji13 := (i64_w _).trans hji13;by_cases c14 : 0 ≤ (ji13)
        ·rw [if_pos c14] at H;have c14b0 := eq_true c14;have c14b1 : decide (0 ≤ (ji13)) = true := decide_eq_true c14;clear c14;obtain ⟨ji15, hji15⟩ : ∃ j_ : Int, (shl .i64 (wrap64 ((Go.bits .or .i64 (wrap64 (x10_1 * 16)) t228) + 1)) (ji13)) = j_ := ⟨_, rfl⟩
         replace H : (if (wrap64 ((ji15) - 1)) < a2 then (some (x11_1, (-1))) else (if (shl .i64 (Go.bits .or .i64 (wrap64 (x10_1 * 16)) t228) (ji13)) > a3 then (some (x11_1, (-1))) else (rj_quad.l0 k1 a0 a1 a2 a3 (Go.bits .or .i64 (wrap64 (x10_1 * 16)) t228) (wrap64 (x11_1 + 1))))) = some (r1, r2) := by first | (rw [hji15] at H; exact H) | (simp only [hji15] at H ⊢; exact H)
         (try rw [hji15] at A11)
         have hji15_ : (IntKind.i64.wrap ((wrap64 ((Go.bits .or .i64 (wrap64 (x10_1 * 16)) t228) + 1)) * 2 ^ min (ji13).toNat 64)) = ji15 := hji15;have hji15z : (ji13) ≤ 64 → (IntKind.i64.wrap ((wrap64 ((Go.bits .or .i64 (wrap64 (x10_1 * 16)) t228) + 1)) * 2 ^ (ji13).toNat)) = ji15 := shl_small hji15;have hji15y : (wrap64 ((wrap64 ((Go.bits .or .i64 (wrap64 (x10_1 * 16)) t228) + 1)) * 2 ^ min (ji13).toNat 64)) = ji15 := (i64_w _).symm.trans hji15_
         have hji15x : (ji13) ≤ 64 → (wrap64 ((wrap64 ((Go.bits .or .i64 (wrap64 (x10_1 * 16)) t228) + 1)) * 2 ^ (ji13).toNat)) = ji15 := fun h_ => (i64_w _).symm.trans (hji15z h_)
         by_cases c16 : (wrap64 ((ji15) - 1)) < a2
         ·rw [if_pos c16] at H;have c16b0 : decide ((wrap64 ((ji15) - 1)) < a2) = true := decide_eq_true c16;clear c16;simp only [Option.some.injEq, Prod.mk.injEq] at H;obtain ⟨rfl, rfl⟩ := H;have p10 : 0 ≤ ((ji7) : Int) := of_decide_eq_true (by first | (with_reducible assumption) | assumption)
          have q10 : (ji7) < (a0.size : Int) := of_decide_eq_true (by first | (with_reducible assumption) | assumption)
          have hx10 := bt_at a0 (ji7);replace p10 := eq_true p10;replace q10 := eq_true q10;go_wp2_with (first | ((with_reducible refine gate_callee (f := 71) rfl ?_); refine goesL_ (some 32) rfl rfl Tryd.func71 (by kernel_rfl) rfl #[.int .u8 (bt a0 (ji7))] rfl (by (try simp only [List.map_toArray, List.map_cons, List.map_nil]); first | done | (simp only [hji7]; rfl) | rfl | (simp only [List.length_drop, List.length_take]; rfl)) ?_; (with_reducible refine (rj_hex.calls k1 (bt a0 (ji7)) t228 true _ A11.out).mono ?_); rintro e w' ⟨rfl, ⟨nd, rfl⟩⟩; refine ⟨_, rfl, ?_⟩))
          go_ret2
          exact ⟨by first | rfl | (simp; done) | (simp only [← hji7, ← hji13, ← hji15] <;> (first | rfl | simp); done) | (simp [*]; done), by repeat (first | exact Drawn0.refl _ | apply Drawn0.step)⟩
         ·rw [if_neg c16] at H;have c16b0 : decide ((wrap64 ((ji15) - 1)) < a2) = false := decide_eq_false c16;clear c16;have c17b0 := eq_true (of_decide_eq_true (by first | (with_reducible assumption) | assumption) : 0 ≤ (ji13))
          obtain ⟨ji18, hji18⟩ : ∃ j_ : Int, (shl .i64 (Go.bits .or .i64 (wrap64 (x10_1 * 16)) t228) (ji13)) = j_ := ⟨_, rfl⟩;replace H : (if (ji18) > a3 then (some (x11_1, (-1))) else (rj_quad.l0 k1 a0 a1 a2 a3 (Go.bits .or .i64 (wrap64 (x10_1 * 16)) t228) (wrap64 (x11_1 + 1)))) = some (r1, r2) := by first | (rw [hji18] at H; exact H) | (simp only [hji18] at H ⊢; exact H)
          (try rw [hji18] at A11)
          have hji18_ : (IntKind.i64.wrap ((Go.bits .or .i64 (wrap64 (x10_1 * 16)) t228) * 2 ^ min (ji13).toNat 64)) = ji18 := hji18;have hji18z : (ji13) ≤ 64 → (IntKind.i64.wrap ((Go.bits .or .i64 (wrap64 (x10_1 * 16)) t228) * 2 ^ (ji13).toNat)) = ji18 := shl_small hji18;have hji18y : (wrap64 ((Go.bits .or .i64 (wrap64 (x10_1 * 16)) t228) * 2 ^ min (ji13).toNat 64)) = ji18 := (i64_w _).symm.trans hji18_;have hji18x : (ji13) ≤ 64 → (wrap64 ((Go.bits .or .i64 (wrap64 (x10_1 * 16)) t228) * 2 ^ (ji13).toNat)) = ji18 := fun h_ => (i64_w _).symm.trans (hji18z h_)
          by_cases c19 : (ji18) > a3
          ·rw [if_pos c19] at H;have c19b0 : decide (a3 < (ji18)) = true := decide_eq_true c19;clear c19;simp only [Option.some.injEq, Prod.mk.injEq] at H;obtain ⟨rfl, rfl⟩ := H;have p10 : 0 ≤ ((ji7) : Int) := of_decide_eq_true (by first | (with_reducible assumption) | assumption)
           have q10 : (ji7) < (a0.size : Int) := of_decide_eq_true (by first | (with_reducible assumption) | assumption)
           have hx10 := bt_at a0 (ji7);replace p10 := eq_true p10;replace q10 := eq_true q10;go_wp2_with (first | ((with_reducible refine gate_callee (f := 71) rfl ?_); refine goesL_ (some 32) rfl rfl Tryd.func71 (by kernel_rfl) rfl #[.int .u8 (bt a0 (ji7))] rfl (by (try simp only [List.map_toArray, List.map_cons, List.map_nil]); first | done | (simp only [hji7]; rfl) | rfl | (simp only [List.length_drop, List.length_take]; rfl)) ?_; (with_reducible refine (rj_hex.calls k1 (bt a0 (ji7)) t228 true _ A11.out).mono ?_); rintro e w' ⟨rfl, ⟨nd, rfl⟩⟩; refine ⟨_, rfl, ?_⟩))
           go_ret2
           exact ⟨by first | rfl | (simp; done) | (simp only [← hji7, ← hji13, ← hji15, ← hji18] <;> (first | rfl | simp); done) | (simp [*]; done), by repeat (first | exact Drawn0.refl _ | apply Drawn0.step)⟩
          ·rw [if_neg c19] at H;have c19b0 : decide (a3 < (ji18)) = false := decide_eq_false c19;clear c19;have H' := Aside0.mk H;clear H;have p10 : 0 ≤ ((ji7) : Int) := of_decide_eq_true (by first | (with_reducible assumption) | assumption)
           have q10 : (ji7) < (a0.size : Int) := of_decide_eq_true (by first | (with_reducible assumption) | assumption)
           have hx10 := bt_at a0 (ji7);replace p10 := eq_true p10;replace q10 := eq_true q10;go_wp2_with (first | ((with_reducible refine gate_callee (f := 71) rfl ?_); refine goesL_ (some 32) rfl rfl Tryd.func71 (by kernel_rfl) rfl #[.int .u8 (bt a0 (ji7))] rfl (by (try simp only [List.map_toArray, List.map_cons, List.map_nil]); first | done | (simp only [hji7]; rfl) | rfl | (simp only [List.length_drop, List.length_take]; rfl)) ?_; (with_reducible refine (rj_hex.calls k1 (bt a0 (ji7)) t228 true _ A11.out).mono ?_); rintro e w' ⟨rfl, ⟨nd, rfl⟩⟩; refine ⟨_, rfl, ?_⟩))
           go_roundg k1
           case measure => have := HK1.out; omega
           case rel => exact ⟨(Go.bits .or .i64 (wrap64 (x10_1 * 16)) t228), (wrap64 (x11_1 + 1)), (by first | rfl | (simp; done) | (simp [*]; done)), (by first | rfl | (simp; done) | (simp [*]; done)), H', ⟨by have := HK1.out; omega⟩, by repeat (first | exact Drawn0.refl _ | apply Drawn0.step)⟩
        ·rw [if_neg c14] at H;exact absurd H (by simp)
       ·replace c12 := Bool.eq_false_iff.mpr c12;subst c12;have H1 : (some (x11_1, (-1))) = some (r1, r2) := by rw [if_neg (show ¬ (false = true) by decide)] at H; exact H
        clear H;have H := H1;clear H1;simp only [Option.some.injEq, Prod.mk.injEq] at H;obtain ⟨rfl, rfl⟩ := H;have p10 : 0 ≤ ((ji7) : Int) := of_decide_eq_true (by first | (with_reducible assumption) | assumption)
        have q10 : (ji7) < (a0.size : Int) := of_decide_eq_true (by first | (with_reducible assumption) | assumption)
        have hx10 := bt_at a0 (ji7);replace p10 := eq_true p10;replace q10 := eq_true q10;go_wp2_with (first | ((with_reducible refine gate_callee (f := 71) rfl ?_); refine goesL_ (some 32) rfl rfl Tryd.func71 (by kernel_rfl) rfl #[.int .u8 (bt a0 (ji7))] rfl (by (try simp only [List.map_toArray, List.map_cons, List.map_nil]); first | done | (simp only [hji7]; rfl) | rfl | (simp only [List.length_drop, List.length_take]; rfl)) ?_; (with_reducible refine (rj_hex.calls k1 (bt a0 (ji7)) t228 false _ A11.out).mono ?_); rintro e w' ⟨rfl, ⟨nd, rfl⟩⟩; refine ⟨_, rfl, ?_⟩))
        go_ret2
        exact ⟨by first | rfl | (simp; done) | (simp only [← hji7] <;> (first | rfl | simp); done) | (simp [*]; done), by repeat (first | exact Drawn0.refl _ | apply Drawn0.step)⟩
      ·rw [if_neg c9] at H;exact absurd H (by simp)
     ·rw [if_neg c8] at H;exact absurd H (by simp)
   ·rw [if_neg c5] at H;have c5b0 : decide (x11_1 < 4) = false := decide_eq_false c5;clear c5;simp only [Option.some.injEq, Prod.mk.injEq] at H;obtain ⟨rfl, rfl⟩ := H;go_wp2;go_ret2
    exact ⟨by first | rfl | (simp; done) | (simp [*]; done), by repeat (first | exact Drawn0.refl _ | apply Drawn0.step)⟩
/-! ### rj_unicode: function 65 -/
mutual
def rj_unicode.j0 : Nat → ByteArray → Int → Int → Int → Bool → Option (Int × Int)
 | 0, _, _, _, _, _ => none
 | k + 1, x0, x1, x6, x7, x30 => if x30 = true then (if 0 ≤ (wrap64 (x1 + 2)) then (if (wrap64 (x1 + 2)) < (x0.size : Int) then ((rj_hex.f k (bt x0 (wrap64 (x1 + 2)))).bind fun bt232 => (if 0 ≤ (wrap64 (x1 + 3)) then (if (wrap64 (x1 + 3)) < (x0.size : Int) then ((rj_hex.f k (bt x0 (wrap64 (x1 + 3)))).bind fun bt234 => (if bt232.1 = 13 then (if bt234.1 ≥ 12 then (some (0, (-1))) else (rj_unicode.j1 k x0 x1 x6 x7)) else (rj_unicode.j1 k x0 x1 x6 x7))) else (none)) else (none))) else (none)) else (none)) else (rj_unicode.j1 k x0 x1 x6 x7)
def rj_unicode.j1 : Nat → ByteArray → Int → Int → Int → Option (Int × Int)
 | 0, _, _, _, _ => none
 | k + 1, x0, x1, x6, x7 => if x6 < 4 then (some (0, x7)) else (if x7 < 55296 then (rj_unicode.j2 k x0 x1 x7 true) else (rj_unicode.j2 k x0 x1 x7 (decide (x7 > 57343))))
def rj_unicode.j2 : Nat → ByteArray → Int → Int → Bool → Option (Int × Int)
 | 0, _, _, _, _ => none
 | k + 1, x0, x1, x7, x61 => if x61 = true then (some (x7, 6)) else (if x7 > 56319 then (some (0, (-1))) else (rj_unicode.l0 k x0 x1 x7 0))
def rj_unicode.l0 : Nat → ByteArray → Int → Int → Int → Option (Int × Int)
 | 0, _, _, _, _ => none
 | k + 1, x0, x1, x7, x12 => if x12 < 2 then (if (wrap64 ((wrap64 (x1 + 6)) + x12)) ≥ (x0.size : Int) then (some (0, 0)) else (if 0 ≤ (wrap64 ((wrap64 (x1 + 6)) + x12)) then (if (wrap64 ((wrap64 (x1 + 6)) + x12)) < (x0.size : Int) then (if 0 ≤ x12 then (if (bt x0 (wrap64 ((wrap64 (x1 + 6)) + x12))) = (bt (⟨#[92, 117]⟩ : ByteArray) x12) then (rj_unicode.l0 k x0 x1 x7 (wrap64 (x12 + 1))) else (some (0, (-1)))) else (none)) else (none)) else (none))) else ((rj_quad.f k x0 (wrap64 (x1 + 8)) 56320 57343).bind fun bt236 => (if bt236.1 < 4 then (some (0, bt236.2)) else (some (wrap64 ((wrap64 (65536 + (wrap64 ((wrap64 (x7 - 55296)) * 1024)))) + (wrap64 (bt236.2 - 56320))), 12))))
end
def rj_unicode.f (k : Nat) (a0 : ByteArray) (a1 : Int) : Option (Int × Int) := (rj_quad.f k a0 (wrap64 (a1 + 2)) 0 65535).bind fun bt230 => (if bt230.1 < 4 then (if bt230.2 = 0 then (rj_unicode.j0 k a0 a1 bt230.1 bt230.2 (decide (bt230.1 ≥ 2))) else (rj_unicode.j0 k a0 a1 bt230.1 bt230.2 false)) else (rj_unicode.j0 k a0 a1 bt230.1 bt230.2 false))
theorem rj_unicode.mono_l : ∀ k, (∀ y0 y1 y2 y3 y4, LeO (rj_unicode.j0 k y0 y1 y2 y3 y4) (rj_unicode.j0 (k + 1) y0 y1 y2 y3 y4)) ∧ (∀ y0 y1 y2 y3, LeO (rj_unicode.j1 k y0 y1 y2 y3) (rj_unicode.j1 (k + 1) y0 y1 y2 y3)) ∧ (∀ y0 y1 y2 y3, LeO (rj_unicode.j2 k y0 y1 y2 y3) (rj_unicode.j2 (k + 1) y0 y1 y2 y3)) ∧ (∀ y0 y1 y2 y3, LeO (rj_unicode.l0 k y0 y1 y2 y3) (rj_unicode.l0 (k + 1) y0 y1 y2 y3))
 | 0 => ⟨fun _ _ _ _ _ r h => by simp [rj_unicode.j0] at h, fun _ _ _ _ r h => by simp [rj_unicode.j1] at h, fun _ _ _ _ r h => by simp [rj_unicode.j2] at h, fun _ _ _ _ r h => by simp [rj_unicode.l0] at h⟩
 | k + 1 => by
  obtain ⟨ih0, ih1, ih2, ih3⟩ := rj_unicode.mono_l k;refine ⟨?_, ?_, ?_, ?_⟩
  all_goals (intros;first | unfold rj_unicode.j0 | unfold rj_unicode.j1 | unfold rj_unicode.j2 | unfold rj_unicode.l0)
  all_goals (repeat' first | (with_reducible first | exact ih0 _ _ _ _ _ | exact ih1 _ _ _ _ | exact ih2 _ _ _ _ | exact ih3 _ _ _ _ | exact rj_hex.mono _ _ | exact rj_quad.mono _ _ _ _ _ | exact LeO.refl _ | exact LeO.none _ | refine LeO.ite ?_ ?_ | refine LeO.bind ?_ (fun _ => ?_)) | exact ih0 _ _ _ _ _ | exact ih1 _ _ _ _ | exact ih2 _ _ _ _ | exact ih3 _ _ _ _ | exact rj_hex.mono _ _ | exact rj_quad.mono _ _ _ _ _ | exact LeO.none _ | refine LeO.ite ?_ ?_ | refine LeO.bind ?_ (fun _ => ?_))
theorem rj_unicode.mono : ∀ a0 a1 k, LeO (rj_unicode.f k a0 a1) (rj_unicode.f (k + 1) a0 a1) := by
 intro a0 a1 k;obtain ⟨ih0, ih1, ih2, ih3⟩ := rj_unicode.mono_l k;unfold rj_unicode.f;repeat' first | (with_reducible first | exact ih0 _ _ _ _ _ | exact ih1 _ _ _ _ | exact ih2 _ _ _ _ | exact ih3 _ _ _ _ | exact rj_hex.mono _ _ | exact rj_quad.mono _ _ _ _ _ | exact LeO.refl _ | exact LeO.none _ | refine LeO.ite ?_ ?_ | refine LeO.bind ?_ (fun _ => ?_)) | exact ih0 _ _ _ _ _ | exact ih1 _ _ _ _ | exact ih2 _ _ _ _ | exact ih3 _ _ _ _ | exact rj_hex.mono _ _ | exact rj_quad.mono _ _ _ _ _ | exact LeO.none _ | refine LeO.ite ?_ ?_ | refine LeO.bind ?_ (fun _ => ?_)
set_option maxHeartbeats 8000000 in
set_option maxRecDepth 100000 in
theorem rj_unicode.calls (k : Nat) (a0 : ByteArray) (a1 : Int) (r1 : Int) (r2 : Int) (w : World) (h : rj_unicode.f k a0 a1 = some (r1, r2)) :
 Calls Tryd.prog 65 #[.string a0, .int .i64 a1] w fun e w' => e = .returned (.tuple #[.int .i64 r1, .int .i64 r2]) ∧ Drawn0 w w' := by
 have H : ((rj_quad.f k a0 (wrap64 (a1 + 2)) 0 65535).bind fun bt230 => (if bt230.1 < 4 then (if bt230.2 = 0 then (rj_unicode.j0 k a0 a1 bt230.1 bt230.2 (decide (bt230.1 ≥ 2))) else (rj_unicode.j0 k a0 a1 bt230.1 bt230.2 false)) else (rj_unicode.j0 k a0 a1 bt230.1 bt230.2 false))) = some (r1, r2) := h
 clear h;replace H := Option.bind_eq_some_iff.mp H;obtain ⟨⟨t230, t231⟩, A30, H⟩ := H;replace H : (if t230 < 4 then (if t231 = 0 then (rj_unicode.j0 k a0 a1 t230 t231 (decide (t230 ≥ 2))) else (rj_unicode.j0 k a0 a1 t230 t231 false)) else (rj_unicode.j0 k a0 a1 t230 t231 false)) = some (r1, r2) := H
 have A3 := Aside0.mk A30;clear A30;have HC4 := Aside0.mk H;clear H;go_enter Tryd.func65, Tryd.ntmps65;go_upto_region 2 with (first | (go_at_call 70; (with_reducible refine (rj_quad.calls k a0 (wrap64 (a1 + 2)) 0 65535 t230 t231 _ A3.out).mono ?_); rintro e w' ⟨rfl, ⟨nd, rfl⟩⟩; (try first | exact ⟨rfl, _, World.drewN_drewN _ _ _⟩ | exact ⟨rfl, _, Eq.trans (World.drewN_drewN _ _ _) (congrArg (World.drewN _) (Nat.add_assoc _ _ _))⟩)))
 repeat (go_quiet (first | (go_at_call 70; (with_reducible refine (rj_quad.calls k a0 (wrap64 (a1 + 2)) 0 65535 t230 t231 _ A3.out).mono ?_); rintro e w' ⟨rfl, ⟨nd, rfl⟩⟩; (try first | exact ⟨rfl, _, World.drewN_drewN _ _ _⟩ | exact ⟨rfl, _, Eq.trans (World.drewN_drewN _ _ _) (congrArg (World.drewN _) (Nat.add_assoc _ _ _))⟩))); go_upto_region 2 with (first | (go_at_call 70; (with_reducible refine (rj_quad.calls k a0 (wrap64 (a1 + 2)) 0 65535 t230 t231 _ A3.out).mono ?_); rintro e w' ⟨rfl, ⟨nd, rfl⟩⟩; (try first | exact ⟨rfl, _, World.drewN_drewN _ _ _⟩ | exact ⟨rfl, _, Eq.trans (World.drewN_drewN _ _ _) (congrArg (World.drewN _) (Nat.add_assoc _ _ _))⟩))))
 (try simp only [Act.put, List.setIfInBounds_toArray, List.set_cons_zero, List.set_cons_succ])
 go_cut [30] (fun v30 wc => ∃ (kq : Nat) (x30_3 : Bool), v30 = .bool x30_3 ∧ Aside0 (rj_unicode.j0 kq a0 a1 t230 t231 x30_3 = some (r1, r2)) ∧ Aside0 (kq ≤ k) ∧ Drawn0 w wc)
 case first =>
  have H := HC4.out;clear HC4;by_cases c5 : t230 < 4
  ·rw [if_pos c5] at H;have c5b0 : decide (t230 < 4) = true := decide_eq_true c5;clear c5;(first | rw [c5b0] | (simp only [i64_w, i32_w]; rw [c5b0]) | skip)
   by_cases c6 : t231 = 0
   ·rw [if_pos c6] at H;have c6b0 : (t231 == 0) = true := beq_iff_eq.mpr c6;have c6b1 : (t231 != 0) = false := bne_eq_false_iff_eq.mpr c6;clear c6;have H' := Aside0.mk H;clear H;go_wp2;repeat (go_quiet (fail); try go_wp2)
    go_meet
    case rel => exact ⟨_, (decide (t230 ≥ 2)), (by first | rfl | (simp; done) | (simp [*]; done)), H', ⟨by first | omega | exact Nat.le_refl _⟩, by repeat (first | exact Drawn0.refl _ | apply Drawn0.step)⟩
   ·rw [if_neg c6] at H;have c6b0 : (t231 == 0) = false := beq_eq_false_iff_ne.mpr c6;have c6b1 : (t231 != 0) = true := bne_iff_ne.mpr c6;have H' := Aside0.mk H;clear H;go_wp2;repeat (go_quiet (fail); try go_wp2)
    go_meet
    case rel => exact ⟨_, (false), (by first | rfl | (simp; done) | (simp [*]; done)), H', ⟨by first | omega | exact Nat.le_refl _⟩, by repeat (first | exact Drawn0.refl _ | apply Drawn0.step)⟩
  ·rw [if_neg c5] at H;have c5b0 : decide (t230 < 4) = false := decide_eq_false c5;clear c5;(first | rw [c5b0] | (simp only [i64_w, i32_w]; rw [c5b0]) | skip)
   have H' := Aside0.mk H;clear H;go_wp2;repeat (go_quiet (fail); try go_wp2)
   go_meet
   case rel => exact ⟨_, (false), (by first | rfl | (simp; done) | (simp [*]; done)), H', ⟨by first | omega | exact Nat.le_refl _⟩, by repeat (first | exact Drawn0.refl _ | apply Drawn0.step)⟩
 case rest =>
  clear HC4;try clear p2
  try clear c5
  try clear c5b0
  try clear c6
  try clear c6b0
  try clear c6b1
  try clear p6
  obtain ⟨kq, x30_3, rfl, HA, HJ3, ⟨mc3, rfl⟩⟩ := hcut;cases kq with
  | zero => exact absurd HA.out (by simp [rj_unicode.j0])
  | succ kj3 =>
   have H := HA.out;clear HA;simp only [rj_unicode.j0] at H;have HC7 := Aside0.mk H;clear H;go_upto_if 30 with (fail)
   repeat (go_quiet (fail); go_upto_if 30 with (fail))
   go_cut [] (fun wc => ∃ (kq : Nat), Aside0 (rj_unicode.j1 kq a0 a1 t230 t231 = some (r1, r2)) ∧ Aside0 (kq ≤ kj3) ∧ Drawn0 w wc)
   case first =>
    have H := HC7.out;clear HC7;by_cases c8 : x30_3 = true
    ·subst c8;have H1 : (if 0 ≤ (wrap64 (a1 + 2)) then (if (wrap64 (a1 + 2)) < (a0.size : Int) then ((rj_hex.f kj3 (bt a0 (wrap64 (a1 + 2)))).bind fun bt232 => (if 0 ≤ (wrap64 (a1 + 3)) then (if (wrap64 (a1 + 3)) < (a0.size : Int) then ((rj_hex.f kj3 (bt a0 (wrap64 (a1 + 3)))).bind fun bt234 => (if bt232.1 = 13 then (if bt234.1 ≥ 12 then (some (0, (-1))) else (rj_unicode.j1 kj3 a0 a1 t230 t231)) else (rj_unicode.j1 kj3 a0 a1 t230 t231))) else (none)) else (none))) else (none)) else (none)) = some (r1, r2) := by rw [if_pos rfl] at H; exact H
     clear H;have H := H1;clear H1;obtain ⟨ji9, hji9⟩ : ∃ j_ : Int, (wrap64 (a1 + 2)) = j_ := ⟨_, rfl⟩
     replace H : (if 0 ≤ (ji9) then (if (ji9) < (a0.size : Int) then ((rj_hex.f kj3 (bt a0 (ji9))).bind fun bt232 => (if 0 ≤ (wrap64 (a1 + 3)) then (if (wrap64 (a1 + 3)) < (a0.size : Int) then ((rj_hex.f kj3 (bt a0 (wrap64 (a1 + 3)))).bind fun bt234 => (if bt232.1 = 13 then (if bt234.1 ≥ 12 then (some (0, (-1))) else (rj_unicode.j1 kj3 a0 a1 t230 t231)) else (rj_unicode.j1 kj3 a0 a1 t230 t231))) else (none)) else (none))) else (none)) else (none)) = some (r1, r2) := by first | (rw [hji9] at H; exact H) | (simp only [hji9] at H ⊢; exact H)
     have hji9w : (IntKind.i64.wrap (a1 + 2)) = ji9 := (i64_w _).trans hji9;by_cases c10 : 0 ≤ (ji9)
     ·rw [if_pos c10] at H;have c10b0 : decide (0 ≤ (ji9)) = true := decide_eq_true c10;clear c10;(first | rw [c10b0] | (simp only [i64_w, i32_w]; rw [c10b0]) | skip)
      by_cases c11 : (ji9) < (a0.size : Int)
      ·rw [if_pos c11] at H;have c11b0 : decide ((ji9) < (a0.size : Int)) = true := decide_eq_true c11;clear c11;replace H := Option.bind_eq_some_iff.mp H;obtain ⟨⟨t232, t233⟩, A130, H⟩ := H;replace H : (if 0 ≤ (wrap64 (a1 + 3)) then (if (wrap64 (a1 + 3)) < (a0.size : Int) then ((rj_hex.f kj3 (bt a0 (wrap64 (a1 + 3)))).bind fun bt234 => (if t232 = 13 then (if bt234.1 ≥ 12 then (some (0, (-1))) else (rj_unicode.j1 kj3 a0 a1 t230 t231)) else (rj_unicode.j1 kj3 a0 a1 t230 t231))) else (none)) else (none)) = some (r1, r2) := H
       have A13 := Aside0.mk A130;clear A130;obtain ⟨ji14, hji14⟩ : ∃ j_ : Int, (wrap64 (a1 + 3)) = j_ := ⟨_, rfl⟩;replace H : (if 0 ≤ (ji14) then (if (ji14) < (a0.size : Int) then ((rj_hex.f kj3 (bt a0 (ji14))).bind fun bt234 => (if t232 = 13 then (if bt234.1 ≥ 12 then (some (0, (-1))) else (rj_unicode.j1 kj3 a0 a1 t230 t231)) else (rj_unicode.j1 kj3 a0 a1 t230 t231))) else (none)) else (none)) = some (r1, r2) := by first | (rw [hji14] at H; exact H) | (simp only [hji14] at H ⊢; exact H)
       (try rw [hji14] at A13)
       have hji14w : (IntKind.i64.wrap (a1 + 3)) = ji14 := (i64_w _).trans hji14;by_cases c15 : 0 ≤ (ji14)
       ·rw [if_pos c15] at H;have c15b0 : decide (0 ≤ (ji14)) = true := decide_eq_true c15;clear c15;by_cases c16 : (ji14) < (a0.size : Int)
        ·rw [if_pos c16] at H;have c16b0 : decide ((ji14) < (a0.size : Int)) = true := decide_eq_true c16;clear c16;replace H := Option.bind_eq_some_iff.mp H;obtain ⟨⟨t234, t235⟩, A180, H⟩ := H;replace H : (if t232 = 13 then (if t234 ≥ 12 then (some (0, (-1))) else (rj_unicode.j1 kj3 a0 a1 t230 t231)) else (rj_unicode.j1 kj3 a0 a1 t230 t231)) = some (r1, r2) := H
         have A18 := Aside0.mk A180;clear A180;by_cases c19 : t232 = 13
         ·rw [if_pos c19] at H;have c19b0 : (t232 == 13) = true := beq_iff_eq.mpr c19;have c19b1 : (t232 != 13) = false := bne_eq_false_iff_eq.mpr c19;clear c19;by_cases c20 : t234 ≥ 12
          ·rw [if_pos c20] at H;have c20b0 : decide (12 ≤ t234) = true := decide_eq_true c20;clear c20;simp only [Option.some.injEq, Prod.mk.injEq] at H;obtain ⟨rfl, rfl⟩ := H;have p12 : 0 ≤ ((ji9) : Int) := of_decide_eq_true (by first | (with_reducible assumption) | assumption)
           have q12 : (ji9) < (a0.size : Int) := of_decide_eq_true (by first | (with_reducible assumption) | assumption)
           have hx12 := bt_at a0 (ji9);replace p12 := eq_true p12;replace q12 := eq_true q12
           go_wp2_with (first | (go_at_call 71; (with_reducible refine (rj_hex.calls kj3 (bt a0 (ji9)) t232 t233 _ A13.out).mono ?_); rintro e w' ⟨rfl, ⟨nd, rfl⟩⟩; (try first | exact ⟨rfl, _, World.drewN_drewN _ _ _⟩ | exact ⟨rfl, _, Eq.trans (World.drewN_drewN _ _ _) (congrArg (World.drewN _) (Nat.add_assoc _ _ _))⟩); have p17 : 0 ≤ ((ji14) : Int) := of_decide_eq_true (by first | (with_reducible assumption) | assumption); have q17 : (ji14) < (a0.size : Int) := of_decide_eq_true (by first | (with_reducible assumption) | assumption); have hx17 := bt_at a0 (ji14); replace p17 := eq_true p17; replace q17 := eq_true q17) | (go_at_call 71; (with_reducible refine (rj_hex.calls kj3 (bt a0 (ji14)) t234 t235 _ A18.out).mono ?_); rintro e w' ⟨rfl, ⟨nd, rfl⟩⟩; (try first | exact ⟨rfl, _, World.drewN_drewN _ _ _⟩ | exact ⟨rfl, _, Eq.trans (World.drewN_drewN _ _ _) (congrArg (World.drewN _) (Nat.add_assoc _ _ _))⟩)))
           repeat (go_quiet (first | (go_at_call 71; (with_reducible refine (rj_hex.calls kj3 (bt a0 (ji9)) t232 t233 _ A13.out).mono ?_); rintro e w' ⟨rfl, ⟨nd, rfl⟩⟩; (try first | exact ⟨rfl, _, World.drewN_drewN _ _ _⟩ | exact ⟨rfl, _, Eq.trans (World.drewN_drewN _ _ _) (congrArg (World.drewN _) (Nat.add_assoc _ _ _))⟩); have p17 : 0 ≤ ((ji14) : Int) := of_decide_eq_true (by first | (with_reducible assumption) | assumption); have q17 : (ji14) < (a0.size : Int) := of_decide_eq_true (by first | (with_reducible assumption) | assumption); have hx17 := bt_at a0 (ji14); replace p17 := eq_true p17; replace q17 := eq_true q17) | (go_at_call 71; (with_reducible refine (rj_hex.calls kj3 (bt a0 (ji14)) t234 t235 _ A18.out).mono ?_); rintro e w' ⟨rfl, ⟨nd, rfl⟩⟩; (try first | exact ⟨rfl, _, World.drewN_drewN _ _ _⟩ | exact ⟨rfl, _, Eq.trans (World.drewN_drewN _ _ _) (congrArg (World.drewN _) (Nat.add_assoc _ _ _))⟩))); try go_wp2_with (first | (go_at_call 71; (with_reducible refine (rj_hex.calls kj3 (bt a0 (ji9)) t232 t233 _ A13.out).mono ?_); rintro e w' ⟨rfl, ⟨nd, rfl⟩⟩; (try first | exact ⟨rfl, _, World.drewN_drewN _ _ _⟩ | exact ⟨rfl, _, Eq.trans (World.drewN_drewN _ _ _) (congrArg (World.drewN _) (Nat.add_assoc _ _ _))⟩); have p17 : 0 ≤ ((ji14) : Int) := of_decide_eq_true (by first | (with_reducible assumption) | assumption); have q17 : (ji14) < (a0.size : Int) := of_decide_eq_true (by first | (with_reducible assumption) | assumption); have hx17 := bt_at a0 (ji14); replace p17 := eq_true p17; replace q17 := eq_true q17) | (go_at_call 71; (with_reducible refine (rj_hex.calls kj3 (bt a0 (ji14)) t234 t235 _ A18.out).mono ?_); rintro e w' ⟨rfl, ⟨nd, rfl⟩⟩; (try first | exact ⟨rfl, _, World.drewN_drewN _ _ _⟩ | exact ⟨rfl, _, Eq.trans (World.drewN_drewN _ _ _) (congrArg (World.drewN _) (Nat.add_assoc _ _ _))⟩))))
           go_ret2
           exact ⟨by first | rfl | (simp; done) | (simp only [← hji9, ← hji14] <;> (first | rfl | simp); done) | (simp [*]; done), by repeat (first | exact Drawn0.refl _ | apply Drawn0.step)⟩
          ·rw [if_neg c20] at H;have c20b0 : decide (12 ≤ t234) = false := decide_eq_false c20;clear c20;have H' := Aside0.mk H;clear H;have p12 : 0 ≤ ((ji9) : Int) := of_decide_eq_true (by first | (with_reducible assumption) | assumption)
           have q12 : (ji9) < (a0.size : Int) := of_decide_eq_true (by first | (with_reducible assumption) | assumption)
           have hx12 := bt_at a0 (ji9);replace p12 := eq_true p12;replace q12 := eq_true q12
           go_wp2_with (first | (go_at_call 71; (with_reducible refine (rj_hex.calls kj3 (bt a0 (ji9)) t232 t233 _ A13.out).mono ?_); rintro e w' ⟨rfl, ⟨nd, rfl⟩⟩; (try first | exact ⟨rfl, _, World.drewN_drewN _ _ _⟩ | exact ⟨rfl, _, Eq.trans (World.drewN_drewN _ _ _) (congrArg (World.drewN _) (Nat.add_assoc _ _ _))⟩); have p17 : 0 ≤ ((ji14) : Int) := of_decide_eq_true (by first | (with_reducible assumption) | assumption); have q17 : (ji14) < (a0.size : Int) := of_decide_eq_true (by first | (with_reducible assumption) | assumption); have hx17 := bt_at a0 (ji14); replace p17 := eq_true p17; replace q17 := eq_true q17) | (go_at_call 71; (with_reducible refine (rj_hex.calls kj3 (bt a0 (ji14)) t234 t235 _ A18.out).mono ?_); rintro e w' ⟨rfl, ⟨nd, rfl⟩⟩; (try first | exact ⟨rfl, _, World.drewN_drewN _ _ _⟩ | exact ⟨rfl, _, Eq.trans (World.drewN_drewN _ _ _) (congrArg (World.drewN _) (Nat.add_assoc _ _ _))⟩)))
           repeat (go_quiet (first | (go_at_call 71; (with_reducible refine (rj_hex.calls kj3 (bt a0 (ji9)) t232 t233 _ A13.out).mono ?_); rintro e w' ⟨rfl, ⟨nd, rfl⟩⟩; (try first | exact ⟨rfl, _, World.drewN_drewN _ _ _⟩ | exact ⟨rfl, _, Eq.trans (World.drewN_drewN _ _ _) (congrArg (World.drewN _) (Nat.add_assoc _ _ _))⟩); have p17 : 0 ≤ ((ji14) : Int) := of_decide_eq_true (by first | (with_reducible assumption) | assumption); have q17 : (ji14) < (a0.size : Int) := of_decide_eq_true (by first | (with_reducible assumption) | assumption); have hx17 := bt_at a0 (ji14); replace p17 := eq_true p17; replace q17 := eq_true q17) | (go_at_call 71; (with_reducible refine (rj_hex.calls kj3 (bt a0 (ji14)) t234 t235 _ A18.out).mono ?_); rintro e w' ⟨rfl, ⟨nd, rfl⟩⟩; (try first | exact ⟨rfl, _, World.drewN_drewN _ _ _⟩ | exact ⟨rfl, _, Eq.trans (World.drewN_drewN _ _ _) (congrArg (World.drewN _) (Nat.add_assoc _ _ _))⟩))); try go_wp2_with (first | (go_at_call 71; (with_reducible refine (rj_hex.calls kj3 (bt a0 (ji9)) t232 t233 _ A13.out).mono ?_); rintro e w' ⟨rfl, ⟨nd, rfl⟩⟩; (try first | exact ⟨rfl, _, World.drewN_drewN _ _ _⟩ | exact ⟨rfl, _, Eq.trans (World.drewN_drewN _ _ _) (congrArg (World.drewN _) (Nat.add_assoc _ _ _))⟩); have p17 : 0 ≤ ((ji14) : Int) := of_decide_eq_true (by first | (with_reducible assumption) | assumption); have q17 : (ji14) < (a0.size : Int) := of_decide_eq_true (by first | (with_reducible assumption) | assumption); have hx17 := bt_at a0 (ji14); replace p17 := eq_true p17; replace q17 := eq_true q17) | (go_at_call 71; (with_reducible refine (rj_hex.calls kj3 (bt a0 (ji14)) t234 t235 _ A18.out).mono ?_); rintro e w' ⟨rfl, ⟨nd, rfl⟩⟩; (try first | exact ⟨rfl, _, World.drewN_drewN _ _ _⟩ | exact ⟨rfl, _, Eq.trans (World.drewN_drewN _ _ _) (congrArg (World.drewN _) (Nat.add_assoc _ _ _))⟩))))
           go_meet
           case rel => exact ⟨_, H', ⟨by have := HJ3.out; first | omega | exact Nat.le_refl _⟩, by repeat (first | exact Drawn0.refl _ | apply Drawn0.step)⟩
         ·rw [if_neg c19] at H;have c19b0 : (t232 == 13) = false := beq_eq_false_iff_ne.mpr c19;have c19b1 : (t232 != 13) = true := bne_iff_ne.mpr c19;have H' := Aside0.mk H;clear H;have p12 : 0 ≤ ((ji9) : Int) := of_decide_eq_true (by first | (with_reducible assumption) | assumption)
          have q12 : (ji9) < (a0.size : Int) := of_decide_eq_true (by first | (with_reducible assumption) | assumption)
          have hx12 := bt_at a0 (ji9);replace p12 := eq_true p12;replace q12 := eq_true q12
          go_wp2_with (first | (go_at_call 71; (with_reducible refine (rj_hex.calls kj3 (bt a0 (ji9)) t232 t233 _ A13.out).mono ?_); rintro e w' ⟨rfl, ⟨nd, rfl⟩⟩; (try first | exact ⟨rfl, _, World.drewN_drewN _ _ _⟩ | exact ⟨rfl, _, Eq.trans (World.drewN_drewN _ _ _) (congrArg (World.drewN _) (Nat.add_assoc _ _ _))⟩); have p17 : 0 ≤ ((ji14) : Int) := of_decide_eq_true (by first | (with_reducible assumption) | assumption); have q17 : (ji14) < (a0.size : Int) := of_decide_eq_true (by first | (with_reducible assumption) | assumption); have hx17 := bt_at a0 (ji14); replace p17 := eq_true p17; replace q17 := eq_true q17) | (go_at_call 71; (with_reducible refine (rj_hex.calls kj3 (bt a0 (ji14)) t234 t235 _ A18.out).mono ?_); rintro e w' ⟨rfl, ⟨nd, rfl⟩⟩; (try first | exact ⟨rfl, _, World.drewN_drewN _ _ _⟩ | exact ⟨rfl, _, Eq.trans (World.drewN_drewN _ _ _) (congrArg (World.drewN _) (Nat.add_assoc _ _ _))⟩)))
          repeat (go_quiet (first | (go_at_call 71; (with_reducible refine (rj_hex.calls kj3 (bt a0 (ji9)) t232 t233 _ A13.out).mono ?_); rintro e w' ⟨rfl, ⟨nd, rfl⟩⟩; (try first | exact ⟨rfl, _, World.drewN_drewN _ _ _⟩ | exact ⟨rfl, _, Eq.trans (World.drewN_drewN _ _ _) (congrArg (World.drewN _) (Nat.add_assoc _ _ _))⟩); have p17 : 0 ≤ ((ji14) : Int) := of_decide_eq_true (by first | (with_reducible assumption) | assumption); have q17 : (ji14) < (a0.size : Int) := of_decide_eq_true (by first | (with_reducible assumption) | assumption); have hx17 := bt_at a0 (ji14); replace p17 := eq_true p17; replace q17 := eq_true q17) | (go_at_call 71; (with_reducible refine (rj_hex.calls kj3 (bt a0 (ji14)) t234 t235 _ A18.out).mono ?_); rintro e w' ⟨rfl, ⟨nd, rfl⟩⟩; (try first | exact ⟨rfl, _, World.drewN_drewN _ _ _⟩ | exact ⟨rfl, _, Eq.trans (World.drewN_drewN _ _ _) (congrArg (World.drewN _) (Nat.add_assoc _ _ _))⟩))); try go_wp2_with (first | (go_at_call 71; (with_reducible refine (rj_hex.calls kj3 (bt a0 (ji9)) t232 t233 _ A13.out).mono ?_); rintro e w' ⟨rfl, ⟨nd, rfl⟩⟩; (try first | exact ⟨rfl, _, World.drewN_drewN _ _ _⟩ | exact ⟨rfl, _, Eq.trans (World.drewN_drewN _ _ _) (congrArg (World.drewN _) (Nat.add_assoc _ _ _))⟩); have p17 : 0 ≤ ((ji14) : Int) := of_decide_eq_true (by first | (with_reducible assumption) | assumption); have q17 : (ji14) < (a0.size : Int) := of_decide_eq_true (by first | (with_reducible assumption) | assumption); have hx17 := bt_at a0 (ji14); replace p17 := eq_true p17; replace q17 := eq_true q17) | (go_at_call 71; (with_reducible refine (rj_hex.calls kj3 (bt a0 (ji14)) t234 t235 _ A18.out).mono ?_); rintro e w' ⟨rfl, ⟨nd, rfl⟩⟩; (try first | exact ⟨rfl, _, World.drewN_drewN _ _ _⟩ | exact ⟨rfl, _, Eq.trans (World.drewN_drewN _ _ _) (congrArg (World.drewN _) (Nat.add_assoc _ _ _))⟩))))
          go_meet
          case rel => exact ⟨_, H', ⟨by have := HJ3.out; first | omega | exact Nat.le_refl _⟩, by repeat (first | exact Drawn0.refl _ | apply Drawn0.step)⟩
        ·rw [if_neg c16] at H;exact absurd H (by simp)
       ·rw [if_neg c15] at H;exact absurd H (by simp)
      ·rw [if_neg c11] at H;exact absurd H (by simp)
     ·rw [if_neg c10] at H;exact absurd H (by simp)
    ·replace c8 := Bool.eq_false_iff.mpr c8;subst c8;have H1 : (rj_unicode.j1 kj3 a0 a1 t230 t231) = some (r1, r2) := by rw [if_neg (show ¬ (false = true) by decide)] at H; exact H
     clear H;have H := H1;clear H1;have H' := Aside0.mk H;clear H;go_wp2;repeat (go_quiet (fail); try go_wp2)
     go_meet
     case rel => exact ⟨_, H', ⟨by have := HJ3.out; first | omega | exact Nat.le_refl _⟩, by repeat (first | exact Drawn0.refl _ | apply Drawn0.step)⟩
   case rest =>
    clear HC7;try clear c1
    try clear p1
    try clear q1
    try clear hx1
    try clear c2
    try clear p2
    try clear c3
    try clear c5
    try clear c5b0
    try clear c6
    try clear c6b0
    try clear c6b1
    try clear p6
    try clear c8
    try clear c10
    try clear c10b0
    try clear c11
    try clear c11b0
    try clear p12
    try clear q12
    try clear hx12
    try clear c15
    try clear c15b0
    try clear c16
    try clear c16b0
    try clear p17
    try clear q17
    try clear hx17
    try clear c19
    try clear c19b0
    try clear c19b1
    try clear c20
    try clear c20b0
    try clear p12
    try clear p17
    try clear p2
    try clear p6
    try clear q12
    try clear q17
    obtain ⟨kq, HA, HJ6, ⟨mc6, rfl⟩⟩ := hcut;cases kq with
    | zero => exact absurd HA.out (by simp [rj_unicode.j1])
    | succ kj6 =>
     have H := HA.out;clear HA;simp only [rj_unicode.j1] at H;by_cases c21 : t230 < 4
     ·rw [if_pos c21] at H;have c21b0 : decide (t230 < 4) = true := decide_eq_true c21;clear c21;simp only [Option.some.injEq, Prod.mk.injEq] at H;obtain ⟨rfl, rfl⟩ := H;go_wp2;repeat (go_quiet (fail); try go_wp2)
      go_ret2
      exact ⟨by first | rfl | (simp; done) | (simp [*]; done), by repeat (first | exact Drawn0.refl _ | apply Drawn0.step)⟩
     ·rw [if_neg c21] at H;have c21b0 : decide (t230 < 4) = false := decide_eq_false c21;clear c21;have HC22 := Aside0.mk H;clear H;go_upto_region 9 with (fail)
      repeat (go_quiet (fail); go_upto_region 9 with (fail))
      go_cut [61] (fun v61 wc => ∃ (kq : Nat) (x61_21 : Bool), v61 = .bool x61_21 ∧ Aside0 (rj_unicode.j2 kq a0 a1 t231 x61_21 = some (r1, r2)) ∧ Aside0 (kq ≤ kj6) ∧ Drawn0 w wc)
      case first =>
       have H := HC22.out;clear HC22;by_cases c23 : t231 < 55296
       ·rw [if_pos c23] at H;have c23b0 : decide (t231 < 55296) = true := decide_eq_true c23;clear c23;(first | rw [c23b0] | (simp only [i64_w, i32_w]; rw [c23b0]) | skip)
        have H' := Aside0.mk H;clear H;go_wp2;repeat (go_quiet (fail); try go_wp2)
        go_meet
        case rel => exact ⟨_, (true), (by first | rfl | (simp; done) | (simp [*]; done)), H', ⟨by have := HJ3.out; have := HJ6.out; first | omega | exact Nat.le_refl _⟩, by repeat (first | exact Drawn0.refl _ | apply Drawn0.step)⟩
       ·rw [if_neg c23] at H;have c23b0 : decide (t231 < 55296) = false := decide_eq_false c23;clear c23;(first | rw [c23b0] | (simp only [i64_w, i32_w]; rw [c23b0]) | skip)
        have H' := Aside0.mk H;clear H;go_wp2;repeat (go_quiet (fail); try go_wp2)
        go_meet
        case rel => exact ⟨_, (decide (t231 > 57343)), (by first | rfl | (simp; done) | (simp [*]; done)), H', ⟨by have := HJ3.out; have := HJ6.out; first | omega | exact Nat.le_refl _⟩, by repeat (first | exact Drawn0.refl _ | apply Drawn0.step)⟩
      case rest =>
       clear HC22;try clear c1
       try clear p1
       try clear q1
       try clear hx1
       try clear c2
       try clear p2
       try clear c3
       try clear c5
       try clear c5b0
       try clear c6
       try clear c6b0
       try clear c6b1
       try clear p6
       try clear c8
       try clear c10
       try clear c10b0
       try clear c11
       try clear c11b0
       try clear p12
       try clear q12
       try clear hx12
       try clear c15
       try clear c15b0
       try clear c16
       try clear c16b0
       try clear p17
       try clear q17
       try clear hx17
       try clear c19
       try clear c19b0
       try clear c19b1
       try clear c20
       try clear c20b0
       try clear c21
       try clear c21b0
       try clear c23
       try clear c23b0
       try clear p1
       try clear p12
       try clear p17
       try clear p2
       try clear p6
       try clear q1
       try clear q12
       try clear q17
       obtain ⟨kq, x61_21, rfl, HA, HJ21, ⟨mc21, rfl⟩⟩ := hcut;cases kq with
       | zero => exact absurd HA.out (by simp [rj_unicode.j2])
       | succ kj21 =>
        have H := HA.out;clear HA;simp only [rj_unicode.j2] at H;by_cases c24 : x61_21 = true
        ·subst c24;have H1 : (some (t231, 6)) = some (r1, r2) := by rw [if_pos rfl] at H; exact H
         clear H;have H := H1;clear H1;simp only [Option.some.injEq, Prod.mk.injEq] at H;obtain ⟨rfl, rfl⟩ := H;go_wp2;repeat (go_quiet (fail); try go_wp2)
         go_ret2
         exact ⟨by first | rfl | (simp; done) | (simp [*]; done), by repeat (first | exact Drawn0.refl _ | apply Drawn0.step)⟩
        ·replace c24 := Bool.eq_false_iff.mpr c24;subst c24;have H1 : (if t231 > 56319 then (some (0, (-1))) else (rj_unicode.l0 kj21 a0 a1 t231 0)) = some (r1, r2) := by rw [if_neg (show ¬ (false = true) by decide)] at H; exact H
         clear H;have H := H1;clear H1;by_cases c25 : t231 > 56319
         ·rw [if_pos c25] at H;have c25b0 : decide (56319 < t231) = true := decide_eq_true c25;clear c25;simp only [Option.some.injEq, Prod.mk.injEq] at H;obtain ⟨rfl, rfl⟩ := H;go_wp2;repeat (go_quiet (fail); try go_wp2)
          go_ret2
          exact ⟨by first | rfl | (simp; done) | (simp [*]; done), by repeat (first | exact Drawn0.refl _ | apply Drawn0.step)⟩
         ·rw [if_neg c25] at H;have c25b0 : decide (56319 < t231) = false := decide_eq_false c25;clear c25;have H' := Aside0.mk H;clear H;go_wp2;repeat (go_quiet (fail); try go_wp2)
          go_loopg [12] kj21 (fun kq v12 w' => ∃ (x12_4 : Int), v12 = .int .i64 x12_4 ∧ Aside0 (rj_unicode.l0 kq a0 a1 t231 x12_4 = some (r1, r2)) ∧ Aside0 (kq ≤ kj21) ∧ Drawn0 w w')
          case atStart => exact ⟨(0), (by first | rfl | (simp; done) | (simp [*]; done)), H', ⟨Nat.le_refl _⟩, by repeat (first | exact Drawn0.refl _ | apply Drawn0.step)⟩
          case round =>
           clear H';try clear c1
           try clear p1
           try clear q1
           try clear hx1
           try clear c2
           try clear p2
           try clear c3
           try clear c5
           try clear c5b0
           try clear c6
           try clear c6b0
           try clear c6b1
           try clear p6
           try clear c8
           try clear c10
           try clear c10b0
           try clear c11
           try clear c11b0
           try clear p12
           try clear q12
           try clear hx12
           try clear c15
           try clear c15b0
           try clear c16
           try clear c16b0
           try clear p17
           try clear q17
           try clear hx17
           try clear c19
           try clear c19b0
           try clear c19b1
           try clear c20
           try clear c20b0
           try clear c21
           try clear c21b0
           try clear c23
           try clear c23b0
           try clear c24
           try clear c25
           try clear c25b0
           try clear p1
           try clear p12
           try clear p17
           try clear p2
           try clear p6
           try clear q1
           try clear q12
           try clear q17
           obtain ⟨x12_4, rfl, HA, HK4, ⟨m4, rfl⟩⟩ := hrel;cases gk with
           | zero => exact absurd HA.out (by simp [rj_unicode.l0])
           | succ k4 =>
            have H := HA.out;clear HA;simp only [rj_unicode.l0] at H;by_cases c26 : x12_4 < 2
            ·rw [if_pos c26] at H;have c26b0 : decide (x12_4 < 2) = true := decide_eq_true c26;clear c26;by_cases c27 : (wrap64 ((wrap64 (a1 + 6)) + x12_4)) ≥ (a0.size : Int)
             ·rw [if_pos c27] at H;have c27b0 : decide ((a0.size : Int) ≤ (wrap64 ((wrap64 (a1 + 6)) + x12_4))) = true := decide_eq_true c27;clear c27;simp only [Option.some.injEq, Prod.mk.injEq] at H;obtain ⟨rfl, rfl⟩ := H;go_wp2;repeat (go_quiet (fail); try go_wp2)
              go_ret2
              exact ⟨by first | rfl | (simp; done) | (simp [*]; done), by repeat (first | exact Drawn0.refl _ | apply Drawn0.step)⟩
             ·rw [if_neg c27] at H;have c27b0 : decide ((a0.size : Int) ≤ (wrap64 ((wrap64 (a1 + 6)) + x12_4))) = false := decide_eq_false c27;clear c27;obtain ⟨ji28, hji28⟩ : ∃ j_ : Int, (wrap64 ((wrap64 (a1 + 6)) + x12_4)) = j_ := ⟨_, rfl⟩;replace H : (if 0 ≤ (ji28) then (if (ji28) < (a0.size : Int) then (if 0 ≤ x12_4 then (if (bt a0 (ji28)) = (bt (⟨#[92, 117]⟩ : ByteArray) x12_4) then (rj_unicode.l0 k4 a0 a1 t231 (wrap64 (x12_4 + 1))) else (some (0, (-1)))) else (none)) else (none)) else (none)) = some (r1, r2) := by first | (rw [hji28] at H; exact H) | (simp only [hji28] at H ⊢; exact H)
              (try rw [hji28] at c27b0)
              have hji28w : (IntKind.i64.wrap ((wrap64 (a1 + 6)) + x12_4)) = ji28 := (i64_w _).trans hji28;by_cases c29 : 0 ≤ (ji28)
              ·rw [if_pos c29] at H;have c29b0 : decide (0 ≤ (ji28)) = true := decide_eq_true c29;clear c29;by_cases c30 : (ji28) < (a0.size : Int)
               ·rw [if_pos c30] at H;have c30b0 : decide ((ji28) < (a0.size : Int)) = true := decide_eq_true c30;clear c30;by_cases c32 : 0 ≤ x12_4
                ·rw [if_pos c32] at H;have c32b0 : decide (0 ≤ x12_4) = true := decide_eq_true c32;clear c32;by_cases c34 : (bt a0 (ji28)) = (bt (⟨#[92, 117]⟩ : ByteArray) x12_4)
                 ·rw [if_pos c34] at H;have c34b0 : ((bt a0 (ji28)) == (bt (⟨#[92, 117]⟩ : ByteArray) x12_4)) = true := beq_iff_eq.mpr c34;have c34b1 : ((bt a0 (ji28)) != (bt (⟨#[92, 117]⟩ : ByteArray) x12_4)) = false := bne_eq_false_iff_eq.mpr c34;clear c34;have H' := Aside0.mk H;clear H;have p31 : 0 ≤ ((ji28) : Int) := of_decide_eq_true (by first | (with_reducible assumption) | assumption)
                  have q31 : (ji28) < (a0.size : Int) := of_decide_eq_true (by first | (with_reducible assumption) | assumption)
                  have hx31 := bt_at a0 (ji28);replace p31 := eq_true p31;replace q31 := eq_true q31;have p33 : 0 ≤ (x12_4 : Int) := of_decide_eq_true (by first | (with_reducible assumption) | assumption)
                  have q33 : x12_4 < (2 : Int) := of_decide_eq_true (by first | (with_reducible assumption) | assumption)
                  have hx33 := bt_at (⟨#[92, 117]⟩ : ByteArray) x12_4;replace p33 := eq_true p33;replace q33 := eq_true q33;go_wp2;repeat (go_quiet (fail); try go_wp2)
                  go_roundg k4
                  case measure => have := HJ3.out; have := HJ6.out; have := HJ21.out; have := HK4.out; omega
                  case rel => exact ⟨(wrap64 (x12_4 + 1)), (by first | rfl | (simp; done) | (simp [*]; done)), H', ⟨by have := HJ3.out; have := HJ6.out; have := HJ21.out; have := HK4.out; omega⟩, by repeat (first | exact Drawn0.refl _ | apply Drawn0.step)⟩
                 ·rw [if_neg c34] at H;have c34b0 : ((bt a0 (ji28)) == (bt (⟨#[92, 117]⟩ : ByteArray) x12_4)) = false := beq_eq_false_iff_ne.mpr c34;have c34b1 : ((bt a0 (ji28)) != (bt (⟨#[92, 117]⟩ : ByteArray) x12_4)) = true := bne_iff_ne.mpr c34;simp only [Option.some.injEq, Prod.mk.injEq] at H;obtain ⟨rfl, rfl⟩ := H;have p31 : 0 ≤ ((ji28) : Int) := of_decide_eq_true (by first | (with_reducible assumption) | assumption)
                  have q31 : (ji28) < (a0.size : Int) := of_decide_eq_true (by first | (with_reducible assumption) | assumption)
                  have hx31 := bt_at a0 (ji28);replace p31 := eq_true p31;replace q31 := eq_true q31;have p33 : 0 ≤ (x12_4 : Int) := of_decide_eq_true (by first | (with_reducible assumption) | assumption)
                  have q33 : x12_4 < (2 : Int) := of_decide_eq_true (by first | (with_reducible assumption) | assumption)
                  have hx33 := bt_at (⟨#[92, 117]⟩ : ByteArray) x12_4;replace p33 := eq_true p33;replace q33 := eq_true q33;go_wp2;repeat (go_quiet (fail); try go_wp2)
                  go_ret2
                  exact ⟨by first | rfl | (simp; done) | (simp only [← hji28] <;> (first | rfl | simp); done) | (simp [*]; done), by repeat (first | exact Drawn0.refl _ | apply Drawn0.step)⟩
                ·rw [if_neg c32] at H;exact absurd H (by simp)
               ·rw [if_neg c30] at H;exact absurd H (by simp)
              ·rw [if_neg c29] at H;exact absurd H (by simp)
            ·rw [if_neg c26] at H;have c26b0 : decide (x12_4 < 2) = false := decide_eq_false c26;clear c26;replace H := Option.bind_eq_some_iff.mp H;obtain ⟨⟨t236, t237⟩, A350, H⟩ := H;replace H : (if t236 < 4 then (some (0, t237)) else (some (wrap64 ((wrap64 (65536 + (wrap64 ((wrap64 (t231 - 55296)) * 1024)))) + (wrap64 (t237 - 56320))), 12))) = some (r1, r2) := H
             have A35 := Aside0.mk A350;clear A350;by_cases c36 : t236 < 4
             ·rw [if_pos c36] at H;have c36b0 : decide (t236 < 4) = true := decide_eq_true c36;clear c36;simp only [Option.some.injEq, Prod.mk.injEq] at H;obtain ⟨rfl, rfl⟩ := H;go_wp2_with (first | (go_at_call 70; (with_reducible refine (rj_quad.calls k4 a0 (wrap64 (a1 + 8)) 56320 57343 t236 t237 _ A35.out).mono ?_); rintro e w' ⟨rfl, ⟨nd, rfl⟩⟩; (try first | exact ⟨rfl, _, World.drewN_drewN _ _ _⟩ | exact ⟨rfl, _, Eq.trans (World.drewN_drewN _ _ _) (congrArg (World.drewN _) (Nat.add_assoc _ _ _))⟩)))
              repeat (go_quiet (first | (go_at_call 70; (with_reducible refine (rj_quad.calls k4 a0 (wrap64 (a1 + 8)) 56320 57343 t236 t237 _ A35.out).mono ?_); rintro e w' ⟨rfl, ⟨nd, rfl⟩⟩; (try first | exact ⟨rfl, _, World.drewN_drewN _ _ _⟩ | exact ⟨rfl, _, Eq.trans (World.drewN_drewN _ _ _) (congrArg (World.drewN _) (Nat.add_assoc _ _ _))⟩))); try go_wp2_with (first | (go_at_call 70; (with_reducible refine (rj_quad.calls k4 a0 (wrap64 (a1 + 8)) 56320 57343 t236 t237 _ A35.out).mono ?_); rintro e w' ⟨rfl, ⟨nd, rfl⟩⟩; (try first | exact ⟨rfl, _, World.drewN_drewN _ _ _⟩ | exact ⟨rfl, _, Eq.trans (World.drewN_drewN _ _ _) (congrArg (World.drewN _) (Nat.add_assoc _ _ _))⟩))))
              go_ret2
              exact ⟨by first | rfl | (simp; done) | (simp [*]; done), by repeat (first | exact Drawn0.refl _ | apply Drawn0.step)⟩
             ·rw [if_neg c36] at H;have c36b0 : decide (t236 < 4) = false := decide_eq_false c36;clear c36;simp only [Option.some.injEq, Prod.mk.injEq] at H;obtain ⟨rfl, rfl⟩ := H;go_wp2_with (first | (go_at_call 70; (with_reducible refine (rj_quad.calls k4 a0 (wrap64 (a1 + 8)) 56320 57343 t236 t237 _ A35.out).mono ?_); rintro e w' ⟨rfl, ⟨nd, rfl⟩⟩; (try first | exact ⟨rfl, _, World.drewN_drewN _ _ _⟩ | exact ⟨rfl, _, Eq.trans (World.drewN_drewN _ _ _) (congrArg (World.drewN _) (Nat.add_assoc _ _ _))⟩)))
              repeat (go_quiet (first | (go_at_call 70; (with_reducible refine (rj_quad.calls k4 a0 (wrap64 (a1 + 8)) 56320 57343 t236 t237 _ A35.out).mono ?_); rintro e w' ⟨rfl, ⟨nd, rfl⟩⟩; (try first | exact ⟨rfl, _, World.drewN_drewN _ _ _⟩ | exact ⟨rfl, _, Eq.trans (World.drewN_drewN _ _ _) (congrArg (World.drewN _) (Nat.add_assoc _ _ _))⟩))); try go_wp2_with (first | (go_at_call 70; (with_reducible refine (rj_quad.calls k4 a0 (wrap64 (a1 + 8)) 56320 57343 t236 t237 _ A35.out).mono ?_); rintro e w' ⟨rfl, ⟨nd, rfl⟩⟩; (try first | exact ⟨rfl, _, World.drewN_drewN _ _ _⟩ | exact ⟨rfl, _, Eq.trans (World.drewN_drewN _ _ _) (congrArg (World.drewN _) (Nat.add_assoc _ _ _))⟩))))
              go_ret2
              exact ⟨by first | rfl | (simp; done) | (simp [*]; done), by repeat (first | exact Drawn0.refl _ | apply Drawn0.step)⟩
end Go.Proofs.YtdhdpidjdadamaaDoor.PX
