-- Printed by this session's program (wip/print/drive.py): Go functions as plain Lean functions, and proofs that the calls come to them.
import Derived.Test.YtdhdpidjdadamaaDoorPx0
import Derived.Test.YtdhdpidjdadamaaDoorPx1
import Derived.Test.YtdhdpidjdadamaaDoorPx2
import Derived.Test.YtdhdpidjdadamaaDoorPx11
import Derived.Test.YtdhdpidjdadamaaDoorPx12
import Derived.Test.YtdhdpidjdadamaaDoorHG
namespace Go.Proofs.YtdhdpidjdadamaaDoor.PX
open Go.RowKit Go.Proofs.YtdhdpidjdadamaaDoorW.PrintWords Go.Proofs.YtdhdpidjdadamaaDoorW.PrintLast Go.Proofs.YtdhdpidjdadamaaDoorW.PrintMore
attribute [local go_sem] max2_int min2_int max_two min_two max_three min_three max_four min_four   -- for this text's walks alone
set_option linter.unusedVariables false
set_option linter.unusedSimpArgs false

attribute [local go_sem high] eqA33
-- BREAK
/-! ### ndjqlaw10_FlexNames: function 7 -/
mutual
def ndjqlaw10_FlexNames.j0 : Nat → ByteArray → Bool → Option (Bool)
  | 0, _, _ => none
  | k + 1, x0, x20 => if x20 = true then ((ndjqlaw10_awake.f k).bind fun t371 => (some t371)) else ((flex_Lex.f k x0).bind fun bt372 => (if 1 + x0.size ≤ 9223372036854775807 then ((flex_Lex.f k ((⟨#[46]⟩ : ByteArray) ++ x0)).bind fun bt377 => ((flex_Lex.f k ((⟨#[36]⟩ : ByteArray) ++ x0)).bind fun bt382 => (if bt372.2.2 = 0 then (if bt377.2.2 = 0 then (if bt382.2.2 = 0 then (if (bt372.1.length : Int) = 2 then (if (bt377.1.length : Int) = 2 then (if (bt382.1.length : Int) = 2 then (ndjqlaw10_FlexNames.j1 k x0 bt372.1 bt377.1 bt382.1 (decide ((x0.size : Int) > 32))) else (ndjqlaw10_FlexNames.j1 k x0 bt372.1 bt377.1 bt382.1 true)) else (ndjqlaw10_FlexNames.j1 k x0 bt372.1 bt377.1 bt382.1 true)) else (ndjqlaw10_FlexNames.j1 k x0 bt372.1 bt377.1 bt382.1 true)) else (ndjqlaw10_FlexNames.j1 k x0 bt372.1 bt377.1 bt382.1 true)) else (ndjqlaw10_FlexNames.j1 k x0 bt372.1 bt377.1 bt382.1 true)) else (ndjqlaw10_FlexNames.j1 k x0 bt372.1 bt377.1 bt382.1 true)))) else (none)))
def ndjqlaw10_FlexNames.j1 : Nat → ByteArray → List (S33) → List (S33) → List (S33) → Bool → Option (Bool)
  | 0, _, _, _, _, _ => none
  | k + 1, x0, x3, x6, x9, x71 => if x71 = true then (some false) else ((flex_Keyword.f x0).bind fun t387 => (if t387 = true then (if 0 < (x3.length : Int) then (if (((rd_T33 x3 0).f0) == 2 && (((rd_T33 x3 0).f1) == 0 && ((((rd_T33 x3 0).f2).toList) == x0.toList && (((rd_T33 x3 0).f3) == 0)))) = true then (if 0 < (x6.length : Int) then (if (((rd_T33 x6 0).f0) == 4 && (((rd_T33 x6 0).f1) == 0 && ((((rd_T33 x6 0).f2).toList) == x0.toList && (((rd_T33 x6 0).f3) == 0)))) = true then (if 0 < (x9.length : Int) then (if (((rd_T33 x9 0).f0) == 3 && (((rd_T33 x9 0).f1) == 0 && ((((rd_T33 x9 0).f2).toList) == x0.toList && (((rd_T33 x9 0).f3) == 0)))) = true then ((ndjqlaw10_awake.f k).bind fun t391 => (some t391)) else (some false)) else (none)) else (some false)) else (none)) else (some false)) else (none)) else (if 0 < (x3.length : Int) then (if (((rd_T33 x3 0).f0) == 1 && (((rd_T33 x3 0).f1) == 0 && ((((rd_T33 x3 0).f2).toList) == x0.toList && (((rd_T33 x3 0).f3) == 0)))) = true then (if 0 < (x6.length : Int) then (if (((rd_T33 x6 0).f0) == 4 && (((rd_T33 x6 0).f1) == 0 && ((((rd_T33 x6 0).f2).toList) == x0.toList && (((rd_T33 x6 0).f3) == 0)))) = true then (if 0 < (x9.length : Int) then (if (((rd_T33 x9 0).f0) == 3 && (((rd_T33 x9 0).f1) == 0 && ((((rd_T33 x9 0).f2).toList) == x0.toList && (((rd_T33 x9 0).f3) == 0)))) = true then ((ndjqlaw10_awake.f k).bind fun t395 => (some t395)) else (some false)) else (none)) else (some false)) else (none)) else (some false)) else (none))))
end
def ndjqlaw10_FlexNames.f (k : Nat) (a0 : ByteArray) : Option (Bool) := if (a0.size : Int) > 50 then (ndjqlaw10_FlexNames.j0 k a0 true) else ((flex_Name.f k a0).bind fun t370 => (ndjqlaw10_FlexNames.j0 k a0 (!t370)))
theorem ndjqlaw10_FlexNames.mono_l : ∀ k, (∀ y0 y1, LeO (ndjqlaw10_FlexNames.j0 k y0 y1) (ndjqlaw10_FlexNames.j0 (k + 1) y0 y1)) ∧ (∀ y0 y1 y2 y3 y4, LeO (ndjqlaw10_FlexNames.j1 k y0 y1 y2 y3 y4) (ndjqlaw10_FlexNames.j1 (k + 1) y0 y1 y2 y3 y4))
  | 0 => ⟨fun _ _ r h => by simp [ndjqlaw10_FlexNames.j0] at h, fun _ _ _ _ _ r h => by simp [ndjqlaw10_FlexNames.j1] at h⟩
  | k + 1 => by
    obtain ⟨ih0, ih1⟩ := ndjqlaw10_FlexNames.mono_l k
    refine ⟨?_, ?_⟩
    · intro y0 y1
      unfold ndjqlaw10_FlexNames.j0
      repeat' first
      | (with_reducible exact ih0 _ _)
      | (with_reducible exact ih1 _ _ _ _ _)
      | (with_reducible exact flex_Lex.mono _ _)
      | (with_reducible exact flex_Name.mono _ _)
      | (with_reducible exact ndjqlaw10_awake.mono _)
      | (with_reducible exact LeO.refl _)
      | (with_reducible exact LeO.none _)
      | (with_reducible refine LeO.ite ?_ ?_)
      | (with_reducible refine LeO.bind ?_ (fun _ => ?_))
      | exact ih0 _ _
      | exact ih1 _ _ _ _ _
      | exact flex_Lex.mono _ _
      | exact flex_Name.mono _ _
      | exact ndjqlaw10_awake.mono _
      | exact LeO.none _
      | refine LeO.ite ?_ ?_
      | refine LeO.bind ?_ (fun _ => ?_)
    · intro y0 y1 y2 y3 y4
      unfold ndjqlaw10_FlexNames.j1
      repeat' first
      | (with_reducible exact ih0 _ _)
      | (with_reducible exact ih1 _ _ _ _ _)
      | (with_reducible exact flex_Lex.mono _ _)
      | (with_reducible exact flex_Name.mono _ _)
      | (with_reducible exact ndjqlaw10_awake.mono _)
      | (with_reducible exact LeO.refl _)
      | (with_reducible exact LeO.none _)
      | (with_reducible refine LeO.ite ?_ ?_)
      | (with_reducible refine LeO.bind ?_ (fun _ => ?_))
      | exact ih0 _ _
      | exact ih1 _ _ _ _ _
      | exact flex_Lex.mono _ _
      | exact flex_Name.mono _ _
      | exact ndjqlaw10_awake.mono _
      | exact LeO.none _
      | refine LeO.ite ?_ ?_
      | refine LeO.bind ?_ (fun _ => ?_)
theorem ndjqlaw10_FlexNames.mono : ∀ a0 k, LeO (ndjqlaw10_FlexNames.f k a0) (ndjqlaw10_FlexNames.f (k + 1) a0) := by
  intro a0 k
  obtain ⟨ih0, ih1⟩ := ndjqlaw10_FlexNames.mono_l k
  unfold ndjqlaw10_FlexNames.f
  repeat' first
      | (with_reducible exact ih0 _ _)
      | (with_reducible exact ih1 _ _ _ _ _)
      | (with_reducible exact flex_Lex.mono _ _)
      | (with_reducible exact flex_Name.mono _ _)
      | (with_reducible exact ndjqlaw10_awake.mono _)
      | (with_reducible exact LeO.refl _)
      | (with_reducible exact LeO.none _)
      | (with_reducible refine LeO.ite ?_ ?_)
      | (with_reducible refine LeO.bind ?_ (fun _ => ?_))
      | exact ih0 _ _
      | exact ih1 _ _ _ _ _
      | exact flex_Lex.mono _ _
      | exact flex_Name.mono _ _
      | exact ndjqlaw10_awake.mono _
      | exact LeO.none _
      | refine LeO.ite ?_ ?_
      | refine LeO.bind ?_ (fun _ => ?_)
set_option maxHeartbeats 8000000 in
set_option maxRecDepth 100000 in
theorem ndjqlaw10_FlexNames.calls (k : Nat) (a0 : ByteArray) (r : Bool) (w : World) (h : ndjqlaw10_FlexNames.f k a0 = some r) (hG0 : GW w) :
    Calls Tryd.prog 7 #[.string a0] w fun e w' => e = .returned (.bool r) ∧ Below w.heap.size w w' := by
  have hu33 := Tryd.underlying33
  have HB := Aside0.mk (Below.refl w.heap.size w)
  have HG := Aside0.mk hG0
  clear hG0
  have H : (if (a0.size : Int) > 50 then (ndjqlaw10_FlexNames.j0 k a0 true) else ((flex_Name.f k a0).bind fun t370 => (ndjqlaw10_FlexNames.j0 k a0 (!t370)))) = some r := h
  clear h
  have HC2 := Aside0.mk H
  clear H
  go_enter Tryd.func7, Tryd.ntmps7
  go_upto_region 1 with (fail)
  go_cut [20] (fun v20 wc => ∃ (kq : Nat) (x20_1 : Bool), v20 = .bool x20_1 ∧ Aside0 (ndjqlaw10_FlexNames.j0 kq a0 x20_1 = some r) ∧ Aside0 (kq ≤ k) ∧ Aside0 (Below w.heap.size w wc))
  case first =>
    have H := HC2.out
    clear HC2
    by_cases c3 : (a0.size : Int) > 50
    · rw [if_pos c3] at H
      have c3b0 : decide (50 < (a0.size : Int)) = true := decide_eq_true c3
      have c3b1 : decide (50 < a0.size) = true := decide_eq_true (by omega)
      clear c3
      (first | rw [c3b0] | (simp only [i64_w, i32_w]; rw [c3b0]) | skip)
      have H' := Aside0.mk H
      clear H
      go_wp2
      go_meet
      case rel => exact ⟨_, (true), (by first | rfl | (simp; done) | (simp [*]; done)), H', ⟨by first | omega | exact Nat.le_refl _⟩, ⟨by repeat (first | (with_reducible first | exact HB.out | apply below_alloc | apply pw_below_drewN | apply below_drew1) | exact HB.out)⟩⟩
    · rw [if_neg c3] at H
      have c3b0 : decide (50 < (a0.size : Int)) = false := decide_eq_false c3
      have c3b1 : decide (50 < a0.size) = false := decide_eq_false (by omega)
      clear c3
      (first | rw [c3b0] | (simp only [i64_w, i32_w]; rw [c3b0]) | skip)
      replace H := Option.bind_eq_some_iff.mp H
      obtain ⟨t370, A40, H⟩ := H
      replace H : (ndjqlaw10_FlexNames.j0 k a0 (!t370)) = some r := H
      have A4 := Aside0.mk A40
      clear A40
      have H' := Aside0.mk H
      clear H
      go_wp2_with (first | (go_at_call 17; (with_reducible refine (flex_Name.calls k a0 t370 _ A4.out).mono ?_); rintro e w' ⟨rfl, ⟨nd, rfl⟩⟩))
      go_meet
      case rel => exact ⟨_, (!t370), (by first | rfl | (simp; done) | (simp [*]; done)), H', ⟨by first | omega | exact Nat.le_refl _⟩, ⟨by repeat (first | (with_reducible first | exact HB.out | apply below_alloc | apply pw_below_drewN | apply below_drew1) | exact HB.out)⟩⟩
  case rest =>
    clear HC2
    try clear p2
    try clear c3
    try clear c3b0
    try clear c3b1
    obtain ⟨kq, x20_1, rfl, HA, HJ1, HB⟩ := hcut
    cases kq with
    | zero => exact absurd HA.out (by simp [ndjqlaw10_FlexNames.j0])
    | succ kj1 =>
      have H := HA.out
      clear HA
      simp only [ndjqlaw10_FlexNames.j0] at H
      by_cases c5 : x20_1 = true
      · subst c5
        have H1 : ((ndjqlaw10_awake.f kj1).bind fun t371 => (some t371)) = some r := by rw [if_pos rfl] at H; exact H
        clear H
        have H := H1
        clear H1
        replace H := Option.bind_eq_some_iff.mp H
        obtain ⟨t371, A60, H⟩ := H
        replace H : (some t371) = some r := H
        have A6 := Aside0.mk A60
        clear A60
        obtain rfl := Option.some.inj H
        go_wp2_with (first | ((with_reducible refine gate_callee (f := 12) rfl ?_); refine goesL_ (some 21) rfl rfl Tryd.func12 (by kernel_rfl) rfl #[] rfl (by (try simp only [List.map_toArray, List.map_cons, List.map_nil]); first | done | rfl | (simp only [List.length_drop, List.length_take]; rfl)) ?_; (with_reducible refine (ndjqlaw10_awake.calls kj1  t371 _ A6.out (by exact GW.at HG.out (by repeat (first | (with_reducible first | exact HB.out | apply below_alloc | apply pw_below_drewN | apply below_drew1) | exact HB.out)))).mono ?_); rintro e w7 ⟨rfl, hb⟩; refine ⟨_, rfl, ?_⟩; have n0_ := Aside0.mk (below_step (by repeat (first | (with_reducible first | exact HB.out | apply below_alloc | apply pw_below_drewN | apply below_drew1) | exact HB.out)) hb); clear HB; have HB := n0_; clear n0_; (try clear hb); (try clear hb2); (try clear hk); (try clear hi)))
        go_ret
        exact ⟨by first | rfl | (simp [errW_none, errW_some] <;> rfl) | (simp [*, errW_none, errW_some] <;> rfl), by repeat (first | (with_reducible first | exact HB.out | apply below_alloc | apply pw_below_drewN | apply below_drew1) | exact HB.out)⟩
      · replace c5 := Bool.eq_false_iff.mpr c5
        subst c5
        have H1 : ((flex_Lex.f kj1 a0).bind fun bt372 => (if 1 + a0.size ≤ 9223372036854775807 then ((flex_Lex.f kj1 ((⟨#[46]⟩ : ByteArray) ++ a0)).bind fun bt377 => ((flex_Lex.f kj1 ((⟨#[36]⟩ : ByteArray) ++ a0)).bind fun bt382 => (if bt372.2.2 = 0 then (if bt377.2.2 = 0 then (if bt382.2.2 = 0 then (if (bt372.1.length : Int) = 2 then (if (bt377.1.length : Int) = 2 then (if (bt382.1.length : Int) = 2 then (ndjqlaw10_FlexNames.j1 kj1 a0 bt372.1 bt377.1 bt382.1 (decide ((a0.size : Int) > 32))) else (ndjqlaw10_FlexNames.j1 kj1 a0 bt372.1 bt377.1 bt382.1 true)) else (ndjqlaw10_FlexNames.j1 kj1 a0 bt372.1 bt377.1 bt382.1 true)) else (ndjqlaw10_FlexNames.j1 kj1 a0 bt372.1 bt377.1 bt382.1 true)) else (ndjqlaw10_FlexNames.j1 kj1 a0 bt372.1 bt377.1 bt382.1 true)) else (ndjqlaw10_FlexNames.j1 kj1 a0 bt372.1 bt377.1 bt382.1 true)) else (ndjqlaw10_FlexNames.j1 kj1 a0 bt372.1 bt377.1 bt382.1 true)))) else (none))) = some r := by rw [if_neg (show ¬ (false = true) by decide)] at H; exact H
        clear H
        have H := H1
        clear H1
        replace H := Option.bind_eq_some_iff.mp H
        obtain ⟨⟨t372, t373, t374⟩, A80, H⟩ := H
        replace H : (if 1 + a0.size ≤ 9223372036854775807 then ((flex_Lex.f kj1 ((⟨#[46]⟩ : ByteArray) ++ a0)).bind fun bt377 => ((flex_Lex.f kj1 ((⟨#[36]⟩ : ByteArray) ++ a0)).bind fun bt382 => (if t374 = 0 then (if bt377.2.2 = 0 then (if bt382.2.2 = 0 then (if (t372.length : Int) = 2 then (if (bt377.1.length : Int) = 2 then (if (bt382.1.length : Int) = 2 then (ndjqlaw10_FlexNames.j1 kj1 a0 t372 bt377.1 bt382.1 (decide ((a0.size : Int) > 32))) else (ndjqlaw10_FlexNames.j1 kj1 a0 t372 bt377.1 bt382.1 true)) else (ndjqlaw10_FlexNames.j1 kj1 a0 t372 bt377.1 bt382.1 true)) else (ndjqlaw10_FlexNames.j1 kj1 a0 t372 bt377.1 bt382.1 true)) else (ndjqlaw10_FlexNames.j1 kj1 a0 t372 bt377.1 bt382.1 true)) else (ndjqlaw10_FlexNames.j1 kj1 a0 t372 bt377.1 bt382.1 true)) else (ndjqlaw10_FlexNames.j1 kj1 a0 t372 bt377.1 bt382.1 true)))) else (none)) = some r := H
        have A8 := Aside0.mk A80
        clear A80
        by_cases c9 : 1 + a0.size ≤ 9223372036854775807
        · rw [if_pos c9] at H
          have c9b0 := eq_true c9
          have c9b1 : decide (1 + a0.size ≤ 9223372036854775807) = true := decide_eq_true c9
          try have c9b2 : (9223372036854775807 < 1 + a0.size) = False := eq_false (Nat.not_lt.2 c9)
          replace H := Option.bind_eq_some_iff.mp H
          obtain ⟨⟨t377, t378, t379⟩, A100, H⟩ := H
          replace H : ((flex_Lex.f kj1 ((⟨#[36]⟩ : ByteArray) ++ a0)).bind fun bt382 => (if t374 = 0 then (if t379 = 0 then (if bt382.2.2 = 0 then (if (t372.length : Int) = 2 then (if (t377.length : Int) = 2 then (if (bt382.1.length : Int) = 2 then (ndjqlaw10_FlexNames.j1 kj1 a0 t372 t377 bt382.1 (decide ((a0.size : Int) > 32))) else (ndjqlaw10_FlexNames.j1 kj1 a0 t372 t377 bt382.1 true)) else (ndjqlaw10_FlexNames.j1 kj1 a0 t372 t377 bt382.1 true)) else (ndjqlaw10_FlexNames.j1 kj1 a0 t372 t377 bt382.1 true)) else (ndjqlaw10_FlexNames.j1 kj1 a0 t372 t377 bt382.1 true)) else (ndjqlaw10_FlexNames.j1 kj1 a0 t372 t377 bt382.1 true)) else (ndjqlaw10_FlexNames.j1 kj1 a0 t372 t377 bt382.1 true))) = some r := H
          have A10 := Aside0.mk A100
          clear A100
          replace H := Option.bind_eq_some_iff.mp H
          obtain ⟨⟨t382, t383, t384⟩, A110, H⟩ := H
          replace H : (if t374 = 0 then (if t379 = 0 then (if t384 = 0 then (if (t372.length : Int) = 2 then (if (t377.length : Int) = 2 then (if (t382.length : Int) = 2 then (ndjqlaw10_FlexNames.j1 kj1 a0 t372 t377 t382 (decide ((a0.size : Int) > 32))) else (ndjqlaw10_FlexNames.j1 kj1 a0 t372 t377 t382 true)) else (ndjqlaw10_FlexNames.j1 kj1 a0 t372 t377 t382 true)) else (ndjqlaw10_FlexNames.j1 kj1 a0 t372 t377 t382 true)) else (ndjqlaw10_FlexNames.j1 kj1 a0 t372 t377 t382 true)) else (ndjqlaw10_FlexNames.j1 kj1 a0 t372 t377 t382 true)) else (ndjqlaw10_FlexNames.j1 kj1 a0 t372 t377 t382 true)) = some r := H
          have A11 := Aside0.mk A110
          clear A110
          have HC12 := Aside0.mk H
          clear H
          go_upto_region 6 with (first | ((with_reducible refine gate_callee (f := 9) rfl ?_); refine goesL_ (some 24) rfl rfl Tryd.func9 (by kernel_rfl) rfl #[.string a0] rfl (by (try simp only [List.map_toArray, List.map_cons, List.map_nil]); first | done | rfl | (simp only [List.length_drop, List.length_take]; rfl)) ?_; (with_reducible refine (flex_Lex.calls kj1 a0 t372 t373 t374 _ A8.out (by exact GW.at HG.out (by repeat (first | (with_reducible first | exact HB.out | apply below_alloc | apply pw_below_drewN | apply below_drew1) | exact HB.out)))).mono ?_); rintro e w13 ⟨v375, rfl, ho0, hb⟩; refine ⟨_, rfl, ?_⟩; have n0_ := Aside0.mk (Kd.R_lower ho0 (below_size (by repeat (first | (with_reducible first | exact HB.out | apply below_alloc | apply pw_below_drewN | apply below_drew1) | exact HB.out)))); have n1_ := Aside0.mk (below_step (by repeat (first | (with_reducible first | exact HB.out | apply below_alloc | apply pw_below_drewN | apply below_drew1) | exact HB.out)) hb); clear HB; have HO376 := n0_; have HB := n1_; clear n0_ n1_; (try clear hb); (try clear hb2); (try clear hk); (try clear hi); (try clear ho0)) | ((with_reducible refine gate_callee (f := 9) rfl ?_); refine goesL_ (some 31) rfl rfl Tryd.func9 (by kernel_rfl) rfl #[.string ((⟨#[46]⟩ : ByteArray) ++ a0)] rfl (by (try simp only [List.map_toArray, List.map_cons, List.map_nil]); first | done | rfl | (simp only [List.length_drop, List.length_take]; rfl)) ?_; (with_reducible refine (flex_Lex.calls kj1 ((⟨#[46]⟩ : ByteArray) ++ a0) t377 t378 t379 _ A10.out (by exact GW.at HG.out (by repeat (first | (with_reducible first | exact HB.out | apply below_alloc | apply pw_below_drewN | apply below_drew1) | exact HB.out)))).mono ?_); rintro e w14 ⟨v380, rfl, ho0, hb⟩; refine ⟨_, rfl, ?_⟩; have n0_ := Aside0.mk (Kd.R_elder' (by (with_reducible repeat (first | apply Kd.R_alloc | apply Kd.R_drewN | apply Kd.R_drew)); exact HO376.out) (Kd.R_base ho0) hb); have n1_ := Aside0.mk (Kd.R_lower (Kd.R_new' ho0 (Kd.R_lt (by (with_reducible repeat (first | apply Kd.R_alloc | apply Kd.R_drewN | apply Kd.R_drew)); exact HO376.out))) (below_size (by repeat (first | (with_reducible first | exact HB.out | apply below_alloc | apply pw_below_drewN | apply below_drew1) | exact HB.out)))); have n2_ := Aside0.mk (below_step (by repeat (first | (with_reducible first | exact HB.out | apply below_alloc | apply pw_below_drewN | apply below_drew1) | exact HB.out)) hb); clear HO376; clear HB; have HO376 := n0_; have HO381 := n1_; have HB := n2_; clear n0_ n1_ n2_; (try clear hb); (try clear hb2); (try clear hk); (try clear hi); (try clear ho0)) | ((with_reducible refine gate_callee (f := 9) rfl ?_); refine goesL_ (some 38) rfl rfl Tryd.func9 (by kernel_rfl) rfl #[.string ((⟨#[36]⟩ : ByteArray) ++ a0)] rfl (by (try simp only [List.map_toArray, List.map_cons, List.map_nil]); first | done | rfl | (simp only [List.length_drop, List.length_take]; rfl)) ?_; (with_reducible refine (flex_Lex.calls kj1 ((⟨#[36]⟩ : ByteArray) ++ a0) t382 t383 t384 _ A11.out (by exact GW.at HG.out (by repeat (first | (with_reducible first | exact HB.out | apply below_alloc | apply pw_below_drewN | apply below_drew1) | exact HB.out)))).mono ?_); rintro e w15 ⟨v385, rfl, ho0, hb⟩; refine ⟨_, rfl, ?_⟩; have n0_ := Aside0.mk (Kd.R_elder' (by (with_reducible repeat (first | apply Kd.R_alloc | apply Kd.R_drewN | apply Kd.R_drew)); exact HO376.out) (Kd.R_base ho0) hb); have n1_ := Aside0.mk (Kd.R_elder' (by (with_reducible repeat (first | apply Kd.R_alloc | apply Kd.R_drewN | apply Kd.R_drew)); exact HO381.out) (Kd.R_base ho0) hb); have n2_ := Aside0.mk (Kd.R_lower (Kd.R_new' (Kd.R_new' ho0 (Kd.R_lt (by (with_reducible repeat (first | apply Kd.R_alloc | apply Kd.R_drewN | apply Kd.R_drew)); exact HO376.out))) (Kd.R_lt (by (with_reducible repeat (first | apply Kd.R_alloc | apply Kd.R_drewN | apply Kd.R_drew)); exact HO381.out))) (below_size (by repeat (first | (with_reducible first | exact HB.out | apply below_alloc | apply pw_below_drewN | apply below_drew1) | exact HB.out)))); have n3_ := Aside0.mk (below_step (by repeat (first | (with_reducible first | exact HB.out | apply below_alloc | apply pw_below_drewN | apply below_drew1) | exact HB.out)) hb); clear HO376; clear HO381; clear HB; have HO376 := n0_; have HO381 := n1_; have HO386 := n2_; have HB := n3_; clear n0_ n1_ n2_ n3_; (try clear hb); (try clear hb2); (try clear hk); (try clear hi); (try clear ho0)))
          (try simp only [Act.put, List.setIfInBounds_toArray, List.set_cons_zero, List.set_cons_succ])
          go_cut [71] (fun v71 wc => ∃ (kq : Nat) (x71_11 : Bool), v71 = .bool x71_11 ∧ Aside0 (ndjqlaw10_FlexNames.j1 kq a0 t372 t377 t382 x71_11 = some r) ∧ Aside0 (kq ≤ kj1) ∧ Aside0 (Kd.R k33 33 wc w.heap.size (fun k_ => some k_ ≠ (v380 : Value).ownBlock ∧ some k_ ≠ (v385 : Value).ownBlock) v375 t372) ∧ Aside0 (Kd.R k33 33 wc w.heap.size (fun k_ => some k_ ≠ (v375 : Value).ownBlock ∧ some k_ ≠ (v385 : Value).ownBlock) v380 t377) ∧ Aside0 (Kd.R k33 33 wc w.heap.size (fun k_ => some k_ ≠ (v375 : Value).ownBlock ∧ some k_ ≠ (v380 : Value).ownBlock) v385 t382) ∧ Aside0 (Below w.heap.size w wc))
          case first =>
            have H := HC12.out
            clear HC12
            by_cases c16 : t374 = 0
            · rw [if_pos c16] at H
              have c16b0 : (t374 == 0) = true := beq_iff_eq.mpr c16
              have c16b1 : (t374 != 0) = false := bne_eq_false_iff_eq.mpr c16
              clear c16
              (first | rw [c16b0] | (simp only [i64_w, i32_w]; rw [c16b0]) | skip)
              by_cases c17 : t379 = 0
              · rw [if_pos c17] at H
                have c17b0 : (t379 == 0) = true := beq_iff_eq.mpr c17
                have c17b1 : (t379 != 0) = false := bne_eq_false_iff_eq.mpr c17
                clear c17
                by_cases c18 : t384 = 0
                · rw [if_pos c18] at H
                  have c18b0 : (t384 == 0) = true := beq_iff_eq.mpr c18
                  have c18b1 : (t384 != 0) = false := bne_eq_false_iff_eq.mpr c18
                  clear c18
                  by_cases c19 : (t372.length : Int) = 2
                  · rw [if_pos c19] at H
                    have c19b0 : ((t372.length : Int) == 2) = true := beq_iff_eq.mpr c19
                    have c19b1 : ((t372.length : Int) != 2) = false := bne_eq_false_iff_eq.mpr c19
                    clear c19
                    by_cases c20 : (t377.length : Int) = 2
                    · rw [if_pos c20] at H
                      have c20b0 : ((t377.length : Int) == 2) = true := beq_iff_eq.mpr c20
                      have c20b1 : ((t377.length : Int) != 2) = false := bne_eq_false_iff_eq.mpr c20
                      clear c20
                      by_cases c21 : (t382.length : Int) = 2
                      · rw [if_pos c21] at H
                        have c21b0 : ((t382.length : Int) == 2) = true := beq_iff_eq.mpr c21
                        have c21b1 : ((t382.length : Int) != 2) = false := bne_eq_false_iff_eq.mpr c21
                        clear c21
                        have H' := Aside0.mk H
                        clear H
                        obtain ⟨Ao22, co22, eo22⟩ := Kd.R_slice HO376.out
                        subst eo22
                        obtain ⟨Ao23, co23, eo23⟩ := Kd.R_slice HO381.out
                        subst eo23
                        obtain ⟨Ao24, co24, eo24⟩ := Kd.R_slice HO386.out
                        subst eo24
                        go_wp2
                        go_meet
                        case rel => exact ⟨_, (decide ((a0.size : Int) > 32)), (by first | rfl | (simp; done) | (simp [*]; done)), H', ⟨by have := HJ1.out; first | omega | exact Nat.le_refl _⟩, ⟨by (with_reducible repeat (first | apply Kd.R_alloc | apply Kd.R_drewN | apply Kd.R_drew)); exact Kd.R_mono HO376.out (fun _ hk => ⟨hk.1.2, hk.2⟩)⟩, ⟨by (with_reducible repeat (first | apply Kd.R_alloc | apply Kd.R_drewN | apply Kd.R_drew)); exact Kd.R_mono HO381.out (fun _ hk => ⟨hk.1.2, hk.2⟩)⟩, ⟨by (with_reducible repeat (first | apply Kd.R_alloc | apply Kd.R_drewN | apply Kd.R_drew)); exact Kd.R_mono HO386.out (fun _ hk => ⟨hk.1.2, hk.2⟩)⟩, ⟨by repeat (first | (with_reducible first | exact HB.out | apply below_alloc | apply pw_below_drewN | apply below_drew1) | exact HB.out)⟩⟩
                      · rw [if_neg c21] at H
                        have c21b0 : ((t382.length : Int) == 2) = false := beq_eq_false_iff_ne.mpr c21
                        have c21b1 : ((t382.length : Int) != 2) = true := bne_iff_ne.mpr c21
                        have H' := Aside0.mk H
                        clear H
                        obtain ⟨Ao25, co25, eo25⟩ := Kd.R_slice HO376.out
                        subst eo25
                        obtain ⟨Ao26, co26, eo26⟩ := Kd.R_slice HO381.out
                        subst eo26
                        obtain ⟨Ao27, co27, eo27⟩ := Kd.R_slice HO386.out
                        subst eo27
                        go_wp2
                        go_meet
                        case rel => exact ⟨_, (true), (by first | rfl | (simp; done) | (simp [*]; done)), H', ⟨by have := HJ1.out; first | omega | exact Nat.le_refl _⟩, ⟨by (with_reducible repeat (first | apply Kd.R_alloc | apply Kd.R_drewN | apply Kd.R_drew)); exact Kd.R_mono HO376.out (fun _ hk => ⟨hk.1.2, hk.2⟩)⟩, ⟨by (with_reducible repeat (first | apply Kd.R_alloc | apply Kd.R_drewN | apply Kd.R_drew)); exact Kd.R_mono HO381.out (fun _ hk => ⟨hk.1.2, hk.2⟩)⟩, ⟨by (with_reducible repeat (first | apply Kd.R_alloc | apply Kd.R_drewN | apply Kd.R_drew)); exact Kd.R_mono HO386.out (fun _ hk => ⟨hk.1.2, hk.2⟩)⟩, ⟨by repeat (first | (with_reducible first | exact HB.out | apply below_alloc | apply pw_below_drewN | apply below_drew1) | exact HB.out)⟩⟩
                    · rw [if_neg c20] at H
                      have c20b0 : ((t377.length : Int) == 2) = false := beq_eq_false_iff_ne.mpr c20
                      have c20b1 : ((t377.length : Int) != 2) = true := bne_iff_ne.mpr c20
                      have H' := Aside0.mk H
                      clear H
                      obtain ⟨Ao28, co28, eo28⟩ := Kd.R_slice HO376.out
                      subst eo28
                      obtain ⟨Ao29, co29, eo29⟩ := Kd.R_slice HO381.out
                      subst eo29
                      go_wp2
                      go_meet
                      case rel => exact ⟨_, (true), (by first | rfl | (simp; done) | (simp [*]; done)), H', ⟨by have := HJ1.out; first | omega | exact Nat.le_refl _⟩, ⟨by (with_reducible repeat (first | apply Kd.R_alloc | apply Kd.R_drewN | apply Kd.R_drew)); exact Kd.R_mono HO376.out (fun _ hk => ⟨hk.1.2, hk.2⟩)⟩, ⟨by (with_reducible repeat (first | apply Kd.R_alloc | apply Kd.R_drewN | apply Kd.R_drew)); exact Kd.R_mono HO381.out (fun _ hk => ⟨hk.1.2, hk.2⟩)⟩, ⟨by (with_reducible repeat (first | apply Kd.R_alloc | apply Kd.R_drewN | apply Kd.R_drew)); exact Kd.R_mono HO386.out (fun _ hk => ⟨hk.1.2, hk.2⟩)⟩, ⟨by repeat (first | (with_reducible first | exact HB.out | apply below_alloc | apply pw_below_drewN | apply below_drew1) | exact HB.out)⟩⟩
                  · rw [if_neg c19] at H
                    have c19b0 : ((t372.length : Int) == 2) = false := beq_eq_false_iff_ne.mpr c19
                    have c19b1 : ((t372.length : Int) != 2) = true := bne_iff_ne.mpr c19
                    have H' := Aside0.mk H
                    clear H
                    obtain ⟨Ao30, co30, eo30⟩ := Kd.R_slice HO376.out
                    subst eo30
                    go_wp2
                    go_meet
                    case rel => exact ⟨_, (true), (by first | rfl | (simp; done) | (simp [*]; done)), H', ⟨by have := HJ1.out; first | omega | exact Nat.le_refl _⟩, ⟨by (with_reducible repeat (first | apply Kd.R_alloc | apply Kd.R_drewN | apply Kd.R_drew)); exact Kd.R_mono HO376.out (fun _ hk => ⟨hk.1.2, hk.2⟩)⟩, ⟨by (with_reducible repeat (first | apply Kd.R_alloc | apply Kd.R_drewN | apply Kd.R_drew)); exact Kd.R_mono HO381.out (fun _ hk => ⟨hk.1.2, hk.2⟩)⟩, ⟨by (with_reducible repeat (first | apply Kd.R_alloc | apply Kd.R_drewN | apply Kd.R_drew)); exact Kd.R_mono HO386.out (fun _ hk => ⟨hk.1.2, hk.2⟩)⟩, ⟨by repeat (first | (with_reducible first | exact HB.out | apply below_alloc | apply pw_below_drewN | apply below_drew1) | exact HB.out)⟩⟩
                · rw [if_neg c18] at H
                  have c18b0 : (t384 == 0) = false := beq_eq_false_iff_ne.mpr c18
                  have c18b1 : (t384 != 0) = true := bne_iff_ne.mpr c18
                  have H' := Aside0.mk H
                  clear H
                  go_wp2
                  go_meet
                  case rel => exact ⟨_, (true), (by first | rfl | (simp; done) | (simp [*]; done)), H', ⟨by have := HJ1.out; first | omega | exact Nat.le_refl _⟩, ⟨by (with_reducible repeat (first | apply Kd.R_alloc | apply Kd.R_drewN | apply Kd.R_drew)); exact Kd.R_mono HO376.out (fun _ hk => ⟨hk.1.2, hk.2⟩)⟩, ⟨by (with_reducible repeat (first | apply Kd.R_alloc | apply Kd.R_drewN | apply Kd.R_drew)); exact Kd.R_mono HO381.out (fun _ hk => ⟨hk.1.2, hk.2⟩)⟩, ⟨by (with_reducible repeat (first | apply Kd.R_alloc | apply Kd.R_drewN | apply Kd.R_drew)); exact Kd.R_mono HO386.out (fun _ hk => ⟨hk.1.2, hk.2⟩)⟩, ⟨by repeat (first | (with_reducible first | exact HB.out | apply below_alloc | apply pw_below_drewN | apply below_drew1) | exact HB.out)⟩⟩
              · rw [if_neg c17] at H
                have c17b0 : (t379 == 0) = false := beq_eq_false_iff_ne.mpr c17
                have c17b1 : (t379 != 0) = true := bne_iff_ne.mpr c17
                have H' := Aside0.mk H
                clear H
                go_wp2
                go_meet
                case rel => exact ⟨_, (true), (by first | rfl | (simp; done) | (simp [*]; done)), H', ⟨by have := HJ1.out; first | omega | exact Nat.le_refl _⟩, ⟨by (with_reducible repeat (first | apply Kd.R_alloc | apply Kd.R_drewN | apply Kd.R_drew)); exact Kd.R_mono HO376.out (fun _ hk => ⟨hk.1.2, hk.2⟩)⟩, ⟨by (with_reducible repeat (first | apply Kd.R_alloc | apply Kd.R_drewN | apply Kd.R_drew)); exact Kd.R_mono HO381.out (fun _ hk => ⟨hk.1.2, hk.2⟩)⟩, ⟨by (with_reducible repeat (first | apply Kd.R_alloc | apply Kd.R_drewN | apply Kd.R_drew)); exact Kd.R_mono HO386.out (fun _ hk => ⟨hk.1.2, hk.2⟩)⟩, ⟨by repeat (first | (with_reducible first | exact HB.out | apply below_alloc | apply pw_below_drewN | apply below_drew1) | exact HB.out)⟩⟩
            · rw [if_neg c16] at H
              have c16b0 : (t374 == 0) = false := beq_eq_false_iff_ne.mpr c16
              have c16b1 : (t374 != 0) = true := bne_iff_ne.mpr c16
              (first | rw [c16b0] | (simp only [i64_w, i32_w]; rw [c16b0]) | skip)
              have H' := Aside0.mk H
              clear H
              go_wp2
              go_meet
              case rel => exact ⟨_, (true), (by first | rfl | (simp; done) | (simp [*]; done)), H', ⟨by have := HJ1.out; first | omega | exact Nat.le_refl _⟩, ⟨by (with_reducible repeat (first | apply Kd.R_alloc | apply Kd.R_drewN | apply Kd.R_drew)); exact Kd.R_mono HO376.out (fun _ hk => ⟨hk.1.2, hk.2⟩)⟩, ⟨by (with_reducible repeat (first | apply Kd.R_alloc | apply Kd.R_drewN | apply Kd.R_drew)); exact Kd.R_mono HO381.out (fun _ hk => ⟨hk.1.2, hk.2⟩)⟩, ⟨by (with_reducible repeat (first | apply Kd.R_alloc | apply Kd.R_drewN | apply Kd.R_drew)); exact Kd.R_mono HO386.out (fun _ hk => ⟨hk.1.2, hk.2⟩)⟩, ⟨by repeat (first | (with_reducible first | exact HB.out | apply below_alloc | apply pw_below_drewN | apply below_drew1) | exact HB.out)⟩⟩
          case rest =>
            clear HC12
            try clear c1
            try clear c2
            try clear p2
            try clear c3
            try clear c3b0
            try clear c3b1
            try clear c5
            try clear c7
            try clear c9
            try clear c9b0
            try clear c9b1
            try clear c9b2
            try clear c12
            try clear c16
            try clear c16b0
            try clear c16b1
            try clear c17
            try clear c17b0
            try clear c17b1
            try clear c18
            try clear c18b0
            try clear c18b1
            try clear c19
            try clear c19b0
            try clear c19b1
            try clear c20
            try clear c20b0
            try clear c20b1
            try clear c21
            try clear c21b0
            try clear c21b1
            try clear p2
            obtain ⟨kq, x71_11, rfl, HA, HJ11, HO_3, HO_6, HO_9, HB⟩ := hcut
            cases kq with
            | zero => exact absurd HA.out (by simp [ndjqlaw10_FlexNames.j1])
            | succ kj11 =>
              have H := HA.out
              clear HA
              simp only [ndjqlaw10_FlexNames.j1] at H
              by_cases c31 : x71_11 = true
              · subst c31
                have H1 : (some false) = some r := by rw [if_pos rfl] at H; exact H
                clear H
                have H := H1
                clear H1
                obtain rfl := Option.some.inj H
                go_wp2
                go_ret
                exact ⟨by first | rfl | (simp [errW_none, errW_some] <;> rfl) | (simp [*, errW_none, errW_some] <;> rfl), by repeat (first | (with_reducible first | exact HB.out | apply below_alloc | apply pw_below_drewN | apply below_drew1) | exact HB.out)⟩
              · replace c31 := Bool.eq_false_iff.mpr c31
                subst c31
                have H1 : ((flex_Keyword.f a0).bind fun t387 => (if t387 = true then (if 0 < (t372.length : Int) then (if (((rd_T33 t372 0).f0) == 2 && (((rd_T33 t372 0).f1) == 0 && ((((rd_T33 t372 0).f2).toList) == a0.toList && (((rd_T33 t372 0).f3) == 0)))) = true then (if 0 < (t377.length : Int) then (if (((rd_T33 t377 0).f0) == 4 && (((rd_T33 t377 0).f1) == 0 && ((((rd_T33 t377 0).f2).toList) == a0.toList && (((rd_T33 t377 0).f3) == 0)))) = true then (if 0 < (t382.length : Int) then (if (((rd_T33 t382 0).f0) == 3 && (((rd_T33 t382 0).f1) == 0 && ((((rd_T33 t382 0).f2).toList) == a0.toList && (((rd_T33 t382 0).f3) == 0)))) = true then ((ndjqlaw10_awake.f kj11).bind fun t391 => (some t391)) else (some false)) else (none)) else (some false)) else (none)) else (some false)) else (none)) else (if 0 < (t372.length : Int) then (if (((rd_T33 t372 0).f0) == 1 && (((rd_T33 t372 0).f1) == 0 && ((((rd_T33 t372 0).f2).toList) == a0.toList && (((rd_T33 t372 0).f3) == 0)))) = true then (if 0 < (t377.length : Int) then (if (((rd_T33 t377 0).f0) == 4 && (((rd_T33 t377 0).f1) == 0 && ((((rd_T33 t377 0).f2).toList) == a0.toList && (((rd_T33 t377 0).f3) == 0)))) = true then (if 0 < (t382.length : Int) then (if (((rd_T33 t382 0).f0) == 3 && (((rd_T33 t382 0).f1) == 0 && ((((rd_T33 t382 0).f2).toList) == a0.toList && (((rd_T33 t382 0).f3) == 0)))) = true then ((ndjqlaw10_awake.f kj11).bind fun t395 => (some t395)) else (some false)) else (none)) else (some false)) else (none)) else (some false)) else (none)))) = some r := by rw [if_neg (show ¬ (false = true) by decide)] at H; exact H
                clear H
                have H := H1
                clear H1
                replace H := Option.bind_eq_some_iff.mp H
                obtain ⟨t387, A320, H⟩ := H
                replace H : (if t387 = true then (if 0 < (t372.length : Int) then (if (((rd_T33 t372 0).f0) == 2 && (((rd_T33 t372 0).f1) == 0 && ((((rd_T33 t372 0).f2).toList) == a0.toList && (((rd_T33 t372 0).f3) == 0)))) = true then (if 0 < (t377.length : Int) then (if (((rd_T33 t377 0).f0) == 4 && (((rd_T33 t377 0).f1) == 0 && ((((rd_T33 t377 0).f2).toList) == a0.toList && (((rd_T33 t377 0).f3) == 0)))) = true then (if 0 < (t382.length : Int) then (if (((rd_T33 t382 0).f0) == 3 && (((rd_T33 t382 0).f1) == 0 && ((((rd_T33 t382 0).f2).toList) == a0.toList && (((rd_T33 t382 0).f3) == 0)))) = true then ((ndjqlaw10_awake.f kj11).bind fun t391 => (some t391)) else (some false)) else (none)) else (some false)) else (none)) else (some false)) else (none)) else (if 0 < (t372.length : Int) then (if (((rd_T33 t372 0).f0) == 1 && (((rd_T33 t372 0).f1) == 0 && ((((rd_T33 t372 0).f2).toList) == a0.toList && (((rd_T33 t372 0).f3) == 0)))) = true then (if 0 < (t377.length : Int) then (if (((rd_T33 t377 0).f0) == 4 && (((rd_T33 t377 0).f1) == 0 && ((((rd_T33 t377 0).f2).toList) == a0.toList && (((rd_T33 t377 0).f3) == 0)))) = true then (if 0 < (t382.length : Int) then (if (((rd_T33 t382 0).f0) == 3 && (((rd_T33 t382 0).f1) == 0 && ((((rd_T33 t382 0).f2).toList) == a0.toList && (((rd_T33 t382 0).f3) == 0)))) = true then ((ndjqlaw10_awake.f kj11).bind fun t395 => (some t395)) else (some false)) else (none)) else (some false)) else (none)) else (some false)) else (none))) = some r := H
                have A32 := Aside0.mk A320
                clear A320
                by_cases c33 : t387 = true
                · subst c33
                  have H1 : (if 0 < (t372.length : Int) then (if (((rd_T33 t372 0).f0) == 2 && (((rd_T33 t372 0).f1) == 0 && ((((rd_T33 t372 0).f2).toList) == a0.toList && (((rd_T33 t372 0).f3) == 0)))) = true then (if 0 < (t377.length : Int) then (if (((rd_T33 t377 0).f0) == 4 && (((rd_T33 t377 0).f1) == 0 && ((((rd_T33 t377 0).f2).toList) == a0.toList && (((rd_T33 t377 0).f3) == 0)))) = true then (if 0 < (t382.length : Int) then (if (((rd_T33 t382 0).f0) == 3 && (((rd_T33 t382 0).f1) == 0 && ((((rd_T33 t382 0).f2).toList) == a0.toList && (((rd_T33 t382 0).f3) == 0)))) = true then ((ndjqlaw10_awake.f kj11).bind fun t391 => (some t391)) else (some false)) else (none)) else (some false)) else (none)) else (some false)) else (none)) = some r := by rw [if_pos rfl] at H; exact H
                  clear H
                  have H := H1
                  clear H1
                  by_cases c34 : 0 < (t372.length : Int)
                  · rw [if_pos c34] at H
                    have c34b0 : decide (0 < (t372.length : Int)) = true := decide_eq_true c34
                    have c34b1 : decide (0 < t372.length) = true := decide_eq_true (by omega)
                    clear c34
                    by_cases c35 : (((rd_T33 t372 0).f0) == 2 && (((rd_T33 t372 0).f1) == 0 && ((((rd_T33 t372 0).f2).toList) == a0.toList && (((rd_T33 t372 0).f3) == 0)))) = true
                    · rw [if_pos c35] at H
                      have c35b0 : (((rd_T33 t372 0).f0) == 2 && (((rd_T33 t372 0).f1) == 0 && ((((rd_T33 t372 0).f2).toList) == a0.toList && (((rd_T33 t372 0).f3) == 0)))) = true := c35
                      (try (have c35b1 : decide (((rd_T33 t372 0).f0) = 2 && (((rd_T33 t372 0).f1) == 0 && ((((rd_T33 t372 0).f2).toList) == a0.toList && (((rd_T33 t372 0).f3) == 0)))) = true := by simpa using c35))
                      (try (have c35b2 : (((rd_T33 t372 0).f0) == 2 && (((rd_T33 t372 0).f1) == 0 && ((((rd_T33 t372 0).f2).toList) == a0.toList && (((rd_T33 t372 0).f3) == 0)))) = true := by simpa using c35))
                      clear c35
                      by_cases c36 : 0 < (t377.length : Int)
                      · rw [if_pos c36] at H
                        have c36b0 : decide (0 < (t377.length : Int)) = true := decide_eq_true c36
                        have c36b1 : decide (0 < t377.length) = true := decide_eq_true (by omega)
                        clear c36
                        by_cases c37 : (((rd_T33 t377 0).f0) == 4 && (((rd_T33 t377 0).f1) == 0 && ((((rd_T33 t377 0).f2).toList) == a0.toList && (((rd_T33 t377 0).f3) == 0)))) = true
                        · rw [if_pos c37] at H
                          have c37b0 : (((rd_T33 t377 0).f0) == 4 && (((rd_T33 t377 0).f1) == 0 && ((((rd_T33 t377 0).f2).toList) == a0.toList && (((rd_T33 t377 0).f3) == 0)))) = true := c37
                          (try (have c37b1 : decide (((rd_T33 t377 0).f0) = 4 && (((rd_T33 t377 0).f1) == 0 && ((((rd_T33 t377 0).f2).toList) == a0.toList && (((rd_T33 t377 0).f3) == 0)))) = true := by simpa using c37))
                          (try (have c37b2 : (((rd_T33 t377 0).f0) == 4 && (((rd_T33 t377 0).f1) == 0 && ((((rd_T33 t377 0).f2).toList) == a0.toList && (((rd_T33 t377 0).f3) == 0)))) = true := by simpa using c37))
                          clear c37
                          by_cases c38 : 0 < (t382.length : Int)
                          · rw [if_pos c38] at H
                            have c38b0 : decide (0 < (t382.length : Int)) = true := decide_eq_true c38
                            have c38b1 : decide (0 < t382.length) = true := decide_eq_true (by omega)
                            clear c38
                            by_cases c39 : (((rd_T33 t382 0).f0) == 3 && (((rd_T33 t382 0).f1) == 0 && ((((rd_T33 t382 0).f2).toList) == a0.toList && (((rd_T33 t382 0).f3) == 0)))) = true
                            · rw [if_pos c39] at H
                              have c39b0 : (((rd_T33 t382 0).f0) == 3 && (((rd_T33 t382 0).f1) == 0 && ((((rd_T33 t382 0).f2).toList) == a0.toList && (((rd_T33 t382 0).f3) == 0)))) = true := c39
                              (try (have c39b1 : decide (((rd_T33 t382 0).f0) = 3 && (((rd_T33 t382 0).f1) == 0 && ((((rd_T33 t382 0).f2).toList) == a0.toList && (((rd_T33 t382 0).f3) == 0)))) = true := by simpa using c39))
                              (try (have c39b2 : (((rd_T33 t382 0).f0) == 3 && (((rd_T33 t382 0).f1) == 0 && ((((rd_T33 t382 0).f2).toList) == a0.toList && (((rd_T33 t382 0).f3) == 0)))) = true := by simpa using c39))
                              clear c39
                              replace H := Option.bind_eq_some_iff.mp H
                              obtain ⟨t391, A400, H⟩ := H
                              replace H : (some t391) = some r := H
                              have A40 := Aside0.mk A400
                              clear A400
                              obtain rfl := Option.some.inj H
                              go_wp2_with (first | ((with_reducible refine gate_callee (f := 15) rfl ?_); refine goesL_ (some 73) rfl rfl Tryd.func15 (by kernel_rfl) rfl #[.string a0] rfl (by (try simp only [List.map_toArray, List.map_cons, List.map_nil]); first | done | rfl | (simp only [List.length_drop, List.length_take]; rfl)) ?_; (with_reducible refine (flex_Keyword.calls a0 true _ A32.out).mono ?_); rintro e w' ⟨rfl, ⟨nd, rfl⟩⟩; refine ⟨_, rfl, ?_⟩; obtain ⟨Ao41, co41, eo41⟩ := Kd.R_slice HO_3.out; subst eo41; have p388 : 0 ≤ (0 : Int) := (by omega); have q388 : 0 < (t372.length : Int) := of_decide_eq_true (by first | (with_reducible assumption) | assumption); obtain ⟨ad388, e388, hx388_0, hx388_1, hx388_2, hx388_3⟩ := at_T33 (Kd.R_reads' HO_3.out).2.2 0 p388 q388; cases e388; have qi388 : (0 < t372.length) = True := eq_true (by omega); (try rw [show ((0 : Int)).toNat = 0 from rfl] at hx388_0); (try rw [show 0 * 4 = 0 from rfl] at hx388_0); (try rw [Addr.add_zero'] at hx388_0); (try rw [show ((0 : Int)).toNat = 0 from rfl] at hx388_1); (try rw [show 0 * 4 = 0 from rfl] at hx388_1); (try rw [Addr.add_zero'] at hx388_1); (try rw [show ((0 : Int)).toNat = 0 from rfl] at hx388_2); (try rw [show 0 * 4 = 0 from rfl] at hx388_2); (try rw [Addr.add_zero'] at hx388_2); (try rw [show ((0 : Int)).toNat = 0 from rfl] at hx388_3); (try rw [show 0 * 4 = 0 from rfl] at hx388_3); (try rw [Addr.add_zero'] at hx388_3); replace p388 := eq_true p388; replace q388 := eq_true q388; obtain ⟨Ao42, co42, eo42⟩ := Kd.R_slice HO_6.out; subst eo42; have p389 : 0 ≤ (0 : Int) := (by omega); have q389 : 0 < (t377.length : Int) := of_decide_eq_true (by first | (with_reducible assumption) | assumption); obtain ⟨ad389, e389, hx389_0, hx389_1, hx389_2, hx389_3⟩ := at_T33 (Kd.R_reads' HO_6.out).2.2 0 p389 q389; cases e389; have qi389 : (0 < t377.length) = True := eq_true (by omega); (try rw [show ((0 : Int)).toNat = 0 from rfl] at hx389_0); (try rw [show 0 * 4 = 0 from rfl] at hx389_0); (try rw [Addr.add_zero'] at hx389_0); (try rw [show ((0 : Int)).toNat = 0 from rfl] at hx389_1); (try rw [show 0 * 4 = 0 from rfl] at hx389_1); (try rw [Addr.add_zero'] at hx389_1); (try rw [show ((0 : Int)).toNat = 0 from rfl] at hx389_2); (try rw [show 0 * 4 = 0 from rfl] at hx389_2); (try rw [Addr.add_zero'] at hx389_2); (try rw [show ((0 : Int)).toNat = 0 from rfl] at hx389_3); (try rw [show 0 * 4 = 0 from rfl] at hx389_3); (try rw [Addr.add_zero'] at hx389_3); replace p389 := eq_true p389; replace q389 := eq_true q389; obtain ⟨Ao43, co43, eo43⟩ := Kd.R_slice HO_9.out; subst eo43; have p390 : 0 ≤ (0 : Int) := (by omega); have q390 : 0 < (t382.length : Int) := of_decide_eq_true (by first | (with_reducible assumption) | assumption); obtain ⟨ad390, e390, hx390_0, hx390_1, hx390_2, hx390_3⟩ := at_T33 (Kd.R_reads' HO_9.out).2.2 0 p390 q390; cases e390; have qi390 : (0 < t382.length) = True := eq_true (by omega); (try rw [show ((0 : Int)).toNat = 0 from rfl] at hx390_0); (try rw [show 0 * 4 = 0 from rfl] at hx390_0); (try rw [Addr.add_zero'] at hx390_0); (try rw [show ((0 : Int)).toNat = 0 from rfl] at hx390_1); (try rw [show 0 * 4 = 0 from rfl] at hx390_1); (try rw [Addr.add_zero'] at hx390_1); (try rw [show ((0 : Int)).toNat = 0 from rfl] at hx390_2); (try rw [show 0 * 4 = 0 from rfl] at hx390_2); (try rw [Addr.add_zero'] at hx390_2); (try rw [show ((0 : Int)).toNat = 0 from rfl] at hx390_3); (try rw [show 0 * 4 = 0 from rfl] at hx390_3); (try rw [Addr.add_zero'] at hx390_3); replace p390 := eq_true p390; replace q390 := eq_true q390) | (go_at_call 12; (with_reducible refine (ndjqlaw10_awake.calls kj11  t391 _ A40.out (by exact GW.at HG.out (by repeat (first | (with_reducible first | exact HB.out | apply below_alloc | apply pw_below_drewN | apply below_drew1) | exact HB.out)))).mono ?_); rintro e w44 ⟨rfl, hb⟩; have n0_ := Aside0.mk (Kd.R_below (by (with_reducible repeat (first | apply Kd.R_alloc | apply Kd.R_drewN | apply Kd.R_drew)); exact HO_3.out) hb); have n1_ := Aside0.mk (Kd.R_below (by (with_reducible repeat (first | apply Kd.R_alloc | apply Kd.R_drewN | apply Kd.R_drew)); exact HO_6.out) hb); have n2_ := Aside0.mk (Kd.R_below (by (with_reducible repeat (first | apply Kd.R_alloc | apply Kd.R_drewN | apply Kd.R_drew)); exact HO_9.out) hb); have n3_ := Aside0.mk (below_step (by repeat (first | (with_reducible first | exact HB.out | apply below_alloc | apply pw_below_drewN | apply below_drew1) | exact HB.out)) hb); clear HO_3; clear HO_6; clear HO_9; clear HB; have HO_3 := n0_; have HO_6 := n1_; have HO_9 := n2_; have HB := n3_; clear n0_ n1_ n2_ n3_; (try clear hb); (try clear hb2); (try clear hk); (try clear hi)))
                              go_ret
                              exact ⟨by first | rfl | (simp [errW_none, errW_some] <;> rfl) | (simp [*, errW_none, errW_some] <;> rfl), by repeat (first | (with_reducible first | exact HB.out | apply below_alloc | apply pw_below_drewN | apply below_drew1) | exact HB.out)⟩
                            · rw [if_neg c39] at H
                              have c39b0 : (((rd_T33 t382 0).f0) == 3 && (((rd_T33 t382 0).f1) == 0 && ((((rd_T33 t382 0).f2).toList) == a0.toList && (((rd_T33 t382 0).f3) == 0)))) = false := by simpa using c39
                              (try (have c39b1 : decide (((rd_T33 t382 0).f0) = 3 && (((rd_T33 t382 0).f1) == 0 && ((((rd_T33 t382 0).f2).toList) == a0.toList && (((rd_T33 t382 0).f3) == 0)))) = false := by simpa using c39))
                              (try (have c39b2 : (((rd_T33 t382 0).f0) == 3 && (((rd_T33 t382 0).f1) == 0 && ((((rd_T33 t382 0).f2).toList) == a0.toList && (((rd_T33 t382 0).f3) == 0)))) = false := by simpa using c39))
                              (try (have c39b3 : ¬ (((rd_T33 t382 0).f0) = 3 && (((rd_T33 t382 0).f1) == 0 && ((((rd_T33 t382 0).f2).toList) == a0.toList && (((rd_T33 t382 0).f3) == 0)))) := by simpa using c39))
                              clear c39
                              obtain rfl := Option.some.inj H
                              go_wp2_with (first | ((with_reducible refine gate_callee (f := 15) rfl ?_); refine goesL_ (some 73) rfl rfl Tryd.func15 (by kernel_rfl) rfl #[.string a0] rfl (by (try simp only [List.map_toArray, List.map_cons, List.map_nil]); first | done | rfl | (simp only [List.length_drop, List.length_take]; rfl)) ?_; (with_reducible refine (flex_Keyword.calls a0 true _ A32.out).mono ?_); rintro e w' ⟨rfl, ⟨nd, rfl⟩⟩; refine ⟨_, rfl, ?_⟩; obtain ⟨Ao45, co45, eo45⟩ := Kd.R_slice HO_3.out; subst eo45; have p388 : 0 ≤ (0 : Int) := (by omega); have q388 : 0 < (t372.length : Int) := of_decide_eq_true (by first | (with_reducible assumption) | assumption); obtain ⟨ad388, e388, hx388_0, hx388_1, hx388_2, hx388_3⟩ := at_T33 (Kd.R_reads' HO_3.out).2.2 0 p388 q388; cases e388; have qi388 : (0 < t372.length) = True := eq_true (by omega); (try rw [show ((0 : Int)).toNat = 0 from rfl] at hx388_0); (try rw [show 0 * 4 = 0 from rfl] at hx388_0); (try rw [Addr.add_zero'] at hx388_0); (try rw [show ((0 : Int)).toNat = 0 from rfl] at hx388_1); (try rw [show 0 * 4 = 0 from rfl] at hx388_1); (try rw [Addr.add_zero'] at hx388_1); (try rw [show ((0 : Int)).toNat = 0 from rfl] at hx388_2); (try rw [show 0 * 4 = 0 from rfl] at hx388_2); (try rw [Addr.add_zero'] at hx388_2); (try rw [show ((0 : Int)).toNat = 0 from rfl] at hx388_3); (try rw [show 0 * 4 = 0 from rfl] at hx388_3); (try rw [Addr.add_zero'] at hx388_3); replace p388 := eq_true p388; replace q388 := eq_true q388; obtain ⟨Ao46, co46, eo46⟩ := Kd.R_slice HO_6.out; subst eo46; have p389 : 0 ≤ (0 : Int) := (by omega); have q389 : 0 < (t377.length : Int) := of_decide_eq_true (by first | (with_reducible assumption) | assumption); obtain ⟨ad389, e389, hx389_0, hx389_1, hx389_2, hx389_3⟩ := at_T33 (Kd.R_reads' HO_6.out).2.2 0 p389 q389; cases e389; have qi389 : (0 < t377.length) = True := eq_true (by omega); (try rw [show ((0 : Int)).toNat = 0 from rfl] at hx389_0); (try rw [show 0 * 4 = 0 from rfl] at hx389_0); (try rw [Addr.add_zero'] at hx389_0); (try rw [show ((0 : Int)).toNat = 0 from rfl] at hx389_1); (try rw [show 0 * 4 = 0 from rfl] at hx389_1); (try rw [Addr.add_zero'] at hx389_1); (try rw [show ((0 : Int)).toNat = 0 from rfl] at hx389_2); (try rw [show 0 * 4 = 0 from rfl] at hx389_2); (try rw [Addr.add_zero'] at hx389_2); (try rw [show ((0 : Int)).toNat = 0 from rfl] at hx389_3); (try rw [show 0 * 4 = 0 from rfl] at hx389_3); (try rw [Addr.add_zero'] at hx389_3); replace p389 := eq_true p389; replace q389 := eq_true q389; obtain ⟨Ao47, co47, eo47⟩ := Kd.R_slice HO_9.out; subst eo47; have p390 : 0 ≤ (0 : Int) := (by omega); have q390 : 0 < (t382.length : Int) := of_decide_eq_true (by first | (with_reducible assumption) | assumption); obtain ⟨ad390, e390, hx390_0, hx390_1, hx390_2, hx390_3⟩ := at_T33 (Kd.R_reads' HO_9.out).2.2 0 p390 q390; cases e390; have qi390 : (0 < t382.length) = True := eq_true (by omega); (try rw [show ((0 : Int)).toNat = 0 from rfl] at hx390_0); (try rw [show 0 * 4 = 0 from rfl] at hx390_0); (try rw [Addr.add_zero'] at hx390_0); (try rw [show ((0 : Int)).toNat = 0 from rfl] at hx390_1); (try rw [show 0 * 4 = 0 from rfl] at hx390_1); (try rw [Addr.add_zero'] at hx390_1); (try rw [show ((0 : Int)).toNat = 0 from rfl] at hx390_2); (try rw [show 0 * 4 = 0 from rfl] at hx390_2); (try rw [Addr.add_zero'] at hx390_2); (try rw [show ((0 : Int)).toNat = 0 from rfl] at hx390_3); (try rw [show 0 * 4 = 0 from rfl] at hx390_3); (try rw [Addr.add_zero'] at hx390_3); replace p390 := eq_true p390; replace q390 := eq_true q390))
                              go_ret
                              exact ⟨by first | rfl | (simp [errW_none, errW_some] <;> rfl) | (simp [*, errW_none, errW_some] <;> rfl), by repeat (first | (with_reducible first | exact HB.out | apply below_alloc | apply pw_below_drewN | apply below_drew1) | exact HB.out)⟩
                          · rw [if_neg c38] at H
                            exact absurd H (by simp)
                        · rw [if_neg c37] at H
                          have c37b0 : (((rd_T33 t377 0).f0) == 4 && (((rd_T33 t377 0).f1) == 0 && ((((rd_T33 t377 0).f2).toList) == a0.toList && (((rd_T33 t377 0).f3) == 0)))) = false := by simpa using c37
                          (try (have c37b1 : decide (((rd_T33 t377 0).f0) = 4 && (((rd_T33 t377 0).f1) == 0 && ((((rd_T33 t377 0).f2).toList) == a0.toList && (((rd_T33 t377 0).f3) == 0)))) = false := by simpa using c37))
                          (try (have c37b2 : (((rd_T33 t377 0).f0) == 4 && (((rd_T33 t377 0).f1) == 0 && ((((rd_T33 t377 0).f2).toList) == a0.toList && (((rd_T33 t377 0).f3) == 0)))) = false := by simpa using c37))
                          (try (have c37b3 : ¬ (((rd_T33 t377 0).f0) = 4 && (((rd_T33 t377 0).f1) == 0 && ((((rd_T33 t377 0).f2).toList) == a0.toList && (((rd_T33 t377 0).f3) == 0)))) := by simpa using c37))
                          clear c37
                          obtain rfl := Option.some.inj H
                          go_wp2_with (first | ((with_reducible refine gate_callee (f := 15) rfl ?_); refine goesL_ (some 73) rfl rfl Tryd.func15 (by kernel_rfl) rfl #[.string a0] rfl (by (try simp only [List.map_toArray, List.map_cons, List.map_nil]); first | done | rfl | (simp only [List.length_drop, List.length_take]; rfl)) ?_; (with_reducible refine (flex_Keyword.calls a0 true _ A32.out).mono ?_); rintro e w' ⟨rfl, ⟨nd, rfl⟩⟩; refine ⟨_, rfl, ?_⟩; obtain ⟨Ao48, co48, eo48⟩ := Kd.R_slice HO_3.out; subst eo48; have p388 : 0 ≤ (0 : Int) := (by omega); have q388 : 0 < (t372.length : Int) := of_decide_eq_true (by first | (with_reducible assumption) | assumption); obtain ⟨ad388, e388, hx388_0, hx388_1, hx388_2, hx388_3⟩ := at_T33 (Kd.R_reads' HO_3.out).2.2 0 p388 q388; cases e388; have qi388 : (0 < t372.length) = True := eq_true (by omega); (try rw [show ((0 : Int)).toNat = 0 from rfl] at hx388_0); (try rw [show 0 * 4 = 0 from rfl] at hx388_0); (try rw [Addr.add_zero'] at hx388_0); (try rw [show ((0 : Int)).toNat = 0 from rfl] at hx388_1); (try rw [show 0 * 4 = 0 from rfl] at hx388_1); (try rw [Addr.add_zero'] at hx388_1); (try rw [show ((0 : Int)).toNat = 0 from rfl] at hx388_2); (try rw [show 0 * 4 = 0 from rfl] at hx388_2); (try rw [Addr.add_zero'] at hx388_2); (try rw [show ((0 : Int)).toNat = 0 from rfl] at hx388_3); (try rw [show 0 * 4 = 0 from rfl] at hx388_3); (try rw [Addr.add_zero'] at hx388_3); replace p388 := eq_true p388; replace q388 := eq_true q388; obtain ⟨Ao49, co49, eo49⟩ := Kd.R_slice HO_6.out; subst eo49; have p389 : 0 ≤ (0 : Int) := (by omega); have q389 : 0 < (t377.length : Int) := of_decide_eq_true (by first | (with_reducible assumption) | assumption); obtain ⟨ad389, e389, hx389_0, hx389_1, hx389_2, hx389_3⟩ := at_T33 (Kd.R_reads' HO_6.out).2.2 0 p389 q389; cases e389; have qi389 : (0 < t377.length) = True := eq_true (by omega); (try rw [show ((0 : Int)).toNat = 0 from rfl] at hx389_0); (try rw [show 0 * 4 = 0 from rfl] at hx389_0); (try rw [Addr.add_zero'] at hx389_0); (try rw [show ((0 : Int)).toNat = 0 from rfl] at hx389_1); (try rw [show 0 * 4 = 0 from rfl] at hx389_1); (try rw [Addr.add_zero'] at hx389_1); (try rw [show ((0 : Int)).toNat = 0 from rfl] at hx389_2); (try rw [show 0 * 4 = 0 from rfl] at hx389_2); (try rw [Addr.add_zero'] at hx389_2); (try rw [show ((0 : Int)).toNat = 0 from rfl] at hx389_3); (try rw [show 0 * 4 = 0 from rfl] at hx389_3); (try rw [Addr.add_zero'] at hx389_3); replace p389 := eq_true p389; replace q389 := eq_true q389))
                          go_ret
                          exact ⟨by first | rfl | (simp [errW_none, errW_some] <;> rfl) | (simp [*, errW_none, errW_some] <;> rfl), by repeat (first | (with_reducible first | exact HB.out | apply below_alloc | apply pw_below_drewN | apply below_drew1) | exact HB.out)⟩
                      · rw [if_neg c36] at H
                        exact absurd H (by simp)
                    · rw [if_neg c35] at H
                      have c35b0 : (((rd_T33 t372 0).f0) == 2 && (((rd_T33 t372 0).f1) == 0 && ((((rd_T33 t372 0).f2).toList) == a0.toList && (((rd_T33 t372 0).f3) == 0)))) = false := by simpa using c35
                      (try (have c35b1 : decide (((rd_T33 t372 0).f0) = 2 && (((rd_T33 t372 0).f1) == 0 && ((((rd_T33 t372 0).f2).toList) == a0.toList && (((rd_T33 t372 0).f3) == 0)))) = false := by simpa using c35))
                      (try (have c35b2 : (((rd_T33 t372 0).f0) == 2 && (((rd_T33 t372 0).f1) == 0 && ((((rd_T33 t372 0).f2).toList) == a0.toList && (((rd_T33 t372 0).f3) == 0)))) = false := by simpa using c35))
                      (try (have c35b3 : ¬ (((rd_T33 t372 0).f0) = 2 && (((rd_T33 t372 0).f1) == 0 && ((((rd_T33 t372 0).f2).toList) == a0.toList && (((rd_T33 t372 0).f3) == 0)))) := by simpa using c35))
                      clear c35
                      obtain rfl := Option.some.inj H
                      go_wp2_with (first | ((with_reducible refine gate_callee (f := 15) rfl ?_); refine goesL_ (some 73) rfl rfl Tryd.func15 (by kernel_rfl) rfl #[.string a0] rfl (by (try simp only [List.map_toArray, List.map_cons, List.map_nil]); first | done | rfl | (simp only [List.length_drop, List.length_take]; rfl)) ?_; (with_reducible refine (flex_Keyword.calls a0 true _ A32.out).mono ?_); rintro e w' ⟨rfl, ⟨nd, rfl⟩⟩; refine ⟨_, rfl, ?_⟩; obtain ⟨Ao50, co50, eo50⟩ := Kd.R_slice HO_3.out; subst eo50; have p388 : 0 ≤ (0 : Int) := (by omega); have q388 : 0 < (t372.length : Int) := of_decide_eq_true (by first | (with_reducible assumption) | assumption); obtain ⟨ad388, e388, hx388_0, hx388_1, hx388_2, hx388_3⟩ := at_T33 (Kd.R_reads' HO_3.out).2.2 0 p388 q388; cases e388; have qi388 : (0 < t372.length) = True := eq_true (by omega); (try rw [show ((0 : Int)).toNat = 0 from rfl] at hx388_0); (try rw [show 0 * 4 = 0 from rfl] at hx388_0); (try rw [Addr.add_zero'] at hx388_0); (try rw [show ((0 : Int)).toNat = 0 from rfl] at hx388_1); (try rw [show 0 * 4 = 0 from rfl] at hx388_1); (try rw [Addr.add_zero'] at hx388_1); (try rw [show ((0 : Int)).toNat = 0 from rfl] at hx388_2); (try rw [show 0 * 4 = 0 from rfl] at hx388_2); (try rw [Addr.add_zero'] at hx388_2); (try rw [show ((0 : Int)).toNat = 0 from rfl] at hx388_3); (try rw [show 0 * 4 = 0 from rfl] at hx388_3); (try rw [Addr.add_zero'] at hx388_3); replace p388 := eq_true p388; replace q388 := eq_true q388))
                      go_ret
                      exact ⟨by first | rfl | (simp [errW_none, errW_some] <;> rfl) | (simp [*, errW_none, errW_some] <;> rfl), by repeat (first | (with_reducible first | exact HB.out | apply below_alloc | apply pw_below_drewN | apply below_drew1) | exact HB.out)⟩
                  · rw [if_neg c34] at H
                    exact absurd H (by simp)
                · replace c33 := Bool.eq_false_iff.mpr c33
                  subst c33
                  have H1 : (if 0 < (t372.length : Int) then (if (((rd_T33 t372 0).f0) == 1 && (((rd_T33 t372 0).f1) == 0 && ((((rd_T33 t372 0).f2).toList) == a0.toList && (((rd_T33 t372 0).f3) == 0)))) = true then (if 0 < (t377.length : Int) then (if (((rd_T33 t377 0).f0) == 4 && (((rd_T33 t377 0).f1) == 0 && ((((rd_T33 t377 0).f2).toList) == a0.toList && (((rd_T33 t377 0).f3) == 0)))) = true then (if 0 < (t382.length : Int) then (if (((rd_T33 t382 0).f0) == 3 && (((rd_T33 t382 0).f1) == 0 && ((((rd_T33 t382 0).f2).toList) == a0.toList && (((rd_T33 t382 0).f3) == 0)))) = true then ((ndjqlaw10_awake.f kj11).bind fun t395 => (some t395)) else (some false)) else (none)) else (some false)) else (none)) else (some false)) else (none)) = some r := by rw [if_neg (show ¬ (false = true) by decide)] at H; exact H
                  clear H
                  have H := H1
                  clear H1
                  by_cases c51 : 0 < (t372.length : Int)
                  · rw [if_pos c51] at H
                    have c51b0 : decide (0 < (t372.length : Int)) = true := decide_eq_true c51
                    have c51b1 : decide (0 < t372.length) = true := decide_eq_true (by omega)
                    clear c51
                    by_cases c52 : (((rd_T33 t372 0).f0) == 1 && (((rd_T33 t372 0).f1) == 0 && ((((rd_T33 t372 0).f2).toList) == a0.toList && (((rd_T33 t372 0).f3) == 0)))) = true
                    · rw [if_pos c52] at H
                      have c52b0 : (((rd_T33 t372 0).f0) == 1 && (((rd_T33 t372 0).f1) == 0 && ((((rd_T33 t372 0).f2).toList) == a0.toList && (((rd_T33 t372 0).f3) == 0)))) = true := c52
                      (try (have c52b1 : decide (((rd_T33 t372 0).f0) = 1 && (((rd_T33 t372 0).f1) == 0 && ((((rd_T33 t372 0).f2).toList) == a0.toList && (((rd_T33 t372 0).f3) == 0)))) = true := by simpa using c52))
                      (try (have c52b2 : (((rd_T33 t372 0).f0) == 1 && (((rd_T33 t372 0).f1) == 0 && ((((rd_T33 t372 0).f2).toList) == a0.toList && (((rd_T33 t372 0).f3) == 0)))) = true := by simpa using c52))
                      clear c52
                      by_cases c53 : 0 < (t377.length : Int)
                      · rw [if_pos c53] at H
                        have c53b0 : decide (0 < (t377.length : Int)) = true := decide_eq_true c53
                        have c53b1 : decide (0 < t377.length) = true := decide_eq_true (by omega)
                        clear c53
                        by_cases c54 : (((rd_T33 t377 0).f0) == 4 && (((rd_T33 t377 0).f1) == 0 && ((((rd_T33 t377 0).f2).toList) == a0.toList && (((rd_T33 t377 0).f3) == 0)))) = true
                        · rw [if_pos c54] at H
                          have c54b0 : (((rd_T33 t377 0).f0) == 4 && (((rd_T33 t377 0).f1) == 0 && ((((rd_T33 t377 0).f2).toList) == a0.toList && (((rd_T33 t377 0).f3) == 0)))) = true := c54
                          (try (have c54b1 : decide (((rd_T33 t377 0).f0) = 4 && (((rd_T33 t377 0).f1) == 0 && ((((rd_T33 t377 0).f2).toList) == a0.toList && (((rd_T33 t377 0).f3) == 0)))) = true := by simpa using c54))
                          (try (have c54b2 : (((rd_T33 t377 0).f0) == 4 && (((rd_T33 t377 0).f1) == 0 && ((((rd_T33 t377 0).f2).toList) == a0.toList && (((rd_T33 t377 0).f3) == 0)))) = true := by simpa using c54))
                          clear c54
                          by_cases c55 : 0 < (t382.length : Int)
                          · rw [if_pos c55] at H
                            have c55b0 : decide (0 < (t382.length : Int)) = true := decide_eq_true c55
                            have c55b1 : decide (0 < t382.length) = true := decide_eq_true (by omega)
                            clear c55
                            by_cases c56 : (((rd_T33 t382 0).f0) == 3 && (((rd_T33 t382 0).f1) == 0 && ((((rd_T33 t382 0).f2).toList) == a0.toList && (((rd_T33 t382 0).f3) == 0)))) = true
                            · rw [if_pos c56] at H
                              have c56b0 : (((rd_T33 t382 0).f0) == 3 && (((rd_T33 t382 0).f1) == 0 && ((((rd_T33 t382 0).f2).toList) == a0.toList && (((rd_T33 t382 0).f3) == 0)))) = true := c56
                              (try (have c56b1 : decide (((rd_T33 t382 0).f0) = 3 && (((rd_T33 t382 0).f1) == 0 && ((((rd_T33 t382 0).f2).toList) == a0.toList && (((rd_T33 t382 0).f3) == 0)))) = true := by simpa using c56))
                              (try (have c56b2 : (((rd_T33 t382 0).f0) == 3 && (((rd_T33 t382 0).f1) == 0 && ((((rd_T33 t382 0).f2).toList) == a0.toList && (((rd_T33 t382 0).f3) == 0)))) = true := by simpa using c56))
                              clear c56
                              replace H := Option.bind_eq_some_iff.mp H
                              obtain ⟨t395, A570, H⟩ := H
                              replace H : (some t395) = some r := H
                              have A57 := Aside0.mk A570
                              clear A570
                              obtain rfl := Option.some.inj H
                              go_wp2_with (first | ((with_reducible refine gate_callee (f := 15) rfl ?_); refine goesL_ (some 73) rfl rfl Tryd.func15 (by kernel_rfl) rfl #[.string a0] rfl (by (try simp only [List.map_toArray, List.map_cons, List.map_nil]); first | done | rfl | (simp only [List.length_drop, List.length_take]; rfl)) ?_; (with_reducible refine (flex_Keyword.calls a0 false _ A32.out).mono ?_); rintro e w' ⟨rfl, ⟨nd, rfl⟩⟩; refine ⟨_, rfl, ?_⟩; obtain ⟨Ao58, co58, eo58⟩ := Kd.R_slice HO_3.out; subst eo58; have p392 : 0 ≤ (0 : Int) := (by omega); have q392 : 0 < (t372.length : Int) := of_decide_eq_true (by first | (with_reducible assumption) | assumption); obtain ⟨ad392, e392, hx392_0, hx392_1, hx392_2, hx392_3⟩ := at_T33 (Kd.R_reads' HO_3.out).2.2 0 p392 q392; cases e392; have qi392 : (0 < t372.length) = True := eq_true (by omega); (try rw [show ((0 : Int)).toNat = 0 from rfl] at hx392_0); (try rw [show 0 * 4 = 0 from rfl] at hx392_0); (try rw [Addr.add_zero'] at hx392_0); (try rw [show ((0 : Int)).toNat = 0 from rfl] at hx392_1); (try rw [show 0 * 4 = 0 from rfl] at hx392_1); (try rw [Addr.add_zero'] at hx392_1); (try rw [show ((0 : Int)).toNat = 0 from rfl] at hx392_2); (try rw [show 0 * 4 = 0 from rfl] at hx392_2); (try rw [Addr.add_zero'] at hx392_2); (try rw [show ((0 : Int)).toNat = 0 from rfl] at hx392_3); (try rw [show 0 * 4 = 0 from rfl] at hx392_3); (try rw [Addr.add_zero'] at hx392_3); replace p392 := eq_true p392; replace q392 := eq_true q392; obtain ⟨Ao59, co59, eo59⟩ := Kd.R_slice HO_6.out; subst eo59; have p393 : 0 ≤ (0 : Int) := (by omega); have q393 : 0 < (t377.length : Int) := of_decide_eq_true (by first | (with_reducible assumption) | assumption); obtain ⟨ad393, e393, hx393_0, hx393_1, hx393_2, hx393_3⟩ := at_T33 (Kd.R_reads' HO_6.out).2.2 0 p393 q393; cases e393; have qi393 : (0 < t377.length) = True := eq_true (by omega); (try rw [show ((0 : Int)).toNat = 0 from rfl] at hx393_0); (try rw [show 0 * 4 = 0 from rfl] at hx393_0); (try rw [Addr.add_zero'] at hx393_0); (try rw [show ((0 : Int)).toNat = 0 from rfl] at hx393_1); (try rw [show 0 * 4 = 0 from rfl] at hx393_1); (try rw [Addr.add_zero'] at hx393_1); (try rw [show ((0 : Int)).toNat = 0 from rfl] at hx393_2); (try rw [show 0 * 4 = 0 from rfl] at hx393_2); (try rw [Addr.add_zero'] at hx393_2); (try rw [show ((0 : Int)).toNat = 0 from rfl] at hx393_3); (try rw [show 0 * 4 = 0 from rfl] at hx393_3); (try rw [Addr.add_zero'] at hx393_3); replace p393 := eq_true p393; replace q393 := eq_true q393; obtain ⟨Ao60, co60, eo60⟩ := Kd.R_slice HO_9.out; subst eo60; have p394 : 0 ≤ (0 : Int) := (by omega); have q394 : 0 < (t382.length : Int) := of_decide_eq_true (by first | (with_reducible assumption) | assumption); obtain ⟨ad394, e394, hx394_0, hx394_1, hx394_2, hx394_3⟩ := at_T33 (Kd.R_reads' HO_9.out).2.2 0 p394 q394; cases e394; have qi394 : (0 < t382.length) = True := eq_true (by omega); (try rw [show ((0 : Int)).toNat = 0 from rfl] at hx394_0); (try rw [show 0 * 4 = 0 from rfl] at hx394_0); (try rw [Addr.add_zero'] at hx394_0); (try rw [show ((0 : Int)).toNat = 0 from rfl] at hx394_1); (try rw [show 0 * 4 = 0 from rfl] at hx394_1); (try rw [Addr.add_zero'] at hx394_1); (try rw [show ((0 : Int)).toNat = 0 from rfl] at hx394_2); (try rw [show 0 * 4 = 0 from rfl] at hx394_2); (try rw [Addr.add_zero'] at hx394_2); (try rw [show ((0 : Int)).toNat = 0 from rfl] at hx394_3); (try rw [show 0 * 4 = 0 from rfl] at hx394_3); (try rw [Addr.add_zero'] at hx394_3); replace p394 := eq_true p394; replace q394 := eq_true q394) | (go_at_call 12; (with_reducible refine (ndjqlaw10_awake.calls kj11  t395 _ A57.out (by exact GW.at HG.out (by repeat (first | (with_reducible first | exact HB.out | apply below_alloc | apply pw_below_drewN | apply below_drew1) | exact HB.out)))).mono ?_); rintro e w61 ⟨rfl, hb⟩; have n0_ := Aside0.mk (Kd.R_below (by (with_reducible repeat (first | apply Kd.R_alloc | apply Kd.R_drewN | apply Kd.R_drew)); exact HO_3.out) hb); have n1_ := Aside0.mk (Kd.R_below (by (with_reducible repeat (first | apply Kd.R_alloc | apply Kd.R_drewN | apply Kd.R_drew)); exact HO_6.out) hb); have n2_ := Aside0.mk (Kd.R_below (by (with_reducible repeat (first | apply Kd.R_alloc | apply Kd.R_drewN | apply Kd.R_drew)); exact HO_9.out) hb); have n3_ := Aside0.mk (below_step (by repeat (first | (with_reducible first | exact HB.out | apply below_alloc | apply pw_below_drewN | apply below_drew1) | exact HB.out)) hb); clear HO_3; clear HO_6; clear HO_9; clear HB; have HO_3 := n0_; have HO_6 := n1_; have HO_9 := n2_; have HB := n3_; clear n0_ n1_ n2_ n3_; (try clear hb); (try clear hb2); (try clear hk); (try clear hi)))
                              go_ret
                              exact ⟨by first | rfl | (simp [errW_none, errW_some] <;> rfl) | (simp [*, errW_none, errW_some] <;> rfl), by repeat (first | (with_reducible first | exact HB.out | apply below_alloc | apply pw_below_drewN | apply below_drew1) | exact HB.out)⟩
                            · rw [if_neg c56] at H
                              have c56b0 : (((rd_T33 t382 0).f0) == 3 && (((rd_T33 t382 0).f1) == 0 && ((((rd_T33 t382 0).f2).toList) == a0.toList && (((rd_T33 t382 0).f3) == 0)))) = false := by simpa using c56
                              (try (have c56b1 : decide (((rd_T33 t382 0).f0) = 3 && (((rd_T33 t382 0).f1) == 0 && ((((rd_T33 t382 0).f2).toList) == a0.toList && (((rd_T33 t382 0).f3) == 0)))) = false := by simpa using c56))
                              (try (have c56b2 : (((rd_T33 t382 0).f0) == 3 && (((rd_T33 t382 0).f1) == 0 && ((((rd_T33 t382 0).f2).toList) == a0.toList && (((rd_T33 t382 0).f3) == 0)))) = false := by simpa using c56))
                              (try (have c56b3 : ¬ (((rd_T33 t382 0).f0) = 3 && (((rd_T33 t382 0).f1) == 0 && ((((rd_T33 t382 0).f2).toList) == a0.toList && (((rd_T33 t382 0).f3) == 0)))) := by simpa using c56))
                              clear c56
                              obtain rfl := Option.some.inj H
                              go_wp2_with (first | ((with_reducible refine gate_callee (f := 15) rfl ?_); refine goesL_ (some 73) rfl rfl Tryd.func15 (by kernel_rfl) rfl #[.string a0] rfl (by (try simp only [List.map_toArray, List.map_cons, List.map_nil]); first | done | rfl | (simp only [List.length_drop, List.length_take]; rfl)) ?_; (with_reducible refine (flex_Keyword.calls a0 false _ A32.out).mono ?_); rintro e w' ⟨rfl, ⟨nd, rfl⟩⟩; refine ⟨_, rfl, ?_⟩; obtain ⟨Ao62, co62, eo62⟩ := Kd.R_slice HO_3.out; subst eo62; have p392 : 0 ≤ (0 : Int) := (by omega); have q392 : 0 < (t372.length : Int) := of_decide_eq_true (by first | (with_reducible assumption) | assumption); obtain ⟨ad392, e392, hx392_0, hx392_1, hx392_2, hx392_3⟩ := at_T33 (Kd.R_reads' HO_3.out).2.2 0 p392 q392; cases e392; have qi392 : (0 < t372.length) = True := eq_true (by omega); (try rw [show ((0 : Int)).toNat = 0 from rfl] at hx392_0); (try rw [show 0 * 4 = 0 from rfl] at hx392_0); (try rw [Addr.add_zero'] at hx392_0); (try rw [show ((0 : Int)).toNat = 0 from rfl] at hx392_1); (try rw [show 0 * 4 = 0 from rfl] at hx392_1); (try rw [Addr.add_zero'] at hx392_1); (try rw [show ((0 : Int)).toNat = 0 from rfl] at hx392_2); (try rw [show 0 * 4 = 0 from rfl] at hx392_2); (try rw [Addr.add_zero'] at hx392_2); (try rw [show ((0 : Int)).toNat = 0 from rfl] at hx392_3); (try rw [show 0 * 4 = 0 from rfl] at hx392_3); (try rw [Addr.add_zero'] at hx392_3); replace p392 := eq_true p392; replace q392 := eq_true q392; obtain ⟨Ao63, co63, eo63⟩ := Kd.R_slice HO_6.out; subst eo63; have p393 : 0 ≤ (0 : Int) := (by omega); have q393 : 0 < (t377.length : Int) := of_decide_eq_true (by first | (with_reducible assumption) | assumption); obtain ⟨ad393, e393, hx393_0, hx393_1, hx393_2, hx393_3⟩ := at_T33 (Kd.R_reads' HO_6.out).2.2 0 p393 q393; cases e393; have qi393 : (0 < t377.length) = True := eq_true (by omega); (try rw [show ((0 : Int)).toNat = 0 from rfl] at hx393_0); (try rw [show 0 * 4 = 0 from rfl] at hx393_0); (try rw [Addr.add_zero'] at hx393_0); (try rw [show ((0 : Int)).toNat = 0 from rfl] at hx393_1); (try rw [show 0 * 4 = 0 from rfl] at hx393_1); (try rw [Addr.add_zero'] at hx393_1); (try rw [show ((0 : Int)).toNat = 0 from rfl] at hx393_2); (try rw [show 0 * 4 = 0 from rfl] at hx393_2); (try rw [Addr.add_zero'] at hx393_2); (try rw [show ((0 : Int)).toNat = 0 from rfl] at hx393_3); (try rw [show 0 * 4 = 0 from rfl] at hx393_3); (try rw [Addr.add_zero'] at hx393_3); replace p393 := eq_true p393; replace q393 := eq_true q393; obtain ⟨Ao64, co64, eo64⟩ := Kd.R_slice HO_9.out; subst eo64; have p394 : 0 ≤ (0 : Int) := (by omega); have q394 : 0 < (t382.length : Int) := of_decide_eq_true (by first | (with_reducible assumption) | assumption); obtain ⟨ad394, e394, hx394_0, hx394_1, hx394_2, hx394_3⟩ := at_T33 (Kd.R_reads' HO_9.out).2.2 0 p394 q394; cases e394; have qi394 : (0 < t382.length) = True := eq_true (by omega); (try rw [show ((0 : Int)).toNat = 0 from rfl] at hx394_0); (try rw [show 0 * 4 = 0 from rfl] at hx394_0); (try rw [Addr.add_zero'] at hx394_0); (try rw [show ((0 : Int)).toNat = 0 from rfl] at hx394_1); (try rw [show 0 * 4 = 0 from rfl] at hx394_1); (try rw [Addr.add_zero'] at hx394_1); (try rw [show ((0 : Int)).toNat = 0 from rfl] at hx394_2); (try rw [show 0 * 4 = 0 from rfl] at hx394_2); (try rw [Addr.add_zero'] at hx394_2); (try rw [show ((0 : Int)).toNat = 0 from rfl] at hx394_3); (try rw [show 0 * 4 = 0 from rfl] at hx394_3); (try rw [Addr.add_zero'] at hx394_3); replace p394 := eq_true p394; replace q394 := eq_true q394))
                              go_ret
                              exact ⟨by first | rfl | (simp [errW_none, errW_some] <;> rfl) | (simp [*, errW_none, errW_some] <;> rfl), by repeat (first | (with_reducible first | exact HB.out | apply below_alloc | apply pw_below_drewN | apply below_drew1) | exact HB.out)⟩
                          · rw [if_neg c55] at H
                            exact absurd H (by simp)
                        · rw [if_neg c54] at H
                          have c54b0 : (((rd_T33 t377 0).f0) == 4 && (((rd_T33 t377 0).f1) == 0 && ((((rd_T33 t377 0).f2).toList) == a0.toList && (((rd_T33 t377 0).f3) == 0)))) = false := by simpa using c54
                          (try (have c54b1 : decide (((rd_T33 t377 0).f0) = 4 && (((rd_T33 t377 0).f1) == 0 && ((((rd_T33 t377 0).f2).toList) == a0.toList && (((rd_T33 t377 0).f3) == 0)))) = false := by simpa using c54))
                          (try (have c54b2 : (((rd_T33 t377 0).f0) == 4 && (((rd_T33 t377 0).f1) == 0 && ((((rd_T33 t377 0).f2).toList) == a0.toList && (((rd_T33 t377 0).f3) == 0)))) = false := by simpa using c54))
                          (try (have c54b3 : ¬ (((rd_T33 t377 0).f0) = 4 && (((rd_T33 t377 0).f1) == 0 && ((((rd_T33 t377 0).f2).toList) == a0.toList && (((rd_T33 t377 0).f3) == 0)))) := by simpa using c54))
                          clear c54
                          obtain rfl := Option.some.inj H
                          go_wp2_with (first | ((with_reducible refine gate_callee (f := 15) rfl ?_); refine goesL_ (some 73) rfl rfl Tryd.func15 (by kernel_rfl) rfl #[.string a0] rfl (by (try simp only [List.map_toArray, List.map_cons, List.map_nil]); first | done | rfl | (simp only [List.length_drop, List.length_take]; rfl)) ?_; (with_reducible refine (flex_Keyword.calls a0 false _ A32.out).mono ?_); rintro e w' ⟨rfl, ⟨nd, rfl⟩⟩; refine ⟨_, rfl, ?_⟩; obtain ⟨Ao65, co65, eo65⟩ := Kd.R_slice HO_3.out; subst eo65; have p392 : 0 ≤ (0 : Int) := (by omega); have q392 : 0 < (t372.length : Int) := of_decide_eq_true (by first | (with_reducible assumption) | assumption); obtain ⟨ad392, e392, hx392_0, hx392_1, hx392_2, hx392_3⟩ := at_T33 (Kd.R_reads' HO_3.out).2.2 0 p392 q392; cases e392; have qi392 : (0 < t372.length) = True := eq_true (by omega); (try rw [show ((0 : Int)).toNat = 0 from rfl] at hx392_0); (try rw [show 0 * 4 = 0 from rfl] at hx392_0); (try rw [Addr.add_zero'] at hx392_0); (try rw [show ((0 : Int)).toNat = 0 from rfl] at hx392_1); (try rw [show 0 * 4 = 0 from rfl] at hx392_1); (try rw [Addr.add_zero'] at hx392_1); (try rw [show ((0 : Int)).toNat = 0 from rfl] at hx392_2); (try rw [show 0 * 4 = 0 from rfl] at hx392_2); (try rw [Addr.add_zero'] at hx392_2); (try rw [show ((0 : Int)).toNat = 0 from rfl] at hx392_3); (try rw [show 0 * 4 = 0 from rfl] at hx392_3); (try rw [Addr.add_zero'] at hx392_3); replace p392 := eq_true p392; replace q392 := eq_true q392; obtain ⟨Ao66, co66, eo66⟩ := Kd.R_slice HO_6.out; subst eo66; have p393 : 0 ≤ (0 : Int) := (by omega); have q393 : 0 < (t377.length : Int) := of_decide_eq_true (by first | (with_reducible assumption) | assumption); obtain ⟨ad393, e393, hx393_0, hx393_1, hx393_2, hx393_3⟩ := at_T33 (Kd.R_reads' HO_6.out).2.2 0 p393 q393; cases e393; have qi393 : (0 < t377.length) = True := eq_true (by omega); (try rw [show ((0 : Int)).toNat = 0 from rfl] at hx393_0); (try rw [show 0 * 4 = 0 from rfl] at hx393_0); (try rw [Addr.add_zero'] at hx393_0); (try rw [show ((0 : Int)).toNat = 0 from rfl] at hx393_1); (try rw [show 0 * 4 = 0 from rfl] at hx393_1); (try rw [Addr.add_zero'] at hx393_1); (try rw [show ((0 : Int)).toNat = 0 from rfl] at hx393_2); (try rw [show 0 * 4 = 0 from rfl] at hx393_2); (try rw [Addr.add_zero'] at hx393_2); (try rw [show ((0 : Int)).toNat = 0 from rfl] at hx393_3); (try rw [show 0 * 4 = 0 from rfl] at hx393_3); (try rw [Addr.add_zero'] at hx393_3); replace p393 := eq_true p393; replace q393 := eq_true q393))
                          go_ret
                          exact ⟨by first | rfl | (simp [errW_none, errW_some] <;> rfl) | (simp [*, errW_none, errW_some] <;> rfl), by repeat (first | (with_reducible first | exact HB.out | apply below_alloc | apply pw_below_drewN | apply below_drew1) | exact HB.out)⟩
                      · rw [if_neg c53] at H
                        exact absurd H (by simp)
                    · rw [if_neg c52] at H
                      have c52b0 : (((rd_T33 t372 0).f0) == 1 && (((rd_T33 t372 0).f1) == 0 && ((((rd_T33 t372 0).f2).toList) == a0.toList && (((rd_T33 t372 0).f3) == 0)))) = false := by simpa using c52
                      (try (have c52b1 : decide (((rd_T33 t372 0).f0) = 1 && (((rd_T33 t372 0).f1) == 0 && ((((rd_T33 t372 0).f2).toList) == a0.toList && (((rd_T33 t372 0).f3) == 0)))) = false := by simpa using c52))
                      (try (have c52b2 : (((rd_T33 t372 0).f0) == 1 && (((rd_T33 t372 0).f1) == 0 && ((((rd_T33 t372 0).f2).toList) == a0.toList && (((rd_T33 t372 0).f3) == 0)))) = false := by simpa using c52))
                      (try (have c52b3 : ¬ (((rd_T33 t372 0).f0) = 1 && (((rd_T33 t372 0).f1) == 0 && ((((rd_T33 t372 0).f2).toList) == a0.toList && (((rd_T33 t372 0).f3) == 0)))) := by simpa using c52))
                      clear c52
                      obtain rfl := Option.some.inj H
                      go_wp2_with (first | ((with_reducible refine gate_callee (f := 15) rfl ?_); refine goesL_ (some 73) rfl rfl Tryd.func15 (by kernel_rfl) rfl #[.string a0] rfl (by (try simp only [List.map_toArray, List.map_cons, List.map_nil]); first | done | rfl | (simp only [List.length_drop, List.length_take]; rfl)) ?_; (with_reducible refine (flex_Keyword.calls a0 false _ A32.out).mono ?_); rintro e w' ⟨rfl, ⟨nd, rfl⟩⟩; refine ⟨_, rfl, ?_⟩; obtain ⟨Ao67, co67, eo67⟩ := Kd.R_slice HO_3.out; subst eo67; have p392 : 0 ≤ (0 : Int) := (by omega); have q392 : 0 < (t372.length : Int) := of_decide_eq_true (by first | (with_reducible assumption) | assumption); obtain ⟨ad392, e392, hx392_0, hx392_1, hx392_2, hx392_3⟩ := at_T33 (Kd.R_reads' HO_3.out).2.2 0 p392 q392; cases e392; have qi392 : (0 < t372.length) = True := eq_true (by omega); (try rw [show ((0 : Int)).toNat = 0 from rfl] at hx392_0); (try rw [show 0 * 4 = 0 from rfl] at hx392_0); (try rw [Addr.add_zero'] at hx392_0); (try rw [show ((0 : Int)).toNat = 0 from rfl] at hx392_1); (try rw [show 0 * 4 = 0 from rfl] at hx392_1); (try rw [Addr.add_zero'] at hx392_1); (try rw [show ((0 : Int)).toNat = 0 from rfl] at hx392_2); (try rw [show 0 * 4 = 0 from rfl] at hx392_2); (try rw [Addr.add_zero'] at hx392_2); (try rw [show ((0 : Int)).toNat = 0 from rfl] at hx392_3); (try rw [show 0 * 4 = 0 from rfl] at hx392_3); (try rw [Addr.add_zero'] at hx392_3); replace p392 := eq_true p392; replace q392 := eq_true q392))
                      go_ret
                      exact ⟨by first | rfl | (simp [errW_none, errW_some] <;> rfl) | (simp [*, errW_none, errW_some] <;> rfl), by repeat (first | (with_reducible first | exact HB.out | apply below_alloc | apply pw_below_drewN | apply below_drew1) | exact HB.out)⟩
                  · rw [if_neg c51] at H
                    exact absurd H (by simp)
        · rw [if_neg c9] at H
          exact absurd H (by simp)

-- NOT PRINTED: function 5 (ndjqlaw10_FlexSpaces)

end Go.Proofs.YtdhdpidjdadamaaDoor.PX
