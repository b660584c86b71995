-- Printed by this session's program (wip/print/drive.py): Go functions as plain Lean functions, and proofs that the calls come to them.
import Derived.Test.YtdhdpidjdadamaaDoorPx0
import Derived.Test.YtdhdpidjdadamaaDoorPx11
import Derived.Test.YtdhdpidjdadamaaDoorPx12
import Derived.Test.YtdhdpidjdadamaaDoorHG
namespace Go.Proofs.YtdhdpidjdadamaaDoor.PX
open Go.RowKit Go.Proofs.YtdhdpidjdadamaaDoorW.PrintWords Go.Proofs.YtdhdpidjdadamaaDoorW.PrintLast Go.Proofs.YtdhdpidjdadamaaDoorW.PrintMore
attribute [local go_sem] max2_int min2_int max_two min_two max_three min_three max_four min_four   -- for this text's walks alone
set_option linter.unusedVariables false
set_option linter.unusedSimpArgs false

-- BREAK
/-! ### ndjqlaw10_FlexOrder: function 4 -/
mutual
def ndjqlaw10_FlexOrder.j0 : Nat → ByteArray → List (S33) → Bool → Option (Bool)
  | 0, _, _, _ => none
  | k + 1, x0, x3, x22 => if x22 = true then ((ndjqlaw10_awake.f k).bind fun t362 => (some t362)) else (ndjqlaw10_FlexOrder.l0 k x0 x3 0 0)
def ndjqlaw10_FlexOrder.l0 : Nat → ByteArray → List (S33) → Int → Int → Option (Bool)
  | 0, _, _, _, _ => none
  | k + 1, x0, x3, x6, x7 => if x7 < (x3.length : Int) then (if 0 ≤ x7 then (if ((rd_T33 x3 x7).f1) < x6 then (ndjqlaw10_FlexOrder.j2 k x0 x3 x7 true ((rd_T33 x3 x7).f0) ((rd_T33 x3 x7).f1) ((rd_T33 x3 x7).f2) ((rd_T33 x3 x7).f3)) else (if ((rd_T33 x3 x7).f1) > (x0.size : Int) then (ndjqlaw10_FlexOrder.j2 k x0 x3 x7 true ((rd_T33 x3 x7).f0) ((rd_T33 x3 x7).f1) ((rd_T33 x3 x7).f2) ((rd_T33 x3 x7).f3)) else (ndjqlaw10_FlexOrder.j2 k x0 x3 x7 ((((rd_T33 x3 x7).f0) == 0) != (x7 == (wrap64 ((x3.length : Int) - 1)))) ((rd_T33 x3 x7).f0) ((rd_T33 x3 x7).f1) ((rd_T33 x3 x7).f2) ((rd_T33 x3 x7).f3)))) else (none)) else (if (x3.length : Int) > 0 then (if 0 ≤ (wrap64 ((x3.length : Int) - 1)) then (if (wrap64 ((x3.length : Int) - 1)) < (x3.length : Int) then (if ((rd_T33 x3 (wrap64 ((x3.length : Int) - 1))).f1) = (x0.size : Int) then ((ndjqlaw10_awake.f k).bind fun t364 => (some t364)) else (some false)) else (none)) else (none)) else (some false))
def ndjqlaw10_FlexOrder.j2 : Nat → ByteArray → List (S33) → Int → Bool → Int → Int → ByteArray → Int → Option (Bool)
  | 0, _, _, _, _, _, _, _, _ => none
  | k + 1, x0, x3, x7, x55, x367000, x367001, x367002, x367003 => if x55 = true then (some false) else (if x367000 = 3 then (if 1 + x367002.size ≤ 9223372036854775807 then (if 0 ≤ x367001 then (if x367001 ≤ (x0.size : Int) then ((ndjqkeep_Prefix.f ((⟨#[36]⟩ : ByteArray) ++ x367002) (x0.extract (x367001 : Int).toNat x0.size)).bind fun t367 => (if t367 = true then (if x367002.toList = ([] : List UInt8) then (some false) else (ndjqlaw10_FlexOrder.l0 k x0 x3 (wrap64 ((wrap64 (x367001 + 1)) + (x367002.size : Int))) (wrap64 (x7 + 1)))) else (some false))) else (none)) else (none)) else (none)) else (if x367000 = 4 then (if 1 + x367002.size ≤ 9223372036854775807 then (if 0 ≤ x367001 then (if x367001 ≤ (x0.size : Int) then ((ndjqkeep_Prefix.f ((⟨#[46]⟩ : ByteArray) ++ x367002) (x0.extract (x367001 : Int).toNat x0.size)).bind fun t368 => (if t368 = true then (if x367002.toList = ([] : List UInt8) then (some false) else (ndjqlaw10_FlexOrder.l0 k x0 x3 (wrap64 ((wrap64 (x367001 + 1)) + (x367002.size : Int))) (wrap64 (x7 + 1)))) else (some false))) else (none)) else (none)) else (none)) else (if x367000 = 5 then (ndjqlaw10_FlexOrder.j3 k x0 x3 x7 (⟨#[]⟩ : ByteArray) (x367000 == 5) x367000 x367001 x367002 x367003) else (if x367000 = 6 then (ndjqlaw10_FlexOrder.j3 k x0 x3 x7 (⟨#[]⟩ : ByteArray) (x367000 == 6) x367000 x367001 x367002 x367003) else (ndjqlaw10_FlexOrder.j3 k x0 x3 x7 (⟨#[]⟩ : ByteArray) (x367000 == 0) x367000 x367001 x367002 x367003)))))
def ndjqlaw10_FlexOrder.j3 : Nat → ByteArray → List (S33) → Int → ByteArray → Bool → Int → Int → ByteArray → Int → Option (Bool)
  | 0, _, _, _, _, _, _, _, _, _ => none
  | k + 1, x0, x3, x7, x9, x62, x367000, x367001, x367002, x367003 => if x62 = true then (ndjqlaw10_FlexOrder.l0 k x0 x3 x367001 (wrap64 (x7 + 1))) else (if x9.size + x367002.size ≤ 9223372036854775807 then (if 0 ≤ x367001 then (if x367001 ≤ (x0.size : Int) then ((ndjqkeep_Prefix.f (x9 ++ x367002) (x0.extract (x367001 : Int).toNat x0.size)).bind fun t369 => (if t369 = true then (if x367002.toList = ([] : List UInt8) then (some false) else (ndjqlaw10_FlexOrder.l0 k x0 x3 (wrap64 ((wrap64 (x367001 + (x9.size : Int))) + (x367002.size : Int))) (wrap64 (x7 + 1)))) else (some false))) else (none)) else (none)) else (none))
end
def ndjqlaw10_FlexOrder.f (k : Nat) (a0 : ByteArray) : Option (Bool) := (flex_Lex.f k a0).bind fun bt357 => (if (a0.size : Int) > 200 then (ndjqlaw10_FlexOrder.j0 k a0 bt357.1 true) else (ndjqlaw10_FlexOrder.j0 k a0 bt357.1 (bt357.2.2 != 0)))
theorem ndjqlaw10_FlexOrder.mono_l : ∀ k, (∀ y0 y1 y2, LeO (ndjqlaw10_FlexOrder.j0 k y0 y1 y2) (ndjqlaw10_FlexOrder.j0 (k + 1) y0 y1 y2)) ∧ (∀ y0 y1 y2 y3, LeO (ndjqlaw10_FlexOrder.l0 k y0 y1 y2 y3) (ndjqlaw10_FlexOrder.l0 (k + 1) y0 y1 y2 y3)) ∧ (∀ y0 y1 y2 y3 y4 y5 y6 y7, LeO (ndjqlaw10_FlexOrder.j2 k y0 y1 y2 y3 y4 y5 y6 y7) (ndjqlaw10_FlexOrder.j2 (k + 1) y0 y1 y2 y3 y4 y5 y6 y7)) ∧ (∀ y0 y1 y2 y3 y4 y5 y6 y7 y8, LeO (ndjqlaw10_FlexOrder.j3 k y0 y1 y2 y3 y4 y5 y6 y7 y8) (ndjqlaw10_FlexOrder.j3 (k + 1) y0 y1 y2 y3 y4 y5 y6 y7 y8))
  | 0 => ⟨fun _ _ _ r h => by simp [ndjqlaw10_FlexOrder.j0] at h, fun _ _ _ _ r h => by simp [ndjqlaw10_FlexOrder.l0] at h, fun _ _ _ _ _ _ _ _ r h => by simp [ndjqlaw10_FlexOrder.j2] at h, fun _ _ _ _ _ _ _ _ _ r h => by simp [ndjqlaw10_FlexOrder.j3] at h⟩
  | k + 1 => by
    obtain ⟨ih0, ih1, ih2, ih3⟩ := ndjqlaw10_FlexOrder.mono_l k
    refine ⟨?_, ?_, ?_, ?_⟩
    · intro y0 y1 y2
      unfold ndjqlaw10_FlexOrder.j0
      repeat' first
      | (with_reducible exact ih0 _ _ _)
      | (with_reducible exact ih1 _ _ _ _)
      | (with_reducible exact ih2 _ _ _ _ _ _ _ _)
      | (with_reducible exact ih3 _ _ _ _ _ _ _ _ _)
      | (with_reducible exact flex_Lex.mono _ _)
      | (with_reducible exact ndjqlaw10_awake.mono _)
      | (with_reducible exact LeO.refl _)
      | (with_reducible exact LeO.none _)
      | (with_reducible refine LeO.ite ?_ ?_)
      | (with_reducible refine LeO.bind ?_ (fun _ => ?_))
      | exact ih0 _ _ _
      | exact ih1 _ _ _ _
      | exact ih2 _ _ _ _ _ _ _ _
      | exact ih3 _ _ _ _ _ _ _ _ _
      | exact flex_Lex.mono _ _
      | exact ndjqlaw10_awake.mono _
      | exact LeO.none _
      | refine LeO.ite ?_ ?_
      | refine LeO.bind ?_ (fun _ => ?_)
    · intro y0 y1 y2 y3
      unfold ndjqlaw10_FlexOrder.l0
      repeat' first
      | (with_reducible exact ih0 _ _ _)
      | (with_reducible exact ih1 _ _ _ _)
      | (with_reducible exact ih2 _ _ _ _ _ _ _ _)
      | (with_reducible exact ih3 _ _ _ _ _ _ _ _ _)
      | (with_reducible exact flex_Lex.mono _ _)
      | (with_reducible exact ndjqlaw10_awake.mono _)
      | (with_reducible exact LeO.refl _)
      | (with_reducible exact LeO.none _)
      | (with_reducible refine LeO.ite ?_ ?_)
      | (with_reducible refine LeO.bind ?_ (fun _ => ?_))
      | exact ih0 _ _ _
      | exact ih1 _ _ _ _
      | exact ih2 _ _ _ _ _ _ _ _
      | exact ih3 _ _ _ _ _ _ _ _ _
      | exact flex_Lex.mono _ _
      | exact ndjqlaw10_awake.mono _
      | exact LeO.none _
      | refine LeO.ite ?_ ?_
      | refine LeO.bind ?_ (fun _ => ?_)
    · intro y0 y1 y2 y3 y4 y5 y6 y7
      unfold ndjqlaw10_FlexOrder.j2
      repeat' first
      | (with_reducible exact ih0 _ _ _)
      | (with_reducible exact ih1 _ _ _ _)
      | (with_reducible exact ih2 _ _ _ _ _ _ _ _)
      | (with_reducible exact ih3 _ _ _ _ _ _ _ _ _)
      | (with_reducible exact flex_Lex.mono _ _)
      | (with_reducible exact ndjqlaw10_awake.mono _)
      | (with_reducible exact LeO.refl _)
      | (with_reducible exact LeO.none _)
      | (with_reducible refine LeO.ite ?_ ?_)
      | (with_reducible refine LeO.bind ?_ (fun _ => ?_))
      | exact ih0 _ _ _
      | exact ih1 _ _ _ _
      | exact ih2 _ _ _ _ _ _ _ _
      | exact ih3 _ _ _ _ _ _ _ _ _
      | exact flex_Lex.mono _ _
      | exact ndjqlaw10_awake.mono _
      | exact LeO.none _
      | refine LeO.ite ?_ ?_
      | refine LeO.bind ?_ (fun _ => ?_)
    · intro y0 y1 y2 y3 y4 y5 y6 y7 y8
      unfold ndjqlaw10_FlexOrder.j3
      repeat' first
      | (with_reducible exact ih0 _ _ _)
      | (with_reducible exact ih1 _ _ _ _)
      | (with_reducible exact ih2 _ _ _ _ _ _ _ _)
      | (with_reducible exact ih3 _ _ _ _ _ _ _ _ _)
      | (with_reducible exact flex_Lex.mono _ _)
      | (with_reducible exact ndjqlaw10_awake.mono _)
      | (with_reducible exact LeO.refl _)
      | (with_reducible exact LeO.none _)
      | (with_reducible refine LeO.ite ?_ ?_)
      | (with_reducible refine LeO.bind ?_ (fun _ => ?_))
      | exact ih0 _ _ _
      | exact ih1 _ _ _ _
      | exact ih2 _ _ _ _ _ _ _ _
      | exact ih3 _ _ _ _ _ _ _ _ _
      | exact flex_Lex.mono _ _
      | exact ndjqlaw10_awake.mono _
      | exact LeO.none _
      | refine LeO.ite ?_ ?_
      | refine LeO.bind ?_ (fun _ => ?_)
theorem ndjqlaw10_FlexOrder.mono : ∀ a0 k, LeO (ndjqlaw10_FlexOrder.f k a0) (ndjqlaw10_FlexOrder.f (k + 1) a0) := by
  intro a0 k
  obtain ⟨ih0, ih1, ih2, ih3⟩ := ndjqlaw10_FlexOrder.mono_l k
  unfold ndjqlaw10_FlexOrder.f
  repeat' first
      | (with_reducible exact ih0 _ _ _)
      | (with_reducible exact ih1 _ _ _ _)
      | (with_reducible exact ih2 _ _ _ _ _ _ _ _)
      | (with_reducible exact ih3 _ _ _ _ _ _ _ _ _)
      | (with_reducible exact flex_Lex.mono _ _)
      | (with_reducible exact ndjqlaw10_awake.mono _)
      | (with_reducible exact LeO.refl _)
      | (with_reducible exact LeO.none _)
      | (with_reducible refine LeO.ite ?_ ?_)
      | (with_reducible refine LeO.bind ?_ (fun _ => ?_))
      | exact ih0 _ _ _
      | exact ih1 _ _ _ _
      | exact ih2 _ _ _ _ _ _ _ _
      | exact ih3 _ _ _ _ _ _ _ _ _
      | exact flex_Lex.mono _ _
      | exact ndjqlaw10_awake.mono _
      | exact LeO.none _
      | refine LeO.ite ?_ ?_
      | refine LeO.bind ?_ (fun _ => ?_)
set_option maxHeartbeats 8000000 in
set_option maxRecDepth 100000 in
theorem ndjqlaw10_FlexOrder.calls (k : Nat) (a0 : ByteArray) (r : Bool) (w : World) (h : ndjqlaw10_FlexOrder.f k a0 = some r) (hG0 : GW w) :
    Calls Tryd.prog 4 #[.string a0] w fun e w' => e = .returned (.bool r) ∧ Below w.heap.size w w' := by
  have hu33 := Tryd.underlying33
  have HB := Aside0.mk (Below.refl w.heap.size w)
  have HG := Aside0.mk hG0
  clear hG0
  have H : ((flex_Lex.f k a0).bind fun bt357 => (if (a0.size : Int) > 200 then (ndjqlaw10_FlexOrder.j0 k a0 bt357.1 true) else (ndjqlaw10_FlexOrder.j0 k a0 bt357.1 (bt357.2.2 != 0)))) = some r := h
  clear h
  replace H := Option.bind_eq_some_iff.mp H
  obtain ⟨⟨t357, t358, t359⟩, A20, H⟩ := H
  replace H : (if (a0.size : Int) > 200 then (ndjqlaw10_FlexOrder.j0 k a0 t357 true) else (ndjqlaw10_FlexOrder.j0 k a0 t357 (t359 != 0))) = some r := H
  have A2 := Aside0.mk A20
  clear A20
  have HC3 := Aside0.mk H
  clear H
  go_enter Tryd.func4, Tryd.ntmps4
  go_upto_region 2 with (first | (go_at_call 9; (with_reducible refine (flex_Lex.calls k a0 t357 t358 t359 _ A2.out (by exact GW.at HG.out (by repeat (first | (with_reducible first | exact HB.out | apply below_alloc | apply pw_below_drewN | apply below_drew1) | exact HB.out)))).mono ?_); rintro e w4 ⟨v360, rfl, ho0, hb⟩; have n0_ := Aside0.mk (Kd.R_lower ho0 (below_size (by repeat (first | (with_reducible first | exact HB.out | apply below_alloc | apply pw_below_drewN | apply below_drew1) | exact HB.out)))); have n1_ := Aside0.mk (below_step (by repeat (first | (with_reducible first | exact HB.out | apply below_alloc | apply pw_below_drewN | apply below_drew1) | exact HB.out)) hb); clear HB; have HO361 := n0_; have HB := n1_; clear n0_ n1_; (try clear hb); (try clear hb2); (try clear hk); (try clear hi); (try clear ho0)))
  repeat (go_quiet (first | (go_at_call 9; (with_reducible refine (flex_Lex.calls k a0 t357 t358 t359 _ A2.out (by exact GW.at HG.out (by repeat (first | (with_reducible first | exact HB.out | apply below_alloc | apply pw_below_drewN | apply below_drew1) | exact HB.out)))).mono ?_); rintro e w4 ⟨v360, rfl, ho0, hb⟩; have n0_ := Aside0.mk (Kd.R_lower ho0 (below_size (by repeat (first | (with_reducible first | exact HB.out | apply below_alloc | apply pw_below_drewN | apply below_drew1) | exact HB.out)))); have n1_ := Aside0.mk (below_step (by repeat (first | (with_reducible first | exact HB.out | apply below_alloc | apply pw_below_drewN | apply below_drew1) | exact HB.out)) hb); clear HB; have HO361 := n0_; have HB := n1_; clear n0_ n1_; (try clear hb); (try clear hb2); (try clear hk); (try clear hi); (try clear ho0))); go_upto_region 2 with (first | (go_at_call 9; (with_reducible refine (flex_Lex.calls k a0 t357 t358 t359 _ A2.out (by exact GW.at HG.out (by repeat (first | (with_reducible first | exact HB.out | apply below_alloc | apply pw_below_drewN | apply below_drew1) | exact HB.out)))).mono ?_); rintro e w4 ⟨v360, rfl, ho0, hb⟩; have n0_ := Aside0.mk (Kd.R_lower ho0 (below_size (by repeat (first | (with_reducible first | exact HB.out | apply below_alloc | apply pw_below_drewN | apply below_drew1) | exact HB.out)))); have n1_ := Aside0.mk (below_step (by repeat (first | (with_reducible first | exact HB.out | apply below_alloc | apply pw_below_drewN | apply below_drew1) | exact HB.out)) hb); clear HB; have HO361 := n0_; have HB := n1_; clear n0_ n1_; (try clear hb); (try clear hb2); (try clear hk); (try clear hi); (try clear ho0))))
  (try simp only [Act.put, List.setIfInBounds_toArray, List.set_cons_zero, List.set_cons_succ])
  go_cut [22] (fun v22 wc => ∃ (kq : Nat) (x22_2 : Bool), v22 = .bool x22_2 ∧ Aside0 (ndjqlaw10_FlexOrder.j0 kq a0 t357 x22_2 = some r) ∧ Aside0 (kq ≤ k) ∧ Aside0 (Kd.R k33 33 wc w.heap.size (fun _ => True) v360 t357) ∧ Aside0 (Below w.heap.size w wc))
  case first =>
    have H := HC3.out
    clear HC3
    by_cases c5 : (a0.size : Int) > 200
    · rw [if_pos c5] at H
      have c5b0 : decide (200 < (a0.size : Int)) = true := decide_eq_true c5
      have c5b1 : decide (200 < a0.size) = true := decide_eq_true (by omega)
      clear c5
      (first | rw [c5b0] | (simp only [i64_w, i32_w]; rw [c5b0]) | skip)
      have H' := Aside0.mk H
      clear H
      go_wp2
      repeat (go_quiet (fail); try go_wp2)
      go_meet
      case rel => exact ⟨_, (true), (by first | rfl | (simp; done) | (simp [*]; done) | (simp [show (⟨#[]⟩ : ByteArray).size = 0 from rfl]; done)), H', ⟨by first | omega | exact Nat.le_refl _⟩, ⟨by (with_reducible repeat (first | apply Kd.R_alloc | apply Kd.R_drewN | apply Kd.R_drew)); exact HO361.out⟩, ⟨by repeat (first | (with_reducible first | exact HB.out | apply below_alloc | apply pw_below_drewN | apply below_drew1) | exact HB.out)⟩⟩
    · rw [if_neg c5] at H
      have c5b0 : decide (200 < (a0.size : Int)) = false := decide_eq_false c5
      have c5b1 : decide (200 < a0.size) = false := decide_eq_false (by omega)
      clear c5
      (first | rw [c5b0] | (simp only [i64_w, i32_w]; rw [c5b0]) | skip)
      have H' := Aside0.mk H
      clear H
      go_wp2
      repeat (go_quiet (fail); try go_wp2)
      go_meet
      case rel => exact ⟨_, ((t359 != 0)), (by first | rfl | (simp; done) | (simp [*]; done) | (simp [show (⟨#[]⟩ : ByteArray).size = 0 from rfl]; done)), H', ⟨by first | omega | exact Nat.le_refl _⟩, ⟨by (with_reducible repeat (first | apply Kd.R_alloc | apply Kd.R_drewN | apply Kd.R_drew)); exact HO361.out⟩, ⟨by repeat (first | (with_reducible first | exact HB.out | apply below_alloc | apply pw_below_drewN | apply below_drew1) | exact HB.out)⟩⟩
  case rest =>
    clear HC3
    try clear p2
    try clear c4
    try clear c5
    try clear c5b0
    try clear c5b1
    obtain ⟨kq, x22_2, rfl, HA, HJ2, HO_3, HB⟩ := hcut
    cases kq with
    | zero => exact absurd HA.out (by simp [ndjqlaw10_FlexOrder.j0])
    | succ kj2 =>
      have H := HA.out
      clear HA
      simp only [ndjqlaw10_FlexOrder.j0] at H
      by_cases c6 : x22_2 = true
      · subst c6
        have H1 : ((ndjqlaw10_awake.f kj2).bind fun t362 => (some t362)) = some r := by rw [if_pos rfl] at H; exact H
        clear H
        have H := H1
        clear H1
        replace H := Option.bind_eq_some_iff.mp H
        obtain ⟨t362, A70, H⟩ := H
        replace H : (some t362) = some r := H
        have A7 := Aside0.mk A70
        clear A70
        obtain rfl := Option.some.inj H
        go_wp2_with (first | (go_at_call 12; (with_reducible refine (ndjqlaw10_awake.calls kj2  t362 _ A7.out (by exact GW.at HG.out (by repeat (first | (with_reducible first | exact HB.out | apply below_alloc | apply pw_below_drewN | apply below_drew1) | exact HB.out)))).mono ?_); rintro e w8 ⟨rfl, hb⟩; have n0_ := Aside0.mk (Kd.R_below (by (with_reducible repeat (first | apply Kd.R_alloc | apply Kd.R_drewN | apply Kd.R_drew)); exact HO_3.out) hb); have n1_ := Aside0.mk (below_step (by repeat (first | (with_reducible first | exact HB.out | apply below_alloc | apply pw_below_drewN | apply below_drew1) | exact HB.out)) hb); clear HO_3; clear HB; have HO_3 := n0_; have HB := n1_; clear n0_ n1_; (try clear hb); (try clear hb2); (try clear hk); (try clear hi)))
        repeat (go_quiet (first | (go_at_call 12; (with_reducible refine (ndjqlaw10_awake.calls kj2  t362 _ A7.out (by exact GW.at HG.out (by repeat (first | (with_reducible first | exact HB.out | apply below_alloc | apply pw_below_drewN | apply below_drew1) | exact HB.out)))).mono ?_); rintro e w8 ⟨rfl, hb⟩; have n0_ := Aside0.mk (Kd.R_below (by (with_reducible repeat (first | apply Kd.R_alloc | apply Kd.R_drewN | apply Kd.R_drew)); exact HO_3.out) hb); have n1_ := Aside0.mk (below_step (by repeat (first | (with_reducible first | exact HB.out | apply below_alloc | apply pw_below_drewN | apply below_drew1) | exact HB.out)) hb); clear HO_3; clear HB; have HO_3 := n0_; have HB := n1_; clear n0_ n1_; (try clear hb); (try clear hb2); (try clear hk); (try clear hi))); try go_wp2_with (first | (go_at_call 12; (with_reducible refine (ndjqlaw10_awake.calls kj2  t362 _ A7.out (by exact GW.at HG.out (by repeat (first | (with_reducible first | exact HB.out | apply below_alloc | apply pw_below_drewN | apply below_drew1) | exact HB.out)))).mono ?_); rintro e w8 ⟨rfl, hb⟩; have n0_ := Aside0.mk (Kd.R_below (by (with_reducible repeat (first | apply Kd.R_alloc | apply Kd.R_drewN | apply Kd.R_drew)); exact HO_3.out) hb); have n1_ := Aside0.mk (below_step (by repeat (first | (with_reducible first | exact HB.out | apply below_alloc | apply pw_below_drewN | apply below_drew1) | exact HB.out)) hb); clear HO_3; clear HB; have HO_3 := n0_; have HB := n1_; clear n0_ n1_; (try clear hb); (try clear hb2); (try clear hk); (try clear hi))))
        go_ret
        exact ⟨by first | rfl | (simp [errW_none, errW_some] <;> rfl) | (simp [*, errW_none, errW_some] <;> rfl), by repeat (first | (with_reducible first | exact HB.out | apply below_alloc | apply pw_below_drewN | apply below_drew1) | exact HB.out)⟩
      · replace c6 := Bool.eq_false_iff.mpr c6
        subst c6
        have H1 : (ndjqlaw10_FlexOrder.l0 kj2 a0 t357 0 0) = some r := by rw [if_neg (show ¬ (false = true) by decide)] at H; exact H
        clear H
        have H := H1
        clear H1
        have H' := Aside0.mk H
        clear H
        go_wp2
        repeat (go_quiet (fail); try go_wp2)
        go_loopg [6, 7] kj2 (fun kq v6 v7 w' => ∃ (x6_2 : Int) (x7_2 : Int), v6 = .int .i64 x6_2 ∧ v7 = .int .i64 x7_2 ∧ Aside0 (ndjqlaw10_FlexOrder.l0 kq a0 t357 x6_2 x7_2 = some r) ∧ Aside0 (kq ≤ kj2) ∧ Aside0 (Kd.R k33 33 w' w.heap.size (fun _ => True) v360 t357) ∧ Aside0 (Below w.heap.size w w'))
        case atStart => exact ⟨(0), (0), (by first | rfl | (simp; done) | (simp [*]; done) | (simp [show (⟨#[]⟩ : ByteArray).size = 0 from rfl]; done)), (by first | rfl | (simp; done) | (simp [*]; done) | (simp [show (⟨#[]⟩ : ByteArray).size = 0 from rfl]; done)), H', ⟨Nat.le_refl _⟩, ⟨by (with_reducible repeat (first | apply Kd.R_alloc | apply Kd.R_drewN | apply Kd.R_drew)); exact HO_3.out⟩, ⟨by repeat (first | (with_reducible first | exact HB.out | apply below_alloc | apply pw_below_drewN | apply below_drew1) | exact HB.out)⟩⟩
        case round =>
          clear H'
          try clear p2
          try clear c4
          try clear c5
          try clear c5b0
          try clear c5b1
          try clear c6
          try clear p2
          obtain ⟨x6_2, x7_2, rfl, rfl, HA, HK2, HO_3, HB⟩ := hrel
          cases gk with
          | zero => exact absurd HA.out (by simp [ndjqlaw10_FlexOrder.l0])
          | succ k2 =>
            have H := HA.out
            clear HA
            simp only [ndjqlaw10_FlexOrder.l0] at H
            by_cases c9 : x7_2 < (t357.length : Int)
            · rw [if_pos c9] at H
              have c9b0 : decide (x7_2 < (t357.length : Int)) = true := decide_eq_true c9
              clear c9
              by_cases c10 : 0 ≤ x7_2
              · rw [if_pos c10] at H
                have c10b0 : decide (0 ≤ x7_2) = true := decide_eq_true c10
                clear c10
                have HC11 := Aside0.mk H
                clear H
                obtain ⟨Ao12, co12, eo12⟩ := Kd.R_slice HO_3.out
                subst eo12
                have p365 : 0 ≤ (x7_2 : Int) := of_decide_eq_true (by first | (with_reducible assumption) | assumption)
                have q365 : x7_2 < (t357.length : Int) := of_decide_eq_true (by first | (with_reducible assumption) | assumption)
                obtain ⟨ad365, e365, hx365_0, hx365_1, hx365_2, hx365_3⟩ := at_T33 (Kd.R_reads' HO_3.out).2.2 x7_2 p365 q365
                cases e365
                replace p365 := eq_true p365
                replace q365 := eq_true q365
                go_upto_region 9 with (first | ((with_reducible refine gate_dst (N := 8) rfl ?_); (try (refine gate_guard (by rfl) ?_; dsimp only)); refine box_event ?hg (N := 8) ?hd (cs := #[.int .i64 0, .int .i64 0, .string (⟨#[]⟩ : ByteArray), .int .i64 0]) (t := 33) ?hr ?_; (case hd => rfl); (case hg => rfl); (case hr => first | (go_simp; done) | (go_simp; rfl)); intro gb366 hg w13 hbox hb; have n0_ := Aside0.mk (Kd.R_below (Kd.R_elderB (by (with_reducible repeat (first | apply Kd.R_alloc | apply Kd.R_drewN | apply Kd.R_drew)); exact HO_3.out) gb366 (Nat.le_of_eq hg.symm)) hb); have n1_ := Aside0.mk (below_step (by repeat (first | (with_reducible first | exact HB.out | apply below_alloc | apply pw_below_drewN | apply below_drew1) | exact HB.out)) hb); have n2_ := Aside0.mk (hbox); have n3_ := Aside0.mk ((by rw [hg]; exact (below_size (by repeat (first | (with_reducible first | exact HB.out | apply below_alloc | apply pw_below_drewN | apply below_drew1) | exact HB.out))) : w.heap.size ≤ gb366)); have n4_ := Aside0.mk ((by rw [hg]; exact (below_size (by repeat (first | (with_reducible first | exact HB.out | apply below_alloc | apply pw_below_drewN | apply below_drew1) | exact HB.out))) : w.heap.size ≤ gb366)); clear HO_3; clear HB; have HO_3 := n0_; have HB := n1_; have BK366 := n2_; have GW366 := n3_; have GE366 := n4_; clear n0_ n1_ n2_ n3_ n4_; clear hb hbox hg; have hcz14_0 : w13.cell? ⟨gb366, 0, none⟩ = some (.int .i64 0) := (blk_cell BK366.out 0).trans rfl; have hcz14_1 : w13.cell? ⟨gb366, 1, none⟩ = some (.int .i64 0) := (blk_cell BK366.out 1).trans rfl; have hcz14_2 : w13.cell? ⟨gb366, 2, none⟩ = some (.string (⟨#[]⟩ : ByteArray)) := (blk_cell BK366.out 2).trans rfl; have hcz14_3 : w13.cell? ⟨gb366, 3, none⟩ = some (.int .i64 0) := (blk_cell BK366.out 3).trans rfl; have hfz14_0 := blk_frozen BK366.out 0; have hfz14_1 := blk_frozen BK366.out 1; have hfz14_2 := blk_frozen BK366.out 2; have hfz14_3 := blk_frozen BK366.out 3))
                repeat (go_quiet (first | ((with_reducible refine gate_dst (N := 8) rfl ?_); (try (refine gate_guard (by rfl) ?_; dsimp only)); refine box_event ?hg (N := 8) ?hd (cs := #[.int .i64 0, .int .i64 0, .string (⟨#[]⟩ : ByteArray), .int .i64 0]) (t := 33) ?hr ?_; (case hd => rfl); (case hg => rfl); (case hr => first | (go_simp; done) | (go_simp; rfl)); intro gb366 hg w13 hbox hb; have n0_ := Aside0.mk (Kd.R_below (Kd.R_elderB (by (with_reducible repeat (first | apply Kd.R_alloc | apply Kd.R_drewN | apply Kd.R_drew)); exact HO_3.out) gb366 (Nat.le_of_eq hg.symm)) hb); have n1_ := Aside0.mk (below_step (by repeat (first | (with_reducible first | exact HB.out | apply below_alloc | apply pw_below_drewN | apply below_drew1) | exact HB.out)) hb); have n2_ := Aside0.mk (hbox); have n3_ := Aside0.mk ((by rw [hg]; exact (below_size (by repeat (first | (with_reducible first | exact HB.out | apply below_alloc | apply pw_below_drewN | apply below_drew1) | exact HB.out))) : w.heap.size ≤ gb366)); have n4_ := Aside0.mk ((by rw [hg]; exact (below_size (by repeat (first | (with_reducible first | exact HB.out | apply below_alloc | apply pw_below_drewN | apply below_drew1) | exact HB.out))) : w.heap.size ≤ gb366)); clear HO_3; clear HB; have HO_3 := n0_; have HB := n1_; have BK366 := n2_; have GW366 := n3_; have GE366 := n4_; clear n0_ n1_ n2_ n3_ n4_; clear hb hbox hg; have hcz14_0 : w13.cell? ⟨gb366, 0, none⟩ = some (.int .i64 0) := (blk_cell BK366.out 0).trans rfl; have hcz14_1 : w13.cell? ⟨gb366, 1, none⟩ = some (.int .i64 0) := (blk_cell BK366.out 1).trans rfl; have hcz14_2 : w13.cell? ⟨gb366, 2, none⟩ = some (.string (⟨#[]⟩ : ByteArray)) := (blk_cell BK366.out 2).trans rfl; have hcz14_3 : w13.cell? ⟨gb366, 3, none⟩ = some (.int .i64 0) := (blk_cell BK366.out 3).trans rfl; have hfz14_0 := blk_frozen BK366.out 0; have hfz14_1 := blk_frozen BK366.out 1; have hfz14_2 := blk_frozen BK366.out 2; have hfz14_3 := blk_frozen BK366.out 3)); go_upto_region 9 with (first | ((with_reducible refine gate_dst (N := 8) rfl ?_); (try (refine gate_guard (by rfl) ?_; dsimp only)); refine box_event ?hg (N := 8) ?hd (cs := #[.int .i64 0, .int .i64 0, .string (⟨#[]⟩ : ByteArray), .int .i64 0]) (t := 33) ?hr ?_; (case hd => rfl); (case hg => rfl); (case hr => first | (go_simp; done) | (go_simp; rfl)); intro gb366 hg w13 hbox hb; have n0_ := Aside0.mk (Kd.R_below (Kd.R_elderB (by (with_reducible repeat (first | apply Kd.R_alloc | apply Kd.R_drewN | apply Kd.R_drew)); exact HO_3.out) gb366 (Nat.le_of_eq hg.symm)) hb); have n1_ := Aside0.mk (below_step (by repeat (first | (with_reducible first | exact HB.out | apply below_alloc | apply pw_below_drewN | apply below_drew1) | exact HB.out)) hb); have n2_ := Aside0.mk (hbox); have n3_ := Aside0.mk ((by rw [hg]; exact (below_size (by repeat (first | (with_reducible first | exact HB.out | apply below_alloc | apply pw_below_drewN | apply below_drew1) | exact HB.out))) : w.heap.size ≤ gb366)); have n4_ := Aside0.mk ((by rw [hg]; exact (below_size (by repeat (first | (with_reducible first | exact HB.out | apply below_alloc | apply pw_below_drewN | apply below_drew1) | exact HB.out))) : w.heap.size ≤ gb366)); clear HO_3; clear HB; have HO_3 := n0_; have HB := n1_; have BK366 := n2_; have GW366 := n3_; have GE366 := n4_; clear n0_ n1_ n2_ n3_ n4_; clear hb hbox hg; have hcz14_0 : w13.cell? ⟨gb366, 0, none⟩ = some (.int .i64 0) := (blk_cell BK366.out 0).trans rfl; have hcz14_1 : w13.cell? ⟨gb366, 1, none⟩ = some (.int .i64 0) := (blk_cell BK366.out 1).trans rfl; have hcz14_2 : w13.cell? ⟨gb366, 2, none⟩ = some (.string (⟨#[]⟩ : ByteArray)) := (blk_cell BK366.out 2).trans rfl; have hcz14_3 : w13.cell? ⟨gb366, 3, none⟩ = some (.int .i64 0) := (blk_cell BK366.out 3).trans rfl; have hfz14_0 := blk_frozen BK366.out 0; have hfz14_1 := blk_frozen BK366.out 1; have hfz14_2 := blk_frozen BK366.out 2; have hfz14_3 := blk_frozen BK366.out 3)))
                (try simp only [Act.put, List.setIfInBounds_toArray, List.set_cons_zero, List.set_cons_succ])
                go_cut [55] (fun v55 wc => ∃ (kq : Nat) (x55_10 : Bool), v55 = .bool x55_10 ∧ Aside0 (ndjqlaw10_FlexOrder.j2 kq a0 t357 x7_2 x55_10 ((rd_T33 t357 x7_2).f0) ((rd_T33 t357 x7_2).f1) ((rd_T33 t357 x7_2).f2) ((rd_T33 t357 x7_2).f3) = some r) ∧ Aside0 (kq ≤ k2) ∧ Aside0 (Kd.R k33 33 wc w.heap.size (fun k_ => k_ ≠ gb366) (.slice (some ad365) t357.length co12) t357) ∧ Aside0 (wc.heap[gb366]? = some (.cells #[.int .i64 ((rd_T33 t357 x7_2).f0), .int .i64 ((rd_T33 t357 x7_2).f1), .string ((rd_T33 t357 x7_2).f2), .int .i64 ((rd_T33 t357 x7_2).f3)] 33 (0, 0))) ∧ Aside0 (Below w.heap.size w wc))
                case first =>
                  have H := HC11.out
                  clear HC11
                  by_cases c15 : ((rd_T33 t357 x7_2).f1) < x6_2
                  · rw [if_pos c15] at H
                    have c15b0 : decide (((rd_T33 t357 x7_2).f1) < x6_2) = true := decide_eq_true c15
                    clear c15
                    (first | rw [c15b0] | (simp only [i64_w, i32_w]; rw [c15b0]) | skip)
                    have H' := Aside0.mk H
                    clear H
                    have hcz16_0 : w13.cell? ⟨gb366, 0, none⟩ = some (.int .i64 0) := (blk_cell BK366.out 0).trans rfl
                    have hcz16_1 : w13.cell? ⟨gb366, 1, none⟩ = some (.int .i64 0) := (blk_cell BK366.out 1).trans rfl
                    have hcz16_2 : w13.cell? ⟨gb366, 2, none⟩ = some (.string (⟨#[]⟩ : ByteArray)) := (blk_cell BK366.out 2).trans rfl
                    have hcz16_3 : w13.cell? ⟨gb366, 3, none⟩ = some (.int .i64 0) := (blk_cell BK366.out 3).trans rfl
                    have hfz16_0 := blk_frozen BK366.out 0
                    have hfz16_1 := blk_frozen BK366.out 1
                    have hfz16_2 := blk_frozen BK366.out 2
                    have hfz16_3 := blk_frozen BK366.out 3
                    go_wp2
                    repeat (go_quiet (fail); try go_wp2)
                    go_meet
                    case rel => exact ⟨_, (true), (by first | rfl | (simp; done) | (simp [*]; done) | (simp [show (⟨#[]⟩ : ByteArray).size = 0 from rfl]; done)), H', ⟨by have := HJ2.out; have := HK2.out; first | omega | exact Nat.le_refl _⟩, ⟨by (with_reducible repeat (first | apply Kd.R_alloc | apply Kd.R_drewN | apply Kd.R_drew)); exact Kd.R_mono (Kd.R_far (p := ⟨gb366, 3, none⟩) (Kd.R_far (p := ⟨gb366, 2, none⟩) (Kd.R_far (p := ⟨gb366, 1, none⟩) (Kd.R_far (p := ⟨gb366, 0, none⟩) (Kd.R_mono HO_3.out (fun k_ hk => (⟨hk, hk.2⟩ : _ ∧ k_ ≠ gb366))) (fun _ hk => hk.2) (.int .i64 ((rd_T33 t357 x7_2).f0))) (fun _ hk => hk.2) (.int .i64 ((rd_T33 t357 x7_2).f1))) (fun _ hk => hk.2) (.string ((rd_T33 t357 x7_2).f2))) (fun _ hk => hk.2) (.int .i64 ((rd_T33 t357 x7_2).f3))) (fun _ hk => hk.1.2)⟩, ⟨by (with_reducible repeat (first | refine blk_drewN ?_ _ | refine blk_drew ?_ | refine blk_alloc ?_ _)); refine blk_put (cs := #[.int .i64 ((rd_T33 t357 x7_2).f0), .int .i64 ((rd_T33 t357 x7_2).f1), .string ((rd_T33 t357 x7_2).f2), .int .i64 0]) ?_ 3 _ rfl; (with_reducible repeat (first | refine blk_drewN ?_ _ | refine blk_drew ?_ | refine blk_alloc ?_ _)); refine blk_put (cs := #[.int .i64 ((rd_T33 t357 x7_2).f0), .int .i64 ((rd_T33 t357 x7_2).f1), .string (⟨#[]⟩ : ByteArray), .int .i64 0]) ?_ 2 _ rfl; (with_reducible repeat (first | refine blk_drewN ?_ _ | refine blk_drew ?_ | refine blk_alloc ?_ _)); refine blk_put (cs := #[.int .i64 ((rd_T33 t357 x7_2).f0), .int .i64 0, .string (⟨#[]⟩ : ByteArray), .int .i64 0]) ?_ 1 _ rfl; (with_reducible repeat (first | refine blk_drewN ?_ _ | refine blk_drew ?_ | refine blk_alloc ?_ _)); refine blk_put (cs := #[.int .i64 0, .int .i64 0, .string (⟨#[]⟩ : ByteArray), .int .i64 0]) ?_ 0 _ rfl; (with_reducible repeat (first | refine blk_drewN ?_ _ | refine blk_drew ?_ | refine blk_alloc ?_ _)); exact BK366.out⟩, ⟨by repeat (first | (with_reducible first | exact HB.out | apply below_alloc | apply pw_below_drewN | apply below_drew1 | refine below_set ?_ GE366.out) | exact HB.out)⟩⟩
                  · rw [if_neg c15] at H
                    have c15b0 : decide (((rd_T33 t357 x7_2).f1) < x6_2) = false := decide_eq_false c15
                    clear c15
                    (first | rw [c15b0] | (simp only [i64_w, i32_w]; rw [c15b0]) | skip)
                    by_cases c17 : ((rd_T33 t357 x7_2).f1) > (a0.size : Int)
                    · rw [if_pos c17] at H
                      have c17b0 : decide ((a0.size : Int) < ((rd_T33 t357 x7_2).f1)) = true := decide_eq_true c17
                      clear c17
                      have H' := Aside0.mk H
                      clear H
                      have hcz18_0 : w13.cell? ⟨gb366, 0, none⟩ = some (.int .i64 0) := (blk_cell BK366.out 0).trans rfl
                      have hcz18_1 : w13.cell? ⟨gb366, 1, none⟩ = some (.int .i64 0) := (blk_cell BK366.out 1).trans rfl
                      have hcz18_2 : w13.cell? ⟨gb366, 2, none⟩ = some (.string (⟨#[]⟩ : ByteArray)) := (blk_cell BK366.out 2).trans rfl
                      have hcz18_3 : w13.cell? ⟨gb366, 3, none⟩ = some (.int .i64 0) := (blk_cell BK366.out 3).trans rfl
                      have hfz18_0 := blk_frozen BK366.out 0
                      have hfz18_1 := blk_frozen BK366.out 1
                      have hfz18_2 := blk_frozen BK366.out 2
                      have hfz18_3 := blk_frozen BK366.out 3
                      go_wp2
                      repeat (go_quiet (fail); try go_wp2)
                      go_meet
                      case rel => exact ⟨_, (true), (by first | rfl | (simp; done) | (simp [*]; done) | (simp [show (⟨#[]⟩ : ByteArray).size = 0 from rfl]; done)), H', ⟨by have := HJ2.out; have := HK2.out; first | omega | exact Nat.le_refl _⟩, ⟨by (with_reducible repeat (first | apply Kd.R_alloc | apply Kd.R_drewN | apply Kd.R_drew)); exact Kd.R_mono (Kd.R_far (p := ⟨gb366, 3, none⟩) (Kd.R_far (p := ⟨gb366, 2, none⟩) (Kd.R_far (p := ⟨gb366, 1, none⟩) (Kd.R_far (p := ⟨gb366, 0, none⟩) (Kd.R_mono HO_3.out (fun k_ hk => (⟨hk, hk.2⟩ : _ ∧ k_ ≠ gb366))) (fun _ hk => hk.2) (.int .i64 ((rd_T33 t357 x7_2).f0))) (fun _ hk => hk.2) (.int .i64 ((rd_T33 t357 x7_2).f1))) (fun _ hk => hk.2) (.string ((rd_T33 t357 x7_2).f2))) (fun _ hk => hk.2) (.int .i64 ((rd_T33 t357 x7_2).f3))) (fun _ hk => hk.1.2)⟩, ⟨by (with_reducible repeat (first | refine blk_drewN ?_ _ | refine blk_drew ?_ | refine blk_alloc ?_ _)); refine blk_put (cs := #[.int .i64 ((rd_T33 t357 x7_2).f0), .int .i64 ((rd_T33 t357 x7_2).f1), .string ((rd_T33 t357 x7_2).f2), .int .i64 0]) ?_ 3 _ rfl; (with_reducible repeat (first | refine blk_drewN ?_ _ | refine blk_drew ?_ | refine blk_alloc ?_ _)); refine blk_put (cs := #[.int .i64 ((rd_T33 t357 x7_2).f0), .int .i64 ((rd_T33 t357 x7_2).f1), .string (⟨#[]⟩ : ByteArray), .int .i64 0]) ?_ 2 _ rfl; (with_reducible repeat (first | refine blk_drewN ?_ _ | refine blk_drew ?_ | refine blk_alloc ?_ _)); refine blk_put (cs := #[.int .i64 ((rd_T33 t357 x7_2).f0), .int .i64 0, .string (⟨#[]⟩ : ByteArray), .int .i64 0]) ?_ 1 _ rfl; (with_reducible repeat (first | refine blk_drewN ?_ _ | refine blk_drew ?_ | refine blk_alloc ?_ _)); refine blk_put (cs := #[.int .i64 0, .int .i64 0, .string (⟨#[]⟩ : ByteArray), .int .i64 0]) ?_ 0 _ rfl; (with_reducible repeat (first | refine blk_drewN ?_ _ | refine blk_drew ?_ | refine blk_alloc ?_ _)); exact BK366.out⟩, ⟨by repeat (first | (with_reducible first | exact HB.out | apply below_alloc | apply pw_below_drewN | apply below_drew1 | refine below_set ?_ GE366.out) | exact HB.out)⟩⟩
                    · rw [if_neg c17] at H
                      have c17b0 : decide ((a0.size : Int) < ((rd_T33 t357 x7_2).f1)) = false := decide_eq_false c17
                      clear c17
                      have H' := Aside0.mk H
                      clear H
                      have hcz19_0 : w13.cell? ⟨gb366, 0, none⟩ = some (.int .i64 0) := (blk_cell BK366.out 0).trans rfl
                      have hcz19_1 : w13.cell? ⟨gb366, 1, none⟩ = some (.int .i64 0) := (blk_cell BK366.out 1).trans rfl
                      have hcz19_2 : w13.cell? ⟨gb366, 2, none⟩ = some (.string (⟨#[]⟩ : ByteArray)) := (blk_cell BK366.out 2).trans rfl
                      have hcz19_3 : w13.cell? ⟨gb366, 3, none⟩ = some (.int .i64 0) := (blk_cell BK366.out 3).trans rfl
                      have hfz19_0 := blk_frozen BK366.out 0
                      have hfz19_1 := blk_frozen BK366.out 1
                      have hfz19_2 := blk_frozen BK366.out 2
                      have hfz19_3 := blk_frozen BK366.out 3
                      go_wp2
                      repeat (go_quiet (fail); try go_wp2)
                      go_meet
                      case rel => exact ⟨_, (((((rd_T33 t357 x7_2).f0) == 0) != (x7_2 == (wrap64 ((t357.length : Int) - 1))))), (by first | rfl | (simp; done) | (simp [*]; done) | (simp [show (⟨#[]⟩ : ByteArray).size = 0 from rfl]; done)), H', ⟨by have := HJ2.out; have := HK2.out; first | omega | exact Nat.le_refl _⟩, ⟨by (with_reducible repeat (first | apply Kd.R_alloc | apply Kd.R_drewN | apply Kd.R_drew)); exact Kd.R_mono (Kd.R_far (p := ⟨gb366, 3, none⟩) (Kd.R_far (p := ⟨gb366, 2, none⟩) (Kd.R_far (p := ⟨gb366, 1, none⟩) (Kd.R_far (p := ⟨gb366, 0, none⟩) (Kd.R_mono HO_3.out (fun k_ hk => (⟨hk, hk.2⟩ : _ ∧ k_ ≠ gb366))) (fun _ hk => hk.2) (.int .i64 ((rd_T33 t357 x7_2).f0))) (fun _ hk => hk.2) (.int .i64 ((rd_T33 t357 x7_2).f1))) (fun _ hk => hk.2) (.string ((rd_T33 t357 x7_2).f2))) (fun _ hk => hk.2) (.int .i64 ((rd_T33 t357 x7_2).f3))) (fun _ hk => hk.1.2)⟩, ⟨by (with_reducible repeat (first | refine blk_drewN ?_ _ | refine blk_drew ?_ | refine blk_alloc ?_ _)); refine blk_put (cs := #[.int .i64 ((rd_T33 t357 x7_2).f0), .int .i64 ((rd_T33 t357 x7_2).f1), .string ((rd_T33 t357 x7_2).f2), .int .i64 0]) ?_ 3 _ rfl; (with_reducible repeat (first | refine blk_drewN ?_ _ | refine blk_drew ?_ | refine blk_alloc ?_ _)); refine blk_put (cs := #[.int .i64 ((rd_T33 t357 x7_2).f0), .int .i64 ((rd_T33 t357 x7_2).f1), .string (⟨#[]⟩ : ByteArray), .int .i64 0]) ?_ 2 _ rfl; (with_reducible repeat (first | refine blk_drewN ?_ _ | refine blk_drew ?_ | refine blk_alloc ?_ _)); refine blk_put (cs := #[.int .i64 ((rd_T33 t357 x7_2).f0), .int .i64 0, .string (⟨#[]⟩ : ByteArray), .int .i64 0]) ?_ 1 _ rfl; (with_reducible repeat (first | refine blk_drewN ?_ _ | refine blk_drew ?_ | refine blk_alloc ?_ _)); refine blk_put (cs := #[.int .i64 0, .int .i64 0, .string (⟨#[]⟩ : ByteArray), .int .i64 0]) ?_ 0 _ rfl; (with_reducible repeat (first | refine blk_drewN ?_ _ | refine blk_drew ?_ | refine blk_alloc ?_ _)); exact BK366.out⟩, ⟨by repeat (first | (with_reducible first | exact HB.out | apply below_alloc | apply pw_below_drewN | apply below_drew1 | refine below_set ?_ GE366.out) | exact HB.out)⟩⟩
                case rest =>
                  clear HC11
                  try clear c1
                  try clear p2
                  try clear p3
                  try clear q3
                  try clear hx3
                  try clear c4
                  try clear c5
                  try clear c5b0
                  try clear c5b1
                  try clear c6
                  try clear p6
                  try clear c9
                  try clear c9b0
                  try clear c10
                  try clear c10b0
                  try clear c15
                  try clear c15b0
                  try clear c17
                  try clear c17b0
                  try clear hcz14_0
                  try clear hcz14_1
                  try clear hcz14_2
                  try clear hcz14_3
                  try clear hcz16_0
                  try clear hcz16_1
                  try clear hcz16_2
                  try clear hcz16_3
                  try clear hcz18_0
                  try clear hcz18_1
                  try clear hcz18_2
                  try clear hcz18_3
                  try clear hcz19_0
                  try clear hcz19_1
                  try clear hcz19_2
                  try clear hcz19_3
                  try clear hfz14_0
                  try clear hfz14_1
                  try clear hfz14_2
                  try clear hfz14_3
                  try clear hfz16_0
                  try clear hfz16_1
                  try clear hfz16_2
                  try clear hfz16_3
                  try clear hfz18_0
                  try clear hfz18_1
                  try clear hfz18_2
                  try clear hfz18_3
                  try clear hfz19_0
                  try clear hfz19_1
                  try clear hfz19_2
                  try clear hfz19_3
                  try clear hx365_0
                  try clear hx365_1
                  try clear hx365_2
                  try clear hx365_3
                  try clear p2
                  try clear p365
                  try clear q365
                  obtain ⟨kq, x55_10, rfl, HA, HJ10, HO_3, BK366, HB⟩ := hcut
                  cases kq with
                  | zero => exact absurd HA.out (by simp [ndjqlaw10_FlexOrder.j2])
                  | succ kj10 =>
                    have H := HA.out
                    clear HA
                    simp only [ndjqlaw10_FlexOrder.j2] at H
                    by_cases c20 : x55_10 = true
                    · subst c20
                      have H1 : (some false) = some r := by rw [if_pos rfl] at H; exact H
                      clear H
                      have H := H1
                      clear H1
                      obtain rfl := Option.some.inj H
                      go_wp2
                      repeat (go_quiet (fail); try go_wp2)
                      go_ret
                      exact ⟨by first | rfl | (simp [errW_none, errW_some] <;> rfl) | (simp [*, errW_none, errW_some] <;> rfl), by repeat (first | (with_reducible first | exact HB.out | apply below_alloc | apply pw_below_drewN | apply below_drew1 | refine below_set ?_ GE366.out) | exact HB.out)⟩
                    · replace c20 := Bool.eq_false_iff.mpr c20
                      subst c20
                      have H1 : (if ((rd_T33 t357 x7_2).f0) = 3 then (if 1 + ((rd_T33 t357 x7_2).f2).size ≤ 9223372036854775807 then (if 0 ≤ ((rd_T33 t357 x7_2).f1) then (if ((rd_T33 t357 x7_2).f1) ≤ (a0.size : Int) then ((ndjqkeep_Prefix.f ((⟨#[36]⟩ : ByteArray) ++ ((rd_T33 t357 x7_2).f2)) (a0.extract (((rd_T33 t357 x7_2).f1) : Int).toNat a0.size)).bind fun t367 => (if t367 = true then (if ((rd_T33 t357 x7_2).f2).toList = ([] : List UInt8) then (some false) else (ndjqlaw10_FlexOrder.l0 kj10 a0 t357 (wrap64 ((wrap64 (((rd_T33 t357 x7_2).f1) + 1)) + (((rd_T33 t357 x7_2).f2).size : Int))) (wrap64 (x7_2 + 1)))) else (some false))) else (none)) else (none)) else (none)) else (if ((rd_T33 t357 x7_2).f0) = 4 then (if 1 + ((rd_T33 t357 x7_2).f2).size ≤ 9223372036854775807 then (if 0 ≤ ((rd_T33 t357 x7_2).f1) then (if ((rd_T33 t357 x7_2).f1) ≤ (a0.size : Int) then ((ndjqkeep_Prefix.f ((⟨#[46]⟩ : ByteArray) ++ ((rd_T33 t357 x7_2).f2)) (a0.extract (((rd_T33 t357 x7_2).f1) : Int).toNat a0.size)).bind fun t368 => (if t368 = true then (if ((rd_T33 t357 x7_2).f2).toList = ([] : List UInt8) then (some false) else (ndjqlaw10_FlexOrder.l0 kj10 a0 t357 (wrap64 ((wrap64 (((rd_T33 t357 x7_2).f1) + 1)) + (((rd_T33 t357 x7_2).f2).size : Int))) (wrap64 (x7_2 + 1)))) else (some false))) else (none)) else (none)) else (none)) else (if ((rd_T33 t357 x7_2).f0) = 5 then (ndjqlaw10_FlexOrder.j3 kj10 a0 t357 x7_2 (⟨#[]⟩ : ByteArray) (((rd_T33 t357 x7_2).f0) == 5) ((rd_T33 t357 x7_2).f0) ((rd_T33 t357 x7_2).f1) ((rd_T33 t357 x7_2).f2) ((rd_T33 t357 x7_2).f3)) else (if ((rd_T33 t357 x7_2).f0) = 6 then (ndjqlaw10_FlexOrder.j3 kj10 a0 t357 x7_2 (⟨#[]⟩ : ByteArray) (((rd_T33 t357 x7_2).f0) == 6) ((rd_T33 t357 x7_2).f0) ((rd_T33 t357 x7_2).f1) ((rd_T33 t357 x7_2).f2) ((rd_T33 t357 x7_2).f3)) else (ndjqlaw10_FlexOrder.j3 kj10 a0 t357 x7_2 (⟨#[]⟩ : ByteArray) (((rd_T33 t357 x7_2).f0) == 0) ((rd_T33 t357 x7_2).f0) ((rd_T33 t357 x7_2).f1) ((rd_T33 t357 x7_2).f2) ((rd_T33 t357 x7_2).f3)))))) = some r := by rw [if_neg (show ¬ (false = true) by decide)] at H; exact H
                      clear H
                      have H := H1
                      clear H1
                      by_cases c21 : ((rd_T33 t357 x7_2).f0) = 3
                      · rw [if_pos c21] at H
                        have c21b0 : (((rd_T33 t357 x7_2).f0) == 3) = true := beq_iff_eq.mpr c21
                        have c21b1 : (((rd_T33 t357 x7_2).f0) != 3) = false := bne_eq_false_iff_eq.mpr c21
                        clear c21
                        by_cases c22 : 1 + ((rd_T33 t357 x7_2).f2).size ≤ 9223372036854775807
                        · rw [if_pos c22] at H
                          have c22b0 := eq_true c22
                          have c22b1 : decide (1 + ((rd_T33 t357 x7_2).f2).size ≤ 9223372036854775807) = true := decide_eq_true c22
                          try have c22b2 : (9223372036854775807 < 1 + ((rd_T33 t357 x7_2).f2).size) = False := eq_false (Nat.not_lt.2 c22)
                          by_cases c23 : 0 ≤ ((rd_T33 t357 x7_2).f1)
                          · rw [if_pos c23] at H
                            have c23b0 := eq_true c23
                            have c23b1 : decide (0 ≤ ((rd_T33 t357 x7_2).f1)) = true := decide_eq_true c23
                            clear c23
                            by_cases c24 : ((rd_T33 t357 x7_2).f1) ≤ (a0.size : Int)
                            · rw [if_pos c24] at H
                              have c24b0 := eq_true c24
                              have c24b1 : decide (((rd_T33 t357 x7_2).f1) ≤ (a0.size : Int)) = true := decide_eq_true c24
                              clear c24
                              replace H := Option.bind_eq_some_iff.mp H
                              obtain ⟨t367, A250, H⟩ := H
                              replace H : (if t367 = true then (if ((rd_T33 t357 x7_2).f2).toList = ([] : List UInt8) then (some false) else (ndjqlaw10_FlexOrder.l0 kj10 a0 t357 (wrap64 ((wrap64 (((rd_T33 t357 x7_2).f1) + 1)) + (((rd_T33 t357 x7_2).f2).size : Int))) (wrap64 (x7_2 + 1)))) else (some false)) = some r := H
                              have A25 := Aside0.mk A250
                              clear A250
                              by_cases c26 : t367 = true
                              · subst c26
                                have H1 : (if ((rd_T33 t357 x7_2).f2).toList = ([] : List UInt8) then (some false) else (ndjqlaw10_FlexOrder.l0 kj10 a0 t357 (wrap64 ((wrap64 (((rd_T33 t357 x7_2).f1) + 1)) + (((rd_T33 t357 x7_2).f2).size : Int))) (wrap64 (x7_2 + 1)))) = some r := by rw [if_pos rfl] at H; exact H
                                clear H
                                have H := H1
                                clear H1
                                by_cases c27 : ((rd_T33 t357 x7_2).f2).toList = ([] : List UInt8)
                                · rw [if_pos c27] at H
                                  have c27b0 : (((rd_T33 t357 x7_2).f2).toList == ([] : List UInt8)) = true := beq_iff_eq.mpr c27
                                  have c27b1 : (((rd_T33 t357 x7_2).f2).toList != ([] : List UInt8)) = false := bne_eq_false_iff_eq.mpr c27
                                  clear c27
                                  obtain rfl := Option.some.inj H
                                  have hcz28_0 : wc.cell? ⟨gb366, 0, none⟩ = some (.int .i64 ((rd_T33 t357 x7_2).f0)) := (blk_cell BK366.out 0).trans rfl
                                  have hcz28_1 : wc.cell? ⟨gb366, 1, none⟩ = some (.int .i64 ((rd_T33 t357 x7_2).f1)) := (blk_cell BK366.out 1).trans rfl
                                  have hcz28_2 : wc.cell? ⟨gb366, 2, none⟩ = some (.string ((rd_T33 t357 x7_2).f2)) := (blk_cell BK366.out 2).trans rfl
                                  have hcz28_3 : wc.cell? ⟨gb366, 3, none⟩ = some (.int .i64 ((rd_T33 t357 x7_2).f3)) := (blk_cell BK366.out 3).trans rfl
                                  have hfz28_0 := blk_frozen BK366.out 0
                                  have hfz28_1 := blk_frozen BK366.out 1
                                  have hfz28_2 := blk_frozen BK366.out 2
                                  have hfz28_3 := blk_frozen BK366.out 3
                                  go_wp2_with (first | (go_at_call 13; (with_reducible refine (ndjqkeep_Prefix.calls ((⟨#[36]⟩ : ByteArray) ++ ((rd_T33 t357 x7_2).f2)) (a0.extract (((rd_T33 t357 x7_2).f1) : Int).toNat a0.size) true _ A25.out).mono ?_); rintro e w' ⟨rfl, ⟨nd, rfl⟩⟩; (try first | exact ⟨rfl, _, World.drewN_drewN _ _ _⟩ | exact ⟨rfl, _, Eq.trans (World.drewN_drewN _ _ _) (congrArg (World.drewN _) (Nat.add_assoc _ _ _))⟩)))
                                  repeat (go_quiet (first | (go_at_call 13; (with_reducible refine (ndjqkeep_Prefix.calls ((⟨#[36]⟩ : ByteArray) ++ ((rd_T33 t357 x7_2).f2)) (a0.extract (((rd_T33 t357 x7_2).f1) : Int).toNat a0.size) true _ A25.out).mono ?_); rintro e w' ⟨rfl, ⟨nd, rfl⟩⟩; (try first | exact ⟨rfl, _, World.drewN_drewN _ _ _⟩ | exact ⟨rfl, _, Eq.trans (World.drewN_drewN _ _ _) (congrArg (World.drewN _) (Nat.add_assoc _ _ _))⟩))); try go_wp2_with (first | (go_at_call 13; (with_reducible refine (ndjqkeep_Prefix.calls ((⟨#[36]⟩ : ByteArray) ++ ((rd_T33 t357 x7_2).f2)) (a0.extract (((rd_T33 t357 x7_2).f1) : Int).toNat a0.size) true _ A25.out).mono ?_); rintro e w' ⟨rfl, ⟨nd, rfl⟩⟩; (try first | exact ⟨rfl, _, World.drewN_drewN _ _ _⟩ | exact ⟨rfl, _, Eq.trans (World.drewN_drewN _ _ _) (congrArg (World.drewN _) (Nat.add_assoc _ _ _))⟩))))
                                  go_ret
                                  exact ⟨by first | rfl | (simp [errW_none, errW_some] <;> rfl) | (simp [*, errW_none, errW_some] <;> rfl), by repeat (first | (with_reducible first | exact HB.out | apply below_alloc | apply pw_below_drewN | apply below_drew1 | refine below_set ?_ GE366.out) | exact HB.out)⟩
                                · rw [if_neg c27] at H
                                  have c27b0 : (((rd_T33 t357 x7_2).f2).toList == ([] : List UInt8)) = false := beq_eq_false_iff_ne.mpr c27
                                  have c27b1 : (((rd_T33 t357 x7_2).f2).toList != ([] : List UInt8)) = true := bne_iff_ne.mpr c27
                                  have H' := Aside0.mk H
                                  clear H
                                  have hcz29_0 : wc.cell? ⟨gb366, 0, none⟩ = some (.int .i64 ((rd_T33 t357 x7_2).f0)) := (blk_cell BK366.out 0).trans rfl
                                  have hcz29_1 : wc.cell? ⟨gb366, 1, none⟩ = some (.int .i64 ((rd_T33 t357 x7_2).f1)) := (blk_cell BK366.out 1).trans rfl
                                  have hcz29_2 : wc.cell? ⟨gb366, 2, none⟩ = some (.string ((rd_T33 t357 x7_2).f2)) := (blk_cell BK366.out 2).trans rfl
                                  have hcz29_3 : wc.cell? ⟨gb366, 3, none⟩ = some (.int .i64 ((rd_T33 t357 x7_2).f3)) := (blk_cell BK366.out 3).trans rfl
                                  have hfz29_0 := blk_frozen BK366.out 0
                                  have hfz29_1 := blk_frozen BK366.out 1
                                  have hfz29_2 := blk_frozen BK366.out 2
                                  have hfz29_3 := blk_frozen BK366.out 3
                                  go_wp2_with (first | (go_at_call 13; (with_reducible refine (ndjqkeep_Prefix.calls ((⟨#[36]⟩ : ByteArray) ++ ((rd_T33 t357 x7_2).f2)) (a0.extract (((rd_T33 t357 x7_2).f1) : Int).toNat a0.size) true _ A25.out).mono ?_); rintro e w' ⟨rfl, ⟨nd, rfl⟩⟩; (try first | exact ⟨rfl, _, World.drewN_drewN _ _ _⟩ | exact ⟨rfl, _, Eq.trans (World.drewN_drewN _ _ _) (congrArg (World.drewN _) (Nat.add_assoc _ _ _))⟩)))
                                  repeat (go_quiet (first | (go_at_call 13; (with_reducible refine (ndjqkeep_Prefix.calls ((⟨#[36]⟩ : ByteArray) ++ ((rd_T33 t357 x7_2).f2)) (a0.extract (((rd_T33 t357 x7_2).f1) : Int).toNat a0.size) true _ A25.out).mono ?_); rintro e w' ⟨rfl, ⟨nd, rfl⟩⟩; (try first | exact ⟨rfl, _, World.drewN_drewN _ _ _⟩ | exact ⟨rfl, _, Eq.trans (World.drewN_drewN _ _ _) (congrArg (World.drewN _) (Nat.add_assoc _ _ _))⟩))); try go_wp2_with (first | (go_at_call 13; (with_reducible refine (ndjqkeep_Prefix.calls ((⟨#[36]⟩ : ByteArray) ++ ((rd_T33 t357 x7_2).f2)) (a0.extract (((rd_T33 t357 x7_2).f1) : Int).toNat a0.size) true _ A25.out).mono ?_); rintro e w' ⟨rfl, ⟨nd, rfl⟩⟩; (try first | exact ⟨rfl, _, World.drewN_drewN _ _ _⟩ | exact ⟨rfl, _, Eq.trans (World.drewN_drewN _ _ _) (congrArg (World.drewN _) (Nat.add_assoc _ _ _))⟩))))
                                  go_roundg kj10
                                  case measure => have := HJ2.out; have := HK2.out; have := HJ10.out; omega
                                  case rel => exact ⟨(wrap64 ((wrap64 (((rd_T33 t357 x7_2).f1) + 1)) + (((rd_T33 t357 x7_2).f2).size : Int))), (wrap64 (x7_2 + 1)), (by first | rfl | (simp; done) | (simp [*]; done) | (simp [show (⟨#[]⟩ : ByteArray).size = 0 from rfl]; done)), (by first | rfl | (simp; done) | (simp [*]; done) | (simp [show (⟨#[]⟩ : ByteArray).size = 0 from rfl]; done)), H', ⟨by have := HJ2.out; have := HK2.out; have := HJ10.out; omega⟩, ⟨by (with_reducible repeat (first | apply Kd.R_alloc | apply Kd.R_drewN | apply Kd.R_drew)); exact Kd.R_mono HO_3.out (fun _ hk => trivial)⟩, ⟨by repeat (first | (with_reducible first | exact HB.out | apply below_alloc | apply pw_below_drewN | apply below_drew1 | refine below_set ?_ GE366.out) | exact HB.out)⟩⟩
                              · replace c26 := Bool.eq_false_iff.mpr c26
                                subst c26
                                have H1 : (some false) = some r := by rw [if_neg (show ¬ (false = true) by decide)] at H; exact H
                                clear H
                                have H := H1
                                clear H1
                                obtain rfl := Option.some.inj H
                                have hcz30_0 : wc.cell? ⟨gb366, 0, none⟩ = some (.int .i64 ((rd_T33 t357 x7_2).f0)) := (blk_cell BK366.out 0).trans rfl
                                have hcz30_1 : wc.cell? ⟨gb366, 1, none⟩ = some (.int .i64 ((rd_T33 t357 x7_2).f1)) := (blk_cell BK366.out 1).trans rfl
                                have hcz30_2 : wc.cell? ⟨gb366, 2, none⟩ = some (.string ((rd_T33 t357 x7_2).f2)) := (blk_cell BK366.out 2).trans rfl
                                have hcz30_3 : wc.cell? ⟨gb366, 3, none⟩ = some (.int .i64 ((rd_T33 t357 x7_2).f3)) := (blk_cell BK366.out 3).trans rfl
                                have hfz30_0 := blk_frozen BK366.out 0
                                have hfz30_1 := blk_frozen BK366.out 1
                                have hfz30_2 := blk_frozen BK366.out 2
                                have hfz30_3 := blk_frozen BK366.out 3
                                go_wp2_with (first | (go_at_call 13; (with_reducible refine (ndjqkeep_Prefix.calls ((⟨#[36]⟩ : ByteArray) ++ ((rd_T33 t357 x7_2).f2)) (a0.extract (((rd_T33 t357 x7_2).f1) : Int).toNat a0.size) false _ A25.out).mono ?_); rintro e w' ⟨rfl, ⟨nd, rfl⟩⟩; (try first | exact ⟨rfl, _, World.drewN_drewN _ _ _⟩ | exact ⟨rfl, _, Eq.trans (World.drewN_drewN _ _ _) (congrArg (World.drewN _) (Nat.add_assoc _ _ _))⟩)))
                                repeat (go_quiet (first | (go_at_call 13; (with_reducible refine (ndjqkeep_Prefix.calls ((⟨#[36]⟩ : ByteArray) ++ ((rd_T33 t357 x7_2).f2)) (a0.extract (((rd_T33 t357 x7_2).f1) : Int).toNat a0.size) false _ A25.out).mono ?_); rintro e w' ⟨rfl, ⟨nd, rfl⟩⟩; (try first | exact ⟨rfl, _, World.drewN_drewN _ _ _⟩ | exact ⟨rfl, _, Eq.trans (World.drewN_drewN _ _ _) (congrArg (World.drewN _) (Nat.add_assoc _ _ _))⟩))); try go_wp2_with (first | (go_at_call 13; (with_reducible refine (ndjqkeep_Prefix.calls ((⟨#[36]⟩ : ByteArray) ++ ((rd_T33 t357 x7_2).f2)) (a0.extract (((rd_T33 t357 x7_2).f1) : Int).toNat a0.size) false _ A25.out).mono ?_); rintro e w' ⟨rfl, ⟨nd, rfl⟩⟩; (try first | exact ⟨rfl, _, World.drewN_drewN _ _ _⟩ | exact ⟨rfl, _, Eq.trans (World.drewN_drewN _ _ _) (congrArg (World.drewN _) (Nat.add_assoc _ _ _))⟩))))
                                go_ret
                                exact ⟨by first | rfl | (simp [errW_none, errW_some] <;> rfl) | (simp [*, errW_none, errW_some] <;> rfl), by repeat (first | (with_reducible first | exact HB.out | apply below_alloc | apply pw_below_drewN | apply below_drew1 | refine below_set ?_ GE366.out) | exact HB.out)⟩
                            · rw [if_neg c24] at H
                              exact absurd H (by simp)
                          · rw [if_neg c23] at H
                            exact absurd H (by simp)
                        · rw [if_neg c22] at H
                          exact absurd H (by simp)
                      · rw [if_neg c21] at H
                        have c21b0 : (((rd_T33 t357 x7_2).f0) == 3) = false := beq_eq_false_iff_ne.mpr c21
                        have c21b1 : (((rd_T33 t357 x7_2).f0) != 3) = true := bne_iff_ne.mpr c21
                        by_cases c31 : ((rd_T33 t357 x7_2).f0) = 4
                        · rw [if_pos c31] at H
                          have c31b0 : (((rd_T33 t357 x7_2).f0) == 4) = true := beq_iff_eq.mpr c31
                          have c31b1 : (((rd_T33 t357 x7_2).f0) != 4) = false := bne_eq_false_iff_eq.mpr c31
                          clear c31
                          by_cases c32 : 1 + ((rd_T33 t357 x7_2).f2).size ≤ 9223372036854775807
                          · rw [if_pos c32] at H
                            have c32b0 := eq_true c32
                            have c32b1 : decide (1 + ((rd_T33 t357 x7_2).f2).size ≤ 9223372036854775807) = true := decide_eq_true c32
                            try have c32b2 : (9223372036854775807 < 1 + ((rd_T33 t357 x7_2).f2).size) = False := eq_false (Nat.not_lt.2 c32)
                            by_cases c33 : 0 ≤ ((rd_T33 t357 x7_2).f1)
                            · rw [if_pos c33] at H
                              have c33b0 := eq_true c33
                              have c33b1 : decide (0 ≤ ((rd_T33 t357 x7_2).f1)) = true := decide_eq_true c33
                              clear c33
                              by_cases c34 : ((rd_T33 t357 x7_2).f1) ≤ (a0.size : Int)
                              · rw [if_pos c34] at H
                                have c34b0 := eq_true c34
                                have c34b1 : decide (((rd_T33 t357 x7_2).f1) ≤ (a0.size : Int)) = true := decide_eq_true c34
                                clear c34
                                replace H := Option.bind_eq_some_iff.mp H
                                obtain ⟨t368, A350, H⟩ := H
                                replace H : (if t368 = true then (if ((rd_T33 t357 x7_2).f2).toList = ([] : List UInt8) then (some false) else (ndjqlaw10_FlexOrder.l0 kj10 a0 t357 (wrap64 ((wrap64 (((rd_T33 t357 x7_2).f1) + 1)) + (((rd_T33 t357 x7_2).f2).size : Int))) (wrap64 (x7_2 + 1)))) else (some false)) = some r := H
                                have A35 := Aside0.mk A350
                                clear A350
                                by_cases c36 : t368 = true
                                · subst c36
                                  have H1 : (if ((rd_T33 t357 x7_2).f2).toList = ([] : List UInt8) then (some false) else (ndjqlaw10_FlexOrder.l0 kj10 a0 t357 (wrap64 ((wrap64 (((rd_T33 t357 x7_2).f1) + 1)) + (((rd_T33 t357 x7_2).f2).size : Int))) (wrap64 (x7_2 + 1)))) = some r := by rw [if_pos rfl] at H; exact H
                                  clear H
                                  have H := H1
                                  clear H1
                                  by_cases c37 : ((rd_T33 t357 x7_2).f2).toList = ([] : List UInt8)
                                  · rw [if_pos c37] at H
                                    have c37b0 : (((rd_T33 t357 x7_2).f2).toList == ([] : List UInt8)) = true := beq_iff_eq.mpr c37
                                    have c37b1 : (((rd_T33 t357 x7_2).f2).toList != ([] : List UInt8)) = false := bne_eq_false_iff_eq.mpr c37
                                    clear c37
                                    obtain rfl := Option.some.inj H
                                    have hcz38_0 : wc.cell? ⟨gb366, 0, none⟩ = some (.int .i64 ((rd_T33 t357 x7_2).f0)) := (blk_cell BK366.out 0).trans rfl
                                    have hcz38_1 : wc.cell? ⟨gb366, 1, none⟩ = some (.int .i64 ((rd_T33 t357 x7_2).f1)) := (blk_cell BK366.out 1).trans rfl
                                    have hcz38_2 : wc.cell? ⟨gb366, 2, none⟩ = some (.string ((rd_T33 t357 x7_2).f2)) := (blk_cell BK366.out 2).trans rfl
                                    have hcz38_3 : wc.cell? ⟨gb366, 3, none⟩ = some (.int .i64 ((rd_T33 t357 x7_2).f3)) := (blk_cell BK366.out 3).trans rfl
                                    have hfz38_0 := blk_frozen BK366.out 0
                                    have hfz38_1 := blk_frozen BK366.out 1
                                    have hfz38_2 := blk_frozen BK366.out 2
                                    have hfz38_3 := blk_frozen BK366.out 3
                                    go_wp2_with (first | (go_at_call 13; (with_reducible refine (ndjqkeep_Prefix.calls ((⟨#[46]⟩ : ByteArray) ++ ((rd_T33 t357 x7_2).f2)) (a0.extract (((rd_T33 t357 x7_2).f1) : Int).toNat a0.size) true _ A35.out).mono ?_); rintro e w' ⟨rfl, ⟨nd, rfl⟩⟩; (try first | exact ⟨rfl, _, World.drewN_drewN _ _ _⟩ | exact ⟨rfl, _, Eq.trans (World.drewN_drewN _ _ _) (congrArg (World.drewN _) (Nat.add_assoc _ _ _))⟩)))
                                    repeat (go_quiet (first | (go_at_call 13; (with_reducible refine (ndjqkeep_Prefix.calls ((⟨#[46]⟩ : ByteArray) ++ ((rd_T33 t357 x7_2).f2)) (a0.extract (((rd_T33 t357 x7_2).f1) : Int).toNat a0.size) true _ A35.out).mono ?_); rintro e w' ⟨rfl, ⟨nd, rfl⟩⟩; (try first | exact ⟨rfl, _, World.drewN_drewN _ _ _⟩ | exact ⟨rfl, _, Eq.trans (World.drewN_drewN _ _ _) (congrArg (World.drewN _) (Nat.add_assoc _ _ _))⟩))); try go_wp2_with (first | (go_at_call 13; (with_reducible refine (ndjqkeep_Prefix.calls ((⟨#[46]⟩ : ByteArray) ++ ((rd_T33 t357 x7_2).f2)) (a0.extract (((rd_T33 t357 x7_2).f1) : Int).toNat a0.size) true _ A35.out).mono ?_); rintro e w' ⟨rfl, ⟨nd, rfl⟩⟩; (try first | exact ⟨rfl, _, World.drewN_drewN _ _ _⟩ | exact ⟨rfl, _, Eq.trans (World.drewN_drewN _ _ _) (congrArg (World.drewN _) (Nat.add_assoc _ _ _))⟩))))
                                    go_ret
                                    exact ⟨by first | rfl | (simp [errW_none, errW_some] <;> rfl) | (simp [*, errW_none, errW_some] <;> rfl), by repeat (first | (with_reducible first | exact HB.out | apply below_alloc | apply pw_below_drewN | apply below_drew1 | refine below_set ?_ GE366.out) | exact HB.out)⟩
                                  · rw [if_neg c37] at H
                                    have c37b0 : (((rd_T33 t357 x7_2).f2).toList == ([] : List UInt8)) = false := beq_eq_false_iff_ne.mpr c37
                                    have c37b1 : (((rd_T33 t357 x7_2).f2).toList != ([] : List UInt8)) = true := bne_iff_ne.mpr c37
                                    have H' := Aside0.mk H
                                    clear H
                                    have hcz39_0 : wc.cell? ⟨gb366, 0, none⟩ = some (.int .i64 ((rd_T33 t357 x7_2).f0)) := (blk_cell BK366.out 0).trans rfl
                                    have hcz39_1 : wc.cell? ⟨gb366, 1, none⟩ = some (.int .i64 ((rd_T33 t357 x7_2).f1)) := (blk_cell BK366.out 1).trans rfl
                                    have hcz39_2 : wc.cell? ⟨gb366, 2, none⟩ = some (.string ((rd_T33 t357 x7_2).f2)) := (blk_cell BK366.out 2).trans rfl
                                    have hcz39_3 : wc.cell? ⟨gb366, 3, none⟩ = some (.int .i64 ((rd_T33 t357 x7_2).f3)) := (blk_cell BK366.out 3).trans rfl
                                    have hfz39_0 := blk_frozen BK366.out 0
                                    have hfz39_1 := blk_frozen BK366.out 1
                                    have hfz39_2 := blk_frozen BK366.out 2
                                    have hfz39_3 := blk_frozen BK366.out 3
                                    go_wp2_with (first | (go_at_call 13; (with_reducible refine (ndjqkeep_Prefix.calls ((⟨#[46]⟩ : ByteArray) ++ ((rd_T33 t357 x7_2).f2)) (a0.extract (((rd_T33 t357 x7_2).f1) : Int).toNat a0.size) true _ A35.out).mono ?_); rintro e w' ⟨rfl, ⟨nd, rfl⟩⟩; (try first | exact ⟨rfl, _, World.drewN_drewN _ _ _⟩ | exact ⟨rfl, _, Eq.trans (World.drewN_drewN _ _ _) (congrArg (World.drewN _) (Nat.add_assoc _ _ _))⟩)))
                                    repeat (go_quiet (first | (go_at_call 13; (with_reducible refine (ndjqkeep_Prefix.calls ((⟨#[46]⟩ : ByteArray) ++ ((rd_T33 t357 x7_2).f2)) (a0.extract (((rd_T33 t357 x7_2).f1) : Int).toNat a0.size) true _ A35.out).mono ?_); rintro e w' ⟨rfl, ⟨nd, rfl⟩⟩; (try first | exact ⟨rfl, _, World.drewN_drewN _ _ _⟩ | exact ⟨rfl, _, Eq.trans (World.drewN_drewN _ _ _) (congrArg (World.drewN _) (Nat.add_assoc _ _ _))⟩))); try go_wp2_with (first | (go_at_call 13; (with_reducible refine (ndjqkeep_Prefix.calls ((⟨#[46]⟩ : ByteArray) ++ ((rd_T33 t357 x7_2).f2)) (a0.extract (((rd_T33 t357 x7_2).f1) : Int).toNat a0.size) true _ A35.out).mono ?_); rintro e w' ⟨rfl, ⟨nd, rfl⟩⟩; (try first | exact ⟨rfl, _, World.drewN_drewN _ _ _⟩ | exact ⟨rfl, _, Eq.trans (World.drewN_drewN _ _ _) (congrArg (World.drewN _) (Nat.add_assoc _ _ _))⟩))))
                                    go_roundg kj10
                                    case measure => have := HJ2.out; have := HK2.out; have := HJ10.out; omega
                                    case rel => exact ⟨(wrap64 ((wrap64 (((rd_T33 t357 x7_2).f1) + 1)) + (((rd_T33 t357 x7_2).f2).size : Int))), (wrap64 (x7_2 + 1)), (by first | rfl | (simp; done) | (simp [*]; done) | (simp [show (⟨#[]⟩ : ByteArray).size = 0 from rfl]; done)), (by first | rfl | (simp; done) | (simp [*]; done) | (simp [show (⟨#[]⟩ : ByteArray).size = 0 from rfl]; done)), H', ⟨by have := HJ2.out; have := HK2.out; have := HJ10.out; omega⟩, ⟨by (with_reducible repeat (first | apply Kd.R_alloc | apply Kd.R_drewN | apply Kd.R_drew)); exact Kd.R_mono HO_3.out (fun _ hk => trivial)⟩, ⟨by repeat (first | (with_reducible first | exact HB.out | apply below_alloc | apply pw_below_drewN | apply below_drew1 | refine below_set ?_ GE366.out) | exact HB.out)⟩⟩
                                · replace c36 := Bool.eq_false_iff.mpr c36
                                  subst c36
                                  have H1 : (some false) = some r := by rw [if_neg (show ¬ (false = true) by decide)] at H; exact H
                                  clear H
                                  have H := H1
                                  clear H1
                                  obtain rfl := Option.some.inj H
                                  have hcz40_0 : wc.cell? ⟨gb366, 0, none⟩ = some (.int .i64 ((rd_T33 t357 x7_2).f0)) := (blk_cell BK366.out 0).trans rfl
                                  have hcz40_1 : wc.cell? ⟨gb366, 1, none⟩ = some (.int .i64 ((rd_T33 t357 x7_2).f1)) := (blk_cell BK366.out 1).trans rfl
                                  have hcz40_2 : wc.cell? ⟨gb366, 2, none⟩ = some (.string ((rd_T33 t357 x7_2).f2)) := (blk_cell BK366.out 2).trans rfl
                                  have hcz40_3 : wc.cell? ⟨gb366, 3, none⟩ = some (.int .i64 ((rd_T33 t357 x7_2).f3)) := (blk_cell BK366.out 3).trans rfl
                                  have hfz40_0 := blk_frozen BK366.out 0
                                  have hfz40_1 := blk_frozen BK366.out 1
                                  have hfz40_2 := blk_frozen BK366.out 2
                                  have hfz40_3 := blk_frozen BK366.out 3
                                  go_wp2_with (first | (go_at_call 13; (with_reducible refine (ndjqkeep_Prefix.calls ((⟨#[46]⟩ : ByteArray) ++ ((rd_T33 t357 x7_2).f2)) (a0.extract (((rd_T33 t357 x7_2).f1) : Int).toNat a0.size) false _ A35.out).mono ?_); rintro e w' ⟨rfl, ⟨nd, rfl⟩⟩; (try first | exact ⟨rfl, _, World.drewN_drewN _ _ _⟩ | exact ⟨rfl, _, Eq.trans (World.drewN_drewN _ _ _) (congrArg (World.drewN _) (Nat.add_assoc _ _ _))⟩)))
                                  repeat (go_quiet (first | (go_at_call 13; (with_reducible refine (ndjqkeep_Prefix.calls ((⟨#[46]⟩ : ByteArray) ++ ((rd_T33 t357 x7_2).f2)) (a0.extract (((rd_T33 t357 x7_2).f1) : Int).toNat a0.size) false _ A35.out).mono ?_); rintro e w' ⟨rfl, ⟨nd, rfl⟩⟩; (try first | exact ⟨rfl, _, World.drewN_drewN _ _ _⟩ | exact ⟨rfl, _, Eq.trans (World.drewN_drewN _ _ _) (congrArg (World.drewN _) (Nat.add_assoc _ _ _))⟩))); try go_wp2_with (first | (go_at_call 13; (with_reducible refine (ndjqkeep_Prefix.calls ((⟨#[46]⟩ : ByteArray) ++ ((rd_T33 t357 x7_2).f2)) (a0.extract (((rd_T33 t357 x7_2).f1) : Int).toNat a0.size) false _ A35.out).mono ?_); rintro e w' ⟨rfl, ⟨nd, rfl⟩⟩; (try first | exact ⟨rfl, _, World.drewN_drewN _ _ _⟩ | exact ⟨rfl, _, Eq.trans (World.drewN_drewN _ _ _) (congrArg (World.drewN _) (Nat.add_assoc _ _ _))⟩))))
                                  go_ret
                                  exact ⟨by first | rfl | (simp [errW_none, errW_some] <;> rfl) | (simp [*, errW_none, errW_some] <;> rfl), by repeat (first | (with_reducible first | exact HB.out | apply below_alloc | apply pw_below_drewN | apply below_drew1 | refine below_set ?_ GE366.out) | exact HB.out)⟩
                              · rw [if_neg c34] at H
                                exact absurd H (by simp)
                            · rw [if_neg c33] at H
                              exact absurd H (by simp)
                          · rw [if_neg c32] at H
                            exact absurd H (by simp)
                        · rw [if_neg c31] at H
                          have c31b0 : (((rd_T33 t357 x7_2).f0) == 4) = false := beq_eq_false_iff_ne.mpr c31
                          have c31b1 : (((rd_T33 t357 x7_2).f0) != 4) = true := bne_iff_ne.mpr c31
                          have HC41 := Aside0.mk H
                          clear H
                          have hcz42_0 : wc.cell? ⟨gb366, 0, none⟩ = some (.int .i64 ((rd_T33 t357 x7_2).f0)) := (blk_cell BK366.out 0).trans rfl
                          have hcz42_1 : wc.cell? ⟨gb366, 1, none⟩ = some (.int .i64 ((rd_T33 t357 x7_2).f1)) := (blk_cell BK366.out 1).trans rfl
                          have hcz42_2 : wc.cell? ⟨gb366, 2, none⟩ = some (.string ((rd_T33 t357 x7_2).f2)) := (blk_cell BK366.out 2).trans rfl
                          have hcz42_3 : wc.cell? ⟨gb366, 3, none⟩ = some (.int .i64 ((rd_T33 t357 x7_2).f3)) := (blk_cell BK366.out 3).trans rfl
                          have hfz42_0 := blk_frozen BK366.out 0
                          have hfz42_1 := blk_frozen BK366.out 1
                          have hfz42_2 := blk_frozen BK366.out 2
                          have hfz42_3 := blk_frozen BK366.out 3
                          go_upto_if 62 with (fail)
                          repeat (go_quiet (fail); go_upto_if 62 with (fail))
                          go_cut [62] (fun v62 wc => ∃ (kq : Nat) (x62_40 : Bool), v62 = .bool x62_40 ∧ Aside0 (ndjqlaw10_FlexOrder.j3 kq a0 t357 x7_2 (⟨#[]⟩ : ByteArray) x62_40 ((rd_T33 t357 x7_2).f0) ((rd_T33 t357 x7_2).f1) ((rd_T33 t357 x7_2).f2) ((rd_T33 t357 x7_2).f3) = some r) ∧ Aside0 (kq ≤ kj10) ∧ Aside0 (Kd.R k33 33 wc w.heap.size (fun k_ => k_ ≠ gb366) (.slice (some ad365) t357.length co12) t357) ∧ Aside0 (wc.heap[gb366]? = some (.cells #[.int .i64 ((rd_T33 t357 x7_2).f0), .int .i64 ((rd_T33 t357 x7_2).f1), .string ((rd_T33 t357 x7_2).f2), .int .i64 ((rd_T33 t357 x7_2).f3)] 33 (0, 0))) ∧ Aside0 (Below w.heap.size w wc))
                          case first =>
                            have H := HC41.out
                            clear HC41
                            by_cases c43 : ((rd_T33 t357 x7_2).f0) = 5
                            · rw [if_pos c43] at H
                              have c43b0 : (((rd_T33 t357 x7_2).f0) == 5) = true := beq_iff_eq.mpr c43
                              have c43b1 : (((rd_T33 t357 x7_2).f0) != 5) = false := bne_eq_false_iff_eq.mpr c43
                              clear c43
                              (first | rw [c43b0] | (simp only [i64_w, i32_w]; rw [c43b0]) | skip)
                              have H' := Aside0.mk H
                              clear H
                              go_wp2
                              repeat (go_quiet (fail); try go_wp2)
                              go_meet
                              case rel => exact ⟨_, ((((rd_T33 t357 x7_2).f0) == 5)), (by first | rfl | (simp; done) | (simp [*]; done) | (simp [show (⟨#[]⟩ : ByteArray).size = 0 from rfl]; done)), H', ⟨by have := HJ2.out; have := HK2.out; have := HJ10.out; first | omega | exact Nat.le_refl _⟩, ⟨by (with_reducible repeat (first | apply Kd.R_alloc | apply Kd.R_drewN | apply Kd.R_drew)); exact HO_3.out⟩, ⟨by (with_reducible repeat (first | refine blk_drewN ?_ _ | refine blk_drew ?_ | refine blk_alloc ?_ _)); exact BK366.out⟩, ⟨by repeat (first | (with_reducible first | exact HB.out | apply below_alloc | apply pw_below_drewN | apply below_drew1 | refine below_set ?_ GE366.out) | exact HB.out)⟩⟩
                            · rw [if_neg c43] at H
                              have c43b0 : (((rd_T33 t357 x7_2).f0) == 5) = false := beq_eq_false_iff_ne.mpr c43
                              have c43b1 : (((rd_T33 t357 x7_2).f0) != 5) = true := bne_iff_ne.mpr c43
                              (first | rw [c43b0] | (simp only [i64_w, i32_w]; rw [c43b0]) | skip)
                              by_cases c44 : ((rd_T33 t357 x7_2).f0) = 6
                              · rw [if_pos c44] at H
                                have c44b0 : (((rd_T33 t357 x7_2).f0) == 6) = true := beq_iff_eq.mpr c44
                                have c44b1 : (((rd_T33 t357 x7_2).f0) != 6) = false := bne_eq_false_iff_eq.mpr c44
                                clear c44
                                have H' := Aside0.mk H
                                clear H
                                go_wp2
                                repeat (go_quiet (fail); try go_wp2)
                                go_meet
                                case rel => exact ⟨_, ((((rd_T33 t357 x7_2).f0) == 6)), (by first | rfl | (simp; done) | (simp [*]; done) | (simp [show (⟨#[]⟩ : ByteArray).size = 0 from rfl]; done)), H', ⟨by have := HJ2.out; have := HK2.out; have := HJ10.out; first | omega | exact Nat.le_refl _⟩, ⟨by (with_reducible repeat (first | apply Kd.R_alloc | apply Kd.R_drewN | apply Kd.R_drew)); exact HO_3.out⟩, ⟨by (with_reducible repeat (first | refine blk_drewN ?_ _ | refine blk_drew ?_ | refine blk_alloc ?_ _)); exact BK366.out⟩, ⟨by repeat (first | (with_reducible first | exact HB.out | apply below_alloc | apply pw_below_drewN | apply below_drew1 | refine below_set ?_ GE366.out) | exact HB.out)⟩⟩
                              · rw [if_neg c44] at H
                                have c44b0 : (((rd_T33 t357 x7_2).f0) == 6) = false := beq_eq_false_iff_ne.mpr c44
                                have c44b1 : (((rd_T33 t357 x7_2).f0) != 6) = true := bne_iff_ne.mpr c44
                                have H' := Aside0.mk H
                                clear H
                                go_wp2
                                repeat (go_quiet (fail); try go_wp2)
                                go_meet
                                case rel => exact ⟨_, ((((rd_T33 t357 x7_2).f0) == 0)), (by first | rfl | (simp; done) | (simp [*]; done) | (simp [show (⟨#[]⟩ : ByteArray).size = 0 from rfl]; done)), H', ⟨by have := HJ2.out; have := HK2.out; have := HJ10.out; first | omega | exact Nat.le_refl _⟩, ⟨by (with_reducible repeat (first | apply Kd.R_alloc | apply Kd.R_drewN | apply Kd.R_drew)); exact HO_3.out⟩, ⟨by (with_reducible repeat (first | refine blk_drewN ?_ _ | refine blk_drew ?_ | refine blk_alloc ?_ _)); exact BK366.out⟩, ⟨by repeat (first | (with_reducible first | exact HB.out | apply below_alloc | apply pw_below_drewN | apply below_drew1 | refine below_set ?_ GE366.out) | exact HB.out)⟩⟩
                          case rest =>
                            clear HC41
                            try clear c1
                            try clear c2
                            try clear p2
                            try clear c3
                            try clear p3
                            try clear q3
                            try clear hx3
                            try clear c4
                            try clear c5
                            try clear c5b0
                            try clear c5b1
                            try clear c6
                            try clear p6
                            try clear c9
                            try clear c9b0
                            try clear c10
                            try clear c10b0
                            try clear c15
                            try clear c15b0
                            try clear c17
                            try clear c17b0
                            try clear c20
                            try clear c21
                            try clear c21b0
                            try clear c21b1
                            try clear c22
                            try clear c22b0
                            try clear c22b1
                            try clear c22b2
                            try clear c23
                            try clear c23b0
                            try clear c23b1
                            try clear c24
                            try clear c24b0
                            try clear c24b1
                            try clear c26
                            try clear c27
                            try clear c27b0
                            try clear c27b1
                            try clear c31
                            try clear c31b0
                            try clear c31b1
                            try clear c32
                            try clear c32b0
                            try clear c32b1
                            try clear c32b2
                            try clear c33
                            try clear c33b0
                            try clear c33b1
                            try clear c34
                            try clear c34b0
                            try clear c34b1
                            try clear c36
                            try clear p36
                            try clear q36
                            try clear hx36
                            try clear c37
                            try clear c37b0
                            try clear c37b1
                            try clear c43
                            try clear c43b0
                            try clear c43b1
                            try clear c44
                            try clear c44b0
                            try clear c44b1
                            try clear hcz14_0
                            try clear hcz14_1
                            try clear hcz14_2
                            try clear hcz14_3
                            try clear hcz16_0
                            try clear hcz16_1
                            try clear hcz16_2
                            try clear hcz16_3
                            try clear hcz18_0
                            try clear hcz18_1
                            try clear hcz18_2
                            try clear hcz18_3
                            try clear hcz19_0
                            try clear hcz19_1
                            try clear hcz19_2
                            try clear hcz19_3
                            try clear hcz28_0
                            try clear hcz28_1
                            try clear hcz28_2
                            try clear hcz28_3
                            try clear hcz29_0
                            try clear hcz29_1
                            try clear hcz29_2
                            try clear hcz29_3
                            try clear hcz30_0
                            try clear hcz30_1
                            try clear hcz30_2
                            try clear hcz30_3
                            try clear hcz38_0
                            try clear hcz38_1
                            try clear hcz38_2
                            try clear hcz38_3
                            try clear hcz39_0
                            try clear hcz39_1
                            try clear hcz39_2
                            try clear hcz39_3
                            try clear hcz40_0
                            try clear hcz40_1
                            try clear hcz40_2
                            try clear hcz40_3
                            try clear hcz42_0
                            try clear hcz42_1
                            try clear hcz42_2
                            try clear hcz42_3
                            try clear hfz14_0
                            try clear hfz14_1
                            try clear hfz14_2
                            try clear hfz14_3
                            try clear hfz16_0
                            try clear hfz16_1
                            try clear hfz16_2
                            try clear hfz16_3
                            try clear hfz18_0
                            try clear hfz18_1
                            try clear hfz18_2
                            try clear hfz18_3
                            try clear hfz19_0
                            try clear hfz19_1
                            try clear hfz19_2
                            try clear hfz19_3
                            try clear hfz28_0
                            try clear hfz28_1
                            try clear hfz28_2
                            try clear hfz28_3
                            try clear hfz29_0
                            try clear hfz29_1
                            try clear hfz29_2
                            try clear hfz29_3
                            try clear hfz30_0
                            try clear hfz30_1
                            try clear hfz30_2
                            try clear hfz30_3
                            try clear hfz38_0
                            try clear hfz38_1
                            try clear hfz38_2
                            try clear hfz38_3
                            try clear hfz39_0
                            try clear hfz39_1
                            try clear hfz39_2
                            try clear hfz39_3
                            try clear hfz40_0
                            try clear hfz40_1
                            try clear hfz40_2
                            try clear hfz40_3
                            try clear hfz42_0
                            try clear hfz42_1
                            try clear hfz42_2
                            try clear hfz42_3
                            try clear hx365_0
                            try clear hx365_1
                            try clear hx365_2
                            try clear hx365_3
                            try clear p2
                            try clear p3
                            try clear p365
                            try clear p6
                            try clear q3
                            try clear q365
                            obtain ⟨kq, x62_40, rfl, HA, HJ40, HO_3, BK366, HB⟩ := hcut
                            cases kq with
                            | zero => exact absurd HA.out (by simp [ndjqlaw10_FlexOrder.j3])
                            | succ kj40 =>
                              have H := HA.out
                              clear HA
                              simp only [ndjqlaw10_FlexOrder.j3] at H
                              by_cases c45 : x62_40 = true
                              · subst c45
                                have H1 : (ndjqlaw10_FlexOrder.l0 kj40 a0 t357 ((rd_T33 t357 x7_2).f1) (wrap64 (x7_2 + 1))) = some r := by rw [if_pos rfl] at H; exact H
                                clear H
                                have H := H1
                                clear H1
                                have H' := Aside0.mk H
                                clear H
                                have hcz46_0 : wc.cell? ⟨gb366, 0, none⟩ = some (.int .i64 ((rd_T33 t357 x7_2).f0)) := (blk_cell BK366.out 0).trans rfl
                                have hcz46_1 : wc.cell? ⟨gb366, 1, none⟩ = some (.int .i64 ((rd_T33 t357 x7_2).f1)) := (blk_cell BK366.out 1).trans rfl
                                have hcz46_2 : wc.cell? ⟨gb366, 2, none⟩ = some (.string ((rd_T33 t357 x7_2).f2)) := (blk_cell BK366.out 2).trans rfl
                                have hcz46_3 : wc.cell? ⟨gb366, 3, none⟩ = some (.int .i64 ((rd_T33 t357 x7_2).f3)) := (blk_cell BK366.out 3).trans rfl
                                have hfz46_0 := blk_frozen BK366.out 0
                                have hfz46_1 := blk_frozen BK366.out 1
                                have hfz46_2 := blk_frozen BK366.out 2
                                have hfz46_3 := blk_frozen BK366.out 3
                                go_wp2
                                repeat (go_quiet (fail); try go_wp2)
                                go_roundg kj40
                                case measure => have := HJ2.out; have := HK2.out; have := HJ10.out; have := HJ40.out; omega
                                case rel => exact ⟨(((rd_T33 t357 x7_2).f1)), (wrap64 (x7_2 + 1)), (by first | rfl | (simp; done) | (simp [*]; done) | (simp [show (⟨#[]⟩ : ByteArray).size = 0 from rfl]; done)), (by first | rfl | (simp; done) | (simp [*]; done) | (simp [show (⟨#[]⟩ : ByteArray).size = 0 from rfl]; done)), H', ⟨by have := HJ2.out; have := HK2.out; have := HJ10.out; have := HJ40.out; omega⟩, ⟨by (with_reducible repeat (first | apply Kd.R_alloc | apply Kd.R_drewN | apply Kd.R_drew)); exact Kd.R_mono HO_3.out (fun _ hk => trivial)⟩, ⟨by repeat (first | (with_reducible first | exact HB.out | apply below_alloc | apply pw_below_drewN | apply below_drew1 | refine below_set ?_ GE366.out) | exact HB.out)⟩⟩
                              · replace c45 := Bool.eq_false_iff.mpr c45
                                subst c45
                                have H1 : (if (⟨#[]⟩ : ByteArray).size + ((rd_T33 t357 x7_2).f2).size ≤ 9223372036854775807 then (if 0 ≤ ((rd_T33 t357 x7_2).f1) then (if ((rd_T33 t357 x7_2).f1) ≤ (a0.size : Int) then ((ndjqkeep_Prefix.f ((⟨#[]⟩ : ByteArray) ++ ((rd_T33 t357 x7_2).f2)) (a0.extract (((rd_T33 t357 x7_2).f1) : Int).toNat a0.size)).bind fun t369 => (if t369 = true then (if ((rd_T33 t357 x7_2).f2).toList = ([] : List UInt8) then (some false) else (ndjqlaw10_FlexOrder.l0 kj40 a0 t357 (wrap64 ((wrap64 (((rd_T33 t357 x7_2).f1) + ((⟨#[]⟩ : ByteArray).size : Int))) + (((rd_T33 t357 x7_2).f2).size : Int))) (wrap64 (x7_2 + 1)))) else (some false))) else (none)) else (none)) else (none)) = some r := by rw [if_neg (show ¬ (false = true) by decide)] at H; exact H
                                clear H
                                have H := H1
                                clear H1
                                by_cases c47 : (⟨#[]⟩ : ByteArray).size + ((rd_T33 t357 x7_2).f2).size ≤ 9223372036854775807
                                · rw [if_pos c47] at H
                                  have c47b0 := eq_true c47
                                  have c47b1 : decide ((⟨#[]⟩ : ByteArray).size + ((rd_T33 t357 x7_2).f2).size ≤ 9223372036854775807) = true := decide_eq_true c47
                                  try have c47b2 : (9223372036854775807 < (⟨#[]⟩ : ByteArray).size + ((rd_T33 t357 x7_2).f2).size) = False := eq_false (Nat.not_lt.2 c47)
                                  by_cases c48 : 0 ≤ ((rd_T33 t357 x7_2).f1)
                                  · rw [if_pos c48] at H
                                    have c48b0 := eq_true c48
                                    have c48b1 : decide (0 ≤ ((rd_T33 t357 x7_2).f1)) = true := decide_eq_true c48
                                    clear c48
                                    by_cases c49 : ((rd_T33 t357 x7_2).f1) ≤ (a0.size : Int)
                                    · rw [if_pos c49] at H
                                      have c49b0 := eq_true c49
                                      have c49b1 : decide (((rd_T33 t357 x7_2).f1) ≤ (a0.size : Int)) = true := decide_eq_true c49
                                      clear c49
                                      replace H := Option.bind_eq_some_iff.mp H
                                      obtain ⟨t369, A500, H⟩ := H
                                      replace H : (if t369 = true then (if ((rd_T33 t357 x7_2).f2).toList = ([] : List UInt8) then (some false) else (ndjqlaw10_FlexOrder.l0 kj40 a0 t357 (wrap64 ((wrap64 (((rd_T33 t357 x7_2).f1) + ((⟨#[]⟩ : ByteArray).size : Int))) + (((rd_T33 t357 x7_2).f2).size : Int))) (wrap64 (x7_2 + 1)))) else (some false)) = some r := H
                                      have A50 := Aside0.mk A500
                                      clear A500
                                      by_cases c51 : t369 = true
                                      · subst c51
                                        have H1 : (if ((rd_T33 t357 x7_2).f2).toList = ([] : List UInt8) then (some false) else (ndjqlaw10_FlexOrder.l0 kj40 a0 t357 (wrap64 ((wrap64 (((rd_T33 t357 x7_2).f1) + ((⟨#[]⟩ : ByteArray).size : Int))) + (((rd_T33 t357 x7_2).f2).size : Int))) (wrap64 (x7_2 + 1)))) = some r := by rw [if_pos rfl] at H; exact H
                                        clear H
                                        have H := H1
                                        clear H1
                                        by_cases c52 : ((rd_T33 t357 x7_2).f2).toList = ([] : List UInt8)
                                        · rw [if_pos c52] at H
                                          have c52b0 : (((rd_T33 t357 x7_2).f2).toList == ([] : List UInt8)) = true := beq_iff_eq.mpr c52
                                          have c52b1 : (((rd_T33 t357 x7_2).f2).toList != ([] : List UInt8)) = false := bne_eq_false_iff_eq.mpr c52
                                          clear c52
                                          obtain rfl := Option.some.inj H
                                          have hcz53_0 : wc.cell? ⟨gb366, 0, none⟩ = some (.int .i64 ((rd_T33 t357 x7_2).f0)) := (blk_cell BK366.out 0).trans rfl
                                          have hcz53_1 : wc.cell? ⟨gb366, 1, none⟩ = some (.int .i64 ((rd_T33 t357 x7_2).f1)) := (blk_cell BK366.out 1).trans rfl
                                          have hcz53_2 : wc.cell? ⟨gb366, 2, none⟩ = some (.string ((rd_T33 t357 x7_2).f2)) := (blk_cell BK366.out 2).trans rfl
                                          have hcz53_3 : wc.cell? ⟨gb366, 3, none⟩ = some (.int .i64 ((rd_T33 t357 x7_2).f3)) := (blk_cell BK366.out 3).trans rfl
                                          have hfz53_0 := blk_frozen BK366.out 0
                                          have hfz53_1 := blk_frozen BK366.out 1
                                          have hfz53_2 := blk_frozen BK366.out 2
                                          have hfz53_3 := blk_frozen BK366.out 3
                                          go_wp2_with (first | (go_at_call 13; (with_reducible refine (ndjqkeep_Prefix.calls ((⟨#[]⟩ : ByteArray) ++ ((rd_T33 t357 x7_2).f2)) (a0.extract (((rd_T33 t357 x7_2).f1) : Int).toNat a0.size) true _ A50.out).mono ?_); rintro e w' ⟨rfl, ⟨nd, rfl⟩⟩; (try first | exact ⟨rfl, _, World.drewN_drewN _ _ _⟩ | exact ⟨rfl, _, Eq.trans (World.drewN_drewN _ _ _) (congrArg (World.drewN _) (Nat.add_assoc _ _ _))⟩)))
                                          repeat (go_quiet (first | (go_at_call 13; (with_reducible refine (ndjqkeep_Prefix.calls ((⟨#[]⟩ : ByteArray) ++ ((rd_T33 t357 x7_2).f2)) (a0.extract (((rd_T33 t357 x7_2).f1) : Int).toNat a0.size) true _ A50.out).mono ?_); rintro e w' ⟨rfl, ⟨nd, rfl⟩⟩; (try first | exact ⟨rfl, _, World.drewN_drewN _ _ _⟩ | exact ⟨rfl, _, Eq.trans (World.drewN_drewN _ _ _) (congrArg (World.drewN _) (Nat.add_assoc _ _ _))⟩))); try go_wp2_with (first | (go_at_call 13; (with_reducible refine (ndjqkeep_Prefix.calls ((⟨#[]⟩ : ByteArray) ++ ((rd_T33 t357 x7_2).f2)) (a0.extract (((rd_T33 t357 x7_2).f1) : Int).toNat a0.size) true _ A50.out).mono ?_); rintro e w' ⟨rfl, ⟨nd, rfl⟩⟩; (try first | exact ⟨rfl, _, World.drewN_drewN _ _ _⟩ | exact ⟨rfl, _, Eq.trans (World.drewN_drewN _ _ _) (congrArg (World.drewN _) (Nat.add_assoc _ _ _))⟩))))
                                          go_ret
                                          exact ⟨by first | rfl | (simp [errW_none, errW_some] <;> rfl) | (simp [*, errW_none, errW_some] <;> rfl), by repeat (first | (with_reducible first | exact HB.out | apply below_alloc | apply pw_below_drewN | apply below_drew1 | refine below_set ?_ GE366.out) | exact HB.out)⟩
                                        · rw [if_neg c52] at H
                                          have c52b0 : (((rd_T33 t357 x7_2).f2).toList == ([] : List UInt8)) = false := beq_eq_false_iff_ne.mpr c52
                                          have c52b1 : (((rd_T33 t357 x7_2).f2).toList != ([] : List UInt8)) = true := bne_iff_ne.mpr c52
                                          have H' := Aside0.mk H
                                          clear H
                                          have hcz54_0 : wc.cell? ⟨gb366, 0, none⟩ = some (.int .i64 ((rd_T33 t357 x7_2).f0)) := (blk_cell BK366.out 0).trans rfl
                                          have hcz54_1 : wc.cell? ⟨gb366, 1, none⟩ = some (.int .i64 ((rd_T33 t357 x7_2).f1)) := (blk_cell BK366.out 1).trans rfl
                                          have hcz54_2 : wc.cell? ⟨gb366, 2, none⟩ = some (.string ((rd_T33 t357 x7_2).f2)) := (blk_cell BK366.out 2).trans rfl
                                          have hcz54_3 : wc.cell? ⟨gb366, 3, none⟩ = some (.int .i64 ((rd_T33 t357 x7_2).f3)) := (blk_cell BK366.out 3).trans rfl
                                          have hfz54_0 := blk_frozen BK366.out 0
                                          have hfz54_1 := blk_frozen BK366.out 1
                                          have hfz54_2 := blk_frozen BK366.out 2
                                          have hfz54_3 := blk_frozen BK366.out 3
                                          go_wp2_with (first | (go_at_call 13; (with_reducible refine (ndjqkeep_Prefix.calls ((⟨#[]⟩ : ByteArray) ++ ((rd_T33 t357 x7_2).f2)) (a0.extract (((rd_T33 t357 x7_2).f1) : Int).toNat a0.size) true _ A50.out).mono ?_); rintro e w' ⟨rfl, ⟨nd, rfl⟩⟩; (try first | exact ⟨rfl, _, World.drewN_drewN _ _ _⟩ | exact ⟨rfl, _, Eq.trans (World.drewN_drewN _ _ _) (congrArg (World.drewN _) (Nat.add_assoc _ _ _))⟩)))
                                          repeat (go_quiet (first | (go_at_call 13; (with_reducible refine (ndjqkeep_Prefix.calls ((⟨#[]⟩ : ByteArray) ++ ((rd_T33 t357 x7_2).f2)) (a0.extract (((rd_T33 t357 x7_2).f1) : Int).toNat a0.size) true _ A50.out).mono ?_); rintro e w' ⟨rfl, ⟨nd, rfl⟩⟩; (try first | exact ⟨rfl, _, World.drewN_drewN _ _ _⟩ | exact ⟨rfl, _, Eq.trans (World.drewN_drewN _ _ _) (congrArg (World.drewN _) (Nat.add_assoc _ _ _))⟩))); try go_wp2_with (first | (go_at_call 13; (with_reducible refine (ndjqkeep_Prefix.calls ((⟨#[]⟩ : ByteArray) ++ ((rd_T33 t357 x7_2).f2)) (a0.extract (((rd_T33 t357 x7_2).f1) : Int).toNat a0.size) true _ A50.out).mono ?_); rintro e w' ⟨rfl, ⟨nd, rfl⟩⟩; (try first | exact ⟨rfl, _, World.drewN_drewN _ _ _⟩ | exact ⟨rfl, _, Eq.trans (World.drewN_drewN _ _ _) (congrArg (World.drewN _) (Nat.add_assoc _ _ _))⟩))))
                                          go_roundg kj40
                                          case measure => have := HJ2.out; have := HK2.out; have := HJ10.out; have := HJ40.out; omega
                                          case rel => exact ⟨(wrap64 ((wrap64 (((rd_T33 t357 x7_2).f1) + ((⟨#[]⟩ : ByteArray).size : Int))) + (((rd_T33 t357 x7_2).f2).size : Int))), (wrap64 (x7_2 + 1)), (by first | rfl | (simp; done) | (simp [*]; done) | (simp [show (⟨#[]⟩ : ByteArray).size = 0 from rfl]; done)), (by first | rfl | (simp; done) | (simp [*]; done) | (simp [show (⟨#[]⟩ : ByteArray).size = 0 from rfl]; done)), H', ⟨by have := HJ2.out; have := HK2.out; have := HJ10.out; have := HJ40.out; omega⟩, ⟨by (with_reducible repeat (first | apply Kd.R_alloc | apply Kd.R_drewN | apply Kd.R_drew)); exact Kd.R_mono HO_3.out (fun _ hk => trivial)⟩, ⟨by repeat (first | (with_reducible first | exact HB.out | apply below_alloc | apply pw_below_drewN | apply below_drew1 | refine below_set ?_ GE366.out) | exact HB.out)⟩⟩
                                      · replace c51 := Bool.eq_false_iff.mpr c51
                                        subst c51
                                        have H1 : (some false) = some r := by rw [if_neg (show ¬ (false = true) by decide)] at H; exact H
                                        clear H
                                        have H := H1
                                        clear H1
                                        obtain rfl := Option.some.inj H
                                        have hcz55_0 : wc.cell? ⟨gb366, 0, none⟩ = some (.int .i64 ((rd_T33 t357 x7_2).f0)) := (blk_cell BK366.out 0).trans rfl
                                        have hcz55_1 : wc.cell? ⟨gb366, 1, none⟩ = some (.int .i64 ((rd_T33 t357 x7_2).f1)) := (blk_cell BK366.out 1).trans rfl
                                        have hcz55_2 : wc.cell? ⟨gb366, 2, none⟩ = some (.string ((rd_T33 t357 x7_2).f2)) := (blk_cell BK366.out 2).trans rfl
                                        have hcz55_3 : wc.cell? ⟨gb366, 3, none⟩ = some (.int .i64 ((rd_T33 t357 x7_2).f3)) := (blk_cell BK366.out 3).trans rfl
                                        have hfz55_0 := blk_frozen BK366.out 0
                                        have hfz55_1 := blk_frozen BK366.out 1
                                        have hfz55_2 := blk_frozen BK366.out 2
                                        have hfz55_3 := blk_frozen BK366.out 3
                                        go_wp2_with (first | (go_at_call 13; (with_reducible refine (ndjqkeep_Prefix.calls ((⟨#[]⟩ : ByteArray) ++ ((rd_T33 t357 x7_2).f2)) (a0.extract (((rd_T33 t357 x7_2).f1) : Int).toNat a0.size) false _ A50.out).mono ?_); rintro e w' ⟨rfl, ⟨nd, rfl⟩⟩; (try first | exact ⟨rfl, _, World.drewN_drewN _ _ _⟩ | exact ⟨rfl, _, Eq.trans (World.drewN_drewN _ _ _) (congrArg (World.drewN _) (Nat.add_assoc _ _ _))⟩)))
                                        repeat (go_quiet (first | (go_at_call 13; (with_reducible refine (ndjqkeep_Prefix.calls ((⟨#[]⟩ : ByteArray) ++ ((rd_T33 t357 x7_2).f2)) (a0.extract (((rd_T33 t357 x7_2).f1) : Int).toNat a0.size) false _ A50.out).mono ?_); rintro e w' ⟨rfl, ⟨nd, rfl⟩⟩; (try first | exact ⟨rfl, _, World.drewN_drewN _ _ _⟩ | exact ⟨rfl, _, Eq.trans (World.drewN_drewN _ _ _) (congrArg (World.drewN _) (Nat.add_assoc _ _ _))⟩))); try go_wp2_with (first | (go_at_call 13; (with_reducible refine (ndjqkeep_Prefix.calls ((⟨#[]⟩ : ByteArray) ++ ((rd_T33 t357 x7_2).f2)) (a0.extract (((rd_T33 t357 x7_2).f1) : Int).toNat a0.size) false _ A50.out).mono ?_); rintro e w' ⟨rfl, ⟨nd, rfl⟩⟩; (try first | exact ⟨rfl, _, World.drewN_drewN _ _ _⟩ | exact ⟨rfl, _, Eq.trans (World.drewN_drewN _ _ _) (congrArg (World.drewN _) (Nat.add_assoc _ _ _))⟩))))
                                        go_ret
                                        exact ⟨by first | rfl | (simp [errW_none, errW_some] <;> rfl) | (simp [*, errW_none, errW_some] <;> rfl), by repeat (first | (with_reducible first | exact HB.out | apply below_alloc | apply pw_below_drewN | apply below_drew1 | refine below_set ?_ GE366.out) | exact HB.out)⟩
                                    · rw [if_neg c49] at H
                                      exact absurd H (by simp)
                                  · rw [if_neg c48] at H
                                    exact absurd H (by simp)
                                · rw [if_neg c47] at H
                                  exact absurd H (by simp)
              · rw [if_neg c10] at H
                exact absurd H (by simp)
            · rw [if_neg c9] at H
              have c9b0 : decide (x7_2 < (t357.length : Int)) = false := decide_eq_false c9
              clear c9
              by_cases c56 : (t357.length : Int) > 0
              · rw [if_pos c56] at H
                have c56b0 : decide (0 < (t357.length : Int)) = true := decide_eq_true c56
                have c56b1 : decide (0 < t357.length) = true := decide_eq_true (by omega)
                clear c56
                obtain ⟨ji57, hji57⟩ : ∃ j_ : Int, (wrap64 ((t357.length : Int) - 1)) = j_ := ⟨_, rfl⟩
                replace H : (if 0 ≤ (ji57) then (if (ji57) < (t357.length : Int) then (if ((rd_T33 t357 (ji57)).f1) = (a0.size : Int) then ((ndjqlaw10_awake.f k2).bind fun t364 => (some t364)) else (some false)) else (none)) else (none)) = some r := by first | (rw [hji57] at H; exact H) | (simp only [hji57] at H ⊢; exact H)
                have hji57w : (IntKind.i64.wrap ((t357.length : Int) - 1)) = ji57 := (i64_w _).trans hji57
                by_cases c58 : 0 ≤ (ji57)
                · rw [if_pos c58] at H
                  have c58b0 : decide (0 ≤ (ji57)) = true := decide_eq_true c58
                  clear c58
                  by_cases c59 : (ji57) < (t357.length : Int)
                  · rw [if_pos c59] at H
                    have c59b0 : decide ((ji57) < (t357.length : Int)) = true := decide_eq_true c59
                    clear c59
                    by_cases c60 : ((rd_T33 t357 (ji57)).f1) = (a0.size : Int)
                    · rw [if_pos c60] at H
                      have c60b0 : (((rd_T33 t357 (ji57)).f1) == (a0.size : Int)) = true := beq_iff_eq.mpr c60
                      have c60b1 : (((rd_T33 t357 (ji57)).f1) != (a0.size : Int)) = false := bne_eq_false_iff_eq.mpr c60
                      clear c60
                      replace H := Option.bind_eq_some_iff.mp H
                      obtain ⟨t364, A610, H⟩ := H
                      replace H : (some t364) = some r := H
                      have A61 := Aside0.mk A610
                      clear A610
                      obtain rfl := Option.some.inj H
                      obtain ⟨Ao62, co62, eo62⟩ := Kd.R_slice HO_3.out
                      subst eo62
                      have p363 : 0 ≤ ((ji57) : Int) := of_decide_eq_true (by first | (with_reducible assumption) | assumption)
                      have q363 : (ji57) < (t357.length : Int) := of_decide_eq_true (by first | (with_reducible assumption) | assumption)
                      obtain ⟨ad363, e363, hx363_0, hx363_1, hx363_2, hx363_3⟩ := at_T33 (Kd.R_reads' HO_3.out).2.2 (ji57) p363 q363
                      cases e363
                      replace p363 := eq_true p363
                      replace q363 := eq_true q363
                      go_wp2_with (first | (go_at_call 12; (with_reducible refine (ndjqlaw10_awake.calls k2  t364 _ A61.out (by exact GW.at HG.out (by repeat (first | (with_reducible first | exact HB.out | apply below_alloc | apply pw_below_drewN | apply below_drew1) | exact HB.out)))).mono ?_); rintro e w63 ⟨rfl, hb⟩; have n0_ := Aside0.mk (Kd.R_below (by (with_reducible repeat (first | apply Kd.R_alloc | apply Kd.R_drewN | apply Kd.R_drew)); exact HO_3.out) hb); have n1_ := Aside0.mk (below_step (by repeat (first | (with_reducible first | exact HB.out | apply below_alloc | apply pw_below_drewN | apply below_drew1) | exact HB.out)) hb); clear HO_3; clear HB; have HO_3 := n0_; have HB := n1_; clear n0_ n1_; (try clear hb); (try clear hb2); (try clear hk); (try clear hi)))
                      repeat (go_quiet (first | (go_at_call 12; (with_reducible refine (ndjqlaw10_awake.calls k2  t364 _ A61.out (by exact GW.at HG.out (by repeat (first | (with_reducible first | exact HB.out | apply below_alloc | apply pw_below_drewN | apply below_drew1) | exact HB.out)))).mono ?_); rintro e w63 ⟨rfl, hb⟩; have n0_ := Aside0.mk (Kd.R_below (by (with_reducible repeat (first | apply Kd.R_alloc | apply Kd.R_drewN | apply Kd.R_drew)); exact HO_3.out) hb); have n1_ := Aside0.mk (below_step (by repeat (first | (with_reducible first | exact HB.out | apply below_alloc | apply pw_below_drewN | apply below_drew1) | exact HB.out)) hb); clear HO_3; clear HB; have HO_3 := n0_; have HB := n1_; clear n0_ n1_; (try clear hb); (try clear hb2); (try clear hk); (try clear hi))); try go_wp2_with (first | (go_at_call 12; (with_reducible refine (ndjqlaw10_awake.calls k2  t364 _ A61.out (by exact GW.at HG.out (by repeat (first | (with_reducible first | exact HB.out | apply below_alloc | apply pw_below_drewN | apply below_drew1) | exact HB.out)))).mono ?_); rintro e w63 ⟨rfl, hb⟩; have n0_ := Aside0.mk (Kd.R_below (by (with_reducible repeat (first | apply Kd.R_alloc | apply Kd.R_drewN | apply Kd.R_drew)); exact HO_3.out) hb); have n1_ := Aside0.mk (below_step (by repeat (first | (with_reducible first | exact HB.out | apply below_alloc | apply pw_below_drewN | apply below_drew1) | exact HB.out)) hb); clear HO_3; clear HB; have HO_3 := n0_; have HB := n1_; clear n0_ n1_; (try clear hb); (try clear hb2); (try clear hk); (try clear hi))))
                      go_ret
                      exact ⟨by first | rfl | (simp [errW_none, errW_some] <;> rfl) | (simp only [← hji57]; first | rfl | (simp [errW_none, errW_some] <;> rfl)) | (simp [*, errW_none, errW_some] <;> rfl), by repeat (first | (with_reducible first | exact HB.out | apply below_alloc | apply pw_below_drewN | apply below_drew1) | exact HB.out)⟩
                    · rw [if_neg c60] at H
                      have c60b0 : (((rd_T33 t357 (ji57)).f1) == (a0.size : Int)) = false := beq_eq_false_iff_ne.mpr c60
                      have c60b1 : (((rd_T33 t357 (ji57)).f1) != (a0.size : Int)) = true := bne_iff_ne.mpr c60
                      obtain rfl := Option.some.inj H
                      obtain ⟨Ao64, co64, eo64⟩ := Kd.R_slice HO_3.out
                      subst eo64
                      have p363 : 0 ≤ ((ji57) : Int) := of_decide_eq_true (by first | (with_reducible assumption) | assumption)
                      have q363 : (ji57) < (t357.length : Int) := of_decide_eq_true (by first | (with_reducible assumption) | assumption)
                      obtain ⟨ad363, e363, hx363_0, hx363_1, hx363_2, hx363_3⟩ := at_T33 (Kd.R_reads' HO_3.out).2.2 (ji57) p363 q363
                      cases e363
                      replace p363 := eq_true p363
                      replace q363 := eq_true q363
                      go_wp2
                      repeat (go_quiet (fail); try go_wp2)
                      go_ret
                      exact ⟨by first | rfl | (simp [errW_none, errW_some] <;> rfl) | (simp only [← hji57]; first | rfl | (simp [errW_none, errW_some] <;> rfl)) | (simp [*, errW_none, errW_some] <;> rfl), by repeat (first | (with_reducible first | exact HB.out | apply below_alloc | apply pw_below_drewN | apply below_drew1) | exact HB.out)⟩
                  · rw [if_neg c59] at H
                    exact absurd H (by simp)
                · rw [if_neg c58] at H
                  exact absurd H (by simp)
              · rw [if_neg c56] at H
                have c56b0 : decide (0 < (t357.length : Int)) = false := decide_eq_false c56
                have c56b1 : decide (0 < t357.length) = false := decide_eq_false (by omega)
                clear c56
                obtain rfl := Option.some.inj H
                obtain ⟨Ao65, co65, eo65⟩ := Kd.R_slice HO_3.out
                subst eo65
                go_wp2
                repeat (go_quiet (fail); try go_wp2)
                go_ret
                exact ⟨by first | rfl | (simp [errW_none, errW_some] <;> rfl) | (simp [*, errW_none, errW_some] <;> rfl), by repeat (first | (with_reducible first | exact HB.out | apply below_alloc | apply pw_below_drewN | apply below_drew1) | exact HB.out)⟩

end Go.Proofs.YtdhdpidjdadamaaDoor.PX
