-- Printed by this session's program (wip/print/drive.py): Go functions as plain Lean functions, and proofs that the calls come to them.
import Derived.Test.YtdhdpidjdadamaaDoorPx0
import Derived.Test.YtdhdpidjdadamaaDoorPx1
import Derived.Test.YtdhdpidjdadamaaDoorPx2
import Derived.Test.YtdhdpidjdadamaaDoorPx10
import Derived.Test.YtdhdpidjdadamaaDoorHG
namespace Go.Proofs.YtdhdpidjdadamaaDoor.PX
open Go.RowKit Go.Proofs.YtdhdpidjdadamaaDoorW.PrintWords Go.Proofs.YtdhdpidjdadamaaDoorW.PrintLast Go.Proofs.YtdhdpidjdadamaaDoorW.PrintMore
attribute [local go_sem] max2_int min2_int max_two min_two max_three min_three max_four min_four   -- for this text's walks alone
set_option linter.unusedVariables false
set_option linter.unusedSimpArgs false

attribute [local go_sem high] eqA33
/-! ### flex_Lex: function 9 -/
def flex_Lex.l0 : Nat → ByteArray → List (S33) → Int → Option ((List (S33)) × Int × Int)
  | 0, _, _, _ => none
  | k + 1, x0, x5, x6 => if x6 < (x0.size : Int) then (if (x5.length : Int) ≥ 2048 then (some (([] : List (S33)), x6, 2)) else ((flex_token.f k x0 x6).bind fun bt192 => (if bt192.2.2.2.2.2 = 0 then (if x5.length < 3518437208883 then ((flex_skip.f k x0 bt192.2.2.2.2.1).bind fun t202 => (flex_Lex.l0 k x0 (x5 ++ [(⟨bt192.1, x6, bt192.2.2.1, bt192.2.2.2.1⟩ : S33)]) t202)) else (none)) else (some (([] : List (S33)), bt192.2.2.2.2.1, bt192.2.2.2.2.2))))) else (if x5.length < 3518437208883 then (some ((x5 ++ [(⟨0, (x0.size : Int), (⟨#[]⟩ : ByteArray), 0⟩ : S33)]), 0, 0)) else (none))
def flex_Lex.f (k : Nat) (a0 : ByteArray) : Option ((List (S33)) × Int × Int) := if (a0.size : Int) > 8192 then (some (([] : List (S33)), 0, 2)) else ((flex_skip.f k a0 0).bind fun t188 => (flex_Lex.l0 k a0 ([] : List (S33)) t188))
theorem flex_Lex.mono_l : ∀ k, (∀ y0 y1 y2, LeO (flex_Lex.l0 k y0 y1 y2) (flex_Lex.l0 (k + 1) y0 y1 y2))
  | 0 => fun _ _ _ r h => by simp [flex_Lex.l0] at h
  | k + 1 => by
    have ih0 := flex_Lex.mono_l k
    · intro y0 y1 y2
      unfold flex_Lex.l0
      repeat' first
      | (with_reducible exact ih0 _ _ _)
      | (with_reducible exact flex_skip.mono _ _ _)
      | (with_reducible exact flex_token.mono _ _ _)
      | (with_reducible exact LeO.refl _)
      | (with_reducible exact LeO.none _)
      | (with_reducible refine LeO.ite ?_ ?_)
      | (with_reducible refine LeO.bind ?_ (fun _ => ?_))
      | exact ih0 _ _ _
      | exact flex_skip.mono _ _ _
      | exact flex_token.mono _ _ _
      | exact LeO.none _
      | refine LeO.ite ?_ ?_
      | refine LeO.bind ?_ (fun _ => ?_)
theorem flex_Lex.mono : ∀ a0 k, LeO (flex_Lex.f k a0) (flex_Lex.f (k + 1) a0) := by
  intro a0 k
  have ih0 := flex_Lex.mono_l k
  unfold flex_Lex.f
  repeat' first
      | (with_reducible exact ih0 _ _ _)
      | (with_reducible exact flex_skip.mono _ _ _)
      | (with_reducible exact flex_token.mono _ _ _)
      | (with_reducible exact LeO.refl _)
      | (with_reducible exact LeO.none _)
      | (with_reducible refine LeO.ite ?_ ?_)
      | (with_reducible refine LeO.bind ?_ (fun _ => ?_))
      | exact ih0 _ _ _
      | exact flex_skip.mono _ _ _
      | exact flex_token.mono _ _ _
      | exact LeO.none _
      | refine LeO.ite ?_ ?_
      | refine LeO.bind ?_ (fun _ => ?_)
set_option maxHeartbeats 8000000 in
set_option maxRecDepth 100000 in
theorem flex_Lex.calls (k : Nat) (a0 : ByteArray) (r1 : List (S33)) (r2 : Int) (r3 : Int) (w : World) (h : flex_Lex.f k a0 = some (r1, r2, r3)) (hG0 : GW w) :
    Calls Tryd.prog 9 #[.string a0] w fun e w' => ∃ v0_ : Value, e = .returned (.tuple #[v0_, .int .i64 r2, .int .i64 r3]) ∧ Kd.R k33 33 w' w.heap.size (fun _ => True) v0_ r1 ∧ Below w.heap.size w w' := by
  have hu33 := Tryd.underlying33
  have HB := Aside0.mk (Below.refl w.heap.size w)
  have HG := Aside0.mk hG0
  clear hG0
  have H : (if (a0.size : Int) > 8192 then (some (([] : List (S33)), 0, 2)) else ((flex_skip.f k a0 0).bind fun t188 => (flex_Lex.l0 k a0 ([] : List (S33)) t188))) = some (r1, r2, r3) := h
  clear h
  by_cases c2 : (a0.size : Int) > 8192
  · rw [if_pos c2] at H
    have c2b0 : decide (8192 < (a0.size : Int)) = true := decide_eq_true c2
    have c2b1 : decide (8192 < a0.size) = true := decide_eq_true (by omega)
    clear c2
    simp only [Option.some.injEq, Prod.mk.injEq] at H
    obtain ⟨rfl, rfl, rfl⟩ := H
    go_enter Tryd.func9, Tryd.ntmps9
    go_wp2
    go_ret3
    exact ⟨_, by first | rfl | (simp [errW_none, errW_some] <;> rfl) | (simp [*, errW_none, errW_some] <;> rfl), by first | exact Kd.R_nil _ _ _ _ _ | exact Kd.N_nil _ _ _ _ _ | exact Kd.V_nil _ _ _ _ _ | exact Kd.Q_nil _ _ _ _ _ | exact Kd.S_nil _ _ _ _ _, by repeat (first | (with_reducible first | exact HB.out | apply below_alloc | apply pw_below_drewN | apply below_drew1) | exact HB.out)⟩
  · rw [if_neg c2] at H
    have c2b0 : decide (8192 < (a0.size : Int)) = false := decide_eq_false c2
    have c2b1 : decide (8192 < a0.size) = false := decide_eq_false (by omega)
    clear c2
    replace H := Option.bind_eq_some_iff.mp H
    obtain ⟨t188, A30, H⟩ := H
    replace H : (flex_Lex.l0 k a0 ([] : List (S33)) t188) = some (r1, r2, r3) := H
    have A3 := Aside0.mk A30
    clear A30
    have H' := Aside0.mk H
    clear H
    go_enter Tryd.func9, Tryd.ntmps9
    go_wp2_with (first | ((with_reducible refine gate_callee (f := 19) rfl ?_); refine goesL_ (some 14) rfl rfl Tryd.func19 (by kernel_rfl) rfl #[.string a0, .int .i64 0] rfl (by (try simp only [List.map_toArray, List.map_cons, List.map_nil]); first | done | rfl | (simp only [List.length_drop, List.length_take]; rfl)) ?_; (with_reducible refine (flex_skip.calls k a0 0 t188 _ A3.out).mono ?_); rintro e w' ⟨rfl, ⟨nd, rfl⟩⟩; refine ⟨_, rfl, ?_⟩))
    go_loopg [5, 6] k (fun kq v5 v6 w' => ∃ (x5_1 : List (S33)) (x6_1 : Int), v6 = .int .i64 x6_1 ∧ Aside0 (flex_Lex.l0 kq a0 x5_1 x6_1 = some (r1, r2, r3)) ∧ Aside0 (kq ≤ k) ∧ Aside0 (Kd.R k33 33 w' w.heap.size (fun _ => True) v5 x5_1) ∧ Aside0 (Below w.heap.size w w'))
    case atStart => exact ⟨(([] : List (S33))), (t188), (by first | rfl | (simp; done) | (simp [*]; done)), H', ⟨Nat.le_refl _⟩, ⟨by first | exact Kd.R_nil _ _ _ _ _ | exact Kd.N_nil _ _ _ _ _ | exact Kd.V_nil _ _ _ _ _ | exact Kd.Q_nil _ _ _ _ _ | exact Kd.S_nil _ _ _ _ _⟩, ⟨by repeat (first | (with_reducible first | exact HB.out | apply below_alloc | apply pw_below_drewN | apply below_drew1) | exact HB.out)⟩⟩
    case round =>
      clear H'
      try clear c1
      try clear c2
      try clear c2b0
      try clear c2b1
      try clear p2
      obtain ⟨x5_1, x6_1, rfl, HA, HK1, HO_5, HB⟩ := hrel
      cases gk with
      | zero => exact absurd HA.out (by simp [flex_Lex.l0])
      | succ k1 =>
        have H := HA.out
        clear HA
        simp only [flex_Lex.l0] at H
        by_cases c4 : x6_1 < (a0.size : Int)
        · rw [if_pos c4] at H
          have c4b0 : decide (x6_1 < (a0.size : Int)) = true := decide_eq_true c4
          clear c4
          by_cases c5 : (x5_1.length : Int) ≥ 2048
          · rw [if_pos c5] at H
            have c5b0 : decide (2048 ≤ (x5_1.length : Int)) = true := decide_eq_true c5
            have c5b1 : decide (2048 ≤ x5_1.length) = true := decide_eq_true (by omega)
            clear c5
            simp only [Option.some.injEq, Prod.mk.injEq] at H
            obtain ⟨rfl, rfl, rfl⟩ := H
            obtain ⟨Ao6, co6, eo6⟩ := Kd.R_slice HO_5.out
            subst eo6
            go_wp2
            go_ret3
            exact ⟨_, by first | rfl | (simp [errW_none, errW_some] <;> rfl) | (simp [*, errW_none, errW_some] <;> rfl), by first | exact Kd.R_nil _ _ _ _ _ | exact Kd.N_nil _ _ _ _ _ | exact Kd.V_nil _ _ _ _ _ | exact Kd.Q_nil _ _ _ _ _ | exact Kd.S_nil _ _ _ _ _, by repeat (first | (with_reducible first | exact HB.out | apply below_alloc | apply pw_below_drewN | apply below_drew1) | exact HB.out)⟩
          · rw [if_neg c5] at H
            have c5b0 : decide (2048 ≤ (x5_1.length : Int)) = false := decide_eq_false c5
            have c5b1 : decide (2048 ≤ x5_1.length) = false := decide_eq_false (by omega)
            clear c5
            replace H := Option.bind_eq_some_iff.mp H
            obtain ⟨⟨t192, t193, t194, t195, t196, t197⟩, A70, H⟩ := H
            replace H : (if t197 = 0 then (if x5_1.length < 3518437208883 then ((flex_skip.f k1 a0 t196).bind fun t202 => (flex_Lex.l0 k1 a0 (x5_1 ++ [(⟨t192, x6_1, t194, t195⟩ : S33)]) t202)) else (none)) else (some (([] : List (S33)), t196, t197))) = some (r1, r2, r3) := H
            have A7 := Aside0.mk A70
            clear A70
            by_cases c8 : t197 = 0
            · rw [if_pos c8] at H
              have c8b0 : (t197 == 0) = true := beq_iff_eq.mpr c8
              have c8b1 : (t197 != 0) = false := bne_eq_false_iff_eq.mpr c8
              clear c8
              by_cases c9 : x5_1.length < 3518437208883
              · rw [if_pos c9] at H
                have LMc9 := Aside0.mk c9
                clear c9
                obtain ⟨y199, hy199⟩ : ∃ y_ : List (S33), y_ = (x5_1 ++ [(⟨t192, x6_1, t194, t195⟩ : S33)]) := ⟨_, rfl⟩
                replace H : ((flex_skip.f k1 a0 t196).bind fun t202 => (flex_Lex.l0 k1 a0 y199 t202)) = some (r1, r2, r3) := by first | (rw [hy199]; with_reducible exact H) | (have H2_ := (Option.bind_some _ _).symm.trans H; rw [hy199]; with_reducible exact H2_) | (have H2_ := (Option.bind_some _ _).symm.trans H; with_reducible exact H2_) | with_reducible exact H | (rw [hy199]; exact H) | exact H
                have Ny199 := Aside0.mk hy199
                clear hy199
                replace H := Option.bind_eq_some_iff.mp H
                obtain ⟨t202, A100, H⟩ := H
                replace H : (flex_Lex.l0 k1 a0 y199 t202) = some (r1, r2, r3) := H
                have A10 := Aside0.mk A100
                clear A100
                have H' := Aside0.mk H
                clear H
                obtain ⟨Ao11, co11, eo11⟩ := Kd.R_slice HO_5.out
                subst eo11
                go_upto_region 12 with (first | ((with_reducible refine gate_callee (f := 20) rfl ?_); refine goesL_ (some 26) rfl rfl Tryd.func20 (by kernel_rfl) rfl #[.string a0, .int .i64 x6_1] rfl (by (try simp only [List.map_toArray, List.map_cons, List.map_nil]); first | done | rfl | (simp only [List.length_drop, List.length_take]; rfl)) ?_; (with_reducible refine (flex_token.calls k1 a0 x6_1 t192 t193 t194 t195 t196 t197 _ A7.out (by exact GW.at HG.out (by repeat (first | (with_reducible first | exact HB.out | apply below_alloc | apply pw_below_drewN | apply below_drew1) | exact HB.out)))).mono ?_); rintro e w12 ⟨rfl, hb⟩; refine ⟨_, rfl, ?_⟩; have n0_ := Aside0.mk (Kd.R_below (by (with_reducible repeat (first | apply Kd.R_alloc | apply Kd.R_drewN | apply Kd.R_drew)); exact HO_5.out) hb); have n1_ := Aside0.mk (below_step (by repeat (first | (with_reducible first | exact HB.out | apply below_alloc | apply pw_below_drewN | apply below_drew1) | exact HB.out)) hb); clear HO_5; clear HB; have HO_5 := n0_; have HB := n1_; clear n0_ n1_; (try clear hb); (try clear hb2); (try clear hk); (try clear hi)) | ((with_reducible refine gate_dst (N := 7) rfl ?_); refine box_event ?hg (N := 7) ?hd (cs := #[.int .i64 0, .int .i64 0, .string (⟨#[]⟩ : ByteArray), .int .i64 0]) (t := 33) ?hr ?_; (case hd => rfl); (case hg => rfl); (case hr => first | (go_simp; done) | (go_simp; rfl)); intro gb198 hg w13 hbox hb; have n0_ := Aside0.mk (Kd.R_below (Kd.R_elderB (by (with_reducible repeat (first | apply Kd.R_alloc | apply Kd.R_drewN | apply Kd.R_drew)); exact HO_5.out) gb198 (Nat.le_of_eq hg.symm)) hb); have n1_ := Aside0.mk (below_step (by repeat (first | (with_reducible first | exact HB.out | apply below_alloc | apply pw_below_drewN | apply below_drew1) | exact HB.out)) hb); have n2_ := Aside0.mk (hbox); have n3_ := Aside0.mk ((by rw [hg]; exact (below_size (by repeat (first | (with_reducible first | exact HB.out | apply below_alloc | apply pw_below_drewN | apply below_drew1) | exact HB.out))) : w.heap.size ≤ gb198)); have n4_ := Aside0.mk ((by rw [hg]; exact (below_size (by repeat (first | (with_reducible first | exact HB.out | apply below_alloc | apply pw_below_drewN | apply below_drew1) | exact HB.out))) : w.heap.size ≤ gb198)); clear HO_5; clear HB; have HO_5 := n0_; have HB := n1_; have BK198 := n2_; have GW198 := n3_; have GE198 := n4_; clear n0_ n1_ n2_ n3_ n4_; clear hb hbox hg; have hcz14_0 : w13.cell? ⟨gb198, 0, none⟩ = some (.int .i64 0) := (blk_cell BK198.out 0).trans rfl; have hcz14_1 : w13.cell? ⟨gb198, 1, none⟩ = some (.int .i64 0) := (blk_cell BK198.out 1).trans rfl; have hcz14_2 : w13.cell? ⟨gb198, 2, none⟩ = some (.string (⟨#[]⟩ : ByteArray)) := (blk_cell BK198.out 2).trans rfl; have hcz14_3 : w13.cell? ⟨gb198, 3, none⟩ = some (.int .i64 0) := (blk_cell BK198.out 3).trans rfl; have hfz14_0 := blk_frozen BK198.out 0; have hfz14_1 := blk_frozen BK198.out 1; have hfz14_2 := blk_frozen BK198.out 2; have hfz14_3 := blk_frozen BK198.out 3))
                have n0_ := Aside0.mk (blk_put (blk_put (blk_put (blk_put (blk_put BK198.out 0 (.int .i64 t192) rfl) 1 (.int .i64 t193) rfl) 2 (.string t194) rfl) 3 (.int .i64 t195) rfl) 1 (.int .i64 x6_1) rfl)
                have n1_ := Aside0.mk (Kd.R_mono (Kd.R_far (p := ⟨gb198, 1, none⟩) (Kd.R_far (p := ⟨gb198, 3, none⟩) (Kd.R_far (p := ⟨gb198, 2, none⟩) (Kd.R_far (p := ⟨gb198, 1, none⟩) (Kd.R_far (p := ⟨gb198, 0, none⟩) (Kd.R_mono HO_5.out (fun k_ hk => (⟨hk, hk.2⟩ : _ ∧ k_ ≠ gb198))) (fun _ hk => hk.2) (.int .i64 t192)) (fun _ hk => hk.2) (.int .i64 t193)) (fun _ hk => hk.2) (.string t194)) (fun _ hk => hk.2) (.int .i64 t195)) (fun _ hk => hk.2) (.int .i64 x6_1)) (fun k_ hk => (hk.1.2 : k_ ≠ gb198)))
                have n2_ := Aside0.mk (show Below w.heap.size w (((((w13.setCell ⟨gb198, 0, none⟩ (.int .i64 t192)).setCell ⟨gb198, 1, none⟩ (.int .i64 t193)).setCell ⟨gb198, 2, none⟩ (.string t194)).setCell ⟨gb198, 3, none⟩ (.int .i64 t195)).setCell ⟨gb198, 1, none⟩ (.int .i64 x6_1)) from by repeat (first | (with_reducible first | exact HB.out | apply below_alloc | apply pw_below_drewN | apply below_drew1 | refine below_set ?_ GE198.out) | exact HB.out))
                clear hcz14_0 hcz14_1 hcz14_2 hcz14_3 hfz14_0 hfz14_1 hfz14_2 hfz14_3 BK198 HO_5 HB
                generalize (((((w13.setCell ⟨gb198, 0, none⟩ (.int .i64 t192)).setCell ⟨gb198, 1, none⟩ (.int .i64 t193)).setCell ⟨gb198, 2, none⟩ (.string t194)).setCell ⟨gb198, 3, none⟩ (.int .i64 t195)).setCell ⟨gb198, 1, none⟩ (.int .i64 x6_1)) = w40 at n0_ n1_ n2_ ⊢
                have hcz0 := (blk_cell n0_.out 0).trans rfl
                have hcz1 := (blk_cell n0_.out 1).trans rfl
                have hcz2 := (blk_cell n0_.out 2).trans rfl
                have hcz3 := (blk_cell n0_.out 3).trans rfl
                go_wp2_with (first | ((with_reducible refine gate_builtin (b := .append) (xs := #[.tmp 36, .tmp 38]) rfl ?_); at_builtin; refine Kd.R_append k33 (w0 := w) w.heap.size rfl (.tmp 36) (.tmp 38) 25 33 (.agg #[(.int .i64 0), (.int .i64 0), (.string ⟨#[]⟩), (.int .i64 0)]) 40 rfl Tryd.underlying25 info33 rfl (by decide) (by omega) (.slice Ao11 x5_1.length co11) x5_1 (⟨t192, x6_1, t194, t195⟩ : S33) [.int .i64 t192, .int .i64 x6_1, .string t194, .int .i64 t195] (fun k_ => k_ ≠ gb198) (fun _ => False) rfl (by first | (go_simp; done) | (go_simp; rfl)) ?aP (fun _ hk => hk.elim) ?aF ?aO ?aB ?aS ?aL ?_; (case aP => exact k33_mkM _ _ _ (⟨t192, x6_1, t194, t195⟩ : S33)); (case aB => exact (by repeat (first | (with_reducible first | exact n2_.out | apply below_alloc | apply pw_below_drewN | apply below_drew1) | exact n2_.out))); (case aF => exact (fun k_ hk => Kd.freshB (g := gb198) (o := .cells #[.int .i64 t192, .int .i64 x6_1, .string t194, .int .i64 t195] 33 (0, 0)) (by (with_reducible repeat (first | refine blk_drewN ?_ _ | refine blk_drew ?_ | refine blk_alloc ?_ _)); exact n0_.out) k_ hk)); (case aO => exact (by (with_reducible repeat (first | apply Kd.R_alloc | apply Kd.R_drewN | apply Kd.R_drew)); exact n1_.out)); (case aS => exact (below_size (by repeat (first | (with_reducible first | exact n2_.out | apply below_alloc | apply pw_below_drewN | apply below_drew1) | exact n2_.out)))); (case aL => have := LMc9.out; omega); intro v200 w15 ho hb hg hat; rw [← Ny199.out] at ho; have HB := Aside0.mk hb; have HO201 := Aside0.mk ho; clear ho hb hg hat; clear n0_ n1_ n2_ hcz0 hcz1 hcz2 hcz3) | ((with_reducible refine gate_callee (f := 19) rfl ?_); refine goesL_ (some 42) rfl rfl Tryd.func19 (by kernel_rfl) rfl #[.string a0, .int .i64 t196] rfl (by (try simp only [List.map_toArray, List.map_cons, List.map_nil]); first | done | rfl | (simp only [List.length_drop, List.length_take]; rfl)) ?_; (with_reducible refine (flex_skip.calls k1 a0 t196 t202 _ A10.out).mono ?_); rintro e w' ⟨rfl, ⟨nd, rfl⟩⟩; refine ⟨_, rfl, ?_⟩))
                go_roundg k1
                case measure => have := HK1.out; omega
                case rel => exact ⟨(y199), (t202), (by first | rfl | (simp; done) | (simp [*]; done)), H', ⟨by have := HK1.out; omega⟩, ⟨by (with_reducible repeat (first | apply Kd.R_alloc | apply Kd.R_drewN | apply Kd.R_drew)); exact Kd.R_mono HO201.out (fun _ hk => trivial)⟩, ⟨by repeat (first | (with_reducible first | exact HB.out | apply below_alloc | apply pw_below_drewN | apply below_drew1 | refine below_set ?_ GE198.out) | exact HB.out)⟩⟩
              · rw [if_neg c9] at H
                exact absurd H (by simp)
            · rw [if_neg c8] at H
              have c8b0 : (t197 == 0) = false := beq_eq_false_iff_ne.mpr c8
              have c8b1 : (t197 != 0) = true := bne_iff_ne.mpr c8
              simp only [Option.some.injEq, Prod.mk.injEq] at H
              obtain ⟨rfl, rfl, rfl⟩ := H
              obtain ⟨Ao16, co16, eo16⟩ := Kd.R_slice HO_5.out
              subst eo16
              go_wp2_with (first | ((with_reducible refine gate_callee (f := 20) rfl ?_); refine goesL_ (some 26) rfl rfl Tryd.func20 (by kernel_rfl) rfl #[.string a0, .int .i64 x6_1] rfl (by (try simp only [List.map_toArray, List.map_cons, List.map_nil]); first | done | rfl | (simp only [List.length_drop, List.length_take]; rfl)) ?_; (with_reducible refine (flex_token.calls k1 a0 x6_1 t192 t193 t194 t195 t196 t197 _ A7.out (by exact GW.at HG.out (by repeat (first | (with_reducible first | exact HB.out | apply below_alloc | apply pw_below_drewN | apply below_drew1) | exact HB.out)))).mono ?_); rintro e w17 ⟨rfl, hb⟩; refine ⟨_, rfl, ?_⟩; have n0_ := Aside0.mk (Kd.R_below (by (with_reducible repeat (first | apply Kd.R_alloc | apply Kd.R_drewN | apply Kd.R_drew)); exact HO_5.out) hb); have n1_ := Aside0.mk (below_step (by repeat (first | (with_reducible first | exact HB.out | apply below_alloc | apply pw_below_drewN | apply below_drew1) | exact HB.out)) hb); clear HO_5; clear HB; have HO_5 := n0_; have HB := n1_; clear n0_ n1_; (try clear hb); (try clear hb2); (try clear hk); (try clear hi)) | ((with_reducible refine gate_dst (N := 7) rfl ?_); refine box_event ?hg (N := 7) ?hd (cs := #[.int .i64 0, .int .i64 0, .string (⟨#[]⟩ : ByteArray), .int .i64 0]) (t := 33) ?hr ?_; (case hd => rfl); (case hg => rfl); (case hr => first | (go_simp; done) | (go_simp; rfl)); intro gb198 hg w18 hbox hb; have n0_ := Aside0.mk (Kd.R_below (Kd.R_elderB (by (with_reducible repeat (first | apply Kd.R_alloc | apply Kd.R_drewN | apply Kd.R_drew)); exact HO_5.out) gb198 (Nat.le_of_eq hg.symm)) hb); have n1_ := Aside0.mk (below_step (by repeat (first | (with_reducible first | exact HB.out | apply below_alloc | apply pw_below_drewN | apply below_drew1) | exact HB.out)) hb); have n2_ := Aside0.mk (hbox); have n3_ := Aside0.mk ((by rw [hg]; exact (below_size (by repeat (first | (with_reducible first | exact HB.out | apply below_alloc | apply pw_below_drewN | apply below_drew1) | exact HB.out))) : w.heap.size ≤ gb198)); have n4_ := Aside0.mk ((by rw [hg]; exact (below_size (by repeat (first | (with_reducible first | exact HB.out | apply below_alloc | apply pw_below_drewN | apply below_drew1) | exact HB.out))) : w.heap.size ≤ gb198)); clear HO_5; clear HB; have HO_5 := n0_; have HB := n1_; have BK198 := n2_; have GW198 := n3_; have GE198 := n4_; clear n0_ n1_ n2_ n3_ n4_; clear hb hbox hg; have hcz19_0 : w18.cell? ⟨gb198, 0, none⟩ = some (.int .i64 0) := (blk_cell BK198.out 0).trans rfl; have hcz19_1 : w18.cell? ⟨gb198, 1, none⟩ = some (.int .i64 0) := (blk_cell BK198.out 1).trans rfl; have hcz19_2 : w18.cell? ⟨gb198, 2, none⟩ = some (.string (⟨#[]⟩ : ByteArray)) := (blk_cell BK198.out 2).trans rfl; have hcz19_3 : w18.cell? ⟨gb198, 3, none⟩ = some (.int .i64 0) := (blk_cell BK198.out 3).trans rfl; have hfz19_0 := blk_frozen BK198.out 0; have hfz19_1 := blk_frozen BK198.out 1; have hfz19_2 := blk_frozen BK198.out 2; have hfz19_3 := blk_frozen BK198.out 3))
              go_ret3
              exact ⟨_, by first | rfl | (simp [errW_none, errW_some] <;> rfl) | (simp [*, errW_none, errW_some] <;> rfl), by first | exact Kd.R_nil _ _ _ _ _ | exact Kd.N_nil _ _ _ _ _ | exact Kd.V_nil _ _ _ _ _ | exact Kd.Q_nil _ _ _ _ _ | exact Kd.S_nil _ _ _ _ _, by repeat (first | (with_reducible first | exact HB.out | apply below_alloc | apply pw_below_drewN | apply below_drew1 | refine below_set ?_ GE198.out) | exact HB.out)⟩
        · rw [if_neg c4] at H
          have c4b0 : decide (x6_1 < (a0.size : Int)) = false := decide_eq_false c4
          clear c4
          by_cases c20 : x5_1.length < 3518437208883
          · rw [if_pos c20] at H
            have LMc20 := Aside0.mk c20
            clear c20
            obtain ⟨y189, hy189⟩ : ∃ y_ : List (S33), y_ = (x5_1 ++ [(⟨0, (a0.size : Int), (⟨#[]⟩ : ByteArray), 0⟩ : S33)]) := ⟨_, rfl⟩
            replace H : (some (y189, 0, 0)) = some (r1, r2, r3) := by first | (rw [hy189]; with_reducible exact H) | (have H2_ := (Option.bind_some _ _).symm.trans H; rw [hy189]; with_reducible exact H2_) | (have H2_ := (Option.bind_some _ _).symm.trans H; with_reducible exact H2_) | with_reducible exact H | (rw [hy189]; exact H) | exact H
            have Ny189 := Aside0.mk hy189
            clear hy189
            simp only [Option.some.injEq, Prod.mk.injEq] at H
            obtain ⟨rfl, rfl, rfl⟩ := H
            go_wp2_with (first | ((with_reducible refine gate_builtin (b := .append) (xs := #[.tmp 43, .tmp 47]) rfl ?_); at_builtin; refine Kd.R_append k33 (w0 := w) w.heap.size rfl (.tmp 43) (.tmp 47) 25 33 (.agg #[(.int .i64 0), (.int .i64 0), (.string ⟨#[]⟩), (.int .i64 0)]) 40 rfl Tryd.underlying25 info33 rfl (by decide) (by omega) u5 x5_1 (⟨0, (a0.size : Int), (⟨#[]⟩ : ByteArray), 0⟩ : S33) [.int .i64 0, .int .i64 (a0.size : Int), .string (⟨#[]⟩ : ByteArray), .int .i64 0] (fun _ => True) (fun _ => False) rfl rfl ?aP (fun _ hk => hk.elim) ?aF ?aO ?aB ?aS ?aL ?_; (case aP => exact k33_mkM _ _ _ (⟨0, (a0.size : Int), (⟨#[]⟩ : ByteArray), 0⟩ : S33)); (case aB => exact (by repeat (first | (with_reducible first | exact HB.out | apply below_alloc | apply pw_below_drewN | apply below_drew1) | exact HB.out))); (case aF => exact (fun _ _ => trivial)); (case aO => exact (by (with_reducible repeat (first | apply Kd.R_alloc | apply Kd.R_drewN | apply Kd.R_drew)); exact HO_5.out)); (case aS => exact (below_size (by repeat (first | (with_reducible first | exact HB.out | apply below_alloc | apply pw_below_drewN | apply below_drew1) | exact HB.out)))); (case aL => have := LMc20.out; omega); intro v190 w21 ho hb hg hat; rw [← Ny189.out] at ho; have n0_ := Aside0.mk (hb); have n1_ := Aside0.mk (ho); clear HB; clear HO_5; have HB := n0_; have HO191 := n1_; clear n0_ n1_; clear ho hb hg hat))
            go_ret3
            exact ⟨_, by first | rfl | (simp [errW_none, errW_some] <;> rfl) | (simp [*, errW_none, errW_some] <;> rfl), by (with_reducible repeat (first | apply Kd.R_alloc | apply Kd.R_drewN | apply Kd.R_drew)); exact HO191.out, by repeat (first | (with_reducible first | exact HB.out | apply below_alloc | apply pw_below_drewN | apply below_drew1) | exact HB.out)⟩
          · rw [if_neg c20] at H
            exact absurd H (by simp)

/-! ### ndjqlaw10_awake: function 12 -/
def ndjqlaw10_awake.f (k : Nat)  : Option (Bool) := (flex_Lex.f k (⟨#[46, 97, 124, 61, 36, 120]⟩ : ByteArray)).bind fun bt203 => (if bt203.2.2 = 0 then (if bt203.2.1 = 0 then (if (bt203.1.length : Int) = 4 then (if 0 < (bt203.1.length : Int) then (if (((rd_T33 bt203.1 0).f0) == 4 && (((rd_T33 bt203.1 0).f1) == 0 && ((((rd_T33 bt203.1 0).f2).toList) == ([97] : List UInt8) && (((rd_T33 bt203.1 0).f3) == 0)))) = true then (if 1 < (bt203.1.length : Int) then (if ((rd_T33 bt203.1 1).f2).toList = ([124, 61] : List UInt8) then (if 2 < (bt203.1.length : Int) then (if ((rd_T33 bt203.1 2).f0) = 3 then (if 3 < (bt203.1.length : Int) then (if ((rd_T33 bt203.1 3).f0) = 0 then ((flex_Keyword.f (⟨#[97, 110, 100]⟩ : ByteArray)).bind fun t212 => (some t212)) else (some false)) else (none)) else (some false)) else (none)) else (some false)) else (none)) else (some false)) else (none)) else (some false)) else (some false)) else (some false))
theorem ndjqlaw10_awake.mono : ∀ k, LeO (ndjqlaw10_awake.f k ) (ndjqlaw10_awake.f (k + 1) ) := by
  intro  k
  unfold ndjqlaw10_awake.f
  repeat' first
      | (with_reducible exact flex_Lex.mono _ _)
      | (with_reducible exact LeO.refl _)
      | (with_reducible exact LeO.none _)
      | (with_reducible refine LeO.ite ?_ ?_)
      | (with_reducible refine LeO.bind ?_ (fun _ => ?_))
      | exact flex_Lex.mono _ _
      | exact LeO.none _
      | refine LeO.ite ?_ ?_
      | refine LeO.bind ?_ (fun _ => ?_)
set_option maxHeartbeats 8000000 in
set_option maxRecDepth 100000 in
theorem ndjqlaw10_awake.calls (k : Nat)  (r : Bool) (w : World) (h : ndjqlaw10_awake.f k  = some r) (hG0 : GW w) :
    Calls Tryd.prog 12 #[] w fun e w' => e = .returned (.bool r) ∧ Below w.heap.size w w' := by
  have hu33 := Tryd.underlying33
  have HB := Aside0.mk (Below.refl w.heap.size w)
  have HG := Aside0.mk hG0
  clear hG0
  have H : ((flex_Lex.f k (⟨#[46, 97, 124, 61, 36, 120]⟩ : ByteArray)).bind fun bt203 => (if bt203.2.2 = 0 then (if bt203.2.1 = 0 then (if (bt203.1.length : Int) = 4 then (if 0 < (bt203.1.length : Int) then (if (((rd_T33 bt203.1 0).f0) == 4 && (((rd_T33 bt203.1 0).f1) == 0 && ((((rd_T33 bt203.1 0).f2).toList) == ([97] : List UInt8) && (((rd_T33 bt203.1 0).f3) == 0)))) = true then (if 1 < (bt203.1.length : Int) then (if ((rd_T33 bt203.1 1).f2).toList = ([124, 61] : List UInt8) then (if 2 < (bt203.1.length : Int) then (if ((rd_T33 bt203.1 2).f0) = 3 then (if 3 < (bt203.1.length : Int) then (if ((rd_T33 bt203.1 3).f0) = 0 then ((flex_Keyword.f (⟨#[97, 110, 100]⟩ : ByteArray)).bind fun t212 => (some t212)) else (some false)) else (none)) else (some false)) else (none)) else (some false)) else (none)) else (some false)) else (none)) else (some false)) else (some false)) else (some false))) = some r := h
  clear h
  replace H := Option.bind_eq_some_iff.mp H
  obtain ⟨⟨t203, t204, t205⟩, A10, H⟩ := H
  replace H : (if t205 = 0 then (if t204 = 0 then (if (t203.length : Int) = 4 then (if 0 < (t203.length : Int) then (if (((rd_T33 t203 0).f0) == 4 && (((rd_T33 t203 0).f1) == 0 && ((((rd_T33 t203 0).f2).toList) == ([97] : List UInt8) && (((rd_T33 t203 0).f3) == 0)))) = true then (if 1 < (t203.length : Int) then (if ((rd_T33 t203 1).f2).toList = ([124, 61] : List UInt8) then (if 2 < (t203.length : Int) then (if ((rd_T33 t203 2).f0) = 3 then (if 3 < (t203.length : Int) then (if ((rd_T33 t203 3).f0) = 0 then ((flex_Keyword.f (⟨#[97, 110, 100]⟩ : ByteArray)).bind fun t212 => (some t212)) else (some false)) else (none)) else (some false)) else (none)) else (some false)) else (none)) else (some false)) else (none)) else (some false)) else (some false)) else (some false)) = some r := H
  have A1 := Aside0.mk A10
  clear A10
  by_cases c2 : t205 = 0
  · rw [if_pos c2] at H
    have c2b0 : (t205 == 0) = true := beq_iff_eq.mpr c2
    have c2b1 : (t205 != 0) = false := bne_eq_false_iff_eq.mpr c2
    clear c2
    by_cases c3 : t204 = 0
    · rw [if_pos c3] at H
      have c3b0 : (t204 == 0) = true := beq_iff_eq.mpr c3
      have c3b1 : (t204 != 0) = false := bne_eq_false_iff_eq.mpr c3
      clear c3
      by_cases c4 : (t203.length : Int) = 4
      · rw [if_pos c4] at H
        have c4b0 : ((t203.length : Int) == 4) = true := beq_iff_eq.mpr c4
        have c4b1 : ((t203.length : Int) != 4) = false := bne_eq_false_iff_eq.mpr c4
        clear c4
        by_cases c5 : 0 < (t203.length : Int)
        · rw [if_pos c5] at H
          have c5b0 : decide (0 < (t203.length : Int)) = true := decide_eq_true c5
          have c5b1 : decide (0 < t203.length) = true := decide_eq_true (by omega)
          clear c5
          by_cases c6 : (((rd_T33 t203 0).f0) == 4 && (((rd_T33 t203 0).f1) == 0 && ((((rd_T33 t203 0).f2).toList) == ([97] : List UInt8) && (((rd_T33 t203 0).f3) == 0)))) = true
          · rw [if_pos c6] at H
            have c6b0 : (((rd_T33 t203 0).f0) == 4 && (((rd_T33 t203 0).f1) == 0 && ((((rd_T33 t203 0).f2).toList) == ([97] : List UInt8) && (((rd_T33 t203 0).f3) == 0)))) = true := c6
            (try (have c6b1 : decide (((rd_T33 t203 0).f0) = 4 && (((rd_T33 t203 0).f1) == 0 && ((((rd_T33 t203 0).f2).toList) == ([97] : List UInt8) && (((rd_T33 t203 0).f3) == 0)))) = true := by simpa using c6))
            (try (have c6b2 : (((rd_T33 t203 0).f0) == 4 && (((rd_T33 t203 0).f1) == 0 && ((((rd_T33 t203 0).f2).toList) == ([97] : List UInt8) && (((rd_T33 t203 0).f3) == 0)))) = true := by simpa using c6))
            clear c6
            by_cases c7 : 1 < (t203.length : Int)
            · rw [if_pos c7] at H
              have c7b0 : decide (1 < (t203.length : Int)) = true := decide_eq_true c7
              have c7b1 : decide (1 < t203.length) = true := decide_eq_true (by omega)
              clear c7
              by_cases c8 : ((rd_T33 t203 1).f2).toList = ([124, 61] : List UInt8)
              · rw [if_pos c8] at H
                have c8b0 : (((rd_T33 t203 1).f2).toList == ([124, 61] : List UInt8)) = true := beq_iff_eq.mpr c8
                have c8b1 : (((rd_T33 t203 1).f2).toList != ([124, 61] : List UInt8)) = false := bne_eq_false_iff_eq.mpr c8
                clear c8
                by_cases c9 : 2 < (t203.length : Int)
                · rw [if_pos c9] at H
                  have c9b0 : decide (2 < (t203.length : Int)) = true := decide_eq_true c9
                  have c9b1 : decide (2 < t203.length) = true := decide_eq_true (by omega)
                  clear c9
                  by_cases c10 : ((rd_T33 t203 2).f0) = 3
                  · rw [if_pos c10] at H
                    have c10b0 : (((rd_T33 t203 2).f0) == 3) = true := beq_iff_eq.mpr c10
                    have c10b1 : (((rd_T33 t203 2).f0) != 3) = false := bne_eq_false_iff_eq.mpr c10
                    clear c10
                    by_cases c11 : 3 < (t203.length : Int)
                    · rw [if_pos c11] at H
                      have c11b0 : decide (3 < (t203.length : Int)) = true := decide_eq_true c11
                      have c11b1 : decide (3 < t203.length) = true := decide_eq_true (by omega)
                      clear c11
                      by_cases c12 : ((rd_T33 t203 3).f0) = 0
                      · rw [if_pos c12] at H
                        have c12b0 : (((rd_T33 t203 3).f0) == 0) = true := beq_iff_eq.mpr c12
                        have c12b1 : (((rd_T33 t203 3).f0) != 0) = false := bne_eq_false_iff_eq.mpr c12
                        clear c12
                        replace H := Option.bind_eq_some_iff.mp H
                        obtain ⟨t212, A130, H⟩ := H
                        replace H : (some t212) = some r := H
                        have A13 := Aside0.mk A130
                        clear A130
                        obtain rfl := Option.some.inj H
                        go_enter Tryd.func12, Tryd.ntmps12
                        go_wp2_with (first | ((with_reducible refine gate_callee (f := 9) rfl ?_); refine goesL_ (some 5) rfl rfl Tryd.func9 (by kernel_rfl) rfl #[.string (⟨#[46, 97, 124, 61, 36, 120]⟩ : ByteArray)] rfl (by (try simp only [List.map_toArray, List.map_cons, List.map_nil]); first | done | rfl | (simp only [List.length_drop, List.length_take]; rfl)) ?_; (with_reducible refine (flex_Lex.calls k (⟨#[46, 97, 124, 61, 36, 120]⟩ : ByteArray) t203 t204 t205 _ A1.out (by exact GW.at HG.out (by repeat (first | (with_reducible first | exact HB.out | apply below_alloc | apply pw_below_drewN | apply below_drew1) | exact HB.out)))).mono ?_); rintro e w14 ⟨v206, rfl, ho0, hb⟩; refine ⟨_, rfl, ?_⟩; have n0_ := Aside0.mk (Kd.R_lower ho0 (below_size (by repeat (first | (with_reducible first | exact HB.out | apply below_alloc | apply pw_below_drewN | apply below_drew1) | exact HB.out)))); have n1_ := Aside0.mk (below_step (by repeat (first | (with_reducible first | exact HB.out | apply below_alloc | apply pw_below_drewN | apply below_drew1) | exact HB.out)) hb); clear HB; have HO207 := n0_; have HB := n1_; clear n0_ n1_; (try clear hb); (try clear hb2); (try clear hk); (try clear hi); (try clear ho0); obtain ⟨Ao15, co15, eo15⟩ := Kd.R_slice HO207.out; subst eo15; have p208 : 0 ≤ (0 : Int) := (by omega); have q208 : 0 < (t203.length : Int) := of_decide_eq_true (by first | (with_reducible assumption) | assumption); obtain ⟨ad208, e208, hx208_0, hx208_1, hx208_2, hx208_3⟩ := at_T33 (Kd.R_reads' HO207.out).2.2 0 p208 q208; cases e208; have qi208 : (0 < t203.length) = True := eq_true (by omega); (try rw [show ((0 : Int)).toNat = 0 from rfl] at hx208_0); (try rw [show 0 * 4 = 0 from rfl] at hx208_0); (try rw [Addr.add_zero'] at hx208_0); (try rw [show ((0 : Int)).toNat = 0 from rfl] at hx208_1); (try rw [show 0 * 4 = 0 from rfl] at hx208_1); (try rw [Addr.add_zero'] at hx208_1); (try rw [show ((0 : Int)).toNat = 0 from rfl] at hx208_2); (try rw [show 0 * 4 = 0 from rfl] at hx208_2); (try rw [Addr.add_zero'] at hx208_2); (try rw [show ((0 : Int)).toNat = 0 from rfl] at hx208_3); (try rw [show 0 * 4 = 0 from rfl] at hx208_3); (try rw [Addr.add_zero'] at hx208_3); replace p208 := eq_true p208; replace q208 := eq_true q208; have p209 : 0 ≤ (1 : Int) := (by omega); have q209 : 1 < (t203.length : Int) := of_decide_eq_true (by first | (with_reducible assumption) | assumption); obtain ⟨ad209, e209, hx209_0, hx209_1, hx209_2, hx209_3⟩ := at_T33 (Kd.R_reads' HO207.out).2.2 1 p209 q209; obtain rfl : ad208 = ad209 := (by injection e209); (try simp only [show (1 : Int).toNat = 1 from rfl, Nat.reduceMul, Nat.reduceEqDiff, Go.Addr.add, ↓reduceIte] at hx209_0); (try simp only [show (1 : Int).toNat = 1 from rfl, Nat.reduceMul, Nat.reduceEqDiff, Go.Addr.add, ↓reduceIte] at hx209_1); (try simp only [show (1 : Int).toNat = 1 from rfl, Nat.reduceMul, Nat.reduceEqDiff, Go.Addr.add, ↓reduceIte] at hx209_2); (try simp only [show (1 : Int).toNat = 1 from rfl, Nat.reduceMul, Nat.reduceEqDiff, Go.Addr.add, ↓reduceIte] at hx209_3); have qi209 : (1 < t203.length) = True := eq_true (by omega); (try rw [show ((1 : Int)).toNat = 1 from rfl] at hx209_0); (try rw [show 1 * 4 = 4 from rfl] at hx209_0); (try rw [show ((1 : Int)).toNat = 1 from rfl] at hx209_1); (try rw [show 1 * 4 = 4 from rfl] at hx209_1); (try rw [show ((1 : Int)).toNat = 1 from rfl] at hx209_2); (try rw [show 1 * 4 = 4 from rfl] at hx209_2); (try rw [show ((1 : Int)).toNat = 1 from rfl] at hx209_3); (try rw [show 1 * 4 = 4 from rfl] at hx209_3); replace p209 := eq_true p209; replace q209 := eq_true q209; have p210 : 0 ≤ (2 : Int) := (by omega); have q210 : 2 < (t203.length : Int) := of_decide_eq_true (by first | (with_reducible assumption) | assumption); obtain ⟨ad210, e210, hx210_0, hx210_1, hx210_2, hx210_3⟩ := at_T33 (Kd.R_reads' HO207.out).2.2 2 p210 q210; obtain rfl : ad208 = ad210 := (by injection e210); (try simp only [show (2 : Int).toNat = 2 from rfl, Nat.reduceMul, Nat.reduceEqDiff, Go.Addr.add, ↓reduceIte] at hx210_0); (try simp only [show (2 : Int).toNat = 2 from rfl, Nat.reduceMul, Nat.reduceEqDiff, Go.Addr.add, ↓reduceIte] at hx210_1); (try simp only [show (2 : Int).toNat = 2 from rfl, Nat.reduceMul, Nat.reduceEqDiff, Go.Addr.add, ↓reduceIte] at hx210_2); (try simp only [show (2 : Int).toNat = 2 from rfl, Nat.reduceMul, Nat.reduceEqDiff, Go.Addr.add, ↓reduceIte] at hx210_3); have qi210 : (2 < t203.length) = True := eq_true (by omega); (try rw [show ((2 : Int)).toNat = 2 from rfl] at hx210_0); (try rw [show 2 * 4 = 8 from rfl] at hx210_0); (try rw [show ((2 : Int)).toNat = 2 from rfl] at hx210_1); (try rw [show 2 * 4 = 8 from rfl] at hx210_1); (try rw [show ((2 : Int)).toNat = 2 from rfl] at hx210_2); (try rw [show 2 * 4 = 8 from rfl] at hx210_2); (try rw [show ((2 : Int)).toNat = 2 from rfl] at hx210_3); (try rw [show 2 * 4 = 8 from rfl] at hx210_3); replace p210 := eq_true p210; replace q210 := eq_true q210; have p211 : 0 ≤ (3 : Int) := (by omega); have q211 : 3 < (t203.length : Int) := of_decide_eq_true (by first | (with_reducible assumption) | assumption); obtain ⟨ad211, e211, hx211_0, hx211_1, hx211_2, hx211_3⟩ := at_T33 (Kd.R_reads' HO207.out).2.2 3 p211 q211; obtain rfl : ad208 = ad211 := (by injection e211); (try simp only [show (3 : Int).toNat = 3 from rfl, Nat.reduceMul, Nat.reduceEqDiff, Go.Addr.add, ↓reduceIte] at hx211_0); (try simp only [show (3 : Int).toNat = 3 from rfl, Nat.reduceMul, Nat.reduceEqDiff, Go.Addr.add, ↓reduceIte] at hx211_1); (try simp only [show (3 : Int).toNat = 3 from rfl, Nat.reduceMul, Nat.reduceEqDiff, Go.Addr.add, ↓reduceIte] at hx211_2); (try simp only [show (3 : Int).toNat = 3 from rfl, Nat.reduceMul, Nat.reduceEqDiff, Go.Addr.add, ↓reduceIte] at hx211_3); have qi211 : (3 < t203.length) = True := eq_true (by omega); (try rw [show ((3 : Int)).toNat = 3 from rfl] at hx211_0); (try rw [show 3 * 4 = 12 from rfl] at hx211_0); (try rw [show ((3 : Int)).toNat = 3 from rfl] at hx211_1); (try rw [show 3 * 4 = 12 from rfl] at hx211_1); (try rw [show ((3 : Int)).toNat = 3 from rfl] at hx211_2); (try rw [show 3 * 4 = 12 from rfl] at hx211_2); (try rw [show ((3 : Int)).toNat = 3 from rfl] at hx211_3); (try rw [show 3 * 4 = 12 from rfl] at hx211_3); replace p211 := eq_true p211; replace q211 := eq_true q211) | (go_at_call 15; (with_reducible refine (flex_Keyword.calls (⟨#[97, 110, 100]⟩ : ByteArray) t212 _ A13.out).mono ?_); rintro e w' ⟨rfl, ⟨nd, rfl⟩⟩))
                        go_ret
                        exact ⟨by first | rfl | (simp [errW_none, errW_some] <;> rfl) | (simp [*, errW_none, errW_some] <;> rfl), by repeat (first | (with_reducible first | exact HB.out | apply below_alloc | apply pw_below_drewN | apply below_drew1) | exact HB.out)⟩
                      · rw [if_neg c12] at H
                        have c12b0 : (((rd_T33 t203 3).f0) == 0) = false := beq_eq_false_iff_ne.mpr c12
                        have c12b1 : (((rd_T33 t203 3).f0) != 0) = true := bne_iff_ne.mpr c12
                        obtain rfl := Option.some.inj H
                        go_enter Tryd.func12, Tryd.ntmps12
                        go_wp2_with (first | ((with_reducible refine gate_callee (f := 9) rfl ?_); refine goesL_ (some 5) rfl rfl Tryd.func9 (by kernel_rfl) rfl #[.string (⟨#[46, 97, 124, 61, 36, 120]⟩ : ByteArray)] rfl (by (try simp only [List.map_toArray, List.map_cons, List.map_nil]); first | done | rfl | (simp only [List.length_drop, List.length_take]; rfl)) ?_; (with_reducible refine (flex_Lex.calls k (⟨#[46, 97, 124, 61, 36, 120]⟩ : ByteArray) t203 t204 t205 _ A1.out (by exact GW.at HG.out (by repeat (first | (with_reducible first | exact HB.out | apply below_alloc | apply pw_below_drewN | apply below_drew1) | exact HB.out)))).mono ?_); rintro e w16 ⟨v206, rfl, ho0, hb⟩; refine ⟨_, rfl, ?_⟩; have n0_ := Aside0.mk (Kd.R_lower ho0 (below_size (by repeat (first | (with_reducible first | exact HB.out | apply below_alloc | apply pw_below_drewN | apply below_drew1) | exact HB.out)))); have n1_ := Aside0.mk (below_step (by repeat (first | (with_reducible first | exact HB.out | apply below_alloc | apply pw_below_drewN | apply below_drew1) | exact HB.out)) hb); clear HB; have HO207 := n0_; have HB := n1_; clear n0_ n1_; (try clear hb); (try clear hb2); (try clear hk); (try clear hi); (try clear ho0); obtain ⟨Ao17, co17, eo17⟩ := Kd.R_slice HO207.out; subst eo17; have p208 : 0 ≤ (0 : Int) := (by omega); have q208 : 0 < (t203.length : Int) := of_decide_eq_true (by first | (with_reducible assumption) | assumption); obtain ⟨ad208, e208, hx208_0, hx208_1, hx208_2, hx208_3⟩ := at_T33 (Kd.R_reads' HO207.out).2.2 0 p208 q208; cases e208; have qi208 : (0 < t203.length) = True := eq_true (by omega); (try rw [show ((0 : Int)).toNat = 0 from rfl] at hx208_0); (try rw [show 0 * 4 = 0 from rfl] at hx208_0); (try rw [Addr.add_zero'] at hx208_0); (try rw [show ((0 : Int)).toNat = 0 from rfl] at hx208_1); (try rw [show 0 * 4 = 0 from rfl] at hx208_1); (try rw [Addr.add_zero'] at hx208_1); (try rw [show ((0 : Int)).toNat = 0 from rfl] at hx208_2); (try rw [show 0 * 4 = 0 from rfl] at hx208_2); (try rw [Addr.add_zero'] at hx208_2); (try rw [show ((0 : Int)).toNat = 0 from rfl] at hx208_3); (try rw [show 0 * 4 = 0 from rfl] at hx208_3); (try rw [Addr.add_zero'] at hx208_3); replace p208 := eq_true p208; replace q208 := eq_true q208; have p209 : 0 ≤ (1 : Int) := (by omega); have q209 : 1 < (t203.length : Int) := of_decide_eq_true (by first | (with_reducible assumption) | assumption); obtain ⟨ad209, e209, hx209_0, hx209_1, hx209_2, hx209_3⟩ := at_T33 (Kd.R_reads' HO207.out).2.2 1 p209 q209; obtain rfl : ad208 = ad209 := (by injection e209); (try simp only [show (1 : Int).toNat = 1 from rfl, Nat.reduceMul, Nat.reduceEqDiff, Go.Addr.add, ↓reduceIte] at hx209_0); (try simp only [show (1 : Int).toNat = 1 from rfl, Nat.reduceMul, Nat.reduceEqDiff, Go.Addr.add, ↓reduceIte] at hx209_1); (try simp only [show (1 : Int).toNat = 1 from rfl, Nat.reduceMul, Nat.reduceEqDiff, Go.Addr.add, ↓reduceIte] at hx209_2); (try simp only [show (1 : Int).toNat = 1 from rfl, Nat.reduceMul, Nat.reduceEqDiff, Go.Addr.add, ↓reduceIte] at hx209_3); have qi209 : (1 < t203.length) = True := eq_true (by omega); (try rw [show ((1 : Int)).toNat = 1 from rfl] at hx209_0); (try rw [show 1 * 4 = 4 from rfl] at hx209_0); (try rw [show ((1 : Int)).toNat = 1 from rfl] at hx209_1); (try rw [show 1 * 4 = 4 from rfl] at hx209_1); (try rw [show ((1 : Int)).toNat = 1 from rfl] at hx209_2); (try rw [show 1 * 4 = 4 from rfl] at hx209_2); (try rw [show ((1 : Int)).toNat = 1 from rfl] at hx209_3); (try rw [show 1 * 4 = 4 from rfl] at hx209_3); replace p209 := eq_true p209; replace q209 := eq_true q209; have p210 : 0 ≤ (2 : Int) := (by omega); have q210 : 2 < (t203.length : Int) := of_decide_eq_true (by first | (with_reducible assumption) | assumption); obtain ⟨ad210, e210, hx210_0, hx210_1, hx210_2, hx210_3⟩ := at_T33 (Kd.R_reads' HO207.out).2.2 2 p210 q210; obtain rfl : ad208 = ad210 := (by injection e210); (try simp only [show (2 : Int).toNat = 2 from rfl, Nat.reduceMul, Nat.reduceEqDiff, Go.Addr.add, ↓reduceIte] at hx210_0); (try simp only [show (2 : Int).toNat = 2 from rfl, Nat.reduceMul, Nat.reduceEqDiff, Go.Addr.add, ↓reduceIte] at hx210_1); (try simp only [show (2 : Int).toNat = 2 from rfl, Nat.reduceMul, Nat.reduceEqDiff, Go.Addr.add, ↓reduceIte] at hx210_2); (try simp only [show (2 : Int).toNat = 2 from rfl, Nat.reduceMul, Nat.reduceEqDiff, Go.Addr.add, ↓reduceIte] at hx210_3); have qi210 : (2 < t203.length) = True := eq_true (by omega); (try rw [show ((2 : Int)).toNat = 2 from rfl] at hx210_0); (try rw [show 2 * 4 = 8 from rfl] at hx210_0); (try rw [show ((2 : Int)).toNat = 2 from rfl] at hx210_1); (try rw [show 2 * 4 = 8 from rfl] at hx210_1); (try rw [show ((2 : Int)).toNat = 2 from rfl] at hx210_2); (try rw [show 2 * 4 = 8 from rfl] at hx210_2); (try rw [show ((2 : Int)).toNat = 2 from rfl] at hx210_3); (try rw [show 2 * 4 = 8 from rfl] at hx210_3); replace p210 := eq_true p210; replace q210 := eq_true q210; have p211 : 0 ≤ (3 : Int) := (by omega); have q211 : 3 < (t203.length : Int) := of_decide_eq_true (by first | (with_reducible assumption) | assumption); obtain ⟨ad211, e211, hx211_0, hx211_1, hx211_2, hx211_3⟩ := at_T33 (Kd.R_reads' HO207.out).2.2 3 p211 q211; obtain rfl : ad208 = ad211 := (by injection e211); (try simp only [show (3 : Int).toNat = 3 from rfl, Nat.reduceMul, Nat.reduceEqDiff, Go.Addr.add, ↓reduceIte] at hx211_0); (try simp only [show (3 : Int).toNat = 3 from rfl, Nat.reduceMul, Nat.reduceEqDiff, Go.Addr.add, ↓reduceIte] at hx211_1); (try simp only [show (3 : Int).toNat = 3 from rfl, Nat.reduceMul, Nat.reduceEqDiff, Go.Addr.add, ↓reduceIte] at hx211_2); (try simp only [show (3 : Int).toNat = 3 from rfl, Nat.reduceMul, Nat.reduceEqDiff, Go.Addr.add, ↓reduceIte] at hx211_3); have qi211 : (3 < t203.length) = True := eq_true (by omega); (try rw [show ((3 : Int)).toNat = 3 from rfl] at hx211_0); (try rw [show 3 * 4 = 12 from rfl] at hx211_0); (try rw [show ((3 : Int)).toNat = 3 from rfl] at hx211_1); (try rw [show 3 * 4 = 12 from rfl] at hx211_1); (try rw [show ((3 : Int)).toNat = 3 from rfl] at hx211_2); (try rw [show 3 * 4 = 12 from rfl] at hx211_2); (try rw [show ((3 : Int)).toNat = 3 from rfl] at hx211_3); (try rw [show 3 * 4 = 12 from rfl] at hx211_3); replace p211 := eq_true p211; replace q211 := eq_true q211))
                        go_ret
                        exact ⟨by first | rfl | (simp [errW_none, errW_some] <;> rfl) | (simp [*, errW_none, errW_some] <;> rfl), by repeat (first | (with_reducible first | exact HB.out | apply below_alloc | apply pw_below_drewN | apply below_drew1) | exact HB.out)⟩
                    · rw [if_neg c11] at H
                      exact absurd H (by simp)
                  · rw [if_neg c10] at H
                    have c10b0 : (((rd_T33 t203 2).f0) == 3) = false := beq_eq_false_iff_ne.mpr c10
                    have c10b1 : (((rd_T33 t203 2).f0) != 3) = true := bne_iff_ne.mpr c10
                    obtain rfl := Option.some.inj H
                    go_enter Tryd.func12, Tryd.ntmps12
                    go_wp2_with (first | ((with_reducible refine gate_callee (f := 9) rfl ?_); refine goesL_ (some 5) rfl rfl Tryd.func9 (by kernel_rfl) rfl #[.string (⟨#[46, 97, 124, 61, 36, 120]⟩ : ByteArray)] rfl (by (try simp only [List.map_toArray, List.map_cons, List.map_nil]); first | done | rfl | (simp only [List.length_drop, List.length_take]; rfl)) ?_; (with_reducible refine (flex_Lex.calls k (⟨#[46, 97, 124, 61, 36, 120]⟩ : ByteArray) t203 t204 t205 _ A1.out (by exact GW.at HG.out (by repeat (first | (with_reducible first | exact HB.out | apply below_alloc | apply pw_below_drewN | apply below_drew1) | exact HB.out)))).mono ?_); rintro e w18 ⟨v206, rfl, ho0, hb⟩; refine ⟨_, rfl, ?_⟩; have n0_ := Aside0.mk (Kd.R_lower ho0 (below_size (by repeat (first | (with_reducible first | exact HB.out | apply below_alloc | apply pw_below_drewN | apply below_drew1) | exact HB.out)))); have n1_ := Aside0.mk (below_step (by repeat (first | (with_reducible first | exact HB.out | apply below_alloc | apply pw_below_drewN | apply below_drew1) | exact HB.out)) hb); clear HB; have HO207 := n0_; have HB := n1_; clear n0_ n1_; (try clear hb); (try clear hb2); (try clear hk); (try clear hi); (try clear ho0); obtain ⟨Ao19, co19, eo19⟩ := Kd.R_slice HO207.out; subst eo19; have p208 : 0 ≤ (0 : Int) := (by omega); have q208 : 0 < (t203.length : Int) := of_decide_eq_true (by first | (with_reducible assumption) | assumption); obtain ⟨ad208, e208, hx208_0, hx208_1, hx208_2, hx208_3⟩ := at_T33 (Kd.R_reads' HO207.out).2.2 0 p208 q208; cases e208; have qi208 : (0 < t203.length) = True := eq_true (by omega); (try rw [show ((0 : Int)).toNat = 0 from rfl] at hx208_0); (try rw [show 0 * 4 = 0 from rfl] at hx208_0); (try rw [Addr.add_zero'] at hx208_0); (try rw [show ((0 : Int)).toNat = 0 from rfl] at hx208_1); (try rw [show 0 * 4 = 0 from rfl] at hx208_1); (try rw [Addr.add_zero'] at hx208_1); (try rw [show ((0 : Int)).toNat = 0 from rfl] at hx208_2); (try rw [show 0 * 4 = 0 from rfl] at hx208_2); (try rw [Addr.add_zero'] at hx208_2); (try rw [show ((0 : Int)).toNat = 0 from rfl] at hx208_3); (try rw [show 0 * 4 = 0 from rfl] at hx208_3); (try rw [Addr.add_zero'] at hx208_3); replace p208 := eq_true p208; replace q208 := eq_true q208; have p209 : 0 ≤ (1 : Int) := (by omega); have q209 : 1 < (t203.length : Int) := of_decide_eq_true (by first | (with_reducible assumption) | assumption); obtain ⟨ad209, e209, hx209_0, hx209_1, hx209_2, hx209_3⟩ := at_T33 (Kd.R_reads' HO207.out).2.2 1 p209 q209; obtain rfl : ad208 = ad209 := (by injection e209); (try simp only [show (1 : Int).toNat = 1 from rfl, Nat.reduceMul, Nat.reduceEqDiff, Go.Addr.add, ↓reduceIte] at hx209_0); (try simp only [show (1 : Int).toNat = 1 from rfl, Nat.reduceMul, Nat.reduceEqDiff, Go.Addr.add, ↓reduceIte] at hx209_1); (try simp only [show (1 : Int).toNat = 1 from rfl, Nat.reduceMul, Nat.reduceEqDiff, Go.Addr.add, ↓reduceIte] at hx209_2); (try simp only [show (1 : Int).toNat = 1 from rfl, Nat.reduceMul, Nat.reduceEqDiff, Go.Addr.add, ↓reduceIte] at hx209_3); have qi209 : (1 < t203.length) = True := eq_true (by omega); (try rw [show ((1 : Int)).toNat = 1 from rfl] at hx209_0); (try rw [show 1 * 4 = 4 from rfl] at hx209_0); (try rw [show ((1 : Int)).toNat = 1 from rfl] at hx209_1); (try rw [show 1 * 4 = 4 from rfl] at hx209_1); (try rw [show ((1 : Int)).toNat = 1 from rfl] at hx209_2); (try rw [show 1 * 4 = 4 from rfl] at hx209_2); (try rw [show ((1 : Int)).toNat = 1 from rfl] at hx209_3); (try rw [show 1 * 4 = 4 from rfl] at hx209_3); replace p209 := eq_true p209; replace q209 := eq_true q209; have p210 : 0 ≤ (2 : Int) := (by omega); have q210 : 2 < (t203.length : Int) := of_decide_eq_true (by first | (with_reducible assumption) | assumption); obtain ⟨ad210, e210, hx210_0, hx210_1, hx210_2, hx210_3⟩ := at_T33 (Kd.R_reads' HO207.out).2.2 2 p210 q210; obtain rfl : ad208 = ad210 := (by injection e210); (try simp only [show (2 : Int).toNat = 2 from rfl, Nat.reduceMul, Nat.reduceEqDiff, Go.Addr.add, ↓reduceIte] at hx210_0); (try simp only [show (2 : Int).toNat = 2 from rfl, Nat.reduceMul, Nat.reduceEqDiff, Go.Addr.add, ↓reduceIte] at hx210_1); (try simp only [show (2 : Int).toNat = 2 from rfl, Nat.reduceMul, Nat.reduceEqDiff, Go.Addr.add, ↓reduceIte] at hx210_2); (try simp only [show (2 : Int).toNat = 2 from rfl, Nat.reduceMul, Nat.reduceEqDiff, Go.Addr.add, ↓reduceIte] at hx210_3); have qi210 : (2 < t203.length) = True := eq_true (by omega); (try rw [show ((2 : Int)).toNat = 2 from rfl] at hx210_0); (try rw [show 2 * 4 = 8 from rfl] at hx210_0); (try rw [show ((2 : Int)).toNat = 2 from rfl] at hx210_1); (try rw [show 2 * 4 = 8 from rfl] at hx210_1); (try rw [show ((2 : Int)).toNat = 2 from rfl] at hx210_2); (try rw [show 2 * 4 = 8 from rfl] at hx210_2); (try rw [show ((2 : Int)).toNat = 2 from rfl] at hx210_3); (try rw [show 2 * 4 = 8 from rfl] at hx210_3); replace p210 := eq_true p210; replace q210 := eq_true q210))
                    go_ret
                    exact ⟨by first | rfl | (simp [errW_none, errW_some] <;> rfl) | (simp [*, errW_none, errW_some] <;> rfl), by repeat (first | (with_reducible first | exact HB.out | apply below_alloc | apply pw_below_drewN | apply below_drew1) | exact HB.out)⟩
                · rw [if_neg c9] at H
                  exact absurd H (by simp)
              · rw [if_neg c8] at H
                have c8b0 : (((rd_T33 t203 1).f2).toList == ([124, 61] : List UInt8)) = false := beq_eq_false_iff_ne.mpr c8
                have c8b1 : (((rd_T33 t203 1).f2).toList != ([124, 61] : List UInt8)) = true := bne_iff_ne.mpr c8
                obtain rfl := Option.some.inj H
                go_enter Tryd.func12, Tryd.ntmps12
                go_wp2_with (first | ((with_reducible refine gate_callee (f := 9) rfl ?_); refine goesL_ (some 5) rfl rfl Tryd.func9 (by kernel_rfl) rfl #[.string (⟨#[46, 97, 124, 61, 36, 120]⟩ : ByteArray)] rfl (by (try simp only [List.map_toArray, List.map_cons, List.map_nil]); first | done | rfl | (simp only [List.length_drop, List.length_take]; rfl)) ?_; (with_reducible refine (flex_Lex.calls k (⟨#[46, 97, 124, 61, 36, 120]⟩ : ByteArray) t203 t204 t205 _ A1.out (by exact GW.at HG.out (by repeat (first | (with_reducible first | exact HB.out | apply below_alloc | apply pw_below_drewN | apply below_drew1) | exact HB.out)))).mono ?_); rintro e w20 ⟨v206, rfl, ho0, hb⟩; refine ⟨_, rfl, ?_⟩; have n0_ := Aside0.mk (Kd.R_lower ho0 (below_size (by repeat (first | (with_reducible first | exact HB.out | apply below_alloc | apply pw_below_drewN | apply below_drew1) | exact HB.out)))); have n1_ := Aside0.mk (below_step (by repeat (first | (with_reducible first | exact HB.out | apply below_alloc | apply pw_below_drewN | apply below_drew1) | exact HB.out)) hb); clear HB; have HO207 := n0_; have HB := n1_; clear n0_ n1_; (try clear hb); (try clear hb2); (try clear hk); (try clear hi); (try clear ho0); obtain ⟨Ao21, co21, eo21⟩ := Kd.R_slice HO207.out; subst eo21; have p208 : 0 ≤ (0 : Int) := (by omega); have q208 : 0 < (t203.length : Int) := of_decide_eq_true (by first | (with_reducible assumption) | assumption); obtain ⟨ad208, e208, hx208_0, hx208_1, hx208_2, hx208_3⟩ := at_T33 (Kd.R_reads' HO207.out).2.2 0 p208 q208; cases e208; have qi208 : (0 < t203.length) = True := eq_true (by omega); (try rw [show ((0 : Int)).toNat = 0 from rfl] at hx208_0); (try rw [show 0 * 4 = 0 from rfl] at hx208_0); (try rw [Addr.add_zero'] at hx208_0); (try rw [show ((0 : Int)).toNat = 0 from rfl] at hx208_1); (try rw [show 0 * 4 = 0 from rfl] at hx208_1); (try rw [Addr.add_zero'] at hx208_1); (try rw [show ((0 : Int)).toNat = 0 from rfl] at hx208_2); (try rw [show 0 * 4 = 0 from rfl] at hx208_2); (try rw [Addr.add_zero'] at hx208_2); (try rw [show ((0 : Int)).toNat = 0 from rfl] at hx208_3); (try rw [show 0 * 4 = 0 from rfl] at hx208_3); (try rw [Addr.add_zero'] at hx208_3); replace p208 := eq_true p208; replace q208 := eq_true q208; have p209 : 0 ≤ (1 : Int) := (by omega); have q209 : 1 < (t203.length : Int) := of_decide_eq_true (by first | (with_reducible assumption) | assumption); obtain ⟨ad209, e209, hx209_0, hx209_1, hx209_2, hx209_3⟩ := at_T33 (Kd.R_reads' HO207.out).2.2 1 p209 q209; obtain rfl : ad208 = ad209 := (by injection e209); (try simp only [show (1 : Int).toNat = 1 from rfl, Nat.reduceMul, Nat.reduceEqDiff, Go.Addr.add, ↓reduceIte] at hx209_0); (try simp only [show (1 : Int).toNat = 1 from rfl, Nat.reduceMul, Nat.reduceEqDiff, Go.Addr.add, ↓reduceIte] at hx209_1); (try simp only [show (1 : Int).toNat = 1 from rfl, Nat.reduceMul, Nat.reduceEqDiff, Go.Addr.add, ↓reduceIte] at hx209_2); (try simp only [show (1 : Int).toNat = 1 from rfl, Nat.reduceMul, Nat.reduceEqDiff, Go.Addr.add, ↓reduceIte] at hx209_3); have qi209 : (1 < t203.length) = True := eq_true (by omega); (try rw [show ((1 : Int)).toNat = 1 from rfl] at hx209_0); (try rw [show 1 * 4 = 4 from rfl] at hx209_0); (try rw [show ((1 : Int)).toNat = 1 from rfl] at hx209_1); (try rw [show 1 * 4 = 4 from rfl] at hx209_1); (try rw [show ((1 : Int)).toNat = 1 from rfl] at hx209_2); (try rw [show 1 * 4 = 4 from rfl] at hx209_2); (try rw [show ((1 : Int)).toNat = 1 from rfl] at hx209_3); (try rw [show 1 * 4 = 4 from rfl] at hx209_3); replace p209 := eq_true p209; replace q209 := eq_true q209))
                go_ret
                exact ⟨by first | rfl | (simp [errW_none, errW_some] <;> rfl) | (simp [*, errW_none, errW_some] <;> rfl), by repeat (first | (with_reducible first | exact HB.out | apply below_alloc | apply pw_below_drewN | apply below_drew1) | exact HB.out)⟩
            · rw [if_neg c7] at H
              exact absurd H (by simp)
          · rw [if_neg c6] at H
            have c6b0 : (((rd_T33 t203 0).f0) == 4 && (((rd_T33 t203 0).f1) == 0 && ((((rd_T33 t203 0).f2).toList) == ([97] : List UInt8) && (((rd_T33 t203 0).f3) == 0)))) = false := by simpa using c6
            (try (have c6b1 : decide (((rd_T33 t203 0).f0) = 4 && (((rd_T33 t203 0).f1) == 0 && ((((rd_T33 t203 0).f2).toList) == ([97] : List UInt8) && (((rd_T33 t203 0).f3) == 0)))) = false := by simpa using c6))
            (try (have c6b2 : (((rd_T33 t203 0).f0) == 4 && (((rd_T33 t203 0).f1) == 0 && ((((rd_T33 t203 0).f2).toList) == ([97] : List UInt8) && (((rd_T33 t203 0).f3) == 0)))) = false := by simpa using c6))
            (try (have c6b3 : ¬ (((rd_T33 t203 0).f0) = 4 && (((rd_T33 t203 0).f1) == 0 && ((((rd_T33 t203 0).f2).toList) == ([97] : List UInt8) && (((rd_T33 t203 0).f3) == 0)))) := by simpa using c6))
            clear c6
            obtain rfl := Option.some.inj H
            go_enter Tryd.func12, Tryd.ntmps12
            go_wp2_with (first | ((with_reducible refine gate_callee (f := 9) rfl ?_); refine goesL_ (some 5) rfl rfl Tryd.func9 (by kernel_rfl) rfl #[.string (⟨#[46, 97, 124, 61, 36, 120]⟩ : ByteArray)] rfl (by (try simp only [List.map_toArray, List.map_cons, List.map_nil]); first | done | rfl | (simp only [List.length_drop, List.length_take]; rfl)) ?_; (with_reducible refine (flex_Lex.calls k (⟨#[46, 97, 124, 61, 36, 120]⟩ : ByteArray) t203 t204 t205 _ A1.out (by exact GW.at HG.out (by repeat (first | (with_reducible first | exact HB.out | apply below_alloc | apply pw_below_drewN | apply below_drew1) | exact HB.out)))).mono ?_); rintro e w22 ⟨v206, rfl, ho0, hb⟩; refine ⟨_, rfl, ?_⟩; have n0_ := Aside0.mk (Kd.R_lower ho0 (below_size (by repeat (first | (with_reducible first | exact HB.out | apply below_alloc | apply pw_below_drewN | apply below_drew1) | exact HB.out)))); have n1_ := Aside0.mk (below_step (by repeat (first | (with_reducible first | exact HB.out | apply below_alloc | apply pw_below_drewN | apply below_drew1) | exact HB.out)) hb); clear HB; have HO207 := n0_; have HB := n1_; clear n0_ n1_; (try clear hb); (try clear hb2); (try clear hk); (try clear hi); (try clear ho0); obtain ⟨Ao23, co23, eo23⟩ := Kd.R_slice HO207.out; subst eo23; have p208 : 0 ≤ (0 : Int) := (by omega); have q208 : 0 < (t203.length : Int) := of_decide_eq_true (by first | (with_reducible assumption) | assumption); obtain ⟨ad208, e208, hx208_0, hx208_1, hx208_2, hx208_3⟩ := at_T33 (Kd.R_reads' HO207.out).2.2 0 p208 q208; cases e208; have qi208 : (0 < t203.length) = True := eq_true (by omega); (try rw [show ((0 : Int)).toNat = 0 from rfl] at hx208_0); (try rw [show 0 * 4 = 0 from rfl] at hx208_0); (try rw [Addr.add_zero'] at hx208_0); (try rw [show ((0 : Int)).toNat = 0 from rfl] at hx208_1); (try rw [show 0 * 4 = 0 from rfl] at hx208_1); (try rw [Addr.add_zero'] at hx208_1); (try rw [show ((0 : Int)).toNat = 0 from rfl] at hx208_2); (try rw [show 0 * 4 = 0 from rfl] at hx208_2); (try rw [Addr.add_zero'] at hx208_2); (try rw [show ((0 : Int)).toNat = 0 from rfl] at hx208_3); (try rw [show 0 * 4 = 0 from rfl] at hx208_3); (try rw [Addr.add_zero'] at hx208_3); replace p208 := eq_true p208; replace q208 := eq_true q208))
            go_ret
            exact ⟨by first | rfl | (simp [errW_none, errW_some] <;> rfl) | (simp [*, errW_none, errW_some] <;> rfl), by repeat (first | (with_reducible first | exact HB.out | apply below_alloc | apply pw_below_drewN | apply below_drew1) | exact HB.out)⟩
        · rw [if_neg c5] at H
          exact absurd H (by simp)
      · rw [if_neg c4] at H
        have c4b0 : ((t203.length : Int) == 4) = false := beq_eq_false_iff_ne.mpr c4
        have c4b1 : ((t203.length : Int) != 4) = true := bne_iff_ne.mpr c4
        obtain rfl := Option.some.inj H
        go_enter Tryd.func12, Tryd.ntmps12
        go_wp2_with (first | ((with_reducible refine gate_callee (f := 9) rfl ?_); refine goesL_ (some 5) rfl rfl Tryd.func9 (by kernel_rfl) rfl #[.string (⟨#[46, 97, 124, 61, 36, 120]⟩ : ByteArray)] rfl (by (try simp only [List.map_toArray, List.map_cons, List.map_nil]); first | done | rfl | (simp only [List.length_drop, List.length_take]; rfl)) ?_; (with_reducible refine (flex_Lex.calls k (⟨#[46, 97, 124, 61, 36, 120]⟩ : ByteArray) t203 t204 t205 _ A1.out (by exact GW.at HG.out (by repeat (first | (with_reducible first | exact HB.out | apply below_alloc | apply pw_below_drewN | apply below_drew1) | exact HB.out)))).mono ?_); rintro e w24 ⟨v206, rfl, ho0, hb⟩; refine ⟨_, rfl, ?_⟩; have n0_ := Aside0.mk (Kd.R_lower ho0 (below_size (by repeat (first | (with_reducible first | exact HB.out | apply below_alloc | apply pw_below_drewN | apply below_drew1) | exact HB.out)))); have n1_ := Aside0.mk (below_step (by repeat (first | (with_reducible first | exact HB.out | apply below_alloc | apply pw_below_drewN | apply below_drew1) | exact HB.out)) hb); clear HB; have HO207 := n0_; have HB := n1_; clear n0_ n1_; (try clear hb); (try clear hb2); (try clear hk); (try clear hi); (try clear ho0); obtain ⟨Ao25, co25, eo25⟩ := Kd.R_slice HO207.out; subst eo25))
        go_ret
        exact ⟨by first | rfl | (simp [errW_none, errW_some] <;> rfl) | (simp [*, errW_none, errW_some] <;> rfl), by repeat (first | (with_reducible first | exact HB.out | apply below_alloc | apply pw_below_drewN | apply below_drew1) | exact HB.out)⟩
    · rw [if_neg c3] at H
      have c3b0 : (t204 == 0) = false := beq_eq_false_iff_ne.mpr c3
      have c3b1 : (t204 != 0) = true := bne_iff_ne.mpr c3
      obtain rfl := Option.some.inj H
      go_enter Tryd.func12, Tryd.ntmps12
      go_wp2_with (first | ((with_reducible refine gate_callee (f := 9) rfl ?_); refine goesL_ (some 5) rfl rfl Tryd.func9 (by kernel_rfl) rfl #[.string (⟨#[46, 97, 124, 61, 36, 120]⟩ : ByteArray)] rfl (by (try simp only [List.map_toArray, List.map_cons, List.map_nil]); first | done | rfl | (simp only [List.length_drop, List.length_take]; rfl)) ?_; (with_reducible refine (flex_Lex.calls k (⟨#[46, 97, 124, 61, 36, 120]⟩ : ByteArray) t203 t204 t205 _ A1.out (by exact GW.at HG.out (by repeat (first | (with_reducible first | exact HB.out | apply below_alloc | apply pw_below_drewN | apply below_drew1) | exact HB.out)))).mono ?_); rintro e w26 ⟨v206, rfl, ho0, hb⟩; refine ⟨_, rfl, ?_⟩; have n0_ := Aside0.mk (Kd.R_lower ho0 (below_size (by repeat (first | (with_reducible first | exact HB.out | apply below_alloc | apply pw_below_drewN | apply below_drew1) | exact HB.out)))); have n1_ := Aside0.mk (below_step (by repeat (first | (with_reducible first | exact HB.out | apply below_alloc | apply pw_below_drewN | apply below_drew1) | exact HB.out)) hb); clear HB; have HO207 := n0_; have HB := n1_; clear n0_ n1_; (try clear hb); (try clear hb2); (try clear hk); (try clear hi); (try clear ho0)))
      go_ret
      exact ⟨by first | rfl | (simp [errW_none, errW_some] <;> rfl) | (simp [*, errW_none, errW_some] <;> rfl), by repeat (first | (with_reducible first | exact HB.out | apply below_alloc | apply pw_below_drewN | apply below_drew1) | exact HB.out)⟩
  · rw [if_neg c2] at H
    have c2b0 : (t205 == 0) = false := beq_eq_false_iff_ne.mpr c2
    have c2b1 : (t205 != 0) = true := bne_iff_ne.mpr c2
    obtain rfl := Option.some.inj H
    go_enter Tryd.func12, Tryd.ntmps12
    go_wp2_with (first | ((with_reducible refine gate_callee (f := 9) rfl ?_); refine goesL_ (some 5) rfl rfl Tryd.func9 (by kernel_rfl) rfl #[.string (⟨#[46, 97, 124, 61, 36, 120]⟩ : ByteArray)] rfl (by (try simp only [List.map_toArray, List.map_cons, List.map_nil]); first | done | rfl | (simp only [List.length_drop, List.length_take]; rfl)) ?_; (with_reducible refine (flex_Lex.calls k (⟨#[46, 97, 124, 61, 36, 120]⟩ : ByteArray) t203 t204 t205 _ A1.out (by exact GW.at HG.out (by repeat (first | (with_reducible first | exact HB.out | apply below_alloc | apply pw_below_drewN | apply below_drew1) | exact HB.out)))).mono ?_); rintro e w27 ⟨v206, rfl, ho0, hb⟩; refine ⟨_, rfl, ?_⟩; have n0_ := Aside0.mk (Kd.R_lower ho0 (below_size (by repeat (first | (with_reducible first | exact HB.out | apply below_alloc | apply pw_below_drewN | apply below_drew1) | exact HB.out)))); have n1_ := Aside0.mk (below_step (by repeat (first | (with_reducible first | exact HB.out | apply below_alloc | apply pw_below_drewN | apply below_drew1) | exact HB.out)) hb); clear HB; have HO207 := n0_; have HB := n1_; clear n0_ n1_; (try clear hb); (try clear hb2); (try clear hk); (try clear hi); (try clear ho0)))
    go_ret
    exact ⟨by first | rfl | (simp [errW_none, errW_some] <;> rfl) | (simp [*, errW_none, errW_some] <;> rfl), by repeat (first | (with_reducible first | exact HB.out | apply below_alloc | apply pw_below_drewN | apply below_drew1) | exact HB.out)⟩

end Go.Proofs.YtdhdpidjdadamaaDoor.PX
