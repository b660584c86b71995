-- Printed by this session's program (wip/print/drive.py): Go functions as plain Lean functions, and proofs that the calls come to them.
import Derived.Test.YtdhdpidjdadamaaDoorPx0
import Derived.Test.YtdhdpidjdadamaaDoorPx7
import Derived.Test.YtdhdpidjdadamaaDoorHEscape
import Derived.Test.YtdhdpidjdadamaaDoorHAppend
namespace Go.Proofs.YtdhdpidjdadamaaDoor.PX
open Go.RowKit Go.Proofs.YtdhdpidjdadamaaDoorW.PrintWords Go.Proofs.YtdhdpidjdadamaaDoorW.PrintLast Go.Proofs.YtdhdpidjdadamaaDoorW.PrintMore
attribute [local go_sem] max2_int min2_int max_two min_two max_three min_three max_four min_four   -- for this text's walks alone
set_option linter.unusedVariables false
set_option linter.unusedSimpArgs false

/-! ### jsonlex_text: function 42 -/
def jsonlex_text.l0 : Nat → ByteArray → Int → List Int → Int → Option (ByteArray × Int × Int)
  | 0, _, _, _, _ => none
  | k + 1, x0, x1, x7, x8 => if x8 < (x0.size : Int) then (if 0 ≤ x8 then (if (bt x0 x8) = 34 then (if (x7.length : Int) > 4096 then (some ((⟨#[]⟩ : ByteArray), x1, 2)) else (some (strOfNums x7, wrap64 (x8 + 1), 0))) else (if (bt x0 x8) < 32 then (some ((⟨#[]⟩ : ByteArray), x8, 4)) else (if (bt x0 x8) = 92 then (if x8 ≤ (x0.size : Int) then ((jsonlex_escape.f k (x0.extract (x8 : Int).toNat x0.size)).bind fun bt135 => (if bt135.2.2 = 5 then (some ((⟨#[]⟩ : ByteArray), (x0.size : Int), bt135.2.2)) else (if bt135.2.2 = 0 then ((utf_Append.f x7 bt135.1).bind fun bt138 => (jsonlex_text.l0 k x0 x1 bt138.1 (wrap64 (x8 + bt135.2.1)))) else (some ((⟨#[]⟩ : ByteArray), x8, bt135.2.2))))) else (none)) else ((utf_Decode.f k x0 x8).bind fun bt142 => (if bt142.2.2 = true then (if x8 ≤ (wrap64 (x8 + bt142.2.1)) then (if (wrap64 (x8 + bt142.2.1)) ≤ (x0.size : Int) then (if x7.length + (x0.extract (x8 : Int).toNat ((wrap64 (x8 + bt142.2.1)) : Int).toNat).size < 140737488355328 then (jsonlex_text.l0 k x0 x1 (x7 ++ bytesOf (x0.extract (x8 : Int).toNat ((wrap64 (x8 + bt142.2.1)) : Int).toNat)) (wrap64 (x8 + bt142.2.1))) else (none)) else (none)) else (none)) else (some ((⟨#[]⟩ : ByteArray), x8, 6))))))) else (none)) else (some ((⟨#[]⟩ : ByteArray), (x0.size : Int), 5))
def jsonlex_text.f (k : Nat) (a0 : ByteArray) (a1 : Int) : Option (ByteArray × Int × Int) := jsonlex_text.l0 k a0 a1 ([] : List Int) (wrap64 (a1 + 1))
theorem jsonlex_text.mono_l : ∀ k, (∀ y0 y1 y2 y3, LeO (jsonlex_text.l0 k y0 y1 y2 y3) (jsonlex_text.l0 (k + 1) y0 y1 y2 y3))
  | 0 => fun _ _ _ _ r h => by simp [jsonlex_text.l0] at h
  | k + 1 => by
    have ih0 := jsonlex_text.mono_l k
    · intro y0 y1 y2 y3
      unfold jsonlex_text.l0
      repeat' first
      | (with_reducible exact ih0 _ _ _ _)
      | (with_reducible exact jsonlex_escape.mono _ _)
      | (with_reducible exact utf_Decode.mono _ _ _)
      | (with_reducible exact LeO.refl _)
      | (with_reducible exact LeO.none _)
      | (with_reducible refine LeO.ite ?_ ?_)
      | (with_reducible refine LeO.bind ?_ (fun _ => ?_))
      | exact ih0 _ _ _ _
      | exact jsonlex_escape.mono _ _
      | exact utf_Decode.mono _ _ _
      | exact LeO.none _
      | refine LeO.ite ?_ ?_
      | refine LeO.bind ?_ (fun _ => ?_)
theorem jsonlex_text.mono : ∀ a0 a1 k, LeO (jsonlex_text.f k a0 a1) (jsonlex_text.f (k + 1) a0 a1) := by
  intro a0 a1 k
  have ih0 := jsonlex_text.mono_l k
  unfold jsonlex_text.f
  repeat' first
      | (with_reducible exact ih0 _ _ _ _)
      | (with_reducible exact jsonlex_escape.mono _ _)
      | (with_reducible exact utf_Decode.mono _ _ _)
      | (with_reducible exact LeO.refl _)
      | (with_reducible exact LeO.none _)
      | (with_reducible refine LeO.ite ?_ ?_)
      | (with_reducible refine LeO.bind ?_ (fun _ => ?_))
      | exact ih0 _ _ _ _
      | exact jsonlex_escape.mono _ _
      | exact utf_Decode.mono _ _ _
      | exact LeO.none _
      | refine LeO.ite ?_ ?_
      | refine LeO.bind ?_ (fun _ => ?_)
set_option maxHeartbeats 8000000 in
set_option maxRecDepth 100000 in
theorem jsonlex_text.calls (k : Nat) (a0 : ByteArray) (a1 : Int) (r1 : ByteArray) (r2 : Int) (r3 : Int) (w : World) (h : jsonlex_text.f k a0 a1 = some (r1, r2, r3)) :
    Calls Tryd.prog 42 #[.string a0, .int .i64 a1] w fun e w' => e = .returned (.tuple #[.string r1, .int .i64 r2, .int .i64 r3]) ∧ Below w.heap.size w w' := by
  have HB := Aside0.mk (Below.refl w.heap.size w)
  have H : (jsonlex_text.l0 k a0 a1 ([] : List Int) (wrap64 (a1 + 1))) = some (r1, r2, r3) := h
  clear h
  have H' := Aside0.mk H
  clear H
  go_enter Tryd.func42, Tryd.ntmps42
  go_wp2
  (try go_step3)
  go_wp2
  (try go_step3)
  go_wp2
  go_loopg [7, 8] k (fun kq v7 v8 w' => ∃ (x7_1 : List Int) (x8_1 : Int), v8 = .int .i64 x8_1 ∧ Aside0 (jsonlex_text.l0 kq a0 a1 x7_1 x8_1 = some (r1, r2, r3)) ∧ Aside0 (kq ≤ k) ∧ Aside0 (Kd.R (Kd.int .u8) 5 w' w.heap.size (fun _ => True) v7 x7_1) ∧ Aside0 (Below w.heap.size w w'))
  case atStart => exact ⟨(([] : List Int)), (wrap64 (a1 + 1)), (by first | rfl | (simp; done) | (simp [*]; done)), H', ⟨Nat.le_refl _⟩, ⟨by first | exact Kd.R_nil _ _ _ _ _ | exact Kd.N_nil _ _ _ _ _ | exact Kd.V_nil _ _ _ _ _ | exact Kd.Q_nil _ _ _ _ _ | exact Kd.S_nil _ _ _ _ _⟩, ⟨by repeat (first | (with_reducible first | exact HB.out | apply below_alloc | apply pw_below_drewN | apply below_drew1) | exact HB.out)⟩⟩
  case round =>
    clear H'
    try clear p2
    obtain ⟨x7_1, x8_1, rfl, HA, HK1, HO_7, HB⟩ := hrel
    cases gk with
    | zero => exact absurd HA.out (by simp [jsonlex_text.l0])
    | succ k1 =>
      have H := HA.out
      clear HA
      simp only [jsonlex_text.l0] at H
      by_cases c3 : x8_1 < (a0.size : Int)
      · rw [if_pos c3] at H
        have c3b0 : decide (x8_1 < (a0.size : Int)) = true := decide_eq_true c3
        clear c3
        by_cases c4 : 0 ≤ x8_1
        · rw [if_pos c4] at H
          have c4b0 : decide (0 ≤ x8_1) = true := decide_eq_true c4
          clear c4
          by_cases c6 : (bt a0 x8_1) = 34
          · rw [if_pos c6] at H
            have c6b0 : ((bt a0 x8_1) == 34) = true := beq_iff_eq.mpr c6
            have c6b1 : ((bt a0 x8_1) != 34) = false := bne_eq_false_iff_eq.mpr c6
            clear c6
            by_cases c7 : (x7_1.length : Int) > 4096
            · rw [if_pos c7] at H
              have c7b0 : decide (4096 < (x7_1.length : Int)) = true := decide_eq_true c7
              have c7b1 : decide (4096 < x7_1.length) = true := decide_eq_true (by omega)
              clear c7
              simp only [Option.some.injEq, Prod.mk.injEq] at H
              obtain ⟨rfl, rfl, rfl⟩ := H
              have p5 : 0 ≤ (x8_1 : Int) := of_decide_eq_true (by first | (with_reducible assumption) | assumption)
              have q5 : x8_1 < (a0.size : Int) := of_decide_eq_true (by first | (with_reducible assumption) | assumption)
              have hx5 := bt_at a0 x8_1
              replace p5 := eq_true p5
              replace q5 := eq_true q5
              obtain ⟨Ao8, co8, eo8⟩ := Kd.R_slice HO_7.out
              subst eo8
              go_wp2
              (try rw [Exit.noGoto_ret])
              go_ret3
              exact ⟨by first | rfl | (simp [errW_none, errW_some] <;> rfl) | (simp [*, errW_none, errW_some] <;> rfl), by repeat (first | (with_reducible first | exact HB.out | apply below_alloc | apply pw_below_drewN | apply below_drew1) | exact HB.out)⟩
            · rw [if_neg c7] at H
              have c7b0 : decide (4096 < (x7_1.length : Int)) = false := decide_eq_false c7
              have c7b1 : decide (4096 < x7_1.length) = false := decide_eq_false (by omega)
              clear c7
              simp only [Option.some.injEq, Prod.mk.injEq] at H
              obtain ⟨rfl, rfl, rfl⟩ := H
              have p5 : 0 ≤ (x8_1 : Int) := of_decide_eq_true (by first | (with_reducible assumption) | assumption)
              have q5 : x8_1 < (a0.size : Int) := of_decide_eq_true (by first | (with_reducible assumption) | assumption)
              have hx5 := bt_at a0 x8_1
              replace p5 := eq_true p5
              replace q5 := eq_true q5
              obtain ⟨Ao9, co9, eo9⟩ := Kd.R_slice HO_7.out
              subst eo9
              have hcv10 := own_string (P := Tryd.prog) Tryd.underlying24 Tryd.underlying5 Tryd.underlying9 (Kd.own_of_R HO_7.out)
              go_wp2
              (try rw [Exit.noGoto_ret])
              go_ret3
              exact ⟨by first | rfl | (simp [errW_none, errW_some] <;> rfl) | (simp [*, errW_none, errW_some] <;> rfl), by repeat (first | (with_reducible first | exact HB.out | apply below_alloc | apply pw_below_drewN | apply below_drew1) | exact HB.out)⟩
          · rw [if_neg c6] at H
            have c6b0 : ((bt a0 x8_1) == 34) = false := beq_eq_false_iff_ne.mpr c6
            have c6b1 : ((bt a0 x8_1) != 34) = true := bne_iff_ne.mpr c6
            by_cases c11 : (bt a0 x8_1) < 32
            · rw [if_pos c11] at H
              have c11b0 : decide ((bt a0 x8_1) < 32) = true := decide_eq_true c11
              clear c11
              simp only [Option.some.injEq, Prod.mk.injEq] at H
              obtain ⟨rfl, rfl, rfl⟩ := H
              have p5 : 0 ≤ (x8_1 : Int) := of_decide_eq_true (by first | (with_reducible assumption) | assumption)
              have q5 : x8_1 < (a0.size : Int) := of_decide_eq_true (by first | (with_reducible assumption) | assumption)
              have hx5 := bt_at a0 x8_1
              replace p5 := eq_true p5
              replace q5 := eq_true q5
              go_wp2
              (try rw [Exit.noGoto_ret])
              go_ret3
              exact ⟨by first | rfl | (simp [errW_none, errW_some] <;> rfl) | (simp [*, errW_none, errW_some] <;> rfl), by repeat (first | (with_reducible first | exact HB.out | apply below_alloc | apply pw_below_drewN | apply below_drew1) | exact HB.out)⟩
            · rw [if_neg c11] at H
              have c11b0 : decide ((bt a0 x8_1) < 32) = false := decide_eq_false c11
              clear c11
              by_cases c12 : (bt a0 x8_1) = 92
              · rw [if_pos c12] at H
                have c12b0 : ((bt a0 x8_1) == 92) = true := beq_iff_eq.mpr c12
                have c12b1 : ((bt a0 x8_1) != 92) = false := bne_eq_false_iff_eq.mpr c12
                clear c12
                have c13b0 := eq_true (of_decide_eq_true (by first | (with_reducible assumption) | assumption) : 0 ≤ x8_1)
                by_cases c14 : x8_1 ≤ (a0.size : Int)
                · rw [if_pos c14] at H
                  have c14b0 := eq_true c14
                  have c14b1 : decide (x8_1 ≤ (a0.size : Int)) = true := decide_eq_true c14
                  clear c14
                  replace H := Option.bind_eq_some_iff.mp H
                  obtain ⟨⟨t135, t136, t137⟩, A150, H⟩ := H
                  replace H : (if t137 = 5 then (some ((⟨#[]⟩ : ByteArray), (a0.size : Int), t137)) else (if t137 = 0 then ((utf_Append.f x7_1 t135).bind fun bt138 => (jsonlex_text.l0 k1 a0 a1 bt138.1 (wrap64 (x8_1 + t136)))) else (some ((⟨#[]⟩ : ByteArray), x8_1, t137)))) = some (r1, r2, r3) := H
                  have A15 := Aside0.mk A150
                  clear A150
                  by_cases c16 : t137 = 5
                  · rw [if_pos c16] at H
                    have c16b0 : (t137 == 5) = true := beq_iff_eq.mpr c16
                    have c16b1 : (t137 != 5) = false := bne_eq_false_iff_eq.mpr c16
                    clear c16
                    simp only [Option.some.injEq, Prod.mk.injEq] at H
                    obtain ⟨rfl, rfl, rfl⟩ := H
                    have p5 : 0 ≤ (x8_1 : Int) := of_decide_eq_true (by first | (with_reducible assumption) | assumption)
                    have q5 : x8_1 < (a0.size : Int) := of_decide_eq_true (by first | (with_reducible assumption) | assumption)
                    have hx5 := bt_at a0 x8_1
                    replace p5 := eq_true p5
                    replace q5 := eq_true q5
                    go_wp2_with (first | ((with_reducible refine gate_callee (f := 52) rfl ?_); refine goesL_ (some 47) rfl rfl Tryd.func52 (by kernel_rfl) rfl #[.string (a0.extract (x8_1 : Int).toNat a0.size)] rfl (by (try simp only [List.map_toArray, List.map_cons, List.map_nil]); first | done | rfl | (simp only [List.length_drop, List.length_take]; rfl)) ?_; (with_reducible refine (jsonlex_escape.calls k1 (a0.extract (x8_1 : Int).toNat a0.size) t135 t136 t137 _ A15.out).mono ?_); rintro e w17 ⟨rfl, hb⟩; refine ⟨_, rfl, ?_⟩; have n0_ := Aside0.mk (Kd.R_below (by (with_reducible repeat (first | apply Kd.R_alloc | apply Kd.R_drewN | apply Kd.R_drew)); exact HO_7.out) hb); have n1_ := Aside0.mk (below_step (by repeat (first | (with_reducible first | exact HB.out | apply below_alloc | apply pw_below_drewN | apply below_drew1) | exact HB.out)) hb); clear HO_7; clear HB; have HO_7 := n0_; have HB := n1_; clear n0_ n1_; (try clear hb); (try clear hb2); (try clear hk); (try clear hi)))
                    (try rw [Exit.noGoto_ret])
                    go_ret3
                    exact ⟨by first | rfl | (simp [errW_none, errW_some] <;> rfl) | (simp [*, errW_none, errW_some] <;> rfl), by repeat (first | (with_reducible first | exact HB.out | apply below_alloc | apply pw_below_drewN | apply below_drew1) | exact HB.out)⟩
                  · rw [if_neg c16] at H
                    have c16b0 : (t137 == 5) = false := beq_eq_false_iff_ne.mpr c16
                    have c16b1 : (t137 != 5) = true := bne_iff_ne.mpr c16
                    by_cases c18 : t137 = 0
                    · rw [if_pos c18] at H
                      have c18b0 : (t137 == 0) = true := beq_iff_eq.mpr c18
                      have c18b1 : (t137 != 0) = false := bne_eq_false_iff_eq.mpr c18
                      clear c18
                      replace H := Option.bind_eq_some_iff.mp H
                      obtain ⟨⟨t138, t139⟩, A190, H⟩ := H
                      replace H : (jsonlex_text.l0 k1 a0 a1 t138 (wrap64 (x8_1 + t136))) = some (r1, r2, r3) := H
                      have A19 := Aside0.mk A190
                      clear A190
                      have H' := Aside0.mk H
                      clear H
                      have p5 : 0 ≤ (x8_1 : Int) := of_decide_eq_true (by first | (with_reducible assumption) | assumption)
                      have q5 : x8_1 < (a0.size : Int) := of_decide_eq_true (by first | (with_reducible assumption) | assumption)
                      have hx5 := bt_at a0 x8_1
                      replace p5 := eq_true p5
                      replace q5 := eq_true q5
                      go_wp2_with (first | ((with_reducible refine gate_callee (f := 52) rfl ?_); refine goesL_ (some 47) rfl rfl Tryd.func52 (by kernel_rfl) rfl #[.string (a0.extract (x8_1 : Int).toNat a0.size)] rfl (by (try simp only [List.map_toArray, List.map_cons, List.map_nil]); first | done | rfl | (simp only [List.length_drop, List.length_take]; rfl)) ?_; (with_reducible refine (jsonlex_escape.calls k1 (a0.extract (x8_1 : Int).toNat a0.size) t135 t136 t137 _ A15.out).mono ?_); rintro e w20 ⟨rfl, hb⟩; refine ⟨_, rfl, ?_⟩; have n0_ := Aside0.mk (Kd.R_below (by (with_reducible repeat (first | apply Kd.R_alloc | apply Kd.R_drewN | apply Kd.R_drew)); exact HO_7.out) hb); have n1_ := Aside0.mk (below_step (by repeat (first | (with_reducible first | exact HB.out | apply below_alloc | apply pw_below_drewN | apply below_drew1) | exact HB.out)) hb); clear HO_7; clear HB; have HO_7 := n0_; have HB := n1_; clear n0_ n1_; (try clear hb); (try clear hb2); (try clear hk); (try clear hi); obtain ⟨Ao21, co21, eo21⟩ := Kd.R_slice HO_7.out; subst eo21) | ((with_reducible refine gate_callee (f := 53) rfl ?_); refine goesL_ (some 63) rfl rfl Tryd.func53 (by kernel_rfl) rfl #[.slice Ao21 x7_1.length co21, .int .i64 t135] rfl (by (try simp only [List.map_toArray, List.map_cons, List.map_nil]); first | done | rfl | (simp only [List.length_drop, List.length_take]; rfl)) ?_; (with_reducible refine (utf_Append.calls _ _ x7_1 t135 t138 t139 _ ?side1 ?side2 A19.out).mono ?_); (case side1 => repeat (first | exact (Kd.R_reads' HO_7.out).2.2 | (with_reducible refine Kd.C_alloc ?_ _) | (with_reducible refine Kd.C_drewN ?_ _) | (with_reducible refine Kd.C_drew ?_))); (case side2 => exact (Kd.R_reads' HO_7.out).2.1); rintro e w22 ⟨v140, rfl, ho0, hb⟩; refine ⟨_, rfl, ?_⟩; have n0_ := Aside0.mk (Kd.R_elder' (by (with_reducible repeat (first | apply Kd.R_alloc | apply Kd.R_drewN | apply Kd.R_drew)); exact HO_7.out) (Kd.R_base ho0) hb); have n1_ := Aside0.mk (Kd.R_lower (Kd.R_new' ho0 (Kd.R_lt (by (with_reducible repeat (first | apply Kd.R_alloc | apply Kd.R_drewN | apply Kd.R_drew)); exact HO_7.out))) (below_size (by repeat (first | (with_reducible first | exact HB.out | apply below_alloc | apply pw_below_drewN | apply below_drew1) | exact HB.out)))); have n2_ := Aside0.mk (below_step (by repeat (first | (with_reducible first | exact HB.out | apply below_alloc | apply pw_below_drewN | apply below_drew1) | exact HB.out)) hb); clear HO_7; clear HB; have HO_7 := n0_; have HO141 := n1_; have HB := n2_; clear n0_ n1_ n2_; (try clear hb); (try clear hb2); (try clear hk); (try clear hi); (try clear ho0)))
                      go_roundg k1
                      case measure => have := HK1.out; omega
                      case rel => exact ⟨(t138), (wrap64 (x8_1 + t136)), (by first | rfl | (simp; done) | (simp [*]; done)), H', ⟨by have := HK1.out; omega⟩, ⟨by (with_reducible repeat (first | apply Kd.R_alloc | apply Kd.R_drewN | apply Kd.R_drew)); exact Kd.R_mono HO141.out (fun _ hk => trivial)⟩, ⟨by repeat (first | (with_reducible first | exact HB.out | apply below_alloc | apply pw_below_drewN | apply below_drew1) | exact HB.out)⟩⟩
                    · rw [if_neg c18] at H
                      have c18b0 : (t137 == 0) = false := beq_eq_false_iff_ne.mpr c18
                      have c18b1 : (t137 != 0) = true := bne_iff_ne.mpr c18
                      simp only [Option.some.injEq, Prod.mk.injEq] at H
                      obtain ⟨rfl, rfl, rfl⟩ := H
                      have p5 : 0 ≤ (x8_1 : Int) := of_decide_eq_true (by first | (with_reducible assumption) | assumption)
                      have q5 : x8_1 < (a0.size : Int) := of_decide_eq_true (by first | (with_reducible assumption) | assumption)
                      have hx5 := bt_at a0 x8_1
                      replace p5 := eq_true p5
                      replace q5 := eq_true q5
                      go_wp2_with (first | ((with_reducible refine gate_callee (f := 52) rfl ?_); refine goesL_ (some 47) rfl rfl Tryd.func52 (by kernel_rfl) rfl #[.string (a0.extract (x8_1 : Int).toNat a0.size)] rfl (by (try simp only [List.map_toArray, List.map_cons, List.map_nil]); first | done | rfl | (simp only [List.length_drop, List.length_take]; rfl)) ?_; (with_reducible refine (jsonlex_escape.calls k1 (a0.extract (x8_1 : Int).toNat a0.size) t135 t136 t137 _ A15.out).mono ?_); rintro e w23 ⟨rfl, hb⟩; refine ⟨_, rfl, ?_⟩; have n0_ := Aside0.mk (Kd.R_below (by (with_reducible repeat (first | apply Kd.R_alloc | apply Kd.R_drewN | apply Kd.R_drew)); exact HO_7.out) hb); have n1_ := Aside0.mk (below_step (by repeat (first | (with_reducible first | exact HB.out | apply below_alloc | apply pw_below_drewN | apply below_drew1) | exact HB.out)) hb); clear HO_7; clear HB; have HO_7 := n0_; have HB := n1_; clear n0_ n1_; (try clear hb); (try clear hb2); (try clear hk); (try clear hi)))
                      (try rw [Exit.noGoto_ret])
                      go_ret3
                      exact ⟨by first | rfl | (simp [errW_none, errW_some] <;> rfl) | (simp [*, errW_none, errW_some] <;> rfl), by repeat (first | (with_reducible first | exact HB.out | apply below_alloc | apply pw_below_drewN | apply below_drew1) | exact HB.out)⟩
                · rw [if_neg c14] at H
                  exact absurd H (by simp)
              · rw [if_neg c12] at H
                have c12b0 : ((bt a0 x8_1) == 92) = false := beq_eq_false_iff_ne.mpr c12
                have c12b1 : ((bt a0 x8_1) != 92) = true := bne_iff_ne.mpr c12
                replace H := Option.bind_eq_some_iff.mp H
                obtain ⟨⟨t142, t143, t144⟩, A240, H⟩ := H
                replace H : (if t144 = true then (if x8_1 ≤ (wrap64 (x8_1 + t143)) then (if (wrap64 (x8_1 + t143)) ≤ (a0.size : Int) then (if x7_1.length + (a0.extract (x8_1 : Int).toNat ((wrap64 (x8_1 + t143)) : Int).toNat).size < 140737488355328 then (jsonlex_text.l0 k1 a0 a1 (x7_1 ++ bytesOf (a0.extract (x8_1 : Int).toNat ((wrap64 (x8_1 + t143)) : Int).toNat)) (wrap64 (x8_1 + t143))) else (none)) else (none)) else (none)) else (some ((⟨#[]⟩ : ByteArray), x8_1, 6))) = some (r1, r2, r3) := H
                have A24 := Aside0.mk A240
                clear A240
                by_cases c25 : t144 = true
                · subst c25
                  have H1 : (if x8_1 ≤ (wrap64 (x8_1 + t143)) then (if (wrap64 (x8_1 + t143)) ≤ (a0.size : Int) then (if x7_1.length + (a0.extract (x8_1 : Int).toNat ((wrap64 (x8_1 + t143)) : Int).toNat).size < 140737488355328 then (jsonlex_text.l0 k1 a0 a1 (x7_1 ++ bytesOf (a0.extract (x8_1 : Int).toNat ((wrap64 (x8_1 + t143)) : Int).toNat)) (wrap64 (x8_1 + t143))) else (none)) else (none)) else (none)) = some (r1, r2, r3) := by rw [if_pos rfl] at H; exact H
                  clear H
                  have H := H1
                  clear H1
                  have c26b0 := eq_true (of_decide_eq_true (by first | (with_reducible assumption) | assumption) : 0 ≤ x8_1)
                  by_cases c27 : x8_1 ≤ (wrap64 (x8_1 + t143))
                  · rw [if_pos c27] at H
                    have c27b0 := eq_true c27
                    have c27b1 : decide (x8_1 ≤ (wrap64 (x8_1 + t143))) = true := decide_eq_true c27
                    by_cases c28 : (wrap64 (x8_1 + t143)) ≤ (a0.size : Int)
                    · rw [if_pos c28] at H
                      have c28b0 := eq_true c28
                      have c28b1 : decide ((wrap64 (x8_1 + t143)) ≤ (a0.size : Int)) = true := decide_eq_true c28
                      by_cases c29 : x7_1.length + (a0.extract (x8_1 : Int).toNat ((wrap64 (x8_1 + t143)) : Int).toNat).size < 140737488355328
                      · rw [if_pos c29] at H
                        have LMc29 := Aside0.mk c29
                        clear c29
                        obtain ⟨y145, hy145⟩ : ∃ y_ : List Int, y_ = (x7_1 ++ bytesOf (a0.extract (x8_1 : Int).toNat ((wrap64 (x8_1 + t143)) : Int).toNat)) := ⟨_, rfl⟩
                        replace H : (jsonlex_text.l0 k1 a0 a1 y145 (wrap64 (x8_1 + t143))) = some (r1, r2, r3) := by first | (rw [hy145]; with_reducible exact H) | (have H2_ := (Option.bind_some _ _).symm.trans H; rw [hy145]; with_reducible exact H2_) | (have H2_ := (Option.bind_some _ _).symm.trans H; with_reducible exact H2_) | with_reducible exact H | (rw [hy145]; exact H) | exact H
                        have Ny145 := Aside0.mk hy145
                        clear hy145
                        have H' := Aside0.mk H
                        clear H
                        have p5 : 0 ≤ (x8_1 : Int) := of_decide_eq_true (by first | (with_reducible assumption) | assumption)
                        have q5 : x8_1 < (a0.size : Int) := of_decide_eq_true (by first | (with_reducible assumption) | assumption)
                        have hx5 := bt_at a0 x8_1
                        replace p5 := eq_true p5
                        replace q5 := eq_true q5
                        go_wp2_with (first | ((with_reducible refine gate_callee (f := 54) rfl ?_); refine goesL_ (some 72) rfl rfl Tryd.func54 (by kernel_rfl) rfl #[.string a0, .int .i64 x8_1] rfl (by (try simp only [List.map_toArray, List.map_cons, List.map_nil]); first | done | rfl | (simp only [List.length_drop, List.length_take]; rfl)) ?_; (with_reducible refine (utf_Decode.calls k1 a0 x8_1 t142 t143 true _ A24.out).mono ?_); rintro e w' ⟨rfl, ⟨nd, rfl⟩⟩; refine ⟨_, rfl, ?_⟩) | (at_builtin; refine print_append_str (w0 := w) w.heap.size rfl (.tmp 79) _ 24 9 5 rfl Tryd.underlying24 Tryd.underlying9 info5 u7 x7_1 (a0.extract (x8_1 : Int).toNat ((wrap64 (x8_1 + t143)) : Int).toNat) rfl rfl ?aO ?aB ?aS ?aL ?_; (case aB => exact (by repeat (first | (with_reducible first | exact HB.out | apply below_alloc | apply pw_below_drewN | apply below_drew1) | exact HB.out))); (case aO => exact (Kd.own_of_R (by (with_reducible repeat (first | apply Kd.R_alloc | apply Kd.R_drewN | apply Kd.R_drew)); exact HO_7.out))); (case aS => exact (below_size (by repeat (first | (with_reducible first | exact HB.out | apply below_alloc | apply pw_below_drewN | apply below_drew1) | exact HB.out)))); (case aL => have := LMc29.out; omega); intro v146 w30 ho0 hb hg; have ho := Kd.R_of_own (h1 := fun _ => rfl) (ok := fun _ => True) ho0 (fun _ _ => trivial); clear ho0; have hat := True.intro; rw [← Ny145.out] at ho; change Kd.R (Kd.int .u8) 5 w30 w.heap.size (fun _ => True) v146 y145 at ho; have n0_ := Aside0.mk (hb); have n1_ := Aside0.mk (ho); clear HB; clear HO_7; have HB := n0_; have HO147 := n1_; clear n0_ n1_; clear ho hb hg hat))
                        go_roundg k1
                        case measure => have := HK1.out; omega
                        case rel => exact ⟨(y145), (wrap64 (x8_1 + t143)), (by first | rfl | (simp; done) | (simp [*]; done)), H', ⟨by have := HK1.out; omega⟩, ⟨by (with_reducible repeat (first | apply Kd.R_alloc | apply Kd.R_drewN | apply Kd.R_drew)); exact HO147.out⟩, ⟨by repeat (first | (with_reducible first | exact HB.out | apply below_alloc | apply pw_below_drewN | apply below_drew1) | exact HB.out)⟩⟩
                      · rw [if_neg c29] at H
                        exact absurd H (by simp)
                    · rw [if_neg c28] at H
                      exact absurd H (by simp)
                  · rw [if_neg c27] at H
                    exact absurd H (by simp)
                · replace c25 := Bool.eq_false_iff.mpr c25
                  subst c25
                  have H1 : (some ((⟨#[]⟩ : ByteArray), x8_1, 6)) = some (r1, r2, r3) := by rw [if_neg (show ¬ (false = true) by decide)] at H; exact H
                  clear H
                  have H := H1
                  clear H1
                  simp only [Option.some.injEq, Prod.mk.injEq] at H
                  obtain ⟨rfl, rfl, rfl⟩ := H
                  have p5 : 0 ≤ (x8_1 : Int) := of_decide_eq_true (by first | (with_reducible assumption) | assumption)
                  have q5 : x8_1 < (a0.size : Int) := of_decide_eq_true (by first | (with_reducible assumption) | assumption)
                  have hx5 := bt_at a0 x8_1
                  replace p5 := eq_true p5
                  replace q5 := eq_true q5
                  go_wp2_with (first | ((with_reducible refine gate_callee (f := 54) rfl ?_); refine goesL_ (some 72) rfl rfl Tryd.func54 (by kernel_rfl) rfl #[.string a0, .int .i64 x8_1] rfl (by (try simp only [List.map_toArray, List.map_cons, List.map_nil]); first | done | rfl | (simp only [List.length_drop, List.length_take]; rfl)) ?_; (with_reducible refine (utf_Decode.calls k1 a0 x8_1 t142 t143 false _ A24.out).mono ?_); rintro e w' ⟨rfl, ⟨nd, rfl⟩⟩; refine ⟨_, rfl, ?_⟩))
                  (try rw [Exit.noGoto_ret])
                  go_ret3
                  exact ⟨by first | rfl | (simp [errW_none, errW_some] <;> rfl) | (simp [*, errW_none, errW_some] <;> rfl), by repeat (first | (with_reducible first | exact HB.out | apply below_alloc | apply pw_below_drewN | apply below_drew1) | exact HB.out)⟩
        · rw [if_neg c4] at H
          exact absurd H (by simp)
      · rw [if_neg c3] at H
        have c3b0 : decide (x8_1 < (a0.size : Int)) = false := decide_eq_false c3
        clear c3
        simp only [Option.some.injEq, Prod.mk.injEq] at H
        obtain ⟨rfl, rfl, rfl⟩ := H
        go_wp2
        (try rw [Exit.noGoto_ret])
        go_ret3
        exact ⟨by first | rfl | (simp [errW_none, errW_some] <;> rfl) | (simp [*, errW_none, errW_some] <;> rfl), by repeat (first | (with_reducible first | exact HB.out | apply below_alloc | apply pw_below_drewN | apply below_drew1) | exact HB.out)⟩

end Go.Proofs.YtdhdpidjdadamaaDoor.PX
