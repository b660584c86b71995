/- Printed by this session's program: Go functions of this seat as plain Lean functions, and proofs that their calls come to them. -/
import Derived.Test.YtdhdpidjdadamaaDoorPx0
import Derived.Test.YtdhdpidjdadamaaDoorPx11
import Derived.Test.YtdhdpidjdadamaaDoorPx13
import Derived.Test.YtdhdpidjdadamaaDoorPx21
import Derived.Test.YtdhdpidjdadamaaDoorHG
namespace Go.Proofs.YtdhdpidjdadamaaDoor.PX
open Go.RowKit Go.Proofs.YtdhdpidjdadamaaDoorW.PrintWords Go.Proofs.YtdhdpidjdadamaaDoorW.PrintLast Go.Proofs.YtdhdpidjdadamaaDoorW.PrintMore
attribute [local go_sem] max2_int min2_int max_two min_two max_three min_three max_four min_four   -- for this text's walks alone
set_option linter.unusedVariables false
set_option linter.unusedSimpArgs false
/-! ### law_FlexLimits: function 3 -/
mutual
def law_FlexLimits.j3 : Nat → ByteArray → Option (Bool)
 | 0, _ => none
 | k + 1, x5 => (flex_Lex.f k x5).bind fun bt447 => ((rt_Lex.f k x5).bind fun bt452 => ((kp_Tokens.f k bt447.1 bt452.1).bind fun t457 => (if t457 = true then (if bt447.2.1 = bt452.2.1 then (if bt447.2.2 = bt452.2.2 then ((law_awake.f k).bind fun t458 => (some t458)) else (some false)) else (some false)) else (some false))))
def law_FlexLimits.l0 : Nat → Int → ByteArray → Int → Option (Bool)
 | 0, _, _, _ => none
 | k + 1, x0, x5, x6 => if x6 < (wrap64 (32 + x0)) then (if x5.size + 1 ≤ 9223372036854775807 then (law_FlexLimits.l0 k x0 (x5 ++ (⟨#[97]⟩ : ByteArray)) (wrap64 (x6 + 1))) else (none)) else (law_FlexLimits.j3 k x5)
def law_FlexLimits.l1 : Nat → Int → ByteArray → Int → Option (Bool)
 | 0, _, _, _ => none
 | k + 1, x0, x5, x7 => if x7 < (wrap64 (2048 + x0)) then ((some (([(⟨#[49, 32]⟩ : ByteArray), (⟨#[46, 32]⟩ : ByteArray), (⟨#[44, 32]⟩ : ByteArray)] : List ByteArray) : List ByteArray)).bind fun y439 => (if 0 ≤ (Int.tmod x7 3) then (if (Int.tmod x7 3) < (y439.length : Int) then (if x5.size + (rdOf ByteArray.empty y439 (Int.tmod x7 3)).size ≤ 9223372036854775807 then (law_FlexLimits.l1 k x0 (x5 ++ (rdOf ByteArray.empty y439 (Int.tmod x7 3))) (wrap64 (x7 + 1))) else (none)) else (none)) else (none))) else (law_FlexLimits.j3 k x5)
def law_FlexLimits.l2 : Nat → List Int → Int → Option (Bool)
 | 0, _, _ => none
 | k + 1, x8, x9 => if x9 < (x8.length : Int) then (if 0 ≤ x9 then (law_FlexLimits.l2 k (x8.set (x9 : Int).toNat 32) (wrap64 (x9 + 1))) else (none)) else (law_FlexLimits.j3 k (strOfNums x8))
end
def law_FlexLimits.f (k : Nat) (a0 : Int) (a1 : Int) : Option (Bool) := (kp_Mod.f a0 7).bind fun t432 => ((kp_Mod.f a1 4).bind fun t433 => (if t433 = 0 then ((some (([(⟨#[]⟩ : ByteArray), (⟨#[36]⟩ : ByteArray), (⟨#[46]⟩ : ByteArray)] : List ByteArray) : List ByteArray)).bind fun y434 => ((kp_Mod.f (wrap64 (t432 - 3)) 3).bind fun t437 => (if 0 ≤ t437 then (if t437 < (y434.length : Int) then (law_FlexLimits.l0 k (wrap64 (t432 - 3)) (rdOf ByteArray.empty y434 t437) 0) else (none)) else (none)))) else (if t433 = 1 then (law_FlexLimits.l1 k (wrap64 (t432 - 3)) (⟨#[]⟩ : ByteArray) 0) else (if t433 = 2 then (if 0 ≤ (wrap64 (8192 + (wrap64 (t432 - 3)))) then (if (wrap64 (8192 + (wrap64 (t432 - 3))) : Int).toNat ≤ 281474976710656 then (law_FlexLimits.l2 k (List.replicate (wrap64 (8192 + (wrap64 (t432 - 3))) : Int).toNat 0) 0) else (none)) else (none)) else (if (wrap64 (t432 - 3)) > 0 then (law_FlexLimits.j3 k (⟨#[57, 50, 50, 51, 51, 55, 50, 48, 51, 54, 56, 53, 52, 55, 55, 53, 56, 48, 56]⟩ : ByteArray)) else (law_FlexLimits.j3 k (⟨#[57, 50, 50, 51, 51, 55, 50, 48, 51, 54, 56, 53, 52, 55, 55, 53, 56, 48, 55]⟩ : ByteArray)))))))
theorem law_FlexLimits.mono_l : ∀ k, (∀ y0, LeO (law_FlexLimits.j3 k y0) (law_FlexLimits.j3 (k + 1) y0)) ∧ (∀ y0 y1 y2, LeO (law_FlexLimits.l0 k y0 y1 y2) (law_FlexLimits.l0 (k + 1) y0 y1 y2)) ∧ (∀ y0 y1 y2, LeO (law_FlexLimits.l1 k y0 y1 y2) (law_FlexLimits.l1 (k + 1) y0 y1 y2)) ∧ (∀ y0 y1, LeO (law_FlexLimits.l2 k y0 y1) (law_FlexLimits.l2 (k + 1) y0 y1))
 | 0 => ⟨fun _ r h => by simp [law_FlexLimits.j3] at h, fun _ _ _ r h => by simp [law_FlexLimits.l0] at h, fun _ _ _ r h => by simp [law_FlexLimits.l1] at h, fun _ _ r h => by simp [law_FlexLimits.l2] at h⟩
 | k + 1 => by
  obtain ⟨ih0, ih1, ih2, ih3⟩ := law_FlexLimits.mono_l k;refine ⟨?_, ?_, ?_, ?_⟩
  all_goals (intros;first | unfold law_FlexLimits.j3 | unfold law_FlexLimits.l0 | unfold law_FlexLimits.l1 | unfold law_FlexLimits.l2)
  all_goals (repeat' first | (with_reducible first | exact ih0 _ | exact ih1 _ _ _ | exact ih2 _ _ _ | exact ih3 _ _ | exact flex_Lex.mono _ _ | exact kp_Tokens.mono _ _ _ | exact law_awake.mono _ | exact rt_Lex.mono _ _ | exact LeO.refl _ | exact LeO.none _ | refine LeO.ite ?_ ?_ | refine LeO.bind ?_ (fun _ => ?_)) | exact ih0 _ | exact ih1 _ _ _ | exact ih2 _ _ _ | exact ih3 _ _ | exact flex_Lex.mono _ _ | exact kp_Tokens.mono _ _ _ | exact law_awake.mono _ | exact rt_Lex.mono _ _ | exact LeO.none _ | refine LeO.ite ?_ ?_ | refine LeO.bind ?_ (fun _ => ?_))
theorem law_FlexLimits.mono : ∀ a0 a1 k, LeO (law_FlexLimits.f k a0 a1) (law_FlexLimits.f (k + 1) a0 a1) := by
 intro a0 a1 k;obtain ⟨ih0, ih1, ih2, ih3⟩ := law_FlexLimits.mono_l k;unfold law_FlexLimits.f;repeat' first | (with_reducible first | exact ih0 _ | exact ih1 _ _ _ | exact ih2 _ _ _ | exact ih3 _ _ | exact flex_Lex.mono _ _ | exact kp_Tokens.mono _ _ _ | exact law_awake.mono _ | exact rt_Lex.mono _ _ | exact LeO.refl _ | exact LeO.none _ | refine LeO.ite ?_ ?_ | refine LeO.bind ?_ (fun _ => ?_)) | exact ih0 _ | exact ih1 _ _ _ | exact ih2 _ _ _ | exact ih3 _ _ | exact flex_Lex.mono _ _ | exact kp_Tokens.mono _ _ _ | exact law_awake.mono _ | exact rt_Lex.mono _ _ | exact LeO.none _ | refine LeO.ite ?_ ?_ | refine LeO.bind ?_ (fun _ => ?_)
set_option maxHeartbeats 8000000 in
set_option maxRecDepth 100000 in
theorem law_FlexLimits.calls (k : Nat) (a0 : Int) (a1 : Int) (r : Bool) (w : World) (h : law_FlexLimits.f k a0 a1 = some r) (hG0 : GW w) :
 Calls Tryd.prog 3 #[.int .i64 a0, .int .i64 a1] w fun e w' => e = .returned (.bool r) ∧ Below w.heap.size w w' := by
 have HB := Aside0.mk (Below.refl w.heap.size w);have HG := Aside0.mk hG0;clear hG0
 have H : ((kp_Mod.f a0 7).bind fun t432 => ((kp_Mod.f a1 4).bind fun t433 => (if t433 = 0 then ((some (([(⟨#[]⟩ : ByteArray), (⟨#[36]⟩ : ByteArray), (⟨#[46]⟩ : ByteArray)] : List ByteArray) : List ByteArray)).bind fun y434 => ((kp_Mod.f (wrap64 (t432 - 3)) 3).bind fun t437 => (if 0 ≤ t437 then (if t437 < (y434.length : Int) then (law_FlexLimits.l0 k (wrap64 (t432 - 3)) (rdOf ByteArray.empty y434 t437) 0) else (none)) else (none)))) else (if t433 = 1 then (law_FlexLimits.l1 k (wrap64 (t432 - 3)) (⟨#[]⟩ : ByteArray) 0) else (if t433 = 2 then (if 0 ≤ (wrap64 (8192 + (wrap64 (t432 - 3)))) then (if (wrap64 (8192 + (wrap64 (t432 - 3))) : Int).toNat ≤ 281474976710656 then (law_FlexLimits.l2 k (List.replicate (wrap64 (8192 + (wrap64 (t432 - 3))) : Int).toNat 0) 0) else (none)) else (none)) else (if (wrap64 (t432 - 3)) > 0 then (law_FlexLimits.j3 k (⟨#[57, 50, 50, 51, 51, 55, 50, 48, 51, 54, 56, 53, 52, 55, 55, 53, 56, 48, 56]⟩ : ByteArray)) else (law_FlexLimits.j3 k (⟨#[57, 50, 50, 51, 51, 55, 50, 48, 51, 54, 56, 53, 52, 55, 55, 53, 56, 48, 55]⟩ : ByteArray)))))))) = some r := h
 clear h;replace H := Option.bind_eq_some_iff.mp H;obtain ⟨t432, A30, H⟩ := H
 replace H : ((kp_Mod.f a1 4).bind fun t433 => (if t433 = 0 then ((some (([(⟨#[]⟩ : ByteArray), (⟨#[36]⟩ : ByteArray), (⟨#[46]⟩ : ByteArray)] : List ByteArray) : List ByteArray)).bind fun y434 => ((kp_Mod.f (wrap64 (t432 - 3)) 3).bind fun t437 => (if 0 ≤ t437 then (if t437 < (y434.length : Int) then (law_FlexLimits.l0 k (wrap64 (t432 - 3)) (rdOf ByteArray.empty y434 t437) 0) else (none)) else (none)))) else (if t433 = 1 then (law_FlexLimits.l1 k (wrap64 (t432 - 3)) (⟨#[]⟩ : ByteArray) 0) else (if t433 = 2 then (if 0 ≤ (wrap64 (8192 + (wrap64 (t432 - 3)))) then (if (wrap64 (8192 + (wrap64 (t432 - 3))) : Int).toNat ≤ 281474976710656 then (law_FlexLimits.l2 k (List.replicate (wrap64 (8192 + (wrap64 (t432 - 3))) : Int).toNat 0) 0) else (none)) else (none)) else (if (wrap64 (t432 - 3)) > 0 then (law_FlexLimits.j3 k (⟨#[57, 50, 50, 51, 51, 55, 50, 48, 51, 54, 56, 53, 52, 55, 55, 53, 56, 48, 56]⟩ : ByteArray)) else (law_FlexLimits.j3 k (⟨#[57, 50, 50, 51, 51, 55, 50, 48, 51, 54, 56, 53, 52, 55, 55, 53, 56, 48, 55]⟩ : ByteArray))))))) = some r := H
 have A3 := Aside0.mk A30;clear A30;replace H := Option.bind_eq_some_iff.mp H;obtain ⟨t433, A40, H⟩ := H
 replace H : (if t433 = 0 then ((some (([(⟨#[]⟩ : ByteArray), (⟨#[36]⟩ : ByteArray), (⟨#[46]⟩ : ByteArray)] : List ByteArray) : List ByteArray)).bind fun y434 => ((kp_Mod.f (wrap64 (t432 - 3)) 3).bind fun t437 => (if 0 ≤ t437 then (if t437 < (y434.length : Int) then (law_FlexLimits.l0 k (wrap64 (t432 - 3)) (rdOf ByteArray.empty y434 t437) 0) else (none)) else (none)))) else (if t433 = 1 then (law_FlexLimits.l1 k (wrap64 (t432 - 3)) (⟨#[]⟩ : ByteArray) 0) else (if t433 = 2 then (if 0 ≤ (wrap64 (8192 + (wrap64 (t432 - 3)))) then (if (wrap64 (8192 + (wrap64 (t432 - 3))) : Int).toNat ≤ 281474976710656 then (law_FlexLimits.l2 k (List.replicate (wrap64 (8192 + (wrap64 (t432 - 3))) : Int).toNat 0) 0) else (none)) else (none)) else (if (wrap64 (t432 - 3)) > 0 then (law_FlexLimits.j3 k (⟨#[57, 50, 50, 51, 51, 55, 50, 48, 51, 54, 56, 53, 52, 55, 55, 53, 56, 48, 56]⟩ : ByteArray)) else (law_FlexLimits.j3 k (⟨#[57, 50, 50, 51, 51, 55, 50, 48, 51, 54, 56, 53, 52, 55, 55, 53, 56, 48, 55]⟩ : ByteArray)))))) = some r := H
 have A4 := Aside0.mk A40;clear A40;have HC5 := Aside0.mk H;clear H;go_enter Tryd.func3, Tryd.ntmps3
 go_upto_block 0 with (first | ((with_reducible refine gate_callee (f := 8) rfl ?_); refine goesL_ (some 17) rfl rfl Tryd.func8 (by kernel_rfl) rfl #[.int .i64 a0, .int .i64 7] rfl (by (try simp only [List.map_toArray, List.map_cons, List.map_nil]); first | done | rfl | (simp only [List.length_drop, List.length_take]; rfl)) ?_; (with_reducible refine (kp_Mod.calls a0 7 t432 _ A3.out).mono ?_); rintro e w' ⟨rfl, ⟨nd, rfl⟩⟩; refine ⟨_, rfl, ?_⟩) | ((with_reducible refine gate_callee (f := 8) rfl ?_); refine goesL_ (some 20) rfl rfl Tryd.func8 (by kernel_rfl) rfl #[.int .i64 a1, .int .i64 4] rfl (by (try simp only [List.map_toArray, List.map_cons, List.map_nil]); first | done | rfl | (simp only [List.length_drop, List.length_take]; rfl)) ?_; (with_reducible refine (kp_Mod.calls a1 4 t433 _ A4.out).mono ?_); rintro e w' ⟨rfl, ⟨nd, rfl⟩⟩; refine ⟨_, rfl, ?_⟩))
 (try simp only [Act.put, List.setIfInBounds_toArray, List.set_cons_zero, List.set_cons_succ])
 go_cut [5] (fun v5 wc => ∃ (kq : Nat) (x5_4 : ByteArray), v5 = .string x5_4 ∧ Aside0 (law_FlexLimits.j3 kq x5_4 = some r) ∧ Aside0 (kq ≤ k) ∧ Aside0 (Below w.heap.size w wc))
 case first =>
  have H := HC5.out;clear HC5;by_cases c6 : t433 = 0
  ·rw [if_pos c6] at H;have c6b0 : (t433 == 0) = true := beq_iff_eq.mpr c6;have c6b1 : (t433 != 0) = false := bne_eq_false_iff_eq.mpr c6;clear c6;(first | rw [c6b0] | (simp only [i64_w, i32_w]; rw [c6b0]) | skip)
   obtain ⟨y434, hy434⟩ : ∃ y_ : List ByteArray, y_ = (([(⟨#[]⟩ : ByteArray), (⟨#[36]⟩ : ByteArray), (⟨#[46]⟩ : ByteArray)] : List ByteArray)) := ⟨_, rfl⟩
   replace H : ((kp_Mod.f (wrap64 (t432 - 3)) 3).bind fun t437 => (if 0 ≤ t437 then (if t437 < (y434.length : Int) then (law_FlexLimits.l0 k (wrap64 (t432 - 3)) (rdOf ByteArray.empty y434 t437) 0) else (none)) else (none))) = some r := by first | (rw [hy434]; with_reducible exact H) | (have H2_ := (Option.bind_some _ _).symm.trans H; rw [hy434]; with_reducible exact H2_) | (have H2_ := (Option.bind_some _ _).symm.trans H; with_reducible exact H2_) | with_reducible exact H | (rw [hy434]; exact H) | exact H
   have Ny434 := Aside0.mk hy434;clear hy434;replace H := Option.bind_eq_some_iff.mp H;obtain ⟨t437, A70, H⟩ := H;replace H : (if 0 ≤ t437 then (if t437 < (y434.length : Int) then (law_FlexLimits.l0 k (wrap64 (t432 - 3)) (rdOf ByteArray.empty y434 t437) 0) else (none)) else (none)) = some r := H
   have A7 := Aside0.mk A70;clear A70;by_cases c8 : 0 ≤ t437
   ·rw [if_pos c8] at H;have c8b0 : decide (0 ≤ t437) = true := decide_eq_true c8;clear c8;by_cases c9 : t437 < (y434.length : Int)
    ·rw [if_pos c9] at H;have c9b0 : decide (t437 < (y434.length : Int)) = true := decide_eq_true c9;clear c9;have H' := Aside0.mk H;clear H
     go_wp2_with (first | ((with_reducible refine gate_dst (N := 25) rfl ?_); refine Kd.R_lit Kd.string _ 9 ?hg (N := 25) ?hd (xs := ([(⟨#[]⟩ : ByteArray), (⟨#[36]⟩ : ByteArray), (⟨#[46]⟩ : ByteArray)] : List ByteArray)) (inner := [.string (⟨#[]⟩ : ByteArray), .string (⟨#[36]⟩ : ByteArray), .string (⟨#[46]⟩ : ByteArray)]) (ok := fun _ => True) (okp := fun _ => True) ?hr ?hp (fun _ hk => hk) trivial (Below.refl _ _) (Nat.le_refl _) (by simp) ?_; (case hd => rfl); (case hg => rfl); (case hr => first | (go_simp; done) | (go_simp; rfl)); (case hp => exact (Reps.one (show Kd.M Kd.string _ _ _ (⟨#[]⟩ : ByteArray) [.string (⟨#[]⟩ : ByteArray)] from rfl) (Reps.one (show Kd.M Kd.string _ _ _ (⟨#[36]⟩ : ByteArray) [.string (⟨#[36]⟩ : ByteArray)] from rfl) (Reps.one (show Kd.M Kd.string _ _ _ (⟨#[46]⟩ : ByteArray) [.string (⟨#[46]⟩ : ByteArray)] from rfl) (Reps.none _ _))))); intro v435 w10 ho11 hb hg_ hnew_; clear hg_ hnew_; (first | rw [← Ny434.out] at ho11 | (simp only [Int.reduceToNat] at ho11; rw [← Ny434.out] at ho11)); have n0_ := Aside0.mk (Kd.R_lower ho11 (below_size (by repeat (first | (with_reducible first | exact HB.out | apply below_alloc | apply pw_below_drewN | apply below_drew1) | exact HB.out)))); have n1_ := Aside0.mk (below_step (by repeat (first | (with_reducible first | exact HB.out | apply below_alloc | apply pw_below_drewN | apply below_drew1) | exact HB.out)) hb); clear HB; have HO436 := n0_; have HB := n1_; clear n0_ n1_; clear hb ho11) | ((with_reducible refine gate_callee (f := 8) rfl ?_); refine goesL_ (some 27) rfl rfl Tryd.func8 (by kernel_rfl) rfl #[.int .i64 (wrap64 (t432 - 3)), .int .i64 3] rfl (by (try simp only [List.map_toArray, List.map_cons, List.map_nil]); first | done | rfl | (simp only [List.length_drop, List.length_take]; rfl)) ?_; (with_reducible refine (kp_Mod.calls (wrap64 (t432 - 3)) 3 t437 _ A7.out).mono ?_); rintro e w' ⟨rfl, ⟨nd, rfl⟩⟩; refine ⟨_, rfl, ?_⟩; obtain ⟨Ao12, co12, eo12⟩ := Kd.R_slice HO436.out; subst eo12; have p438 : 0 ≤ (t437 : Int) := of_decide_eq_true (by first | (with_reducible assumption) | assumption); have q438 : t437 < (y434.length : Int) := of_decide_eq_true (by first | (with_reducible assumption) | assumption); obtain ⟨ad438, e438, hx438_0⟩ := Kd.at_string (Kd.R_reads' HO436.out).2.2 t437 p438 q438; cases e438; replace p438 := eq_true p438; replace q438 := eq_true q438))
     go_loopg [5, 6] k (fun kq v5 v6 w' => ∃ (x5_1 : ByteArray) (x6_1 : Int), v5 = .string x5_1 ∧ v6 = .int .i64 x6_1 ∧ Aside0 (law_FlexLimits.l0 kq (wrap64 (t432 - 3)) x5_1 x6_1 = some r) ∧ Aside0 (kq ≤ k) ∧ Aside0 (Below w.heap.size w w'))
     case atStart => exact ⟨(rdOf ByteArray.empty y434 t437), (0), (by first | rfl | (simp; done) | (simp [*]; done)), (by first | rfl | (simp; done) | (simp [*]; done)), H', ⟨Nat.le_refl _⟩, ⟨by repeat (first | (with_reducible first | exact HB.out | apply below_alloc | apply pw_below_drewN | apply below_drew1) | exact HB.out)⟩⟩
     case round =>
      clear H';try clear p2
      try clear c3
      try clear p4
      try clear q4
      try clear hx4
      try clear c6
      try clear c6b0
      try clear c6b1
      try clear p6
      try clear c8
      try clear c8b0
      try clear c9
      try clear c9b0
      try clear hx438_0
      try clear p438
      try clear q438
      obtain ⟨x5_1, x6_1, rfl, rfl, HA, HK1, HB⟩ := hrel;cases gk with
      | zero => exact absurd HA.out (by simp [law_FlexLimits.l0])
      | succ k1 =>
       have H := HA.out;clear HA;simp only [law_FlexLimits.l0] at H;by_cases c13 : x6_1 < (wrap64 (32 + (wrap64 (t432 - 3))))
       ·rw [if_pos c13] at H;have c13b0 : decide (x6_1 < (wrap64 (32 + (wrap64 (t432 - 3))))) = true := decide_eq_true c13;clear c13;by_cases c14 : x5_1.size + 1 ≤ 9223372036854775807
        ·rw [if_pos c14] at H;have c14b0 := eq_true c14;have c14b1 : decide (x5_1.size + 1 ≤ 9223372036854775807) = true := decide_eq_true c14;try have c14b2 : (9223372036854775807 < x5_1.size + 1) = False := eq_false (Nat.not_lt.2 c14)
         have H' := Aside0.mk H;clear H;go_wp2;go_roundg k1
         case measure => have := HK1.out; omega
         case rel => exact ⟨(x5_1 ++ (⟨#[97]⟩ : ByteArray)), (wrap64 (x6_1 + 1)), (by first | rfl | (simp; done) | (simp [*]; done)), (by first | rfl | (simp; done) | (simp [*]; done)), H', ⟨by have := HK1.out; omega⟩, ⟨by repeat (first | (with_reducible first | exact HB.out | apply below_alloc | apply pw_below_drewN | apply below_drew1) | exact HB.out)⟩⟩
        ·rw [if_neg c14] at H;exact absurd H (by simp)
       ·rw [if_neg c13] at H;have c13b0 : decide (x6_1 < (wrap64 (32 + (wrap64 (t432 - 3))))) = false := decide_eq_false c13;clear c13;have H' := Aside0.mk H;clear H;go_wp2;go_meet
        case rel => exact ⟨_, (x5_1), (by first | rfl | (simp; done) | (simp [*]; done)), H', ⟨by have := HK1.out; first | omega | exact Nat.le_refl _⟩, ⟨by repeat (first | (with_reducible first | exact HB.out | apply below_alloc | apply pw_below_drewN | apply below_drew1) | exact HB.out)⟩⟩
    ·rw [if_neg c9] at H;exact absurd H (by simp)
   ·rw [if_neg c8] at H;exact absurd H (by simp)
  ·rw [if_neg c6] at H;have c6b0 : (t433 == 0) = false := beq_eq_false_iff_ne.mpr c6;have c6b1 : (t433 != 0) = true := bne_iff_ne.mpr c6;(first | rw [c6b0] | (simp only [i64_w, i32_w]; rw [c6b0]) | skip)
   by_cases c15 : t433 = 1
   ·rw [if_pos c15] at H;have c15b0 : (t433 == 1) = true := beq_iff_eq.mpr c15;have c15b1 : (t433 != 1) = false := bne_eq_false_iff_eq.mpr c15;clear c15;have H' := Aside0.mk H;clear H;go_wp2;go_loopg [5, 7] k (fun kq v5 v7 w' => ∃ (x5_1 : ByteArray) (x7_1 : Int), v5 = .string x5_1 ∧ v7 = .int .i64 x7_1 ∧ Aside0 (law_FlexLimits.l1 kq (wrap64 (t432 - 3)) x5_1 x7_1 = some r) ∧ Aside0 (kq ≤ k) ∧ Aside0 (Below w.heap.size w w'))
    case atStart => exact ⟨((⟨#[]⟩ : ByteArray)), (0), (by first | rfl | (simp; done) | (simp [*]; done)), (by first | rfl | (simp; done) | (simp [*]; done)), H', ⟨Nat.le_refl _⟩, ⟨by repeat (first | (with_reducible first | exact HB.out | apply below_alloc | apply pw_below_drewN | apply below_drew1) | exact HB.out)⟩⟩
    case round =>
     clear H';try clear c1
     try clear p2
     try clear c3
     try clear p4
     try clear q4
     try clear hx4
     try clear c6
     try clear c6b0
     try clear c6b1
     try clear p6
     try clear c8
     try clear c8b0
     try clear c9
     try clear c9b0
     try clear c13
     try clear c13b0
     try clear c14
     try clear c14b0
     try clear c14b1
     try clear c14b2
     try clear c15
     try clear c15b0
     try clear c15b1
     try clear hx438_0
     try clear p2
     try clear p4
     try clear p438
     try clear p6
     try clear q4
     try clear q438
     obtain ⟨x5_1, x7_1, rfl, rfl, HA, HK1, HB⟩ := hrel;cases gk with
     | zero => exact absurd HA.out (by simp [law_FlexLimits.l1])
     | succ k1 =>
      have H := HA.out;clear HA;simp only [law_FlexLimits.l1] at H;by_cases c16 : x7_1 < (wrap64 (2048 + (wrap64 (t432 - 3))))
      ·rw [if_pos c16] at H;have c16b0 : decide (x7_1 < (wrap64 (2048 + (wrap64 (t432 - 3))))) = true := decide_eq_true c16;clear c16;obtain ⟨y439, hy439⟩ : ∃ y_ : List ByteArray, y_ = (([(⟨#[49, 32]⟩ : ByteArray), (⟨#[46, 32]⟩ : ByteArray), (⟨#[44, 32]⟩ : ByteArray)] : List ByteArray)) := ⟨_, rfl⟩
       replace H : (if 0 ≤ (Int.tmod x7_1 3) then (if (Int.tmod x7_1 3) < (y439.length : Int) then (if x5_1.size + (rdOf ByteArray.empty y439 (Int.tmod x7_1 3)).size ≤ 9223372036854775807 then (law_FlexLimits.l1 k1 (wrap64 (t432 - 3)) (x5_1 ++ (rdOf ByteArray.empty y439 (Int.tmod x7_1 3))) (wrap64 (x7_1 + 1))) else (none)) else (none)) else (none)) = some r := by first | (rw [hy439]; with_reducible exact H) | (have H2_ := (Option.bind_some _ _).symm.trans H; rw [hy439]; with_reducible exact H2_) | (have H2_ := (Option.bind_some _ _).symm.trans H; with_reducible exact H2_) | with_reducible exact H | (rw [hy439]; exact H) | exact H
       have Ny439 := Aside0.mk hy439;clear hy439;obtain ⟨ji17, hji17⟩ : ∃ j_ : Int, (Int.tmod x7_1 3) = j_ := ⟨_, rfl⟩;replace H : (if 0 ≤ (ji17) then (if (ji17) < (y439.length : Int) then (if x5_1.size + (rdOf ByteArray.empty y439 (ji17)).size ≤ 9223372036854775807 then (law_FlexLimits.l1 k1 (wrap64 (t432 - 3)) (x5_1 ++ (rdOf ByteArray.empty y439 (ji17))) (wrap64 (x7_1 + 1))) else (none)) else (none)) else (none)) = some r := by first | (rw [hji17] at H; exact H) | (simp only [hji17] at H ⊢; exact H)
       by_cases c18 : 0 ≤ (ji17)
       ·rw [if_pos c18] at H;have c18b0 : decide (0 ≤ (ji17)) = true := decide_eq_true c18;clear c18;by_cases c19 : (ji17) < (y439.length : Int)
        ·rw [if_pos c19] at H;have c19b0 : decide ((ji17) < (y439.length : Int)) = true := decide_eq_true c19;clear c19;by_cases c20 : x5_1.size + (rdOf ByteArray.empty y439 (ji17)).size ≤ 9223372036854775807
         ·rw [if_pos c20] at H;have c20b0 := eq_true c20;have c20b1 : decide (x5_1.size + (rdOf ByteArray.empty y439 (ji17)).size ≤ 9223372036854775807) = true := decide_eq_true c20;try have c20b2 : (9223372036854775807 < x5_1.size + (rdOf ByteArray.empty y439 (ji17)).size) = False := eq_false (Nat.not_lt.2 c20)
          have H' := Aside0.mk H;clear H
          go_wp2_with (first | ((with_reducible refine gate_dst (N := 47) rfl ?_); refine Kd.R_lit Kd.string _ 9 ?hg (N := 47) ?hd (xs := ([(⟨#[49, 32]⟩ : ByteArray), (⟨#[46, 32]⟩ : ByteArray), (⟨#[44, 32]⟩ : ByteArray)] : List ByteArray)) (inner := [.string (⟨#[49, 32]⟩ : ByteArray), .string (⟨#[46, 32]⟩ : ByteArray), .string (⟨#[44, 32]⟩ : ByteArray)]) (ok := fun _ => True) (okp := fun _ => True) ?hr ?hp (fun _ hk => hk) trivial (Below.refl _ _) (Nat.le_refl _) (by simp) ?_; (case hd => rfl); (case hg => rfl); (case hr => first | (go_simp; done) | (go_simp; rfl)); (case hp => exact (Reps.one (show Kd.M Kd.string _ _ _ (⟨#[49, 32]⟩ : ByteArray) [.string (⟨#[49, 32]⟩ : ByteArray)] from rfl) (Reps.one (show Kd.M Kd.string _ _ _ (⟨#[46, 32]⟩ : ByteArray) [.string (⟨#[46, 32]⟩ : ByteArray)] from rfl) (Reps.one (show Kd.M Kd.string _ _ _ (⟨#[44, 32]⟩ : ByteArray) [.string (⟨#[44, 32]⟩ : ByteArray)] from rfl) (Reps.none _ _))))); intro v440 w21 ho22 hb hg_ hnew_; clear hg_ hnew_; (first | rw [← Ny439.out] at ho22 | (simp only [Int.reduceToNat] at ho22; rw [← Ny439.out] at ho22)); have n0_ := Aside0.mk (Kd.R_lower ho22 (below_size (by repeat (first | (with_reducible first | exact HB.out | apply below_alloc | apply pw_below_drewN | apply below_drew1) | exact HB.out)))); have n1_ := Aside0.mk (below_step (by repeat (first | (with_reducible first | exact HB.out | apply below_alloc | apply pw_below_drewN | apply below_drew1) | exact HB.out)) hb); clear HB; have HO441 := n0_; have HB := n1_; clear n0_ n1_; clear hb ho22; obtain ⟨Ao23, co23, eo23⟩ := Kd.R_slice HO441.out; subst eo23; have p442 : 0 ≤ ((ji17) : Int) := of_decide_eq_true (by first | (with_reducible assumption) | assumption); have q442 : (ji17) < (y439.length : Int) := of_decide_eq_true (by first | (with_reducible assumption) | assumption); obtain ⟨ad442, e442, hx442_0⟩ := Kd.at_string (Kd.R_reads' HO441.out).2.2 (ji17) p442 q442; cases e442; replace p442 := eq_true p442; replace q442 := eq_true q442))
          go_roundg k1
          case measure => have := HK1.out; omega
          case rel => exact ⟨(x5_1 ++ (rdOf ByteArray.empty y439 (ji17))), (wrap64 (x7_1 + 1)), (by first | rfl | (simp; done) | (simp only [← hji17] <;> (first | rfl | simp); done) | (simp [*]; done)), (by first | rfl | (simp; done) | (simp [*]; done)), H', ⟨by have := HK1.out; omega⟩, ⟨by repeat (first | (with_reducible first | exact HB.out | apply below_alloc | apply pw_below_drewN | apply below_drew1) | exact HB.out)⟩⟩
         ·rw [if_neg c20] at H;exact absurd H (by simp)
        ·rw [if_neg c19] at H;exact absurd H (by simp)
       ·rw [if_neg c18] at H;exact absurd H (by simp)
      ·rw [if_neg c16] at H;have c16b0 : decide (x7_1 < (wrap64 (2048 + (wrap64 (t432 - 3))))) = false := decide_eq_false c16;clear c16;have H' := Aside0.mk H;clear H;go_wp2;go_meet
       case rel => exact ⟨_, (x5_1), (by first | rfl | (simp; done) | (simp [*]; done)), H', ⟨by have := HK1.out; first | omega | exact Nat.le_refl _⟩, ⟨by repeat (first | (with_reducible first | exact HB.out | apply below_alloc | apply pw_below_drewN | apply below_drew1) | exact HB.out)⟩⟩
   ·rw [if_neg c15] at H;have c15b0 : (t433 == 1) = false := beq_eq_false_iff_ne.mpr c15;have c15b1 : (t433 != 1) = true := bne_iff_ne.mpr c15;by_cases c24 : t433 = 2
    ·rw [if_pos c24] at H;have c24b0 : (t433 == 2) = true := beq_iff_eq.mpr c24;have c24b1 : (t433 != 2) = false := bne_eq_false_iff_eq.mpr c24;clear c24;obtain ⟨ji25, hji25⟩ : ∃ j_ : Int, (wrap64 (8192 + (wrap64 (t432 - 3)))) = j_ := ⟨_, rfl⟩;replace H : (if 0 ≤ (ji25) then (if (ji25 : Int).toNat ≤ 281474976710656 then (law_FlexLimits.l2 k (List.replicate (ji25 : Int).toNat 0) 0) else (none)) else (none)) = some r := by first | (rw [hji25] at H; exact H) | (simp only [hji25] at H ⊢; exact H)
     have hji25w : (IntKind.i64.wrap (8192 + (wrap64 (t432 - 3)))) = ji25 := (i64_w _).trans hji25;by_cases c26 : 0 ≤ (ji25)
     ·rw [if_pos c26] at H;have c26b0 := eq_true c26;have c26b1 : decide (0 ≤ (ji25)) = true := decide_eq_true c26;clear c26;by_cases c27 : (ji25 : Int).toNat ≤ 281474976710656
      ·rw [if_pos c27] at H;have c27b0 := eq_true c27;have c27b1 : decide ((ji25 : Int).toNat ≤ 281474976710656) = true := decide_eq_true c27;clear c27;obtain ⟨y443, hy443⟩ : ∃ y_ : List Int, y_ = (List.replicate (ji25 : Int).toNat 0) := ⟨_, rfl⟩;replace H : (law_FlexLimits.l2 k y443 0) = some r := by first | (rw [hy443]; with_reducible exact H) | (have H2_ := (Option.bind_some _ _).symm.trans H; rw [hy443]; with_reducible exact H2_) | (have H2_ := (Option.bind_some _ _).symm.trans H; with_reducible exact H2_) | with_reducible exact H | (rw [hy443]; exact H) | exact H
       have Ny443 := Aside0.mk hy443;clear hy443;have H' := Aside0.mk H;clear H
       go_wp2_with (first | ((with_reducible refine gate_dst (N := 57) rfl ?_); refine Kd.R_make (Kd.int .u8) _ 5 rfl (N := 57) rfl 24 _ _ rfl ji25 rfl rfl Tryd.underlying24 (.int .u8 0) 1 info5 rfl (by decide) (by omega) 0 (ok := fun _ => True) (okp := fun _ => True) rfl (fun _ hk => hk) trivial (of_decide_eq_true (by first | (with_reducible assumption) | assumption)) (Nat.le_trans (Nat.mul_le_mul_right _ (of_decide_eq_true (by first | (with_reducible assumption) | assumption) : ji25.toNat ≤ 281474976710656)) (by omega)) (Below.refl _ _) (Nat.le_refl _) ?_; intro v444 w28 ho29 hb hg_ hnew_; clear hg_ hnew_; (first | rw [← Ny443.out] at ho29 | (simp only [Int.reduceToNat] at ho29; rw [← Ny443.out] at ho29)); have n0_ := Aside0.mk (Kd.R_lower ho29 (below_size (by repeat (first | (with_reducible first | exact HB.out | apply below_alloc | apply pw_below_drewN | apply below_drew1) | exact HB.out)))); have n1_ := Aside0.mk (below_step (by repeat (first | (with_reducible first | exact HB.out | apply below_alloc | apply pw_below_drewN | apply below_drew1) | exact HB.out)) hb); clear HB; have HO445 := n0_; have HB := n1_; clear n0_ n1_; clear hb ho29))
       go_loopg [9] k (fun kq v9 w' => ∃ (x8_1 : List Int) (x9_1 : Int), v9 = .int .i64 x9_1 ∧ Aside0 (law_FlexLimits.l2 kq x8_1 x9_1 = some r) ∧ Aside0 (kq ≤ k) ∧ Aside0 (Kd.R (Kd.int .u8) 5 w' w.heap.size (fun _ => True) v444 x8_1) ∧ Aside0 (Below w.heap.size w w'))
       case atStart => exact ⟨(y443), (0), (by first | rfl | (simp; done) | (simp [*]; done)), H', ⟨Nat.le_refl _⟩, ⟨by (with_reducible repeat (first | apply Kd.R_alloc | apply Kd.R_drewN | apply Kd.R_drew)); exact HO445.out⟩, ⟨by repeat (first | (with_reducible first | exact HB.out | apply below_alloc | apply pw_below_drewN | apply below_drew1) | exact HB.out)⟩⟩
       case round =>
        clear H';try clear c1
        try clear c2
        try clear p2
        try clear c3
        try clear p4
        try clear q4
        try clear hx4
        try clear c6
        try clear c6b0
        try clear c6b1
        try clear p6
        try clear c8
        try clear c8b0
        try clear c9
        try clear c9b0
        try clear c13
        try clear c13b0
        try clear c14
        try clear c14b0
        try clear c14b1
        try clear c14b2
        try clear c15
        try clear c15b0
        try clear c15b1
        try clear c16
        try clear c16b0
        try clear c18
        try clear c18b0
        try clear c19
        try clear c19b0
        try clear c20
        try clear c20b0
        try clear c20b1
        try clear c20b2
        try clear c24
        try clear c24b0
        try clear c24b1
        try clear c26
        try clear c26b0
        try clear c26b1
        try clear c27
        try clear c27b0
        try clear c27b1
        try clear hx438_0
        try clear hx442_0
        try clear p2
        try clear p4
        try clear p438
        try clear p442
        try clear p6
        try clear q4
        try clear q438
        try clear q442
        obtain ⟨x8_1, x9_1, rfl, HA, HK1, HO_8, HB⟩ := hrel;cases gk with
        | zero => exact absurd HA.out (by simp [law_FlexLimits.l2])
        | succ k1 =>
         have H := HA.out;clear HA;simp only [law_FlexLimits.l2] at H;by_cases c30 : x9_1 < (x8_1.length : Int)
         ·rw [if_pos c30] at H;have c30b0 : decide (x9_1 < (x8_1.length : Int)) = true := decide_eq_true c30;clear c30;by_cases c31 : 0 ≤ x9_1
          ·rw [if_pos c31] at H;have c31b0 : decide (0 ≤ x9_1) = true := decide_eq_true c31;clear c31;obtain ⟨y446, hy446⟩ : ∃ y_ : List Int, y_ = (x8_1.set (x9_1 : Int).toNat 32) := ⟨_, rfl⟩;replace H : (law_FlexLimits.l2 k1 y446 (wrap64 (x9_1 + 1))) = some r := by first | (rw [hy446]; with_reducible exact H) | (have H2_ := (Option.bind_some _ _).symm.trans H; rw [hy446]; with_reducible exact H2_) | (have H2_ := (Option.bind_some _ _).symm.trans H; with_reducible exact H2_) | with_reducible exact H | (rw [hy446]; exact H) | exact H
           have Ny446 := Aside0.mk hy446;clear hy446;have H' := Aside0.mk H;clear H;obtain ⟨Ao33, co33, eo33⟩ := Kd.R_slice HO_8.out;subst eo33;have p32 : 0 ≤ (x9_1 : Int) := of_decide_eq_true (by first | (with_reducible assumption) | assumption)
           have q32 : (x9_1 : Int) < ((x8_1.length : Int) : Int) := of_decide_eq_true (by first | (with_reducible assumption) | assumption)
           obtain ⟨go32, co32, eo32, gb32, gl32, cl32, HG32⟩ := Kd.R_form HO_8.out (by omega)
           (first | cases eo32 | (injection eo32 with ea_ en_ ec_; (first | subst ea_ | (injection ea_ with ea_; subst ea_)); subst ec_; clear en_))
           have GB32 := Aside0.mk gb32;have GG32 := Aside0.mk HG32;clear gb32 gl32 HG32;obtain ⟨hx32_0, hf32_0⟩ := Kd.R_celln 0 HO_8.out (x9_1 : Int) p32 q32;replace p32 := eq_true p32;replace q32 := eq_true q32;have HP34 := Kd.R_putg HO_8.out (x9_1 : Int) 32
           go_wp2_with (first | ((with_reducible refine gate_store (t := 5) (p := 66) rfl ?_); refine store_event (t := 5) (p := 66) (v := ?vo_w35) (w1 := (wr.setCell ⟨go32, (x9_1 : Int).toNat, none⟩ (.int .u8 32))) ?hg ?ho ?hn ?hr ?_; (case ho => rfl); (case hg => rfl); (case hn => rfl); (case hr => first | (go_simp; done) | (go_simp; rfl)); intro w35 hw; have hg : wr.grownBy w35 (some go32) := (by rw [hw]; exact HP34.2); have hp_ : Kd.R (Kd.int .u8) 5 w35 w.heap.size (fun _ => True) (.slice (some ⟨go32, 0, none⟩) x8_1.length co33) y446 := (by rw [hw, Ny446.out]; exact HP34.1); clear HP34; have n0_ := Aside0.mk (hp_); have n1_ := Aside0.mk ((by rw [hw]; exact below_set (HB.out) GB32.out : Below w.heap.size w w35)); clear HO_8; clear HB; have HO_8 := n0_; have HB := n1_; clear n0_ n1_; clear hg hw hp_))
           go_roundg k1
           case measure => have := HK1.out; omega
           case rel => exact ⟨(y446), (wrap64 (x9_1 + 1)), (by first | rfl | (simp; done) | (simp [*]; done)), H', ⟨by have := HK1.out; omega⟩, ⟨by (with_reducible repeat (first | apply Kd.R_alloc | apply Kd.R_drewN | apply Kd.R_drew)); exact HO_8.out⟩, ⟨by repeat (first | (with_reducible first | exact HB.out | apply below_alloc | apply pw_below_drewN | apply below_drew1) | exact HB.out)⟩⟩
          ·rw [if_neg c31] at H;exact absurd H (by simp)
         ·rw [if_neg c30] at H;have c30b0 : decide (x9_1 < (x8_1.length : Int)) = false := decide_eq_false c30;clear c30;have H' := Aside0.mk H;clear H;obtain ⟨Ao36, co36, eo36⟩ := Kd.R_slice HO_8.out;subst eo36;have hcv37 := own_string (P := Tryd.prog) Tryd.underlying24 Tryd.underlying5 Tryd.underlying9 (Kd.own_of_R HO_8.out);go_wp2;go_meet
          case rel => exact ⟨_, (strOfNums x8_1), (by first | rfl | (simp; done) | (simp [*]; done)), H', ⟨by have := HK1.out; first | omega | exact Nat.le_refl _⟩, ⟨by repeat (first | (with_reducible first | exact HB.out | apply below_alloc | apply pw_below_drewN | apply below_drew1) | exact HB.out)⟩⟩
      ·rw [if_neg c27] at H;exact absurd H (by simp)
     ·rw [if_neg c26] at H;exact absurd H (by simp)
    ·rw [if_neg c24] at H;have c24b0 : (t433 == 2) = false := beq_eq_false_iff_ne.mpr c24;have c24b1 : (t433 != 2) = true := bne_iff_ne.mpr c24;by_cases c38 : (wrap64 (t432 - 3)) > 0
     ·rw [if_pos c38] at H;have c38b0 : decide (0 < (wrap64 (t432 - 3))) = true := decide_eq_true c38;clear c38;have H' := Aside0.mk H;clear H;go_wp2;go_meet
      case rel => exact ⟨_, ((⟨#[57, 50, 50, 51, 51, 55, 50, 48, 51, 54, 56, 53, 52, 55, 55, 53, 56, 48, 56]⟩ : ByteArray)), (by first | rfl | (simp; done) | (simp [*]; done)), H', ⟨by first | omega | exact Nat.le_refl _⟩, ⟨by repeat (first | (with_reducible first | exact HB.out | apply below_alloc | apply pw_below_drewN | apply below_drew1) | exact HB.out)⟩⟩
     ·rw [if_neg c38] at H;have c38b0 : decide (0 < (wrap64 (t432 - 3))) = false := decide_eq_false c38;clear c38;have H' := Aside0.mk H;clear H;go_wp2;go_meet
      case rel => exact ⟨_, ((⟨#[57, 50, 50, 51, 51, 55, 50, 48, 51, 54, 56, 53, 52, 55, 55, 53, 56, 48, 55]⟩ : ByteArray)), (by first | rfl | (simp; done) | (simp [*]; done)), H', ⟨by first | omega | exact Nat.le_refl _⟩, ⟨by repeat (first | (with_reducible first | exact HB.out | apply below_alloc | apply pw_below_drewN | apply below_drew1) | exact HB.out)⟩⟩
 case rest =>
  clear HC5;try clear c1
  try clear c2
  try clear p2
  try clear c3
  try clear p3
  try clear q3
  try clear hx3
  try clear hcv3
  try clear hf3
  try clear p4
  try clear q4
  try clear hx4
  try clear c6
  try clear c6b0
  try clear c6b1
  try clear p6
  try clear c8
  try clear c8b0
  try clear c9
  try clear c9b0
  try clear c13
  try clear c13b0
  try clear c14
  try clear c14b0
  try clear c14b1
  try clear c14b2
  try clear c15
  try clear c15b0
  try clear c15b1
  try clear c16
  try clear c16b0
  try clear c18
  try clear c18b0
  try clear c19
  try clear c19b0
  try clear c20
  try clear c20b0
  try clear c20b1
  try clear c20b2
  try clear c24
  try clear c24b0
  try clear c24b1
  try clear c26
  try clear c26b0
  try clear c26b1
  try clear c27
  try clear c27b0
  try clear c27b1
  try clear c30
  try clear c30b0
  try clear c31
  try clear c31b0
  try clear p32
  try clear q32
  try clear hx32
  try clear hf32
  try clear hcv37
  try clear c38
  try clear c38b0
  try clear hx32_0
  try clear hx438_0
  try clear hx442_0
  try clear p2
  try clear p32
  try clear p4
  try clear p438
  try clear p442
  try clear p6
  try clear q32
  try clear q4
  try clear q438
  try clear q442
  obtain ⟨kq, x5_4, rfl, HA, HJ4, HB⟩ := hcut;cases kq with
  | zero => exact absurd HA.out (by simp [law_FlexLimits.j3])
  | succ kj4 =>
   have H := HA.out;clear HA;simp only [law_FlexLimits.j3] at H;replace H := Option.bind_eq_some_iff.mp H;obtain ⟨⟨t447, t448, t449⟩, A390, H⟩ := H;replace H : ((rt_Lex.f kj4 x5_4).bind fun bt452 => ((kp_Tokens.f kj4 t447 bt452.1).bind fun t457 => (if t457 = true then (if t448 = bt452.2.1 then (if t449 = bt452.2.2 then ((law_awake.f kj4).bind fun t458 => (some t458)) else (some false)) else (some false)) else (some false)))) = some r := H
   have A39 := Aside0.mk A390;clear A390;replace H := Option.bind_eq_some_iff.mp H;obtain ⟨⟨t452, t453, t454⟩, A400, H⟩ := H;replace H : ((kp_Tokens.f kj4 t447 t452).bind fun t457 => (if t457 = true then (if t448 = t453 then (if t449 = t454 then ((law_awake.f kj4).bind fun t458 => (some t458)) else (some false)) else (some false)) else (some false))) = some r := H
   have A40 := Aside0.mk A400;clear A400;replace H := Option.bind_eq_some_iff.mp H;obtain ⟨t457, A410, H⟩ := H;replace H : (if t457 = true then (if t448 = t453 then (if t449 = t454 then ((law_awake.f kj4).bind fun t458 => (some t458)) else (some false)) else (some false)) else (some false)) = some r := H
   have A41 := Aside0.mk A410;clear A410;by_cases c42 : t457 = true
   ·subst c42;have H1 : (if t448 = t453 then (if t449 = t454 then ((law_awake.f kj4).bind fun t458 => (some t458)) else (some false)) else (some false)) = some r := by rw [if_pos rfl] at H; exact H
    clear H;have H := H1;clear H1;by_cases c43 : t448 = t453
    ·rw [if_pos c43] at H;have c43b0 : (t448 == t453) = true := beq_iff_eq.mpr c43;have c43b1 : (t448 != t453) = false := bne_eq_false_iff_eq.mpr c43;clear c43;by_cases c44 : t449 = t454
     ·rw [if_pos c44] at H;have c44b0 : (t449 == t454) = true := beq_iff_eq.mpr c44;have c44b1 : (t449 != t454) = false := bne_eq_false_iff_eq.mpr c44;clear c44;replace H := Option.bind_eq_some_iff.mp H;obtain ⟨t458, A450, H⟩ := H;replace H : (some t458) = some r := H;have A45 := Aside0.mk A450;clear A450;obtain rfl := Option.some.inj H
      go_wp2_with (first | ((with_reducible refine gate_callee (f := 9) rfl ?_); refine goesL_ (some 71) rfl rfl Tryd.func9 (by kernel_rfl) rfl #[.string x5_4] rfl (by (try simp only [List.map_toArray, List.map_cons, List.map_nil]); first | done | rfl | (simp only [List.length_drop, List.length_take]; rfl)) ?_; (with_reducible refine (flex_Lex.calls kj4 x5_4 t447 t448 t449 _ A39.out (by exact GW.at HG.out (by repeat (first | (with_reducible first | exact HB.out | apply below_alloc | apply pw_below_drewN | apply below_drew1) | exact HB.out)))).mono ?_); rintro e w46 ⟨v450, rfl, ho0, hb⟩; refine ⟨_, rfl, ?_⟩; have n0_ := Aside0.mk (Kd.R_lower ho0 (below_size (by repeat (first | (with_reducible first | exact HB.out | apply below_alloc | apply pw_below_drewN | apply below_drew1) | exact HB.out)))); have n1_ := Aside0.mk (below_step (by repeat (first | (with_reducible first | exact HB.out | apply below_alloc | apply pw_below_drewN | apply below_drew1) | exact HB.out)) hb); clear HB; have HO451 := n0_; have HB := n1_; clear n0_ n1_; (try clear hb); (try clear hb2); (try clear hk); (try clear hi); (try clear ho0)) | ((with_reducible refine gate_callee (f := 10) rfl ?_); refine goesL_ (some 77) rfl rfl Tryd.func10 (by kernel_rfl) rfl #[.string x5_4] rfl (by (try simp only [List.map_toArray, List.map_cons, List.map_nil]); first | done | rfl | (simp only [List.length_drop, List.length_take]; rfl)) ?_; (with_reducible refine (rt_Lex.calls kj4 x5_4 t452 t453 t454 _ A40.out).mono ?_); rintro e w47 ⟨v455, rfl, ho0, hb⟩; refine ⟨_, rfl, ?_⟩; have n0_ := Aside0.mk (Kd.R_elder' (by (with_reducible repeat (first | apply Kd.R_alloc | apply Kd.R_drewN | apply Kd.R_drew)); exact HO451.out) (Kd.R_base ho0) hb); have n1_ := Aside0.mk (Kd.R_lower (Kd.R_new' ho0 (Kd.R_lt (by (with_reducible repeat (first | apply Kd.R_alloc | apply Kd.R_drewN | apply Kd.R_drew)); exact HO451.out))) (below_size (by repeat (first | (with_reducible first | exact HB.out | apply below_alloc | apply pw_below_drewN | apply below_drew1) | exact HB.out)))); have n2_ := Aside0.mk (below_step (by repeat (first | (with_reducible first | exact HB.out | apply below_alloc | apply pw_below_drewN | apply below_drew1) | exact HB.out)) hb); clear HO451; clear HB; have HO451 := n0_; have HO456 := n1_; have HB := n2_; clear n0_ n1_ n2_; (try clear hb); (try clear hb2); (try clear hk); (try clear hi); (try clear ho0); obtain ⟨Ao48, co48, eo48⟩ := Kd.R_slice HO451.out; subst eo48; obtain ⟨Ao49, co49, eo49⟩ := Kd.R_slice HO456.out; subst eo49) | ((with_reducible refine gate_callee (f := 11) rfl ?_); refine goesL_ (some 83) rfl rfl Tryd.func11 (by kernel_rfl) rfl #[.slice Ao48 t447.length co48, .slice Ao49 t452.length co49] rfl (by (try simp only [List.map_toArray, List.map_cons, List.map_nil]); first | done | rfl | (simp only [List.length_drop, List.length_take]; rfl)) ?_; (with_reducible refine (kp_Tokens.calls kj4 _ _ t447 _ _ t452 true _ ?side1 ?side2 ?side3 ?side4 A41.out).mono ?_); (case side1 => repeat (first | exact (Kd.R_reads' HO451.out).2.2 | (with_reducible refine Kd.C_alloc ?_ _) | (with_reducible refine Kd.C_drewN ?_ _) | (with_reducible refine Kd.C_drew ?_))); (case side2 => exact (Kd.R_reads' HO451.out).2.1); (case side3 => repeat (first | exact (Kd.R_reads' HO456.out).2.2 | (with_reducible refine Kd.C_alloc ?_ _) | (with_reducible refine Kd.C_drewN ?_ _) | (with_reducible refine Kd.C_drew ?_))); (case side4 => exact (Kd.R_reads' HO456.out).2.1); rintro e w' ⟨rfl, ⟨nd, rfl⟩⟩; refine ⟨_, rfl, ?_⟩) | (go_at_call 12; (with_reducible refine (law_awake.calls kj4  t458 _ A45.out (by exact GW.at HG.out (by repeat (first | (with_reducible first | exact HB.out | apply below_alloc | apply pw_below_drewN | apply below_drew1) | exact HB.out)))).mono ?_); rintro e w50 ⟨rfl, hb⟩; have n0_ := Aside0.mk (Kd.R_below (by (with_reducible repeat (first | apply Kd.R_alloc | apply Kd.R_drewN | apply Kd.R_drew)); exact HO451.out) hb); have n1_ := Aside0.mk (Kd.R_below (by (with_reducible repeat (first | apply Kd.R_alloc | apply Kd.R_drewN | apply Kd.R_drew)); exact HO456.out) hb); have n2_ := Aside0.mk (below_step (by repeat (first | (with_reducible first | exact HB.out | apply below_alloc | apply pw_below_drewN | apply below_drew1) | exact HB.out)) hb); clear HO451; clear HO456; clear HB; have HO451 := n0_; have HO456 := n1_; have HB := n2_; clear n0_ n1_ n2_; (try clear hb); (try clear hb2); (try clear hk); (try clear hi)))
      go_ret;exact ⟨by first | rfl | (simp [errW_none, errW_some] <;> rfl) | (simp [*, errW_none, errW_some] <;> rfl), by repeat (first | (with_reducible first | exact HB.out | apply below_alloc | apply pw_below_drewN | apply below_drew1) | exact HB.out)⟩
     ·rw [if_neg c44] at H;have c44b0 : (t449 == t454) = false := beq_eq_false_iff_ne.mpr c44;have c44b1 : (t449 != t454) = true := bne_iff_ne.mpr c44;obtain rfl := Option.some.inj H
      go_wp2_with (first | ((with_reducible refine gate_callee (f := 9) rfl ?_); refine goesL_ (some 71) rfl rfl Tryd.func9 (by kernel_rfl) rfl #[.string x5_4] rfl (by (try simp only [List.map_toArray, List.map_cons, List.map_nil]); first | done | rfl | (simp only [List.length_drop, List.length_take]; rfl)) ?_; (with_reducible refine (flex_Lex.calls kj4 x5_4 t447 t448 t449 _ A39.out (by exact GW.at HG.out (by repeat (first | (with_reducible first | exact HB.out | apply below_alloc | apply pw_below_drewN | apply below_drew1) | exact HB.out)))).mono ?_); rintro e w51 ⟨v450, rfl, ho0, hb⟩; refine ⟨_, rfl, ?_⟩; have n0_ := Aside0.mk (Kd.R_lower ho0 (below_size (by repeat (first | (with_reducible first | exact HB.out | apply below_alloc | apply pw_below_drewN | apply below_drew1) | exact HB.out)))); have n1_ := Aside0.mk (below_step (by repeat (first | (with_reducible first | exact HB.out | apply below_alloc | apply pw_below_drewN | apply below_drew1) | exact HB.out)) hb); clear HB; have HO451 := n0_; have HB := n1_; clear n0_ n1_; (try clear hb); (try clear hb2); (try clear hk); (try clear hi); (try clear ho0)) | ((with_reducible refine gate_callee (f := 10) rfl ?_); refine goesL_ (some 77) rfl rfl Tryd.func10 (by kernel_rfl) rfl #[.string x5_4] rfl (by (try simp only [List.map_toArray, List.map_cons, List.map_nil]); first | done | rfl | (simp only [List.length_drop, List.length_take]; rfl)) ?_; (with_reducible refine (rt_Lex.calls kj4 x5_4 t452 t453 t454 _ A40.out).mono ?_); rintro e w52 ⟨v455, rfl, ho0, hb⟩; refine ⟨_, rfl, ?_⟩; have n0_ := Aside0.mk (Kd.R_elder' (by (with_reducible repeat (first | apply Kd.R_alloc | apply Kd.R_drewN | apply Kd.R_drew)); exact HO451.out) (Kd.R_base ho0) hb); have n1_ := Aside0.mk (Kd.R_lower (Kd.R_new' ho0 (Kd.R_lt (by (with_reducible repeat (first | apply Kd.R_alloc | apply Kd.R_drewN | apply Kd.R_drew)); exact HO451.out))) (below_size (by repeat (first | (with_reducible first | exact HB.out | apply below_alloc | apply pw_below_drewN | apply below_drew1) | exact HB.out)))); have n2_ := Aside0.mk (below_step (by repeat (first | (with_reducible first | exact HB.out | apply below_alloc | apply pw_below_drewN | apply below_drew1) | exact HB.out)) hb); clear HO451; clear HB; have HO451 := n0_; have HO456 := n1_; have HB := n2_; clear n0_ n1_ n2_; (try clear hb); (try clear hb2); (try clear hk); (try clear hi); (try clear ho0); obtain ⟨Ao53, co53, eo53⟩ := Kd.R_slice HO451.out; subst eo53; obtain ⟨Ao54, co54, eo54⟩ := Kd.R_slice HO456.out; subst eo54) | ((with_reducible refine gate_callee (f := 11) rfl ?_); refine goesL_ (some 83) rfl rfl Tryd.func11 (by kernel_rfl) rfl #[.slice Ao53 t447.length co53, .slice Ao54 t452.length co54] rfl (by (try simp only [List.map_toArray, List.map_cons, List.map_nil]); first | done | rfl | (simp only [List.length_drop, List.length_take]; rfl)) ?_; (with_reducible refine (kp_Tokens.calls kj4 _ _ t447 _ _ t452 true _ ?side1 ?side2 ?side3 ?side4 A41.out).mono ?_); (case side1 => repeat (first | exact (Kd.R_reads' HO451.out).2.2 | (with_reducible refine Kd.C_alloc ?_ _) | (with_reducible refine Kd.C_drewN ?_ _) | (with_reducible refine Kd.C_drew ?_))); (case side2 => exact (Kd.R_reads' HO451.out).2.1); (case side3 => repeat (first | exact (Kd.R_reads' HO456.out).2.2 | (with_reducible refine Kd.C_alloc ?_ _) | (with_reducible refine Kd.C_drewN ?_ _) | (with_reducible refine Kd.C_drew ?_))); (case side4 => exact (Kd.R_reads' HO456.out).2.1); rintro e w' ⟨rfl, ⟨nd, rfl⟩⟩; refine ⟨_, rfl, ?_⟩))
      go_ret;exact ⟨by first | rfl | (simp [errW_none, errW_some] <;> rfl) | (simp [*, errW_none, errW_some] <;> rfl), by repeat (first | (with_reducible first | exact HB.out | apply below_alloc | apply pw_below_drewN | apply below_drew1) | exact HB.out)⟩
    ·rw [if_neg c43] at H;have c43b0 : (t448 == t453) = false := beq_eq_false_iff_ne.mpr c43;have c43b1 : (t448 != t453) = true := bne_iff_ne.mpr c43;obtain rfl := Option.some.inj H
     go_wp2_with (first | ((with_reducible refine gate_callee (f := 9) rfl ?_); refine goesL_ (some 71) rfl rfl Tryd.func9 (by kernel_rfl) rfl #[.string x5_4] rfl (by (try simp only [List.map_toArray, List.map_cons, List.map_nil]); first | done | rfl | (simp only [List.length_drop, List.length_take]; rfl)) ?_; (with_reducible refine (flex_Lex.calls kj4 x5_4 t447 t448 t449 _ A39.out (by exact GW.at HG.out (by repeat (first | (with_reducible first | exact HB.out | apply below_alloc | apply pw_below_drewN | apply below_drew1) | exact HB.out)))).mono ?_); rintro e w55 ⟨v450, rfl, ho0, hb⟩; refine ⟨_, rfl, ?_⟩; have n0_ := Aside0.mk (Kd.R_lower ho0 (below_size (by repeat (first | (with_reducible first | exact HB.out | apply below_alloc | apply pw_below_drewN | apply below_drew1) | exact HB.out)))); have n1_ := Aside0.mk (below_step (by repeat (first | (with_reducible first | exact HB.out | apply below_alloc | apply pw_below_drewN | apply below_drew1) | exact HB.out)) hb); clear HB; have HO451 := n0_; have HB := n1_; clear n0_ n1_; (try clear hb); (try clear hb2); (try clear hk); (try clear hi); (try clear ho0)) | ((with_reducible refine gate_callee (f := 10) rfl ?_); refine goesL_ (some 77) rfl rfl Tryd.func10 (by kernel_rfl) rfl #[.string x5_4] rfl (by (try simp only [List.map_toArray, List.map_cons, List.map_nil]); first | done | rfl | (simp only [List.length_drop, List.length_take]; rfl)) ?_; (with_reducible refine (rt_Lex.calls kj4 x5_4 t452 t453 t454 _ A40.out).mono ?_); rintro e w56 ⟨v455, rfl, ho0, hb⟩; refine ⟨_, rfl, ?_⟩; have n0_ := Aside0.mk (Kd.R_elder' (by (with_reducible repeat (first | apply Kd.R_alloc | apply Kd.R_drewN | apply Kd.R_drew)); exact HO451.out) (Kd.R_base ho0) hb); have n1_ := Aside0.mk (Kd.R_lower (Kd.R_new' ho0 (Kd.R_lt (by (with_reducible repeat (first | apply Kd.R_alloc | apply Kd.R_drewN | apply Kd.R_drew)); exact HO451.out))) (below_size (by repeat (first | (with_reducible first | exact HB.out | apply below_alloc | apply pw_below_drewN | apply below_drew1) | exact HB.out)))); have n2_ := Aside0.mk (below_step (by repeat (first | (with_reducible first | exact HB.out | apply below_alloc | apply pw_below_drewN | apply below_drew1) | exact HB.out)) hb); clear HO451; clear HB; have HO451 := n0_; have HO456 := n1_; have HB := n2_; clear n0_ n1_ n2_; (try clear hb); (try clear hb2); (try clear hk); (try clear hi); (try clear ho0); obtain ⟨Ao57, co57, eo57⟩ := Kd.R_slice HO451.out; subst eo57; obtain ⟨Ao58, co58, eo58⟩ := Kd.R_slice HO456.out; subst eo58) | ((with_reducible refine gate_callee (f := 11) rfl ?_); refine goesL_ (some 83) rfl rfl Tryd.func11 (by kernel_rfl) rfl #[.slice Ao57 t447.length co57, .slice Ao58 t452.length co58] rfl (by (try simp only [List.map_toArray, List.map_cons, List.map_nil]); first | done | rfl | (simp only [List.length_drop, List.length_take]; rfl)) ?_; (with_reducible refine (kp_Tokens.calls kj4 _ _ t447 _ _ t452 true _ ?side1 ?side2 ?side3 ?side4 A41.out).mono ?_); (case side1 => repeat (first | exact (Kd.R_reads' HO451.out).2.2 | (with_reducible refine Kd.C_alloc ?_ _) | (with_reducible refine Kd.C_drewN ?_ _) | (with_reducible refine Kd.C_drew ?_))); (case side2 => exact (Kd.R_reads' HO451.out).2.1); (case side3 => repeat (first | exact (Kd.R_reads' HO456.out).2.2 | (with_reducible refine Kd.C_alloc ?_ _) | (with_reducible refine Kd.C_drewN ?_ _) | (with_reducible refine Kd.C_drew ?_))); (case side4 => exact (Kd.R_reads' HO456.out).2.1); rintro e w' ⟨rfl, ⟨nd, rfl⟩⟩; refine ⟨_, rfl, ?_⟩))
     go_ret;exact ⟨by first | rfl | (simp [errW_none, errW_some] <;> rfl) | (simp [*, errW_none, errW_some] <;> rfl), by repeat (first | (with_reducible first | exact HB.out | apply below_alloc | apply pw_below_drewN | apply below_drew1) | exact HB.out)⟩
   ·replace c42 := Bool.eq_false_iff.mpr c42;subst c42;have H1 : (some false) = some r := by rw [if_neg (show ¬ (false = true) by decide)] at H; exact H
    clear H;have H := H1;clear H1;obtain rfl := Option.some.inj H
    go_wp2_with (first | ((with_reducible refine gate_callee (f := 9) rfl ?_); refine goesL_ (some 71) rfl rfl Tryd.func9 (by kernel_rfl) rfl #[.string x5_4] rfl (by (try simp only [List.map_toArray, List.map_cons, List.map_nil]); first | done | rfl | (simp only [List.length_drop, List.length_take]; rfl)) ?_; (with_reducible refine (flex_Lex.calls kj4 x5_4 t447 t448 t449 _ A39.out (by exact GW.at HG.out (by repeat (first | (with_reducible first | exact HB.out | apply below_alloc | apply pw_below_drewN | apply below_drew1) | exact HB.out)))).mono ?_); rintro e w59 ⟨v450, rfl, ho0, hb⟩; refine ⟨_, rfl, ?_⟩; have n0_ := Aside0.mk (Kd.R_lower ho0 (below_size (by repeat (first | (with_reducible first | exact HB.out | apply below_alloc | apply pw_below_drewN | apply below_drew1) | exact HB.out)))); have n1_ := Aside0.mk (below_step (by repeat (first | (with_reducible first | exact HB.out | apply below_alloc | apply pw_below_drewN | apply below_drew1) | exact HB.out)) hb); clear HB; have HO451 := n0_; have HB := n1_; clear n0_ n1_; (try clear hb); (try clear hb2); (try clear hk); (try clear hi); (try clear ho0)) | ((with_reducible refine gate_callee (f := 10) rfl ?_); refine goesL_ (some 77) rfl rfl Tryd.func10 (by kernel_rfl) rfl #[.string x5_4] rfl (by (try simp only [List.map_toArray, List.map_cons, List.map_nil]); first | done | rfl | (simp only [List.length_drop, List.length_take]; rfl)) ?_; (with_reducible refine (rt_Lex.calls kj4 x5_4 t452 t453 t454 _ A40.out).mono ?_); rintro e w60 ⟨v455, rfl, ho0, hb⟩; refine ⟨_, rfl, ?_⟩; have n0_ := Aside0.mk (Kd.R_elder' (by (with_reducible repeat (first | apply Kd.R_alloc | apply Kd.R_drewN | apply Kd.R_drew)); exact HO451.out) (Kd.R_base ho0) hb); have n1_ := Aside0.mk (Kd.R_lower (Kd.R_new' ho0 (Kd.R_lt (by (with_reducible repeat (first | apply Kd.R_alloc | apply Kd.R_drewN | apply Kd.R_drew)); exact HO451.out))) (below_size (by repeat (first | (with_reducible first | exact HB.out | apply below_alloc | apply pw_below_drewN | apply below_drew1) | exact HB.out)))); have n2_ := Aside0.mk (below_step (by repeat (first | (with_reducible first | exact HB.out | apply below_alloc | apply pw_below_drewN | apply below_drew1) | exact HB.out)) hb); clear HO451; clear HB; have HO451 := n0_; have HO456 := n1_; have HB := n2_; clear n0_ n1_ n2_; (try clear hb); (try clear hb2); (try clear hk); (try clear hi); (try clear ho0); obtain ⟨Ao61, co61, eo61⟩ := Kd.R_slice HO451.out; subst eo61; obtain ⟨Ao62, co62, eo62⟩ := Kd.R_slice HO456.out; subst eo62) | ((with_reducible refine gate_callee (f := 11) rfl ?_); refine goesL_ (some 83) rfl rfl Tryd.func11 (by kernel_rfl) rfl #[.slice Ao61 t447.length co61, .slice Ao62 t452.length co62] rfl (by (try simp only [List.map_toArray, List.map_cons, List.map_nil]); first | done | rfl | (simp only [List.length_drop, List.length_take]; rfl)) ?_; (with_reducible refine (kp_Tokens.calls kj4 _ _ t447 _ _ t452 false _ ?side1 ?side2 ?side3 ?side4 A41.out).mono ?_); (case side1 => repeat (first | exact (Kd.R_reads' HO451.out).2.2 | (with_reducible refine Kd.C_alloc ?_ _) | (with_reducible refine Kd.C_drewN ?_ _) | (with_reducible refine Kd.C_drew ?_))); (case side2 => exact (Kd.R_reads' HO451.out).2.1); (case side3 => repeat (first | exact (Kd.R_reads' HO456.out).2.2 | (with_reducible refine Kd.C_alloc ?_ _) | (with_reducible refine Kd.C_drewN ?_ _) | (with_reducible refine Kd.C_drew ?_))); (case side4 => exact (Kd.R_reads' HO456.out).2.1); rintro e w' ⟨rfl, ⟨nd, rfl⟩⟩; refine ⟨_, rfl, ?_⟩))
    go_ret;exact ⟨by first | rfl | (simp [errW_none, errW_some] <;> rfl) | (simp [*, errW_none, errW_some] <;> rfl), by repeat (first | (with_reducible first | exact HB.out | apply below_alloc | apply pw_below_drewN | apply below_drew1) | exact HB.out)⟩
end Go.Proofs.YtdhdpidjdadamaaDoor.PX
