/- The plain law FlexLimits: what flex and its reference come to answers as the statement says. No program and no memory here. -/
import Derived.Test.YtdhdpidjdadamaaDoorQRefD
import Derived.Test.YtdhdpidjdadamaaDoorPx24
namespace Go.Proofs.YtdhdpidjdadamaaDoor.Q
open Go.RowKit Go.Proofs.YtdhdpidjdadamaaDoorW.PrintWords Go.Proofs.YtdhdpidjdadamaaDoorW.PrintLast Go.Proofs.YtdhdpidjdadamaaDoorW.PrintMore Go.Proofs.YtdhdpidjdadamaaDoor.PX
set_option linter.unusedVariables false
set_option linter.unusedSimpArgs false
theorem mod_f (a m : Int) (hm : 0 < m) (hm2 : m ≤ 100) : ∃ r, kp_Mod.f a m = some r ∧ 0 ≤ r ∧ r < m := by
 unfold kp_Mod.f;rw [if_neg (by omega)]
 have h1 := Int.tmod_lt_of_pos a hm;have h2 : -m < Int.tmod a m := by
  have := Int.tmod_lt_of_pos (-a) hm;rw [Int.neg_tmod] at this;omega
 by_cases c : Int.tmod a m < 0
 ·rw [if_pos c, w64 (by omega) (by omega)]; exact ⟨_, rfl, by omega, by omega⟩
 ·rw [if_neg c]; exact ⟨_, rfl, by omega, by omega⟩
theorem limits_end (x : ByteArray) : Ev (fun k => law_FlexLimits.j3 k x) true :=
 Ev.step (fun k => by first | (rw [law_FlexLimits.j3]; done) | (rw [law_FlexLimits.j3]; rfl))
  (Ev.bind (ev_Lex x) (Ev.bind (ev_rLex x) (Ev.bind (ev_tokens (lexS x).1 (by have := lexS_len x; omega)) (Ev.pos rfl (Ev.pos rfl (Ev.pos rfl (Ev.bind awake_true (Ev.now true))))))))
theorem limits_name (n : Int) (h0 : -3 ≤ n) (h1 : n ≤ 3) : ∀ (d : Nat) (x : ByteArray) (i : Int), 40 - i = d → 0 ≤ i → x.size ≤ 1000 + i → Ev (fun k => law_FlexLimits.l0 k n x i) true := by
 intro d;induction d with
 | zero =>
  intro x i hd hi hx;refine Ev.step (fun k => by first | (rw [law_FlexLimits.l0]; done) | (rw [law_FlexLimits.l0]; rfl)) ?_
  rw [w64 (x := 32 + n) (by omega) (by omega)]
  exact Ev.neg (by omega) (limits_end x)
 | succ d ih =>
  intro x i hd hi hx;refine Ev.step (fun k => by first | (rw [law_FlexLimits.l0]; done) | (rw [law_FlexLimits.l0]; rfl)) ?_
  rw [w64 (x := 32 + n) (by omega) (by omega), w64 (x := i + 1) (by omega) (by omega)]
  by_cases c : i < 32 + n
  ·exact Ev.pos c (Ev.pos (by omega) (ih _ (i + 1) (by omega) (by omega) (by rw [ByteArray.size_append, show (⟨#[97]⟩ : ByteArray).size = 1 from rfl]; omega)))
  ·exact Ev.neg c (limits_end x)
theorem limits_many (n : Int) (h0 : -3 ≤ n) (h1 : n ≤ 3) : ∀ (d : Nat) (x : ByteArray) (i : Int), 3000 - i = d → 0 ≤ i → x.size ≤ 2 * i → Ev (fun k => law_FlexLimits.l1 k n x i) true := by
 intro d;induction d with
 | zero =>
  intro x i hd hi hx;refine Ev.step (fun k => by first | (rw [law_FlexLimits.l1]; done) | (rw [law_FlexLimits.l1]; rfl)) ?_
  rw [w64 (x := 2048 + n) (by omega) (by omega)]
  exact Ev.neg (by omega) (limits_end x)
 | succ d ih =>
  intro x i hd hi hx;refine Ev.step (fun k => by first | (rw [law_FlexLimits.l1]; done) | (rw [law_FlexLimits.l1]; rfl)) ?_
  rw [w64 (x := 2048 + n) (by omega) (by omega), w64 (x := i + 1) (by omega) (by omega)]
  by_cases c : i < 2048 + n
  ·have hm : Int.tmod i 3 = i % 3 := Int.tmod_eq_emod_of_nonneg hi;rw [hm];have hz : (rdOf ByteArray.empty ([(⟨#[49, 32]⟩ : ByteArray), (⟨#[46, 32]⟩ : ByteArray), (⟨#[44, 32]⟩ : ByteArray)] : List ByteArray) (i % 3)).size = 2 := by
    have : i % 3 = 0 ∨ i % 3 = 1 ∨ i % 3 = 2 := by omega
    rcases this with h | h | h <;> rw [h] <;> rfl
   refine Ev.pos c (Ev.pbind (a := [(⟨#[49, 32]⟩ : ByteArray), (⟨#[46, 32]⟩ : ByteArray), (⟨#[44, 32]⟩ : ByteArray)]) rfl (Ev.pos (by omega) (Ev.pos (by simp only [List.length_cons, List.length_nil]; omega) (Ev.pos (by omega) ?_))))
   exact ih _ (i + 1) (by omega) (by omega) (by rw [ByteArray.size_append]; omega)
  ·exact Ev.neg c (limits_end x)
theorem limits_text : ∀ (d : Nat) (l : List Int) (i : Int), (l.length : Int) - i = d → l.length ≤ 10000 → 0 ≤ i → Ev (fun k => law_FlexLimits.l2 k l i) true := by
 intro d;induction d with
 | zero =>
  intro l i hd hl hi;exact Ev.step (fun k => by first | (rw [law_FlexLimits.l2]; done) | (rw [law_FlexLimits.l2]; rfl)) (Ev.neg (by omega) (limits_end _))
 | succ d ih =>
  intro l i hd hl hi;refine Ev.step (fun k => by first | (rw [law_FlexLimits.l2]; done) | (rw [law_FlexLimits.l2]; rfl)) (Ev.pos (by omega) (Ev.pos hi ?_))
  rw [w64 (x := i + 1) (by omega) (by omega)]
  exact ih _ (i + 1) (by rw [List.length_set]; omega) (by rw [List.length_set]; omega) (by omega)
theorem limits_holds (a b : Int) : ∃ k, law_FlexLimits.f k a b = some true := by
 refine Ev.rounds (g := fun k => law_FlexLimits.f k a b) ?_
 unfold law_FlexLimits.f;obtain ⟨t, ht, t0, t1⟩ := mod_f a 7 (by omega) (by omega)
 obtain ⟨u, hu, u0, u1⟩ := mod_f b 4 (by omega) (by omega)
 refine Ev.pbind ht (Ev.pbind hu ?_)
 rw [w64 (x := t - 3) (by omega) (by omega)]
 by_cases c0 : u = 0
 ·obtain ⟨v, hv, v0, v1⟩ := mod_f (t - 3) 3 (by omega) (by omega)
  refine Ev.pos c0 (Ev.pbind (a := [(⟨#[]⟩ : ByteArray), (⟨#[36]⟩ : ByteArray), (⟨#[46]⟩ : ByteArray)]) rfl (Ev.pbind hv (Ev.pos v0 (Ev.pos (by simp only [List.length_cons, List.length_nil]; omega) ?_))))
  have hz : (rdOf ByteArray.empty ([(⟨#[]⟩ : ByteArray), (⟨#[36]⟩ : ByteArray), (⟨#[46]⟩ : ByteArray)] : List ByteArray) v).size ≤ 1 := by
   have : v = 0 ∨ v = 1 ∨ v = 2 := by omega
   rcases this with h | h | h <;> rw [h] <;> decide
  exact limits_name (t - 3) (by omega) (by omega) 40 _ 0 (by omega) (by omega) (by omega)
 refine Ev.neg c0 ?_
 by_cases c1 : u = 1
 ·exact Ev.pos c1 (limits_many (t - 3) (by omega) (by omega) 3000 _ 0 (by omega) (by omega) (by decide))
 refine Ev.neg c1 ?_
 by_cases c2 : u = 2
 ·refine Ev.pos c2 ?_
  rw [w64 (x := 8192 + (t - 3)) (by omega) (by omega)]
  refine Ev.pos (by omega) (Ev.pos (by omega) ?_)
  exact limits_text (8192 + (t - 3)).toNat _ 0 (by rw [List.length_replicate]; omega) (by rw [List.length_replicate]; omega) (by omega)
 refine Ev.neg c2 ?_
 by_cases c3 : t - 3 > 0
 ·exact Ev.pos c3 (limits_end _)
 ·exact Ev.neg c3 (limits_end _)
end Go.Proofs.YtdhdpidjdadamaaDoor.Q
