/- Plain words on the reference (ndjqref03): hexadecimal digits and the element behind a backslash come to what jsonlex's come to. No program and no memory here. -/
import Derived.Test.YtdhdpidjdadamaaDoorQRefA
namespace Go.Proofs.YtdhdpidjdadamaaDoor.Q
open Go.RowKit Go.Proofs.YtdhdpidjdadamaaDoorW.PrintWords Go.Proofs.YtdhdpidjdadamaaDoorW.PrintLast Go.Proofs.YtdhdpidjdadamaaDoorW.PrintMore Go.Proofs.YtdhdpidjdadamaaDoor.PX
set_option linter.unusedVariables false
set_option linter.unusedSimpArgs false
def hexR (c : Int) : Int × Bool := if hexS c < 0 then (0, false) else (hexS c, true)
theorem ev_rhex {c : Int} (h0 : 0 ≤ c) (h1 : c ≤ 255) : Ev (fun k => rj_hex.f k c) (hexR c) := by
 unfold rj_hex.f;have j1 : ∀ b : Bool, b = decide (97 ≤ c ∧ c ≤ 102) → ¬ (48 ≤ c ∧ c ≤ 57) → Ev (fun k => rj_hex.j1 k c b) (hexR c) := by
  intro b hb hd;refine Ev.step (fun k => by first | (rw [rj_hex.j1]; done) | (rw [rj_hex.j1]; rfl)) ?_
  unfold hexR hexS;rw [if_neg hd];by_cases c1 : 97 ≤ c ∧ c ≤ 102
  ·refine Ev.pos (by rw [hb]; exact decide_eq_true c1) (Ev.val ?_)
   rw [if_pos c1, if_neg (by omega), show (c - 97) % 256 + 10 = c - 87 by omega]
  ·refine Ev.neg (by rw [hb, decide_eq_false c1]; simp) ?_
   rw [if_neg c1];by_cases c2 : 65 ≤ c ∧ c ≤ 70
   ·refine Ev.pos c2.1 (Ev.pos c2.2 (Ev.val ?_))
    rw [if_pos c2, if_neg (by omega), show (c - 65) % 256 + 10 = c - 55 by omega]
   ·rw [if_neg c2];by_cases c3 : c ≥ 65
    ·exact Ev.pos c3 (Ev.neg (by omega) (Ev.now _))
    ·exact Ev.neg c3 (Ev.now _)
 have j0 : ∀ b : Bool, b = decide (48 ≤ c ∧ c ≤ 57) → Ev (fun k => rj_hex.j0 k c b) (hexR c) := by
  intro b hb;refine Ev.step (fun k => by first | (rw [rj_hex.j0]; done) | (rw [rj_hex.j0]; rfl)) ?_
  by_cases c1 : 48 ≤ c ∧ c ≤ 57
  ·refine Ev.pos (by rw [hb]; exact decide_eq_true c1) (Ev.val ?_)
   unfold hexR hexS;rw [if_pos c1, if_neg (by omega), show (c - 48) % 256 = c - 48 by omega]
  ·refine Ev.neg (by rw [hb, decide_eq_false c1]; simp) ?_
   by_cases c2 : c ≥ 97
   ·refine Ev.pos c2 (j1 _ ?_ c1)
    rw [Bool.eq_iff_iff, decide_eq_true_iff, decide_eq_true_iff]; omega
   ·refine Ev.neg c2 (j1 _ ?_ c1)
    rw [eq_comm, decide_eq_false_iff_not]; omega
 by_cases c1 : c ≥ 48
 ·refine Ev.pos c1 (j0 _ ?_)
  rw [Bool.eq_iff_iff, decide_eq_true_iff, decide_eq_true_iff]; omega
 ·refine Ev.neg c1 (j0 _ ?_)
  rw [eq_comm, decide_eq_false_iff_not]; omega
theorem shl_four (x : Int) (d : Nat) (hd : d ≤ 3) (h0 : 0 ≤ x) (h1 : x < 1048576) : shl .i64 x (4 * (d : Int)) = x * 16 ^ d := by
 unfold shl;have hd : d = 0 ∨ d = 1 ∨ d = 2 ∨ d = 3 := by omega
 rcases hd with rfl | rfl | rfl | rfl
 ·rw [show (2 : Int) ^ min (4 * ((0 : Nat) : Int)).toNat IntKind.i64.bits = 1 from by decide]; rw [i64_small _ (by omega) (by omega)]; simp
 ·rw [show (2 : Int) ^ min (4 * ((1 : Nat) : Int)).toNat IntKind.i64.bits = 16 from by decide]; rw [i64_small _ (by omega) (by omega)]; simp
 ·rw [show (2 : Int) ^ min (4 * ((2 : Nat) : Int)).toNat IntKind.i64.bits = 256 from by decide]; rw [i64_small _ (by omega) (by omega)]; simp
 ·rw [show (2 : Int) ^ min (4 * ((3 : Nat) : Int)).toNat IntKind.i64.bits = 4096 from by decide]; rw [i64_small _ (by omega) (by omega)]; simp
def quadS (s : ByteArray) (p lo hi : Int) : Nat → Int → Int → Int × Int
 | 0, n, k => (4, n)
 | d + 1, n, k => if p + k ≥ s.size then (k, 0) else if hexS (bt s (p + k)) < 0 then (k, -1)
  else if (n * 16 + hexS (bt s (p + k)) + 1) * 16 ^ d - 1 < lo then (k, -1) else if (n * 16 + hexS (bt s (p + k))) * 16 ^ d > hi then (k, -1) else quadS s p lo hi d (n * 16 + hexS (bt s (p + k))) (k + 1)
theorem ev_quad (s : ByteArray) {p lo hi : Int} (hp : 0 ≤ p) (hp2 : p ≤ 100000) : ∀ (d : Nat) (n k : Int), 4 - k = d → 0 ≤ k → 0 ≤ n → n < 16 ^ (k.toNat) → Ev (fun f => rj_quad.l0 f s p lo hi n k) (quadS s p lo hi d n k) := by
 intro d;induction d with
 | zero =>
  intro n k hd h0 hn0 hn1;exact Ev.step (fun k => by first | (rw [rj_quad.l0]; done) | (rw [rj_quad.l0]; rfl)) (Ev.neg (by omega) (Ev.now _))
 | succ d ih =>
  intro n k hd h0 hn0 hn1;have hp3 : (16 : Int) ^ k.toNat ≤ 16 ^ 3 := by
   have : 16 ^ k.toNat ≤ 16 ^ 3 := Nat.pow_le_pow_right (by decide) (by omega)
   exact_mod_cast this
  have hn2 : n < 4096 := by omega
  unfold quadS;refine Ev.step (fun k => by first | (rw [rj_quad.l0]; done) | (rw [rj_quad.l0]; rfl)) (Ev.pos (by omega) ?_)
  rw [w64 (x := p + k) (by omega) (by omega), w64 (x := 3 - k) (by omega) (by omega), w64 (x := 4 * (3 - k)) (by omega) (by omega)]
  by_cases c1 : p + k ≥ s.size
  ·refine Ev.pos c1 (Ev.val ?_); rw [if_pos c1]
  rw [if_neg c1];have hb := bt_range s (p + k);have hh := hexS_range (bt s (p + k));refine Ev.neg c1 (Ev.pos (by omega) (Ev.pos (by omega) (Ev.bind (ev_rhex hb.1 hb.2) ?_)))
  unfold hexR;generalize hexS (bt s (p + k)) = h at *;by_cases c2 : h < 0
  ·rw [if_pos c2, if_pos c2]; exact Ev.neg (by simp) (Ev.now _)
  rw [if_neg c2, if_neg c2];refine Ev.pos rfl (Ev.pos (by omega) ?_)
  simp only
  rw [w64 (x := n * 16) (by omega) (by omega), or_join 4 (by decide) (n * 16) h (by omega) (by omega) (by omega) (by omega) (by omega)]
  rw [w64 (x := n * 16 + h + 1) (by omega) (by omega), w64 (x := k + 1) (by omega) (by omega)]
  rw [show 4 * (3 - k) = 4 * (d : Int) by omega, shl_four _ d (by omega) (by omega) (by omega), shl_four _ d (by omega) (by omega) (by omega)]
  have hpow : (16 : Int) ^ d ≤ 4096 ∧ 1 ≤ (16 : Int) ^ d := by
   have hd3 : d = 0 ∨ d = 1 ∨ d = 2 ∨ d = 3 := by omega
   rcases hd3 with rfl | rfl | rfl | rfl <;> decide
  have hm : 0 ≤ (n * 16 + h + 1) * 16 ^ d ∧ (n * 16 + h + 1) * 16 ^ d ≤ 4294967296 := by
   have hd3 : d = 0 ∨ d = 1 ∨ d = 2 ∨ d = 3 := by omega
   rcases hd3 with rfl | rfl | rfl | rfl <;> simp only [Int.pow_zero, Int.reducePow] <;> omega
  rw [w64 (x := (n * 16 + h + 1) * 16 ^ d - 1) (by omega) (by omega)]
  by_cases c3 : (n * 16 + h + 1) * 16 ^ d - 1 < lo
  ·rw [if_pos c3]; exact Ev.pos c3 (Ev.now _)
  rw [if_neg c3]; refine Ev.neg c3 ?_
  by_cases c4 : (n * 16 + h) * 16 ^ d > hi
  ·rw [if_pos c4]; exact Ev.pos c4 (Ev.now _)
  rw [if_neg c4]; refine Ev.neg c4 (ih _ _ (by omega) (by omega) (by omega) ?_)
  rw [show (k + 1).toNat = k.toNat + 1 from by omega, Int.pow_succ]
  omega
/-! both ways to read four digits, written out -/
theorem four_un (u : ByteArray) (low : Bool) : fourS u low =
 if (0 : Int) = u.size then (0, 5) else if fourBad low 0 0 (hexS (bt u 0)) = true then (0, 4)
 else if (1 : Int) = u.size then (0, 5) else if fourBad low 1 (0 * 16 + hexS (bt u 0)) (hexS (bt u 1)) = true then (0, 4)
 else if (2 : Int) = u.size then (0, 5) else if fourBad low 2 ((0 * 16 + hexS (bt u 0)) * 16 + hexS (bt u 1)) (hexS (bt u 2)) = true then (0, 4)
 else if (3 : Int) = u.size then (0, 5) else if fourBad low 3 (((0 * 16 + hexS (bt u 0)) * 16 + hexS (bt u 1)) * 16 + hexS (bt u 2)) (hexS (bt u 3)) = true then (0, 4)
 else ((((0 * 16 + hexS (bt u 0)) * 16 + hexS (bt u 1)) * 16 + hexS (bt u 2)) * 16 + hexS (bt u 3), 0) := rfl
theorem quad_un (s : ByteArray) (p lo hi : Int) : quadS s p lo hi 4 0 0 =
 if p + 0 ≥ s.size then (0, 0) else if hexS (bt s (p + 0)) < 0 then (0, -1) else if (0 * 16 + hexS (bt s (p + 0)) + 1) * 16 ^ 3 - 1 < lo then (0, -1) else if (0 * 16 + hexS (bt s (p + 0))) * 16 ^ 3 > hi then (0, -1)
 else if p + 1 ≥ s.size then (1, 0) else if hexS (bt s (p + 1)) < 0 then (1, -1) else if ((0 * 16 + hexS (bt s (p + 0))) * 16 + hexS (bt s (p + 1)) + 1) * 16 ^ 2 - 1 < lo then (1, -1) else if ((0 * 16 + hexS (bt s (p + 0))) * 16 + hexS (bt s (p + 1))) * 16 ^ 2 > hi then (1, -1)
 else if p + 2 ≥ s.size then (2, 0) else if hexS (bt s (p + 2)) < 0 then (2, -1) else if (((0 * 16 + hexS (bt s (p + 0))) * 16 + hexS (bt s (p + 1))) * 16 + hexS (bt s (p + 2)) + 1) * 16 ^ 1 - 1 < lo then (2, -1) else if (((0 * 16 + hexS (bt s (p + 0))) * 16 + hexS (bt s (p + 1))) * 16 + hexS (bt s (p + 2))) * 16 ^ 1 > hi then (2, -1)
 else if p + 3 ≥ s.size then (3, 0) else if hexS (bt s (p + 3)) < 0 then (3, -1) else if ((((0 * 16 + hexS (bt s (p + 0))) * 16 + hexS (bt s (p + 1))) * 16 + hexS (bt s (p + 2))) * 16 + hexS (bt s (p + 3)) + 1) * 16 ^ 0 - 1 < lo then (3, -1) else if ((((0 * 16 + hexS (bt s (p + 0))) * 16 + hexS (bt s (p + 1))) * 16 + hexS (bt s (p + 2))) * 16 + hexS (bt s (p + 3))) * 16 ^ 0 > hi then (3, -1)
 else (4, (((0 * 16 + hexS (bt s (p + 0))) * 16 + hexS (bt s (p + 1))) * 16 + hexS (bt s (p + 2))) * 16 + hexS (bt s (p + 3))) := rfl
def postH (q : Int × Int) (h0 h1 : Int) : Int × Int :=
 if q.1 < 4 then (if q.2 = 0 then (if q.1 ≥ 2 ∧ h0 = 13 ∧ h1 ≥ 12 then (0, 4) else (0, 5)) else (0, 4)) else if 56320 ≤ q.2 ∧ q.2 ≤ 57343 then (0, 4) else (q.2, 0)
theorem postH_of {q : Int × Int} {h0 h1 a b : Int} (h : (q.1 < 4 ∧ q.2 = 0 ∧ q.1 ≥ 2 ∧ h0 = 13 ∧ h1 ≥ 12 ∧ a = 0 ∧ b = 4) ∨ (q.1 < 4 ∧ q.2 = 0 ∧ ¬ (q.1 ≥ 2 ∧ h0 = 13 ∧ h1 ≥ 12) ∧ a = 0 ∧ b = 5) ∨ (q.1 < 4 ∧ q.2 ≠ 0 ∧ a = 0 ∧ b = 4) ∨ (¬ q.1 < 4 ∧ 56320 ≤ q.2 ∧ q.2 ≤ 57343 ∧ a = 0 ∧ b = 4) ∨ (¬ q.1 < 4 ∧ ¬ (56320 ≤ q.2 ∧ q.2 ≤ 57343) ∧ a = q.2 ∧ b = 0)) : postH q h0 h1 = (a, b) := by
 unfold postH;rcases h with ⟨h1, h2, h3, h4, h5, rfl, rfl⟩ | ⟨h1, h2, h3, rfl, rfl⟩ | ⟨h1, h2, rfl, rfl⟩ | ⟨h1, h2, h3, rfl, rfl⟩ | ⟨h1, h2, rfl, rfl⟩
 ·rw [if_pos h1, if_pos h2, if_pos ⟨h3, h4, h5⟩]
 ·rw [if_pos h1, if_pos h2, if_neg h3]
 ·rw [if_pos h1, if_neg h2]
 ·rw [if_neg h1, if_pos ⟨h2, h3⟩]
 ·rw [if_neg h1, if_neg h2]
theorem bad_high (i r h : Int) : fourBad false i r h = true ↔ h < 0 ∨ (i = 1 ∧ r = 13 ∧ h ≥ 12) := by
 rw [fourBad_iff];by_cases c : h ≥ 12 <;> simp [c]
theorem bad_low (i r h : Int) : fourBad true i r h = true ↔ h < 0 ∨ (i = 0 ∧ h ≠ 13) ∨ (i = 1 ∧ r = 13 ∧ h < 12) := by
 rw [fourBad_iff];by_cases c : h ≥ 12
 ·simp [c]; omega
 ·simp [c]; omega
theorem post_high (s u : ByteArray) {p : Int} (hp : 0 ≤ p) (hz : (u.size : Int) = s.size - p) (hb : ∀ k : Int, 0 ≤ k → k < u.size → bt u k = bt s (p + k)) :
 postH (quadS s p 0 65535 4 0 0) (hexS (bt s (p + 0))) (hexS (bt s (p + 1))) = fourS u false := by
 rw [four_un, quad_un];have r0 := hexS_range (bt s (p + 0));have r1 := hexS_range (bt s (p + 1));have r2 := hexS_range (bt s (p + 2));have r3 := hexS_range (bt s (p + 3));have hb0 : 0 < (u.size : Int) → hexS (bt u 0) = hexS (bt s (p + 0)) := fun h => by rw [hb 0 (by omega) h]
 have hb1 : 1 < (u.size : Int) → hexS (bt u 1) = hexS (bt s (p + 1)) := fun h => by rw [hb 1 (by omega) h]
 have hb2 : 2 < (u.size : Int) → hexS (bt u 2) = hexS (bt s (p + 2)) := fun h => by rw [hb 2 (by omega) h]
 have hb3 : 3 < (u.size : Int) → hexS (bt u 3) = hexS (bt s (p + 3)) := fun h => by rw [hb 3 (by omega) h]
 generalize hexS (bt s (p + 0)) = b0 at *;generalize hexS (bt s (p + 1)) = b1 at *;generalize hexS (bt s (p + 2)) = b2 at *;generalize hexS (bt s (p + 3)) = b3 at *;generalize hexS (bt u 0) = a0 at *;generalize hexS (bt u 1) = a1 at *;generalize hexS (bt u 2) = a2 at *;generalize hexS (bt u 3) = a3 at *;simp only [Int.pow_zero, Int.reducePow];by_cases z0 : p + 0 ≥ s.size
 ·rw [if_pos z0, if_pos (show (0 : Int) = u.size by omega)]; exact postH_of (by simp)
 rw [if_neg z0, if_neg (show ¬ (0 : Int) = u.size by omega)]
 obtain rfl := hb0 (by omega)
 by_cases n0 : a0 < 0
 ·rw [if_pos n0, if_pos (by rw [bad_high]; omega)]; exact postH_of (by simp)
 rw [if_neg n0, if_neg (by omega), if_neg (by omega), if_neg (show ¬ fourBad false 0 0 a0 = true by rw [bad_high]; omega)]
 by_cases z1 : p + 1 ≥ s.size
 ·rw [if_pos z1, if_pos (show (1 : Int) = u.size by omega)]; exact postH_of (by simp)
 rw [if_neg z1, if_neg (show ¬ (1 : Int) = u.size by omega)]
 obtain rfl := hb1 (by omega)
 by_cases n1 : a1 < 0
 ·rw [if_pos n1, if_pos (by rw [bad_high]; omega)]; exact postH_of (by simp)
 rw [if_neg n1, if_neg (by omega), if_neg (by omega)]
 by_cases hd : a0 = 13 ∧ a1 ≥ 12
 ·rw [if_pos (show fourBad false 1 (0 * 16 + a0) a1 = true by rw [bad_high]; omega)]
  refine postH_of ?_
  by_cases z2 : p + 2 ≥ s.size
  ·rw [if_pos z2]; simp; omega
  rw [if_neg z2];by_cases n2 : a2 < 0 ∨ b2 < 0
  ·by_cases n2 : b2 < 0
   ·rw [if_pos n2]; simp
   ·have := hb2 (by omega); omega
  rw [if_neg (by omega), if_neg (by omega), if_neg (by omega)]
  by_cases z3 : p + 3 ≥ s.size
  ·rw [if_pos z3]; simp; omega
  rw [if_neg z3];by_cases n3 : b3 < 0
  ·rw [if_pos n3]; simp
  rw [if_neg n3, if_neg (by omega), if_neg (by omega)]
  right; right; right; left
  exact ⟨by simp, by simp only; omega, by simp only; omega, rfl, rfl⟩
 rw [if_neg (show ¬ fourBad false 1 (0 * 16 + a0) a1 = true by rw [bad_high]; omega)]
 by_cases z2 : p + 2 ≥ s.size
 ·rw [if_pos z2, if_pos (show (2 : Int) = u.size by omega)]; exact postH_of (by simp; omega)
 rw [if_neg z2, if_neg (show ¬ (2 : Int) = u.size by omega)]
 obtain rfl := hb2 (by omega)
 by_cases n2 : a2 < 0
 ·rw [if_pos n2, if_pos (by rw [bad_high]; omega)]; exact postH_of (by simp)
 rw [if_neg n2, if_neg (by omega), if_neg (by omega), if_neg (show ¬ fourBad false 2 ((0 * 16 + a0) * 16 + a1) a2 = true by rw [bad_high]; omega)]
 by_cases z3 : p + 3 ≥ s.size
 ·rw [if_pos z3, if_pos (show (3 : Int) = u.size by omega)]; exact postH_of (by simp; omega)
 rw [if_neg z3, if_neg (show ¬ (3 : Int) = u.size by omega)]
 obtain rfl := hb3 (by omega)
 by_cases n3 : a3 < 0
 ·rw [if_pos n3, if_pos (by rw [bad_high]; omega)]; exact postH_of (by simp)
 rw [if_neg n3, if_neg (by omega), if_neg (by omega), if_neg (show ¬ fourBad false 3 (((0 * 16 + a0) * 16 + a1) * 16 + a2) a3 = true by rw [bad_high]; omega)]
 refine postH_of ?_
 right; right; right; right
 exact ⟨by simp, by simp only; omega, rfl, rfl⟩
def postL (q : Int × Int) : Int × Int := if q.1 < 4 then (if q.2 = 0 then (0, 5) else (0, 4)) else (q.2, 0)
theorem post_low (s u : ByteArray) {p : Int} (hp : 0 ≤ p) (hz : (u.size : Int) = s.size - p) (hb : ∀ k : Int, 0 ≤ k → k < u.size → bt u k = bt s (p + k)) :
 postL (quadS s p 56320 57343 4 0 0) = fourS u true := by
 rw [four_un, quad_un];have r0 := hexS_range (bt s (p + 0));have r1 := hexS_range (bt s (p + 1));have r2 := hexS_range (bt s (p + 2));have r3 := hexS_range (bt s (p + 3));have hb0 : 0 < (u.size : Int) → hexS (bt u 0) = hexS (bt s (p + 0)) := fun h => by rw [hb 0 (by omega) h]
 have hb1 : 1 < (u.size : Int) → hexS (bt u 1) = hexS (bt s (p + 1)) := fun h => by rw [hb 1 (by omega) h]
 have hb2 : 2 < (u.size : Int) → hexS (bt u 2) = hexS (bt s (p + 2)) := fun h => by rw [hb 2 (by omega) h]
 have hb3 : 3 < (u.size : Int) → hexS (bt u 3) = hexS (bt s (p + 3)) := fun h => by rw [hb 3 (by omega) h]
 generalize hexS (bt s (p + 0)) = b0 at *;generalize hexS (bt s (p + 1)) = b1 at *;generalize hexS (bt s (p + 2)) = b2 at *;generalize hexS (bt s (p + 3)) = b3 at *;generalize hexS (bt u 0) = a0 at *;generalize hexS (bt u 1) = a1 at *;generalize hexS (bt u 2) = a2 at *;generalize hexS (bt u 3) = a3 at *;simp only [Int.pow_zero, Int.reducePow];by_cases z0 : p + 0 ≥ s.size
 ·rw [if_pos z0, if_pos (show (0 : Int) = u.size by omega)]; rfl
 rw [if_neg z0, if_neg (show ¬ (0 : Int) = u.size by omega)]
 obtain rfl := hb0 (by omega)
 by_cases n0 : a0 < 0
 ·rw [if_pos n0, if_pos (by rw [bad_low]; omega)]; rfl
 rw [if_neg n0];by_cases m0 : a0 = 13
 case neg =>
  rw [if_pos (show fourBad true 0 0 a0 = true by rw [bad_low]; omega)]
  by_cases l0 : (0 * 16 + a0 + 1) * 4096 - 1 < 56320
  ·rw [if_pos l0]; rfl
  ·rw [if_neg l0, if_pos (by omega)]; rfl
 subst m0;rw [if_neg (by omega), if_neg (by omega), if_neg (show ¬ fourBad true 0 0 13 = true by rw [bad_low]; omega)]
 by_cases z1 : p + 1 ≥ s.size
 ·rw [if_pos z1, if_pos (show (1 : Int) = u.size by omega)]; rfl
 rw [if_neg z1, if_neg (show ¬ (1 : Int) = u.size by omega)]
 obtain rfl := hb1 (by omega)
 by_cases n1 : a1 < 0
 ·rw [if_pos n1, if_pos (by rw [bad_low]; omega)]; rfl
 rw [if_neg n1];by_cases m1 : a1 < 12
 ·rw [if_pos (by omega), if_pos (show fourBad true 1 (0 * 16 + 13) a1 = true by rw [bad_low]; omega)]; rfl
 rw [if_neg (by omega), if_neg (by omega), if_neg (show ¬ fourBad true 1 (0 * 16 + 13) a1 = true by rw [bad_low]; omega)]
 by_cases z2 : p + 2 ≥ s.size
 ·rw [if_pos z2, if_pos (show (2 : Int) = u.size by omega)]; rfl
 rw [if_neg z2, if_neg (show ¬ (2 : Int) = u.size by omega)]
 obtain rfl := hb2 (by omega)
 by_cases n2 : a2 < 0
 ·rw [if_pos n2, if_pos (by rw [bad_low]; omega)]; rfl
 rw [if_neg n2, if_neg (by omega), if_neg (by omega), if_neg (show ¬ fourBad true 2 ((0 * 16 + 13) * 16 + a1) a2 = true by rw [bad_low]; omega)]
 by_cases z3 : p + 3 ≥ s.size
 ·rw [if_pos z3, if_pos (show (3 : Int) = u.size by omega)]; rfl
 rw [if_neg z3, if_neg (show ¬ (3 : Int) = u.size by omega)]
 obtain rfl := hb3 (by omega)
 by_cases n3 : a3 < 0
 ·rw [if_pos n3, if_pos (by rw [bad_low]; omega)]; rfl
 rw [if_neg n3, if_neg (by omega), if_neg (by omega), if_neg (show ¬ fourBad true 3 (((0 * 16 + 13) * 16 + a1) * 16 + a2) a3 = true by rw [bad_low]; omega)]
 rfl
/-! the element behind a backslash, as the reference tells it -/
def refE (e : Int × Int × Int) : Int × Int := if e.2.2 = 5 then (0, 0) else if e.2.2 = 0 then (e.1, e.2.1) else (0, -1)
theorem ev_quadF (s : ByteArray) {p lo hi : Int} (hp : 0 ≤ p) (hp2 : p ≤ 100000) : Ev (fun f => rj_quad.f f s p lo hi) (quadS s p lo hi 4 0 0) :=
 ev_quad s hp hp2 4 0 0 (by omega) (by omega) (by omega) (by decide)
theorem quadS_k (s : ByteArray) (p lo hi : Int) : ∀ (d : Nat) (n k : Int), 4 - k = d → 0 ≤ k → ((quadS s p lo hi d n k).1 < 4 → p + (quadS s p lo hi d n k).1 ≤ s.size ∨ (quadS s p lo hi d n k).1 = k) ∧ ((quadS s p lo hi d n k).1 < 4 → (quadS s p lo hi d n k).2 = 0 ∨ (quadS s p lo hi d n k).2 = -1) := by
 intro d;induction d with
 | zero => intro n k hd h0; simp only [quadS]; exact ⟨fun h => absurd h (by decide), fun h => absurd h (by decide)⟩
 | succ d ih =>
  intro n k hd h0;unfold quadS;by_cases c1 : p + k ≥ s.size
  ·rw [if_pos c1]; exact ⟨fun _ => .inr rfl, fun _ => .inl rfl⟩
  rw [if_neg c1];by_cases c2 : hexS (bt s (p + k)) < 0
  ·rw [if_pos c2]; exact ⟨fun _ => .inr rfl, fun _ => .inr rfl⟩
  rw [if_neg c2];by_cases c3 : (n * 16 + hexS (bt s (p + k)) + 1) * 16 ^ d - 1 < lo
  ·rw [if_pos c3]; exact ⟨fun _ => .inr rfl, fun _ => .inr rfl⟩
  rw [if_neg c3];by_cases c4 : (n * 16 + hexS (bt s (p + k))) * 16 ^ d > hi
  ·rw [if_pos c4]; exact ⟨fun _ => .inr rfl, fun _ => .inr rfl⟩
  rw [if_neg c4];have := ih (n * 16 + hexS (bt s (p + k))) (k + 1) (by omega) (by omega)
  refine ⟨fun h => ?_, this.2⟩
  rcases this.1 h with h2 | h2
  ·exact .inl h2
  ·left; omega
/-- Behind a high number: the second element. -/
theorem ev_rlow (s : ByteArray) (hs : s.size ≤ 8192) {i : Int} (x : Int) (h0 : 0 ≤ i) (h6 : i + 6 ≤ s.size) (hx0 : 55296 ≤ x) (hx1 : x ≤ 56319) :
 Ev (fun k => rj_unicode.l0 k s i x 0) (refE (lowS (s.extract i.toNat s.size) x)) := by
 have hz : ((s.extract i.toNat s.size).size : Int) = s.size - i := by rw [ByteArray.size_extract]; omega
 have hb : ∀ j : Int, 0 ≤ j → j < s.size - i → bt (s.extract i.toNat s.size) j = bt s (i + j) := fun j a b => by
  have := bt_extract s (a := i) (b := s.size) (j := j) h0 (by omega) (by omega) a (by omega)
  rwa [show ((s.size : Int)).toNat = s.size by omega] at this
 generalize ht : s.extract i.toNat s.size = t at *;have q0 : bt (⟨#[92, 117]⟩ : ByteArray) 0 = 92 := by decide
 have q1 : bt (⟨#[92, 117]⟩ : ByteArray) 1 = 117 := by decide
 unfold lowS;refine Ev.step (fun k => by first | (rw [rj_unicode.l0]; done) | (rw [rj_unicode.l0]; rfl)) (Ev.pos (by omega) ?_)
 rw [w64 (x := i + 6) (by omega) (by omega), w64 (x := i + 6 + 0) (by omega) (by omega), q0, Int.add_zero]
 by_cases z6 : t.size = 6
 ·refine Ev.pos (by omega) (Ev.val ?_); rw [if_pos z6]; rfl
 rw [if_neg z6];refine Ev.neg (by omega) (Ev.pos (by omega) (Ev.pos (by omega) (Ev.pos (by omega) ?_)))
 rw [← hb 6 (by omega) (by omega)]
 by_cases b6 : bt t 6 ≠ 92
 ·refine Ev.neg b6 (Ev.val ?_); rw [if_pos b6]; rfl
 rw [if_neg b6];refine Ev.pos (by simpa using b6) ?_
 rw [show wrap64 (0 + 1) = 1 from w64 (by decide) (by decide)]
 refine Ev.step (fun k => by first | (rw [rj_unicode.l0]; done) | (rw [rj_unicode.l0]; rfl)) (Ev.pos (by omega) ?_)
 rw [w64 (x := i + 6) (by omega) (by omega), w64 (x := i + 6 + 1) (by omega) (by omega), q1, show i + 6 + 1 = i + 7 by omega]
 by_cases z7 : t.size = 7
 ·refine Ev.pos (by omega) (Ev.val ?_); rw [if_pos z7]; rfl
 rw [if_neg z7];refine Ev.neg (by omega) (Ev.pos (by omega) (Ev.pos (by omega) (Ev.pos (by omega) ?_)))
 rw [← hb 7 (by omega) (by omega)]
 by_cases b7 : bt t 7 ≠ 117
 ·refine Ev.neg b7 (Ev.val ?_); rw [if_pos b7]; rfl
 rw [if_neg b7];refine Ev.pos (by simpa using b7) ?_
 rw [show wrap64 (1 + 1) = 2 from w64 (by decide) (by decide)]
 refine Ev.step (fun k => by first | (rw [rj_unicode.l0]; done) | (rw [rj_unicode.l0]; rfl)) (Ev.neg (by omega) ?_)
 rw [w64 (x := i + 8) (by omega) (by omega)]
 refine Ev.bind (ev_quadF s (by omega) (by omega)) ?_
 have hu : ((t.extract 8 t.size).size : Int) = s.size - (i + 8) := by rw [ByteArray.size_extract]; omega
 have hp := post_low s (t.extract 8 t.size) (p := i + 8) (by omega) hu (fun j a b => by
  have := bt_extract t (a := 8) (b := t.size) (j := j) (by omega) (by omega) (by omega) a (by omega)
  rw [show ((t.size : Int)).toNat = t.size by omega, show (8 : Int).toNat = 8 from rfl] at this
  rw [this, hb (8 + j) (by omega) (by omega), Int.add_assoc])
 have hr := fourS_range (t.extract 8 t.size) true;have hk := quadS_k s (i + 8) 56320 57343 4 0 0 (by omega) (by omega)
 rw [← hp] at hr ⊢;generalize quadS s (i + 8) 56320 57343 4 0 0 = q at *;obtain ⟨q1, q2⟩ := q;simp only at hk;by_cases c : q1 < 4
 ·refine Ev.pos c (Ev.val ?_)
  rcases hk.2 c with c2 | c2
  ·rw [show postL (q1, q2) = (0, 5) by unfold postL; simp only; rw [if_pos c, if_pos c2], c2]; rfl
  ·rw [show postL (q1, q2) = (0, 4) by unfold postL; simp only; rw [if_pos c, if_neg (by omega)], c2]; rfl
 ·rw [show postL (q1, q2) = (q2, 0) by unfold postL; simp only; rw [if_neg c]] at hr ⊢
  have h2 := hr.2 rfl;have h3 := h2.2.2.1 rfl;simp only at h3;refine Ev.neg c (Ev.val ?_)
  simp only
  rw [w64 (x := x - 55296) (by omega) (by omega), w64 (x := (x - 55296) * 1024) (by omega) (by omega), w64 (x := 65536 + (x - 55296) * 1024) (by omega) (by omega), w64 (x := q2 - 56320) (by omega) (by omega), w64 (by omega) (by omega)]
  unfold refE;simp only [if_true];rw [if_neg (by decide)]
  congr 1; omega
theorem ev_runi (s : ByteArray) (hs : s.size ≤ 8192) {i : Int} (h0 : 0 ≤ i) (h2 : i + 2 ≤ s.size) :
 Ev (fun k => rj_unicode.f k s i) (refE (uniS (s.extract i.toNat s.size))) := by
 have hlow := fun x hx0 hx1 h6 => ev_rlow s hs (i := i) x h0 h6 hx0 hx1
 have hz : ((s.extract i.toNat s.size).size : Int) = s.size - i := by rw [ByteArray.size_extract]; omega
 have hb : ∀ j : Int, 0 ≤ j → j < s.size - i → bt (s.extract i.toNat s.size) j = bt s (i + j) := fun j a b => by
  have := bt_extract s (a := i) (b := s.size) (j := j) h0 (by omega) (by omega) a (by omega)
  rwa [show ((s.size : Int)).toNat = s.size by omega] at this
 generalize ht : s.extract i.toNat s.size = t at *;have hu : ((t.extract 2 t.size).size : Int) = s.size - (i + 2) := by rw [ByteArray.size_extract]; omega
 have hp := post_high s (t.extract 2 t.size) (p := i + 2) (by omega) hu (fun j a b => by
  have := bt_extract t (a := 2) (b := t.size) (j := j) (by omega) (by omega) (by omega) a (by omega)
  rw [show ((t.size : Int)).toNat = t.size by omega, show (2 : Int).toNat = 2 from rfl] at this
  rw [this, hb (2 + j) (by omega) (by omega), Int.add_assoc])
 have hr := fourS_range (t.extract 2 t.size) false;have hk := quadS_k s (i + 2) 0 65535 4 0 0 (by omega) (by omega)
 have hsz := fourD_size (t.extract 2 t.size) false 4 0 0 rfl (by omega) (by omega)
 unfold uniS;unfold rj_unicode.f;rw [w64 (x := i + 2) (by omega) (by omega)]
 refine Ev.bind (ev_quadF s (by omega) (by omega)) ?_
 have hfs : fourD (t.extract 2 t.size) false 4 0 0 = fourS (t.extract 2 t.size) false := rfl;rw [hfs, ← hp] at hsz;rw [← hp] at hr ⊢;generalize quadS s (i + 2) 0 65535 4 0 0 = q at *;obtain ⟨q1, q2⟩ := q;simp only at hk ⊢;generalize hA : hexS (bt s (i + 2 + 0)) = A at *;generalize hB : hexS (bt s (i + 2 + 1)) = B at *
 have j1 : (q1 < 4 → ¬ (q2 = 0 ∧ q1 ≥ 2 ∧ A = 13 ∧ B ≥ 12)) → Ev (fun k => rj_unicode.j1 k s i q1 q2) (refE (if (postH (q1, q2) A B).2 = 0 then (if (postH (q1, q2) A B).1 < 55296 then ((postH (q1, q2) A B).1, 6, 0) else if (postH (q1, q2) A B).1 ≥ 57344 then ((postH (q1, q2) A B).1, 6, 0) else lowS t (postH (q1, q2) A B).1) else (0, 0, (postH (q1, q2) A B).2))) := by
  intro hnot;refine Ev.step (fun k => by first | (rw [rj_unicode.j1]; done) | (rw [rj_unicode.j1]; rfl)) ?_
  by_cases c : q1 < 4
  ·refine Ev.pos c (Ev.val ?_)
   have hn := hnot c;rcases hk.2 c with c2 | c2
   ·rw [show postH (q1, q2) A B = (0, 5) by unfold postH; simp only; rw [if_pos c, if_pos c2, if_neg (fun h => hn ⟨c2, h⟩)], c2]; rfl
   ·rw [show postH (q1, q2) A B = (0, 4) by unfold postH; simp only; rw [if_pos c, if_neg (by omega)], c2]; rfl
  ·refine Ev.neg c ?_
   have j2 : ∀ b : Bool, b = decide (q2 < 55296 ∨ q2 > 57343) → Ev (fun k => rj_unicode.j2 k s i q2 b) (refE (if (postH (q1, q2) A B).2 = 0 then (if (postH (q1, q2) A B).1 < 55296 then ((postH (q1, q2) A B).1, 6, 0) else if (postH (q1, q2) A B).1 ≥ 57344 then ((postH (q1, q2) A B).1, 6, 0) else lowS t (postH (q1, q2) A B).1) else (0, 0, (postH (q1, q2) A B).2))) := by
    intro b hbb;refine Ev.step (fun k => by first | (rw [rj_unicode.j2]; done) | (rw [rj_unicode.j2]; rfl)) ?_
    by_cases d : q2 < 55296 ∨ q2 > 57343
    ·refine Ev.pos (by rw [hbb]; exact decide_eq_true d) (Ev.val ?_)
     rw [show postH (q1, q2) A B = (q2, 0) by unfold postH; simp only; rw [if_neg c, if_neg (by omega)]]
     simp only
     by_cases d2 : q2 < 55296
     ·rw [if_pos trivial, if_pos d2]; rfl
     ·rw [if_pos trivial, if_neg d2, if_pos (by omega)]; rfl
    ·refine Ev.neg (by rw [hbb, decide_eq_false d]; simp) ?_
     by_cases e : q2 > 56319
     ·refine Ev.pos e (Ev.val ?_)
      rw [show postH (q1, q2) A B = (0, 4) by unfold postH; simp only; rw [if_neg c, if_pos (by omega)]]; rfl
     ·rw [show postH (q1, q2) A B = (q2, 0) by unfold postH; simp only; rw [if_neg c, if_neg (by omega)]] at hsz ⊢
      have h4 := hsz rfl;refine Ev.neg e ?_
      simp only
      rw [if_pos trivial, if_neg (by omega), if_neg (by omega)]
      exact hlow q2 (by omega) (by omega) (by omega)
   by_cases d : q2 < 55296
   ·exact Ev.pos d (j2 _ (by rw [eq_comm, decide_eq_true_iff]; exact .inl d))
   ·exact Ev.neg d (j2 _ (by rw [Bool.eq_iff_iff, decide_eq_true_iff, decide_eq_true_iff]; omega))
 by_cases c : q1 < 4
 ·refine Ev.pos c ?_
  rcases hk.2 c with c2 | c2
  case inr =>
   refine Ev.neg (by omega) (Ev.step (fun k => by first | (rw [rj_unicode.j0]; done) | (rw [rj_unicode.j0]; rfl)) (Ev.neg (by simp) (j1 (fun _ h => by omega))))
  refine Ev.pos c2 ?_
  by_cases c3 : q1 ≥ 2
  case neg =>
   rw [decide_eq_false c3];exact Ev.step (fun k => by first | (rw [rj_unicode.j0]; done) | (rw [rj_unicode.j0]; rfl)) (Ev.neg (by simp) (j1 (fun _ h => by omega)))
  rw [decide_eq_true c3];have h4 : i + 4 ≤ s.size := by rcases hk.1 c with h | h <;> omega
  refine Ev.step (fun k => by first | (rw [rj_unicode.j0]; done) | (rw [rj_unicode.j0]; rfl)) (Ev.pos rfl ?_)
  rw [w64 (x := i + 2) (by omega) (by omega), w64 (x := i + 3) (by omega) (by omega)]
  have r0 := bt_range s (i + 2);have r1 := bt_range s (i + 3);refine Ev.pos (by omega) (Ev.pos (by omega) (Ev.bind (ev_rhex r0.1 r0.2) (Ev.pos (by omega) (Ev.pos (by omega) (Ev.bind (ev_rhex r1.1 r1.2) ?_)))))
  rw [show i + 2 + 0 = i + 2 by omega] at hA
  rw [show i + 2 + 1 = i + 3 by omega] at hB
  unfold hexR;rw [hA, hB];have e13 : ((if A < 0 then ((0 : Int), false) else (A, true)).1 = 13) ↔ A = 13 := by by_cases h : A < 0 <;> simp [h]; omega
  have e12 : ((if B < 0 then ((0 : Int), false) else (B, true)).1 ≥ 12) ↔ B ≥ 12 := by by_cases h : B < 0 <;> simp [h]; omega
  by_cases d : A = 13
  ·refine Ev.pos (e13.2 d) ?_
   by_cases e : B ≥ 12
   ·refine Ev.pos (e12.2 e) (Ev.val ?_)
    rw [show postH (q1, q2) A B = (0, 4) by unfold postH; simp only; rw [if_pos c, if_pos c2, if_pos ⟨c3, d, e⟩]]; rfl
   ·exact Ev.neg (fun h => e (e12.1 h)) (j1 (fun _ h => by omega))
  ·exact Ev.neg (fun h => d (e13.1 h)) (j1 (fun _ h => by omega))
 ·refine Ev.neg c (Ev.step (fun k => by first | (rw [rj_unicode.j0]; done) | (rw [rj_unicode.j0]; rfl)) (Ev.neg (by simp) (j1 (fun h => absurd h c))))
theorem ev_rescape (s : ByteArray) (hs : s.size ≤ 8192) {i : Int} (h0 : 0 ≤ i) (h1 : i < s.size) : Ev (fun k => rj_escape.f k s i) (refE (escS (s.extract i.toNat s.size))) := by
 have hz : ((s.extract i.toNat s.size).size : Int) = s.size - i := by rw [ByteArray.size_extract]; omega
 have huni := fun h2 => ev_runi s hs (i := i) h0 h2
 have hb : ∀ j : Int, 0 ≤ j → j < s.size - i → bt (s.extract i.toNat s.size) j = bt s (i + j) := fun j a b => by
  have := bt_extract s (a := i) (b := s.size) (j := j) h0 (by omega) (by omega) a (by omega)
  rwa [show ((s.size : Int)).toNat = s.size by omega] at this
 generalize ht : s.extract i.toNat s.size = t at *;unfold rj_escape.f escS;refine Ev.neg (by omega) (Ev.neg (by omega) ?_)
 by_cases a : t.size < 2
 ·refine Ev.pos (by omega) (Ev.val ?_); rw [if_pos a]; rfl
 rw [if_neg a];refine Ev.neg (by omega) ?_
 rw [← hb 1 (by omega) (by omega)]
 by_cases c1 : bt t 1 = 34
 ·refine Ev.pos c1 (Ev.val ?_); rw [if_pos c1]; rfl
 rw [if_neg c1]; refine Ev.neg c1 ?_
 by_cases c2 : bt t 1 = 92
 ·refine Ev.pos c2 (Ev.val ?_); rw [if_pos c2]; rfl
 rw [if_neg c2]; refine Ev.neg c2 ?_
 by_cases c3 : bt t 1 = 47
 ·refine Ev.pos c3 (Ev.val ?_); rw [if_pos c3]; rfl
 rw [if_neg c3]; refine Ev.neg c3 ?_
 by_cases c4 : bt t 1 = 98
 ·refine Ev.pos c4 (Ev.val ?_); rw [if_pos c4]; rfl
 rw [if_neg c4]; refine Ev.neg c4 ?_
 by_cases c5 : bt t 1 = 102
 ·refine Ev.pos c5 (Ev.val ?_); rw [if_pos c5]; rfl
 rw [if_neg c5]; refine Ev.neg c5 ?_
 by_cases c6 : bt t 1 = 110
 ·refine Ev.pos c6 (Ev.val ?_); rw [if_pos c6]; rfl
 rw [if_neg c6]; refine Ev.neg c6 ?_
 by_cases c7 : bt t 1 = 114
 ·refine Ev.pos c7 (Ev.val ?_); rw [if_pos c7]; rfl
 rw [if_neg c7]; refine Ev.neg c7 ?_
 by_cases c8 : bt t 1 = 116
 ·refine Ev.pos c8 (Ev.val ?_); rw [if_pos c8]; rfl
 rw [if_neg c8]; refine Ev.neg c8 ?_
 by_cases c9 : bt t 1 = 117
 ·rw [if_pos c9]; exact Ev.pos c9 (huni (by omega))
 ·refine Ev.neg c9 (Ev.val ?_); rw [if_neg c9]; rfl
end Go.Proofs.YtdhdpidjdadamaaDoor.Q
