/- Plain words on escapes, UTF-8 and strings: what jsonlex.four, escape, text, utf.Decode and utf.Append come to. No program and no memory here. -/
import Derived.Test.YtdhdpidjdadamaaDoorQBase
namespace Go.Proofs.YtdhdpidjdadamaaDoor.Q
open Go.RowKit Go.Proofs.YtdhdpidjdadamaaDoorW.PrintWords Go.Proofs.YtdhdpidjdadamaaDoorW.PrintLast Go.Proofs.YtdhdpidjdadamaaDoor.PX
set_option linter.unusedVariables false
set_option linter.unusedSimpArgs false
/-! bits -/
theorem i64_small (n : Int) (h0 : 0 ≤ n) (h1 : n < 2 ^ 62) : IntKind.i64.wrap n = n := by rw [IntKind.wrap_i64]; omega
theorem u8_small (n : Int) (h0 : 0 ≤ n) (h1 : n < 2 ^ 8) : IntKind.u8.wrap n = n := by rw [IntKind.wrap_u8]; omega
theorem or_join (i : Nat) (hi : i ≤ 62) (x y : Int) (hx0 : 0 ≤ x) (hx : x % 2 ^ i = 0) (hx1 : x < 2 ^ 62) (hy0 : 0 ≤ y) (hy : y < 2 ^ i) : Go.bits .or .i64 x y = x + y := by
 refine bits_join .i64 62 (by decide) i64_small i x y hx0 hx hx1 hy0 hy ?_
 have : (2 : Int) ^ i ≤ 2 ^ 62 := by exact_mod_cast Nat.pow_le_pow_right (by decide) hi
 omega
theorem and_mask (i : Nat) (hi : i ≤ 62) (x : Int) (h0 : 0 ≤ x) (h1 : x < 2 ^ 62) : Go.bits .and .i64 x (2 ^ i - 1) = x % 2 ^ i :=
 bits_mask .i64 62 (by decide) i64_small i hi x h0 h1
theorem and_63 (x : Int) (h0 : 0 ≤ x) (h1 : x < 2 ^ 62) : Go.bits .and .i64 x 63 = x % 64 := and_mask 6 (by decide) x h0 h1
theorem and_31 (x : Int) (h0 : 0 ≤ x) (h1 : x < 2 ^ 62) : Go.bits .and .i64 x 31 = x % 32 := and_mask 5 (by decide) x h0 h1
theorem and_15 (x : Int) (h0 : 0 ≤ x) (h1 : x < 2 ^ 62) : Go.bits .and .i64 x 15 = x % 16 := and_mask 4 (by decide) x h0 h1
theorem and_7 (x : Int) (h0 : 0 ≤ x) (h1 : x < 2 ^ 62) : Go.bits .and .i64 x 7 = x % 8 := and_mask 3 (by decide) x h0 h1
theorem and8_63 (x : Int) (h0 : 0 ≤ x) (h1 : x < 2 ^ 8) : Go.bits .and .u8 x 63 = x % 64 := bits_mask .u8 8 (by decide) u8_small 6 (by decide) x h0 h1
theorem and8_192 : ∀ x : Int, 0 ≤ x → x ≤ 255 → Go.bits .and .u8 x 192 = x / 64 * 64 := by
 intro x h0 h1;obtain ⟨n, rfl⟩ := Int.eq_ofNat_of_zero_le h0;have : ∀ n : Nat, n < 256 → Go.bits .and .u8 (n : Int) 192 = (n : Int) / 64 * 64 := by decide +kernel
 exact this n (by omega)
/-! hexadecimal digits -/
def hexS (c : Int) : Int := if 48 ≤ c ∧ c ≤ 57 then c - 48 else if 97 ≤ c ∧ c ≤ 102 then c - 87 else if 65 ≤ c ∧ c ≤ 70 then c - 55 else -1
theorem hexS_range (c : Int) : -1 ≤ hexS c ∧ hexS c ≤ 15 := by unfold hexS; repeat' split <;> omega
theorem ev_hex {c : Int} (h0 : 0 ≤ c) (h1 : c ≤ 255) : Ev (fun k => jx_hex.f k c) (hexS c) := by
 unfold jx_hex.f;refine Ev.pbind (jdigit_f c) ?_
 by_cases hd : digitB c = true
 ·refine Ev.pos hd (Ev.val ?_)
  unfold digitB at hd; unfold hexS;rw [if_pos (by simpa using hd)]
  have := of_decide_eq_true hd; omega
 ·have hd' : ¬ (48 ≤ c ∧ c ≤ 57) := by unfold digitB at hd; simpa using hd
  refine Ev.neg hd ?_
  have key : ∀ b : Bool, b = decide (97 ≤ c ∧ c ≤ 102) → Ev (fun k => jx_hex.j0 k c b) (hexS c) := by
   intro b hb;refine Ev.step (fun k => by rw [jx_hex.j0]) ?_
   unfold hexS;rw [if_neg hd'];by_cases h : 97 ≤ c ∧ c ≤ 102
   ·rw [if_pos h];refine Ev.pos (by rw [hb]; simpa using h) (Ev.val (by omega))
   ·rw [if_neg h];refine Ev.neg (by rw [hb]; simpa using h) ?_
    by_cases h6 : c ≥ 65
    ·refine Ev.pos h6 ?_
     by_cases h7 : c ≤ 70
     ·rw [if_pos (show 65 ≤ c ∧ c ≤ 70 from ⟨h6, h7⟩)]; exact Ev.pos h7 (Ev.val (by omega))
     ·rw [if_neg (show ¬ (65 ≤ c ∧ c ≤ 70) by omega)]; exact Ev.neg h7 (Ev.now _)
    ·rw [if_neg (show ¬ (65 ≤ c ∧ c ≤ 70) by omega)]; exact Ev.neg h6 (Ev.now _)
  by_cases h9 : c ≥ 97
  ·refine Ev.pos h9 (key _ ?_)
   rw [Bool.eq_iff_iff, decide_eq_true_iff, decide_eq_true_iff]; omega
  ·refine Ev.neg h9 (key _ ?_)
   rw [eq_comm, decide_eq_false_iff_not]; omega
/-! four hexadecimal digits -/
def fourBad (low : Bool) (i r h : Int) : Bool := decide (h < 0 ∨ (low = true ∧ i = 0 ∧ h ≠ 13) ∨ (i = 1 ∧ r = 13 ∧ (low != decide (h ≥ 12)) = true))
theorem fourBad_iff (low : Bool) (i r h : Int) : fourBad low i r h = true ↔ (h < 0 ∨ (low = true ∧ i = 0 ∧ h ≠ 13) ∨ (i = 1 ∧ r = 13 ∧ (low != decide (h ≥ 12)) = true)) := by unfold fourBad; rw [decide_eq_true_iff]
def fourD (t : ByteArray) (low : Bool) : Nat → Int → Int → Int × Int
 | 0, r, _ => (r, 0)
 | d + 1, r, i => if i = t.size then (0, 5) else if fourBad low i r (hexS (bt t i)) = true then (0, 4) else fourD t low d (r * 16 + hexS (bt t i)) (i + 1)
def fourS (t : ByteArray) (low : Bool) : Int × Int := fourD t low 4 0 0
theorem four_if {α : Type} (low : Bool) (i r h : Int) (A B : α) :
 (if h < 0 then A else if low = true then (if i = 0 then (if h = 13 then (if i = 1 then (if r = 13 then (if (low != decide (h ≥ 12)) = true then A else B) else B) else B) else A) else (if i = 1 then (if r = 13 then (if (low != decide (h ≥ 12)) = true then A else B) else B) else B)) else (if i = 1 then (if r = 13 then (if (low != decide (h ≥ 12)) = true then A else B) else B) else B)) = if fourBad low i r h = true then A else B := by
 unfold fourBad;by_cases a : h < 0
 ·rw [if_pos a, if_pos (decide_eq_true (Or.inl a))]
 rw [if_neg a];cases low with
 | true =>
  by_cases b : i = 0
  ·subst b;by_cases c : h = 13
   ·simp [c]
   ·simp [c]
  ·by_cases c : i = 1
   ·subst c;by_cases d : r = 13 <;> by_cases e : h ≥ 12 <;> simp [a, d, e]
   ·simp [a, b, c]
 | false =>
  by_cases c : i = 1
  ·subst c;by_cases d : r = 13 <;> by_cases e : h ≥ 12 <;> simp [a, d, e]
  ·simp [a, c]
theorem ev_four (t : ByteArray) (low : Bool) : ∀ (d : Nat) (r i : Int), 4 - i = d → 0 ≤ i → i ≤ t.size → 0 ≤ r → r < 16 ^ (i.toNat) → Ev (fun k => jx_four.l0 k t low r i) (fourD t low d r i) := by
 intro d;induction d with
 | zero =>
  intro r i hd h0 h1 hr0 hr1;refine Ev.step (fun k => by first | (rw [jx_four.l0]; done) | (rw [jx_four.l0]; rfl)) (Ev.neg (by omega) (Ev.now _))
 | succ d ih =>
  intro r i hd h0 h1 hr0 hr1;have hp : (16 : Int) ^ i.toNat ≤ 16 ^ 3 := by
   have : 16 ^ i.toNat ≤ 16 ^ 3 := Nat.pow_le_pow_right (by decide) (by omega)
   exact_mod_cast this
  have hr2 : r < 4096 := by omega
  unfold fourD;refine Ev.step (fun k => by first | (rw [jx_four.l0]; done) | (rw [jx_four.l0]; rfl)) (Ev.pos (by omega) ?_)
  by_cases hs : i = t.size
  ·rw [if_pos hs]; exact Ev.pos hs (Ev.now _)
  ·rw [if_neg hs];have hb := bt_range t i;refine Ev.neg hs (Ev.pos h0 (Ev.pos (by omega) (Ev.bind (ev_hex hb.1 hb.2) ?_)))
   have hh := hexS_range (bt t i);generalize hexS (bt t i) = h at *;refine Ev.congr (fun k => four_if low i r h (some (0, 4)) (jx_four.l0 k t low (Go.bits .or .i64 (wrap64 (r * 16)) h) (wrap64 (i + 1)))) ?_
   by_cases hbad : fourBad low i r h = true
   ·rw [if_pos hbad]; exact Ev.pos hbad (Ev.now _)
   ·rw [if_neg hbad];have h0h : 0 ≤ h := by rw [fourBad_iff] at hbad; omega
    refine Ev.neg hbad ?_
    rw [w64 (x := r * 16) (by omega) (by omega), w64 (x := i + 1) (by omega) (by omega), or_join 4 (by decide) (r * 16) h (by omega) (by omega) (by omega) h0h (by omega)]
    refine ih (r * 16 + h) (i + 1) (by omega) (by omega) (by omega) (by omega) ?_
    rw [show (i + 1).toNat = i.toNat + 1 from by omega, Int.pow_succ]
    omega
theorem ev_fourS (t : ByteArray) (low : Bool) : Ev (fun k => jx_four.f k t low) (fourS t low) :=
 ev_four t low 4 0 0 rfl (by omega) (by omega) (by omega) (by decide)
/-- What four digits are, if all is well. -/
theorem fourD_range (t : ByteArray) (low : Bool) : ∀ (d : Nat) (r i : Int), 4 - i = d → 0 ≤ i → 0 ≤ r → r < 16 ^ i.toNat →
 (2 ≤ i → (low = true → 0xDC ≤ r / 16 ^ (i.toNat - 2) ∧ r / 16 ^ (i.toNat - 2) ≤ 0xDF) ∧ (low = false → r / 16 ^ (i.toNat - 2) < 0xDC ∨ 0xE0 ≤ r / 16 ^ (i.toNat - 2))) → (i = 1 → low = true → r = 13) →
 ((fourD t low d r i).2 = 0 ∨ (fourD t low d r i).2 = 4 ∨ (fourD t low d r i).2 = 5) ∧ ((fourD t low d r i).2 = 0 → 0 ≤ (fourD t low d r i).1 ∧ (fourD t low d r i).1 ≤ 0xFFFF ∧ (low = true → 0xDC00 ≤ (fourD t low d r i).1 ∧ (fourD t low d r i).1 ≤ 0xDFFF) ∧ (low = false → (fourD t low d r i).1 < 0xDC00 ∨ 0xE000 ≤ (fourD t low d r i).1)) := by
 intro d;induction d with
 | zero =>
  intro r i hd h0 hr0 hr1 h2 h1;have : i = 4 := by omega
  subst this;simp only [fourD];simp at h2 hr1
  refine ⟨Or.inl trivial, fun _ => ⟨hr0, by omega, fun hl => ?_, fun hl => ?_⟩⟩
  ·have := h2.1 hl; omega
  ·have := h2.2 hl; omega
 | succ d ih =>
  intro r i hd h0 hr0 hr1 h2 h1;unfold fourD;by_cases hs : i = t.size
  ·rw [if_pos hs]; exact ⟨.inr (.inr rfl), fun h => by simp at h⟩
  ·rw [if_neg hs];have hh := hexS_range (bt t i);generalize hexS (bt t i) = h at *;by_cases hbad : fourBad low i r h = true
   ·rw [if_pos hbad]; exact ⟨.inr (.inl rfl), fun h => by simp at h⟩
   ·rw [if_neg hbad];rw [fourBad_iff] at hbad;have h0h : 0 ≤ h := by omega
    have hi : i = 0 ∨ i = 1 ∨ i = 2 ∨ i = 3 := by omega
    refine ih (r * 16 + h) (i + 1) (by omega) (by omega) (by omega) ?_ ?_ ?_
    ·rcases hi with rfl | rfl | rfl | rfl <;> simp at hr1 ⊢ <;> omega
    ·intro h3;rcases hi with rfl | rfl | rfl | rfl
     ·omega
     ·simp at hr1 hbad ⊢
      have hb2 := hbad.2;cases low <;> simp_all <;> omega
     ·simp at hr1 h2 ⊢
      refine ⟨fun hl => ?_, fun hl => ?_⟩
      ·have := h2.1 hl; omega
      ·have := h2.2 hl; omega
     ·simp at hr1 h2 ⊢
      refine ⟨fun hl => ?_, fun hl => ?_⟩
      ·have := h2.1 hl; omega
      ·have := h2.2 hl; omega
    ·intro h3 hl;have : i = 0 := by omega
     subst this;simp at hr1
     have : h = 13 := by
      rcases Int.lt_trichotomy h 13 with a | a | a
      ·exact absurd (Or.inr (Or.inl ⟨hl, rfl, by omega⟩)) hbad
      ·exact a
      ·exact absurd (Or.inr (Or.inl ⟨hl, rfl, by omega⟩)) hbad
     omega
theorem fourS_range (t : ByteArray) (low : Bool) : ((fourS t low).2 = 0 ∨ (fourS t low).2 = 4 ∨ (fourS t low).2 = 5) ∧ ((fourS t low).2 = 0 → 0 ≤ (fourS t low).1 ∧ (fourS t low).1 ≤ 0xFFFF ∧ (low = true → 0xDC00 ≤ (fourS t low).1 ∧ (fourS t low).1 ≤ 0xDFFF) ∧ (low = false → (fourS t low).1 < 0xDC00 ∨ 0xE000 ≤ (fourS t low).1)) :=
 fourD_range t low 4 0 0 rfl (by omega) (by omega) (by decide) (fun h => by omega) (fun h => by omega)
theorem fourD_size (t : ByteArray) (low : Bool) : ∀ (d : Nat) (r i : Int), 4 - i = d → 0 ≤ i → i ≤ t.size → (fourD t low d r i).2 = 0 → 4 ≤ t.size := by
 intro d;induction d with
 | zero => intro r i hd h0 h1 h; omega
 | succ d ih =>
  intro r i hd h0 h1 h;unfold fourD at h;by_cases hs : i = t.size
  ·rw [if_pos hs] at h; simp at h
  ·rw [if_neg hs] at h;split at h
   ·simp at h
   ·exact ih _ _ (by omega) (by omega) (by omega) h
end Go.Proofs.YtdhdpidjdadamaaDoor.Q
