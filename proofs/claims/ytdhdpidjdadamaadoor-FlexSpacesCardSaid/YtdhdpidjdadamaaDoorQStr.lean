/- Plain words on strings: escapes, UTF-8, and what jsonlex.text comes to. No program and no memory here. -/
import Derived.Test.YtdhdpidjdadamaaDoorQText
namespace Go.Proofs.YtdhdpidjdadamaaDoor.Q
open Go.RowKit Go.Proofs.YtdhdpidjdadamaaDoorW.PrintWords Go.Proofs.YtdhdpidjdadamaaDoorW.PrintLast Go.Proofs.YtdhdpidjdadamaaDoor.PX
set_option linter.unusedVariables false
set_option linter.unusedSimpArgs false
/-! the element behind a backslash -/
def lowS (t : ByteArray) (x : Int) : Int × Int × Int :=
 if t.size = 6 then (0, 0, 5) else if bt t 6 ≠ 92 then (0, 0, 4) else if t.size = 7 then (0, 0, 5) else if bt t 7 ≠ 117 then (0, 0, 4)
 else if (fourS (t.extract 8 t.size) true).2 = 0 then (65536 + (x - 55296) * 1024 + (fourS (t.extract 8 t.size) true).1 - 56320, 12, 0) else (0, 0, (fourS (t.extract 8 t.size) true).2)
def uniS (t : ByteArray) : Int × Int × Int :=
 if (fourS (t.extract 2 t.size) false).2 = 0 then (if (fourS (t.extract 2 t.size) false).1 < 55296 then ((fourS (t.extract 2 t.size) false).1, 6, 0) else if (fourS (t.extract 2 t.size) false).1 ≥ 57344 then ((fourS (t.extract 2 t.size) false).1, 6, 0) else lowS t (fourS (t.extract 2 t.size) false).1) else (0, 0, (fourS (t.extract 2 t.size) false).2)
def escS (t : ByteArray) : Int × Int × Int :=
 if t.size < 2 then (0, 0, 5)
 else if bt t 1 = 34 then (34, 2, 0) else if bt t 1 = 92 then (92, 2, 0) else if bt t 1 = 47 then (47, 2, 0)
 else if bt t 1 = 98 then (8, 2, 0) else if bt t 1 = 102 then (12, 2, 0) else if bt t 1 = 110 then (10, 2, 0)
 else if bt t 1 = 114 then (13, 2, 0) else if bt t 1 = 116 then (9, 2, 0)
 else if bt t 1 = 117 then uniS t else (0, 0, 4)
theorem ev_low (t : ByteArray) (x : Int) (hx0 : 55296 ≤ x) (hx1 : x < 57344) (h6 : 6 ≤ t.size) : Ev (fun k => jx_escape.low k t x) (lowS t x) := by
 unfold jx_escape.low lowS;by_cases a : t.size = 6
 ·rw [if_pos a]; exact Ev.pos a (Ev.now _)
 rw [if_neg a]; refine Ev.neg a (Ev.neg (by omega) ?_)
 by_cases b : bt t 6 ≠ 92
 ·rw [if_pos b]; exact Ev.pos b (Ev.now _)
 rw [if_neg b]; refine Ev.neg b ?_
 by_cases c : t.size = 7
 ·rw [if_pos c]; exact Ev.pos c (Ev.now _)
 rw [if_neg c]; refine Ev.neg c ?_
 by_cases d : bt t 7 ≠ 117
 ·rw [if_pos d]; exact Ev.pos d (Ev.now _)
 rw [if_neg d]; refine Ev.neg d (Ev.bind (ev_fourS _ _) (Ev.val ?_))
 have hr := fourS_range (t.extract 8 t.size) true;unfold jx_escape.tail;by_cases e : (fourS (t.extract 8 t.size) true).2 = 0
 ·have h2 := hr.2 e;rw [if_pos e, if_pos e];have h3 := h2.2.2.1 rfl;rw [w64 (x := x - 55296) (by omega) (by omega), w64 (x := (x - 55296) * 1024) (by omega) (by omega), w64 (x := 65536 + (x - 55296) * 1024) (by omega) (by omega), w64 (x := 65536 + (x - 55296) * 1024 + _) (by omega) (by omega), w64 (by omega) (by omega)]
 ·rw [if_neg e, if_neg e]
theorem ev_esc (t : ByteArray) : Ev (fun k => jx_escape.f k t) (escS t) := by
 unfold jx_escape.f escS;by_cases a : t.size < 2
 ·rw [if_pos a]; exact Ev.pos a (Ev.now _)
 rw [if_neg a]; refine Ev.neg a ?_
 by_cases c1 : bt t 1 = 34
 ·rw [if_pos c1]; exact Ev.pos c1 (Ev.now _)
 rw [if_neg c1]; refine Ev.neg c1 ?_
 by_cases c2 : bt t 1 = 92
 ·rw [if_pos c2]; exact Ev.pos c2 (Ev.now _)
 rw [if_neg c2]; refine Ev.neg c2 ?_
 by_cases c3 : bt t 1 = 47
 ·rw [if_pos c3]; exact Ev.pos c3 (Ev.now _)
 rw [if_neg c3]; refine Ev.neg c3 ?_
 by_cases c4 : bt t 1 = 98
 ·rw [if_pos c4]; exact Ev.pos c4 (Ev.now _)
 rw [if_neg c4]; refine Ev.neg c4 ?_
 by_cases c5 : bt t 1 = 102
 ·rw [if_pos c5]; exact Ev.pos c5 (Ev.now _)
 rw [if_neg c5]; refine Ev.neg c5 ?_
 by_cases c6 : bt t 1 = 110
 ·rw [if_pos c6]; exact Ev.pos c6 (Ev.now _)
 rw [if_neg c6]; refine Ev.neg c6 ?_
 by_cases c7 : bt t 1 = 114
 ·rw [if_pos c7]; exact Ev.pos c7 (Ev.now _)
 rw [if_neg c7]; refine Ev.neg c7 ?_
 by_cases c8 : bt t 1 = 116
 ·rw [if_pos c8]; exact Ev.pos c8 (Ev.now _)
 rw [if_neg c8]; refine Ev.neg c8 ?_
 by_cases c9 : bt t 1 = 117
 ·rw [if_pos c9];refine Ev.pos c9 (Ev.bind (ev_fourS _ _) ?_)
  unfold uniS jx_escape.uni;have hr := fourS_range (t.extract 2 t.size) false;by_cases e : (fourS (t.extract 2 t.size) false).2 = 0
  ·rw [if_pos e]; refine Ev.pos e ?_
   by_cases f : (fourS (t.extract 2 t.size) false).1 < 55296
   ·rw [if_pos f]; exact Ev.pos f (Ev.now _)
   ·rw [if_neg f]; refine Ev.neg f ?_
    by_cases g : (fourS (t.extract 2 t.size) false).1 ≥ 57344
    ·rw [if_pos g]; exact Ev.pos g (Ev.now _)
    ·rw [if_neg g]; refine Ev.neg g (ev_low t _ (by omega) (by omega) ?_)
     have := fourD_size (t.extract 2 t.size) false 4 0 0 rfl (by omega) (by omega) e
     rw [ByteArray.size_extract] at this;omega
  ·rw [if_neg e]; exact Ev.neg e (Ev.now _)
 ·rw [if_neg c9]; exact Ev.neg c9 (Ev.now _)
def point (r : Int) : Bool := decide (0 ≤ r ∧ r ≤ 1114111 ∧ (r < 55296 ∨ 57343 < r))
theorem point_f (r : Int) : utf_point.f r = some (point r) := by
 unfold utf_point.f point;repeat' split
 all_goals (congr 1; first | (rw [eq_comm, decide_eq_true_iff]; omega) | (rw [Bool.eq_iff_iff, decide_eq_true_iff, decide_eq_true_iff]; omega) | (rw [eq_comm, decide_eq_false_iff_not]; omega))
/-- An element is a code point, with a length; or it ends too early, or is none. -/
theorem escS_range (t : ByteArray) : ((escS t).2.2 = 0 ∨ (escS t).2.2 = 4 ∨ (escS t).2.2 = 5) ∧ ((escS t).2.2 = 0 → point (escS t).1 = true ∧ 2 ≤ (escS t).2.1 ∧ (escS t).2.1 ≤ 12) := by
 have hu : bt t 1 = 117 → ((uniS t).2.2 = 0 ∨ (uniS t).2.2 = 4 ∨ (uniS t).2.2 = 5) ∧ ((uniS t).2.2 = 0 → point (uniS t).1 = true ∧ 2 ≤ (uniS t).2.1 ∧ (uniS t).2.1 ≤ 12) := by
  intro _;have hr := fourS_range (t.extract 2 t.size) false;have hr8 := fourS_range (t.extract 8 t.size) true;unfold uniS lowS point;generalize fourS (t.extract 2 t.size) false = a at *;generalize fourS (t.extract 8 t.size) true = b at *;obtain ⟨a1, a2⟩ := a;obtain ⟨b1, b2⟩ := b;simp only [decide_eq_true_iff] at *;have h2 := hr.2;have h8 := hr8.2;simp at h2 h8
  repeat' split
  all_goals (refine ⟨by first | (left; rfl) | (right; left; rfl) | (right; right; rfl) | exact hr.1 | exact hr8.1 | (simp; omega) , fun he => ?_⟩)
  all_goals first
   | (exfalso; simp at he; done)
   | (simp at he ⊢; omega)
   | (simp at he ⊢; simp_all; omega)
 unfold escS;by_cases a : t.size < 2
 ·rw [if_pos a]; exact ⟨.inr (.inr rfl), fun h => by simp at h⟩
 rw [if_neg a];by_cases c9 : bt t 1 = 117
 ·rw [if_neg (by omega), if_neg (by omega), if_neg (by omega), if_neg (by omega), if_neg (by omega), if_neg (by omega), if_neg (by omega), if_neg (by omega), if_pos c9]
  exact hu c9
 ·rw [if_neg c9];repeat' split
  all_goals first
   | exact ⟨.inl rfl, fun _ => ⟨by decide, by decide, by decide⟩⟩
   | exact ⟨.inr (.inl rfl), fun h => by simp at h⟩
/-! UTF-8 -/
def encS (r : Int) : List Int :=
 if r < 128 then [r] else if r < 2048 then [192 + r / 64, 128 + r % 64] else if r < 65536 then [224 + r / 4096, 128 + r / 64 % 64, 128 + r % 64] else [240 + r / 262144, 128 + r / 4096 % 64, 128 + r / 64 % 64, 128 + r % 64]
theorem encS_length (r : Int) : (encS r).length ≤ 4 := by
 unfold encS;by_cases a : r < 128
 ·simp [a]
 by_cases b : r < 2048
 ·simp [a, b]
 by_cases c : r < 65536 <;> simp [a, b, c]
theorem two_of (r : Int) (h0 : 0 ≤ r) (h1 : r < 2048) : Go.bits .or .i64 192 (r / 64) % 256 = 192 + r / 64 ∧ Go.bits .or .i64 128 (Go.bits .and .i64 r 63) % 256 = 128 + r % 64 := by
 rw [and_63 r h0 (by omega), or_join 5 (by decide) 192 _ (by omega) (by omega) (by omega) (by omega) (by omega), or_join 6 (by decide) 128 _ (by omega) (by omega) (by omega) (by omega) (by omega)]
 omega
theorem three_of (r : Int) (h0 : 0 ≤ r) (h1 : r < 65536) : Go.bits .or .i64 224 (r / 4096) % 256 = 224 + r / 4096 ∧ Go.bits .or .i64 128 (Go.bits .and .i64 (r / 64) 63) % 256 = 128 + r / 64 % 64 ∧ Go.bits .or .i64 128 (Go.bits .and .i64 r 63) % 256 = 128 + r % 64 := by
 rw [and_63 r h0 (by omega), and_63 (r / 64) (by omega) (by omega), or_join 4 (by decide) 224 _ (by omega) (by omega) (by omega) (by omega) (by omega), or_join 6 (by decide) 128 _ (by omega) (by omega) (by omega) (by omega) (by omega), or_join 6 (by decide) 128 _ (by omega) (by omega) (by omega) (by omega) (by omega)]
 omega
theorem four_of (r : Int) (h0 : 0 ≤ r) (h1 : r ≤ 1114111) : Go.bits .or .i64 240 (r / 262144) % 256 = 240 + r / 262144 ∧ Go.bits .or .i64 128 (Go.bits .and .i64 (r / 4096) 63) % 256 = 128 + r / 4096 % 64 ∧ Go.bits .or .i64 128 (Go.bits .and .i64 (r / 64) 63) % 256 = 128 + r / 64 % 64 ∧ Go.bits .or .i64 128 (Go.bits .and .i64 r 63) % 256 = 128 + r % 64 := by
 rw [and_63 r h0 (by omega), and_63 (r / 64) (by omega) (by omega), and_63 (r / 4096) (by omega) (by omega), or_join 3 (by decide) 240 _ (by omega) (by omega) (by omega) (by omega) (by omega), or_join 6 (by decide) 128 _ (by omega) (by omega) (by omega) (by omega) (by omega), or_join 6 (by decide) 128 _ (by omega) (by omega) (by omega) (by omega) (by omega), or_join 6 (by decide) 128 _ (by omega) (by omega) (by omega) (by omega) (by omega)]
 omega
theorem add_f (b : List Int) (r : Int) (hr : point r = true) (hb : b.length ≤ 1000000000) : utf_add.f b r = some (b ++ encS r) := by
 have hr := of_decide_eq_true hr;unfold utf_add.f encS;by_cases h1 : r < 128
 ·rw [if_pos h1, if_pos h1, if_pos (by omega), show r % 256 = r from by omega]
 rw [if_neg h1, if_neg h1];by_cases h2 : r < 2048
 ·rw [if_pos h2, if_pos h2];have := two_of r (by omega) h2
  rw [this.1, this.2];simp only [Option.bind_some, List.length_cons, List.length_nil];rw [if_pos (by omega)]
 rw [if_neg h2, if_neg h2];by_cases h3 : r < 65536
 ·rw [if_pos h3, if_pos h3];have := three_of r (by omega) h3
  rw [this.1, this.2.1, this.2.2];simp only [Option.bind_some, List.length_cons, List.length_nil];rw [if_pos (by omega)]
 rw [if_neg h3, if_neg h3];have := four_of r (by omega) (by omega)
 rw [this.1, this.2.1, this.2.2.1, this.2.2.2];simp only [Option.bind_some, List.length_cons, List.length_nil];rw [if_pos (by omega)]
theorem append_f (b : List Int) (r : Int) (hr : point r = true) (hb : b.length ≤ 1000000000) : utf_Append.f b r = some (b ++ encS r, true) := by
 unfold utf_Append.f;rw [point_f, hr];simp only [Option.bind_some, if_true];rw [if_pos hb, add_f b r hr hb];rfl
/-- d continuation bytes from j on, behind what r holds. -/
def contS (s : ByteArray) : Nat → Int → Int → Option Int
 | 0, r, _ => some r
 | d + 1, r, j => if j < s.size ∧ 128 ≤ bt s j ∧ bt s j < 192 then contS s d (r * 64 + (bt s j - 128)) (j + 1) else none
def multS (s : ByteArray) (i : Int) (n : Nat) (r least : Int) : Int × Int × Bool :=
 match contS s (n - 1) r (i + 1) with
 | some x => if least ≤ x ∧ point x = true then (x, n, true) else (0, 0, false)
 | none => (0, 0, false)
def decS (s : ByteArray) (i : Int) : Int × Int × Bool :=
 if bt s i < 128 then (bt s i, 1, true) else if bt s i < 192 then (0, 0, false) else if bt s i < 224 then multS s i 2 (bt s i % 32) 128
 else if bt s i < 240 then multS s i 3 (bt s i % 16) 2048 else if bt s i < 248 then multS s i 4 (bt s i % 8) 65536 else (0, 0, false)
theorem next_f (s : ByteArray) {j : Int} (h0 : 0 ≤ j) : utf_next.f s j = some (if j < s.size ∧ 128 ≤ bt s j ∧ bt s j < 192 then (bt s j - 128, true) else (0, false)) := by
 unfold utf_next.f;by_cases h : j < s.size
 ·rw [if_neg (by omega), if_pos h0, if_pos h]
  have hb := bt_range s j;rw [and8_192 _ hb.1 hb.2, and8_63 _ hb.1 (by omega)]
  by_cases c : bt s j / 64 * 64 = 128
  ·rw [if_pos c, if_pos (by omega), w64 (by omega) (by omega), show bt s j % 64 = bt s j - 128 from by omega]
  ·rw [if_neg c, if_neg (by omega)]
 ·rw [if_pos (by omega), if_neg (by omega)]
theorem ev_cont (s : ByteArray) (hs : s.size ≤ 140737488351232) (i least : Int) (n : Nat) (hn : n ≤ 4) (h0 : 0 ≤ i) (h1 : i < s.size) :
 ∀ (d : Nat) (r q : Int), (n : Int) - q = d → 1 ≤ q → 0 ≤ r → r < 64 ^ q.toNat → Ev (fun k => utf_Decode.l0 k s i n r least q) (match contS s d r (i + q) with | some x => if least ≤ x ∧ point x = true then (x, (n : Int), true) else (0, 0, false) | none => (0, 0, false)) := by
 intro d;induction d with
 | zero =>
  intro r q hd h2 hr0 hr1;refine Ev.step (fun k => by first | (rw [utf_Decode.l0]; done) | (rw [utf_Decode.l0]; rfl)) (Ev.neg (by omega) ?_)
  simp only [contS];by_cases hl : r < least
  ·rw [if_neg (show ¬ (least ≤ r ∧ point r = true) by omega)]; exact Ev.pos hl (Ev.now _)
  ·refine Ev.neg hl (Ev.pbind (point_f r) ?_)
   by_cases hp : point r = true
   ·rw [if_pos (show least ≤ r ∧ point r = true from ⟨by omega, hp⟩)]; exact Ev.pos hp (Ev.now _)
   ·rw [if_neg (show ¬ (least ≤ r ∧ point r = true) from fun h => hp h.2)]; exact Ev.neg hp (Ev.now _)
 | succ d ih =>
  intro r q hd h2 hr0 hr1;have hp : (64 : Int) ^ q.toNat ≤ 64 ^ 3 := by
   have : 64 ^ q.toNat ≤ 64 ^ 3 := Nat.pow_le_pow_right (by decide) (by omega)
   exact_mod_cast this
  have hr2 : r < 262144 := by omega
  refine Ev.step (fun k => by first | (rw [utf_Decode.l0]; done) | (rw [utf_Decode.l0]; rfl)) (Ev.pos (by omega) ?_)
  rw [w64 (x := i + q) (by omega) (by omega)]
  refine Ev.pbind (next_f s (by omega)) ?_
  simp only [contS];by_cases hc : i + q < s.size ∧ 128 ≤ bt s (i + q) ∧ bt s (i + q) < 192
  ·rw [if_pos hc, if_pos hc];refine Ev.pos rfl ?_
   simp only
   rw [w64 (x := r * 64) (by omega) (by omega), w64 (x := q + 1) (by omega) (by omega), or_join 6 (by decide) (r * 64) _ (by omega) (by omega) (by omega) (by omega) (by omega), show i + q + 1 = i + (q + 1) from by omega]
   refine ih _ (q + 1) (by omega) (by omega) (by omega) ?_
   rw [show (q + 1).toNat = q.toNat + 1 from by omega, Int.pow_succ]
   omega
  ·rw [if_neg hc, if_neg hc];exact Ev.neg (by simp) (Ev.now _)
theorem ev_dec (s : ByteArray) (hs : s.size ≤ 140737488351232) {i : Int} (h0 : 0 ≤ i) (h1 : i < s.size) : Ev (fun k => utf_Decode.f k s i) (decS s i) := by
 have hb := bt_range s i;have hw : wrap64 (bt s i) = bt s i := w64 (by omega) (by omega)
 have hm : ∀ (n : Nat) (r least : Int), n = 2 ∨ n = 3 ∨ n = 4 → 0 ≤ r → r < 64 → Ev (fun k => utf_Decode.j3 k s i n r least) (multS s i n r least) := by
  intro n r least hn hr0 hr1;refine Ev.step (fun k => by first | (rw [utf_Decode.j3]; done) | (rw [utf_Decode.j3]; rfl)) ?_
  exact ev_cont s hs i least n (by omega) h0 h1 (n - 1) r 1 (by omega) (by omega) hr0 (by simpa using hr1)
 unfold utf_Decode.f decS;refine Ev.neg (by omega) (Ev.step (fun k => by first | (rw [utf_Decode.j0]; done) | (rw [utf_Decode.j0]; rfl)) (Ev.neg (by simp; omega) (Ev.pos h0 (Ev.pos h1 ?_))))
 rw [hw];by_cases a : bt s i < 128
 ·rw [if_pos a]; exact Ev.pos a (Ev.now _)
 rw [if_neg a]; refine Ev.neg a ?_
 have j2 : ∀ b : Bool, b = decide (224 ≤ bt s i ∧ bt s i < 240) → ¬ bt s i < 224 ∨ bt s i < 192 → Ev (fun k => utf_Decode.j2 k s i (bt s i) b) (if bt s i < 192 then (0, 0, false) else if bt s i < 240 then multS s i 3 (bt s i % 16) 2048 else if bt s i < 248 then multS s i 4 (bt s i % 8) 65536 else (0, 0, false)) := by
  intro b hbb hcc;refine Ev.step (fun k => by first | (rw [utf_Decode.j2]; done) | (rw [utf_Decode.j2]; rfl)) ?_
  by_cases c : 224 ≤ bt s i ∧ bt s i < 240
  ·rw [if_neg (by omega), if_pos c.2]
   refine Ev.pos (by rw [hbb]; simpa using c) ?_
   rw [and_15 _ hb.1 (by omega)]
   exact hm 3 _ _ (by omega) (by omega) (by omega)
  ·refine Ev.neg (by rw [hbb]; simpa using c) ?_
   by_cases d : bt s i ≥ 240
   ·rw [if_neg (by omega), if_neg (by omega)]
    refine Ev.pos d ?_
    by_cases e : bt s i < 248
    ·rw [if_pos e]; refine Ev.pos e ?_
     rw [and_7 _ hb.1 (by omega)]
     exact hm 4 _ _ (by omega) (by omega) (by omega)
    ·rw [if_neg e]; exact Ev.neg e (Ev.now _)
   ·rw [if_pos (by omega)]; exact Ev.neg d (Ev.now _)
 have j1 : ∀ b : Bool, b = decide (192 ≤ bt s i ∧ bt s i < 224) → Ev (fun k => utf_Decode.j1 k s i (bt s i) b) (if bt s i < 192 then (0, 0, false) else if bt s i < 224 then multS s i 2 (bt s i % 32) 128 else if bt s i < 240 then multS s i 3 (bt s i % 16) 2048 else if bt s i < 248 then multS s i 4 (bt s i % 8) 65536 else (0, 0, false)) := by
  intro b hbb;refine Ev.step (fun k => by first | (rw [utf_Decode.j1]; done) | (rw [utf_Decode.j1]; rfl)) ?_
  by_cases c : 192 ≤ bt s i ∧ bt s i < 224
  ·rw [if_neg (by omega), if_pos c.2]
   refine Ev.pos (by rw [hbb]; simpa using c) ?_
   rw [and_31 _ hb.1 (by omega)]
   exact hm 2 _ _ (by omega) (by omega) (by omega)
  ·refine Ev.neg (by rw [hbb]; simpa using c) ?_
   have e : (if bt s i < 192 then (0, 0, false) else if bt s i < 224 then multS s i 2 (bt s i % 32) 128 else if bt s i < 240 then multS s i 3 (bt s i % 16) 2048 else if bt s i < 248 then multS s i 4 (bt s i % 8) 65536 else (0, 0, false)) = (if bt s i < 192 then (0, 0, false) else if bt s i < 240 then multS s i 3 (bt s i % 16) 2048 else if bt s i < 248 then multS s i 4 (bt s i % 8) 65536 else (0, 0, false)) := by
    by_cases f : bt s i < 192
    ·rw [if_pos f, if_pos f]
    ·rw [if_neg f, if_neg f, if_neg (by omega)]
   rw [e];by_cases d : bt s i ≥ 224
   ·exact Ev.pos d (j2 _ (by rw [Bool.eq_iff_iff, decide_eq_true_iff, decide_eq_true_iff]; omega) (by omega))
   ·exact Ev.neg d (j2 _ (by rw [eq_comm, decide_eq_false_iff_not]; omega) (by omega))
 by_cases c : bt s i ≥ 192
 ·exact Ev.pos c (j1 _ (by rw [Bool.eq_iff_iff, decide_eq_true_iff, decide_eq_true_iff]; omega))
 ·exact Ev.neg c (j1 _ (by rw [eq_comm, decide_eq_false_iff_not]; omega))
end Go.Proofs.YtdhdpidjdadamaaDoor.Q
