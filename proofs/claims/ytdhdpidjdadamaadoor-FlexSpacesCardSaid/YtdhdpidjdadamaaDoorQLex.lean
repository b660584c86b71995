/- Plain words on tokens: what jsonlex.text, jsonlex.number, jsonlex.Next, flex.number, flex.token and flex.Lex come to. No program and no memory here. -/
import Derived.Test.YtdhdpidjdadamaaDoorQStr
namespace Go.Proofs.YtdhdpidjdadamaaDoor.Q
open Go.RowKit Go.Proofs.YtdhdpidjdadamaaDoorW.PrintWords Go.Proofs.YtdhdpidjdadamaaDoorW.PrintLast Go.Proofs.YtdhdpidjdadamaaDoor.PX
set_option linter.unusedVariables false
set_option linter.unusedSimpArgs false
abbrev emp : ByteArray := ⟨#[]⟩
/-! strings -/
def textD (s : ByteArray) (at_ : Int) : Nat → List Int → Int → ByteArray × Int × Int
 | 0, _, _ => (emp, s.size, 5)
 | d + 1, b, i =>
  if i < s.size then (if bt s i = 34 then (if (b.length : Int) > 4096 then (emp, at_, 2) else (strOfNums b, i + 1, 0))
   else if bt s i < 32 then (emp, i, 4)
   else if bt s i = 92 then (if (escS (s.extract i.toNat s.size)).2.2 = 5 then (emp, s.size, 5) else if (escS (s.extract i.toNat s.size)).2.2 = 0 then textD s at_ d (b ++ encS (escS (s.extract i.toNat s.size)).1) (i + (escS (s.extract i.toNat s.size)).2.1) else (emp, i, (escS (s.extract i.toNat s.size)).2.2))
   else if (decS s i).2.2 = true then textD s at_ d (b ++ bytesOf (s.extract i.toNat (i + (decS s i).2.1).toNat)) (i + (decS s i).2.1) else (emp, i, 6))
  else (emp, s.size, 5)
def textS (s : ByteArray) (i : Int) : ByteArray × Int × Int := textD s i (s.size - i.toNat) [] (i + 1)
theorem contS_bound (s : ByteArray) : ∀ (d : Nat) (r j x : Int), contS s d r j = some x → d = 0 ∨ j + d ≤ s.size
 | 0, r, j, x, h => .inl rfl
 | d + 1, r, j, x, h => by
  simp only [contS] at h;by_cases c : j < s.size ∧ 128 ≤ bt s j ∧ bt s j < 192
  ·rw [if_pos c] at h;rcases contS_bound s d _ _ x h with rfl | h2
   ·right; omega
   ·right; omega
  ·rw [if_neg c] at h; simp at h
theorem decS_bound (s : ByteArray) {i : Int} (h0 : 0 ≤ i) (h1 : i < s.size) (h : (decS s i).2.2 = true) : 1 ≤ (decS s i).2.1 ∧ (decS s i).2.1 ≤ 4 ∧ i + (decS s i).2.1 ≤ s.size := by
 have hm : ∀ (n : Nat) (r least : Int), n = 2 ∨ n = 3 ∨ n = 4 → (multS s i n r least).2.2 = true → 1 ≤ (multS s i n r least).2.1 ∧ (multS s i n r least).2.1 ≤ 4 ∧ i + (multS s i n r least).2.1 ≤ s.size := by
  intro n r least hn hh;unfold multS at hh ⊢;cases e : contS s (n - 1) r (i + 1) with
  | none => rw [e] at hh; simp at hh
  | some x =>
   rw [e] at hh;simp only at hh ⊢;have := contS_bound s _ _ _ _ e;by_cases c : least ≤ x ∧ point x = true
   ·rw [if_pos c]; simp only; omega
   ·rw [if_neg c] at hh; simp at hh
 unfold decS at h ⊢;by_cases a : bt s i < 128
 ·rw [if_pos a]; simp only; omega
 rw [if_neg a] at h ⊢;by_cases b : bt s i < 192
 ·rw [if_pos b] at h; simp at h
 rw [if_neg b] at h ⊢;by_cases c : bt s i < 224
 ·rw [if_pos c] at h ⊢; exact hm 2 _ _ (by omega) h
 rw [if_neg c] at h ⊢;by_cases e : bt s i < 240
 ·rw [if_pos e] at h ⊢; exact hm 3 _ _ (by omega) h
 rw [if_neg e] at h ⊢;by_cases f : bt s i < 248
 ·rw [if_pos f] at h ⊢; exact hm 4 _ _ (by omega) h
 rw [if_neg f] at h; simp at h
theorem bytesOf_len (s : ByteArray) : (bytesOf s).length = s.size := by simp [bytesOf]
theorem ev_text (s : ByteArray) (hs : s.size ≤ 8192) (at_ : Int) : ∀ (d : Nat) (b : List Int) (i : Int), (s.size : Int) - i < d → 0 ≤ i → i ≤ 20000 → (b.length : Int) ≤ 4 * i → Ev (fun k => jx_text.l0 k s at_ b i) (textD s at_ d b i) := by
 intro d;induction d with
 | zero =>
  intro b i hd h0 h1 hb;refine Ev.step (fun k => by first | (rw [jx_text.l0]; done) | (rw [jx_text.l0]; rfl)) (Ev.neg (by omega) (Ev.now _))
 | succ d ih =>
  intro b i hd h0 h1 hb;refine Ev.step (fun k => by first | (rw [jx_text.l0]; done) | (rw [jx_text.l0]; rfl)) ?_
  unfold textD;by_cases c0 : i < s.size
  ·rw [if_pos c0]; refine Ev.pos c0 (Ev.pos h0 ?_)
   by_cases c1 : bt s i = 34
   ·rw [if_pos c1]; refine Ev.pos c1 ?_
    by_cases c2 : (b.length : Int) > 4096
    ·exact Ev.pos c2 (Ev.val (if_pos c2).symm)
    ·refine Ev.neg c2 (Ev.val ?_); rw [if_neg c2, w64 (by omega) (by omega)]
   rw [if_neg c1]; refine Ev.neg c1 ?_
   by_cases c2 : bt s i < 32
   ·rw [if_pos c2]; exact Ev.pos c2 (Ev.now _)
   rw [if_neg c2]; refine Ev.neg c2 ?_
   by_cases c3 : bt s i = 92
   ·rw [if_pos c3]; refine Ev.pos c3 (Ev.pos (by omega) (Ev.bind (ev_esc _) ?_))
    have hr := escS_range (s.extract i.toNat s.size);generalize escS (s.extract i.toNat s.size) = e at *;obtain ⟨x, n, er⟩ := e;simp only at hr ⊢;by_cases c5 : er = 5
    ·rw [if_pos c5]; exact Ev.pos c5 (Ev.val (by rw [c5]))
    rw [if_neg c5]; refine Ev.neg c5 ?_
    by_cases c6 : er = 0
    ·rw [if_pos c6];have h2 := hr.2 c6;refine Ev.pos c6 (Ev.pbind (append_f b x h2.1 (by omega)) ?_)
     simp only
     rw [w64 (x := i + n) (by omega) (by omega)]
     have := encS_length x;exact ih _ _ (by omega) (by omega) (by omega) (by rw [List.length_append]; omega)
    ·rw [if_neg c6]; exact Ev.neg c6 (Ev.now _)
   rw [if_neg c3]; refine Ev.neg c3 (Ev.bind (ev_dec s (by omega) h0 c0) ?_)
   have hr := decS_bound s h0 c0;generalize decS s i = e at *;obtain ⟨x, n, ok⟩ := e;simp only at hr ⊢;by_cases c5 : ok = true
   ·rw [if_pos c5];have h2 := hr c5;have hsz : (s.extract i.toNat (i + n).toNat).size = n.toNat := by rw [ByteArray.size_extract]; omega
    refine Ev.pos c5 ?_
    rw [w64 (x := i + n) (by omega) (by omega)]
    refine Ev.pos (by omega) (Ev.pos (by omega) (Ev.pos (by rw [hsz]; omega) ?_))
    exact ih _ _ (by omega) (by omega) (by omega) (by rw [List.length_append, bytesOf_len, hsz]; omega)
   ·rw [if_neg c5]; exact Ev.neg c5 (Ev.now _)
  ·rw [if_neg c0]; exact Ev.neg c0 (Ev.now _)
theorem ev_textS (s : ByteArray) (hs : s.size ≤ 8192) {i : Int} (h0 : 0 ≤ i) (h1 : i < s.size) : Ev (fun k => jx_text.f k s i) (textS s i) := by
 unfold jx_text.f textS;rw [w64 (x := i + 1) (by omega) (by omega)]
 exact ev_text s hs i _ [] (i + 1) (by omega) (by omega) (by omega) (by simp; omega)
/-- A string that ends well ends behind its first sign, inside the text. -/
theorem textD_bound (s : ByteArray) (at_ : Int) : ∀ (d : Nat) (b : List Int) (i : Int), 0 ≤ i → (textD s at_ d b i).2.2 = 0 → i < (textD s at_ d b i).2.1 ∧ (textD s at_ d b i).2.1 ≤ s.size := by
 intro d;induction d with
 | zero => intro b i h0 h; simp [textD] at h
 | succ d ih =>
  intro b i h0 h;unfold textD at h ⊢;by_cases c0 : i < s.size
  ·rw [if_pos c0] at h ⊢;by_cases c1 : bt s i = 34
   ·rw [if_pos c1] at h ⊢;by_cases c2 : (b.length : Int) > 4096
    ·rw [if_pos c2] at h; simp at h
    ·rw [if_neg c2]; simp only; omega
   rw [if_neg c1] at h ⊢;by_cases c2 : bt s i < 32
   ·rw [if_pos c2] at h; simp at h
   rw [if_neg c2] at h ⊢;by_cases c3 : bt s i = 92
   ·rw [if_pos c3] at h ⊢;have hr := escS_range (s.extract i.toNat s.size);generalize escS (s.extract i.toNat s.size) = e at *;obtain ⟨x, n, er⟩ := e;simp only at hr h ⊢;by_cases c5 : er = 5
    ·rw [if_pos c5] at h; simp at h
    rw [if_neg c5] at h ⊢;by_cases c6 : er = 0
    ·rw [if_pos c6] at h ⊢;have h2 := hr.2 c6;have := ih _ _ (by omega) h
     omega
    ·rw [if_neg c6] at h; simp at h; exact absurd h c6
   rw [if_neg c3] at h ⊢;have hr := decS_bound s h0 c0;generalize decS s i = e at *;obtain ⟨x, n, ok⟩ := e;simp only at hr h ⊢;by_cases c5 : ok = true
   ·rw [if_pos c5] at h ⊢;have h2 := hr c5;have := ih _ _ (by omega) h
    omega
   ·rw [if_neg c5] at h; simp at h
  ·rw [if_neg c0] at h; simp at h
/-! numbers -/
/-- The value of the digits from i on, behind m; none: it has left 64 bits. -/
def accD (s : ByteArray) : Nat → Option Int → Int → Option Int
 | 0, m, _ => m
 | d + 1, m, i => accD s d (m.bind fun m => if m > (9223372036854775808 - (bt s i - 48)) / 10 then none else some (m * 10 + (bt s i - 48))) (i + 1)
/-- The value of a text of digits, if it is below 2 to the 63. -/
def valS (s : ByteArray) : Option Int := (accD s s.size (some 0) 0).bind fun m => if m < 9223372036854775808 then some m else none
theorem tdiv_neg (x : Int) (h0 : 0 ≤ x) (h1 : x ≤ 9) : Int.tdiv ((-9223372036854775808) + x) 10 = -((9223372036854775808 - x) / 10) := by
 have e : (-9223372036854775808) + x = -(9223372036854775808 - x) := by omega
 rw [e, Int.neg_tdiv, Int.tdiv_eq_ediv_of_nonneg (by omega)]
theorem ev_num (s : ByteArray) (hs : s.size ≤ 8192) (at_ : Int) (hd9 : ∀ j : Int, 0 ≤ j → j < s.size → digitB (bt s j) = true) : ∀ (d : Nat) (i : Int) (m : Option Int) (fits : Bool) (n : Int), (s.size : Int) - i = d → 0 ≤ i →
 (∀ x, m = some x → fits = true ∧ n = -x ∧ 0 ≤ x ∧ x ≤ 9223372036854775808) → (m = none → fits = false) → -9223372036854775808 ≤ n → n ≤ 0 →
 Ev (fun k => jx_number.l0 k s at_ i false fits n) (match (accD s d m i).bind fun x => if x < 9223372036854775808 then some x else none with | some x => (x, (s.size : Int), 0) | none => (0, at_, 7)) := by
 intro d;induction d with
 | zero =>
  intro i m fits n hd h0 hm hm0 hn0 hn1;have j5t : Ev (fun k => jx_number.j5 k at_ i false n true) (0, at_, 7) :=
   Ev.step (fun k => by first | (rw [jx_number.j5]; done) | (rw [jx_number.j5]; rfl)) (Ev.pos rfl (Ev.now _))
  have j5f : n ≠ -9223372036854775808 → Ev (fun k => jx_number.j5 k at_ i false n false) (-n, i, 0) := fun hz =>
   Ev.step (fun k => by first | (rw [jx_number.j5]; done) | (rw [jx_number.j5]; rfl)) (Ev.neg (by simp) (Ev.neg (by simp) (Ev.val (by rw [w64 (by omega) (by omega)]))))
  refine Ev.step (fun k => by first | (rw [jx_number.l0]; done) | (rw [jx_number.l0]; rfl)) (Ev.neg (by omega) (Ev.step (fun k => by first | (rw [jx_number.j4]; done) | (rw [jx_number.j4]; rfl)) (Ev.neg (by simp) (Ev.neg (by omega) ?_))))
  simp only [accD];cases m with
  | none =>
   have := hm0 rfl;subst this;exact Ev.neg (by simp) j5t
  | some x =>
   obtain ⟨rfl, rfl, hx0, hx1⟩ := hm x rfl;refine Ev.pos rfl (Ev.neg (by simp) ?_)
   simp only [Option.bind_some];by_cases hx : x < 9223372036854775808
   ·rw [if_pos hx, show ((-x) == (-9223372036854775808)) = false from beq_eq_false_iff_ne.mpr (by omega), show (s.size : Int) = i from by omega]
    have := j5f (by omega)
    rw [Int.neg_neg] at this;exact this
   ·rw [if_neg hx, show ((-x) == (-9223372036854775808)) = true from beq_iff_eq.mpr (by omega)]
    exact j5t
 | succ d ih =>
  intro i m fits n hd h0 hm hm0 hn0 hn1;have hdig := hd9 i h0 (by omega)
  have hc : 48 ≤ bt s i ∧ bt s i ≤ 57 := by unfold digitB at hdig; exact of_decide_eq_true hdig
  refine Ev.step (fun k => by first | (rw [jx_number.l0]; done) | (rw [jx_number.l0]; rfl)) (Ev.pos (by omega) (Ev.pos h0 (Ev.pbind (jdigit_f _) ?_)))
  rw [hdig];refine Ev.step (fun k => by first | (rw [jx_number.j4]; done) | (rw [jx_number.j4]; rfl)) (Ev.pos rfl (Ev.pos h0 (Ev.pos (by omega) ?_)))
  rw [show (bt s i - 48) % 256 = bt s i - 48 from by omega, tdiv_neg _ (by omega) (by omega), w64 (x := i + 1) (by omega) (by omega)]
  simp only [accD];have hc0 : 0 ≤ bt s i - 48 ∧ bt s i - 48 ≤ 9 := by omega
  generalize bt s i - 48 = c at hc0 ⊢;rw [w64 (x := -((9223372036854775808 - c) / 10)) (by omega) (by omega)]
  by_cases hlt : n < -((9223372036854775808 - c) / 10)
  ·refine Ev.pos hlt ?_
   have hm' : (m.bind fun m => if m > (9223372036854775808 - c) / 10 then none else some (m * 10 + c)) = none := by
    cases m with
    | none => rfl
    | some x =>
     obtain ⟨_, rfl, _, _⟩ := hm x rfl;simp only [Option.bind_some];rw [if_pos (by omega)]
   rw [hm'];exact ih (i + 1) none false n (by omega) (by omega) (fun x h => by cases h) (fun _ => rfl) hn0 hn1
  ·refine Ev.neg hlt ?_
   rw [w64 (x := n * 10) (by omega) (by omega), w64 (x := n * 10 - c) (by omega) (by omega)]
   refine ih (i + 1) _ fits (n * 10 - c) (by omega) (by omega) ?_ ?_ (by omega) (by omega)
   ·intro y hy;cases m with
    | none => cases hy
    | some x =>
     obtain ⟨h1, rfl, h2, h3⟩ := hm x rfl;simp only [Option.bind_some] at hy;rw [if_neg (by omega)] at hy
     injection hy with hy
     subst hy;exact ⟨h1, by omega, by omega, by omega⟩
   ·intro hy;cases m with
    | none => exact hm0 rfl
    | some x =>
     obtain ⟨h1, rfl, h2, h3⟩ := hm x rfl;simp only [Option.bind_some] at hy;rw [if_neg (by omega)] at hy
     cases hy
theorem ev_jnum (s : ByteArray) (hs : s.size ≤ 8192) (h1 : 0 < s.size) (hd9 : ∀ j : Int, 0 ≤ j → j < s.size → digitB (bt s j) = true) (hz : bt s 0 = 48 → s.size = 1) :
 Ev (fun k => jx_number.f k s 0) (match valS s with | some x => (x, (s.size : Int), 0) | none => (0, 0, 7)) := by
 have hd0 := hd9 0 (by omega) (by omega)
 have hc : 48 ≤ bt s 0 ∧ bt s 0 ≤ 57 := by unfold digitB at hd0; exact of_decide_eq_true hd0
 have hmain := ev_num s hs 0 hd9 s.size 0 (some 0) true 0 (by omega) (by omega) (fun x h => by injection h with h; subst h; exact ⟨rfl, rfl, by omega, by omega⟩) (fun h => by cases h) (by omega) (by omega)
 have j2 : Ev (fun k => jx_number.j2 k s 0 0 false false) (match valS s with | some x => (x, (s.size : Int), 0) | none => (0, 0, 7)) :=
  Ev.step (fun k => by first | (rw [jx_number.j2]; done) | (rw [jx_number.j2]; rfl)) (Ev.neg (by simp) hmain)
 unfold jx_number.f;refine Ev.pos (by omega) (Ev.pos (by omega) (Ev.neg (by omega) ?_))
 rw [show (bt s 0 == 45) = false from beq_eq_false_iff_ne.mpr (by omega)]
 refine Ev.step (fun k => by first | (rw [jx_number.j0]; done) | (rw [jx_number.j0]; rfl)) (Ev.neg (by omega) (Ev.pos (by omega) (Ev.pos (by omega) (Ev.pbind (jdigit_f _) ?_))))
 rw [hd0];refine Ev.step (fun k => by first | (rw [jx_number.j1]; done) | (rw [jx_number.j1]; rfl)) (Ev.neg (by simp) (Ev.pos (by omega) (Ev.pos (by omega) ?_)))
 by_cases h48 : bt s 0 = 48
 ·have := hz h48;refine Ev.pos h48 (Ev.neg (by rw [w64 (by omega) (by omega)]; omega) j2)
 ·exact Ev.neg h48 j2
/-! jsonlex.Next, where a string or digits begin -/
theorem blank_not {s : ByteArray} {i : Int} (h : bt s i = 34 ∨ digitB (bt s i) = true) : runTo blankB s i = i := by
 refine runTo_stop ?_
 unfold blankB;rw [decide_eq_false_iff_not];rcases h with h | h
 ·omega
 ·unfold digitB at h; have := of_decide_eq_true h; omega
theorem ev_Next_string (s : ByteArray) (hs : s.size ≤ 8192) {i : Int} (h0 : 0 ≤ i) (h1 : i < s.size) (hq : bt s i = 34) :
 Ev (fun k => jx_Next.f k s i) (if (textS s i).2.2 = 0 then (4, i, (textS s i).2.1, 0, 0, (textS s i).1, (textS s i).2.1, 0) else (0, 0, 0, 0, 0, emp, (textS s i).2.1, (textS s i).2.2)) := by
 unfold jx_Next.f;refine Ev.neg (by omega) (Ev.neg (by omega) (Ev.bind (ev_Skip (by omega) h0 (by omega)) ?_))
 rw [blank_not (.inl hq)];refine Ev.neg (by omega) (Ev.neg (by omega) (Ev.pos hq (Ev.bind (ev_textS s hs h0 h1) ?_)))
 by_cases c : (textS s i).2.2 = 0
 ·exact Ev.pos c (Ev.val (if_pos c).symm)
 ·exact Ev.neg c (Ev.val (if_neg c).symm)
theorem ev_Next_number (s : ByteArray) (hs : s.size ≤ 8192) (h1 : 0 < s.size) (hd9 : ∀ j : Int, 0 ≤ j → j < s.size → digitB (bt s j) = true) (hz : bt s 0 = 48 → s.size = 1) :
 Ev (fun k => jx_Next.f k s 0) (match valS s with | some x => (3, 0, (s.size : Int), 0, x, emp, (s.size : Int), 0) | none => (0, 0, 0, 0, 0, emp, 0, 7)) := by
 have hd0 := hd9 0 (by omega) (by omega)
 have hc : 48 ≤ bt s 0 ∧ bt s 0 ≤ 57 := by unfold digitB at hd0; exact of_decide_eq_true hd0
 unfold jx_Next.f;refine Ev.neg (by omega) (Ev.neg (by omega) (Ev.bind (ev_Skip (by omega) (by omega) (by omega)) ?_))
 rw [blank_not (.inr hd0)];refine Ev.neg (by omega) (Ev.neg (by omega) (Ev.neg (by omega) (Ev.pos hc (Ev.bind (ev_jnum s hs h1 hd9 hz) ?_))))
 cases valS s with
 | none => exact Ev.neg (by simp) (Ev.now _)
 | some x => exact Ev.pos rfl (Ev.now _)
end Go.Proofs.YtdhdpidjdadamaaDoor.Q
