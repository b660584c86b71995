/- Plain words on bytes and runs of bytes: what the scanning loops of flex come to. No program and no memory here. -/
import Derived.Test.YtdhdpidjdadamaaDoorPx11
import Derived.Test.YtdhdpidjdadamaaDoorPx12
namespace Go.Proofs.YtdhdpidjdadamaaDoor.Q
open Go.RowKit Go.Proofs.YtdhdpidjdadamaaDoorW.PrintWords Go.Proofs.YtdhdpidjdadamaaDoorW.PrintLast Go.Proofs.YtdhdpidjdadamaaDoor.PX
set_option linter.unusedVariables false
set_option linter.unusedSimpArgs false
theorem w64 {x : Int} (h0 : -9223372036854775808 ≤ x) (h1 : x ≤ 9223372036854775807) : wrap64 x = x := by unfold wrap64; omega
/-! classes of bytes -/
def letterB (c : Int) : Bool := decide ((97 ≤ c ∧ c ≤ 122) ∨ (65 ≤ c ∧ c ≤ 90) ∨ c = 95)
def digitB (c : Int) : Bool := decide (48 ≤ c ∧ c ≤ 57)
def blankB (c : Int) : Bool := decide (c = 32 ∨ c = 9 ∨ c = 10 ∨ c = 13)
def wordB (c : Int) : Bool := letterB c || digitB c
theorem letter_f (c : Int) : flex_letter.f c = some (letterB c) := by
 unfold flex_letter.f letterB;repeat' split
 all_goals (congr 1; first | (rw [eq_comm, decide_eq_true_iff]; omega) | (rw [Bool.eq_iff_iff, beq_iff_eq, decide_eq_true_iff]; omega))
theorem digit_f (c : Int) : flex_digit.f c = some (digitB c) := by
 unfold flex_digit.f digitB;repeat' split
 all_goals (congr 1; first | (rw [Bool.eq_iff_iff, decide_eq_true_iff, decide_eq_true_iff]; omega) | (rw [eq_comm, decide_eq_false_iff_not]; omega))
theorem jdigit_f (c : Int) : jx_digit.f c = some (digitB c) := digit_f c
theorem blank_f (c : Int) : jx_Blank.f c = some (blankB c) := by
 unfold jx_Blank.f blankB;repeat' split
 all_goals (congr 1; first | (rw [eq_comm, decide_eq_true_iff]; omega) | (rw [Bool.eq_iff_iff, beq_iff_eq, decide_eq_true_iff]; omega))
/-! answers of functions with rounds -/
theorem Ev.pos {α : Type} {c : Prop} [Decidable c] {A B : Nat → Option α} {r : α} (h : c) (e : Ev A r) : Ev (fun k => if c then A k else B k) r := Ev.congr (fun _ => if_pos h) e
theorem Ev.neg {α : Type} {c : Prop} [Decidable c] {A B : Nat → Option α} {r : α} (h : ¬ c) (e : Ev B r) : Ev (fun k => if c then A k else B k) r := Ev.congr (fun _ => if_neg h) e
theorem Ev.pbind {α β : Type} {x : Option β} {a : β} {f : Nat → β → Option α} {r : α} (h : x = some a) (e : Ev (fun k => f k a) r) : Ev (fun k => x.bind (f k)) r := Ev.congr (fun _ => by rw [h]; rfl) e
theorem Ev.val {α : Type} {x y : α} (h : x = y) : Ev (fun _ => some x) y := by subst h; exact Ev.now x
/-! runs -/
/-- The end of the run of bytes with p that begins at i; d bytes are left. -/
def run (p : Int → Bool) (s : ByteArray) : Nat → Int → Int
 | 0, i => i
 | d + 1, i => if p (bt s i) then run p s d (i + 1) else i
/-- The end of the run that begins at i. -/
def runTo (p : Int → Bool) (s : ByteArray) (i : Int) : Int := run p s (s.size - i.toNat) i
theorem run_le (p : Int → Bool) (s : ByteArray) : ∀ d i, i ≤ run p s d i ∧ run p s d i ≤ i + d
 | 0, i => by simp [run]
 | d + 1, i => by
  have := run_le p s d (i + 1);unfold run;split <;> omega
theorem runMem (p : Int → Bool) (s : ByteArray) : ∀ d i j, i ≤ j → j < run p s d i → p (bt s j) = true
 | 0, i, j, h1, h2 => by simp [run] at h2; omega
 | d + 1, i, j, h1, h2 => by
  unfold run at h2;by_cases h : p (bt s i) = true
  ·rw [if_pos h] at h2;by_cases e : i = j
   ·subst e; exact h
   ·exact runMem p s d (i + 1) j (by omega) h2
  ·rw [if_neg h] at h2; omega
theorem run_end (p : Int → Bool) (s : ByteArray) : ∀ d i, run p s d i < i + d → p (bt s (run p s d i)) = false
 | 0, i, h => by simp [run] at h
 | d + 1, i, h => by
  unfold run at h ⊢;by_cases c : p (bt s i) = true
  ·rw [if_pos c] at h ⊢;exact run_end p s d (i + 1) (by omega)
  ·rw [if_neg c];simpa using c
theorem runTo_le (p : Int → Bool) (s : ByteArray) {i : Int} (h0 : 0 ≤ i) (h1 : i ≤ s.size) : i ≤ runTo p s i ∧ runTo p s i ≤ s.size := by
 have := run_le p s (s.size - i.toNat) i;unfold runTo; omega
theorem runTo_in {p : Int → Bool} {s : ByteArray} {i j : Int} (h1 : i ≤ j) (h2 : j < runTo p s i) : p (bt s j) = true := runMem p s _ i j h1 h2
theorem runTo_end {p : Int → Bool} {s : ByteArray} {i : Int} (h0 : 0 ≤ i) (h1 : i ≤ s.size) (h : runTo p s i < s.size) : p (bt s (runTo p s i)) = false := run_end p s _ i (by unfold runTo at h; omega)
theorem runTo_step {p : Int → Bool} {s : ByteArray} {i : Int} (h0 : 0 ≤ i) (h1 : i < s.size) (h : p (bt s i) = true) : runTo p s i = runTo p s (i + 1) := by
 unfold runTo;rw [show s.size - i.toNat = (s.size - (i + 1).toNat) + 1 from by omega]
 conv => lhs; unfold run
 rw [if_pos h]
theorem runTo_stop {p : Int → Bool} {s : ByteArray} {i : Int} (h : p (bt s i) = false) : runTo p s i = i := by
 unfold runTo;cases s.size - i.toNat with
 | zero => rfl
 | succ d => unfold run; rw [if_neg (by simp [h])]
theorem runTo_size (p : Int → Bool) (s : ByteArray) {i : Int} (h : (s.size : Int) ≤ i) : runTo p s i = i := by
 unfold runTo;rw [show s.size - i.toNat = 0 from by omega]; rfl
/-- A run that ends where another test says so: uniqueness. -/
theorem runTo_eq {p : Int → Bool} {s : ByteArray} : ∀ (d : Nat) {i e : Int}, e - i = d → 0 ≤ i → i ≤ e → e ≤ s.size → (∀ j, i ≤ j → j < e → p (bt s j) = true) → (e < s.size → p (bt s e) = false) → runTo p s i = e := by
 intro d;induction d with
 | zero =>
  intro i e hd h0 h1 h2 hin hend;have : i = e := by omega
  subst this;by_cases h : i < s.size
  ·exact runTo_stop (hend h)
  ·exact runTo_size _ _ (by omega)
 | succ d ih =>
  intro i e hd h0 h1 h2 hin hend;rw [runTo_step h0 (by omega) (hin i (by omega) (by omega))]
  exact ih (by omega) (by omega) (by omega) h2 (fun j hj hj2 => hin j (by omega) hj2) hend
/-- A scanning loop of the code comes to the run's end. -/
theorem ev_scan {s : ByteArray} (hs : s.size ≤ 140737488351232) (p : Int → Bool) (l : Nat → Int → Option Int)
 (step : ∀ (k : Nat) (i : Int), 0 ≤ i → i ≤ s.size → l (k + 1) i = if i < s.size then (if p (bt s i) = true then l k (i + 1) else some i) else some i) :
 ∀ (d : Nat) (i : Int), (s.size : Int) - i = d → 0 ≤ i → i ≤ s.size → Ev (fun k => l k i) (runTo p s i) := by
 intro d;induction d with
 | zero =>
  intro i hd h0 h1;refine Ev.step (fun k => step k i h0 h1) ?_
  rw [runTo_size _ _ (by omega)]
  exact Ev.neg (by omega) (Ev.now _)
 | succ d ih =>
  intro i hd h0 h1;refine Ev.step (fun k => step k i h0 h1) ?_
  refine Ev.pos (by omega) ?_
  by_cases h : p (bt s i) = true
  ·rw [runTo_step h0 (by omega) h]
   exact Ev.pos h (ih (i + 1) (by omega) (by omega) (by omega))
  ·rw [runTo_stop (by simpa using h)]
   exact Ev.neg h (Ev.now _)
/-! flex.name, jsonlex.Skip, flex.skip -/
def nameEnd (s : ByteArray) (i : Int) : Int := if i < s.size ∧ letterB (bt s i) = true then runTo wordB s i else i
theorem nameEnd_le (s : ByteArray) {i : Int} (h0 : 0 ≤ i) (h1 : i ≤ s.size) : i ≤ nameEnd s i ∧ nameEnd s i ≤ s.size := by
 unfold nameEnd;split
 ·exact runTo_le _ _ h0 h1
 ·omega
theorem ev_name_l {s : ByteArray} (hs : s.size ≤ 140737488351232) {j : Int} (a : 0 ≤ j) (b : j ≤ s.size) : Ev (fun k => flex_name.l0 k s j) (runTo wordB s j) := by
 refine ev_scan hs wordB (fun k j => flex_name.l0 k s j) ?_ (s.size - j.toNat) j (by omega) a b
 intro k i a b;simp only [flex_name.l0];by_cases h : i < s.size
 ·rw [if_pos h, if_pos h, if_pos a, letter_f, digit_f, w64 (by omega) (by omega)]
  simp only [Option.bind_some, wordB, Bool.or_eq_true];by_cases c1 : letterB (bt s i) = true <;> by_cases c2 : digitB (bt s i) = true <;> simp [c1, c2]
 ·rw [if_neg h, if_neg h]
theorem ev_name_j {s : ByteArray} (hs : s.size ≤ 140737488351232) {i : Int} (h0 : 0 ≤ i) (h1 : i ≤ s.size) (b : Bool) : Ev (fun k => flex_name.j0 k s i b) (if b then i else runTo wordB s i) := by
 refine Ev.step (fun k => by rw [flex_name.j0]) ?_
 cases b with
 | true => exact Ev.pos rfl (Ev.val (by simp))
 | false => exact Ev.neg (by simp) (by simpa using ev_name_l hs h0 h1)
theorem ev_name {s : ByteArray} (hs : s.size ≤ 140737488351232) {i : Int} (h0 : 0 ≤ i) (h1 : i ≤ s.size) : Ev (fun k => flex_name.f k s i) (nameEnd s i) := by
 unfold flex_name.f nameEnd;by_cases h : i < s.size
 ·refine Ev.neg (by omega) (Ev.pos h0 (Ev.pos h (Ev.pbind (letter_f _) ?_)))
  have := ev_name_j hs h0 h1 (!letterB (bt s i));by_cases c : letterB (bt s i) = true
  ·simpa [c, h] using this
  ·simpa [c, h] using this
 ·refine Ev.pos (by omega) ?_
  simpa [h] using ev_name_j hs h0 h1 true
theorem ev_Skip {s : ByteArray} (hs : s.size ≤ 140737488351232) {i : Int} (h0 : 0 ≤ i) (h1 : i ≤ s.size) : Ev (fun k => jx_Skip.f k s i) (runTo blankB s i) := by
 unfold jx_Skip.f;refine Ev.neg (by omega) ?_
 refine ev_scan hs blankB (fun k j => jx_Skip.l0 k s j) ?_ (s.size - i.toNat) i (by omega) h0 h1
 intro k i a b;simp only [jx_Skip.l0];by_cases h : i < s.size
 ·rw [if_pos h, if_pos h, if_pos a, blank_f, w64 (by omega) (by omega)]
  simp only [Option.bind_some]
 ·rw [if_neg h, if_neg h]
/-- Behind blanks and comments; d bytes at most are left. -/
def gapD (s : ByteArray) : Nat → Int → Int
 | 0, i => runTo blankB s i
 | d + 1, i => if runTo blankB s i = s.size then s.size else if bt s (runTo blankB s i) ≠ 35 then runTo blankB s i else gapD s d (runTo (fun c => c != 10) s (runTo blankB s i))
def gap (s : ByteArray) (i : Int) : Int := gapD s (s.size - i.toNat + 1) i
theorem ev_gap {s : ByteArray} (hs : s.size ≤ 140737488351232) : ∀ (d : Nat) (i : Int), (s.size : Int) - i < d → 0 ≤ i → i ≤ s.size → Ev (fun k => flex_skip.l0 k s i) (gapD s d i) := by
 intro d;induction d with
 | zero => intro i hd h0 h1; omega
 | succ d ih =>
  intro i hd h0 h1;have hb := runTo_le blankB s h0 h1;unfold gapD;refine Ev.step (fun k => by rw [flex_skip.l0]) ?_
  refine Ev.bind (ev_Skip hs h0 h1) ?_
  by_cases he : runTo blankB s i = s.size
  ·rw [if_pos he];refine Ev.pos he (Ev.step (fun k => by rw [flex_skip.j1]) (Ev.pos rfl (Ev.val he)))
  ·rw [if_neg he];refine Ev.neg he (Ev.pos (by omega) (Ev.pos (by omega) (Ev.step (fun k => by rw [flex_skip.j1]) ?_)))
   generalize hj : runTo blankB s i = j at *;by_cases hc : bt s j ≠ 35
   ·rw [if_pos hc];exact Ev.pos (by simp [hc]) (Ev.now _)
   ·rw [if_neg hc];have hc : bt s j = 35 := by simpa using hc
    refine Ev.neg (by simp [hc]) ?_
    have hl : ∀ (e : Nat) (m : Int), (s.size : Int) - m = e → 0 ≤ m → m ≤ s.size → (s.size : Int) - runTo (fun c => c != 10) s m < d → Ev (fun k => flex_skip.l1 k s m) (gapD s d (runTo (fun c => c != 10) s m)) := by
     intro e;induction e with
     | zero =>
      intro m he a b hlt;rw [runTo_size _ _ (by omega)] at hlt ⊢
      refine Ev.step (fun k => by rw [flex_skip.l1]) (Ev.neg (by omega) ?_)
      exact ih m hlt a b
     | succ e ihe =>
      intro m he a b hlt;by_cases h10 : bt s m = 10
      ·rw [runTo_stop (by simp [h10])] at hlt ⊢
       refine Ev.step (fun k => by rw [flex_skip.l1]) (Ev.pos (by omega) (Ev.pos a (Ev.pos h10 ?_)))
       exact ih m hlt a b
      ·rw [runTo_step a (by omega) (by simp [h10])] at hlt ⊢
       refine Ev.step (fun k => by rw [flex_skip.l1]) (Ev.pos (by omega) (Ev.pos a (Ev.neg h10 ?_)))
       rw [w64 (by omega) (by omega)]
       exact ihe (m + 1) (by omega) (by omega) (by omega) hlt
    refine hl (s.size - j.toNat) j (by omega) (by omega) (by omega) ?_
    rw [runTo_step (by omega) (by omega) (by simp [hc])]
    have := runTo_le (fun c => c != 10) s (i := j + 1) (by omega) (by omega)
    omega
theorem ev_skip {s : ByteArray} (hs : s.size ≤ 140737488351232) {i : Int} (h0 : 0 ≤ i) (h1 : i ≤ s.size) : Ev (fun k => flex_skip.f k s i) (gap s i) :=
 ev_gap hs _ i (by omega) h0 h1
theorem gapD_le (s : ByteArray) : ∀ (d : Nat) (i : Int), 0 ≤ i → i ≤ s.size → i ≤ gapD s d i ∧ gapD s d i ≤ s.size := by
 intro d;induction d with
 | zero => intro i h0 h1; exact runTo_le _ _ h0 h1
 | succ d ih =>
  intro i h0 h1;have hb := runTo_le blankB s h0 h1;have hc := runTo_le (fun c => c != 10) s (i := runTo blankB s i) (by omega) (by omega)
  have := ih (runTo (fun c => c != 10) s (runTo blankB s i)) (by omega) (by omega)
  unfold gapD;split
  ·omega
  ·split <;> omega
theorem gap_le (s : ByteArray) {i : Int} (h0 : 0 ≤ i) (h1 : i ≤ s.size) : i ≤ gap s i ∧ gap s i ≤ s.size := gapD_le s _ i h0 h1
end Go.Proofs.YtdhdpidjdadamaaDoor.Q
