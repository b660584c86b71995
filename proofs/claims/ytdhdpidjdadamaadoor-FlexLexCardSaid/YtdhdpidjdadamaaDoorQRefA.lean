/- Plain words on the reference (ndjqref10): its words, gaps, keywords, names and numbers come to what flex's come to. No program and no memory here. -/
import Derived.Test.YtdhdpidjdadamaaDoorQAwake
import Derived.Test.YtdhdpidjdadamaaDoorPx21
namespace Go.Proofs.YtdhdpidjdadamaaDoor.Q
open Go.RowKit Go.Proofs.YtdhdpidjdadamaaDoorW.PrintWords Go.Proofs.YtdhdpidjdadamaaDoorW.PrintLast Go.Proofs.YtdhdpidjdadamaaDoor.PX
set_option linter.unusedVariables false
set_option linter.unusedSimpArgs false
theorem rletter_f (c : Int) : rt_letter.f c = some (letterB c) := letter_f c
theorem rdigit_f (c : Int) : rt_digit.f c = some (digitB c) := digit_f c
theorem rblank_f (c : Int) : rj_Blank.f c = some (blankB c) := blank_f c
theorem ev_rword_l {s : ByteArray} (hs : s.size ≤ 140737488351232) {j : Int} (a : 0 ≤ j) (b : j ≤ s.size) : Ev (fun k => rt_word.l0 k s j) (runTo wordB s j) := by
 refine ev_scan hs wordB (fun k j => rt_word.l0 k s j) ?_ (s.size - j.toNat) j (by omega) a b
 intro k i a b;simp only [rt_word.l0];by_cases h : i < s.size
 ·rw [if_pos h, if_pos h, if_pos a, rletter_f, rdigit_f, w64 (by omega) (by omega)]
  simp only [Option.bind_some, wordB, Bool.or_eq_true];by_cases c1 : letterB (bt s i) = true <;> by_cases c2 : digitB (bt s i) = true <;> simp [c1, c2]
 ·rw [if_neg h, if_neg h]
theorem ev_rword_j {s : ByteArray} (hs : s.size ≤ 140737488351232) {i : Int} (h0 : 0 ≤ i) (h1 : i ≤ s.size) (b : Bool) : Ev (fun k => rt_word.j0 k s i b) (if b then i else runTo wordB s i) := by
 refine Ev.step (fun k => by rw [rt_word.j0]) ?_
 cases b with
 | true => exact Ev.pos rfl (Ev.val (by simp))
 | false => exact Ev.neg (by simp) (by simpa using ev_rword_l hs h0 h1)
theorem ev_rword {s : ByteArray} (hs : s.size ≤ 140737488351232) {i : Int} (h0 : 0 ≤ i) (h1 : i ≤ s.size) : Ev (fun k => rt_word.f k s i) (nameEnd s i) := by
 unfold rt_word.f nameEnd;by_cases h : i < s.size
 ·refine Ev.neg (by omega) (Ev.pos h0 (Ev.pos h (Ev.pbind (rletter_f _) ?_)))
  have := ev_rword_j hs h0 h1 (!letterB (bt s i));by_cases c : letterB (bt s i) = true
  ·simpa [c, h] using this
  ·simpa [c, h] using this
 ·refine Ev.pos (by omega) ?_
  simpa [h] using ev_rword_j hs h0 h1 true
theorem ev_rSkip {s : ByteArray} (hs : s.size ≤ 140737488351232) {i : Int} (h0 : 0 ≤ i) (h1 : i ≤ s.size) : Ev (fun k => rj_Skip.f k s i) (runTo blankB s i) := by
 unfold rj_Skip.f;refine Ev.neg (by omega) ?_
 rw [decide_eq_false (by omega)]
 refine Ev.step (fun k => by first | (rw [rj_Skip.j0]; done) | (rw [rj_Skip.j0]; rfl)) (Ev.neg (by simp) ?_)
 refine ev_scan hs blankB (fun k j => rj_Skip.l0 k s j) ?_ (s.size - i.toNat) i (by omega) h0 h1
 intro k i a b;simp only [rj_Skip.l0];by_cases h : i < s.size
 ·rw [if_pos h, if_pos h, if_pos a, rblank_f, w64 (by omega) (by omega)]
  simp only [Option.bind_some]
 ·rw [if_neg h, if_neg h]
theorem ev_rgap {s : ByteArray} (hs : s.size ≤ 140737488351232) : ∀ (d : Nat) (i : Int), (s.size : Int) - i < d → 0 ≤ i → i ≤ s.size → Ev (fun k => rt_gap.l0 k s i) (gapD s d i) := by
 intro d;induction d with
 | zero => intro i hd h0 h1; omega
 | succ d ih =>
  intro i hd h0 h1;have hb := runTo_le blankB s h0 h1;unfold gapD;refine Ev.step (fun k => by rw [rt_gap.l0]) ?_
  refine Ev.bind (ev_rSkip hs h0 h1) ?_
  by_cases he : runTo blankB s i = s.size
  ·rw [if_pos he];refine Ev.pos he (Ev.step (fun k => by rw [rt_gap.j1]) (Ev.pos rfl (Ev.val he)))
  ·rw [if_neg he];refine Ev.neg he (Ev.pos (by omega) (Ev.pos (by omega) (Ev.step (fun k => by rw [rt_gap.j1]) ?_)))
   generalize hj : runTo blankB s i = j at *;by_cases hc : bt s j ≠ 35
   ·rw [if_pos hc];exact Ev.pos (by simp [hc]) (Ev.now _)
   ·rw [if_neg hc];have hc : bt s j = 35 := by simpa using hc
    refine Ev.neg (by simp [hc]) ?_
    have hl : ∀ (e : Nat) (m : Int), (s.size : Int) - m = e → 0 ≤ m → m ≤ s.size → (s.size : Int) - runTo (fun c => c != 10) s m < d → Ev (fun k => rt_gap.l1 k s m) (gapD s d (runTo (fun c => c != 10) s m)) := by
     intro e;induction e with
     | zero =>
      intro m he a b hlt;rw [runTo_size _ _ (by omega)] at hlt ⊢
      refine Ev.step (fun k => by rw [rt_gap.l1]) (Ev.neg (by omega) ?_)
      exact ih m hlt a b
     | succ e ihe =>
      intro m he a b hlt;by_cases h10 : bt s m = 10
      ·rw [runTo_stop (by simp [h10])] at hlt ⊢
       refine Ev.step (fun k => by rw [rt_gap.l1]) (Ev.pos (by omega) (Ev.pos a (Ev.pos h10 ?_)))
       exact ih m hlt a b
      ·rw [runTo_step a (by omega) (by simp [h10])] at hlt ⊢
       refine Ev.step (fun k => by rw [rt_gap.l1]) (Ev.pos (by omega) (Ev.pos a (Ev.neg h10 ?_)))
       rw [w64 (by omega) (by omega)]
       exact ihe (m + 1) (by omega) (by omega) (by omega) hlt
    refine hl (s.size - j.toNat) j (by omega) (by omega) (by omega) ?_
    rw [runTo_step (by omega) (by omega) (by simp [hc])]
    have := runTo_le (fun c => c != 10) s (i := j + 1) (by omega) (by omega)
    omega
theorem ev_rgapF {s : ByteArray} (hs : s.size ≤ 140737488351232) {i : Int} (h0 : 0 ≤ i) (h1 : i ≤ s.size) : Ev (fun k => rt_gap.f k s i) (gap s i) :=
 ev_rgap hs _ i (by omega) h0 h1
theorem rkeyword_f (x : ByteArray) : rt_Keyword.f x = some (kwS x) := keyword_f x
theorem rname_f {s : ByteArray} (hs : s.size ≤ 140737488351232) : Ev (fun k => rt_Name.f k s) (decide (0 < s.size ∧ s.size ≤ 32 ∧ nameEnd s 0 = s.size)) := by
 unfold rt_Name.f;have hl : s.toList.length = s.size := by rw [ByteArray.toList_eq]; exact data_length s
 by_cases c : s.toList = []
 ·refine Ev.pos c (Ev.val ?_)
  have : s.size = 0 := by rw [← hl, c]; rfl
  rw [eq_comm, decide_eq_false_iff_not]; omega
 ·refine Ev.neg c ?_
  have hp : 0 < s.size := by
   rcases Nat.eq_zero_or_pos s.size with h | h
   ·exact absurd (List.eq_nil_of_length_eq_zero (by omega)) c
   ·exact h
  by_cases c2 : (s.size : Int) ≤ 32
  ·refine Ev.pos c2 (Ev.bind (ev_rword hs (by omega) (by omega)) (Ev.val ?_))
   rw [Bool.eq_iff_iff, beq_iff_eq, decide_eq_true_iff];exact ⟨fun h => ⟨hp, by omega, h⟩, fun h => h.2.2⟩
  ·refine Ev.neg c2 (Ev.val ?_)
   rw [eq_comm, decide_eq_false_iff_not]; omega
/-! tokens of the reference: what flex's token says, in the reference's order -/
def refT (i : Int) (t : Int × Int × ByteArray × Int × Int × Int) : Int × Int × ByteArray × Int × Int × Int × Int :=
 if t.2.2.2.2.2 = 0 then (t.1, i, t.2.2.1, t.2.2.2.1, t.2.2.2.2.1, 0, 0) else (0, 0, emp, 0, 0, t.2.2.2.2.1, t.2.2.2.2.2)
theorem ev_named (s : ByteArray) (hs : s.size ≤ 8192) (a : Int) {f kind : Int} (h0 : 0 ≤ f) (h1 : f ≤ s.size) (hf : nameEnd s f ≠ f) : Ev (fun k => rt_named.f k s kind a f) (refT a (nameTok s a f kind)) := by
 have hb := nameEnd_le s h0 h1;unfold rt_named.f;refine Ev.bind (ev_rword (by omega) h0 h1) ?_
 unfold nameTok;rw [if_neg hf];generalize nameEnd s f = e at *;rw [w64 (x := e - f) (by omega) (by omega)]
 by_cases c2 : e - f > 32
 ·refine Ev.pos c2 (Ev.val ?_); rw [if_pos c2]; rfl
 refine Ev.neg c2 ?_
 rw [if_neg c2];by_cases c3 : kind = 1
 ·refine Ev.pos c3 (Ev.pos h0 (Ev.pos hb.1 (Ev.pos hb.2 (Ev.pbind (rkeyword_f _) ?_))))
  by_cases c4 : kwS (s.extract f.toNat e.toNat) = true
  ·refine Ev.pos c4 (Ev.val ?_)
   rw [if_pos (show kind = 1 ∧ kwS (s.extract f.toNat e.toNat) = true from ⟨c3, c4⟩)]; rfl
  ·refine Ev.neg c4 (Ev.val ?_)
   rw [if_neg (show ¬ (kind = 1 ∧ kwS (s.extract f.toNat e.toNat) = true) from fun h => c4 h.2)]; rfl
 ·refine Ev.neg c3 (Ev.pos h0 (Ev.pos hb.1 (Ev.pos hb.2 (Ev.val ?_))))
  rw [if_neg (show ¬ (kind = 1 ∧ kwS (s.extract f.toNat e.toNat) = true) from fun h => c3 h.1)]; rfl
/-! digits of the reference -/
theorem u64_in {x : Int} (h0 : 0 ≤ x) (h1 : x < 18446744073709551616) : IntKind.u64.wrap x = x := by rw [IntKind.wrap_u64]; omega
theorem ev_integer (s : ByteArray) (hs : s.size ≤ 8192) (hd9 : ∀ j : Int, 0 ≤ j → j < s.size → digitB (bt s j) = true) : ∀ (d : Nat) (i n : Int), (s.size : Int) - i = d → 0 ≤ i → 0 ≤ n → n ≤ 9223372036854775808 →
 ∃ v, Ev (fun k => rj_Integer.l0 k s false n i) v ∧ (match (accD s d (some n) i).bind fun x => if x < 9223372036854775808 then some x else none with | some x => v = (x, true) | none => v.2 = false) := by
 intro d;induction d with
 | zero =>
  intro i n hd h0 hn0 hn1;refine ⟨(wrap64 n, decide (n < 9223372036854775808)), Ev.step (fun k => by first | (rw [rj_Integer.l0]; done) | (rw [rj_Integer.l0]; rfl)) (Ev.neg (by omega) (Ev.neg (by simp) (Ev.now _))), ?_⟩
  simp only [accD, Option.bind_some];by_cases c : n < 9223372036854775808
  ·rw [if_pos c];simp only
   rw [w64 (by omega) (by omega), decide_eq_true c]
  ·rw [if_neg c];simp only
   exact decide_eq_false c
 | succ d ih =>
  intro i n hd h0 hn0 hn1;have hdig := hd9 i h0 (by omega)
  have hc : 48 ≤ bt s i ∧ bt s i ≤ 57 := by unfold digitB at hdig; exact of_decide_eq_true hdig
  have st : ∀ v, Ev (fun k => if i < (s.size : Int) then (if 0 ≤ i then (if n > ((9223372036854775808 - (((bt s i) - 48) % 256)) / 10) then (some (0, false)) else (rj_Integer.l0 k s false (IntKind.u64.wrap ((IntKind.u64.wrap (n * 10)) + (((bt s i) - 48) % 256))) (wrap64 (i + 1)))) else (none)) else (if false = true then (some (wrap64 (-(wrap64 (n))), true)) else (some (wrap64 (n), decide (n < 9223372036854775808))))) v → Ev (fun k => rj_Integer.l0 k s false n i) v := fun v e => Ev.step (fun k => by first | (rw [rj_Integer.l0]; done) | (rw [rj_Integer.l0]; rfl)) e
  rw [show (bt s i - 48) % 256 = bt s i - 48 from by omega] at st
  simp only [accD, Option.bind_some];have hc0 : 0 ≤ bt s i - 48 ∧ bt s i - 48 ≤ 9 := by omega
  generalize bt s i - 48 = c at hc0 st ⊢;by_cases hgt : n > (9223372036854775808 - c) / 10
  ·refine ⟨(0, false), st _ (Ev.pos (by omega) (Ev.pos h0 (Ev.pos hgt (Ev.now _)))), ?_⟩
   rw [if_pos hgt];have : ∀ d i, accD s d none i = none := by
    intro d;induction d with
    | zero => intro i; rfl
    | succ d ih => intro i; simp only [accD, Option.bind_none]; exact ih _
   rw [this];rfl
  ·rw [if_neg hgt];obtain ⟨v, e, hv⟩ := ih (i + 1) (n * 10 + c) (by omega) (by omega) (by omega) (by omega)
   refine ⟨v, st v (Ev.pos (by omega) (Ev.pos h0 (Ev.neg hgt ?_))), hv⟩
   rw [w64 (x := i + 1) (by omega) (by omega), u64_in (x := n * 10) (by omega) (by omega), u64_in (by omega) (by omega)]
   exact e
theorem ev_rnumber (s : ByteArray) (hs : s.size ≤ 8192) {i : Int} (h0 : 0 ≤ i) (h1 : i < s.size) (hd : digitB (bt s i) = true) : Ev (fun k => rt_number.f k s i) (refT i (numTok s i)) := by
 unfold rt_number.f;have hl : ∀ (d : Nat) (j : Int) (r : _), (s.size : Int) - j = d → 0 ≤ j → j ≤ s.size → Ev (fun k => rt_number.j1 k s i (runTo digitB s j)) r → Ev (fun k => rt_number.l0 k s i j) r := by
  intro d;induction d with
  | zero =>
   intro j r hd2 a b e;rw [runTo_size _ _ (by omega)] at e
   exact Ev.step (fun k => by first | (rw [rt_number.l0]; done) | (rw [rt_number.l0]; rfl)) (Ev.neg (by omega) e)
  | succ d ih =>
   intro j r hd2 a b e;refine Ev.step (fun k => by first | (rw [rt_number.l0]; done) | (rw [rt_number.l0]; rfl)) (Ev.pos (by omega) (Ev.pos a (Ev.pbind (rdigit_f _) ?_)))
   by_cases c : digitB (bt s j) = true
   ·refine Ev.pos c ?_
    rw [w64 (by omega) (by omega)]
    rw [runTo_step a (by omega) c] at e
    exact ih (j + 1) r (by omega) (by omega) (by omega) e
   ·rw [runTo_stop (by simpa using c)] at e
    exact Ev.neg c e
 refine hl (s.size - i.toNat) i _ (by omega) h0 (by omega) ?_
 have hb := runTo_le digitB s h0 (by omega)
 have hst := runTo_step h0 h1 hd;have hb2 := runTo_le digitB s (i := i + 1) (by omega) (by omega)
 have hin := fun j (a : i ≤ j) (b : j < runTo digitB s i) => runTo_in (p := digitB) (s := s) a b
 unfold numTok;generalize runTo digitB s i = e at *;have j2 : ∀ b : Bool, b = decide (bt s i = 48 ∧ i + 1 < e) → Ev (fun k => rt_number.j2 k s i e b) (refT i (if bt s i = 48 ∧ i + 1 < e then (0, 0, emp, 0, i, 4) else if (e < s.size ∧ letterB (bt s e) = true) ∨ (e + 1 < s.size ∧ bt s e = 46 ∧ digitB (bt s (e + 1)) = true) then (0, 0, emp, 0, i, 7) else match valS (s.extract i.toNat e.toNat) with | some v => (5, 0, emp, v, e, 0) | none => (0, 0, emp, 0, i, 7))) := by
  intro b hbz;refine Ev.step (fun k => by first | (rw [rt_number.j2]; done) | (rw [rt_number.j2]; rfl)) ?_
  by_cases cz : bt s i = 48 ∧ i + 1 < e
  ·refine Ev.pos (by rw [hbz]; exact decide_eq_true cz) (Ev.val ?_)
   rw [if_pos cz]; rfl
  rw [if_neg cz];refine Ev.neg (by rw [hbz, decide_eq_false cz]; simp) (Ev.pos h0 (Ev.pos (by omega) (Ev.pos hb.2 ?_)))
  have hsz := size_extract' s h0 hb.1 hb.2;obtain ⟨v, ev, hv⟩ := ev_integer (s.extract i.toNat e.toNat) (by omega) (fun j a b => by
   rw [bt_extract s h0 hb.1 hb.2 a (by omega)]
   exact hin _ (by omega) (by omega)) (s.extract i.toNat e.toNat).size 0 0 (by omega) (by omega) (by omega) (by omega)
  refine Ev.bind (g := fun k => rj_Integer.f k (s.extract i.toNat e.toNat) false) ev ?_
  have hv : (match valS (s.extract i.toNat e.toNat) with | some x => v = (x, true) | none => v.2 = false) := hv
  cases hval : valS (s.extract i.toNat e.toNat) with
  | none =>
   rw [hval] at hv;simp only at hv;refine Ev.neg (by rw [hv]; simp) (Ev.val ?_)
   simp only
   split <;> rfl
  | some x =>
   rw [hval] at hv;simp only at hv;subst hv;refine Ev.pos rfl ?_
   simp only
   have bad : ((e < s.size ∧ letterB (bt s e) = true) ∨ (e + 1 < s.size ∧ bt s e = 46 ∧ digitB (bt s (e + 1)) = true)) → Ev (fun _ => some (0, 0, emp, 0, 0, i, 7)) (refT i (if (e < s.size ∧ letterB (bt s e) = true) ∨ (e + 1 < s.size ∧ bt s e = 46 ∧ digitB (bt s (e + 1)) = true) then (0, 0, emp, 0, i, 7) else (5, 0, emp, x, e, 0))) := by
    intro h; rw [if_pos h]; exact Ev.now _
   have good : ¬ ((e < s.size ∧ letterB (bt s e) = true) ∨ (e + 1 < s.size ∧ bt s e = 46 ∧ digitB (bt s (e + 1)) = true)) → Ev (fun _ => some (5, i, emp, x, e, 0, 0)) (refT i (if (e < s.size ∧ letterB (bt s e) = true) ∨ (e + 1 < s.size ∧ bt s e = 46 ∧ digitB (bt s (e + 1)) = true) then (0, 0, emp, 0, i, 7) else (5, 0, emp, x, e, 0))) := by
    intro h; rw [if_neg h]; exact Ev.now _
   rw [w64 (x := e + 1) (by omega) (by omega)]
   by_cases c1 : e < s.size
   ·refine Ev.pos c1 (Ev.pos (by omega) (Ev.pbind (rletter_f _) ?_))
    by_cases c2 : letterB (bt s e) = true
    ·exact Ev.pos c2 (bad (.inl ⟨c1, c2⟩))
    ·refine Ev.neg c2 ?_
     by_cases c3 : e + 1 < s.size
     ·refine Ev.pos c3 ?_
      by_cases c4 : bt s e = 46
      ·refine Ev.pos c4 (Ev.pos (by omega) (Ev.pbind (rdigit_f _) ?_))
       by_cases c5 : digitB (bt s (e + 1)) = true
       ·exact Ev.pos c5 (bad (.inr ⟨c3, c4, c5⟩))
       ·refine Ev.neg c5 (good ?_)
        rintro (h | h)
        ·exact c2 h.2
        ·exact c5 h.2.2
      ·refine Ev.neg c4 (good ?_)
       rintro (h | h)
       ·exact c2 h.2
       ·exact c4 h.2.1
     ·refine Ev.neg c3 (good ?_)
      rintro (h | h)
      ·exact c2 h.2
      ·exact c3 h.1
   ·refine Ev.neg c1 (Ev.neg (by omega) (good ?_))
    rintro (h | h)
    ·exact c1 h.1
    ·omega
 refine Ev.step (fun k => by first | (rw [rt_number.j1]; done) | (rw [rt_number.j1]; rfl)) (Ev.pos h0 (Ev.pos h1 ?_))
 rw [w64 (x := i + 1) (by omega) (by omega)]
 by_cases c : bt s i = 48
 ·refine Ev.pos c (j2 _ ?_)
  rw [Bool.eq_iff_iff, decide_eq_true_iff, decide_eq_true_iff];exact ⟨fun h => ⟨c, by omega⟩, fun h => by omega⟩
 ·refine Ev.neg c (j2 false ?_)
  rw [eq_comm, decide_eq_false_iff_not];exact fun h => c h.1
end Go.Proofs.YtdhdpidjdadamaaDoor.Q
