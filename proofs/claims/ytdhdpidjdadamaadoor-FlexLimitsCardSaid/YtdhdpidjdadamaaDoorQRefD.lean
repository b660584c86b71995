/- Plain words on the reference (ndjqref10): its tokens, and the tokens of a text, are those of flex. No program and no memory here. -/
import Derived.Test.YtdhdpidjdadamaaDoorQRefC
namespace Go.Proofs.YtdhdpidjdadamaaDoor.Q
open Go.RowKit Go.Proofs.YtdhdpidjdadamaaDoorW.PrintWords Go.Proofs.YtdhdpidjdadamaaDoorW.PrintLast Go.Proofs.YtdhdpidjdadamaaDoorW.PrintMore Go.Proofs.YtdhdpidjdadamaaDoor.PX
set_option linter.unusedVariables false
set_option linter.unusedSimpArgs false
/-! signs -/
theorem sign_cond (s g : ByteArray) {a : Int} (h0 : 0 ≤ a) (h1 : a < s.size) : pre (s.extract a.toNat s.size) g = true ↔ ((s.size : Int) - a ≥ g.size ∧ (s.extract a.toNat (a + g.size).toNat).toList = g.toList) := by
 unfold pre;simp only [Bool.and_eq_true, decide_eq_true_eq, beq_iff_eq, ByteArray.size_extract];have e : g.size ≤ s.size - a.toNat → ((s.extract a.toNat s.size).extract 0 g.size).toList = (s.extract a.toNat (a + g.size).toNat).toList := by
  intro h;rw [ext_list, ext_list, ← ByteArray.toList_eq, ext_list, List.drop_zero, List.take_take];congr 1; omega
 rw [Nat.min_self];constructor
 ·rintro ⟨h, h2⟩;exact ⟨by omega, by rw [← e h]; exact h2⟩
 ·rintro ⟨h, h2⟩;exact ⟨by omega, by rw [e (by omega)]; exact h2⟩
theorem ev_rsignL (s : ByteArray) (hs : s.size ≤ 8192) {a : Int} (h0 : 0 ≤ a) (h1 : a < s.size) (l : List ByteArray) (hl : l.length ≤ 100) (hg : ∀ g ∈ l, g.size ≤ 100) : ∀ (d i : Nat), l.length - i = d → i ≤ l.length →
 Ev (fun k => rt_token.l0 k s a l (i : Int)) (refT a (match (l.drop i).find? (fun g => pre (s.extract a.toNat s.size) g) with | some g => (7, 0, g, 0, a + g.size, 0) | none => (0, 0, emp, 0, a, 4))) := by
 intro d;induction d with
 | zero =>
  intro i hd hi;refine Ev.step (fun k => by first | (rw [rt_token.l0]; done) | (rw [rt_token.l0]; rfl)) (Ev.neg (by omega) ?_)
  rw [List.drop_eq_nil_of_le (by omega)]
  exact Ev.now _
 | succ d ih =>
  intro i hd hi;refine Ev.step (fun k => by first | (rw [rt_token.l0]; done) | (rw [rt_token.l0]; rfl)) (Ev.pos (by omega) (Ev.pos (by omega) ?_))
  rw [rdOf_drop l i (by omega)]
  have hm : rdOf ByteArray.empty l (i : Int) ∈ l := by
   have : rdOf ByteArray.empty l (i : Int) ∈ l.drop i := by rw [rdOf_drop l i (by omega)]; exact List.mem_cons_self
   exact List.mem_of_mem_drop this
  have hgs := hg _ hm;have hc := sign_cond s (rdOf ByteArray.empty l (i : Int)) h0 h1;generalize rdOf ByteArray.empty l (i : Int) = g at *;rw [w64 (x := (s.size : Int) - a) (by omega) (by omega), w64 (x := a + g.size) (by omega) (by omega), w64 (x := (i : Int) + 1) (by omega) (by omega)]
  simp only [List.find?_cons]
  have nx := ih (i + 1) (by omega) (by omega)
  rw [show ((i + 1 : Nat) : Int) = (i : Int) + 1 by omega] at nx
  by_cases c : pre (s.extract a.toNat s.size) g = true
  ·rw [c];have h := hc.1 c;exact Ev.pos h.1 (Ev.pos h0 (Ev.pos (by omega) (Ev.pos (by omega) (Ev.pos h.2 (Ev.now _)))))
  ·rw [show pre (s.extract a.toNat s.size) g = false by simpa using c]
   by_cases c2 : (s.size : Int) - a ≥ g.size
   ·exact Ev.pos c2 (Ev.pos h0 (Ev.pos (by omega) (Ev.pos (by omega) (Ev.neg (fun h => c (hc.2 ⟨c2, h⟩)) nx))))
   ·exact Ev.neg c2 nx
theorem rsigns_f : rt_signs.f = some flexSigns := rfl
theorem ev_rsign (s : ByteArray) (hs : s.size ≤ 8192) {a : Int} (h0 : 0 ≤ a) (h1 : a < s.size) : Ev (fun k => rt_token.l0 k s a flexSigns 0) (refT a (signTok s a)) :=
 ev_rsignL s hs h0 h1 flexSigns (by decide) (fun g hg => by have := signs_small g hg; omega) flexSigns.length 0 (by omega) (by omega)
theorem signs_dollar : ∀ g ∈ flexSigns, bt g 0 ≠ 36 := by decide +kernel
/-- No sign begins with a dollar sign. -/
theorem sign_dollar (s : ByteArray) {a : Int} (h0 : 0 ≤ a) (h1 : a < s.size) (h : bt s a = 36) : signTok s a = (0, 0, emp, 0, a, 4) := by
 unfold signTok;have hn : flexSigns.find? (fun g => pre (s.extract a.toNat s.size) g) = none := by
  rw [List.find?_eq_none]
  intro g hg hp;have hc := (sign_cond s g h0 h1).1 hp;have h3 := signs_small g hg;have h4 := signs_dollar g hg;have hl := hc.2;rw [ext_list, ByteArray.toList_eq] at hl;obtain ⟨q0, e0⟩ := bt_get g (i := 0) (by omega) (by omega)
  obtain ⟨q1, e1⟩ := bt_get s h0 h1;have : s.data.toList[a.toNat] = g.data.toList[(0 : Int).toNat] := by
   have e : g.data.toList[(0 : Int).toNat] = ((s.data.toList.drop a.toNat).take ((a + g.size).toNat - a.toNat))[0]'(by rw [hl]; exact q0) := by
    simp only [hl]; rfl
   rw [e, List.getElem_take, List.getElem_drop];rfl
  rw [this] at e1;omega
 rw [hn]
/-! a token -/
theorem nameEnd_letter {s : ByteArray} {a : Int} (h0 : 0 ≤ a) (h1 : a < s.size) (h : letterB (bt s a) = true) : nameEnd s a ≠ a := by
 unfold nameEnd;rw [if_pos ⟨h1, h⟩];have hw : wordB (bt s a) = true := by unfold wordB; rw [h]; rfl
 have := runTo_step h0 h1 hw;have := runTo_le wordB s (i := a + 1) (by omega) (by omega)
 omega
theorem ev_rtoken (s : ByteArray) (hs : s.size ≤ 8192) {a : Int} (h0 : 0 ≤ a) (h1 : a < s.size) : Ev (fun k => rt_token.f k s a) (refT a (tokS s a)) := by
 have w1 : wrap64 (a + 1) = a + 1 := w64 (by omega) (by omega)
 unfold rt_token.f tokS;refine Ev.pos h0 (Ev.pos h1 (Ev.pbind (rletter_f _) ?_))
 by_cases c1 : letterB (bt s a) = true
 ·refine Ev.pos c1 ?_; rw [if_pos c1]
  exact Ev.bind (ev_named s hs a h0 (by omega) (nameEnd_letter h0 h1 c1)) (Ev.now _)
 refine Ev.neg c1 ?_; rw [if_neg c1, w1]
 have j1 : bt s a ≠ 36 → ∀ b : Bool, b = decide (bt s a = 46 ∧ nameEnd s (a + 1) > a + 1) → Ev (fun k => rt_token.j1 k s a (bt s a) b) (refT a (if bt s a = 46 ∧ nameEnd s (a + 1) > a + 1 then nameTok s a (a + 1) 4 else if digitB (bt s a) = true then numTok s a else if bt s a = 34 then strTok s a else signTok s a)) := by
  intro hd b hb;refine Ev.step (fun k => by first | (rw [rt_token.j1]; done) | (rw [rt_token.j1]; rfl)) ?_
  rw [w1];by_cases c3 : bt s a = 46 ∧ nameEnd s (a + 1) > a + 1
  ·refine Ev.pos (by rw [hb]; exact decide_eq_true c3) ?_; rw [if_pos c3]
   exact Ev.bind (ev_named s hs a (by omega) (by omega) (by omega)) (Ev.now _)
  refine Ev.neg (by rw [hb, decide_eq_false c3]; simp) (Ev.pbind (rdigit_f _) ?_); rw [if_neg c3]
  by_cases c4 : digitB (bt s a) = true
  ·refine Ev.pos c4 ?_; rw [if_pos c4]
   exact Ev.bind (ev_rnumber s hs h0 h1 c4) (Ev.now _)
  refine Ev.neg c4 ?_; rw [if_neg c4]
  by_cases c5 : bt s a = 34
  ·refine Ev.pos c5 ?_; rw [if_pos c5]
   refine Ev.bind (ev_rNext s hs h0 h1 c5) ?_
   by_cases c6 : (textS s a).2.2 = 0
   ·have e1 : refX a (textS s a) = (4, a, (textS s a).2.1, 0, 0, (textS s a).1, (textS s a).2.1, 0) := if_pos c6;have e2 : strTok s a = (6, 0, (textS s a).1, 0, (textS s a).2.1, 0) := if_pos c6;rw [e1, e2]; exact Ev.pos rfl (Ev.now _)
   ·have e1 : refX a (textS s a) = (0, 0, 0, 0, 0, emp, (textS s a).2.1, (textS s a).2.2) := if_neg c6;have e2 : strTok s a = (6, 0, emp, 0, (textS s a).2.1, (textS s a).2.2) := if_neg c6;rw [e1, e2];refine Ev.neg c6 (Ev.val ?_)
    unfold refT; rw [if_neg c6]
  ·refine Ev.neg c5 (Ev.pbind rsigns_f ?_); rw [if_neg c5]
   exact ev_rsign s hs h0 h1
 have j1d : bt s a = 36 → Ev (fun k => rt_token.j1 k s a (bt s a) false) (0, 0, emp, 0, 0, a, 4) := by
  intro hd;refine Ev.step (fun k => by first | (rw [rt_token.j1]; done) | (rw [rt_token.j1]; rfl)) ?_
  have := ev_rsign s hs h0 h1;rw [sign_dollar s h0 h1 hd] at this;rw [hd];exact Ev.neg (by simp) (Ev.pbind (rdigit_f _) (Ev.neg (by decide) (Ev.neg (by decide) (Ev.pbind rsigns_f this))))
 by_cases c2 : bt s a = 36
 ·refine Ev.pos c2 (Ev.bind (ev_rword (by omega) (by omega) (by omega)) ?_); rw [if_pos c2]
  have hle := nameEnd_le s (i := a + 1) (by omega) (by omega)
  refine Ev.step (fun k => by first | (rw [rt_token.j0]; done) | (rw [rt_token.j0]; rfl)) ?_
  rw [w1];by_cases c3 : nameEnd s (a + 1) > a + 1
  ·exact Ev.pos (decide_eq_true c3) (Ev.bind (ev_named s hs a (by omega) (by omega) (by omega)) (Ev.now _))
  ·refine Ev.neg (by rw [decide_eq_false c3]; simp) (Ev.neg (by omega) ?_)
   have : nameTok s a (a + 1) 3 = (0, 0, emp, 0, a, 4) := by unfold nameTok; rw [if_pos (by omega)]
   rw [this];exact j1d c2
 refine Ev.neg c2 ?_; rw [if_neg c2]
 refine Ev.step (fun k => by first | (rw [rt_token.j0]; done) | (rw [rt_token.j0]; rfl)) (Ev.neg (by simp) ?_)
 rw [w1];by_cases c3 : bt s a = 46
 ·refine Ev.pos c3 (Ev.bind (ev_rword (by omega) (by omega) (by omega)) (j1 c2 _ ?_))
  rw [Bool.eq_iff_iff, decide_eq_true_iff, decide_eq_true_iff];exact ⟨fun h => ⟨c3, h⟩, fun h => h.2⟩
 ·refine Ev.neg c3 (j1 c2 false ?_)
  rw [eq_comm, decide_eq_false_iff_not];exact fun h => c3 h.1
/-! the tokens of a text -/
theorem ev_rlex (s : ByteArray) (hs : s.size ≤ 8192) : ∀ (d : Nat) (l : List S33) (i : Int), (s.size : Int) - i < d → 0 ≤ i → i ≤ s.size → l.length ≤ i → Ev (fun k => rt_Lex.l0 k s l i) (lexD s d l i) := by
 intro d;induction d with
 | zero => intro l i hd h0 h1 hl; omega
 | succ d ih =>
  intro l i hd h0 h1 hl;refine Ev.step (fun k => by first | (rw [rt_Lex.l0]; done) | (rw [rt_Lex.l0]; rfl)) ?_
  unfold lexD;by_cases c : i < s.size
  ·rw [if_pos c]; refine Ev.pos c ?_
   by_cases c2 : (l.length : Int) ≥ 2048
   ·exact Ev.pos c2 (Ev.val (if_pos c2).symm)
   rw [if_neg c2]; refine Ev.neg c2 (Ev.bind (ev_rtoken s hs h0 c) ?_)
   have hb := tokS_bound s h0 c;generalize tokS s i = t at *;obtain ⟨t1, t2, t3, t4, t5, t6⟩ := t;unfold refT;simp only at hb ⊢;by_cases c3 : t6 = 0
   ·have hb := hb c3;rw [if_pos c3, if_pos c3];refine Ev.pos rfl (Ev.pos (by omega) (Ev.bind (ev_rgapF (i := t5) (by omega) (by omega) (by omega)) ?_))
    have hg := gap_le s (i := t5) (by omega) (by omega)
    exact ih _ _ (by omega) (by omega) (by omega) (by simp; omega)
   ·rw [if_neg c3, if_neg c3];exact Ev.neg c3 (Ev.now _)
  ·rw [if_neg c]; exact Ev.neg c (Ev.pos (by omega) (Ev.now _))
theorem ev_rLex (s : ByteArray) : Ev (fun k => rt_Lex.f k s) (lexS s) := by
 unfold rt_Lex.f lexS;by_cases c : (s.size : Int) > 8192
 ·exact Ev.pos c (Ev.val (if_pos c).symm)
 ·rw [if_neg c];refine Ev.neg c (Ev.bind (ev_rgapF (by omega) (by omega) (by omega)) ?_)
  have := gap_le s (i := 0) (by omega) (by omega)
  exact ev_rlex s (by omega) _ [] _ (by omega) (by omega) (by omega) (by simp; omega)
theorem lexD_len (s : ByteArray) (hs : s.size ≤ 8192) : ∀ (d : Nat) (l : List S33) (i : Int), (s.size : Int) - i < d → 0 ≤ i → i ≤ s.size → l.length ≤ i → (lexD s d l i).1.length ≤ 8193 := by
 intro d;induction d with
 | zero => intro l i hd h0 h1 hl; omega
 | succ d ih =>
  intro l i hd h0 h1 hl;unfold lexD;by_cases c : i < s.size
  ·rw [if_pos c];by_cases c2 : (l.length : Int) ≥ 2048
   ·rw [if_pos c2]; simp
   rw [if_neg c2];have hb := tokS_bound s h0 c;generalize tokS s i = t at *;by_cases c3 : t.2.2.2.2.2 = 0
   ·have hb := hb c3;rw [if_pos c3];have hg := gap_le s (i := t.2.2.2.2.1) (by omega) (by omega)
    exact ih _ _ (by omega) (by omega) (by omega) (by simp; omega)
   ·rw [if_neg c3]; simp
  ·rw [if_neg c]; simp; omega
theorem lexS_len (s : ByteArray) : (lexS s).1.length ≤ 8193 := by
 unfold lexS;by_cases c : (s.size : Int) > 8192
 ·rw [if_pos c]; simp
 ·rw [if_neg c];have := gap_le s (i := 0) (by omega) (by omega)
  exact lexD_len s (by omega) _ [] _ (by omega) (by omega) (by omega) (by simp; omega)
theorem ev_tokens (L : List S33) (hL : L.length ≤ 100000) : Ev (fun k => kp_Tokens.f k L L) true := by
 unfold kp_Tokens.f;refine Ev.pos rfl ?_
 have h : ∀ (d : Nat) (i : Int), (L.length : Int) - i = d → 0 ≤ i → Ev (fun k => kp_Tokens.l0 k L L i) true := by
  intro d;induction d with
  | zero =>
   intro i hd h0;exact Ev.step (fun k => by first | (rw [kp_Tokens.l0]; done) | (rw [kp_Tokens.l0]; rfl)) (Ev.neg (by omega) (Ev.now _))
  | succ d ih =>
   intro i hd h0;refine Ev.step (fun k => by first | (rw [kp_Tokens.l0]; done) | (rw [kp_Tokens.l0]; rfl)) (Ev.pos (by omega) (Ev.pos h0 (Ev.pos (by omega) (Ev.neg (by simp) ?_))))
   rw [w64 (x := i + 1) (by omega) (by omega)]
   exact ih (i + 1) (by omega) (by omega)
 exact h L.length 0 (by omega) (by omega)
end Go.Proofs.YtdhdpidjdadamaaDoor.Q
