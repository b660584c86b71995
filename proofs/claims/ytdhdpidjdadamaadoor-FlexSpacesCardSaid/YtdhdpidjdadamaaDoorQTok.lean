/- Plain words on tokens: what flex.number, flex.Keyword, flex.token and flex.Lex come to. No program and no memory here. -/
import Derived.Test.YtdhdpidjdadamaaDoorQLex
namespace Go.Proofs.YtdhdpidjdadamaaDoor.Q
open Go.RowKit Go.Proofs.YtdhdpidjdadamaaDoorW.PrintWords Go.Proofs.YtdhdpidjdadamaaDoorW.PrintLast Go.Proofs.YtdhdpidjdadamaaDoor.PX
set_option linter.unusedVariables false
set_option linter.unusedSimpArgs false
/-! keywords -/
def kws : List (List UInt8) := [[97, 110, 100], [97, 115], [98, 114, 101, 97, 107], [99, 97, 116, 99, 104], [100, 101, 102], [101, 108, 105, 102], [101, 108, 115, 101], [101, 110, 100], [102, 97, 108, 115, 101], [102, 111, 114, 101, 97, 99, 104], [105, 102], [108, 97, 98, 101, 108], [110, 117, 108, 108], [111, 114], [114, 101, 100, 117, 99, 101], [116, 104, 101, 110], [116, 114, 117, 101], [116, 114, 121]]
def kwS (x : ByteArray) : Bool := decide (x.toList ∈ kws)
theorem chain (l a : List UInt8) (r : List (List UInt8)) (x : Option Bool) (h : x = some (decide (l ∈ r))) : (if l = a then some true else x) = some (decide (l ∈ a :: r)) := by
 by_cases e : l = a <;> simp [e, h]
theorem keyword_f (x : ByteArray) : flex_Keyword.f x = some (kwS x) := by
 unfold flex_Keyword.f kwS kws;generalize x.toList = l;repeat' refine chain _ _ _ _ ?_
 simp
/-! a number -/
def numTok (s : ByteArray) (i : Int) : Int × Int × ByteArray × Int × Int × Int :=
 if bt s i = 48 ∧ i + 1 < runTo digitB s i then (0, 0, emp, 0, i, 4)
 else if (runTo digitB s i < s.size ∧ letterB (bt s (runTo digitB s i)) = true) ∨ (runTo digitB s i + 1 < s.size ∧ bt s (runTo digitB s i) = 46 ∧ digitB (bt s (runTo digitB s i + 1)) = true) then (0, 0, emp, 0, i, 7)
 else match valS (s.extract i.toNat (runTo digitB s i).toNat) with | some v => (5, 0, emp, v, runTo digitB s i, 0) | none => (0, 0, emp, 0, i, 7)
theorem bt_extract (s : ByteArray) {a b j : Int} (h0 : 0 ≤ a) (h1 : a ≤ b) (h2 : b ≤ s.size) (h3 : 0 ≤ j) (h4 : j < b - a) : bt (s.extract a.toNat b.toNat) j = bt s (a + j) := by
 unfold bt;have e1 : j.toNat < (s.extract a.toNat b.toNat).size := by rw [ByteArray.size_extract]; omega
 have e2 : (a + j).toNat < s.size := by omega
 rw [dif_pos e1, dif_pos e2, ByteArray.getElem_extract];congr 2
 congr 1
 omega
theorem size_extract' (s : ByteArray) {a b : Int} (h0 : 0 ≤ a) (h1 : a ≤ b) (h2 : b ≤ s.size) : ((s.extract a.toNat b.toNat).size : Int) = b - a := by
 rw [ByteArray.size_extract]; omega
theorem ev_number (s : ByteArray) (hs : s.size ≤ 8192) {i : Int} (h0 : 0 ≤ i) (h1 : i < s.size) (hd : digitB (bt s i) = true) : Ev (fun k => flex_number.f k s i) (numTok s i) := by
 unfold flex_number.f;have hl : ∀ (d : Nat) (j : Int) (r : _), (s.size : Int) - j = d → 0 ≤ j → j ≤ s.size → Ev (fun k => flex_number.j1 k s i (runTo digitB s j)) r → Ev (fun k => flex_number.l0 k s i j) r := by
  intro d;induction d with
  | zero =>
   intro j r hd2 a b e;rw [runTo_size _ _ (by omega)] at e
   exact Ev.step (fun k => by first | (rw [flex_number.l0]; done) | (rw [flex_number.l0]; rfl)) (Ev.neg (by omega) e)
  | succ d ih =>
   intro j r hd2 a b e;refine Ev.step (fun k => by first | (rw [flex_number.l0]; done) | (rw [flex_number.l0]; rfl)) (Ev.pos (by omega) (Ev.pos a (Ev.pbind (digit_f _) ?_)))
   by_cases c : digitB (bt s j) = true
   ·refine Ev.pos c ?_
    rw [w64 (by omega) (by omega)]
    rw [runTo_step a (by omega) c] at e
    exact ih (j + 1) r (by omega) (by omega) (by omega) e
   ·rw [runTo_stop (by simpa using c)] at e
    exact Ev.neg c e
 refine hl (s.size - i.toNat) i _ (by omega) h0 (by omega) ?_
 have hb := runTo_le digitB s h0 (by omega)
 have hst := runTo_step h0 h1 hd;have hb2 := runTo_le digitB s (i := i + 1) (by omega) (by omega)
 have hin := fun j (a : i ≤ j) (b : j < runTo digitB s i) => runTo_in (p := digitB) (s := s) a b
 unfold numTok;generalize runTo digitB s i = e at *;have j3t : Ev (fun k => flex_number.j3 k s i e true) (0, 0, emp, 0, i, 7) :=
  Ev.step (fun k => by first | (rw [flex_number.j3]; done) | (rw [flex_number.j3]; rfl)) (Ev.pos rfl (Ev.now _))
 have j3f : ¬ (bt s i = 48 ∧ i + 1 < e) → Ev (fun k => flex_number.j3 k s i e false) (match valS (s.extract i.toNat e.toNat) with | some v => (5, 0, emp, v, e, 0) | none => (0, 0, emp, 0, i, 7)) := by
  intro hz;refine Ev.step (fun k => by first | (rw [flex_number.j3]; done) | (rw [flex_number.j3]; rfl)) ?_
  refine Ev.neg (by simp) (Ev.pos h0 (Ev.pos (by omega) (Ev.pos hb.2 ?_)))
  have hsz := size_extract' s h0 hb.1 hb.2;refine Ev.bind (ev_Next_number (s.extract i.toNat e.toNat) (by omega) (by omega) (fun j a b => ?_) (fun h => ?_)) ?_
  ·rw [bt_extract s h0 hb.1 hb.2 a (by omega)]
   exact hin _ (by omega) (by omega)
  ·rw [bt_extract s h0 hb.1 hb.2 (by omega) (by omega), Int.add_zero] at h
   have : ¬ i + 1 < e := fun h2 => hz ⟨h, h2⟩
   omega
  ·cases valS (s.extract i.toNat e.toNat) with
   | none => exact Ev.neg (by simp) (Ev.now _)
   | some v => exact Ev.pos rfl (Ev.now _)
 have j2 : ∀ b : Bool, b = decide (bt s i = 48 ∧ i + 1 < e) → Ev (fun k => flex_number.j2 k s i e b) (if bt s i = 48 ∧ i + 1 < e then (0, 0, emp, 0, i, 4) else if (e < s.size ∧ letterB (bt s e) = true) ∨ (e + 1 < s.size ∧ bt s e = 46 ∧ digitB (bt s (e + 1)) = true) then (0, 0, emp, 0, i, 7) else match valS (s.extract i.toNat e.toNat) with | some v => (5, 0, emp, v, e, 0) | none => (0, 0, emp, 0, i, 7)) := by
  intro b hbz;refine Ev.step (fun k => by first | (rw [flex_number.j2]; done) | (rw [flex_number.j2]; rfl)) ?_
  by_cases cz : bt s i = 48 ∧ i + 1 < e
  ·rw [if_pos cz]; exact Ev.pos (by rw [hbz]; exact decide_eq_true cz) (Ev.now _)
  rw [if_neg cz];refine Ev.neg (by rw [hbz, decide_eq_false cz]; simp) ?_
  have fin : ∀ b : Bool, b = decide ((e < s.size ∧ letterB (bt s e) = true) ∨ (e + 1 < s.size ∧ bt s e = 46 ∧ digitB (bt s (e + 1)) = true)) → Ev (fun k => flex_number.j3 k s i e b) (if (e < s.size ∧ letterB (bt s e) = true) ∨ (e + 1 < s.size ∧ bt s e = 46 ∧ digitB (bt s (e + 1)) = true) then (0, 0, emp, 0, i, 7) else match valS (s.extract i.toNat e.toNat) with | some v => (5, 0, emp, v, e, 0) | none => (0, 0, emp, 0, i, 7)) := by
   intro b hb3;by_cases hp : (e < s.size ∧ letterB (bt s e) = true) ∨ (e + 1 < s.size ∧ bt s e = 46 ∧ digitB (bt s (e + 1)) = true)
   ·rw [if_pos hp, hb3, decide_eq_true hp]; exact j3t
   ·rw [if_neg hp, hb3, decide_eq_false hp]; exact j3f cz
  by_cases c1 : e < s.size
  ·refine Ev.pos c1 (Ev.pos (by omega) (Ev.pbind (letter_f _) ?_))
   by_cases c2 : letterB (bt s e) = true
   ·refine Ev.pos c2 (fin true ?_)
    rw [eq_comm, decide_eq_true_iff]; exact .inl ⟨c1, c2⟩
   ·refine Ev.neg c2 ?_
    rw [w64 (x := e + 1) (by omega) (by omega)]
    by_cases c3 : e + 1 < s.size
    ·refine Ev.pos c3 ?_
     by_cases c4 : bt s e = 46
     ·refine Ev.pos c4 (Ev.pos (by omega) (Ev.pbind (digit_f _) (fin _ ?_)))
      rw [Bool.eq_iff_iff, decide_eq_true_iff];exact ⟨fun h => .inr ⟨c3, c4, h⟩, fun h => by rcases h with h | h; exact absurd h.2 c2; exact h.2.2⟩
     ·refine Ev.neg c4 (fin false ?_)
      rw [eq_comm, decide_eq_false_iff_not];rintro (h | h)
      ·exact c2 h.2
      ·exact c4 h.2.1
    ·refine Ev.neg c3 (fin false ?_)
     rw [eq_comm, decide_eq_false_iff_not];rintro (h | h)
     ·exact c2 h.2
     ·exact c3 h.1
  ·refine Ev.neg c1 (Ev.neg (by rw [w64 (by omega) (by omega)]; omega) (fin false ?_))
   rw [eq_comm, decide_eq_false_iff_not];rintro (h | h)
   ·exact c1 h.1
   ·omega
 refine Ev.step (fun k => by first | (rw [flex_number.j1]; done) | (rw [flex_number.j1]; rfl)) (Ev.pos h0 (Ev.pos h1 ?_))
 rw [w64 (x := i + 1) (by omega) (by omega)]
 by_cases c : bt s i = 48
 ·refine Ev.pos c (j2 _ ?_)
  rw [Bool.eq_iff_iff, decide_eq_true_iff, decide_eq_true_iff];exact ⟨fun h => ⟨c, by omega⟩, fun h => by omega⟩
 ·refine Ev.neg c (j2 false ?_)
  rw [eq_comm, decide_eq_false_iff_not];exact fun h => c h.1
theorem numTok_bound (s : ByteArray) {i : Int} (h0 : 0 ≤ i) (h1 : i < s.size) (hd : digitB (bt s i) = true) : (numTok s i).2.2.2.2.2 = 0 → i < (numTok s i).2.2.2.2.1 ∧ (numTok s i).2.2.2.2.1 ≤ s.size ∧ (numTok s i).1 = 5 := by
 have hb := runTo_le digitB s h0 (by omega)
 have hst := runTo_step h0 h1 hd;have hb2 := runTo_le digitB s (i := i + 1) (by omega) (by omega)
 unfold numTok;intro h;split at h
 ·simp at h
 ·split at h
  ·simp at h
  ·rename_i h3 h4
   rw [if_neg h3, if_neg h4];split
   ·simp only; exact ⟨by omega, by omega, trivial⟩
   ·rename_i h5
    rw [h5] at h;simp at h
/-! a name -/
def nameTok (s : ByteArray) (a f kind : Int) : Int × Int × ByteArray × Int × Int × Int :=
 if nameEnd s f = f then (0, 0, emp, 0, a, 4) else if nameEnd s f - f > 32 then (0, 0, emp, 0, a, 2)
 else (if kind = 1 ∧ kwS (s.extract f.toNat (nameEnd s f).toNat) = true then 2 else kind, 0, s.extract f.toNat (nameEnd s f).toNat, 0, nameEnd s f, 0)
theorem ev_nameTok (s : ByteArray) (hs : s.size ≤ 8192) (a : Int) {f kind : Int} (h0 : 0 ≤ f) (h1 : f ≤ s.size) : Ev (fun k => flex_token.j2 k s a f kind) (nameTok s a f kind) := by
 have hb := nameEnd_le s h0 h1;refine Ev.step (fun k => by first | (rw [flex_token.j2]; done) | (rw [flex_token.j2]; rfl)) (Ev.bind (ev_name (by omega) h0 h1) ?_)
 unfold nameTok;generalize nameEnd s f = e at *;rw [w64 (x := e - f) (by omega) (by omega)]
 by_cases c1 : e = f
 ·exact Ev.pos c1 (Ev.val (if_pos c1).symm)
 refine Ev.neg c1 ?_
 rw [if_neg c1];by_cases c2 : e - f > 32
 ·exact Ev.pos c2 (Ev.val (if_pos c2).symm)
 refine Ev.neg c2 ?_
 rw [if_neg c2];by_cases c3 : kind = 1
 ·refine Ev.pos c3 (Ev.pos h0 (Ev.pos hb.1 (Ev.pos hb.2 (Ev.pbind (keyword_f _) ?_))))
  by_cases c4 : kwS (s.extract f.toNat e.toNat) = true
  ·rw [if_pos (show kind = 1 ∧ kwS (s.extract f.toNat e.toNat) = true from ⟨c3, c4⟩)]
   exact Ev.pos c4 (Ev.now _)
  ·rw [if_neg (show ¬ (kind = 1 ∧ kwS (s.extract f.toNat e.toNat) = true) from fun h => c4 h.2)]
   exact Ev.neg c4 (Ev.now _)
 ·rw [if_neg (show ¬ (kind = 1 ∧ kwS (s.extract f.toNat e.toNat) = true) from fun h => c3 h.1)]
  exact Ev.neg c3 (Ev.pos h0 (Ev.pos hb.1 (Ev.pos hb.2 (Ev.now _))))
theorem nameTok_bound (s : ByteArray) (a : Int) {f : Int} (kind : Int) (h0 : 0 ≤ f) (h1 : f ≤ s.size) : (nameTok s a f kind).2.2.2.2.2 = 0 → f < (nameTok s a f kind).2.2.2.2.1 ∧ (nameTok s a f kind).2.2.2.2.1 ≤ s.size := by
 have hb := nameEnd_le s h0 h1;unfold nameTok;intro h;by_cases c1 : nameEnd s f = f
 ·rw [if_pos c1] at h; simp at h
 rw [if_neg c1] at h ⊢;by_cases c2 : nameEnd s f - f > 32
 ·rw [if_pos c2] at h; simp at h
 rw [if_neg c2] at h ⊢;simp only; omega
/-! a sign -/
def pre (t g : ByteArray) : Bool := decide (g.size ≤ t.size) && ((t.extract 0 g.size).toList == g.toList)
theorem prefix_f (t g : ByteArray) : strings_HasPrefix.f t g = some (pre t g) := by
 unfold strings_HasPrefix.f stringslite_HasPrefix.f pre;by_cases h : g.size ≤ t.size
 ·rw [if_pos (by omega), if_pos (by omega), if_pos (by omega)]
  simp only [Option.bind_some, Int.toNat_natCast];rw [decide_eq_true h]; simp
 ·rw [if_neg (by omega)]
  simp [h]
def signTok (s : ByteArray) (a : Int) : Int × Int × ByteArray × Int × Int × Int :=
 match flexSigns.find? (fun g => pre (s.extract a.toNat s.size) g) with
 | some g => (7, 0, g, 0, a + g.size, 0)
 | none => (0, 0, emp, 0, a, 4)
theorem rdOf_drop (l : List ByteArray) (i : Nat) (h : i < l.length) : l.drop i = rdOf ByteArray.empty l (i : Int) :: l.drop (i + 1) := by
 rw [List.drop_eq_getElem_cons h];congr 1
 simp [rdOf, h]
theorem ev_signTok (s : ByteArray) (hs : s.size ≤ 8192) {a : Int} (h0 : 0 ≤ a) (h1 : a < s.size) (l : List ByteArray) (hl : l.length ≤ 100) (hg : ∀ g ∈ l, g.size ≤ 100) : ∀ (d i : Nat), l.length - i = d → i ≤ l.length →
 Ev (fun k => flex_token.l0 k s a l (l.length : Int) (i : Int)) (match (l.drop i).find? (fun g => pre (s.extract a.toNat s.size) g) with | some g => (7, 0, g, 0, a + g.size, 0) | none => (0, 0, emp, 0, a, 4)) := by
 intro d;induction d with
 | zero =>
  intro i hd hi;refine Ev.step (fun k => by first | (rw [flex_token.l0]; done) | (rw [flex_token.l0]; rfl)) (Ev.neg (by omega) ?_)
  rw [List.drop_eq_nil_of_le (by omega)]
  exact Ev.now _
 | succ d ih =>
  intro i hd hi;refine Ev.step (fun k => by first | (rw [flex_token.l0]; done) | (rw [flex_token.l0]; rfl)) (Ev.pos (by omega) (Ev.pos (by omega) (Ev.pos (by omega) (Ev.pos h0 (Ev.pos (by omega) (Ev.pbind (prefix_f _ _) ?_))))))
  rw [rdOf_drop l i (by omega)]
  have hm : rdOf ByteArray.empty l (i : Int) ∈ l := by
   have : rdOf ByteArray.empty l (i : Int) ∈ l.drop i := by rw [rdOf_drop l i (by omega)]; exact List.mem_cons_self
   exact List.mem_of_mem_drop this
  have hgs := hg _ hm;simp only [List.find?_cons]
  by_cases c : pre (s.extract a.toNat s.size) (rdOf ByteArray.empty l (i : Int)) = true
  ·rw [c];refine Ev.pos rfl (Ev.val ?_)
   rw [w64 (by omega) (by omega)]
  ·rw [show pre (s.extract a.toNat s.size) (rdOf ByteArray.empty l (i : Int)) = false by simpa using c]
   refine Ev.neg (by simp) ?_
   rw [w64 (by omega) (by omega)]
   exact ih (i + 1) (by omega) (by omega)
theorem signs_small : ∀ g ∈ flexSigns, 1 ≤ g.size ∧ g.size ≤ 2 := by decide +kernel
theorem ev_sign (s : ByteArray) (hs : s.size ≤ 8192) {a : Int} (h0 : 0 ≤ a) (h1 : a < s.size) : Ev (fun k => flex_token.l0 k s a flexSigns (flexSigns.length : Int) 0) (signTok s a) := by
 have := ev_signTok s hs h0 h1 flexSigns (by decide) (fun g hg => by have := signs_small g hg; omega) flexSigns.length 0 (by omega) (by omega)
 exact this
theorem signTok_bound (s : ByteArray) {a : Int} (h0 : 0 ≤ a) (h1 : a < s.size) : (signTok s a).2.2.2.2.2 = 0 → a < (signTok s a).2.2.2.2.1 ∧ (signTok s a).2.2.2.2.1 ≤ s.size := by
 unfold signTok;intro h;cases e : flexSigns.find? (fun g => pre (s.extract a.toNat s.size) g) with
 | none => rw [e] at h; simp at h
 | some g =>
  simp only
  have h2 := List.find?_some e
  have h3 := signs_small g (List.mem_of_find?_eq_some e)
  unfold pre at h2;simp only [Bool.and_eq_true, decide_eq_true_eq] at h2;have := h2.1;rw [ByteArray.size_extract] at this;omega
/-! a token -/
def strTok (s : ByteArray) (a : Int) : Int × Int × ByteArray × Int × Int × Int :=
 if (textS s a).2.2 = 0 then (6, 0, (textS s a).1, 0, (textS s a).2.1, 0) else (6, 0, emp, 0, (textS s a).2.1, (textS s a).2.2)
def tokS (s : ByteArray) (a : Int) : Int × Int × ByteArray × Int × Int × Int :=
 if letterB (bt s a) = true then nameTok s a a 1 else if bt s a = 36 then nameTok s a (a + 1) 3
 else if bt s a = 46 ∧ nameEnd s (a + 1) > a + 1 then nameTok s a (a + 1) 4
 else if digitB (bt s a) = true then numTok s a else if bt s a = 34 then strTok s a else signTok s a
theorem ev_token (s : ByteArray) (hs : s.size ≤ 8192) {a : Int} (h0 : 0 ≤ a) (h1 : a < s.size) : Ev (fun k => flex_token.f k s a) (tokS s a) := by
 unfold flex_token.f tokS;refine Ev.pos h0 (Ev.pos h1 (Ev.pbind (letter_f _) ?_))
 by_cases c1 : letterB (bt s a) = true
 ·rw [if_pos c1]; exact Ev.pos c1 (ev_nameTok s hs a h0 (by omega))
 rw [if_neg c1]; refine Ev.neg c1 ?_
 rw [w64 (x := a + 1) (by omega) (by omega)]
 by_cases c2 : bt s a = 36
 ·rw [if_pos c2]; exact Ev.pos c2 (ev_nameTok s hs a (by omega) (by omega))
 rw [if_neg c2]; refine Ev.neg c2 ?_
 have j0 : ∀ b : Bool, b = decide (bt s a = 46 ∧ nameEnd s (a + 1) > a + 1) → Ev (fun k => flex_token.j0 k s a (bt s a) b) (if bt s a = 46 ∧ nameEnd s (a + 1) > a + 1 then nameTok s a (a + 1) 4 else if digitB (bt s a) = true then numTok s a else if bt s a = 34 then strTok s a else signTok s a) := by
  intro b hb;refine Ev.step (fun k => by first | (rw [flex_token.j0]; done) | (rw [flex_token.j0]; rfl)) ?_
  rw [w64 (x := a + 1) (by omega) (by omega)]
  by_cases c3 : bt s a = 46 ∧ nameEnd s (a + 1) > a + 1
  ·rw [if_pos c3]; exact Ev.pos (by rw [hb]; exact decide_eq_true c3) (ev_nameTok s hs a (by omega) (by omega))
  rw [if_neg c3]; refine Ev.neg (by rw [hb, decide_eq_false c3]; simp) (Ev.pbind (digit_f _) ?_)
  by_cases c4 : digitB (bt s a) = true
  ·rw [if_pos c4]; refine Ev.pos c4 (Ev.bind (ev_number s hs h0 h1 c4) (Ev.now _))
  rw [if_neg c4]; refine Ev.neg c4 ?_
  by_cases c5 : bt s a = 34
  ·rw [if_pos c5]; refine Ev.pos c5 (Ev.bind (ev_Next_string s hs h0 h1 c5) ?_)
   unfold strTok;by_cases c6 : (textS s a).2.2 = 0
   ·rw [if_pos c6, if_pos c6]; exact Ev.now _
   ·rw [if_neg c6, if_neg c6]; exact Ev.now _
  ·rw [if_neg c5]; refine Ev.neg c5 (Ev.pbind (a := flexSigns) rfl (ev_sign s hs h0 h1))
 by_cases c3 : bt s a = 46
 ·refine Ev.pos c3 (Ev.bind (ev_name (by omega) (by omega) (by omega)) (j0 _ ?_))
  rw [Bool.eq_iff_iff, decide_eq_true_iff, decide_eq_true_iff];exact ⟨fun h => ⟨c3, h⟩, fun h => h.2⟩
 ·refine Ev.neg c3 (j0 false ?_)
  rw [eq_comm, decide_eq_false_iff_not];exact fun h => c3 h.1
theorem tokS_bound (s : ByteArray) {a : Int} (h0 : 0 ≤ a) (h1 : a < s.size) : (tokS s a).2.2.2.2.2 = 0 → a < (tokS s a).2.2.2.2.1 ∧ (tokS s a).2.2.2.2.1 ≤ s.size := by
 unfold tokS;by_cases c1 : letterB (bt s a) = true
 ·rw [if_pos c1]; exact nameTok_bound s a 1 h0 (by omega)
 rw [if_neg c1];by_cases c2 : bt s a = 36
 ·rw [if_pos c2]; intro h; have := nameTok_bound s a 3 (f := a + 1) (by omega) (by omega) h; omega
 rw [if_neg c2];by_cases c3 : bt s a = 46 ∧ nameEnd s (a + 1) > a + 1
 ·rw [if_pos c3]; intro h; have := nameTok_bound s a 4 (f := a + 1) (by omega) (by omega) h; omega
 rw [if_neg c3];by_cases c4 : digitB (bt s a) = true
 ·rw [if_pos c4]; intro h; have := numTok_bound s h0 h1 c4 h; omega
 rw [if_neg c4];by_cases c5 : bt s a = 34
 ·rw [if_pos c5];unfold strTok;by_cases c6 : (textS s a).2.2 = 0
  ·rw [if_pos c6];intro _;have := textD_bound s a (s.size - a.toNat) [] (a + 1) (by omega) c6
   simp only [textS];omega
  ·rw [if_neg c6]; intro h; exact absurd h c6
 ·rw [if_neg c5]; exact signTok_bound s h0 h1
/-! the tokens of a text -/
def lexD (s : ByteArray) : Nat → List S33 → Int → List S33 × Int × Int
 | 0, _, _ => ([], 0, 0)
 | d + 1, l, i => if i < s.size then (if (l.length : Int) ≥ 2048 then ([], i, 2) else if (tokS s i).2.2.2.2.2 = 0 then lexD s d (l ++ [⟨(tokS s i).1, i, (tokS s i).2.2.1, (tokS s i).2.2.2.1⟩]) (gap s (tokS s i).2.2.2.2.1) else ([], (tokS s i).2.2.2.2.1, (tokS s i).2.2.2.2.2))
  else (l ++ [⟨0, s.size, emp, 0⟩], 0, 0)
def lexS (s : ByteArray) : List S33 × Int × Int := if (s.size : Int) > 8192 then ([], 0, 2) else lexD s (s.size + 1) [] (gap s 0)
theorem ev_lex (s : ByteArray) (hs : s.size ≤ 8192) : ∀ (d : Nat) (l : List S33) (i : Int), (s.size : Int) - i < d → 0 ≤ i → i ≤ s.size → l.length ≤ i → Ev (fun k => flex_Lex.l0 k s l i) (lexD s d l i) := by
 intro d;induction d with
 | zero => intro l i hd h0 h1 hl; omega
 | succ d ih =>
  intro l i hd h0 h1 hl;refine Ev.step (fun k => by first | (rw [flex_Lex.l0]; done) | (rw [flex_Lex.l0]; rfl)) ?_
  unfold lexD;by_cases c : i < s.size
  ·rw [if_pos c]; refine Ev.pos c ?_
   by_cases c2 : (l.length : Int) ≥ 2048
   ·exact Ev.pos c2 (Ev.val (if_pos c2).symm)
   rw [if_neg c2]; refine Ev.neg c2 (Ev.bind (ev_token s hs h0 c) ?_)
   have hb := tokS_bound s h0 c;generalize tokS s i = t at *;obtain ⟨t1, t2, t3, t4, t5, t6⟩ := t;simp only at hb ⊢;by_cases c3 : t6 = 0
   ·have hb := hb c3;rw [if_pos c3];refine Ev.pos c3 (Ev.pos (by omega) (Ev.bind (ev_skip (by omega) (by omega) (by omega)) ?_))
    have hg := gap_le s (i := t5) (by omega) (by omega)
    exact ih _ _ (by omega) (by omega) (by omega) (by simp; omega)
   ·exact Ev.neg c3 (Ev.val (if_neg c3).symm)
  ·rw [if_neg c]; exact Ev.neg c (Ev.pos (by omega) (Ev.now _))
theorem ev_Lex (s : ByteArray) : Ev (fun k => flex_Lex.f k s) (lexS s) := by
 unfold flex_Lex.f lexS;by_cases c : (s.size : Int) > 8192
 ·exact Ev.pos c (Ev.val (if_pos c).symm)
 ·rw [if_neg c];refine Ev.neg c (Ev.bind (ev_skip (by omega) (by omega) (by omega)) ?_)
  have := gap_le s (i := 0) (by omega) (by omega)
  exact ev_lex s (by omega) _ [] _ (by omega) (by omega) (by omega) (by simp; omega)
theorem name_f {s : ByteArray} (hs : s.size ≤ 140737488351232) : Ev (fun k => flex_Name.f k s) (decide (0 < s.size ∧ s.size ≤ 32 ∧ nameEnd s 0 = s.size)) := by
 unfold flex_Name.f;have hl : s.toList.length = s.size := by rw [ByteArray.toList_eq]; exact data_length s
 by_cases c : s.toList = []
 ·refine Ev.pos c (Ev.val ?_)
  have : s.size = 0 := by rw [← hl, c]; rfl
  rw [eq_comm, decide_eq_false_iff_not]; omega
 ·refine Ev.neg c ?_
  have hp : 0 < s.size := by
   rcases Nat.eq_zero_or_pos s.size with h | h
   ·exact absurd (List.eq_nil_of_length_eq_zero (by omega)) c
   ·exact h
  by_cases c2 : (s.size : Int) ≤ 32
  ·refine Ev.pos c2 (Ev.bind (ev_name hs (by omega) (by omega)) (Ev.val ?_))
   rw [Bool.eq_iff_iff, beq_iff_eq, decide_eq_true_iff];exact ⟨fun h => ⟨hp, by omega, h⟩, fun h => h.2.2⟩
  ·refine Ev.neg c2 (Ev.val ?_)
   rw [eq_comm, decide_eq_false_iff_not]; omega
end Go.Proofs.YtdhdpidjdadamaaDoor.Q
