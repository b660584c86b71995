/- The plain law FlexSpaces: what flex.Lex comes to answers as the statement says. No program and no memory here. -/
import Derived.Test.YtdhdpidjdadamaaDoorQSpB
import Derived.Test.YtdhdpidjdadamaaDoorPx26
namespace Go.Proofs.YtdhdpidjdadamaaDoor.Q
open Go.RowKit Go.Proofs.YtdhdpidjdadamaaDoorW.PrintWords Go.Proofs.YtdhdpidjdadamaaDoorW.PrintLast Go.Proofs.YtdhdpidjdadamaaDoor.PX
set_option linter.unusedVariables false
set_option linter.unusedSimpArgs false
/-! the tokens of a text, one behind another -/
def tokRow (s : ByteArray) : Int → List S33 → Prop
 | a, [] => False
 | a, [t] => t = ⟨0, s.size, emp, 0⟩ ∧ a = s.size
 | a, t :: u :: r => a < s.size ∧ (tokS s a).2.2.2.2.2 = 0 ∧ t = ⟨(tokS s a).1, a, (tokS s a).2.2.1, (tokS s a).2.2.2.1⟩ ∧ tokRow s (gap s (tokS s a).2.2.2.2.1) (u :: r)
theorem lexD_row (s : ByteArray) (hs : s.size ≤ 8192) : ∀ (d : Nat) (l : List S33) (i : Int), (s.size : Int) - i < d → 0 ≤ i → i ≤ s.size → (lexD s d l i).2.2 = 0 → ∃ m, (lexD s d l i).1 = l ++ m ∧ tokRow s i m := by
 intro d;induction d with
 | zero => intro l i hd h0 h1 h; omega
 | succ d ih =>
  intro l i hd h0 h1 h;unfold lexD at h ⊢;by_cases c : i < s.size
  ·rw [if_pos c] at h ⊢;by_cases c2 : (l.length : Int) ≥ 2048
   ·rw [if_pos c2] at h; simp at h
   rw [if_neg c2] at h ⊢;have hb := tokS_bound s h0 c;by_cases c3 : (tokS s i).2.2.2.2.2 = 0
   ·rw [if_pos c3] at h ⊢;have hb := hb c3;have hgap := gap_le s (i := (tokS s i).2.2.2.2.1) (by omega) (by omega)
    obtain ⟨m, hm, ho⟩ := ih _ (gap s (tokS s i).2.2.2.2.1) (by omega) (by omega) (by omega) h
    refine ⟨⟨(tokS s i).1, i, (tokS s i).2.2.1, (tokS s i).2.2.2.1⟩ :: m, by rw [hm]; simp, ?_⟩
    cases m with
    | nil => exact ho.elim
    | cons u r => exact ⟨c, c3, rfl, ho⟩
   ·rw [if_neg c3] at h; exact absurd h c3
  ·rw [if_neg c] at h ⊢;exact ⟨[⟨0, s.size, emp, 0⟩], rfl, rfl, by omega⟩
theorem tokRow_head {s : ByteArray} {a : Int} {t : S33} {r : List S33} (h : tokRow s a (t :: r)) : t.f1 = a := by
 cases r with
 | nil => obtain ⟨rfl, rfl⟩ := h; rfl
 | cons u r => obtain ⟨_, _, rfl, _⟩ := h; rfl
theorem tokRow_next {s : ByteArray} {a : Int} {t u : S33} {r : List S33} (h0 : 0 ≤ a) (h : tokRow s a (t :: u :: r)) : a < (tokS s a).2.2.2.2.1 ∧ (tokS s a).2.2.2.2.1 ≤ u.f1 ∧ u.f1 ≤ s.size ∧ u.f1 = gap s (tokS s a).2.2.2.2.1 := by
 obtain ⟨h1, h2, h3, h4⟩ := h;have hb := tokS_bound s h0 h1 h2;have hg := gap_le s (i := (tokS s a).2.2.2.2.1) (by omega) (by omega)
 rw [tokRow_head h4];exact ⟨hb.1, hg.1, hg.2, rfl⟩
/-! bytes of joined texts -/
theorem bt_left (x y : ByteArray) {i : Int} (h0 : 0 ≤ i) (h1 : i < x.size) : bt (x ++ y) i = bt x i := by
 obtain ⟨p, e⟩ := bt_get (x ++ y) h0 (by rw [ByteArray.size_append]; omega)
 obtain ⟨q, e2⟩ := bt_get x h0 h1;rw [e, e2];congr 2
 simp only [ByteArray.data_append, Array.toList_append];exact List.getElem_append_left q
theorem bt_right (x y : ByteArray) {j : Int} (h0 : 0 ≤ j) (h1 : j < y.size) : bt (x ++ y) (x.size + j) = bt y j := by
 obtain ⟨p, e⟩ := bt_get (x ++ y) (i := x.size + j) (by omega) (by rw [ByteArray.size_append]; omega)
 obtain ⟨q, e2⟩ := bt_get y h0 h1;rw [e, e2];congr 2
 have hx := data_length x;simp only [ByteArray.data_append, Array.toList_append, show ((x.size : Int) + j).toNat = x.data.toList.length + j.toNat by omega]
 rw [List.getElem_append_right (by omega)]
 congr 1
 omega
theorem app_assoc (x y z : ByteArray) : x ++ y ++ z = x ++ (y ++ z) := ByteArray.append_assoc
/-! the text with other gaps -/
def seps : List ByteArray := [⟨#[10]⟩, ⟨#[10, 32]⟩, ⟨#[10, 9, 13]⟩, ⟨#[10, 35, 32, 120, 32, 124, 32, 121, 10]⟩]
def sep (g : Int) : ByteArray := rdOf ByteArray.empty seps g
theorem sep_size {g : Int} (h0 : 0 ≤ g) (h1 : g < 4) : 1 ≤ (sep g).size ∧ (sep g).size ≤ 9 ∧ bt (sep g) 0 = 10 := by
 have : g = 0 ∨ g = 1 ∨ g = 2 ∨ g = 3 := by omega
 rcases this with rfl | rfl | rfl | rfl <;> decide +kernel
/-- A gap that is one of these. -/
theorem sep_gap {t : ByteArray} (ht : t.size ≤ 8192) {g q : Int} (hg0 : 0 ≤ g) (hg1 : g < 4) (hq : 0 ≤ q) (hqt : q + (sep g).size ≤ t.size) (hin : ∀ k : Int, 0 ≤ k → k < (sep g).size → bt t (q + k) = bt (sep g) k) (hstop : gap t (q + (sep g).size) = q + (sep g).size) : gap t q = q + (sep g).size := by
 have hc : g = 0 ∨ g = 1 ∨ g = 2 ∨ g = 3 := by omega
 rcases hc with rfl | rfl | rfl | rfl
 ·have z : (sep 0).size = 1 := rfl;rw [z] at hqt hin hstop ⊢;have b0 := hin 0 (by omega) (by omega)
  rw [Int.add_zero] at b0;rw [gap_blank ht hq (by omega) (by rw [b0]; decide)]
  exact hstop
 ·have z : (sep 1).size = 2 := rfl;rw [z] at hqt hin hstop ⊢;have b0 := hin 0 (by omega) (by omega)
  have b1 := hin 1 (by omega) (by omega)
  rw [Int.add_zero] at b0;rw [gap_blank ht hq (by omega) (by rw [b0]; decide), gap_blank ht (i := q + 1) (by omega) (by omega) (by rw [b1]; decide), show q + 1 + 1 = q + ((2 : Nat) : Int) by omega]
  exact hstop
 ·have z : (sep 2).size = 3 := rfl;rw [z] at hqt hin hstop ⊢;have b0 := hin 0 (by omega) (by omega)
  have b1 := hin 1 (by omega) (by omega)
  have b2 := hin 2 (by omega) (by omega)
  rw [Int.add_zero] at b0;rw [gap_blank ht hq (by omega) (by rw [b0]; decide), gap_blank ht (i := q + 1) (by omega) (by omega) (by rw [b1]; decide), show q + 1 + 1 = q + 2 by omega, gap_blank ht (i := q + 2) (by omega) (by omega) (by rw [b2]; decide), show q + 2 + 1 = q + ((3 : Nat) : Int) by omega]
  exact hstop
 ·have z : (sep 3).size = 9 := rfl;rw [z] at hqt hin hstop ⊢;have b0 := hin 0 (by omega) (by omega)
  rw [Int.add_zero] at b0;have on : ∀ k : Int, 2 ≤ k → k ≤ 7 → cgap t (q + k) = cgap t (q + (k + 1)) := by
   intro k k0 k1;have hk : bt (sep 3) k ≠ 10 := by
    have : k = 2 ∨ k = 3 ∨ k = 4 ∨ k = 5 ∨ k = 6 ∨ k = 7 := by omega
    rcases this with rfl | rfl | rfl | rfl | rfl | rfl <;> decide
   rw [cgap_on (by omega) (by omega) (by rw [hin k (by omega) (by omega)]; exact hk), Int.add_assoc]
  rw [gap_blank ht hq (by omega) (by rw [b0]; decide), gap_hash ht (i := q + 1) (by omega) (by omega) (by rw [hin 1 (by omega) (by omega)]; decide), show q + 1 + 1 = q + 2 by omega]
  rw [on 2 (by omega) (by omega), on (2 + 1) (by omega) (by omega), on (2 + 1 + 1) (by omega) (by omega), on (2 + 1 + 1 + 1) (by omega) (by omega), on (2 + 1 + 1 + 1 + 1) (by omega) (by omega), on (2 + 1 + 1 + 1 + 1 + 1) (by omega) (by omega)]
  rw [show (2 + 1 + 1 + 1 + 1 + 1 + 1 : Int) = 8 from rfl, cgap_off (by rw [hin 8 (by omega) (by omega)]; decide), gap_blank ht (i := q + 8) (by omega) (by omega) (by rw [hin 8 (by omega) (by omega)]; decide), show q + 8 + 1 = q + ((9 : Nat) : Int) by omega]
  exact hstop
def build (s : ByteArray) (g : Int → Int) : Int → List S33 → ByteArray
 | i, t :: u :: r => (s.extract t.f1.toNat u.f1.toNat ++ sep (g i)) ++ build s g (i + 1) (u :: r)
 | _, [_] => emp
 | _, [] => emp
theorem emp_app (x : ByteArray) : x ++ emp = x := ByteArray.append_empty
theorem build_size (s : ByteArray) (g : Int → Int) (hg : ∀ i, 0 ≤ g i ∧ g i < 4) : ∀ (m : List S33) (a i : Int), 0 ≤ a → a ≤ s.size → tokRow s a m → ((build s g i m).size : Int) ≤ s.size - a + 9 * m.length := by
 intro m;induction m with
 | nil => intro a i h0 h1 h; exact h.elim
 | cons t r ih =>
  intro a i h0 h1 h;cases r with
  | nil => simp only [build]; have : emp.size = 0 := rfl; simp only [List.length_cons, List.length_nil]; omega
  | cons u r =>
   have hn := tokRow_next h0 h;have hh := tokRow_head h;have h4 := h.2.2.2;rw [← hn.2.2.2] at h4;have := ih u.f1 (i + 1) (by omega) (by omega) h4
   have hsp := sep_size (hg i).1 (hg i).2;simp only [build, ByteArray.size_append, ByteArray.size_extract, List.length_cons] at this ⊢;omega
/-- Where a token begins in s, the text with other gaps goes on with its first byte. -/
theorem build_head (s : ByteArray) (g : Int → Int) {u : S33} {r : List S33} {a : Int} (i : Int) (h0 : 0 ≤ a) (h : tokRow s a (u :: r)) : (a = s.size ∧ build s g i (u :: r) = emp) ∨ (a < s.size ∧ 0 < (build s g i (u :: r)).size ∧ bt (build s g i (u :: r)) 0 = bt s a) := by
 cases r with
 | nil => exact .inl ⟨h.2, rfl⟩
 | cons v r =>
  right
  have hn := tokRow_next h0 h;have hh := tokRow_head h;have hz := size_extract' s (a := u.f1) (b := v.f1) (by omega) (by omega) (by omega)
  refine ⟨h.1, ?_, ?_⟩
  ·simp only [build, ByteArray.size_append]; omega
  ·simp only [build];rw [bt_left _ _ (by omega) (by rw [ByteArray.size_append]; omega), bt_left _ _ (by omega) (by omega), bt_extract s (by omega) (by omega) (by omega) (by omega) (by omega), hh, Int.add_zero]
def key (t : S33) : Int × ByteArray × Int := (t.f0, t.f2, t.f3)
theorem copy_lex (s t : ByteArray) (hs : s.size ≤ 8192) (ht : t.size ≤ 8192) (g : Int → Int) (hg : ∀ i, 0 ≤ g i ∧ g i < 4) : ∀ (m : List S33) (a i : Int) (beg : ByteArray) (l : List S33) (d : Nat),
 tokRow s a m → 0 ≤ a → a ≤ s.size → t = beg ++ build s g i m → l.length + m.length ≤ 2000 → (t.size : Int) - beg.size < d →
 ∃ m', lexD t d l beg.size = (l ++ m', 0, 0) ∧ m'.map key = m.map key := by
 intro m;induction m with
 | nil => intro a i beg l d h; exact h.elim
 | cons x r ih =>
  intro a i beg l d h h0 h1 e hl hd;have hbt : beg.size ≤ t.size := by rw [e, ByteArray.size_append]; omega
  obtain ⟨d, rfl⟩ : ∃ c, d = c + 1 := ⟨d - 1, by omega⟩
  cases r with
  | nil =>
   obtain ⟨rfl, rfl⟩ := h;simp only [build, emp_app] at e;subst e;unfold lexD;rw [if_neg (by omega)]
   exact ⟨[⟨0, t.size, emp, 0⟩], rfl, rfl⟩
  | cons u r =>
   have hn := tokRow_next h0 h;have hh := tokRow_head h;have hz := size_extract' s (a := x.f1) (b := u.f1) (by omega) (by omega) (by omega)
   have hsp := sep_size (hg i).1 (hg i).2;obtain ⟨c1, c2, c3, c4⟩ := h;have hbh := build_head s g (i + 1) (a := gap s (tokS s a).2.2.2.2.1) (by omega) c4
   simp only [build] at e;generalize hR : build s g (i + 1) (u :: r) = R at *;generalize hS : sep (g i) = S at *;have hC : ∀ k : Int, a ≤ k → k < u.f1 → bt (s.extract x.f1.toNat u.f1.toNat) (k - a) = bt s k := fun k k0 k1 => by
    rw [bt_extract s (by omega) (by omega) (by omega) (by omega) (by omega), hh]
    congr 1; omega
   generalize hX : s.extract x.f1.toNat u.f1.toNat = X at *;have hsz : (t.size : Int) = beg.size + X.size + S.size + R.size := by rw [e, ByteArray.size_append, ByteArray.size_append, ByteArray.size_append]; omega
   have inX : ∀ k : Int, 0 ≤ k → k < X.size → bt t (beg.size + k) = bt X k := fun k k0 k1 => by
    rw [e, bt_right _ _ k0 (by rw [ByteArray.size_append, ByteArray.size_append]; omega), bt_left _ _ k0 (by rw [ByteArray.size_append]; omega), bt_left _ _ k0 k1]
   have inS : ∀ k : Int, 0 ≤ k → k < S.size → bt t (beg.size + X.size + k) = bt S k := fun k k0 k1 => by
    rw [e, Int.add_assoc, bt_right _ _ (by omega) (by rw [ByteArray.size_append, ByteArray.size_append]; omega), bt_left _ _ (by omega) (by rw [ByteArray.size_append]; omega), bt_right _ _ k0 k1]
   have inR : ∀ k : Int, 0 ≤ k → k < R.size → bt t (beg.size + X.size + S.size + k) = bt R k := fun k k0 k1 => by
    have := bt_right (beg ++ (X ++ S)) R k0 k1;rw [app_assoc] at this;rw [e, ← this, ByteArray.size_append, ByteArray.size_append];congr 1; omega
   have cp : Copy s t (beg.size - a) a u.f1 := by
    refine ⟨h0, by omega, by omega, by omega, by omega, ?_, fun k k0 k1 => ?_⟩
    ·have := inS 0 (by omega) (by omega)
     rw [show (beg.size : Int) - a + u.f1 = beg.size + X.size + 0 by omega, this, hsp.2.2]
    ·have := inX (k - a) (by omega) (by omega)
     rw [show (beg.size : Int) - a + k = beg.size + (k - a) by omega, this]
     exact hC k k0 k1
   have ht1 := tokS_copy cp c2 (by omega)
   rw [show (beg.size : Int) - a + a = beg.size by omega] at ht1
   have hg1 := (gap_copy hs ht (s := s) (t := t) (f := u.f1) (u := beg.size - a) (by omega) (by omega) (by omega) cp.lf (u.f1 - (tokS s a).2.2.2.2.1).toNat (tokS s a).2.2.2.2.1 (by omega) (by omega) (by omega) (fun j j0 j1 => cp.same j (by omega) j1)).1 hn.2.2.2.symm
   have hq : (beg.size : Int) - a + u.f1 = beg.size + X.size := by omega
   have hend : gap t (beg.size + X.size + S.size) = beg.size + X.size + S.size := by
    rcases hbh with ⟨q1, q2⟩ | ⟨q1, q2, q3⟩
    ·subst q2;have : emp.size = 0 := rfl;rw [show (beg.size : Int) + X.size + S.size = t.size by omega]
     exact gap_end t
    ·have hst := gap_stop (s := s) (i := (tokS s a).2.2.2.2.1) (by omega) (by omega) q1
     have := inR 0 (by omega) (by omega)
     rw [Int.add_zero] at this;exact gap_stay (by omega) (by omega) (by rw [this, q3]; exact hst.1) (by rw [this, q3]; exact hst.2)
   have hg2 : gap t (beg.size + X.size) = beg.size + X.size + S.size := by
    have := sep_gap ht (g := g i) (q := beg.size + X.size) (hg i).1 (hg i).2 (by omega)
    rw [hS] at this;exact this (by omega) inS hend
   have e2 : t = (beg ++ (X ++ S)) ++ R := by rw [app_assoc]; exact e
   rw [← hR] at e2;obtain ⟨m', hm, hk⟩ := ih (gap s (tokS s a).2.2.2.2.1) (i + 1) (beg ++ (X ++ S)) (l ++ [⟨(tokS s a).1, beg.size, (tokS s a).2.2.1, (tokS s a).2.2.2.1⟩]) d c4 (by omega) (by omega) e2 (by simp only [List.length_append, List.length_cons, List.length_nil] at hl ⊢; omega) (by rw [ByteArray.size_append, ByteArray.size_append]; omega)
   refine ⟨⟨(tokS s a).1, beg.size, (tokS s a).2.2.1, (tokS s a).2.2.2.1⟩ :: m', ?_, by rw [List.map_cons, hk, c3]; rfl⟩
   unfold lexD;rw [if_pos (by omega), if_neg (by simp only [List.length_cons] at hl; omega), ht1]
   rw [if_pos (show (moved (beg.size - a) (tokS s a)).2.2.2.2.2 = 0 from c2)]
   simp only [moved];rw [hg1, hq, hg2];rw [show (beg.size : Int) + X.size + S.size = ((beg ++ (X ++ S)).size : Int) by rw [ByteArray.size_append, ByteArray.size_append]; omega, hm]
   simp
/-! the statement's rounds -/
def modS (a m : Int) : Int := if Int.tmod a m < 0 then Int.tmod a m + m else Int.tmod a m
theorem modS_f (a m : Int) (hm : 0 < m) (hm2 : m ≤ 100) : kp_Mod.f a m = some (modS a m) ∧ 0 ≤ modS a m ∧ modS a m < m := by
 unfold kp_Mod.f modS;rw [if_neg (by omega)]
 have h1 := Int.tmod_lt_of_pos a hm;have h2 : -m < Int.tmod a m := by
  have := Int.tmod_lt_of_pos (-a) hm;rw [Int.neg_tmod] at this;omega
 by_cases c : Int.tmod a m < 0
 ·rw [if_pos c, if_pos c, w64 (by omega) (by omega)]; exact ⟨rfl, by omega, by omega⟩
 ·rw [if_neg c, if_neg c]; exact ⟨rfl, by omega, by omega⟩
def gapIx (l : List Int) (i : Int) : Int := if (l.length : Int) > 0 then modS (rd l (Int.tmod i (l.length : Int))) 4 else 0
theorem gapIx_range (l : List Int) (i : Int) : 0 ≤ gapIx l i ∧ gapIx l i < 4 := by
 unfold gapIx;by_cases c : (l.length : Int) > 0
 ·rw [if_pos c]; exact (modS_f _ 4 (by omega) (by omega)).2
 ·rw [if_neg c]; omega
theorem rd_mid (p : List S33) (t : S33) (r : List S33) {i : Int} (h : (p.length : Int) = i) : rd_T33 (p ++ t :: r) i = t := by
 unfold rd_T33;rw [show i.toNat = p.length by omega]
 simp
theorem ev_build (s : ByteArray) (hs : s.size ≤ 150) (x : List Int) (L : List S33) (hL : L.length ≤ 60) (T : ByteArray) (hT : T.size ≤ 8192)
 (fin : Ev (fun k => (flex_Lex.f k T).bind fun b => (if b.2.2 = 0 then (law_FlexSpaces.j3 k L b.1 ((b.1.length : Int) != (L.length : Int))) else (law_FlexSpaces.j3 k L b.1 true))) true) :
 ∀ (m p : List S33) (y : ByteArray) (i a : Int), L = p ++ m → (p.length : Int) = i → tokRow s a m → 0 ≤ a → a ≤ s.size → T = y ++ build s (gapIx x) i m → Ev (fun k => law_FlexSpaces.l0 k s x L y i) true := by
 intro m;induction m with
 | nil => intro p y i a e hi h; exact h.elim
 | cons t r ih =>
  intro p y i a e hi h h0 h1 eT;have hlen : (L.length : Int) = i + 1 + r.length := by rw [e]; simp; omega
  have hr : rd_T33 L i = t := by rw [e]; exact rd_mid p t r hi
  have hi0 : 0 ≤ i := by omega
  have hi1 : wrap64 (i + 1) = i + 1 := w64 (by omega) (by omega)
  cases r with
  | nil =>
   simp only [List.length_nil] at hlen;simp only [build, emp_app] at eT;subst eT;refine Ev.step (fun k => by first | (rw [law_FlexSpaces.l0]; done) | (rw [law_FlexSpaces.l0]; rfl)) ?_
   rw [hi1];exact Ev.neg (by omega) fin
  | cons u r =>
   have hn := tokRow_next h0 h;have hh := tokRow_head h;have hz := size_extract' s (a := t.f1) (b := u.f1) (by omega) (by omega) (by omega)
   simp only [List.length_cons] at hlen;have e2 : L = (p ++ [t]) ++ u :: r := by rw [e]; simp
   have hi2 : ((p ++ [t]).length : Int) = i + 1 := by simp; omega
   have hr2 : rd_T33 L (i + 1) = u := by rw [e2]; exact rd_mid (p ++ [t]) u r hi2
   have h4 := h.2.2.2;rw [← hn.2.2.2] at h4;have hg := gapIx_range x i;have hsp := sep_size hg.1 hg.2;have e3 : T = (y ++ (s.extract t.f1.toNat u.f1.toNat ++ sep (gapIx x i))) ++ build s (gapIx x) (i + 1) (u :: r) := by rw [app_assoc, eT]; rfl
   have hys : y.size ≤ T.size := by rw [eT, ByteArray.size_append]; omega
   have nx := ih (p ++ [t]) _ (i + 1) u.f1 e2 hi2 h4 (by omega) (by omega) e3
   have hS4 : ((([(⟨#[10]⟩ : ByteArray), (⟨#[10, 32]⟩ : ByteArray), (⟨#[10, 9, 13]⟩ : ByteArray), (⟨#[10, 35, 32, 120, 32, 124, 32, 121, 10]⟩ : ByteArray)] : List ByteArray)).length : Int) = 4 := rfl;have hsz : (s.extract t.f1.toNat u.f1.toNat ++ sep (gapIx x i)).size ≤ 200 := by rw [ByteArray.size_append]; omega
   refine Ev.step (fun k => by first | (rw [law_FlexSpaces.l0]; done) | (rw [law_FlexSpaces.l0]; rfl)) ?_
   rw [hi1, hr, hr2];refine Ev.pos (by omega) (Ev.pos hi0 (Ev.pos (by omega) (Ev.neg (by omega) (Ev.pos (by omega) (Ev.neg (by omega) ?_)))))
   rw [decide_eq_false (show ¬ u.f1 > (s.size : Int) by omega)]
   refine Ev.step (fun k => by first | (rw [law_FlexSpaces.j2]; done) | (rw [law_FlexSpaces.j2]; rfl)) (Ev.neg (by simp) ?_)
   rw [hi1, hr, hr2];by_cases c : (x.length : Int) > 0
   ·have hm := modS_f (rd x (Int.tmod i (x.length : Int))) 4 (by omega) (by omega)
    have hgx : gapIx x i = modS (rd x (Int.tmod i (x.length : Int))) 4 := if_pos c;have t0 := Int.tmod_nonneg (x.length : Int) hi0;have t1 := Int.tmod_lt_of_pos i c;rw [hgx] at nx hsp hsz;exact Ev.pos c (Ev.neg (by omega) (Ev.pos t0 (Ev.pos t1 (Ev.pbind hm.1 (Ev.pos hi0 (Ev.pos (by omega) (Ev.pos (by omega) (Ev.pos (by omega) (Ev.pos (by omega) (Ev.pos (by omega) (Ev.pos (by omega)
     (Ev.pbind (a := seps) rfl (Ev.pos hm.2.1 (Ev.pos hm.2.2 (Ev.pos (show (s.extract t.f1.toNat u.f1.toNat).size + (sep (modS (rd x (Int.tmod i (x.length : Int))) 4)).size ≤ 9223372036854775807 by omega) (Ev.pos (show y.size + (s.extract t.f1.toNat u.f1.toNat ++ sep (modS (rd x (Int.tmod i (x.length : Int))) 4)).size ≤ 9223372036854775807 by omega) nx))))))))))))))))
   ·have hgx : gapIx x i = 0 := if_neg c;rw [hgx] at nx hsp hsz;exact Ev.neg c (Ev.pos hi0 (Ev.pos (by omega) (Ev.pos (by omega) (Ev.pos (by omega) (Ev.pos (by omega) (Ev.pos (by omega) (Ev.pos (by omega)
     (Ev.pbind (a := seps) rfl (Ev.pos (by decide) (Ev.pos (show (s.extract t.f1.toNat u.f1.toNat).size + (sep 0).size ≤ 9223372036854775807 by omega) (Ev.pos (show y.size + (s.extract t.f1.toNat u.f1.toNat ++ sep 0).size ≤ 9223372036854775807 by omega) nx)))))))))))
theorem key_rd (xs : List S33) (i : Int) : key (rd_T33 xs i) = (xs.map key).getD i.toNat (key z33) := by
 unfold rd_T33;simp only [List.getD, List.getElem?_map]
 cases xs[i.toNat]? <;> rfl
theorem ev_same (L M : List S33) (hL : L.length ≤ 60) (h : M.map key = L.map key) : ∀ (d : Nat) (i : Int), (L.length : Int) - i = d → 0 ≤ i → Ev (fun k => law_FlexSpaces.l1 k L M i) true := by
 have hlen : M.length = L.length := by
  have := congrArg List.length h;simpa using this
 intro d;induction d with
 | zero =>
  intro i hd h0;exact Ev.step (fun k => by first | (rw [law_FlexSpaces.l1]; done) | (rw [law_FlexSpaces.l1]; rfl)) (Ev.neg (by omega) (Ev.bind awake_true (Ev.now true)))
 | succ d ih =>
  intro i hd h0;have hk : key (rd_T33 M i) = key (rd_T33 L i) := by rw [key_rd, key_rd, h]
  unfold key at hk;simp only [Prod.mk.injEq] at hk;refine Ev.step (fun k => by first | (rw [law_FlexSpaces.l1]; done) | (rw [law_FlexSpaces.l1]; rfl)) (Ev.pos (by omega) (Ev.pos h0 (Ev.pos (by omega) (Ev.pos hk.1 (Ev.pos (by rw [hk.2.1]) (Ev.pos hk.2.2 ?_))))))
  rw [w64 (x := i + 1) (by omega) (by omega)]
  exact ih (i + 1) (by omega) (by omega)
theorem spaces_holds (s : ByteArray) (x : List Int) : ∃ k, law_FlexSpaces.f k s x = some true := by
 refine Ev.rounds (g := fun k => law_FlexSpaces.f k s x) ?_
 unfold law_FlexSpaces.f;refine Ev.bind (ev_Lex s) ?_
 have jt : Ev (fun k => law_FlexSpaces.j0 k s x (lexS s).1 true) true :=
  Ev.step (fun k => by first | (rw [law_FlexSpaces.j0]; done) | (rw [law_FlexSpaces.j0]; rfl)) (Ev.pos rfl (Ev.bind awake_true (Ev.now true)))
 by_cases c1 : (s.size : Int) > 150
 ·exact Ev.pos c1 jt
 refine Ev.neg c1 ?_
 by_cases c2 : (lexS s).2.2 = 0
 case neg => exact Ev.neg c2 jt
 refine Ev.pos c2 ?_
 by_cases c3 : ((lexS s).1.length : Int) = 0
 ·exact Ev.pos c3 jt
 refine Ev.neg c3 ?_
 by_cases c4 : ((lexS s).1.length : Int) > 60
 ·rw [decide_eq_true c4]; exact jt
 rw [decide_eq_false c4];refine Ev.step (fun k => by first | (rw [law_FlexSpaces.j0]; done) | (rw [law_FlexSpaces.j0]; rfl)) (Ev.neg (by simp) ?_)
 have hg0 := gap_le s (i := 0) (by omega) (by omega)
 have hrow : tokRow s (gap s 0) (lexS s).1 := by
  unfold lexS at c2 ⊢;rw [if_neg (by omega)] at c2 ⊢
  obtain ⟨m, hm, hc⟩ := lexD_row s (by omega) (s.size + 1) [] (gap s 0) (by omega) (by omega) (by omega) c2
  rw [hm];exact hc
 generalize hLs : (lexS s).1 = L at *;have hbs := build_size s (gapIx x) (gapIx_range x) L (gap s 0) 0 (by omega) (by omega) hrow
 generalize hT : build s (gapIx x) 0 L = T at hbs;have e0 : T = (emp : ByteArray) ++ build s (gapIx x) 0 L := by rw [← hT]; exact ByteArray.empty_append.symm
 have hz : emp.size = 0 := rfl;obtain ⟨M, hM, hK⟩ := copy_lex s T (by omega) (by omega) (gapIx x) (gapIx_range x) L (gap s 0) 0 emp [] (T.size + 1) hrow (by omega) (by omega) e0 (by simp; omega) (by omega)
 have hgT : gap T 0 = 0 := by
  cases L with
  | nil => exact hrow.elim
  | cons u r =>
   rcases build_head s (gapIx x) 0 (by omega) hrow with ⟨q1, q2⟩ | ⟨q1, q2, q3⟩
   ·rw [hT] at q2;subst q2;exact gap_end emp
   ·rw [hT] at q2 q3;have hst := gap_stop (s := s) (i := 0) (by omega) (by omega) q1
    exact gap_stay (by omega) (by omega) (by rw [q3]; exact hst.1) (by rw [q3]; exact hst.2)
 have hlT : lexS T = (M, 0, 0) := by
  unfold lexS;rw [if_neg (by omega), hgT]
  rw [hz] at hM;exact hM
 have hML : M.length = L.length := by
  have := congrArg List.length hK;simpa using this
 refine ev_build s (by omega) x L (by omega) T (by omega) ?_ L [] emp 0 (gap s 0) rfl rfl hrow (by omega) (by omega) e0
 refine Ev.bind (ev_Lex T) ?_
 rw [hlT];refine Ev.pos rfl ?_
 rw [show ((M.length : Int) != (L.length : Int)) = false by rw [hML]; simp]
 exact Ev.step (fun k => by first | (rw [law_FlexSpaces.j3]; done) | (rw [law_FlexSpaces.j3]; rfl)) (Ev.neg (by simp) (ev_same L M (by omega) hK L.length 0 (by omega) (by omega)))
end Go.Proofs.YtdhdpidjdadamaaDoor.Q
