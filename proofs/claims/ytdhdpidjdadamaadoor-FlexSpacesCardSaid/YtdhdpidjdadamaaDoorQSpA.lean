/- Plain words for FlexSpaces: gaps, and what a token is does not hang on what lies behind its line feed. No program and no memory here. -/
import Derived.Test.YtdhdpidjdadamaaDoorQAwake
namespace Go.Proofs.YtdhdpidjdadamaaDoor.Q
open Go.RowKit Go.Proofs.YtdhdpidjdadamaaDoorW.PrintWords Go.Proofs.YtdhdpidjdadamaaDoorW.PrintLast Go.Proofs.YtdhdpidjdadamaaDoor.PX
set_option linter.unusedVariables false
set_option linter.unusedSimpArgs false
/-! gaps, byte by byte -/
theorem Ev.one {α : Type} {g : Nat → Option α} {a b : α} (h1 : Ev g a) (h2 : Ev g b) : a = b := by
 obtain ⟨K, h⟩ := h1;obtain ⟨L, h'⟩ := h2;have e1 := h (K + L) (by omega)
 have e2 := h' (K + L) (by omega)
 rw [e1] at e2;exact Option.some.inj e2
theorem gapD_any {s : ByteArray} (hs : s.size ≤ 8192) {d e : Nat} {i : Int} (h0 : 0 ≤ i) (h1 : i ≤ s.size) (hd : (s.size : Int) - i < d) (he : (s.size : Int) - i < e) : gapD s d i = gapD s e i :=
 Ev.one (ev_gap (by omega) d i hd h0 h1) (ev_gap (by omega) e i he h0 h1)
theorem gap_as {s : ByteArray} (hs : s.size ≤ 8192) {d : Nat} {i : Int} (h0 : 0 ≤ i) (h1 : i ≤ s.size) (hd : (s.size : Int) - i < d) : gap s i = gapD s d i :=
 gapD_any hs h0 h1 (by omega) hd
theorem gap_blank {s : ByteArray} (hs : s.size ≤ 8192) {i : Int} (h0 : 0 ≤ i) (h1 : i < s.size) (hb : blankB (bt s i) = true) : gap s i = gap s (i + 1) := by
 rw [gap_as hs (d := s.size + 1 + 1) h0 (by omega) (by omega), gap_as hs (d := s.size + 1 + 1) (i := i + 1) (by omega) (by omega) (by omega)]
 unfold gapD;rw [runTo_step h0 h1 hb]
/-- Behind the rest of a comment. -/
def cgap (s : ByteArray) (i : Int) : Int := gap s (runTo (fun c => c != 10) s i)
theorem gap_hash {s : ByteArray} (hs : s.size ≤ 8192) {i : Int} (h0 : 0 ≤ i) (h1 : i < s.size) (hb : bt s i = 35) : gap s i = cgap s (i + 1) := by
 have hl := runTo_le (fun c => c != 10) s (i := i + 1) (by omega) (by omega)
 rw [gap_as hs (d := s.size + 1 + 1) h0 (by omega) (by omega)]
 unfold cgap;rw [gap_as hs (d := s.size + 1) (i := runTo (fun c => c != 10) s (i + 1)) (by omega) (by omega) (by omega)]
 conv => lhs; unfold gapD
 have e : runTo blankB s i = i := runTo_stop (by rw [hb]; rfl)
 have e2 : runTo (fun c => c != 10) s i = runTo (fun c => c != 10) s (i + 1) := runTo_step h0 h1 (by rw [hb]; rfl)
 rw [e, if_neg (by omega), if_neg (by omega), e2]
theorem cgap_on {s : ByteArray} {i : Int} (h0 : 0 ≤ i) (h1 : i < s.size) (hb : bt s i ≠ 10) : cgap s i = cgap s (i + 1) := by
 unfold cgap;rw [runTo_step h0 h1 (by simpa using hb)]
theorem cgap_off {s : ByteArray} {i : Int} (hb : bt s i = 10) : cgap s i = gap s i := by
 unfold cgap;rw [runTo_stop (by rw [hb]; rfl)]
theorem cgap_end (s : ByteArray) : cgap s s.size = s.size := by
 unfold cgap;rw [runTo_size _ _ (by omega), gap_end]
/-- Where a gap ends, a token begins, or the text ends. -/
theorem gapD_stop (s : ByteArray) : ∀ (d : Nat) (i : Int), 0 ≤ i → i ≤ s.size → (s.size : Int) - i < d → gapD s d i < s.size → blankB (bt s (gapD s d i)) = false ∧ bt s (gapD s d i) ≠ 35 := by
 intro d;induction d with
 | zero => intro i h0 h1 hd; omega
 | succ d ih =>
  intro i h0 h1 hd h;have hb := runTo_le blankB s h0 h1;unfold gapD at h ⊢;by_cases c : runTo blankB s i = s.size
  ·rw [if_pos c] at h; omega
  rw [if_neg c] at h ⊢;by_cases c2 : bt s (runTo blankB s i) ≠ 35
  ·rw [if_pos c2] at h ⊢;exact ⟨runTo_end h0 h1 (by omega), c2⟩
  ·rw [if_neg c2] at h ⊢;have c2 : bt s (runTo blankB s i) = 35 := by simpa using c2
   have hst := runTo_step (p := fun c => c != 10) (s := s) (i := runTo blankB s i) (by omega) (by omega) (by rw [c2]; rfl)
   have hl := runTo_le (fun c => c != 10) s (i := runTo blankB s i + 1) (by omega) (by omega)
   exact ih _ (by omega) (by omega) (by omega) h
theorem gap_stop {s : ByteArray} {i : Int} (h0 : 0 ≤ i) (h1 : i ≤ s.size) (h : gap s i < s.size) : blankB (bt s (gap s i)) = false ∧ bt s (gap s i) ≠ 35 :=
 gapD_stop s _ i h0 h1 (by omega) h
/-- A gap of s that ends at f, copied into t with v behind it, where a line feed lies at v's begin: it ends where the gap behind v's begin ends. -/
theorem gap_copy {s t : ByteArray} (hs : s.size ≤ 8192) (ht : t.size ≤ 8192) {f u : Int} (hu : 0 ≤ u + f) (hf : f ≤ s.size) (hft : u + f < t.size) (h10 : bt t (u + f) = 10) :
 ∀ (d : Nat) (i : Int), f - i = d → 0 ≤ i → 0 ≤ u + i → (∀ j, i ≤ j → j < f → bt t (u + j) = bt s j) → (gap s i = f → gap t (u + i) = gap t (u + f)) ∧ (cgap s i = f → cgap t (u + i) = gap t (u + f)) := by
 intro d;induction d with
 | zero =>
  intro i hd h0 h0' hin;have : i = f := by omega
  subst this;exact ⟨fun _ => rfl, fun _ => cgap_off h10⟩
 | succ d ih =>
  intro i hd h0 h0' hin;have hi := hin i (by omega) (by omega)
  obtain ⟨ih1, ih2⟩ := ih (i + 1) (by omega) (by omega) (by omega) (fun j a b => hin j (by omega) b)
  rw [show u + (i + 1) = u + i + 1 by omega] at ih1 ih2
  have out : gap s i = f → gap t (u + i) = gap t (u + f) := by
   intro h;by_cases c : blankB (bt s i) = true
   ·rw [gap_blank hs h0 (by omega) c] at h
    rw [gap_blank ht h0' (by omega) (by rw [hi]; exact c)]
    exact ih1 h
   ·by_cases c2 : bt s i = 35
    ·rw [gap_hash hs h0 (by omega) c2] at h
     rw [gap_hash ht h0' (by omega) (by rw [hi]; exact c2)]
     exact ih2 h
    ·rw [gap_stay h0 (by omega) (by simpa using c) c2] at h
     omega
  refine ⟨out, fun h => ?_⟩
  by_cases c : bt s i = 10
  ·rw [cgap_off c] at h;rw [cgap_off (by rw [hi]; exact c)]
   exact out h
  ·rw [cgap_on h0 (by omega) c] at h
   rw [cgap_on h0' (by omega) (by rw [hi]; exact c)]
   exact ih2 h
/-! parts of a text with the same bytes -/
theorem part_bytes (s : ByteArray) {i : Int} (h0 : 0 ≤ i) : ∀ (n : Nat), i + n ≤ s.size → bytesOf (s.extract i.toNat (i + n).toNat) = (List.range n).map fun k : Nat => bt s (i + k) := by
 intro n h;apply List.ext_getElem
 ·rw [bytesOf_length, ByteArray.size_extract, List.length_map, List.length_range]; omega
 ·intro k h1 h2;rw [List.length_map, List.length_range] at h2;have e := rd_bytesOf (s.extract i.toNat (i + n).toNat) k;rw [bt_extract s h0 (by omega) (by omega) (by omega) (by omega)] at e
  rw [List.getElem_map, List.getElem_range, ← e];unfold rd;simp [List.getD, h1]
theorem bytes_inj {s t : ByteArray} (h : bytesOf s = bytesOf t) : s = t := by
 apply ByteArray.ext
 apply Array.toList_inj.mp
 unfold bytesOf at h;exact (List.map_inj_right (fun a b h => by
  have : a.toNat = b.toNat := by omega
  exact UInt8.toNat_inj.mp this)).1 h
theorem part_eq {s t : ByteArray} {i j : Int} (u : Int) (h0 : 0 ≤ i) (h1 : i ≤ j) (h2 : j ≤ s.size) (h0' : 0 ≤ u + i) (h2' : u + j ≤ t.size) (hin : ∀ k, i ≤ k → k < j → bt t (u + k) = bt s k) : t.extract (u + i).toNat (u + j).toNat = s.extract i.toNat j.toNat := by
 apply bytes_inj
 have e1 := part_bytes s h0 (j - i).toNat (by omega)
 have e2 := part_bytes t h0' (j - i).toNat (by omega)
 rw [show i + ((j - i).toNat : Int) = j by omega] at e1
 rw [show u + i + ((j - i).toNat : Int) = u + j by omega] at e2
 rw [e1, e2];apply List.map_congr_left
 intro k hk;rw [List.mem_range] at hk;rw [show u + i + (k : Int) = u + (i + k) by omega]
 exact hin _ (by omega) (by omega)
/-! names, numbers and signs -/
/-- t holds, from u + a on, the bytes of s from a on to f, and a line feed behind them. -/
structure Copy (s t : ByteArray) (u a f : Int) : Prop where
 a0 : 0 ≤ a
 af : a < f
 fs : f ≤ s.size
 u0 : 0 ≤ u + a
 ut : u + f < t.size
 lf : bt t (u + f) = 10
 same : ∀ k, a ≤ k → k < f → bt t (u + k) = bt s k
theorem run_copy {s t : ByteArray} {u a f : Int} (h : Copy s t u a f) {p : Int → Bool} (hp : p 10 = false) {i : Int} (hi : a ≤ i) (hf : i ≤ f) (he : runTo p s i ≤ f) : runTo p t (u + i) = u + runTo p s i := by
 obtain ⟨h1, h2, h3, h4, h5, h6, h7⟩ := h;have hl := runTo_le p s (i := i) (by omega) (by omega)
 refine runTo_eq (runTo p s i - i).toNat (by omega) (by omega) (by omega) (by omega) (fun j a b => ?_) (fun hlt => ?_)
 ·have e := h7 (j - u) (by omega) (by omega)
  rw [show u + (j - u) = j by omega] at e
  rw [e];exact runTo_in (p := p) (s := s) (i := i) (by omega) (by omega)
 ·by_cases c : runTo p s i = f
  ·rw [c, h6]; exact hp
  ·rw [h7 _ (by omega) (by omega)]
   exact runTo_end (by omega) (by omega) (by omega)
theorem nameEnd_copy {s t : ByteArray} {u a f : Int} (h : Copy s t u a f) {i : Int} (hi : a ≤ i) (hf : i ≤ f) (he : nameEnd s i ≤ f) : nameEnd t (u + i) = u + nameEnd s i := by
 have h' := h;obtain ⟨h1, h2, h3, h4, h5, h6, h7⟩ := h;unfold nameEnd at he ⊢;by_cases c : i = f
 ·subst c;rw [if_neg (by rw [h6]; exact fun hh => by simp [letterB] at hh)]
  by_cases c2 : i < s.size ∧ letterB (bt s i) = true
  ·rw [if_pos c2] at he;have := runTo_step (p := wordB) (s := s) (i := i) (by omega) c2.1 (by unfold wordB; rw [c2.2]; rfl)
   have := runTo_le wordB s (i := i + 1) (by omega) (by omega)
   omega
  ·rw [if_neg c2]
 ·have e := h7 i hi (by omega)
  by_cases c2 : letterB (bt s i) = true
  ·have k1 : i < s.size ∧ letterB (bt s i) = true := ⟨by omega, c2⟩
   have k2 : u + i < t.size ∧ letterB (bt t (u + i)) = true := ⟨by omega, by rw [e]; exact c2⟩
   rw [if_pos k1] at he ⊢;rw [if_pos k2];exact run_copy h' (by decide) hi hf he
  ·have k1 : ¬ (i < s.size ∧ letterB (bt s i) = true) := fun hh => c2 hh.2
   have k2 : ¬ (u + i < t.size ∧ letterB (bt t (u + i)) = true) := fun hh => c2 (by rw [← e]; exact hh.2)
   rw [if_neg k1, if_neg k2]
/-- A token moved by u. -/
def moved (u : Int) (v : Int × Int × ByteArray × Int × Int × Int) : Int × Int × ByteArray × Int × Int × Int := (v.1, v.2.1, v.2.2.1, v.2.2.2.1, u + v.2.2.2.2.1, v.2.2.2.2.2)
theorem nameTok_copy {s t : ByteArray} {u a f : Int} (h : Copy s t u a f) {i : Int} (hi : a ≤ i) (hf : i ≤ f) (kind : Int) (hok : (nameTok s a i kind).2.2.2.2.2 = 0) (he : (nameTok s a i kind).2.2.2.2.1 ≤ f) : nameTok t (u + a) (u + i) kind = moved u (nameTok s a i kind) := by
 have h' := h;obtain ⟨h1, h2, h3, h4, h5, h6, h7⟩ := h;have hl := nameEnd_le s (i := i) (by omega) (by omega)
 unfold nameTok at hok he ⊢;by_cases c1 : nameEnd s i = i
 ·rw [if_pos c1] at hok; simp at hok
 rw [if_neg c1] at hok he ⊢;by_cases c2 : nameEnd s i - i > 32
 ·rw [if_pos c2] at hok; simp at hok
 rw [if_neg c2] at hok he ⊢;simp only at he;have e := nameEnd_copy h' hi hf he;have ep := part_eq (s := s) (t := t) (i := i) (j := nameEnd s i) u (by omega) (by omega) (by omega) (by omega) (by omega) (fun k a b => h7 k (by omega) (by omega))
 rw [e, if_neg (by omega), if_neg (by omega), ep]
 rfl
theorem numTok_copy {s t : ByteArray} {u a f : Int} (h : Copy s t u a f) (hd : digitB (bt s a) = true) (hok : (numTok s a).2.2.2.2.2 = 0) (he : (numTok s a).2.2.2.2.1 ≤ f) : numTok t (u + a) = moved u (numTok s a) := by
 have h' := h;obtain ⟨h1, h2, h3, h4, h5, h6, h7⟩ := h;have hl := runTo_le digitB s (i := a) (by omega) (by omega)
 have hst := runTo_step (p := digitB) (s := s) (i := a) (by omega) (by omega) hd
 have hl2 := runTo_le digitB s (i := a + 1) (by omega) (by omega)
 have ha := h7 a (by omega) (by omega)
 unfold numTok at hok he ⊢;by_cases c1 : bt s a = 48 ∧ a + 1 < runTo digitB s a
 ·rw [if_pos c1] at hok; simp at hok
 rw [if_neg c1] at hok he ⊢;by_cases c2 : (runTo digitB s a < s.size ∧ letterB (bt s (runTo digitB s a)) = true) ∨ (runTo digitB s a + 1 < s.size ∧ bt s (runTo digitB s a) = 46 ∧ digitB (bt s (runTo digitB s a + 1)) = true)
 ·rw [if_pos c2] at hok; simp at hok
 rw [if_neg c2] at hok he ⊢;cases hv : valS (s.extract a.toNat (runTo digitB s a).toNat) with
 | none => rw [hv] at hok; simp at hok
 | some v =>
  rw [hv] at he;simp only at he;have e := run_copy h' (p := digitB) (by decide) (by omega) (by omega) he
  have ep := part_eq (s := s) (t := t) (i := a) (j := runTo digitB s a) u (by omega) (by omega) (by omega) (by omega) (by omega) (fun k a b => h7 k (by omega) (by omega))
  rw [e, ha, if_neg (by omega), ep, hv]
  have c3 : ¬ ((u + runTo digitB s a < t.size ∧ letterB (bt t (u + runTo digitB s a)) = true) ∨ (u + runTo digitB s a + 1 < t.size ∧ bt t (u + runTo digitB s a) = 46 ∧ digitB (bt t (u + runTo digitB s a + 1)) = true)) := by
   by_cases c4 : runTo digitB s a = f
   ·rw [c4, h6];rintro (h | h)
    ·exact absurd h.2 (by decide)
    ·exact absurd h.2.1 (by decide)
   ·rw [h7 _ (by omega) (by omega)]
    rintro (h | h)
    ·exact c2 (.inl ⟨by omega, h.2⟩)
    ·by_cases c5 : runTo digitB s a + 1 = f
     ·rw [show u + runTo digitB s a + 1 = u + f by omega, h6] at h
      exact absurd h.2.2 (by decide)
     ·rw [show u + runTo digitB s a + 1 = u + (runTo digitB s a + 1) by omega, h7 _ (by omega) (by omega)] at h
      exact c2 (.inr ⟨by omega, h.2⟩)
  rw [if_neg c3];rfl
/-- When a sign stands at a place: byte by byte. -/
theorem pre_iff (s g : ByteArray) {a : Int} (h0 : 0 ≤ a) (h1 : a ≤ s.size) : pre (s.extract a.toNat s.size) g = true ↔ (a + g.size ≤ s.size ∧ ∀ k : Int, 0 ≤ k → k < g.size → bt s (a + k) = bt g k) := by
 unfold pre;simp only [Bool.and_eq_true, decide_eq_true_eq, beq_iff_eq, ByteArray.size_extract];rw [Nat.min_self];have hsz : a + g.size ≤ s.size → (s.extract a.toNat s.size).extract 0 g.size = s.extract a.toNat (a + g.size).toNat := by
  intro h;rw [ByteArray.extract_extract];congr 1 <;> omega
 have hl : ∀ x y : ByteArray, x.toList = y.toList ↔ x = y := by
  intro x y;rw [ByteArray.toList_eq, ByteArray.toList_eq];exact ⟨fun h => ByteArray.ext (Array.toList_inj.mp h), fun h => by rw [h]⟩
 rw [hl];constructor
 ·rintro ⟨h2, h3⟩;have hle : a + g.size ≤ s.size := by omega
  refine ⟨hle, fun k k0 k1 => ?_⟩
  rw [hsz hle] at h3;have := bt_extract s (a := a) (b := a + g.size) (j := k) h0 (by omega) hle k0 (by omega)
  rw [h3] at this;exact this.symm
 ·rintro ⟨h2, h3⟩;refine ⟨by omega, ?_⟩
  rw [hsz h2];have := part_eq (s := g) (t := s) (i := 0) (j := g.size) a (by omega) (by omega) (by omega) (by omega) h2 (fun k k0 k1 => h3 k k0 k1)
  rw [Int.add_zero] at this;rw [this, show (0 : Int).toNat = 0 from rfl, show (g.size : Int).toNat = g.size by omega]
  exact ByteArray.extract_zero_size
theorem signs_lf : ∀ g ∈ flexSigns, bt g 0 ≠ 10 ∧ bt g 1 ≠ 10 := by decide +kernel
theorem find_copy {p q : ByteArray → Bool} : ∀ {l : List ByteArray} {g : ByteArray}, l.find? p = some g → q g = true → (∀ x ∈ l, q x = true → p x = true) → l.find? q = some g := by
 intro l;induction l with
 | nil => intro g h; simp at h
 | cons x r ih =>
  intro g h hq himp;rw [List.find?_cons] at h ⊢
  by_cases c : p x = true
  ·rw [c] at h;simp only [Option.some.injEq] at h;subst h;rw [hq]
  ·rw [show p x = false by simpa using c] at h
   rw [show q x = false by
    cases hx : q x with
    | false => rfl
    | true => exact absurd (himp x List.mem_cons_self hx) c]
   exact ih h hq (fun y hy => himp y (List.mem_cons_of_mem _ hy))
theorem signTok_copy {s t : ByteArray} {u a f : Int} (h : Copy s t u a f) (hok : (signTok s a).2.2.2.2.2 = 0) (he : (signTok s a).2.2.2.2.1 ≤ f) : signTok t (u + a) = moved u (signTok s a) := by
 obtain ⟨h1, h2, h3, h4, h5, h6, h7⟩ := h;unfold signTok at hok he ⊢;cases e : flexSigns.find? (fun g => pre (s.extract a.toNat s.size) g) with
 | none => rw [e] at hok; simp at hok
 | some g =>
  rw [e] at he;simp only at he;have hg := (pre_iff s g h1 (by omega)).1 (List.find?_some e)
  have e2 : flexSigns.find? (fun g => pre (t.extract (u + a).toNat t.size) g) = some g := by
   refine find_copy e ((pre_iff t g h4 (by omega)).2 ⟨by omega, fun k k0 k1 => ?_⟩) (fun x hx hp => ?_)
   ·have := h7 (a + k) (by omega) (by omega)
    rw [show u + (a + k) = u + a + k by omega] at this
    rw [this];exact hg.2 k k0 k1
   ·have hx1 := signs_small x hx;have hx2 := signs_lf x hx;have hp := (pre_iff t x h4 (by omega)).1 hp
    have hin : a + x.size ≤ f := by
     by_cases c : a + x.size ≤ f
     ·exact c
     ·have := hp.2 1 (by omega) (by omega)
      rw [show u + a + 1 = u + f by omega, h6] at this
      exact absurd this.symm hx2.2
    refine (pre_iff s x h1 (by omega)).2 ⟨by omega, fun k k0 k1 => ?_⟩
    have e1 := h7 (a + k) (by omega) (by omega)
    rw [show u + (a + k) = u + a + k by omega] at e1
    rw [← e1];exact hp.2 k k0 k1
  rw [e2];simp only [moved];rw [Int.add_assoc]
end Go.Proofs.YtdhdpidjdadamaaDoor.Q
