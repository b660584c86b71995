/- Plain words for FlexSpaces: a string, and a token, copied with a line feed behind it is the same. No program and no memory here. -/
import Derived.Test.YtdhdpidjdadamaaDoorQSpA
namespace Go.Proofs.YtdhdpidjdadamaaDoor.Q
open Go.RowKit Go.Proofs.YtdhdpidjdadamaaDoorW.PrintWords Go.Proofs.YtdhdpidjdadamaaDoorW.PrintLast Go.Proofs.YtdhdpidjdadamaaDoor.PX
set_option linter.unusedVariables false
set_option linter.unusedSimpArgs false
theorem four_all (u : ByteArray) (low : Bool) : fourS u low =
 if (0 : Int) = u.size then (0, 5) else if fourBad low 0 0 (hexS (bt u 0)) = true then (0, 4)
 else if (1 : Int) = u.size then (0, 5) else if fourBad low 1 (0 * 16 + hexS (bt u 0)) (hexS (bt u 1)) = true then (0, 4)
 else if (2 : Int) = u.size then (0, 5) else if fourBad low 2 ((0 * 16 + hexS (bt u 0)) * 16 + hexS (bt u 1)) (hexS (bt u 2)) = true then (0, 4)
 else if (3 : Int) = u.size then (0, 5) else if fourBad low 3 (((0 * 16 + hexS (bt u 0)) * 16 + hexS (bt u 1)) * 16 + hexS (bt u 2)) (hexS (bt u 3)) = true then (0, 4)
 else ((((0 * 16 + hexS (bt u 0)) * 16 + hexS (bt u 1)) * 16 + hexS (bt u 2)) * 16 + hexS (bt u 3), 0) := rfl
theorem fourS_copy {p q : ByteArray} (low : Bool) (hp : 4 ≤ p.size) (hq : 4 ≤ q.size) (hin : ∀ k : Int, 0 ≤ k → k < 4 → bt q k = bt p k) : fourS q low = fourS p low := by
 rw [four_all, four_all p, hin 0 (by omega) (by omega), hin 1 (by omega) (by omega), hin 2 (by omega) (by omega), hin 3 (by omega) (by omega)]
 rw [if_neg (show ¬ (0 : Int) = q.size by omega), if_neg (show ¬ (0 : Int) = p.size by omega), if_neg (show ¬ (1 : Int) = q.size by omega), if_neg (show ¬ (1 : Int) = p.size by omega), if_neg (show ¬ (2 : Int) = q.size by omega), if_neg (show ¬ (2 : Int) = p.size by omega), if_neg (show ¬ (3 : Int) = q.size by omega), if_neg (show ¬ (3 : Int) = p.size by omega)]
theorem fourS_room {p : ByteArray} (low : Bool) (h : (fourS p low).2 = 0) : 4 ≤ p.size := fourD_size p low 4 0 0 rfl (by omega) (by omega) h
theorem bt_rest (u : ByteArray) (n : Nat) {k : Int} (h0 : 0 ≤ k) (h1 : n + k < u.size) : bt (u.extract n u.size) k = bt u (n + k) := by
 have := bt_extract u (a := n) (b := u.size) (j := k) (by omega) (by omega) (by omega) h0 (by omega)
 rwa [show ((n : Int)).toNat = n by omega, show ((u.size : Int)).toNat = u.size by omega] at this
theorem rest_size (u : ByteArray) (n : Nat) (h : n ≤ u.size) : (u.extract n u.size).size = u.size - n := by rw [ByteArray.size_extract]; omega
theorem four_rest {u v : ByteArray} (n : Nat) (low : Bool) (hok : (fourS (u.extract n u.size) low).2 = 0) (hv : n + 4 ≤ v.size) (hin : ∀ k : Int, 0 ≤ k → k < n + 4 → bt v k = bt u k) : n + 4 ≤ u.size ∧ fourS (v.extract n v.size) low = fourS (u.extract n u.size) low := by
 have h4 := fourS_room low hok;rw [ByteArray.size_extract] at h4;refine ⟨by omega, fourS_copy low (by rw [ByteArray.size_extract]; omega) (by rw [ByteArray.size_extract]; omega) (fun k k0 k1 => ?_)⟩
 rw [bt_rest v n k0 (by omega), bt_rest u n k0 (by omega)]
 exact hin _ (by omega) (by omega)
theorem escS_copy {u v : ByteArray} (hok : (escS u).2.2 = 0) (hv : (escS u).2.1 ≤ v.size) (hin : ∀ k : Int, 0 ≤ k → k < (escS u).2.1 → bt v k = bt u k) : escS v = escS u := by
 have hr := (escS_range u).2 hok;have h1 := hin 1 (by omega) (by omega)
 unfold escS at hok hv hin hr ⊢;by_cases a : u.size < 2
 ·rw [if_pos a] at hok; simp at hok
 rw [if_neg a] at hok hv hin hr ⊢;rw [if_neg (show ¬ v.size < 2 by omega), h1]
 by_cases c9 : bt u 1 = 117
 case neg => rw [if_neg c9, if_neg c9]
 have e : ∀ A B C D E F G H I J : Int × Int × Int, (if bt u 1 = 34 then A else if bt u 1 = 92 then B else if bt u 1 = 47 then C else if bt u 1 = 98 then D else if bt u 1 = 102 then E else if bt u 1 = 110 then F else if bt u 1 = 114 then G else if bt u 1 = 116 then H else if bt u 1 = 117 then I else J) = I := by
  intro A B C D E F G H I J;rw [if_neg (by omega), if_neg (by omega), if_neg (by omega), if_neg (by omega), if_neg (by omega), if_neg (by omega), if_neg (by omega), if_neg (by omega), if_pos c9]
 rw [e] at hok hv hin hr ⊢;rw [e];unfold uniS at hok hv hin hr ⊢;by_cases c1 : (fourS (u.extract 2 u.size) false).2 = 0
 case neg => rw [if_neg c1] at hok; exact absurd hok c1
 rw [if_pos c1] at hok hv hin hr ⊢;by_cases c2 : (fourS (u.extract 2 u.size) false).1 < 55296
 ·rw [if_pos c2] at hok hv hin hr ⊢;have e4 := four_rest 2 false c1 (v := v) (by simp only at hv; omega) (fun k k0 k1 => hin k k0 (by simp only; omega))
  rw [e4.2, if_pos c1, if_pos c2]
 rw [if_neg c2] at hok hv hin hr ⊢;by_cases c3 : (fourS (u.extract 2 u.size) false).1 ≥ 57344
 ·rw [if_pos c3] at hok hv hin hr ⊢;have e4 := four_rest 2 false c1 (v := v) (by simp only at hv; omega) (fun k k0 k1 => hin k k0 (by simp only; omega))
  rw [e4.2, if_pos c1, if_neg c2, if_pos c3]
 rw [if_neg c3] at hok hv hin hr ⊢;unfold lowS at hok hv hin hr;by_cases d1 : u.size = 6
 ·rw [if_pos d1] at hok; simp at hok
 rw [if_neg d1] at hok hv hin hr;by_cases d2 : bt u 6 ≠ 92
 ·rw [if_pos d2] at hok; simp at hok
 rw [if_neg d2] at hok hv hin hr;by_cases d3 : u.size = 7
 ·rw [if_pos d3] at hok; simp at hok
 rw [if_neg d3] at hok hv hin hr;by_cases d4 : bt u 7 ≠ 117
 ·rw [if_pos d4] at hok; simp at hok
 rw [if_neg d4] at hok hv hin hr;by_cases d5 : (fourS (u.extract 8 u.size) true).2 = 0
 case neg => rw [if_neg d5] at hok; exact absurd hok d5
 rw [if_pos d5] at hv hin;simp only at hv hin;have e4 := four_rest 2 false c1 (v := v) (by omega) (fun k k0 k1 => hin k k0 (by omega))
 have e8 := four_rest 8 true d5 (v := v) (by omega) (fun k k0 k1 => hin k k0 (by omega))
 rw [e4.2, if_pos c1, if_neg c2, if_neg c3];unfold lowS;rw [e8.2, hin 6 (by omega) (by omega), hin 7 (by omega) (by omega), if_neg d1, if_neg (show ¬ v.size = 6 by omega), if_neg d2, if_neg d2, if_neg d3, if_neg (show ¬ v.size = 7 by omega), if_neg d4]
theorem contS_copy {s t : ByteArray} {u a f : Int} (h : Copy s t u a f) : ∀ (d : Nat) (r j x : Int), a ≤ j → j + d ≤ f → contS s d r j = some x → contS t d r (u + j) = some x := by
 obtain ⟨h1, h2, h3, h4, h5, h6, h7⟩ := h;intro d;induction d with
 | zero => intro r j x _ _ h; exact h
 | succ d ih =>
  intro r j x hj hf hx;simp only [contS] at hx ⊢;rw [h7 j hj (by omega)]
  by_cases c : j < s.size ∧ 128 ≤ bt s j ∧ bt s j < 192
  ·rw [if_pos c] at hx;rw [if_pos (show u + j < t.size ∧ 128 ≤ bt s j ∧ bt s j < 192 from ⟨by omega, c.2⟩), Int.add_assoc]
   exact ih _ _ x (by omega) (by omega) hx
  ·rw [if_neg c] at hx; cases hx
theorem decS_copy {s t : ByteArray} {u a f : Int} (h : Copy s t u a f) {i : Int} (hi : a ≤ i) (hf : i < f) (hok : (decS s i).2.2 = true) (he : i + (decS s i).2.1 ≤ f) : decS t (u + i) = decS s i := by
 have h' := h;obtain ⟨h1, h2, h3, h4, h5, h6, h7⟩ := h;have hm : ∀ (n : Nat) (r least : Int), 1 ≤ n → (multS s i n r least).2.2 = true → i + (multS s i n r least).2.1 ≤ f → multS t (u + i) n r least = multS s i n r least := by
  intro n r least hn hk hk2;unfold multS at hk hk2 ⊢;cases e : contS s (n - 1) r (i + 1) with
  | none => rw [e] at hk; simp at hk
  | some x =>
   rw [e] at hk hk2;simp only at hk hk2;by_cases c : least ≤ x ∧ point x = true
   ·rw [if_pos c] at hk2;simp only at hk2;have := contS_copy h' (n - 1) r (i + 1) x (by omega) (by omega) e
    rw [show u + (i + 1) = u + i + 1 by omega] at this
    rw [this]
   ·rw [if_neg c] at hk; simp at hk
 unfold decS at hok he ⊢;rw [h7 i hi hf];by_cases a1 : bt s i < 128
 ·rw [if_pos a1, if_pos a1]
 rw [if_neg a1] at hok he ⊢;rw [if_neg a1];by_cases b : bt s i < 192
 ·rw [if_pos b] at hok; simp at hok
 rw [if_neg b] at hok he ⊢;rw [if_neg b];by_cases c : bt s i < 224
 ·rw [if_pos c] at hok he ⊢; rw [if_pos c]; exact hm 2 _ _ (by omega) hok he
 rw [if_neg c] at hok he ⊢;rw [if_neg c];by_cases d : bt s i < 240
 ·rw [if_pos d] at hok he ⊢; rw [if_pos d]; exact hm 3 _ _ (by omega) hok he
 rw [if_neg d] at hok he ⊢;rw [if_neg d];by_cases e : bt s i < 248
 ·rw [if_pos e] at hok he ⊢; rw [if_pos e]; exact hm 4 _ _ (by omega) hok he
 ·rw [if_neg e] at hok; simp at hok
theorem text_copy {s t : ByteArray} {u a f : Int} (h : Copy s t u a f) (x y : Int) : ∀ (d : Nat) (b : List Int) (i : Int) (d' : Nat), a ≤ i → (t.size : Int) - (u + i) < d' → (textD s x d b i).2.2 = 0 → (textD s x d b i).2.1 ≤ f → textD t y d' b (u + i) = ((textD s x d b i).1, u + (textD s x d b i).2.1, 0) := by
 have h' := h;obtain ⟨h1, h2, h3, h4, h5, h6, h7⟩ := h;intro d;induction d with
 | zero => intro b i d' _ _ hok; simp [textD] at hok
 | succ d ih =>
  intro b i d' hi hd hok he;have hbd := textD_bound s x (d + 1) b i (by omega) hok
  have hif : i < f := by omega
  obtain ⟨e, rfl⟩ : ∃ e, d' = e + 1 := ⟨d' - 1, by omega⟩
  have hb := h7 i hi (by omega)
  unfold textD at hok he ⊢;rw [if_pos (show i < s.size by omega)] at hok he ⊢
  rw [if_pos (show u + i < t.size by omega), hb]
  by_cases c1 : bt s i = 34
  ·rw [if_pos c1] at hok he ⊢;rw [if_pos c1];by_cases c2 : (b.length : Int) > 4096
   ·rw [if_pos c2] at hok; simp at hok
   ·rw [if_neg c2, if_neg c2, Int.add_assoc]
  rw [if_neg c1] at hok he ⊢;rw [if_neg c1];by_cases c2 : bt s i < 32
  ·rw [if_pos c2] at hok; simp at hok
  rw [if_neg c2] at hok he ⊢;rw [if_neg c2];by_cases c3 : bt s i = 92
  ·rw [if_pos c3] at hok he ⊢;rw [if_pos c3];have hr := escS_range (s.extract i.toNat s.size);have hsz : ((s.extract i.toNat s.size).size : Int) = s.size - i := by rw [ByteArray.size_extract]; omega
   have hszt : ((t.extract (u + i).toNat t.size).size : Int) = t.size - (u + i) := by rw [ByteArray.size_extract]; omega
   by_cases c5 : (escS (s.extract i.toNat s.size)).2.2 = 5
   ·rw [if_pos c5] at hok; simp at hok
   rw [if_neg c5] at hok he ⊢;by_cases c6 : (escS (s.extract i.toNat s.size)).2.2 = 0
   case neg => rw [if_neg c6] at hok; exact absurd hok c6
   rw [if_pos c6] at hok he ⊢;have h2' := hr.2 c6;have hbd2 := textD_bound s x d _ _ (by omega) hok
   have hc : escS (t.extract (u + i).toNat t.size) = escS (s.extract i.toNat s.size) := by
    refine escS_copy c6 (by omega) (fun k k0 k1 => ?_)
    have e1 := bt_rest t (u + i).toNat k0 (by omega)
    have e2 := bt_rest s i.toNat k0 (by omega)
    rw [e1, e2, show ((u + i).toNat : Int) + k = u + (i + k) by omega, show (i.toNat : Int) + k = i + k by omega]
    exact h7 _ (by omega) (by omega)
   rw [hc, if_neg c5, if_pos c6, Int.add_assoc];exact ih _ _ e (by omega) (by omega) hok he
  rw [if_neg c3] at hok he ⊢;rw [if_neg c3];by_cases c5 : (decS s i).2.2 = true
  case neg => rw [if_neg c5] at hok; simp at hok
  rw [if_pos c5] at hok he ⊢;have h2' := decS_bound s (i := i) (by omega) (by omega) c5
  have hbd2 := textD_bound s x d _ _ (by omega) hok
  have hc := decS_copy h' hi (by omega) c5 (by omega)
  have hp := part_eq (s := s) (t := t) (i := i) (j := i + (decS s i).2.1) u (by omega) (by omega) (by omega) (by omega) (by omega) (fun k k0 k1 => h7 k (by omega) (by omega))
  rw [hc, if_pos c5, Int.add_assoc, hp];exact ih _ _ e (by omega) (by omega) hok he
/-- A token of s that ends by f, copied into t: the same token, moved. -/
theorem tokS_copy {s t : ByteArray} {u a f : Int} (h : Copy s t u a f) (hok : (tokS s a).2.2.2.2.2 = 0) (he : (tokS s a).2.2.2.2.1 ≤ f) : tokS t (u + a) = moved u (tokS s a) := by
 have h' := h;obtain ⟨h1, h2, h3, h4, h5, h6, h7⟩ := h;have ha := h7 a (by omega) (by omega)
 unfold tokS at hok he ⊢;rw [ha];by_cases c1 : letterB (bt s a) = true
 ·rw [if_pos c1] at hok he ⊢; rw [if_pos c1]; exact nameTok_copy h' (by omega) (by omega) 1 hok he
 rw [if_neg c1] at hok he ⊢;rw [if_neg c1];by_cases c2 : bt s a = 36
 ·rw [if_pos c2] at hok he ⊢; rw [if_pos c2, Int.add_assoc]; exact nameTok_copy h' (by omega) (by omega) 3 hok he
 rw [if_neg c2] at hok he ⊢;rw [if_neg c2];by_cases c3 : bt s a = 46 ∧ nameEnd s (a + 1) > a + 1
 ·rw [if_pos c3] at hok he ⊢;have hb := nameTok_bound s a 4 (f := a + 1) (by omega) (by omega) hok
  have hne : nameEnd s (a + 1) ≤ f := by
   unfold nameTok at he hok;rw [if_neg (by omega)] at he hok
   by_cases q : nameEnd s (a + 1) - (a + 1) > 32
   ·rw [if_pos q] at hok; simp at hok
   ·rw [if_neg q] at he; exact he
  have e := nameEnd_copy h' (i := a + 1) (by omega) (by omega) hne
  rw [show u + (a + 1) = u + a + 1 by omega] at e
  rw [if_pos (show bt s a = 46 ∧ nameEnd t (u + a + 1) > u + a + 1 from ⟨c3.1, by omega⟩), Int.add_assoc]
  exact nameTok_copy h' (by omega) (by omega) 4 hok he
 have c3t : ¬ (bt s a = 46 ∧ nameEnd t (u + a + 1) > u + a + 1) := by
  rintro ⟨q1, q2⟩;have hn : nameEnd s (a + 1) = a + 1 := by
   have := nameEnd_le s (i := a + 1) (by omega) (by omega)
   have : ¬ nameEnd s (a + 1) > a + 1 := fun hh => c3 ⟨q1, hh⟩
   omega
  have e := nameEnd_copy h' (i := a + 1) (by omega) (by omega) (by omega)
  rw [show u + (a + 1) = u + a + 1 by omega] at e
  omega
 rw [if_neg c3] at hok he ⊢;rw [if_neg c3t];by_cases c4 : digitB (bt s a) = true
 ·rw [if_pos c4] at hok he ⊢; rw [if_pos c4]; exact numTok_copy h' c4 hok he
 rw [if_neg c4] at hok he ⊢;rw [if_neg c4];by_cases c5 : bt s a = 34
 ·rw [if_pos c5] at hok he ⊢;rw [if_pos c5];unfold strTok at hok he ⊢;by_cases c6 : (textS s a).2.2 = 0
  case neg => rw [if_neg c6] at hok; exact absurd hok c6
  rw [if_pos c6] at he ⊢;have e : textS t (u + a) = ((textS s a).1, u + (textS s a).2.1, 0) := by
   unfold textS at c6 he ⊢;rw [Int.add_assoc];exact text_copy h' a (u + a) _ [] (a + 1) _ (by omega) (by omega) c6 he
  rw [e, if_pos rfl];rfl
 rw [if_neg c5] at hok he ⊢;rw [if_neg c5];exact signTok_copy h' hok he
end Go.Proofs.YtdhdpidjdadamaaDoor.Q
