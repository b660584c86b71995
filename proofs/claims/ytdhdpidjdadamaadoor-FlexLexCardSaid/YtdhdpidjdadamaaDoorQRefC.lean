/- Plain words on the reference (ndjqref01, ndjqref03): UTF-8 and strings come to what utf's and jsonlex's come to. No program and no memory here. -/
import Derived.Test.YtdhdpidjdadamaaDoorQRefB
namespace Go.Proofs.YtdhdpidjdadamaaDoor.Q
open Go.RowKit Go.Proofs.YtdhdpidjdadamaaDoorW.PrintWords Go.Proofs.YtdhdpidjdadamaaDoorW.PrintLast Go.Proofs.YtdhdpidjdadamaaDoorW.PrintMore Go.Proofs.YtdhdpidjdadamaaDoor.PX
set_option linter.unusedVariables false
set_option linter.unusedSimpArgs false
def sizeS (r : Int) : Int := if point r = true then (if r < 128 then 1 else if r < 2048 then 2 else if r < 65536 then 3 else 4) else 0
theorem ev_rsize (r : Int) : Ev (fun k => ru_size.f k r) (sizeS r) := by
 have j0 : ∀ b : Bool, b = !point r → Ev (fun k => ru_size.j0 k r b) (sizeS r) := by
  intro b hb;refine Ev.step (fun k => by first | (rw [ru_size.j0]; done) | (rw [ru_size.j0]; rfl)) ?_
  unfold sizeS;by_cases c : point r = true
  ·refine Ev.neg (by rw [hb, c]; simp) ?_
   rw [if_pos c];by_cases c1 : r < 128
   ·refine Ev.pos c1 (Ev.val ?_); rw [if_pos c1]
   refine Ev.neg c1 ?_; rw [if_neg c1]
   by_cases c2 : r < 2048
   ·refine Ev.pos c2 (Ev.val ?_); rw [if_pos c2]
   refine Ev.neg c2 ?_; rw [if_neg c2]
   by_cases c3 : r < 65536
   ·refine Ev.pos c3 (Ev.val ?_); rw [if_pos c3]
   ·refine Ev.neg c3 (Ev.val ?_); rw [if_neg c3]
  ·refine Ev.pos (by rw [hb]; simp [c]) (Ev.val ?_); rw [if_neg c]
 have hp : ∀ b : Bool, (b = true ↔ ¬ (0 ≤ r ∧ r ≤ 1114111 ∧ (r < 55296 ∨ 57343 < r))) → b = !point r := by
  intro b hb;unfold point;by_cases c : 0 ≤ r ∧ r ≤ 1114111 ∧ (r < 55296 ∨ 57343 < r)
  ·rw [decide_eq_true c];cases b with
   | true => exact absurd c (hb.1 rfl)
   | false => rfl
  ·rw [decide_eq_false c, hb.2 c]; rfl
 unfold ru_size.f;by_cases c0 : r < 0
 ·exact Ev.pos c0 (j0 _ (hp _ ⟨fun _ => by omega, fun _ => rfl⟩))
 refine Ev.neg c0 ?_
 by_cases c1 : r > 1114111
 ·exact Ev.pos c1 (j0 _ (hp _ ⟨fun _ => by omega, fun _ => rfl⟩))
 refine Ev.neg c1 ?_
 by_cases c2 : r ≥ 55296
 ·exact Ev.pos c2 (j0 _ (hp _ (by rw [decide_eq_true_iff]; omega)))
 ·exact Ev.neg c2 (j0 _ (hp _ ⟨fun h => by simp at h, fun h => by omega⟩))
theorem ev_rEncode (r : Int) (hr : point r = true) : Ev (fun k => ru_Encode.f k r) (encS r, true) := by
 unfold ru_Encode.f;refine Ev.bind (ev_rsize r) ?_
 have h := of_decide_eq_true hr;unfold sizeS encS;rw [if_pos hr];by_cases c1 : r < 128
 ·rw [if_pos c1]; refine Ev.pos rfl (Ev.val ?_); rw [if_pos c1, show r % 256 = r by omega]
 rw [if_neg c1, if_neg c1];by_cases c2 : r < 2048
 ·rw [if_pos c2, if_pos c2]; refine Ev.neg (by decide) (Ev.pos rfl (Ev.val ?_))
  have := two_of r (by omega) c2
  rw [this.1, this.2]
 rw [if_neg c2, if_neg c2];by_cases c3 : r < 65536
 ·rw [if_pos c3, if_pos c3]; refine Ev.neg (by decide) (Ev.neg (by decide) (Ev.pos rfl (Ev.val ?_)))
  have := three_of r (by omega) c3
  rw [this.1, this.2.1, this.2.2]
 rw [if_neg c3, if_neg c3];refine Ev.neg (by decide) (Ev.neg (by decide) (Ev.neg (by decide) (Ev.pos rfl (Ev.val ?_))))
 have := four_of r (by omega) (by omega)
 rw [this.1, this.2.1, this.2.2.1, this.2.2.2]
/-! decoding -/
theorem size_iff (x : Int) (n : Nat) (least T : Int) (hn : (n = 2 ∧ least = 128 ∧ T = 2048) ∨ (n = 3 ∧ least = 2048 ∧ T = 65536) ∨ (n = 4 ∧ least = 65536 ∧ T = 2097152)) (h0 : 0 ≤ x) (h1 : x < T) : sizeS x = (n : Int) ↔ least ≤ x ∧ point x = true := by
 unfold sizeS;by_cases hp : point x = true
 ·rw [if_pos hp];simp only [hp, and_true];rcases hn with ⟨rfl, rfl, rfl⟩ | ⟨rfl, rfl, rfl⟩ | ⟨rfl, rfl, rfl⟩ <;> (repeat' split) <;> omega
 ·rw [if_neg hp];simp only [hp, and_false, iff_false];rcases hn with ⟨rfl, rfl, rfl⟩ | ⟨rfl, rfl, rfl⟩ | ⟨rfl, rfl, rfl⟩ <;> simp
theorem ev_rcont (s : ByteArray) (hs : s.size ≤ 8192) (i : Int) (n : Nat) (least T : Int) (hn : (n = 2 ∧ least = 128 ∧ T = 2048) ∨ (n = 3 ∧ least = 2048 ∧ T = 65536) ∨ (n = 4 ∧ least = 65536 ∧ T = 2097152)) (h0 : 0 ≤ i) (h1 : i + n ≤ s.size) :
 ∀ (d : Nat) (r q : Int), (n : Int) - q = d → 1 ≤ q → 0 ≤ r → (r + 1) * 64 ^ d ≤ T → Ev (fun k => ru_Decode.l0 k s i n r q) (match contS s d r (i + q) with | some x => if least ≤ x ∧ point x = true then (x, (n : Int), true) else (0, 0, false) | none => (0, 0, false)) := by
 intro d;induction d with
 | zero =>
  intro r q hd h2 hr0 hr1;refine Ev.step (fun k => by first | (rw [ru_Decode.l0]; done) | (rw [ru_Decode.l0]; rfl)) (Ev.neg (by omega) ?_)
  simp only [contS];refine Ev.bind (ev_rsize r) ?_
  have hi := size_iff r n least T hn hr0 (by simp at hr1; omega)
  by_cases hl : sizeS r = (n : Int)
  ·refine Ev.pos hl (Ev.val ?_); rw [if_pos (hi.1 hl)]
  ·refine Ev.neg hl (Ev.val ?_); rw [if_neg (fun h => hl (hi.2 h))]
 | succ d ih =>
  intro r q hd h2 hr0 hr1;have hd3 : d = 0 ∨ d = 1 ∨ d = 2 := by omega
  have hT : T ≤ 2097152 := by omega
  have hb1 : r ≤ 2097152 := by rcases hd3 with rfl | rfl | rfl <;> simp only [Int.pow_succ, Int.pow_zero, Int.reducePow, Nat.reduceAdd, Int.reduceMul] at hr1 <;> omega
  refine Ev.step (fun k => by first | (rw [ru_Decode.l0]; done) | (rw [ru_Decode.l0]; rfl)) (Ev.pos (by omega) ?_)
  rw [w64 (x := i + q) (by omega) (by omega)]
  have hb := bt_range s (i + q);rw [w64 (x := bt s (i + q)) (by omega) (by omega)]
  refine Ev.pos (by omega) (Ev.pos (by omega) ?_)
  simp only [contS];by_cases c1 : bt s (i + q) < 128
  ·rw [if_neg (by omega)]; exact Ev.pos c1 (Ev.now _)
  by_cases c2 : bt s (i + q) ≥ 192
  ·rw [if_neg (by omega)]; exact Ev.neg c1 (Ev.pos c2 (Ev.now _))
  rw [if_pos (show i + q < s.size ∧ 128 ≤ bt s (i + q) ∧ bt s (i + q) < 192 by omega)]
  refine Ev.neg c1 (Ev.neg c2 ?_)
  rw [w64 (x := r * 64) (by omega) (by omega), w64 (x := q + 1) (by omega) (by omega), and_63 _ (by omega) (by omega), or_join 6 (by decide) (r * 64) _ (by omega) (by omega) (by omega) (by omega) (by omega), show i + q + 1 = i + (q + 1) from by omega, show bt s (i + q) % 64 = bt s (i + q) - 128 by omega]
  refine ih _ (q + 1) (by omega) (by omega) (by omega) ?_
  generalize bt s (i + q) = c at *;rcases hd3 with rfl | rfl | rfl <;> simp only [Int.pow_succ, Int.pow_zero, Int.reducePow, Nat.reduceAdd, Int.reduceMul] at hr1 ⊢ <;> omega
theorem ev_rdec (s : ByteArray) (hs : s.size ≤ 8192) {i : Int} (h0 : 0 ≤ i) (h1 : i < s.size) : Ev (fun k => ru_Decode.f k s i) (decS s i) := by
 have hb := bt_range s i;have hw : wrap64 (bt s i) = bt s i := w64 (by omega) (by omega)
 have hm : ∀ (n : Nat) (r least T : Int), ((n = 2 ∧ least = 128 ∧ T = 2048) ∨ (n = 3 ∧ least = 2048 ∧ T = 65536) ∨ (n = 4 ∧ least = 65536 ∧ T = 2097152)) → 0 ≤ r → (r + 1) * 64 ^ (n - 1) ≤ T → Ev (fun k => ru_Decode.j3 k s i n r) (multS s i n r least) := by
  intro n r least T hn hr0 hr1;refine Ev.step (fun k => by first | (rw [ru_Decode.j3]; done) | (rw [ru_Decode.j3]; rfl)) ?_
  rw [w64 (x := (s.size : Int) - i) (by omega) (by omega)]
  by_cases c : (n : Int) > s.size - i
  ·refine Ev.pos c (Ev.val ?_)
   unfold multS;cases e : contS s (n - 1) r (i + 1) with
   | none => rfl
   | some x => have := contS_bound s _ _ _ _ e; omega
  ·exact Ev.neg c (ev_rcont s hs i n least T hn h0 (by omega) (n - 1) r 1 (by omega) (by omega) hr0 hr1)
 unfold ru_Decode.f decS;refine Ev.neg (by omega) (Ev.step (fun k => by first | (rw [ru_Decode.j0]; done) | (rw [ru_Decode.j0]; rfl)) (Ev.neg (by simp; omega) (Ev.pos h0 (Ev.pos h1 ?_))))
 rw [hw];by_cases a : bt s i < 128
 ·refine Ev.pos a (Ev.val ?_); rw [if_pos a]
 refine Ev.neg a ?_; rw [if_neg a]
 have j2 : ∀ b : Bool, b = decide (224 ≤ bt s i ∧ bt s i < 240) → ¬ bt s i < 224 ∨ bt s i < 192 → Ev (fun k => ru_Decode.j2 k s i (bt s i) b) (if bt s i < 192 then (0, 0, false) else if bt s i < 240 then multS s i 3 (bt s i % 16) 2048 else if bt s i < 248 then multS s i 4 (bt s i % 8) 65536 else (0, 0, false)) := by
  intro b hbb hcc;refine Ev.step (fun k => by first | (rw [ru_Decode.j2]; done) | (rw [ru_Decode.j2]; rfl)) ?_
  by_cases c : 224 ≤ bt s i ∧ bt s i < 240
  ·rw [if_neg (show ¬ bt s i < 192 by omega), if_pos c.2]
   refine Ev.pos (by rw [hbb]; simpa using c) ?_
   rw [and_15 _ hb.1 (by omega)]
   exact hm 3 _ _ 65536 (by omega) (by omega) (by simp only [Nat.reduceSub, Int.reducePow]; omega)
  ·refine Ev.neg (by rw [hbb]; simpa using c) ?_
   by_cases d : bt s i ≥ 240
   ·rw [if_neg (show ¬ bt s i < 192 by omega), if_neg (show ¬ bt s i < 240 by omega)]
    refine Ev.pos d ?_
    by_cases e : bt s i < 248
    ·refine Ev.pos e ?_
     rw [if_pos e, and_7 _ hb.1 (by omega)]
     exact hm 4 _ _ 2097152 (by omega) (by omega) (by simp only [Nat.reduceSub, Int.reducePow]; omega)
    ·refine Ev.neg e (Ev.val ?_); rw [if_neg e]
   ·refine Ev.neg d (Ev.val ?_); rw [if_pos (show bt s i < 192 by omega)]
 have j1 : ∀ b : Bool, b = decide (192 ≤ bt s i ∧ bt s i < 224) → Ev (fun k => ru_Decode.j1 k s i (bt s i) b) (if bt s i < 192 then (0, 0, false) else if bt s i < 224 then multS s i 2 (bt s i % 32) 128 else if bt s i < 240 then multS s i 3 (bt s i % 16) 2048 else if bt s i < 248 then multS s i 4 (bt s i % 8) 65536 else (0, 0, false)) := by
  intro b hbb;refine Ev.step (fun k => by first | (rw [ru_Decode.j1]; done) | (rw [ru_Decode.j1]; rfl)) ?_
  by_cases c : 192 ≤ bt s i ∧ bt s i < 224
  ·rw [if_neg (show ¬ bt s i < 192 by omega), if_pos c.2]
   refine Ev.pos (by rw [hbb]; simpa using c) ?_
   rw [and_31 _ hb.1 (by omega)]
   exact hm 2 _ _ 2048 (by omega) (by omega) (by simp only [Nat.reduceSub, Int.reducePow]; omega)
  ·refine Ev.neg (by rw [hbb]; simpa using c) ?_
   have e : (if bt s i < 192 then (0, 0, false) else if bt s i < 224 then multS s i 2 (bt s i % 32) 128 else if bt s i < 240 then multS s i 3 (bt s i % 16) 2048 else if bt s i < 248 then multS s i 4 (bt s i % 8) 65536 else (0, 0, false)) = (if bt s i < 192 then (0, 0, false) else if bt s i < 240 then multS s i 3 (bt s i % 16) 2048 else if bt s i < 248 then multS s i 4 (bt s i % 8) 65536 else (0, 0, false)) := by
    by_cases f : bt s i < 192
    ·rw [if_pos f, if_pos f]
    ·rw [if_neg f, if_neg f, if_neg (show ¬ bt s i < 224 by omega)]
   rw [e];by_cases d : bt s i ≥ 224
   ·exact Ev.pos d (j2 _ (by rw [Bool.eq_iff_iff, decide_eq_true_iff, decide_eq_true_iff]; omega) (by omega))
   ·exact Ev.neg d (j2 _ (by rw [eq_comm, decide_eq_false_iff_not]; omega) (by omega))
 by_cases c : bt s i ≥ 192
 ·exact Ev.pos c (j1 _ (by rw [Bool.eq_iff_iff, decide_eq_true_iff, decide_eq_true_iff]; omega))
 ·exact Ev.neg c (j1 _ (by rw [eq_comm, decide_eq_false_iff_not]; omega))
/-! what is decoded is encoded again -/
theorem ext_bytes (s : ByteArray) {i : Int} (h0 : 0 ≤ i) : ∀ (n : Nat), i + n ≤ s.size → bytesOf (s.extract i.toNat (i + n).toNat) = (List.range n).map fun k : Nat => bt s (i + k) := by
 intro n h;apply List.ext_getElem
 ·rw [bytesOf_length, ByteArray.size_extract, List.length_map, List.length_range]; omega
 ·intro k h1 h2;rw [List.length_map, List.length_range] at h2;have e := rd_bytesOf (s.extract i.toNat (i + n).toNat) k;rw [bt_extract s h0 (by omega) (by omega) (by omega) (by omega)] at e
  rw [List.getElem_map, List.getElem_range, ← e];unfold rd;simp [List.getD, h1]
theorem contS_1 (s : ByteArray) (r j x : Int) (h : contS s 1 r j = some x) : j < s.size ∧ 128 ≤ bt s j ∧ bt s j < 192 ∧ x = r * 64 + (bt s j - 128) := by
 simp only [contS] at h;by_cases c : j < s.size ∧ 128 ≤ bt s j ∧ bt s j < 192
 ·rw [if_pos c] at h; injection h with h; exact ⟨c.1, c.2.1, c.2.2, h.symm⟩
 ·rw [if_neg c] at h; cases h
theorem contS_step (s : ByteArray) (d : Nat) (r j x : Int) (h : contS s (d + 1) r j = some x) : j < s.size ∧ 128 ≤ bt s j ∧ bt s j < 192 ∧ contS s d (r * 64 + (bt s j - 128)) (j + 1) = some x := by
 simp only [contS] at h;by_cases c : j < s.size ∧ 128 ≤ bt s j ∧ bt s j < 192
 ·rw [if_pos c] at h; exact ⟨c.1, c.2.1, c.2.2, h⟩
 ·rw [if_neg c] at h; cases h
theorem multS_some {s : ByteArray} {i : Int} {n : Nat} {r least : Int} (h : (multS s i n r least).2.2 = true) : ∃ x, contS s (n - 1) r (i + 1) = some x ∧ least ≤ x ∧ point x = true ∧ multS s i n r least = (x, (n : Int), true) := by
 unfold multS at h ⊢;cases e : contS s (n - 1) r (i + 1) with
 | none => rw [e] at h; simp at h
 | some x =>
  rw [e] at h;simp only at h ⊢;by_cases c : least ≤ x ∧ point x = true
  ·rw [if_pos c]; exact ⟨x, rfl, c.1, c.2, rfl⟩
  ·rw [if_neg c] at h; simp at h
theorem round_trip (s : ByteArray) {i : Int} (h0 : 0 ≤ i) (h1 : i < s.size) (h : (decS s i).2.2 = true) : point (decS s i).1 = true ∧ encS (decS s i).1 = bytesOf (s.extract i.toNat (i + (decS s i).2.1).toNat) := by
 have hb := bt_range s i;unfold decS at h ⊢;by_cases a : bt s i < 128
 ·rw [if_pos a];have := ext_bytes s h0 1 (by omega)
  simp only
  rw [show i + ((1 : Nat) : Int) = i + 1 by omega] at this
  refine ⟨by unfold point; exact decide_eq_true (by omega), ?_⟩
  rw [this];unfold encS;rw [if_pos a];simp [List.range_succ]
 rw [if_neg a] at h ⊢;by_cases b : bt s i < 192
 ·rw [if_pos b] at h; simp at h
 rw [if_neg b] at h ⊢;by_cases c : bt s i < 224
 ·rw [if_pos c] at h ⊢;obtain ⟨x, hx, hl, hp, e⟩ := multS_some h;rw [e];obtain ⟨z1, z2, z3, rfl⟩ := contS_1 s _ _ _ hx;refine ⟨hp, ?_⟩
  simp only
  rw [ext_bytes s h0 2 (by omega)]
  unfold encS;rw [if_neg (by omega), if_pos (by omega)]
  simp [List.range_succ]
  omega
 rw [if_neg c] at h ⊢;by_cases d : bt s i < 240
 ·rw [if_pos d] at h ⊢;obtain ⟨x, hx, hl, hp, e⟩ := multS_some h;rw [e];obtain ⟨y1, y2, y3, hx⟩ := contS_step s 1 _ _ _ hx;obtain ⟨z1, z2, z3, rfl⟩ := contS_1 s _ _ _ hx;refine ⟨hp, ?_⟩
  simp only
  rw [ext_bytes s h0 3 (by omega)]
  unfold encS;rw [if_neg (by omega), if_neg (by omega), if_pos (by omega)]
  rw [show i + 1 + 1 = i + 2 by omega] at *
  simp [List.range_succ]
  omega
 rw [if_neg d] at h ⊢;by_cases f : bt s i < 248
 ·rw [if_pos f] at h ⊢;obtain ⟨x, hx, hl, hp, e⟩ := multS_some h;rw [e];obtain ⟨y1, y2, y3, hx⟩ := contS_step s 2 _ _ _ hx;obtain ⟨w1, w2, w3, hx⟩ := contS_step s 1 _ _ _ hx;obtain ⟨z1, z2, z3, rfl⟩ := contS_1 s _ _ _ hx;refine ⟨hp, ?_⟩
  simp only
  rw [ext_bytes s h0 4 (by omega)]
  unfold encS;rw [if_neg (by omega), if_neg (by omega), if_neg (by omega)]
  rw [show i + 1 + 1 = i + 2 by omega, show i + 2 + 1 = i + 3 by omega] at *
  simp [List.range_succ]
  omega
 ·rw [if_neg f] at h; simp at h
/-! strings -/
def refX (a : Int) (t : ByteArray × Int × Int) : Int × Int × Int × Int × Int × ByteArray × Int × Int :=
 if t.2.2 = 0 then (4, a, t.2.1, 0, 0, t.1, t.2.1, 0) else (0, 0, 0, 0, 0, emp, t.2.1, t.2.2)
theorem ev_rtext (s : ByteArray) (hs : s.size ≤ 8192) (at_ : Int) : ∀ (d : Nat) (b : List Int) (i : Int), (s.size : Int) - i < d → 0 ≤ i → i ≤ 20000 → (b.length : Int) ≤ 4 * i → Ev (fun k => rj_text.l0 k s at_ b i) (refX at_ (textD s at_ d b i)) := by
 intro d;induction d with
 | zero =>
  intro b i hd h0 h1 hb;exact Ev.step (fun k => by first | (rw [rj_text.l0]; done) | (rw [rj_text.l0]; rfl)) (Ev.pos (by omega) (Ev.now _))
 | succ d ih =>
  intro b i hd h0 h1 hb;refine Ev.step (fun k => by first | (rw [rj_text.l0]; done) | (rw [rj_text.l0]; rfl)) ?_
  unfold textD;by_cases c0 : i < s.size
  case neg =>
   refine Ev.pos (by omega) (Ev.val ?_); rw [if_neg c0]; rfl
  rw [if_pos c0]; refine Ev.neg (by omega) (Ev.pos h0 (Ev.pos c0 ?_))
  by_cases c1 : bt s i = 34
  ·refine Ev.pos c1 ?_; rw [if_pos c1]
   by_cases c2 : (b.length : Int) > 4096
   ·refine Ev.pos c2 (Ev.val ?_); rw [if_pos c2]; rfl
   ·refine Ev.neg c2 (Ev.val ?_); rw [if_neg c2, w64 (by omega) (by omega)]; rfl
  refine Ev.neg c1 ?_; rw [if_neg c1]
  by_cases c2 : bt s i < 32
  ·refine Ev.pos c2 (Ev.val ?_); rw [if_pos c2]; rfl
  refine Ev.neg c2 ?_; rw [if_neg c2]
  by_cases c3 : bt s i = 92
  ·refine Ev.pos c3 ?_; rw [if_pos c3]
   refine Ev.bind (ev_rescape s hs h0 c0) ?_
   have hr := escS_range (s.extract i.toNat s.size);generalize escS (s.extract i.toNat s.size) = e at *;obtain ⟨x, n, er⟩ := e;unfold refE;simp only at hr ⊢;by_cases c5 : er = 5
   ·rw [if_pos c5]; refine Ev.pos rfl (Ev.val ?_); rw [if_pos c5]; rfl
   rw [if_neg c5];by_cases c6 : er = 0
   ·have h2 := hr.2 c6;rw [if_pos c6];refine Ev.neg (by simp only; omega) (Ev.neg (by simp only; omega) (Ev.bind (ev_rEncode x h2.1) ?_))
    have := encS_length x;refine Ev.pos (by simp only; omega) ?_
    simp only
    rw [if_neg c5, if_pos c6, w64 (x := i + n) (by omega) (by omega)]
    exact ih _ _ (by omega) (by omega) (by omega) (by rw [List.length_append]; omega)
   ·rw [if_neg c6];refine Ev.neg (by simp) (Ev.pos (by simp) (Ev.val ?_))
    rw [if_neg c5, if_neg c6];have : er = 4 := by omega
    rw [this]; rfl
  refine Ev.neg c3 ?_; rw [if_neg c3]
  refine Ev.bind (ev_rdec s hs h0 c0) ?_
  have hr := decS_bound s h0 c0;have hrt := round_trip s h0 c0;generalize decS s i = e at *;obtain ⟨x, n, ok⟩ := e;simp only at hr hrt ⊢;by_cases c5 : ok = true
  ·have h2 := hr c5;have h3 := hrt c5;refine Ev.pos c5 ?_; rw [if_pos c5]
   refine Ev.bind (ev_rEncode x h3.1) ?_
   have := encS_length x;refine Ev.pos (by simp only; omega) ?_
   simp only
   rw [w64 (x := i + n) (by omega) (by omega), h3.2]
   rw [h3.2] at this;exact ih _ _ (by omega) (by omega) (by omega) (by rw [List.length_append]; omega)
  ·refine Ev.neg c5 (Ev.val ?_); rw [if_neg c5]; rfl
theorem ev_rtextS (s : ByteArray) (hs : s.size ≤ 8192) {i : Int} (h0 : 0 ≤ i) (h1 : i < s.size) : Ev (fun k => rj_text.f k s i) (refX i (textS s i)) := by
 unfold rj_text.f textS;rw [w64 (x := i + 1) (by omega) (by omega)]
 exact ev_rtext s hs i _ [] (i + 1) (by omega) (by omega) (by omega) (by simp; omega)
theorem ev_rNext (s : ByteArray) (hs : s.size ≤ 8192) {i : Int} (h0 : 0 ≤ i) (h1 : i < s.size) (hq : bt s i = 34) : Ev (fun k => rj_Next.f k s i) (refX i (textS s i)) := by
 unfold rj_Next.f;refine Ev.neg (by omega) (Ev.neg (by omega) (Ev.bind (ev_rSkip (by omega) h0 (by omega)) ?_))
 rw [blank_not (.inl hq)];refine Ev.neg (by omega) (Ev.pos h0 (Ev.pos h1 ?_))
 rw [hq];have hl : rj_letter.f s i = some false := by
  unfold rj_letter.f; rw [if_pos h1, if_pos h0, hq]; rfl
 have hd : rj_digit.f s i = some false := by
  unfold rj_digit.f; rw [if_pos h1, if_pos h0, hq]; rfl
 refine Ev.neg (by decide) (Ev.neg (by decide) (Ev.neg (by decide) (Ev.neg (by decide) (Ev.neg (by decide) (Ev.neg (by decide) (Ev.pbind hl (Ev.neg (by decide) (Ev.neg (by decide) (Ev.pbind hd (Ev.neg (by decide) (Ev.pos rfl (Ev.bind (ev_rtextS s hs h0 h1) (Ev.now _)))))))))))))
end Go.Proofs.YtdhdpidjdadamaaDoor.Q
