/- The plain law FlexOrder: what flex.Lex comes to answers as the statement says. No program and no memory here. -/
import Derived.Test.YtdhdpidjdadamaaDoorQTok
import Derived.Test.YtdhdpidjdadamaaDoorPx22
namespace Go.Proofs.YtdhdpidjdadamaaDoor.Q
open Go.RowKit Go.Proofs.YtdhdpidjdadamaaDoorW.PrintWords Go.Proofs.YtdhdpidjdadamaaDoorW.PrintLast Go.Proofs.YtdhdpidjdadamaaDoor.PX
set_option linter.unusedVariables false
set_option linter.unusedSimpArgs false

theorem ext_list (s : ByteArray) (i j : Nat) : (s.extract i j).toList = (s.data.toList.drop i).take (j - i) := by
  rw [ByteArray.toList_eq, ByteArray.data_extract, Array.toList_extract]
theorem app_list (a b : ByteArray) : (a ++ b).toList = a.toList ++ b.toList := by
  rw [ByteArray.toList_eq, ByteArray.toList_eq, ByteArray.toList_eq, ByteArray.data_append, Array.toList_append]
theorem toList_len (s : ByteArray) : s.toList.length = s.size := by rw [ByteArray.toList_eq]; exact data_length s
theorem bt_get (s : ByteArray) {i : Int} (h0 : 0 ≤ i) (h1 : i < s.size) : ∃ h : i.toNat < s.data.toList.length, bt s i = (s.data.toList[i.toNat].toNat : Int) := by
  have hh : i.toNat < s.size := by omega
  have h2 : i.toNat < s.data.toList.length := by have := data_length s; omega
  refine ⟨h2, ?_⟩
  unfold bt
  rw [dif_pos hh]
  rfl
theorem awake_true : Ev (fun k => ndjqlaw10_awake.f k) true := by
  unfold ndjqlaw10_awake.f
  refine Ev.bind (ev_Lex _) (Ev.congr (f := fun _ => some true) (fun k => ?_) (Ev.now true))
  rw [keyword_f]
  have e : lexS ⟨#[46, 97, 124, 61, 36, 120]⟩ = ([⟨4, 0, ⟨#[97]⟩, 0⟩, ⟨7, 2, ⟨#[124, 61]⟩, 0⟩, ⟨3, 4, ⟨#[120]⟩, 0⟩, ⟨0, 6, emp, 0⟩], 0, 0) := by
    have t0 : tokS ⟨#[46, 97, 124, 61, 36, 120]⟩ 0 = (4, 0, ⟨#[97]⟩, 0, 2, 0) := by
      simp only [tokS, nameTok, kwS, ByteArray.toList_eq]; decide +kernel
    have t1 : tokS ⟨#[46, 97, 124, 61, 36, 120]⟩ 2 = (7, 0, ⟨#[124, 61]⟩, 0, 4, 0) := by
      simp only [tokS, signTok, pre, ByteArray.toList_eq]; decide +kernel
    have t2 : tokS ⟨#[46, 97, 124, 61, 36, 120]⟩ 4 = (3, 0, ⟨#[120]⟩, 0, 6, 0) := by
      simp only [tokS, nameTok, kwS, ByteArray.toList_eq]; decide +kernel
    have g0 : gap ⟨#[46, 97, 124, 61, 36, 120]⟩ 0 = 0 := by decide +kernel
    have g1 : gap ⟨#[46, 97, 124, 61, 36, 120]⟩ 2 = 2 := by decide +kernel
    have g2 : gap ⟨#[46, 97, 124, 61, 36, 120]⟩ 4 = 4 := by decide +kernel
    have g3 : gap ⟨#[46, 97, 124, 61, 36, 120]⟩ 6 = 6 := by decide +kernel
    have sz : ByteArray.size ⟨#[46, 97, 124, 61, 36, 120]⟩ = 6 := rfl
    unfold lexS
    rw [sz, g0]
    simp only [lexD, sz, t0, t1, t2, g1, g2, g3]
    rfl
  rw [e]
  simp only [kwS, ByteArray.toList_eq, Option.bind_some]
  decide +kernel

/-! texts at their offsets -/
theorem keep_prefix {p t : ByteArray} {n : Nat} (h : p.toList = t.toList.take n) (hn : n ≤ t.size) : ndjqkeep_Prefix.f p t = some true := by
  have hp : p.size = n := by rw [← toList_len, h, List.length_take, toList_len]; omega
  unfold ndjqkeep_Prefix.f
  rw [if_pos (by omega), if_pos (by omega)]
  congr 1
  rw [beq_iff_eq, h]
  rw [show ((p.size : Int) : Int).toNat = n by omega, ext_list, ← ByteArray.toList_eq]
  simp
theorem prefix_self (s : ByteArray) {a e : Int} (h0 : 0 ≤ a) (h1 : a ≤ e) (h2 : e ≤ s.size) : ndjqkeep_Prefix.f (s.extract a.toNat e.toNat) (s.extract a.toNat s.size) = some true := by
  refine keep_prefix (n := e.toNat - a.toNat) ?_ (by rw [ByteArray.size_extract]; omega)
  rw [ext_list, ext_list, List.take_take]
  congr 1; omega
theorem prefix_sign (s : ByteArray) {a e : Int} (c : UInt8) (h0 : 0 ≤ a) (h1 : a + 1 ≤ e) (h2 : e ≤ s.size) (hc : bt s a = (c.toNat : Int)) : ndjqkeep_Prefix.f ((⟨#[c]⟩ : ByteArray) ++ s.extract (a + 1).toNat e.toNat) (s.extract a.toNat s.size) = some true := by
  refine keep_prefix (n := e.toNat - a.toNat) ?_ (by rw [ByteArray.size_extract]; omega)
  obtain ⟨hl, hb⟩ := bt_get s h0 (by omega)
  rw [app_list, ext_list, ext_list, List.take_take, List.drop_eq_getElem_cons hl, ByteArray.toList_eq]
  rw [show min (e.toNat - a.toNat) (s.size - a.toNat) = (e.toNat - (a + 1).toNat) + 1 by omega, List.take_succ_cons, show (a + 1).toNat = a.toNat + 1 by omega]
  have : s.data.toList[a.toNat] = c := by
    apply UInt8.toNat_inj.mp
    omega
  rw [this]; rfl
theorem prefix_pre (s g : ByteArray) {a : Int} (h : pre (s.extract a.toNat s.size) g = true) : ndjqkeep_Prefix.f g (s.extract a.toNat s.size) = some true := by
  unfold pre at h
  simp only [Bool.and_eq_true, decide_eq_true_eq] at h
  unfold ndjqkeep_Prefix.f
  rw [if_pos (by omega), if_pos (by omega)]
  congr 1
  simpa using h.2
theorem extract_ne {s : ByteArray} {a e : Int} (h0 : 0 ≤ a) (h1 : a < e) (h2 : e ≤ s.size) : (s.extract a.toNat e.toNat).toList ≠ [] := by
  intro h
  have := toList_len (s.extract a.toNat e.toNat)
  rw [h, ByteArray.size_extract] at this
  simp at this; omega

/-! tokens in order -/
/-- The least offset that a token behind t may have. -/
def lastEnd (t : S33) : Int := if t.f0 = 3 then t.f1 + 1 + t.f2.size else if t.f0 = 4 then t.f1 + 1 + t.f2.size else if t.f0 = 5 ∨ t.f0 = 6 ∨ t.f0 = 0 then t.f1 else t.f1 + t.f2.size
/-- The text of t stands at its offset. -/
def standsAt (s : ByteArray) (t : S33) : Prop :=
  if t.f0 = 3 then ndjqkeep_Prefix.f ((⟨#[36]⟩ : ByteArray) ++ t.f2) (s.extract t.f1.toNat s.size) = some true ∧ t.f2.toList ≠ [] ∧ t.f2.size ≤ s.size
  else if t.f0 = 4 then ndjqkeep_Prefix.f ((⟨#[46]⟩ : ByteArray) ++ t.f2) (s.extract t.f1.toNat s.size) = some true ∧ t.f2.toList ≠ [] ∧ t.f2.size ≤ s.size
  else if t.f0 = 5 ∨ t.f0 = 6 ∨ t.f0 = 0 then True
  else ndjqkeep_Prefix.f t.f2 (s.extract t.f1.toNat s.size) = some true ∧ t.f2.toList ≠ [] ∧ t.f2.size ≤ s.size
def inOrder (s : ByteArray) : Int → List S33 → Prop
  | lo, [] => False
  | lo, [t] => t = ⟨0, s.size, emp, 0⟩ ∧ lo ≤ s.size
  | lo, t :: u :: r => lo ≤ t.f1 ∧ 0 ≤ t.f1 ∧ t.f1 ≤ s.size ∧ t.f0 ≠ 0 ∧ standsAt s t ∧ inOrder s (lastEnd t) (u :: r)
def goodTok (s : ByteArray) (i : Int) (v : Int × Int × ByteArray × Int × Int × Int) : Prop :=
  v.2.2.2.2.2 = 0 → v.1 ≠ 0 ∧ standsAt s ⟨v.1, i, v.2.2.1, v.2.2.2.1⟩ ∧ lastEnd ⟨v.1, i, v.2.2.1, v.2.2.2.1⟩ ≤ v.2.2.2.2.1
theorem good_name (s : ByteArray) {a : Int} (h0 : 0 ≤ a) (h1 : a < s.size) : goodTok s a (nameTok s a a 1) := by
  have hb := nameEnd_le s h0 (by omega)
  unfold nameTok goodTok
  intro h
  by_cases c1 : nameEnd s a = a
  · rw [if_pos c1] at h; simp at h
  rw [if_neg c1] at h ⊢
  by_cases c2 : nameEnd s a - a > 32
  · rw [if_pos c2] at h; simp at h
  rw [if_neg c2] at h ⊢
  have hz := size_extract' s h0 hb.1 hb.2
  have hk : ∀ k : Int, k = 1 ∨ k = 2 → k ≠ 0 ∧ standsAt s ⟨k, a, s.extract a.toNat (nameEnd s a).toNat, 0⟩ ∧ lastEnd ⟨k, a, s.extract a.toNat (nameEnd s a).toNat, 0⟩ ≤ nameEnd s a := by
    intro k hk
    refine ⟨by omega, ?_, ?_⟩
    · unfold standsAt
      rw [if_neg (by simp only; omega), if_neg (by simp only; omega), if_neg (by simp only; omega)]
      exact ⟨prefix_self s h0 hb.1 hb.2, extract_ne h0 (by omega) hb.2, by simp only; omega⟩
    · unfold lastEnd
      rw [if_neg (by simp only; omega), if_neg (by simp only; omega), if_neg (by simp only; omega)]
      simp only; omega
  split
  · exact hk 2 (by omega)
  · exact hk 1 (by omega)
theorem good_sigil (s : ByteArray) {a : Int} (k : Int) (c : UInt8) (h0 : 0 ≤ a) (h1 : a < s.size) (hc : bt s a = (c.toNat : Int)) (hk : (k = 3 ∧ c = 36) ∨ (k = 4 ∧ c = 46)) : goodTok s a (nameTok s a (a + 1) k) := by
  have hb := nameEnd_le s (i := a + 1) (by omega) (by omega)
  unfold nameTok goodTok
  intro h
  by_cases c1 : nameEnd s (a + 1) = a + 1
  · rw [if_pos c1] at h; simp at h
  rw [if_neg c1] at h ⊢
  by_cases c2 : nameEnd s (a + 1) - (a + 1) > 32
  · rw [if_pos c2] at h; simp at h
  rw [if_neg c2] at h ⊢
  have hz := size_extract' s (a := a + 1) (by omega) hb.1 hb.2
  have hp := prefix_sign s (a := a) c h0 hb.1 hb.2 hc
  have hn := extract_ne (s := s) (a := a + 1) (e := nameEnd s (a + 1)) (by omega) (by omega) hb.2
  rw [if_neg (by omega)]
  refine ⟨by simp only; omega, ?_, ?_⟩
  · unfold standsAt
    rcases hk with ⟨rfl, rfl⟩ | ⟨rfl, rfl⟩
    · rw [if_pos rfl]; exact ⟨hp, hn, by simp only; omega⟩
    · rw [if_neg (by simp), if_pos rfl]; exact ⟨hp, hn, by simp only; omega⟩
  · unfold lastEnd
    rcases hk with ⟨rfl, rfl⟩ | ⟨rfl, rfl⟩
    · rw [if_pos rfl]; simp only; omega
    · rw [if_neg (by simp), if_pos rfl]; simp only; omega
theorem good_open (s : ByteArray) {a : Int} (v : Int × Int × ByteArray × Int × Int × Int) (hk : v.2.2.2.2.2 = 0 → (v.1 = 5 ∨ v.1 = 6) ∧ a ≤ v.2.2.2.2.1) : goodTok s a v := by
  intro h
  obtain ⟨hk, he⟩ := hk h
  refine ⟨by omega, ?_, ?_⟩
  · unfold standsAt
    rw [if_neg (by simp only; omega), if_neg (by simp only; omega), if_pos (by simp only; omega)]; trivial
  · unfold lastEnd
    rw [if_neg (by simp only; omega), if_neg (by simp only; omega), if_pos (by simp only; omega)]
    exact he
theorem good_sign (s : ByteArray) {a : Int} (h0 : 0 ≤ a) (h1 : a < s.size) : goodTok s a (signTok s a) := by
  unfold goodTok signTok
  cases e : flexSigns.find? (fun g => pre (s.extract a.toNat s.size) g) with
  | none => intro h; simp at h
  | some g =>
    intro _
    have h2 := List.find?_some e
    have h3 := signs_small g (List.mem_of_find?_eq_some e)
    have h4 := toList_len g
    refine ⟨by simp, ?_, ?_⟩
    · unfold standsAt
      rw [if_neg (by simp), if_neg (by simp), if_neg (by simp)]
      refine ⟨prefix_pre s g h2, fun h => ?_, ?_⟩
      case refine_2 => simp only; unfold pre at h2; simp only [Bool.and_eq_true, decide_eq_true_eq, ByteArray.size_extract] at h2; omega
      simp only at h
      rw [h] at h4; simp at h4; omega
    · unfold lastEnd
      rw [if_neg (by simp), if_neg (by simp), if_neg (by simp)]
      simp
theorem good_tok (s : ByteArray) (hs : s.size ≤ 8192) {a : Int} (h0 : 0 ≤ a) (h1 : a < s.size) : goodTok s a (tokS s a) := by
  unfold tokS
  by_cases c1 : letterB (bt s a) = true
  · rw [if_pos c1]; exact good_name s h0 h1
  rw [if_neg c1]
  by_cases c2 : bt s a = 36
  · rw [if_pos c2]; exact good_sigil s 3 36 h0 h1 (by rw [c2]; rfl) (by simp)
  rw [if_neg c2]
  by_cases c3 : bt s a = 46 ∧ nameEnd s (a + 1) > a + 1
  · rw [if_pos c3]; exact good_sigil s 4 46 h0 h1 (by rw [c3.1]; rfl) (by simp)
  rw [if_neg c3]
  by_cases c4 : digitB (bt s a) = true
  · rw [if_pos c4]; refine good_open s _ (fun h => ?_)
    have := numTok_bound s h0 h1 c4 h
    exact ⟨.inl this.2.2, by omega⟩
  rw [if_neg c4]
  by_cases c5 : bt s a = 34
  · rw [if_pos c5]; refine good_open s _ (fun h => ?_)
    unfold strTok at h ⊢
    by_cases c6 : (textS s a).2.2 = 0
    · rw [if_pos c6]
      have := textD_bound s a (s.size - a.toNat) [] (a + 1) (by omega) c6
      refine ⟨.inr rfl, ?_⟩
      simp only [textS]
      omega
    · rw [if_neg c6] at h; exact absurd h c6
  · rw [if_neg c5]; exact good_sign s h0 h1

theorem lexD_order (s : ByteArray) (hs : s.size ≤ 8192) : ∀ (d : Nat) (l : List S33) (i lo : Int), (s.size : Int) - i < d → 0 ≤ i → i ≤ s.size → lo ≤ i → (lexD s d l i).2.2 = 0 → ∃ m, (lexD s d l i).1 = l ++ m ∧ inOrder s lo m ∧ (m.length : Int) ≤ s.size - i + 1 := by
  intro d
  induction d with
  | zero => intro l i lo hd h0 h1 hl h; omega
  | succ d ih =>
    intro l i lo hd h0 h1 hl h
    unfold lexD at h ⊢
    by_cases c : i < s.size
    · rw [if_pos c] at h ⊢
      by_cases c2 : (l.length : Int) ≥ 2048
      · rw [if_pos c2] at h; simp at h
      rw [if_neg c2] at h ⊢
      have hb := tokS_bound s h0 c
      have hg := good_tok s hs h0 c
      unfold goodTok at hg
      generalize tokS s i = t at *
      obtain ⟨t1, t2, t3, t4, t5, t6⟩ := t
      simp only at hb hg h ⊢
      by_cases c3 : t6 = 0
      · rw [if_pos c3] at h ⊢
        have hb := hb c3
        obtain ⟨g1, g2, g3⟩ := hg c3
        have hgap := gap_le s (i := t5) (by omega) (by omega)
        obtain ⟨m, hm, ho, hz⟩ := ih _ (gap s t5) (lastEnd ⟨t1, i, t3, t4⟩) (by omega) (by omega) (by omega) (by omega) h
        refine ⟨⟨t1, i, t3, t4⟩ :: m, by rw [hm]; simp, ?_, by simp only [List.length_cons]; omega⟩
        cases m with
        | nil => exact ho.elim
        | cons u r => exact ⟨hl, h0, by simp only; omega, g1, g2, ho⟩
      · rw [if_neg c3] at h; exact absurd h c3
    · rw [if_neg c] at h ⊢
      exact ⟨[⟨0, s.size, emp, 0⟩], rfl, ⟨rfl, by omega⟩, by simp; omega⟩
theorem lexS_order (s : ByteArray) (h : (lexS s).2.2 = 0) : s.size ≤ 8192 ∧ inOrder s 0 (lexS s).1 ∧ ((lexS s).1.length : Int) ≤ s.size + 1 := by
  unfold lexS at h ⊢
  by_cases c : (s.size : Int) > 8192
  · rw [if_pos c] at h; simp at h
  · rw [if_neg c] at h ⊢
    have hg := gap_le s (i := 0) (by omega) (by omega)
    obtain ⟨m, hm, ho, hz⟩ := lexD_order s (by omega) (s.size + 1) [] (gap s 0) 0 (by omega) (by omega) (by omega) (by omega) h
    rw [hm]
    exact ⟨by omega, ho, by simp only [List.nil_append]; omega⟩

/-! the statement's round -/
theorem rd_at (p : List S33) (t : S33) (r : List S33) {i : Int} (h : (p.length : Int) = i) : rd_T33 (p ++ t :: r) i = t := by
  unfold rd_T33
  rw [show i.toNat = p.length by omega]
  simp
theorem ev_order (s : ByteArray) (hs : s.size ≤ 8192) (L : List S33) (hL : (L.length : Int) ≤ 100000) : ∀ (m p : List S33) (lo i : Int), L = p ++ m → (p.length : Int) = i → inOrder s lo m → Ev (fun k => ndjqlaw10_FlexOrder.l0 k s L lo i) true := by
  intro m
  induction m with
  | nil => intro p lo i e hi ho; exact ho.elim
  | cons t r ih =>
    intro p lo i e hi ho
    have hlen : (L.length : Int) = i + 1 + r.length := by rw [e]; simp; omega
    have hr : rd_T33 L i = t := by rw [e]; exact rd_at p t r hi
    have e2 : L = (p ++ [t]) ++ r := by rw [e]; simp
    have hi2 : ((p ++ [t]).length : Int) = i + 1 := by simp; omega
    have hi0 : 0 ≤ i := by omega
    cases r with
    | nil =>
      obtain ⟨rfl, hlo⟩ := ho
      simp only [List.length_nil] at hlen
      refine Ev.step (fun k => by first | (rw [ndjqlaw10_FlexOrder.l0]; done) | (rw [ndjqlaw10_FlexOrder.l0]; rfl)) (Ev.pos (by omega) (Ev.pos hi0 ?_))
      rw [hr]
      refine Ev.neg (by simp only; omega) (Ev.neg (by simp only; omega) ?_)
      rw [w64 (x := (L.length : Int) - 1) (by omega) (by omega)]
      refine Ev.step (fun k => by first | (rw [ndjqlaw10_FlexOrder.j2]; done) | (rw [ndjqlaw10_FlexOrder.j2]; rfl)) ?_
      rw [show (i == (L.length : Int) - 1) = true by rw [beq_iff_eq]; omega]
      refine Ev.neg (by simp) (Ev.neg (by simp) (Ev.neg (by simp) (Ev.neg (by simp) (Ev.neg (by simp) ?_))))
      refine Ev.step (fun k => by first | (rw [ndjqlaw10_FlexOrder.j3]; done) | (rw [ndjqlaw10_FlexOrder.j3]; rfl)) (Ev.pos (by simp) ?_)
      rw [w64 (x := i + 1) (by omega) (by omega)]
      refine Ev.step (fun k => by first | (rw [ndjqlaw10_FlexOrder.l0]; done) | (rw [ndjqlaw10_FlexOrder.l0]; rfl)) (Ev.neg (by omega) (Ev.pos (by omega) ?_))
      rw [w64 (x := (L.length : Int) - 1) (by omega) (by omega)]
      refine Ev.pos (by omega) (Ev.pos (by omega) (Ev.pos ?_ (Ev.bind awake_true (Ev.now true))))
      rw [show (L.length : Int) - 1 = i by omega, hr]
    | cons u r =>
      obtain ⟨o1, o2, o3, o4, o5, o6⟩ := ho
      obtain ⟨t1, t2, t3, t4⟩ := t
      simp only at o1 o2 o3 o4
      simp only [List.length_cons] at hlen
      refine Ev.step (fun k => by first | (rw [ndjqlaw10_FlexOrder.l0]; done) | (rw [ndjqlaw10_FlexOrder.l0]; rfl)) (Ev.pos (by omega) (Ev.pos hi0 ?_))
      rw [hr]
      refine Ev.neg (by simp only; omega) (Ev.neg (by simp only; omega) ?_)
      rw [w64 (x := (L.length : Int) - 1) (by omega) (by omega)]
      refine Ev.step (fun k => by first | (rw [ndjqlaw10_FlexOrder.j2]; done) | (rw [ndjqlaw10_FlexOrder.j2]; rfl)) ?_
      rw [show (i == (L.length : Int) - 1) = false by rw [beq_eq_false_iff_ne]; omega, show (t1 == 0) = false by rw [beq_eq_false_iff_ne]; exact o4]
      refine Ev.neg (by simp) ?_
      dsimp only
      have nx := ih (p ++ [⟨t1, t2, t3, t4⟩]) (lastEnd ⟨t1, t2, t3, t4⟩) (i + 1) e2 hi2 o6
      rw [w64 (x := i + 1) (by omega) (by omega)]
      unfold standsAt at o5
      unfold lastEnd at nx
      simp only at o5 nx
      by_cases c3 : t1 = 3
      · rw [if_pos c3] at o5 nx
        obtain ⟨q1, q2, q3⟩ := o5
        rw [w64 (x := t2 + 1) (by omega) (by omega), w64 (by omega) (by omega)]
        exact Ev.pos c3 (Ev.pos (by omega) (Ev.pos o2 (Ev.pos o3 (Ev.pbind q1 (Ev.pos rfl (Ev.neg q2 nx))))))
      rw [if_neg c3] at o5 nx
      refine Ev.neg c3 ?_
      by_cases c4 : t1 = 4
      · rw [if_pos c4] at o5 nx
        obtain ⟨q1, q2, q3⟩ := o5
        rw [w64 (x := t2 + 1) (by omega) (by omega), w64 (by omega) (by omega)]
        exact Ev.pos c4 (Ev.pos (by omega) (Ev.pos o2 (Ev.pos o3 (Ev.pbind q1 (Ev.pos rfl (Ev.neg q2 nx))))))
      rw [if_neg c4] at o5 nx
      refine Ev.neg c4 ?_
      have open_ : t1 = 5 ∨ t1 = 6 → Ev (fun k => ndjqlaw10_FlexOrder.j3 k s L i (⟨#[]⟩ : ByteArray) true t1 t2 t3 t4) true := by
        intro h
        rw [if_pos (by omega)] at nx
        refine Ev.step (fun k => by first | (rw [ndjqlaw10_FlexOrder.j3]; done) | (rw [ndjqlaw10_FlexOrder.j3]; rfl)) (Ev.pos rfl ?_)
        rw [w64 (x := i + 1) (by omega) (by omega)]
        exact nx
      by_cases c5 : t1 = 5
      · refine Ev.pos c5 ?_
        rw [show (t1 == 5) = true by rw [beq_iff_eq]; exact c5]
        exact open_ (.inl c5)
      refine Ev.neg c5 ?_
      by_cases c6 : t1 = 6
      · refine Ev.pos c6 ?_
        rw [show (t1 == 6) = true by rw [beq_iff_eq]; exact c6]
        exact open_ (.inr c6)
      refine Ev.neg c6 ?_
      rw [if_neg (by omega)] at o5 nx
      obtain ⟨q1, q2, q3⟩ := o5
      refine Ev.step (fun k => by first | (rw [ndjqlaw10_FlexOrder.j3]; done) | (rw [ndjqlaw10_FlexOrder.j3]; rfl)) (Ev.neg (by simp) ?_)
      have hz : (⟨#[]⟩ : ByteArray).size = 0 := rfl
      rw [hz, w64 (x := i + 1) (by omega) (by omega), w64 (x := t2 + (0 : Nat)) (by omega) (by omega), w64 (by omega) (by omega)]
      refine Ev.pos (by omega) (Ev.pos o2 (Ev.pos o3 (Ev.pbind (a := true) ?_ (Ev.pos rfl (Ev.neg q2 ?_)))))
      · rw [show (⟨#[]⟩ : ByteArray) ++ t3 = t3 from ByteArray.empty_append]; exact q1
      · simpa using nx
theorem order_holds (s : ByteArray) : ∃ k, ndjqlaw10_FlexOrder.f k s = some true := by
  refine Ev.rounds (g := fun k => ndjqlaw10_FlexOrder.f k s) ?_
  unfold ndjqlaw10_FlexOrder.f
  refine Ev.bind (ev_Lex s) ?_
  have j : ∀ (b : Bool) (L : List S33), (b = false → s.size ≤ 8192 ∧ inOrder s 0 L ∧ (L.length : Int) ≤ 100000) → Ev (fun k => ndjqlaw10_FlexOrder.j0 k s L b) true := by
    intro b L h
    refine Ev.step (fun k => by first | (rw [ndjqlaw10_FlexOrder.j0]; done) | (rw [ndjqlaw10_FlexOrder.j0]; rfl)) ?_
    cases b with
    | true => exact Ev.pos rfl (Ev.bind awake_true (Ev.now true))
    | false =>
      obtain ⟨h1, h2, h3⟩ := h rfl
      exact Ev.neg (by simp) (ev_order s h1 L h3 L [] 0 0 rfl rfl h2)
  by_cases c : (s.size : Int) > 200
  · exact Ev.pos c (j true _ (by simp))
  · refine Ev.neg c (j _ _ (fun h => ?_))
    have h : (lexS s).2.2 = 0 := by simpa using h
    have := lexS_order s h
    exact ⟨this.1, this.2.1, by omega⟩
end Go.Proofs.YtdhdpidjdadamaaDoor.Q
