/- The plain law FlexNames: what flex.Lex, flex.Keyword and flex.Name come to answers as the statement says. No program and no memory here. -/
import Derived.Test.YtdhdpidjdadamaaDoorQAwake
import Derived.Test.YtdhdpidjdadamaaDoorPx23
namespace Go.Proofs.YtdhdpidjdadamaaDoor.Q
open Go.RowKit Go.Proofs.YtdhdpidjdadamaaDoorW.PrintWords Go.Proofs.YtdhdpidjdadamaaDoorW.PrintLast Go.Proofs.YtdhdpidjdadamaaDoor.PX
set_option linter.unusedVariables false
set_option linter.unusedSimpArgs false

theorem lex_one {t x : ByteArray} {k : Int} (h0 : 0 < t.size) (h1 : t.size ≤ 8192) (hg : gap t 0 = 0) (ht : tokS t 0 = (k, 0, x, 0, (t.size : Int), 0)) : lexS t = ([⟨k, 0, x, 0⟩, ⟨0, t.size, emp, 0⟩], 0, 0) := by
  unfold lexS
  rw [if_neg (by omega), hg]
  obtain ⟨d, hd⟩ : ∃ d, t.size = d + 1 := ⟨t.size - 1, by omega⟩
  rw [show lexD t (t.size + 1) [] 0 = lexD t (d + 1 + 1) [] 0 by rw [← hd]]
  unfold lexD
  rw [if_pos (by omega), if_neg (by simp), ht]
  simp only
  rw [if_pos trivial, gap_end t]
  unfold lexD
  rw [if_neg (by omega)]
  rfl
theorem not_blank_of_letter {c : Int} (h : letterB c = true) : blankB c = false ∧ c ≠ 35 := by
  unfold letterB at h
  unfold blankB
  rw [decide_eq_true_iff] at h
  rw [decide_eq_false_iff_not]
  omega
theorem name_letter {s : ByteArray} (h0 : 0 < s.size) (h : nameEnd s 0 = s.size) : letterB (bt s 0) = true ∧ runTo wordB s 0 = s.size := by
  unfold nameEnd at h
  by_cases c : (0 : Int) < s.size ∧ letterB (bt s 0) = true
  · rw [if_pos c] at h; exact ⟨c.2, h⟩
  · rw [if_neg c] at h; omega
theorem lex_name {s : ByteArray} (h0 : 0 < s.size) (h1 : s.size ≤ 32) (h : nameEnd s 0 = s.size) : lexS s = ([⟨if kwS s = true then 2 else 1, 0, s, 0⟩, ⟨0, s.size, emp, 0⟩], 0, 0) := by
  obtain ⟨hl, hr⟩ := name_letter h0 h
  have hb := not_blank_of_letter hl
  refine lex_one h0 (by omega) (gap_stay (by omega) (by omega) hb.1 hb.2) ?_
  unfold tokS
  rw [if_pos hl]
  unfold nameTok
  rw [h, if_neg (by omega), if_neg (by omega)]
  have e : s.extract (0 : Int).toNat (s.size : Int).toNat = s := by
    rw [show ((0 : Int).toNat) = 0 from rfl, show (s.size : Int).toNat = s.size by omega]; exact ByteArray.extract_zero_size
  rw [e]
  simp
theorem size_sign (c : UInt8) (s : ByteArray) : ((⟨#[c]⟩ : ByteArray) ++ s).size = s.size + 1 := by
  rw [ByteArray.size_append, show (⟨#[c]⟩ : ByteArray).size = 1 from rfl]; omega
theorem bt_sign0 (c : UInt8) (s : ByteArray) : bt ((⟨#[c]⟩ : ByteArray) ++ s) 0 = (c.toNat : Int) := by
  have h := bt_get ((⟨#[c]⟩ : ByteArray) ++ s) (i := 0) (by omega) (by rw [size_sign]; omega)
  obtain ⟨hh, e⟩ := h
  rw [e]
  congr 2
theorem bt_sign (c : UInt8) (s : ByteArray) {i : Int} (h0 : 0 ≤ i) (h1 : i < s.size) : bt ((⟨#[c]⟩ : ByteArray) ++ s) (i + 1) = bt s i := by
  obtain ⟨hh, e⟩ := bt_get ((⟨#[c]⟩ : ByteArray) ++ s) (i := i + 1) (by omega) (by rw [size_sign]; omega)
  obtain ⟨hh2, e2⟩ := bt_get s h0 h1
  rw [e, e2]
  congr 2
  simp only [show (i + 1).toNat = i.toNat + 1 by omega]
  simp only [ByteArray.data_append, Array.toList_append, List.singleton_append, List.getElem_cons_succ]
theorem sign_extract (c : UInt8) (s : ByteArray) : ((⟨#[c]⟩ : ByteArray) ++ s).extract 1 (s.size + 1) = s := by
  apply ByteArray.ext
  apply Array.toList_inj.mp
  have h := ext_list ((⟨#[c]⟩ : ByteArray) ++ s) 1 (s.size + 1)
  rw [ByteArray.toList_eq] at h
  rw [h]
  simp only [ByteArray.data_append, Array.toList_append, List.singleton_append, List.drop_succ_cons, List.drop_zero]
  exact List.take_of_length_le (by have := data_length s; omega)
theorem lex_sigil {s : ByteArray} (c : UInt8) (k : Int) (hk : (k = 3 ∧ c = 36) ∨ (k = 4 ∧ c = 46)) (h0 : 0 < s.size) (h1 : s.size ≤ 32) (h : nameEnd s 0 = s.size) :
    lexS ((⟨#[c]⟩ : ByteArray) ++ s) = ([⟨k, 0, s, 0⟩, ⟨0, (((⟨#[c]⟩ : ByteArray) ++ s).size : Int), emp, 0⟩], 0, 0) := by
  obtain ⟨hl, hr⟩ := name_letter h0 h
  have hz := size_sign c s
  have hb0 := bt_sign0 c s
  have hne : nameEnd ((⟨#[c]⟩ : ByteArray) ++ s) 1 = s.size + 1 := by
    unfold nameEnd
    have hl2 : letterB (bt ((⟨#[c]⟩ : ByteArray) ++ s) 1) = true := by
      have := bt_sign c s (i := 0) (by omega) (by omega)
      rw [show (0 : Int) + 1 = 1 from rfl] at this
      rw [this]; exact hl
    rw [if_pos ⟨by omega, hl2⟩]
    refine runTo_eq (s.size) (by omega) (by omega) (by omega) (by omega) (fun j a b => ?_) (fun h => by omega)
    have := bt_sign c s (i := j - 1) (by omega) (by omega)
    rw [show j - 1 + 1 = j by omega] at this
    rw [this]
    exact runTo_in (p := wordB) (s := s) (i := 0) (by omega) (by omega)
  have hx : ((⟨#[c]⟩ : ByteArray) ++ s).extract (1 : Int).toNat ((s.size : Int) + 1).toNat = s := by
    rw [show (1 : Int).toNat = 1 from rfl, show ((s.size : Int) + 1).toNat = s.size + 1 by omega]; exact sign_extract c s
  generalize ht : (⟨#[c]⟩ : ByteArray) ++ s = t at *
  have hn : ∀ k : Int, k ≠ 1 → nameTok t 0 (0 + 1) k = (k, 0, s, 0, (t.size : Int), 0) := by
    intro k hk
    unfold nameTok
    rw [show (0 : Int) + 1 = 1 from rfl, hne, if_neg (by omega), if_neg (by omega), if_neg (by omega), hx]
    simp only [hz]
    simp
  have hg : gap t 0 = 0 := by
    refine gap_stay (by omega) (by omega) ?_ ?_
    · rw [hb0]; rcases hk with ⟨_, rfl⟩ | ⟨_, rfl⟩ <;> decide
    · rw [hb0]; rcases hk with ⟨_, rfl⟩ | ⟨_, rfl⟩ <;> decide
  refine lex_one (by omega) (by omega) hg ?_
  unfold tokS
  rw [hb0]
  rcases hk with ⟨rfl, rfl⟩ | ⟨rfl, rfl⟩
  · rw [if_neg (by decide), if_pos (by decide)]
    exact hn 3 (by decide)
  · rw [if_neg (by decide), if_neg (by decide), if_pos ⟨by decide, by rw [show (0 : Int) + 1 = 1 from rfl, hne]; omega⟩]
    exact hn 4 (by decide)
theorem names_holds (s : ByteArray) (hs : s.size ≤ 140737488351232) : ∃ k, ndjqlaw10_FlexNames.f k s = some true := by
  refine Ev.rounds (g := fun k => ndjqlaw10_FlexNames.f k s) ?_
  unfold ndjqlaw10_FlexNames.f
  have jt : Ev (fun k => ndjqlaw10_FlexNames.j0 k s true) true :=
    Ev.step (fun k => by first | (rw [ndjqlaw10_FlexNames.j0]; done) | (rw [ndjqlaw10_FlexNames.j0]; rfl)) (Ev.pos rfl (Ev.bind awake_true (Ev.now true)))
  by_cases c : (s.size : Int) > 50
  · exact Ev.pos c jt
  refine Ev.neg c (Ev.bind (name_f hs) ?_)
  by_cases hn : 0 < s.size ∧ s.size ≤ 32 ∧ nameEnd s 0 = s.size
  case neg => rw [decide_eq_false hn]; exact jt
  rw [decide_eq_true hn]
  obtain ⟨h0, h1, h2⟩ := hn
  have l0 := lex_name h0 h1 h2
  have l1 := lex_sigil 46 4 (by simp) h0 h1 h2
  have l2 := lex_sigil 36 3 (by simp) h0 h1 h2
  refine Ev.step (fun k => by first | (rw [ndjqlaw10_FlexNames.j0]; done) | (rw [ndjqlaw10_FlexNames.j0]; rfl)) ?_
  refine Ev.neg (by simp) ?_
  refine Ev.bind (ev_Lex s) ?_
  refine Ev.pos (show 1 + s.size ≤ 9223372036854775807 by omega) ?_
  refine Ev.bind (ev_Lex _) ?_
  refine Ev.bind (ev_Lex _) ?_
  rw [l0, l1, l2]
  refine Ev.pos rfl (Ev.pos rfl (Ev.pos rfl (Ev.pos rfl (Ev.pos rfl (Ev.pos rfl ?_)))))
  rw [decide_eq_false (by omega)]
  refine Ev.step (fun k => by first | (rw [ndjqlaw10_FlexNames.j1]; done) | (rw [ndjqlaw10_FlexNames.j1]; rfl)) (Ev.neg (by simp) (Ev.pbind (keyword_f s) ?_))
  have fin : Ev (fun k => (ndjqlaw10_awake.f k).bind fun t => some t) true := Ev.bind awake_true (Ev.now true)
  by_cases ck : kwS s = true
  · rw [if_pos ck]
    refine Ev.pos ck (Ev.pos (by simp) (Ev.pos ?_ (Ev.pos (by simp) (Ev.pos ?_ (Ev.pos (by simp) (Ev.pos ?_ fin)))))) <;> simp [rd_T33]
  · rw [if_neg ck]
    refine Ev.neg ck (Ev.pos (by simp) (Ev.pos ?_ (Ev.pos (by simp) (Ev.pos ?_ (Ev.pos (by simp) (Ev.pos ?_ fin)))))) <;> simp [rd_T33]
end Go.Proofs.YtdhdpidjdadamaaDoor.Q
