/- Plain words: bytes as lists, and the law's sanity check is true. No program and no memory here. -/
import Derived.Test.YtdhdpidjdadamaaDoorQTok
namespace Go.Proofs.YtdhdpidjdadamaaDoor.Q
open Go.RowKit Go.Proofs.YtdhdpidjdadamaaDoorW.PrintWords Go.Proofs.YtdhdpidjdadamaaDoorW.PrintLast Go.Proofs.YtdhdpidjdadamaaDoor.PX
set_option linter.unusedVariables false
set_option linter.unusedSimpArgs false
theorem ext_list (s : ByteArray) (i j : Nat) : (s.extract i j).toList = (s.data.toList.drop i).take (j - i) := by
 rw [ByteArray.toList_eq, ByteArray.data_extract, Array.toList_extract]
theorem app_list (a b : ByteArray) : (a ++ b).toList = a.toList ++ b.toList := by
 rw [ByteArray.toList_eq, ByteArray.toList_eq, ByteArray.toList_eq, ByteArray.data_append, Array.toList_append]
theorem toList_len (s : ByteArray) : s.toList.length = s.size := by rw [ByteArray.toList_eq]; exact data_length s
theorem bt_get (s : ByteArray) {i : Int} (h0 : 0 ≤ i) (h1 : i < s.size) : ∃ h : i.toNat < s.data.toList.length, bt s i = (s.data.toList[i.toNat].toNat : Int) := by
 have hh : i.toNat < s.size := by omega
 have h2 : i.toNat < s.data.toList.length := by have := data_length s; omega
 refine ⟨h2, ?_⟩
 unfold bt;rw [dif_pos hh];rfl
theorem awake_true : Ev (fun k => law_awake.f k) true := by
 unfold law_awake.f;refine Ev.bind (ev_Lex _) (Ev.congr (f := fun _ => some true) (fun k => ?_) (Ev.now true))
 rw [keyword_f];have e : lexS ⟨#[46, 97, 124, 61, 36, 120]⟩ = ([⟨4, 0, ⟨#[97]⟩, 0⟩, ⟨7, 2, ⟨#[124, 61]⟩, 0⟩, ⟨3, 4, ⟨#[120]⟩, 0⟩, ⟨0, 6, emp, 0⟩], 0, 0) := by
  have t0 : tokS ⟨#[46, 97, 124, 61, 36, 120]⟩ 0 = (4, 0, ⟨#[97]⟩, 0, 2, 0) := by
   simp only [tokS, nameTok, kwS, ByteArray.toList_eq]; decide +kernel
  have t1 : tokS ⟨#[46, 97, 124, 61, 36, 120]⟩ 2 = (7, 0, ⟨#[124, 61]⟩, 0, 4, 0) := by
   simp only [tokS, signTok, pre, ByteArray.toList_eq]; decide +kernel
  have t2 : tokS ⟨#[46, 97, 124, 61, 36, 120]⟩ 4 = (3, 0, ⟨#[120]⟩, 0, 6, 0) := by
   simp only [tokS, nameTok, kwS, ByteArray.toList_eq]; decide +kernel
  have g0 : gap ⟨#[46, 97, 124, 61, 36, 120]⟩ 0 = 0 := by decide +kernel
  have g1 : gap ⟨#[46, 97, 124, 61, 36, 120]⟩ 2 = 2 := by decide +kernel
  have g2 : gap ⟨#[46, 97, 124, 61, 36, 120]⟩ 4 = 4 := by decide +kernel
  have g3 : gap ⟨#[46, 97, 124, 61, 36, 120]⟩ 6 = 6 := by decide +kernel
  have sz : ByteArray.size ⟨#[46, 97, 124, 61, 36, 120]⟩ = 6 := rfl;unfold lexS;rw [sz, g0];simp only [lexD, sz, t0, t1, t2, g1, g2, g3];rfl
 rw [e];simp only [kwS, ByteArray.toList_eq, Option.bind_some];decide +kernel
/-! gaps -/
theorem gap_stay {s : ByteArray} {i : Int} (h0 : 0 ≤ i) (h1 : i < s.size) (hb : blankB (bt s i) = false) (hc : bt s i ≠ 35) : gap s i = i := by
 unfold gap gapD;rw [runTo_stop hb, if_neg (by omega), if_pos hc]
theorem gap_end (s : ByteArray) : gap s s.size = s.size := by
 unfold gap gapD;rw [runTo_size _ _ (by omega), if_pos rfl]
end Go.Proofs.YtdhdpidjdadamaaDoor.Q
