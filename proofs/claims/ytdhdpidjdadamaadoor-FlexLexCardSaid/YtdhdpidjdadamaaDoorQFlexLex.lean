/- The plain law FlexLex: what flex and its reference come to answers as the statement says. No program and no memory here. -/
import Derived.Test.YtdhdpidjdadamaaDoorQRefD
import Derived.Test.YtdhdpidjdadamaaDoorPx25
namespace Go.Proofs.YtdhdpidjdadamaaDoor.Q
open Go.RowKit Go.Proofs.YtdhdpidjdadamaaDoorW.PrintWords Go.Proofs.YtdhdpidjdadamaaDoorW.PrintLast Go.Proofs.YtdhdpidjdadamaaDoorW.PrintMore Go.Proofs.YtdhdpidjdadamaaDoor.PX
set_option linter.unusedVariables false
set_option linter.unusedSimpArgs false
theorem ev_short (a b : ByteArray) : Ev (fun k => kp_Short.f k 200 [a, b]) (decide ((a.size : Int) ≤ 200 ∧ (b.size : Int) ≤ 200)) := by
 unfold kp_Short.f;have e0 : rdOf ByteArray.empty [a, b] 0 = a := rfl;have e1 : rdOf ByteArray.empty [a, b] 1 = b := rfl;have l2 : (([a, b] : List ByteArray).length : Int) = 2 := rfl;refine Ev.step (fun k => by first | (rw [kp_Short.l0]; done) | (rw [kp_Short.l0]; rfl)) (Ev.pos (by rw [l2]; decide) (Ev.pos (by decide) ?_))
 rw [e0, w64 (x := 0 + 1) (by omega) (by omega), Int.zero_add]
 by_cases c : (a.size : Int) > 200
 ·exact Ev.pos c (Ev.val (by rw [eq_comm, decide_eq_false_iff_not]; omega))
 refine Ev.neg c (Ev.step (fun k => by first | (rw [kp_Short.l0]; done) | (rw [kp_Short.l0]; rfl)) (Ev.pos (by rw [l2]; decide) (Ev.pos (by decide) ?_)))
 rw [e1, w64 (x := 1 + 1) (by omega) (by omega)]
 by_cases d : (b.size : Int) > 200
 ·exact Ev.pos d (Ev.val (by rw [eq_comm, decide_eq_false_iff_not]; omega))
 exact Ev.neg d (Ev.step (fun k => by first | (rw [kp_Short.l0]; done) | (rw [kp_Short.l0]; rfl)) (Ev.neg (by rw [l2]; decide) (Ev.val (by rw [eq_comm, decide_eq_true_iff]; omega))))
theorem lex_holds (s n : ByteArray) (hn : n.size ≤ 140737488351232) : ∃ k, law_FlexLex.f k s n = some true := by
 refine Ev.rounds (g := fun k => law_FlexLex.f k s n) ?_
 unfold law_FlexLex.f;refine Ev.bind (ev_short s n) ?_
 by_cases c : (s.size : Int) ≤ 200 ∧ (n.size : Int) ≤ 200
 case neg => exact Ev.neg (by rw [decide_eq_false c]; simp) (Ev.bind awake_true (Ev.now true))
 refine Ev.pos (decide_eq_true c) (Ev.bind (ev_Lex s) (Ev.bind (ev_rLex s) (Ev.bind (ev_tokens _ (by have := lexS_len s; omega)) ?_)))
 refine Ev.pos rfl (Ev.pos rfl (Ev.pos rfl (Ev.pbind (keyword_f n) (Ev.pbind (rkeyword_f n) (Ev.pos (by simp) (Ev.bind (name_f hn) (Ev.bind (rname_f hn) (Ev.pos (by simp) (Ev.bind awake_true (Ev.now true))))))))))
end Go.Proofs.YtdhdpidjdadamaaDoor.Q
