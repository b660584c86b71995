/- jsonlex.escape returns what the plain function jx_escape.f says (a backslash and what follows it), and writes nothing that was there. -/
import Derived.Test.YtdhdpidjdadamaaDoorPx5
import Derived.Maps.OwnOps
import Derived.Lib.SlBytesConst
namespace Go.Proofs.YtdhdpidjdadamaaDoor.PX
open Go.RowKit Go.Proofs.YtdhdpidjdadamaaDoorW.PrintWords Go.Proofs.YtdhdpidjdadamaaDoorW.PrintLast Go.Proofs.YtdhdpidjdadamaaDoorW.PrintMore
open Go.Maps
set_option linter.unusedVariables false
set_option linter.unusedSimpArgs false
def jx_escape.tail (a0 : ByteArray) (x : Int) (u : Int × Int) : Int × Int × Int :=
 if u.2 = 0 then (wrap64 ((wrap64 ((wrap64 (65536 + (wrap64 ((wrap64 (x - 55296)) * 1024)))) + u.1)) - 56320), 12, 0) else (0, 0, u.2)
def jx_escape.low (k : Nat) (a0 : ByteArray) (x : Int) : Option (Int × Int × Int) :=
 if a0.size = 6 then some (0, 0, 5) else if a0.size < 6 then none
 else if bt a0 6 ≠ 92 then some (0, 0, 4) else if a0.size = 7 then some (0, 0, 5)
 else if bt a0 7 ≠ 117 then some (0, 0, 4)
 else (jx_four.f k (a0.extract 8 a0.size) true).bind fun u => some (jx_escape.tail a0 x u)
def jx_escape.uni (k : Nat) (a0 : ByteArray) (t : Int × Int) : Option (Int × Int × Int) :=
 if t.2 = 0 then (if t.1 < 55296 then some (t.1, 6, 0) else if t.1 ≥ 57344 then some (t.1, 6, 0) else jx_escape.low k a0 t.1) else some (0, 0, t.2)
def jx_escape.f (k : Nat) (a0 : ByteArray) : Option (Int × Int × Int) :=
 if a0.size < 2 then some (0, 0, 5)
 else if bt a0 1 = 34 then some (34, 2, 0) else if bt a0 1 = 92 then some (92, 2, 0) else if bt a0 1 = 47 then some (47, 2, 0)
 else if bt a0 1 = 98 then some (8, 2, 0) else if bt a0 1 = 102 then some (12, 2, 0) else if bt a0 1 = 110 then some (10, 2, 0)
 else if bt a0 1 = 114 then some (13, 2, 0) else if bt a0 1 = 116 then some (9, 2, 0)
 else if bt a0 1 = 117 then (jx_four.f k (a0.extract 2 a0.size) false).bind fun t => jx_escape.uni k a0 t
 else some (0, 0, 4)
theorem jx_escape.mono : ∀ a0 k, LeO (jx_escape.f k a0) (jx_escape.f (k + 1) a0) := by
 intro a0 k;unfold jx_escape.f jx_escape.uni jx_escape.low;repeat' first
  | (with_reducible exact jx_four.mono _ _ _)
  | (with_reducible exact LeO.refl _)
  | (with_reducible exact LeO.none _)
  | refine LeO.ite ?_ ?_
  | refine LeO.bind ?_ (fun _ => ?_)
/-- m[k] = v of a map literal: as a store into a map of the call's own. -/
theorem insert_own {H : Type} {P : Program} (w : World) {ops : Array Oper} {rest : List Oper} {o : Oper} {a : Act} {Q : Exit → Act → World → Prop}
 (hg : o.guard = none) (m x v : Operand) (t : TypeId) (hop : o.op = Op.insert t m x v)
 (k e : TypeId) (K : Keyed P k) (ht : P.underlying t = some (.map k e)) (R : Value → Option (DataW H × List MemPlace)) (b n : Nat) (D : DataW H)
 (hm : a.eval m = .map (some b)) (hown : w.ownsMap P k R b n D) (hn : n < maxLen) (key val : Value) (kl : Lit) (hx : a.eval x = key) (hv : a.eval v = val) (hkey : Go.keyOf P k key = some kl)
 (d : DataW H) (ps : List MemPlace) (hval : R val = some (d, ps))
 (hK : ∀ w', w'.ownsMap P k R b (n + 1) (D.put kl d) → w.grownBy w' (some b) → wpList P ops Q rest (a.put o.dst undef) w') :
 wpList P ops Q (o :: rest) a w := by
 refine wpList_plain hg fun K' hK' => ?_
 obtain ⟨w', hrun, r1, r2⟩ := hown.update K ht hn hkey hval;unfold Oper.wp;simp [execOp, hop, hm, hx, hv, hrun, Result.andThen]
 exact hK' _ _ (hK w' r1 r2)
/-- The five letters' codes. -/
noncomputable def escMap : DataW Unit := ((((((DataW.map []).put (.int .u8 98) (.lit (.int .i64 8))).put (.int .u8 102) (.lit (.int .i64 12))).put (.int .u8 110) (.lit (.int .i64 10))).put (.int .u8 114) (.lit (.int .i64 13))).put (.int .u8 116) (.lit (.int .i64 9)))
set_option maxHeartbeats 4000000 in
set_option maxRecDepth 100000 in
theorem esc_short (a0 : ByteArray) (w : World) (h : a0.size < 2) :
 Calls Tryd.prog 52 #[.string a0] w fun e w' => e = .returned (.tuple #[.int .i64 0, .int .i64 0, .int .i64 5]) ∧ Below w.heap.size w w' := by
 have d0 : decide ((a0.size : Int) < 2) = true := decide_eq_true (by omega)
 have d1 : decide (a0.size < 2) = true := decide_eq_true (by omega)
 clear h;go_enter Tryd.func52, Tryd.ntmps52;go_wp2;go_ret3;exact ⟨rfl, Below.refl _ _⟩
set_option maxHeartbeats 4000000 in
set_option maxRecDepth 100000 in
theorem esc_34 (a0 : ByteArray) (w : World) (hn : 2 ≤ a0.size) (hc : bt a0 1 = 34) :
 Calls Tryd.prog 52 #[.string a0] w fun e w' => e = .returned (.tuple #[.int .i64 34, .int .i64 2, .int .i64 0]) ∧ Below w.heap.size w w' := by
 have e34 : ((bt a0 1) == 34) = true := beq_iff_eq.mpr hc;have q4 : (1 < a0.size) = True := eq_true (by omega)
 have qi4 : (1 < (a0.size : Int)) = True := eq_true (by omega)
 have hx4 : ∀ h : 1 < a0.size, ((a0[1]'h).toNat : Int) = bt a0 1 := bt_at a0 1;have d0 : decide ((a0.size : Int) < 2) = false := decide_eq_false (by omega)
 have d1 : decide (a0.size < 2) = false := decide_eq_false (by omega)
 have hw : wrap64 (bt a0 1) = 34 := by rw [hc]; unfold wrap64; omega
 have Hw := Aside0.mk hw;clear hw hc hn;go_enter Tryd.func52, Tryd.ntmps52;go_wp2;go_ret3;exact ⟨by first | rfl | (rw [Hw.out]; rfl) | (simp [Hw.out]; done), Below.refl _ _⟩
set_option maxHeartbeats 4000000 in
set_option maxRecDepth 100000 in
theorem esc_92 (a0 : ByteArray) (w : World) (hn : 2 ≤ a0.size) (hc : bt a0 1 = 92) :
 Calls Tryd.prog 52 #[.string a0] w fun e w' => e = .returned (.tuple #[.int .i64 92, .int .i64 2, .int .i64 0]) ∧ Below w.heap.size w w' := by
 have e34 : ((bt a0 1) == 34) = false := beq_eq_false_iff_ne.mpr (by omega)
 have e92 : ((bt a0 1) == 92) = true := beq_iff_eq.mpr hc;have q4 : (1 < a0.size) = True := eq_true (by omega)
 have qi4 : (1 < (a0.size : Int)) = True := eq_true (by omega)
 have hx4 : ∀ h : 1 < a0.size, ((a0[1]'h).toNat : Int) = bt a0 1 := bt_at a0 1;have d0 : decide ((a0.size : Int) < 2) = false := decide_eq_false (by omega)
 have d1 : decide (a0.size < 2) = false := decide_eq_false (by omega)
 have hw : wrap64 (bt a0 1) = 92 := by rw [hc]; unfold wrap64; omega
 have Hw := Aside0.mk hw;clear hw hc hn;go_enter Tryd.func52, Tryd.ntmps52;go_wp2;go_ret3;exact ⟨by first | rfl | (rw [Hw.out]; rfl) | (simp [Hw.out]; done), Below.refl _ _⟩
set_option maxHeartbeats 4000000 in
set_option maxRecDepth 100000 in
theorem esc_47 (a0 : ByteArray) (w : World) (hn : 2 ≤ a0.size) (hc : bt a0 1 = 47) :
 Calls Tryd.prog 52 #[.string a0] w fun e w' => e = .returned (.tuple #[.int .i64 47, .int .i64 2, .int .i64 0]) ∧ Below w.heap.size w w' := by
 have e34 : ((bt a0 1) == 34) = false := beq_eq_false_iff_ne.mpr (by omega)
 have e92 : ((bt a0 1) == 92) = false := beq_eq_false_iff_ne.mpr (by omega)
 have e47 : ((bt a0 1) == 47) = true := beq_iff_eq.mpr hc;have q4 : (1 < a0.size) = True := eq_true (by omega)
 have qi4 : (1 < (a0.size : Int)) = True := eq_true (by omega)
 have hx4 : ∀ h : 1 < a0.size, ((a0[1]'h).toNat : Int) = bt a0 1 := bt_at a0 1;have d0 : decide ((a0.size : Int) < 2) = false := decide_eq_false (by omega)
 have d1 : decide (a0.size < 2) = false := decide_eq_false (by omega)
 have hw : wrap64 (bt a0 1) = 47 := by rw [hc]; unfold wrap64; omega
 have Hw := Aside0.mk hw;clear hw hc hn;go_enter Tryd.func52, Tryd.ntmps52;go_wp2;go_ret3;exact ⟨by first | rfl | (rw [Hw.out]; rfl) | (simp [Hw.out]; done), Below.refl _ _⟩
theorem esc_key5 : Keyed Tryd.prog 5 := int_keyed Tryd.underlying5
theorem esc_at (c v : Int) (h : (c = 98 ∧ v = 8) ∨ (c = 102 ∧ v = 12) ∨ (c = 110 ∧ v = 10) ∨ (c = 114 ∧ v = 13) ∨ (c = 116 ∧ v = 9)) : escMap.atKey (.int .u8 c) (.lit (.int .i64 0)) = .lit (.int .i64 v) := by
 rcases h with ⟨rfl, rfl⟩ | ⟨rfl, rfl⟩ | ⟨rfl, rfl⟩ | ⟨rfl, rfl⟩ | ⟨rfl, rfl⟩ <;> rfl
theorem zero3 (w : World) : (zeroValue 3).run Tryd.prog w = .ok (.int .i64 0) w := by kernel_rfl
set_option maxHeartbeats 4000000 in
set_option maxRecDepth 100000 in
theorem esc_98 (a0 : ByteArray) (w : World) (hn : 2 ≤ a0.size) (hc : bt a0 1 = 98) :
 Calls Tryd.prog 52 #[.string a0] w fun e w' => e = .returned (.tuple #[.int .i64 8, .int .i64 2, .int .i64 0]) ∧ Below w.heap.size w w' := by
 have e34 : ((bt a0 1) == 34) = false := beq_eq_false_iff_ne.mpr (by omega)
 have e92 : ((bt a0 1) == 92) = false := beq_eq_false_iff_ne.mpr (by omega)
 have e47 : ((bt a0 1) == 47) = false := beq_eq_false_iff_ne.mpr (by omega)
 have e98 : ((bt a0 1) == 98) = true := beq_iff_eq.mpr hc;have q4 : (1 < a0.size) = True := eq_true (by omega)
 have qi4 : (1 < (a0.size : Int)) = True := eq_true (by omega)
 have hx4 : ∀ h : 1 < a0.size, ((a0[1]'h).toNat : Int) = bt a0 1 := bt_at a0 1;have d0 : decide ((a0.size : Int) < 2) = false := decide_eq_false (by omega)
 have d1 : decide (a0.size < 2) = false := decide_eq_false (by omega)
 have hmm := @run_makeMap Tryd.prog;have Hc := Aside0.mk hc;clear hc hn;have h0 := Aside0.mk (World.ownsMap_made (H := Unit) w Tryd.prog 5 (plainElem Tryd.prog 3));go_enter Tryd.func52, Tryd.ntmps52
 go_wp2_with (first | (refine insert_own _ (by rfl) (.tmp 28) (.const (.int .u8 98)) (.const (.int .i64 8)) 72 (by rfl) 5 3 esc_key5 Tryd.underlying72 (plainElem Tryd.prog 3) w.heap.size 0 _ (by rfl) h0.out (by unfold maxLen; omega) _ _ _ (by rfl) (by rfl) (keyOf_int_mk Tryd.underlying5 (by decide)) _ [] (plainElem_int Tryd.underlying3 (by decide)) ?_; intro w1 ho1 hg1; have h1 := Aside0.mk ho1; have g1 := Aside0.mk hg1; clear ho1 hg1) | (refine insert_own _ (by rfl) (.tmp 28) (.const (.int .u8 102)) (.const (.int .i64 12)) 72 (by rfl) 5 3 esc_key5 Tryd.underlying72 (plainElem Tryd.prog 3) w.heap.size 1 _ (by rfl) h1.out (by unfold maxLen; omega) _ _ _ (by rfl) (by rfl) (keyOf_int_mk Tryd.underlying5 (by decide)) _ [] (plainElem_int Tryd.underlying3 (by decide)) ?_; intro w2 ho2 hg2; have h2 := Aside0.mk ho2; have g2 := Aside0.mk hg2; clear ho2 hg2) | (refine insert_own _ (by rfl) (.tmp 28) (.const (.int .u8 110)) (.const (.int .i64 10)) 72 (by rfl) 5 3 esc_key5 Tryd.underlying72 (plainElem Tryd.prog 3) w.heap.size 2 _ (by rfl) h2.out (by unfold maxLen; omega) _ _ _ (by rfl) (by rfl) (keyOf_int_mk Tryd.underlying5 (by decide)) _ [] (plainElem_int Tryd.underlying3 (by decide)) ?_; intro w3 ho3 hg3; have h3 := Aside0.mk ho3; have g3 := Aside0.mk hg3; clear ho3 hg3) | (refine insert_own _ (by rfl) (.tmp 28) (.const (.int .u8 114)) (.const (.int .i64 13)) 72 (by rfl) 5 3 esc_key5 Tryd.underlying72 (plainElem Tryd.prog 3) w.heap.size 3 _ (by rfl) h3.out (by unfold maxLen; omega) _ _ _ (by rfl) (by rfl) (keyOf_int_mk Tryd.underlying5 (by decide)) _ [] (plainElem_int Tryd.underlying3 (by decide)) ?_; intro w4 ho4 hg4; have h4 := Aside0.mk ho4; have g4 := Aside0.mk hg4; clear ho4 hg4) | (refine insert_own _ (by rfl) (.tmp 28) (.const (.int .u8 116)) (.const (.int .i64 9)) 72 (by rfl) 5 3 esc_key5 Tryd.underlying72 (plainElem Tryd.prog 3) w.heap.size 4 _ (by rfl) h4.out (by unfold maxLen; omega) _ _ _ (by rfl) (by rfl) (keyOf_int_mk Tryd.underlying5 (by decide)) _ [] (plainElem_int Tryd.underlying3 (by decide)) ?_; intro w5 ho5 hg5; have h5 := Aside0.mk ho5; have g5 := Aside0.mk hg5; clear ho5 hg5) | (at_lookup; refine wpList_lookup_own_int _ (by rfl) (.tmp 29) (.tmp 31) 72 (by rfl) 5 3 .i64 esc_key5 Tryd.underlying72 Tryd.underlying3 (zero3 _) w.heap.size 5 _ (by rfl) h5.out (.int .u8 98) _ (by show Value.int .u8 (bt a0 1) = _; rw [Hc.out]) (keyOf_int_mk Tryd.underlying5 (by decide)) ?_; intro cv hat hwc; have Hat := Aside0.mk hat; clear hat hwc))
 go_ret3;have hv : cv = 8 := by
  have h : escMap.atKey (.int .u8 98) (.lit (.int .i64 0)) = .lit (.int .i64 cv) := Hat.out;rw [esc_at 98 8 (by omega)] at h
  simpa using h.symm
 subst hv;have b0 := (Below.refl w.heap.size w).alloc (Nat.le_refl _) (.map #[] 0);have b1 := b0.grown g1.out b0.size (by simp)
 have b2 := b1.grown g2.out b1.size (by simp)
 have b3 := b2.grown g3.out b2.size (by simp)
 have b4 := b3.grown g4.out b3.size (by simp)
 have b5 := b4.grown g5.out b4.size (by simp)
 exact ⟨rfl, b5⟩
set_option maxHeartbeats 4000000 in
set_option maxRecDepth 100000 in
theorem esc_102 (a0 : ByteArray) (w : World) (hn : 2 ≤ a0.size) (hc : bt a0 1 = 102) :
 Calls Tryd.prog 52 #[.string a0] w fun e w' => e = .returned (.tuple #[.int .i64 12, .int .i64 2, .int .i64 0]) ∧ Below w.heap.size w w' := by
 have e34 : ((bt a0 1) == 34) = false := beq_eq_false_iff_ne.mpr (by omega)
 have e92 : ((bt a0 1) == 92) = false := beq_eq_false_iff_ne.mpr (by omega)
 have e47 : ((bt a0 1) == 47) = false := beq_eq_false_iff_ne.mpr (by omega)
 have e98 : ((bt a0 1) == 98) = false := beq_eq_false_iff_ne.mpr (by omega)
 have e102 : ((bt a0 1) == 102) = true := beq_iff_eq.mpr hc;have q4 : (1 < a0.size) = True := eq_true (by omega)
 have qi4 : (1 < (a0.size : Int)) = True := eq_true (by omega)
 have hx4 : ∀ h : 1 < a0.size, ((a0[1]'h).toNat : Int) = bt a0 1 := bt_at a0 1;have d0 : decide ((a0.size : Int) < 2) = false := decide_eq_false (by omega)
 have d1 : decide (a0.size < 2) = false := decide_eq_false (by omega)
 have hmm := @run_makeMap Tryd.prog;have Hc := Aside0.mk hc;clear hc hn;have h0 := Aside0.mk (World.ownsMap_made (H := Unit) w Tryd.prog 5 (plainElem Tryd.prog 3));go_enter Tryd.func52, Tryd.ntmps52
 go_wp2_with (first | (refine insert_own _ (by rfl) (.tmp 28) (.const (.int .u8 98)) (.const (.int .i64 8)) 72 (by rfl) 5 3 esc_key5 Tryd.underlying72 (plainElem Tryd.prog 3) w.heap.size 0 _ (by rfl) h0.out (by unfold maxLen; omega) _ _ _ (by rfl) (by rfl) (keyOf_int_mk Tryd.underlying5 (by decide)) _ [] (plainElem_int Tryd.underlying3 (by decide)) ?_; intro w1 ho1 hg1; have h1 := Aside0.mk ho1; have g1 := Aside0.mk hg1; clear ho1 hg1) | (refine insert_own _ (by rfl) (.tmp 28) (.const (.int .u8 102)) (.const (.int .i64 12)) 72 (by rfl) 5 3 esc_key5 Tryd.underlying72 (plainElem Tryd.prog 3) w.heap.size 1 _ (by rfl) h1.out (by unfold maxLen; omega) _ _ _ (by rfl) (by rfl) (keyOf_int_mk Tryd.underlying5 (by decide)) _ [] (plainElem_int Tryd.underlying3 (by decide)) ?_; intro w2 ho2 hg2; have h2 := Aside0.mk ho2; have g2 := Aside0.mk hg2; clear ho2 hg2) | (refine insert_own _ (by rfl) (.tmp 28) (.const (.int .u8 110)) (.const (.int .i64 10)) 72 (by rfl) 5 3 esc_key5 Tryd.underlying72 (plainElem Tryd.prog 3) w.heap.size 2 _ (by rfl) h2.out (by unfold maxLen; omega) _ _ _ (by rfl) (by rfl) (keyOf_int_mk Tryd.underlying5 (by decide)) _ [] (plainElem_int Tryd.underlying3 (by decide)) ?_; intro w3 ho3 hg3; have h3 := Aside0.mk ho3; have g3 := Aside0.mk hg3; clear ho3 hg3) | (refine insert_own _ (by rfl) (.tmp 28) (.const (.int .u8 114)) (.const (.int .i64 13)) 72 (by rfl) 5 3 esc_key5 Tryd.underlying72 (plainElem Tryd.prog 3) w.heap.size 3 _ (by rfl) h3.out (by unfold maxLen; omega) _ _ _ (by rfl) (by rfl) (keyOf_int_mk Tryd.underlying5 (by decide)) _ [] (plainElem_int Tryd.underlying3 (by decide)) ?_; intro w4 ho4 hg4; have h4 := Aside0.mk ho4; have g4 := Aside0.mk hg4; clear ho4 hg4) | (refine insert_own _ (by rfl) (.tmp 28) (.const (.int .u8 116)) (.const (.int .i64 9)) 72 (by rfl) 5 3 esc_key5 Tryd.underlying72 (plainElem Tryd.prog 3) w.heap.size 4 _ (by rfl) h4.out (by unfold maxLen; omega) _ _ _ (by rfl) (by rfl) (keyOf_int_mk Tryd.underlying5 (by decide)) _ [] (plainElem_int Tryd.underlying3 (by decide)) ?_; intro w5 ho5 hg5; have h5 := Aside0.mk ho5; have g5 := Aside0.mk hg5; clear ho5 hg5) | (at_lookup; refine wpList_lookup_own_int _ (by rfl) (.tmp 29) (.tmp 31) 72 (by rfl) 5 3 .i64 esc_key5 Tryd.underlying72 Tryd.underlying3 (zero3 _) w.heap.size 5 _ (by rfl) h5.out (.int .u8 102) _ (by show Value.int .u8 (bt a0 1) = _; rw [Hc.out]) (keyOf_int_mk Tryd.underlying5 (by decide)) ?_; intro cv hat hwc; have Hat := Aside0.mk hat; clear hat hwc))
 go_ret3;have hv : cv = 12 := by
  have h : escMap.atKey (.int .u8 102) (.lit (.int .i64 0)) = .lit (.int .i64 cv) := Hat.out;rw [esc_at 102 12 (by omega)] at h
  simpa using h.symm
 subst hv;have b0 := (Below.refl w.heap.size w).alloc (Nat.le_refl _) (.map #[] 0);have b1 := b0.grown g1.out b0.size (by simp)
 have b2 := b1.grown g2.out b1.size (by simp)
 have b3 := b2.grown g3.out b2.size (by simp)
 have b4 := b3.grown g4.out b3.size (by simp)
 have b5 := b4.grown g5.out b4.size (by simp)
 exact ⟨rfl, b5⟩
set_option maxHeartbeats 4000000 in
set_option maxRecDepth 100000 in
theorem esc_110 (a0 : ByteArray) (w : World) (hn : 2 ≤ a0.size) (hc : bt a0 1 = 110) :
 Calls Tryd.prog 52 #[.string a0] w fun e w' => e = .returned (.tuple #[.int .i64 10, .int .i64 2, .int .i64 0]) ∧ Below w.heap.size w w' := by
 have e34 : ((bt a0 1) == 34) = false := beq_eq_false_iff_ne.mpr (by omega)
 have e92 : ((bt a0 1) == 92) = false := beq_eq_false_iff_ne.mpr (by omega)
 have e47 : ((bt a0 1) == 47) = false := beq_eq_false_iff_ne.mpr (by omega)
 have e98 : ((bt a0 1) == 98) = false := beq_eq_false_iff_ne.mpr (by omega)
 have e102 : ((bt a0 1) == 102) = false := beq_eq_false_iff_ne.mpr (by omega)
 have e110 : ((bt a0 1) == 110) = true := beq_iff_eq.mpr hc;have q4 : (1 < a0.size) = True := eq_true (by omega)
 have qi4 : (1 < (a0.size : Int)) = True := eq_true (by omega)
 have hx4 : ∀ h : 1 < a0.size, ((a0[1]'h).toNat : Int) = bt a0 1 := bt_at a0 1;have d0 : decide ((a0.size : Int) < 2) = false := decide_eq_false (by omega)
 have d1 : decide (a0.size < 2) = false := decide_eq_false (by omega)
 have hmm := @run_makeMap Tryd.prog;have Hc := Aside0.mk hc;clear hc hn;have h0 := Aside0.mk (World.ownsMap_made (H := Unit) w Tryd.prog 5 (plainElem Tryd.prog 3));go_enter Tryd.func52, Tryd.ntmps52
 go_wp2_with (first | (refine insert_own _ (by rfl) (.tmp 28) (.const (.int .u8 98)) (.const (.int .i64 8)) 72 (by rfl) 5 3 esc_key5 Tryd.underlying72 (plainElem Tryd.prog 3) w.heap.size 0 _ (by rfl) h0.out (by unfold maxLen; omega) _ _ _ (by rfl) (by rfl) (keyOf_int_mk Tryd.underlying5 (by decide)) _ [] (plainElem_int Tryd.underlying3 (by decide)) ?_; intro w1 ho1 hg1; have h1 := Aside0.mk ho1; have g1 := Aside0.mk hg1; clear ho1 hg1) | (refine insert_own _ (by rfl) (.tmp 28) (.const (.int .u8 102)) (.const (.int .i64 12)) 72 (by rfl) 5 3 esc_key5 Tryd.underlying72 (plainElem Tryd.prog 3) w.heap.size 1 _ (by rfl) h1.out (by unfold maxLen; omega) _ _ _ (by rfl) (by rfl) (keyOf_int_mk Tryd.underlying5 (by decide)) _ [] (plainElem_int Tryd.underlying3 (by decide)) ?_; intro w2 ho2 hg2; have h2 := Aside0.mk ho2; have g2 := Aside0.mk hg2; clear ho2 hg2) | (refine insert_own _ (by rfl) (.tmp 28) (.const (.int .u8 110)) (.const (.int .i64 10)) 72 (by rfl) 5 3 esc_key5 Tryd.underlying72 (plainElem Tryd.prog 3) w.heap.size 2 _ (by rfl) h2.out (by unfold maxLen; omega) _ _ _ (by rfl) (by rfl) (keyOf_int_mk Tryd.underlying5 (by decide)) _ [] (plainElem_int Tryd.underlying3 (by decide)) ?_; intro w3 ho3 hg3; have h3 := Aside0.mk ho3; have g3 := Aside0.mk hg3; clear ho3 hg3) | (refine insert_own _ (by rfl) (.tmp 28) (.const (.int .u8 114)) (.const (.int .i64 13)) 72 (by rfl) 5 3 esc_key5 Tryd.underlying72 (plainElem Tryd.prog 3) w.heap.size 3 _ (by rfl) h3.out (by unfold maxLen; omega) _ _ _ (by rfl) (by rfl) (keyOf_int_mk Tryd.underlying5 (by decide)) _ [] (plainElem_int Tryd.underlying3 (by decide)) ?_; intro w4 ho4 hg4; have h4 := Aside0.mk ho4; have g4 := Aside0.mk hg4; clear ho4 hg4) | (refine insert_own _ (by rfl) (.tmp 28) (.const (.int .u8 116)) (.const (.int .i64 9)) 72 (by rfl) 5 3 esc_key5 Tryd.underlying72 (plainElem Tryd.prog 3) w.heap.size 4 _ (by rfl) h4.out (by unfold maxLen; omega) _ _ _ (by rfl) (by rfl) (keyOf_int_mk Tryd.underlying5 (by decide)) _ [] (plainElem_int Tryd.underlying3 (by decide)) ?_; intro w5 ho5 hg5; have h5 := Aside0.mk ho5; have g5 := Aside0.mk hg5; clear ho5 hg5) | (at_lookup; refine wpList_lookup_own_int _ (by rfl) (.tmp 29) (.tmp 31) 72 (by rfl) 5 3 .i64 esc_key5 Tryd.underlying72 Tryd.underlying3 (zero3 _) w.heap.size 5 _ (by rfl) h5.out (.int .u8 110) _ (by show Value.int .u8 (bt a0 1) = _; rw [Hc.out]) (keyOf_int_mk Tryd.underlying5 (by decide)) ?_; intro cv hat hwc; have Hat := Aside0.mk hat; clear hat hwc))
 go_ret3;have hv : cv = 10 := by
  have h : escMap.atKey (.int .u8 110) (.lit (.int .i64 0)) = .lit (.int .i64 cv) := Hat.out;rw [esc_at 110 10 (by omega)] at h
  simpa using h.symm
 subst hv;have b0 := (Below.refl w.heap.size w).alloc (Nat.le_refl _) (.map #[] 0);have b1 := b0.grown g1.out b0.size (by simp)
 have b2 := b1.grown g2.out b1.size (by simp)
 have b3 := b2.grown g3.out b2.size (by simp)
 have b4 := b3.grown g4.out b3.size (by simp)
 have b5 := b4.grown g5.out b4.size (by simp)
 exact ⟨rfl, b5⟩
set_option maxHeartbeats 4000000 in
set_option maxRecDepth 100000 in
theorem esc_114 (a0 : ByteArray) (w : World) (hn : 2 ≤ a0.size) (hc : bt a0 1 = 114) :
 Calls Tryd.prog 52 #[.string a0] w fun e w' => e = .returned (.tuple #[.int .i64 13, .int .i64 2, .int .i64 0]) ∧ Below w.heap.size w w' := by
 have e34 : ((bt a0 1) == 34) = false := beq_eq_false_iff_ne.mpr (by omega)
 have e92 : ((bt a0 1) == 92) = false := beq_eq_false_iff_ne.mpr (by omega)
 have e47 : ((bt a0 1) == 47) = false := beq_eq_false_iff_ne.mpr (by omega)
 have e98 : ((bt a0 1) == 98) = false := beq_eq_false_iff_ne.mpr (by omega)
 have e102 : ((bt a0 1) == 102) = false := beq_eq_false_iff_ne.mpr (by omega)
 have e110 : ((bt a0 1) == 110) = false := beq_eq_false_iff_ne.mpr (by omega)
 have e114 : ((bt a0 1) == 114) = true := beq_iff_eq.mpr hc;have q4 : (1 < a0.size) = True := eq_true (by omega)
 have qi4 : (1 < (a0.size : Int)) = True := eq_true (by omega)
 have hx4 : ∀ h : 1 < a0.size, ((a0[1]'h).toNat : Int) = bt a0 1 := bt_at a0 1;have d0 : decide ((a0.size : Int) < 2) = false := decide_eq_false (by omega)
 have d1 : decide (a0.size < 2) = false := decide_eq_false (by omega)
 have hmm := @run_makeMap Tryd.prog;have Hc := Aside0.mk hc;clear hc hn;have h0 := Aside0.mk (World.ownsMap_made (H := Unit) w Tryd.prog 5 (plainElem Tryd.prog 3));go_enter Tryd.func52, Tryd.ntmps52
 go_wp2_with (first | (refine insert_own _ (by rfl) (.tmp 28) (.const (.int .u8 98)) (.const (.int .i64 8)) 72 (by rfl) 5 3 esc_key5 Tryd.underlying72 (plainElem Tryd.prog 3) w.heap.size 0 _ (by rfl) h0.out (by unfold maxLen; omega) _ _ _ (by rfl) (by rfl) (keyOf_int_mk Tryd.underlying5 (by decide)) _ [] (plainElem_int Tryd.underlying3 (by decide)) ?_; intro w1 ho1 hg1; have h1 := Aside0.mk ho1; have g1 := Aside0.mk hg1; clear ho1 hg1) | (refine insert_own _ (by rfl) (.tmp 28) (.const (.int .u8 102)) (.const (.int .i64 12)) 72 (by rfl) 5 3 esc_key5 Tryd.underlying72 (plainElem Tryd.prog 3) w.heap.size 1 _ (by rfl) h1.out (by unfold maxLen; omega) _ _ _ (by rfl) (by rfl) (keyOf_int_mk Tryd.underlying5 (by decide)) _ [] (plainElem_int Tryd.underlying3 (by decide)) ?_; intro w2 ho2 hg2; have h2 := Aside0.mk ho2; have g2 := Aside0.mk hg2; clear ho2 hg2) | (refine insert_own _ (by rfl) (.tmp 28) (.const (.int .u8 110)) (.const (.int .i64 10)) 72 (by rfl) 5 3 esc_key5 Tryd.underlying72 (plainElem Tryd.prog 3) w.heap.size 2 _ (by rfl) h2.out (by unfold maxLen; omega) _ _ _ (by rfl) (by rfl) (keyOf_int_mk Tryd.underlying5 (by decide)) _ [] (plainElem_int Tryd.underlying3 (by decide)) ?_; intro w3 ho3 hg3; have h3 := Aside0.mk ho3; have g3 := Aside0.mk hg3; clear ho3 hg3) | (refine insert_own _ (by rfl) (.tmp 28) (.const (.int .u8 114)) (.const (.int .i64 13)) 72 (by rfl) 5 3 esc_key5 Tryd.underlying72 (plainElem Tryd.prog 3) w.heap.size 3 _ (by rfl) h3.out (by unfold maxLen; omega) _ _ _ (by rfl) (by rfl) (keyOf_int_mk Tryd.underlying5 (by decide)) _ [] (plainElem_int Tryd.underlying3 (by decide)) ?_; intro w4 ho4 hg4; have h4 := Aside0.mk ho4; have g4 := Aside0.mk hg4; clear ho4 hg4) | (refine insert_own _ (by rfl) (.tmp 28) (.const (.int .u8 116)) (.const (.int .i64 9)) 72 (by rfl) 5 3 esc_key5 Tryd.underlying72 (plainElem Tryd.prog 3) w.heap.size 4 _ (by rfl) h4.out (by unfold maxLen; omega) _ _ _ (by rfl) (by rfl) (keyOf_int_mk Tryd.underlying5 (by decide)) _ [] (plainElem_int Tryd.underlying3 (by decide)) ?_; intro w5 ho5 hg5; have h5 := Aside0.mk ho5; have g5 := Aside0.mk hg5; clear ho5 hg5) | (at_lookup; refine wpList_lookup_own_int _ (by rfl) (.tmp 29) (.tmp 31) 72 (by rfl) 5 3 .i64 esc_key5 Tryd.underlying72 Tryd.underlying3 (zero3 _) w.heap.size 5 _ (by rfl) h5.out (.int .u8 114) _ (by show Value.int .u8 (bt a0 1) = _; rw [Hc.out]) (keyOf_int_mk Tryd.underlying5 (by decide)) ?_; intro cv hat hwc; have Hat := Aside0.mk hat; clear hat hwc))
 go_ret3;have hv : cv = 13 := by
  have h : escMap.atKey (.int .u8 114) (.lit (.int .i64 0)) = .lit (.int .i64 cv) := Hat.out;rw [esc_at 114 13 (by omega)] at h
  simpa using h.symm
 subst hv;have b0 := (Below.refl w.heap.size w).alloc (Nat.le_refl _) (.map #[] 0);have b1 := b0.grown g1.out b0.size (by simp)
 have b2 := b1.grown g2.out b1.size (by simp)
 have b3 := b2.grown g3.out b2.size (by simp)
 have b4 := b3.grown g4.out b3.size (by simp)
 have b5 := b4.grown g5.out b4.size (by simp)
 exact ⟨rfl, b5⟩
set_option maxHeartbeats 4000000 in
set_option maxRecDepth 100000 in
theorem esc_116 (a0 : ByteArray) (w : World) (hn : 2 ≤ a0.size) (hc : bt a0 1 = 116) :
 Calls Tryd.prog 52 #[.string a0] w fun e w' => e = .returned (.tuple #[.int .i64 9, .int .i64 2, .int .i64 0]) ∧ Below w.heap.size w w' := by
 have e34 : ((bt a0 1) == 34) = false := beq_eq_false_iff_ne.mpr (by omega)
 have e92 : ((bt a0 1) == 92) = false := beq_eq_false_iff_ne.mpr (by omega)
 have e47 : ((bt a0 1) == 47) = false := beq_eq_false_iff_ne.mpr (by omega)
 have e98 : ((bt a0 1) == 98) = false := beq_eq_false_iff_ne.mpr (by omega)
 have e102 : ((bt a0 1) == 102) = false := beq_eq_false_iff_ne.mpr (by omega)
 have e110 : ((bt a0 1) == 110) = false := beq_eq_false_iff_ne.mpr (by omega)
 have e114 : ((bt a0 1) == 114) = false := beq_eq_false_iff_ne.mpr (by omega)
 have e116 : ((bt a0 1) == 116) = true := beq_iff_eq.mpr hc;have q4 : (1 < a0.size) = True := eq_true (by omega)
 have qi4 : (1 < (a0.size : Int)) = True := eq_true (by omega)
 have hx4 : ∀ h : 1 < a0.size, ((a0[1]'h).toNat : Int) = bt a0 1 := bt_at a0 1;have d0 : decide ((a0.size : Int) < 2) = false := decide_eq_false (by omega)
 have d1 : decide (a0.size < 2) = false := decide_eq_false (by omega)
 have hmm := @run_makeMap Tryd.prog;have Hc := Aside0.mk hc;clear hc hn;have h0 := Aside0.mk (World.ownsMap_made (H := Unit) w Tryd.prog 5 (plainElem Tryd.prog 3));go_enter Tryd.func52, Tryd.ntmps52
 go_wp2_with (first | (refine insert_own _ (by rfl) (.tmp 28) (.const (.int .u8 98)) (.const (.int .i64 8)) 72 (by rfl) 5 3 esc_key5 Tryd.underlying72 (plainElem Tryd.prog 3) w.heap.size 0 _ (by rfl) h0.out (by unfold maxLen; omega) _ _ _ (by rfl) (by rfl) (keyOf_int_mk Tryd.underlying5 (by decide)) _ [] (plainElem_int Tryd.underlying3 (by decide)) ?_; intro w1 ho1 hg1; have h1 := Aside0.mk ho1; have g1 := Aside0.mk hg1; clear ho1 hg1) | (refine insert_own _ (by rfl) (.tmp 28) (.const (.int .u8 102)) (.const (.int .i64 12)) 72 (by rfl) 5 3 esc_key5 Tryd.underlying72 (plainElem Tryd.prog 3) w.heap.size 1 _ (by rfl) h1.out (by unfold maxLen; omega) _ _ _ (by rfl) (by rfl) (keyOf_int_mk Tryd.underlying5 (by decide)) _ [] (plainElem_int Tryd.underlying3 (by decide)) ?_; intro w2 ho2 hg2; have h2 := Aside0.mk ho2; have g2 := Aside0.mk hg2; clear ho2 hg2) | (refine insert_own _ (by rfl) (.tmp 28) (.const (.int .u8 110)) (.const (.int .i64 10)) 72 (by rfl) 5 3 esc_key5 Tryd.underlying72 (plainElem Tryd.prog 3) w.heap.size 2 _ (by rfl) h2.out (by unfold maxLen; omega) _ _ _ (by rfl) (by rfl) (keyOf_int_mk Tryd.underlying5 (by decide)) _ [] (plainElem_int Tryd.underlying3 (by decide)) ?_; intro w3 ho3 hg3; have h3 := Aside0.mk ho3; have g3 := Aside0.mk hg3; clear ho3 hg3) | (refine insert_own _ (by rfl) (.tmp 28) (.const (.int .u8 114)) (.const (.int .i64 13)) 72 (by rfl) 5 3 esc_key5 Tryd.underlying72 (plainElem Tryd.prog 3) w.heap.size 3 _ (by rfl) h3.out (by unfold maxLen; omega) _ _ _ (by rfl) (by rfl) (keyOf_int_mk Tryd.underlying5 (by decide)) _ [] (plainElem_int Tryd.underlying3 (by decide)) ?_; intro w4 ho4 hg4; have h4 := Aside0.mk ho4; have g4 := Aside0.mk hg4; clear ho4 hg4) | (refine insert_own _ (by rfl) (.tmp 28) (.const (.int .u8 116)) (.const (.int .i64 9)) 72 (by rfl) 5 3 esc_key5 Tryd.underlying72 (plainElem Tryd.prog 3) w.heap.size 4 _ (by rfl) h4.out (by unfold maxLen; omega) _ _ _ (by rfl) (by rfl) (keyOf_int_mk Tryd.underlying5 (by decide)) _ [] (plainElem_int Tryd.underlying3 (by decide)) ?_; intro w5 ho5 hg5; have h5 := Aside0.mk ho5; have g5 := Aside0.mk hg5; clear ho5 hg5) | (at_lookup; refine wpList_lookup_own_int _ (by rfl) (.tmp 29) (.tmp 31) 72 (by rfl) 5 3 .i64 esc_key5 Tryd.underlying72 Tryd.underlying3 (zero3 _) w.heap.size 5 _ (by rfl) h5.out (.int .u8 116) _ (by show Value.int .u8 (bt a0 1) = _; rw [Hc.out]) (keyOf_int_mk Tryd.underlying5 (by decide)) ?_; intro cv hat hwc; have Hat := Aside0.mk hat; clear hat hwc))
 go_ret3;have hv : cv = 9 := by
  have h : escMap.atKey (.int .u8 116) (.lit (.int .i64 0)) = .lit (.int .i64 cv) := Hat.out;rw [esc_at 116 9 (by omega)] at h
  simpa using h.symm
 subst hv;have b0 := (Below.refl w.heap.size w).alloc (Nat.le_refl _) (.map #[] 0);have b1 := b0.grown g1.out b0.size (by simp)
 have b2 := b1.grown g2.out b1.size (by simp)
 have b3 := b2.grown g3.out b2.size (by simp)
 have b4 := b3.grown g4.out b3.size (by simp)
 have b5 := b4.grown g5.out b4.size (by simp)
 exact ⟨rfl, b5⟩
set_option maxHeartbeats 4000000 in
set_option maxRecDepth 100000 in
theorem esc_else (a0 : ByteArray) (w : World) (hn : 2 ≤ a0.size) (n34 : bt a0 1 ≠ 34) (n92 : bt a0 1 ≠ 92) (n47 : bt a0 1 ≠ 47) (n98 : bt a0 1 ≠ 98) (n102 : bt a0 1 ≠ 102) (n110 : bt a0 1 ≠ 110) (n114 : bt a0 1 ≠ 114) (n116 : bt a0 1 ≠ 116) (n117 : bt a0 1 ≠ 117) :
 Calls Tryd.prog 52 #[.string a0] w fun e w' => e = .returned (.tuple #[.int .i64 0, .int .i64 0, .int .i64 4]) ∧ Below w.heap.size w w' := by
 have e34 : ((bt a0 1) == 34) = false := beq_eq_false_iff_ne.mpr n34;have e92 : ((bt a0 1) == 92) = false := beq_eq_false_iff_ne.mpr n92;have e47 : ((bt a0 1) == 47) = false := beq_eq_false_iff_ne.mpr n47;have e98 : ((bt a0 1) == 98) = false := beq_eq_false_iff_ne.mpr n98;have e102 : ((bt a0 1) == 102) = false := beq_eq_false_iff_ne.mpr n102;have e110 : ((bt a0 1) == 110) = false := beq_eq_false_iff_ne.mpr n110;have e114 : ((bt a0 1) == 114) = false := beq_eq_false_iff_ne.mpr n114;have e116 : ((bt a0 1) == 116) = false := beq_eq_false_iff_ne.mpr n116
 have e117 : ((bt a0 1) == 117) = false := beq_eq_false_iff_ne.mpr n117;have q4 : (1 < a0.size) = True := eq_true (by omega)
 have qi4 : (1 < (a0.size : Int)) = True := eq_true (by omega)
 have hx4 : ∀ h : 1 < a0.size, ((a0[1]'h).toNat : Int) = bt a0 1 := bt_at a0 1;have d0 : decide ((a0.size : Int) < 2) = false := decide_eq_false (by omega)
 have d1 : decide (a0.size < 2) = false := decide_eq_false (by omega)
 clear hn n34 n92 n47 n98 n102 n110 n114 n116 n117;go_enter Tryd.func52, Tryd.ntmps52;go_wp2;go_ret3;exact ⟨rfl, Below.refl _ _⟩
set_option maxHeartbeats 4000000 in
set_option maxRecDepth 100000 in
theorem esc_u_err (k : Nat) (a0 : ByteArray) (x er : Int) (w : World) (hn : 2 ≤ a0.size) (hc : bt a0 1 = 117) (hA : jx_four.f k (a0.extract 2 a0.size) false = some (x, er)) (he : er ≠ 0) :
 Calls Tryd.prog 52 #[.string a0] w fun e w' => e = .returned (.tuple #[.int .i64 0, .int .i64 0, .int .i64 er]) ∧ Below w.heap.size w w' := by
 have e34 : ((bt a0 1) == 34) = false := beq_eq_false_iff_ne.mpr (by omega)
 have e92 : ((bt a0 1) == 92) = false := beq_eq_false_iff_ne.mpr (by omega)
 have e47 : ((bt a0 1) == 47) = false := beq_eq_false_iff_ne.mpr (by omega)
 have e98 : ((bt a0 1) == 98) = false := beq_eq_false_iff_ne.mpr (by omega)
 have e102 : ((bt a0 1) == 102) = false := beq_eq_false_iff_ne.mpr (by omega)
 have e110 : ((bt a0 1) == 110) = false := beq_eq_false_iff_ne.mpr (by omega)
 have e114 : ((bt a0 1) == 114) = false := beq_eq_false_iff_ne.mpr (by omega)
 have e116 : ((bt a0 1) == 116) = false := beq_eq_false_iff_ne.mpr (by omega)
 have e117 : ((bt a0 1) == 117) = true := beq_iff_eq.mpr hc;have q4 : (1 < a0.size) = True := eq_true (by omega)
 have qi4 : (1 < (a0.size : Int)) = True := eq_true (by omega)
 have hx4 : ∀ h : 1 < a0.size, ((a0[1]'h).toNat : Int) = bt a0 1 := bt_at a0 1;have d0 : decide ((a0.size : Int) < 2) = false := decide_eq_false (by omega)
 have d1 : decide (a0.size < 2) = false := decide_eq_false (by omega)
 have c18b0 : (2 ≤ (a0.size : Int)) = True := eq_true (by omega)
 have c18b1 : decide (2 ≤ (a0.size : Int)) = true := decide_eq_true (by omega)
 have A := Aside0.mk hA;have f0 : (er == 0) = false := beq_eq_false_iff_ne.mpr he;have f1 : (er != 0) = true := bne_iff_ne.mpr he;clear hc hn hA he;go_enter Tryd.func52, Tryd.ntmps52;go_wp2_with (first | (go_at_call 60; (with_reducible refine (jx_four.calls k (a0.extract 2 a0.size) false x er _ A.out).mono ?_); rintro e_ w' ⟨rfl, ⟨nd, rfl⟩⟩))
 go_ret3;exact ⟨rfl, by repeat (first | exact Below.refl _ _ | apply pw_below_drewN | apply below_drew1 | apply below_alloc)⟩
set_option maxHeartbeats 4000000 in
set_option maxRecDepth 100000 in
theorem esc_u_lo (k : Nat) (a0 : ByteArray) (x er : Int) (w : World) (hn : 2 ≤ a0.size) (hc : bt a0 1 = 117) (hA : jx_four.f k (a0.extract 2 a0.size) false = some (x, er)) (he : er = 0) (hx : x < 55296) :
 Calls Tryd.prog 52 #[.string a0] w fun e w' => e = .returned (.tuple #[.int .i64 x, .int .i64 6, .int .i64 0]) ∧ Below w.heap.size w w' := by
 have e34 : ((bt a0 1) == 34) = false := beq_eq_false_iff_ne.mpr (by omega)
 have e92 : ((bt a0 1) == 92) = false := beq_eq_false_iff_ne.mpr (by omega)
 have e47 : ((bt a0 1) == 47) = false := beq_eq_false_iff_ne.mpr (by omega)
 have e98 : ((bt a0 1) == 98) = false := beq_eq_false_iff_ne.mpr (by omega)
 have e102 : ((bt a0 1) == 102) = false := beq_eq_false_iff_ne.mpr (by omega)
 have e110 : ((bt a0 1) == 110) = false := beq_eq_false_iff_ne.mpr (by omega)
 have e114 : ((bt a0 1) == 114) = false := beq_eq_false_iff_ne.mpr (by omega)
 have e116 : ((bt a0 1) == 116) = false := beq_eq_false_iff_ne.mpr (by omega)
 have e117 : ((bt a0 1) == 117) = true := beq_iff_eq.mpr hc;have q4 : (1 < a0.size) = True := eq_true (by omega)
 have qi4 : (1 < (a0.size : Int)) = True := eq_true (by omega)
 have hx4 : ∀ h : 1 < a0.size, ((a0[1]'h).toNat : Int) = bt a0 1 := bt_at a0 1;have d0 : decide ((a0.size : Int) < 2) = false := decide_eq_false (by omega)
 have d1 : decide (a0.size < 2) = false := decide_eq_false (by omega)
 have c18b0 : (2 ≤ (a0.size : Int)) = True := eq_true (by omega)
 have c18b1 : decide (2 ≤ (a0.size : Int)) = true := decide_eq_true (by omega)
 have A := Aside0.mk hA;have f0 : (er == 0) = true := beq_iff_eq.mpr he;have f1 : (er != 0) = false := bne_eq_false_iff_eq.mpr he;clear he;have f2 : decide (x < 55296) = true := decide_eq_true hx;clear hc hn hA hx;go_enter Tryd.func52, Tryd.ntmps52;go_wp2_with (first | (go_at_call 60; (with_reducible refine (jx_four.calls k (a0.extract 2 a0.size) false x er _ A.out).mono ?_); rintro e_ w' ⟨rfl, ⟨nd, rfl⟩⟩))
 go_ret3;exact ⟨rfl, by repeat (first | exact Below.refl _ _ | apply pw_below_drewN | apply below_drew1 | apply below_alloc)⟩
set_option maxHeartbeats 4000000 in
set_option maxRecDepth 100000 in
theorem esc_u_hi (k : Nat) (a0 : ByteArray) (x er : Int) (w : World) (hn : 2 ≤ a0.size) (hc : bt a0 1 = 117) (hA : jx_four.f k (a0.extract 2 a0.size) false = some (x, er)) (he : er = 0) (hx : 57344 ≤ x) :
 Calls Tryd.prog 52 #[.string a0] w fun e w' => e = .returned (.tuple #[.int .i64 x, .int .i64 6, .int .i64 0]) ∧ Below w.heap.size w w' := by
 have e34 : ((bt a0 1) == 34) = false := beq_eq_false_iff_ne.mpr (by omega)
 have e92 : ((bt a0 1) == 92) = false := beq_eq_false_iff_ne.mpr (by omega)
 have e47 : ((bt a0 1) == 47) = false := beq_eq_false_iff_ne.mpr (by omega)
 have e98 : ((bt a0 1) == 98) = false := beq_eq_false_iff_ne.mpr (by omega)
 have e102 : ((bt a0 1) == 102) = false := beq_eq_false_iff_ne.mpr (by omega)
 have e110 : ((bt a0 1) == 110) = false := beq_eq_false_iff_ne.mpr (by omega)
 have e114 : ((bt a0 1) == 114) = false := beq_eq_false_iff_ne.mpr (by omega)
 have e116 : ((bt a0 1) == 116) = false := beq_eq_false_iff_ne.mpr (by omega)
 have e117 : ((bt a0 1) == 117) = true := beq_iff_eq.mpr hc;have q4 : (1 < a0.size) = True := eq_true (by omega)
 have qi4 : (1 < (a0.size : Int)) = True := eq_true (by omega)
 have hx4 : ∀ h : 1 < a0.size, ((a0[1]'h).toNat : Int) = bt a0 1 := bt_at a0 1;have d0 : decide ((a0.size : Int) < 2) = false := decide_eq_false (by omega)
 have d1 : decide (a0.size < 2) = false := decide_eq_false (by omega)
 have c18b0 : (2 ≤ (a0.size : Int)) = True := eq_true (by omega)
 have c18b1 : decide (2 ≤ (a0.size : Int)) = true := decide_eq_true (by omega)
 have A := Aside0.mk hA;have f0 : (er == 0) = true := beq_iff_eq.mpr he;have f1 : (er != 0) = false := bne_eq_false_iff_eq.mpr he;clear he;have f2 : decide (x < 55296) = false := decide_eq_false (by omega)
 have f3 : decide (57344 ≤ x) = true := decide_eq_true hx;clear hc hn hA hx;go_enter Tryd.func52, Tryd.ntmps52;go_wp2_with (first | (go_at_call 60; (with_reducible refine (jx_four.calls k (a0.extract 2 a0.size) false x er _ A.out).mono ?_); rintro e_ w' ⟨rfl, ⟨nd, rfl⟩⟩))
 go_ret3;exact ⟨rfl, by repeat (first | exact Below.refl _ _ | apply pw_below_drewN | apply below_drew1 | apply below_alloc)⟩
/-- What is known at the head of a round of the loop over the two bytes. -/
def escRel (a0 : ByteArray) (v : Value) : Prop := (v = .int .i64 0) ∨ (v = .int .i64 1 ∧ bt a0 6 = 92 ∧ 7 ≤ a0.size) ∨ (v = .int .i64 2 ∧ bt a0 6 = 92 ∧ bt a0 7 = 117 ∧ 8 ≤ a0.size)
theorem low_6 {k : Nat} {a0 : ByteArray} {x r1 r2 r3 : Int} (h : jx_escape.low k a0 x = some (r1, r2, r3)) (hs : a0.size = 6) : r1 = 0 ∧ r2 = 0 ∧ r3 = 5 := by
 unfold jx_escape.low at h; rw [if_pos hs] at h; simp at h; omega
theorem low_92 {k : Nat} {a0 : ByteArray} {x r1 r2 r3 : Int} (h : jx_escape.low k a0 x = some (r1, r2, r3)) (hs : 7 ≤ a0.size) (hb : bt a0 6 ≠ 92) : r1 = 0 ∧ r2 = 0 ∧ r3 = 4 := by
 unfold jx_escape.low at h; rw [if_neg (by omega), if_neg (by omega), if_pos hb] at h; simp at h; omega
theorem low_7 {k : Nat} {a0 : ByteArray} {x r1 r2 r3 : Int} (h : jx_escape.low k a0 x = some (r1, r2, r3)) (hs : a0.size = 7) (hb : bt a0 6 = 92) : r1 = 0 ∧ r2 = 0 ∧ r3 = 5 := by
 unfold jx_escape.low at h; rw [if_neg (by omega), if_neg (by omega), if_neg (by simp [hb]), if_pos hs] at h; simp at h; omega
theorem low_117 {k : Nat} {a0 : ByteArray} {x r1 r2 r3 : Int} (h : jx_escape.low k a0 x = some (r1, r2, r3)) (hs : 8 ≤ a0.size) (hb : bt a0 6 = 92) (hc : bt a0 7 ≠ 117) : r1 = 0 ∧ r2 = 0 ∧ r3 = 4 := by
 unfold jx_escape.low at h; rw [if_neg (by omega), if_neg (by omega), if_neg (by simp [hb]), if_neg (by omega), if_pos hc] at h; simp at h; omega
theorem low_go {k : Nat} {a0 : ByteArray} {x r1 r2 r3 : Int} (h : jx_escape.low k a0 x = some (r1, r2, r3)) (hs : 8 ≤ a0.size) (hb : bt a0 6 = 92) (hc : bt a0 7 = 117) : ∃ y e2, jx_four.f k (a0.extract 8 a0.size) true = some (y, e2) ∧ jx_escape.tail a0 x (y, e2) = (r1, r2, r3) := by
 unfold jx_escape.low at h; rw [if_neg (by omega), if_neg (by omega), if_neg (by simp [hb]), if_neg (by omega), if_neg (by simp [hc])] at h
 obtain ⟨⟨y, e2⟩, h1, h2⟩ := Option.bind_eq_some_iff.mp h;exact ⟨y, e2, h1, Option.some.inj h2⟩
set_option maxHeartbeats 4000000 in
set_option maxRecDepth 100000 in
theorem esc_pair (k : Nat) (a0 : ByteArray) (x er r1 r2 r3 : Int) (w : World) (hn : 2 ≤ a0.size) (hc : bt a0 1 = 117) (hA : jx_four.f k (a0.extract 2 a0.size) false = some (x, er)) (he : er = 0) (hx : 55296 ≤ x ∧ x < 57344) (hs : 6 ≤ a0.size) (hr : jx_escape.low k a0 x = some (r1, r2, r3)) :
 Calls Tryd.prog 52 #[.string a0] w fun e w' => e = .returned (.tuple #[.int .i64 r1, .int .i64 r2, .int .i64 r3]) ∧ Below w.heap.size w w' := by
 have e34 : ((bt a0 1) == 34) = false := beq_eq_false_iff_ne.mpr (by omega)
 have e92 : ((bt a0 1) == 92) = false := beq_eq_false_iff_ne.mpr (by omega)
 have e47 : ((bt a0 1) == 47) = false := beq_eq_false_iff_ne.mpr (by omega)
 have e98 : ((bt a0 1) == 98) = false := beq_eq_false_iff_ne.mpr (by omega)
 have e102 : ((bt a0 1) == 102) = false := beq_eq_false_iff_ne.mpr (by omega)
 have e110 : ((bt a0 1) == 110) = false := beq_eq_false_iff_ne.mpr (by omega)
 have e114 : ((bt a0 1) == 114) = false := beq_eq_false_iff_ne.mpr (by omega)
 have e116 : ((bt a0 1) == 116) = false := beq_eq_false_iff_ne.mpr (by omega)
 have e117 : ((bt a0 1) == 117) = true := beq_iff_eq.mpr hc;have q4 : (1 < a0.size) = True := eq_true (by omega)
 have qi4 : (1 < (a0.size : Int)) = True := eq_true (by omega)
 have hx4 : ∀ h : 1 < a0.size, ((a0[1]'h).toNat : Int) = bt a0 1 := bt_at a0 1;have d0 : decide ((a0.size : Int) < 2) = false := decide_eq_false (by omega)
 have d1 : decide (a0.size < 2) = false := decide_eq_false (by omega)
 have c18b0 : (2 ≤ (a0.size : Int)) = True := eq_true (by omega)
 have c18b1 : decide (2 ≤ (a0.size : Int)) = true := decide_eq_true (by omega)
 have A := Aside0.mk hA;have f0 : (er == 0) = true := beq_iff_eq.mpr he;have f1 : (er != 0) = false := bne_eq_false_iff_eq.mpr he;clear he;have f2 : decide (x < 55296) = false := decide_eq_false (by omega)
 have f3 : decide (57344 ≤ x) = false := decide_eq_false (by omega)
 have kc : ∀ (nd : Nat) (C : Array Value) (n c : Nat), (convert 24 24 (.slice (some ⟨w.heap.size, 0, none⟩) n c)).run Tryd.prog ((w.drewN nd).alloc (.cells C 5)) = .ok (.slice (some ⟨w.heap.size, 0, none⟩) n c) ((w.drewN nd).alloc (.cells C 5 (C.size, C.size + 1))) := fun nd C n c => Lib.run_convert_bytes_const (P := Tryd.prog) (w.drewN nd) 24 5 C n c Tryd.underlying24 Tryd.underlying5
 have Hr := Aside0.mk hr;have Hs := Aside0.mk hs;have Hx := Aside0.mk hx;clear hc hn hA hr hs hx;go_enter Tryd.func52, Tryd.ntmps52;go_wp2_with (first | (go_at_call 60; (with_reducible refine (jx_four.calls k (a0.extract 2 a0.size) false x er _ A.out).mono ?_); rintro e_ w' ⟨rfl, ⟨nd, rfl⟩⟩))
 clear kc;have HBel := Aside0.mk (show Below w.heap.size w ((w.drewN nd).alloc (Obj.cells #[.int .u8 92, .int .u8 117] 5 (2, 3))) from by repeat (first | exact Below.refl _ _ | apply pw_below_drewN | apply below_drew1 | apply below_alloc))
 have hcl0 : ((w.drewN nd).alloc (Obj.cells #[.int .u8 92, .int .u8 117] 5 (2, 3))).cell? ⟨w.heap.size, 0, none⟩ = some (.int .u8 92) := by
  show (match ((w.drewN nd).heap.push (Obj.cells #[.int .u8 92, .int .u8 117] 5 (2, 3)))[(w.drewN nd).heap.size]? with | some (Obj.cells cs _ _) => cs[0]? | _ => none) = _
  simp
 have hcl1 : ((w.drewN nd).alloc (Obj.cells #[.int .u8 92, .int .u8 117] 5 (2, 3))).cell? ⟨w.heap.size, 1, none⟩ = some (.int .u8 117) := by
  show (match ((w.drewN nd).heap.push (Obj.cells #[.int .u8 92, .int .u8 117] 5 (2, 3)))[(w.drewN nd).heap.size]? with | some (Obj.cells cs _ _) => cs[1]? | _ => none) = _
  simp
 generalize (w.drewN nd).alloc (Obj.cells #[.int .u8 92, .int .u8 117] 5 (2, 3)) = W1 at *;go_loop [56] (fun v => escRel a0 v) (fun v => 2 - (intOf v).toNat)
 case atStart => exact .inl rfl
 case round =>
  rcases hrel with rfl | ⟨rfl, h92, h7⟩ | ⟨rfl, h92, h117, h8⟩
  ·by_cases s6 : a0.size = 6
   ·obtain ⟨rfl, rfl, rfl⟩ := low_6 Hr.out s6;have g0 : ((a0.size : Int) == 6) = true := beq_iff_eq.mpr (by omega)
    have g1 : ((a0.size : Int) != 6) = false := bne_eq_false_iff_eq.mpr (by omega)
    clear s6;go_wp2;go_ret3;exact ⟨rfl, HBel.out⟩
   ·have s7 : 7 ≤ a0.size := by have := Hs.out; omega
    have g0 : ((a0.size : Int) == 6) = false := beq_eq_false_iff_ne.mpr (by omega)
    have g1 : ((a0.size : Int) != 6) = true := bne_iff_ne.mpr (by omega)
    have q6 : (6 < a0.size) = True := eq_true (by omega)
    have qi6 : (6 < (a0.size : Int)) = True := eq_true (by omega)
    have hx6 : ∀ h : 6 < a0.size, ((a0[6]'h).toNat : Int) = bt a0 6 := bt_at a0 6;by_cases h92 : bt a0 6 = 92
    ·have H92 := Aside0.mk h92;have S7 := Aside0.mk s7;have b0 : ((bt a0 6) == 92) = true := beq_iff_eq.mpr h92;have b1 : ((bt a0 6) != 92) = false := bne_eq_false_iff_eq.mpr h92;clear h92 s6 s7;go_wp2;go_round
     case rel => exact .inr (.inl ⟨rfl, H92.out, S7.out⟩)
     case measure => simp [intOf]
    ·obtain ⟨rfl, rfl, rfl⟩ := low_92 Hr.out s7 h92;have b0 : ((bt a0 6) == 92) = false := beq_eq_false_iff_ne.mpr h92;have b1 : ((bt a0 6) != 92) = true := bne_iff_ne.mpr h92;clear h92 s6 s7;go_wp2;go_ret3;exact ⟨rfl, HBel.out⟩
  ·by_cases s7 : a0.size = 7
   ·obtain ⟨rfl, rfl, rfl⟩ := low_7 Hr.out s7 h92;have g0 : ((a0.size : Int) == 7) = true := beq_iff_eq.mpr (by omega)
    have g1 : ((a0.size : Int) != 7) = false := bne_eq_false_iff_eq.mpr (by omega)
    clear s7 h92 h7;go_wp2;go_ret3;exact ⟨rfl, HBel.out⟩
   ·have s8 : 8 ≤ a0.size := by omega
    have g0 : ((a0.size : Int) == 7) = false := beq_eq_false_iff_ne.mpr (by omega)
    have g1 : ((a0.size : Int) != 7) = true := bne_iff_ne.mpr (by omega)
    have q7 : (7 < a0.size) = True := eq_true (by omega)
    have qi7 : (7 < (a0.size : Int)) = True := eq_true (by omega)
    have hx7 : ∀ h : 7 < a0.size, ((a0[7]'h).toNat : Int) = bt a0 7 := bt_at a0 7;by_cases h117 : bt a0 7 = 117
    ·have H92 := Aside0.mk h92;have H117 := Aside0.mk h117;have S8 := Aside0.mk s8;have b0 : ((bt a0 7) == 117) = true := beq_iff_eq.mpr h117;have b1 : ((bt a0 7) != 117) = false := bne_eq_false_iff_eq.mpr h117;clear h92 h117 s7 s8 h7;go_wp2;go_round
     case rel => exact .inr (.inr ⟨rfl, H92.out, H117.out, S8.out⟩)
     case measure => simp [intOf]
    ·obtain ⟨rfl, rfl, rfl⟩ := low_117 Hr.out s8 h92 h117;have b0 : ((bt a0 7) == 117) = false := beq_eq_false_iff_ne.mpr h117;have b1 : ((bt a0 7) != 117) = true := bne_iff_ne.mpr h117;clear h92 h117 s7 s8 h7;go_wp2;go_ret3;exact ⟨rfl, HBel.out⟩
  ·obtain ⟨y, e2, hA2, ht⟩ := low_go Hr.out h8 h92 h117;have A2 := Aside0.mk hA2;have c88b0 : (8 ≤ (a0.size : Int)) = True := eq_true (by omega)
   have c88b1 : decide (8 ≤ (a0.size : Int)) = true := decide_eq_true (by omega)
   have HT := Aside0.mk ht;by_cases he2 : e2 = 0
   ·have k0 : (e2 == 0) = true := beq_iff_eq.mpr he2;have k1 : (e2 != 0) = false := bne_eq_false_iff_eq.mpr he2;have HE := Aside0.mk he2;clear hA2 ht he2 h8 h92 h117;go_wp2_with (first | (go_at_call 60; (with_reducible refine (jx_four.calls k (a0.extract 8 a0.size) true y e2 _ A2.out).mono ?_); rintro e_ w' ⟨rfl, ⟨nd2, rfl⟩⟩))
    go_ret3;have hh := HT.out;unfold jx_escape.tail at hh;rw [if_pos HE.out] at hh;simp only [Prod.mk.injEq] at hh;obtain ⟨rfl, rfl, rfl⟩ := hh;exact ⟨by first | rfl | (simp; done), by have := HBel.out; repeat (first | exact HBel.out | apply pw_below_drewN | apply below_drew1 | apply below_alloc)⟩
   ·have k0 : (e2 == 0) = false := beq_eq_false_iff_ne.mpr he2;have k1 : (e2 != 0) = true := bne_iff_ne.mpr he2;have HE := Aside0.mk he2;clear hA2 ht he2 h8 h92 h117;go_wp2_with (first | (go_at_call 60; (with_reducible refine (jx_four.calls k (a0.extract 8 a0.size) true y e2 _ A2.out).mono ?_); rintro e_ w' ⟨rfl, ⟨nd2, rfl⟩⟩))
    go_ret3;have hh := HT.out;unfold jx_escape.tail at hh;rw [if_neg HE.out] at hh;simp only [Prod.mk.injEq] at hh;obtain ⟨rfl, rfl, rfl⟩ := hh;exact ⟨by first | rfl | (simp; done), by have := HBel.out; repeat (first | exact HBel.out | apply pw_below_drewN | apply below_drew1 | apply below_alloc)⟩
/-- Four digits that were read end behind the fourth. -/
theorem four_bound : ∀ (d : Nat) (k : Nat) (s : ByteArray) (b : Bool) (r i x : Int), 4 - i = d → 0 ≤ i → i ≤ s.size → jx_four.l0 k s b r i = some (x, 0) → 4 ≤ s.size := by
 intro d;induction d with
 | zero => intro k s b r i x hd h0 hi h; omega
 | succ d ih =>
  intro k s b r i x hd h0 hi h;cases k with
  | zero => simp [jx_four.l0] at h
  | succ k =>
   have hlt : i < 4 := by omega
   have hw : wrap64 (i + 1) = i + 1 := by unfold wrap64; omega
   simp only [jx_four.l0] at h;rw [if_pos hlt] at h;by_cases hs : i = (s.size : Int)
   ·rw [if_pos hs] at h; simp at h
   ·rw [if_neg hs, if_pos h0, if_pos (by omega), hw] at h
    obtain ⟨y, _, h⟩ := Option.bind_eq_some_iff.mp h;have hrec : ∀ r', jx_four.l0 k s b r' (i + 1) = some (x, 0) → 4 ≤ s.size := fun r' h' => ih k s b r' (i + 1) x (by omega) (by omega) (by omega) h'
    repeat' (split at h)
    all_goals first
     | exact hrec _ h
     | (simp at h; done)
theorem jx_escape.calls (k : Nat) (a0 : ByteArray) (r1 : Int) (r2 : Int) (r3 : Int) (w : World) (h : jx_escape.f k a0 = some (r1, r2, r3)) :
 Calls Tryd.prog 52 #[.string a0] w fun e w' => e = .returned (.tuple #[.int .i64 r1, .int .i64 r2, .int .i64 r3]) ∧ Below w.heap.size w w' := by
 unfold jx_escape.f at h;by_cases hs : a0.size < 2
 ·rw [if_pos hs] at h;simp only [Option.some.injEq, Prod.mk.injEq] at h;obtain ⟨rfl, rfl, rfl⟩ := h;exact esc_short a0 w hs
 rw [if_neg hs] at h;by_cases c34 : bt a0 1 = 34
 ·rw [if_pos c34] at h;simp only [Option.some.injEq, Prod.mk.injEq] at h;obtain ⟨rfl, rfl, rfl⟩ := h;exact esc_34 a0 w (by omega) c34
 rw [if_neg c34] at h;by_cases c92 : bt a0 1 = 92
 ·rw [if_pos c92] at h;simp only [Option.some.injEq, Prod.mk.injEq] at h;obtain ⟨rfl, rfl, rfl⟩ := h;exact esc_92 a0 w (by omega) c92
 rw [if_neg c92] at h;by_cases c47 : bt a0 1 = 47
 ·rw [if_pos c47] at h;simp only [Option.some.injEq, Prod.mk.injEq] at h;obtain ⟨rfl, rfl, rfl⟩ := h;exact esc_47 a0 w (by omega) c47
 rw [if_neg c47] at h;by_cases c98 : bt a0 1 = 98
 ·rw [if_pos c98] at h;simp only [Option.some.injEq, Prod.mk.injEq] at h;obtain ⟨rfl, rfl, rfl⟩ := h;exact esc_98 a0 w (by omega) c98
 rw [if_neg c98] at h;by_cases c102 : bt a0 1 = 102
 ·rw [if_pos c102] at h;simp only [Option.some.injEq, Prod.mk.injEq] at h;obtain ⟨rfl, rfl, rfl⟩ := h;exact esc_102 a0 w (by omega) c102
 rw [if_neg c102] at h;by_cases c110 : bt a0 1 = 110
 ·rw [if_pos c110] at h;simp only [Option.some.injEq, Prod.mk.injEq] at h;obtain ⟨rfl, rfl, rfl⟩ := h;exact esc_110 a0 w (by omega) c110
 rw [if_neg c110] at h;by_cases c114 : bt a0 1 = 114
 ·rw [if_pos c114] at h;simp only [Option.some.injEq, Prod.mk.injEq] at h;obtain ⟨rfl, rfl, rfl⟩ := h;exact esc_114 a0 w (by omega) c114
 rw [if_neg c114] at h;by_cases c116 : bt a0 1 = 116
 ·rw [if_pos c116] at h;simp only [Option.some.injEq, Prod.mk.injEq] at h;obtain ⟨rfl, rfl, rfl⟩ := h;exact esc_116 a0 w (by omega) c116
 rw [if_neg c116] at h;by_cases c117 : bt a0 1 = 117
 ·rw [if_pos c117] at h;obtain ⟨⟨x, er⟩, hA, h⟩ := Option.bind_eq_some_iff.mp h;unfold jx_escape.uni at h;by_cases he : er = 0
  ·rw [if_pos he] at h;by_cases hx : x < 55296
   ·rw [if_pos hx] at h;simp only [Option.some.injEq, Prod.mk.injEq] at h;obtain ⟨rfl, rfl, rfl⟩ := h;exact esc_u_lo k a0 _ er w (by omega) c117 hA he hx
   ·rw [if_neg hx] at h;by_cases hx2 : x ≥ 57344
    ·rw [if_pos hx2] at h;simp only [Option.some.injEq, Prod.mk.injEq] at h;obtain ⟨rfl, rfl, rfl⟩ := h;exact esc_u_hi k a0 _ er w (by omega) c117 hA he hx2
    ·rw [if_neg hx2] at h;have h6 : 6 ≤ a0.size := by
      subst he;have := four_bound 4 k (a0.extract 2 a0.size) false 0 0 x (by omega) (by omega) (by omega) hA
      simp only [ByteArray.size_extract] at this;omega
     exact esc_pair k a0 x er r1 r2 r3 w (by omega) c117 hA he ⟨by omega, by omega⟩ h6 h
  ·rw [if_neg he] at h;simp only [Option.some.injEq, Prod.mk.injEq] at h;obtain ⟨rfl, rfl, rfl⟩ := h;exact esc_u_err k a0 x _ w (by omega) c117 hA he
 ·rw [if_neg c117] at h;simp only [Option.some.injEq, Prod.mk.injEq] at h;obtain ⟨rfl, rfl, rfl⟩ := h;exact esc_else a0 w (by omega) c34 c92 c47 c98 c102 c110 c114 c116 c117
end Go.Proofs.YtdhdpidjdadamaaDoor.PX
