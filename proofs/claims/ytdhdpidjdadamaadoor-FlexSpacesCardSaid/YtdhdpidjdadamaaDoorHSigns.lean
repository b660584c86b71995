/- flex.signs returns a new slice of the thirty-two signs, the longer ones first, where the library's table strings.asciiSpace is as laid. -/
import Derived.Test.YtdhdpidjdadamaaDoorPx0
import Derived.Test.YtdhdpidjdadamaaDoorHG
namespace Go.Proofs.YtdhdpidjdadamaaDoor.PX
open Go.RowKit Go.Proofs.YtdhdpidjdadamaaDoorW.PrintWords Go.Proofs.YtdhdpidjdadamaaDoorW.PrintLast Go.Proofs.YtdhdpidjdadamaaDoorW.PrintMore
set_option linter.unusedVariables false
set_option linter.unusedSimpArgs false
def flexSigns : List ByteArray := [⟨#[124, 61]⟩, ⟨#[43, 61]⟩, ⟨#[45, 61]⟩, ⟨#[42, 61]⟩, ⟨#[47, 61]⟩, ⟨#[37, 61]⟩, ⟨#[47, 47]⟩, ⟨#[61, 61]⟩, ⟨#[33, 61]⟩, ⟨#[60, 61]⟩, ⟨#[62, 61]⟩, ⟨#[46, 46]⟩, ⟨#[46]⟩, ⟨#[124]⟩, ⟨#[44]⟩, ⟨#[59]⟩, ⟨#[58]⟩, ⟨#[40]⟩, ⟨#[41]⟩, ⟨#[91]⟩, ⟨#[93]⟩, ⟨#[123]⟩, ⟨#[125]⟩, ⟨#[43]⟩, ⟨#[45]⟩, ⟨#[42]⟩, ⟨#[47]⟩, ⟨#[37]⟩, ⟨#[60]⟩, ⟨#[62]⟩, ⟨#[61]⟩, ⟨#[63]⟩]
def flex_signs.f : Option (List ByteArray) := some flexSigns
/-- The text of the signs, as the code has it. -/
def signText : List UInt8 := [124, 61, 32, 43, 61, 32, 45, 61, 32, 42, 61, 32, 47, 61, 32, 37, 61, 32, 47, 47, 32, 61, 61, 32, 33, 61, 32, 60, 61, 32, 62, 61, 32, 46, 46, 32, 46, 32, 124, 32, 44, 32, 59, 32, 58, 32, 40, 32, 41, 32, 91, 32, 93, 32, 123, 32, 125, 32, 43, 32, 45, 32, 42, 32, 47, 32, 37, 32, 60, 32, 62, 32, 61, 32, 63]
theorem sign_fields : (Lib.fields signText).map (fun l => (⟨l.toArray⟩ : ByteArray)) = flexSigns := by decide +kernel
theorem sign_ascii : ∀ (j : Nat) b, (⟨signText.toArray⟩ : ByteArray).data.toList[j]? = some b → b.toNat < 128 := by
 intro j b h;have h2 : b ∈ signText := by simpa using List.mem_of_getElem? h
 have : ∀ x ∈ signText, x.toNat < 128 := by decide +kernel
 exact this b h2
theorem reps_strings {w : World} {base : Nat} {ok : Nat → Prop} : ∀ (l : List ByteArray), Reps (Kd.string.M w base ok) Kd.string.sz l (l.map Value.string)
 | [] => Reps.none _ _
 | x :: l => by
  have ih := reps_strings (w := w) (base := base) (ok := ok) l;refine ⟨by simp [Kd.string, Kd.scalar], fun j p hp => ?_⟩
  show (List.take 1 (List.drop (j * 1) ((x :: l).map Value.string))) = [Value.string p]
  rw [Nat.mul_one];apply List.ext_getElem?
  intro i;cases i with
  | zero =>
   have h2 : ((x :: l).map Value.string)[j]? = some (Value.string p) := by rw [List.getElem?_map, hp]; rfl
   simpa using h2
  | succ i => simp; omega
set_option maxHeartbeats 4000000 in
set_option maxRecDepth 100000 in
theorem flex_signs.calls (r : List ByteArray) (w : World) (h : flex_signs.f = some r) (hG : GW w) :
 Calls Tryd.prog 30 #[] w fun e w' => ∃ v0_ : Value, e = .returned v0_ ∧ Kd.R Kd.string 9 w' w.heap.size (fun _ => True) v0_ r ∧ Below w.heap.size w w' := by
 obtain rfl := Option.some.inj h;have hl : (Lib.fields signText).length = 32 := by decide +kernel
 have c := Tryd.strings_Fields ⟨signText.toArray⟩ w (by decide +kernel) sign_ascii hG
 rw [show (⟨signText.toArray⟩ : ByteArray).data.toList = signText from rfl, hl, show ((Lib.fields signText).map fun l => Value.string ⟨l.toArray⟩) = flexSigns.map Value.string from by rw [← sign_fields, List.map_map]; rfl] at c
 have C := Aside0.mk c;clear c h hl;have HG := Aside0.mk hG;clear hG;go_enter Tryd.func30, Tryd.ntmps30;go_wp2_with (go_at_call 43; refine C.out.mono ?_; rintro e w' ⟨rfl, rfl⟩)
 go_ret;refine ⟨_, rfl, ⟨fun _ _ => trivial, OwnRow.lit (ps := flexSigns) w w.heap.size (reps_strings flexSigns) (Nat.le_refl _) (by decide)⟩, (Below.refl _ _).alloc (Nat.le_refl _) _⟩
end Go.Proofs.YtdhdpidjdadamaaDoor.PX
