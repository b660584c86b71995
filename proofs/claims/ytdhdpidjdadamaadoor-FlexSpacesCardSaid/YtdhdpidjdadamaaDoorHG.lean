/- The library's table strings.asciiSpace as a premise on the world, and that every later world keeps it; strings.Fields by the shelf's contract at this translation (laid by the kit's lay-shelf and lay-plain). -/
import Derived.Shelf.Strings.Fields
import Derived.Below
import Derived.Lib.LaidTab
import Derived.Test.YtdhdpidjdadamaaDoorProg
namespace Go.Proofs
open Go.Shelf
def Tryd.lays157_ren : Go.Shelf.Ren := ⟨fun | 157 => 43 | 229 => 55 | 199 => 56 | 261 => 64 | 311 => 68 | 312 => 69 | n => n, fun | 9 => 9 | 31 => 23 | 3 => 3 | 5 => 5 | 4 => 4 | 119 => 65 | 0 => 0 | 40 => 67 | 152 => 80 | 21 => 21 | 154 => 82 | 51 => 83 | 141 => 85 | 196 => 91 | 193 => 88 | 198 => 94 | 49 => 92 | 194 => 89 | 201 => 97 | 226 => 101 | 46 => 75 | 227 => 102 | n => n, fun | 0 => 0 | 6 => 1 | n => n⟩
theorem Tryd.lays157 : Go.Proofs.Lays.n157 Tryd.prog Tryd.lays157_ren := {
  mixed := by kernel_rfl
  f157 := Tryd.func43.trans (congrArg some (by kernel_rfl))
  f199 := Tryd.func56.trans (congrArg some (by kernel_rfl))
  f229 := Tryd.func55.trans (congrArg some (by kernel_rfl))
  f261 := Tryd.func64.trans (congrArg some (by kernel_rfl))
  f311 := Tryd.func68.trans (congrArg some (by kernel_rfl))
  f312 := Tryd.func69.trans (congrArg some (by kernel_rfl))
  t0 := Tryd.underlying0
  a0 := Tryd.isAgg0
  z0 := Tryd.sizeOf0
  v0 := Tryd.zeroValue0
  t3 := Tryd.underlying3
  a3 := Tryd.isAgg3
  z3 := Tryd.sizeOf3
  v3 := Tryd.zeroValue3
  t4 := Tryd.underlying4
  a4 := Tryd.isAgg4
  z4 := Tryd.sizeOf4
  v4 := Tryd.zeroValue4
  t5 := Tryd.underlying5
  a5 := Tryd.isAgg5
  z5 := Tryd.sizeOf5
  v5 := Tryd.zeroValue5
  t9 := Tryd.underlying9
  a9 := Tryd.isAgg9
  z9 := Tryd.sizeOf9
  v9 := Tryd.zeroValue9
  t21 := Tryd.underlying21
  a21 := Tryd.isAgg21
  z21 := Tryd.sizeOf21
  v21 := Tryd.zeroValue21
  t31 := Tryd.underlying23
  a31 := Tryd.isAgg23
  z31 := Tryd.sizeOf23
  v31 := Tryd.zeroValue23
  t40 := Tryd.underlying67
  a40 := Tryd.isAgg67
  z40 := Tryd.sizeOf67
  v40 := Tryd.zeroValue67
  t46 := Tryd.underlying75
  a46 := Tryd.isAgg75
  z46 := Tryd.sizeOf75
  v46 := Tryd.zeroValue75
  t49 := Tryd.underlying92
  a49 := Tryd.isAgg92
  z49 := Tryd.sizeOf92
  v49 := Tryd.zeroValue92
  t51 := Tryd.underlying83
  a51 := Tryd.isAgg83
  z51 := Tryd.sizeOf83
  v51 := Tryd.zeroValue83
  t119 := Tryd.underlying65
  a119 := Tryd.isAgg65
  z119 := Tryd.sizeOf65
  t141 := Tryd.underlying85
  a141 := Tryd.isAgg85
  z141 := Tryd.sizeOf85
  v141 := Tryd.zeroValue85
  t152 := Tryd.underlying80
  a152 := Tryd.isAgg80
  z152 := Tryd.sizeOf80
  v152 := Tryd.zeroValue80
  t154 := Tryd.underlying82
  a154 := Tryd.isAgg82
  z154 := Tryd.sizeOf82
  v154 := Tryd.zeroValue82
  t193 := Tryd.underlying88
  a193 := Tryd.isAgg88
  z193 := Tryd.sizeOf88
  v193 := Tryd.zeroValue88
  t194 := Tryd.underlying89
  a194 := Tryd.isAgg89
  z194 := Tryd.sizeOf89
  v194 := Tryd.zeroValue89
  t196 := Tryd.underlying91
  a196 := Tryd.isAgg91
  z196 := Tryd.sizeOf91
  v196 := Tryd.zeroValue91
  t198 := Tryd.underlying94
  a198 := Tryd.isAgg94
  z198 := Tryd.sizeOf94
  v198 := Tryd.zeroValue94
  t201 := Tryd.underlying97
  a201 := Tryd.isAgg97
  z201 := Tryd.sizeOf97
  v201 := Tryd.zeroValue97
  t226 := Tryd.underlying101
  a226 := Tryd.isAgg101
  z226 := Tryd.sizeOf101
  v226 := Tryd.zeroValue101
  t227 := Tryd.underlying102
  a227 := Tryd.isAgg102
  z227 := Tryd.sizeOf102
  v227 := Tryd.zeroValue102
  g0 := by kernel_rfl
  g6 := by kernel_rfl }
open Go.RowKit Go.Lib in
/-- strings.Fields, the table by 'Lib.TabIs' (as strings.TrimSpace's contract). 'hg': the table's number, by its name: at a dump 'by kernel_rfl'. (LAID: no walk: one application.) -/
theorem Tryd.strings_Fields (s : ByteArray) (w : World) (hs : s.size < 4294967281) (hascii : ∀ (j : Nat) b, s.data.toList[j]? = some b → b.toNat < 128) (htab : Lib.TabIs Tryd.prog w "strings.asciiSpace" .u8 Lib.asciiSpaceTab) :
    Calls Tryd.prog 43 #[.string s] w fun e w' =>
      e = .returned (.slice (some ⟨w.heap.size, 0, none⟩) (Lib.fields s.data.toList).length (Lib.fields s.data.toList).length) ∧ w' = w.alloc (.cells ((Lib.fields s.data.toList).map fun l => Value.string ⟨l.toArray⟩).toArray 9) := Any.strings_Fields Tryd.lays157 (by kernel_rfl) (by kernel_rfl) s w hs hascii htab

namespace YtdhdpidjdadamaaDoor
open Go.RowKit
/-- The library's table strings.asciiSpace holds what its initialiser lays. -/
def GW (w : World) : Prop := Lib.TabIs Tryd.prog w "strings.asciiSpace" .u8 Lib.asciiSpaceTab
theorem GW.at {w w1 : World} (h : GW w) (hb : Below w.heap.size w w1) : GW w1 := by
  have hg : Tryd.prog.globalNamed "strings.asciiSpace" = some 0 := by kernel_rfl
  have hlt : 0 < w.heap.size := by
    have := h.cell hg 0 (by rw [Lib.asciiSpaceTab_length]; omega)
    exact World.block_lt_of_cell? _ _ this
  have hh := hb.block 0 hlt
  unfold GW Lib.TabIs World.var? at *
  rw [hg] at h ⊢
  simp only [Option.bind_some] at h ⊢
  rw [hh]
  exact h
end YtdhdpidjdadamaaDoor
end Go.Proofs
