import Derived.ArgAppend
import Derived.Below
import Derived.BigQuiet
import Derived.Deep.AppendLies
import Derived.Deep.CutBlock
import Derived.Deep.DeepCutAuto
import Derived.Deep.DeepHandedRow
import Derived.Deep.DeepWitnessRowRef
import Derived.Deep.Draws
import Derived.Deep.LoopGhost
import Derived.Deep.OwnRows
import Derived.Deep.QuietTactic
import Derived.Deep.RegionHeld3
import Derived.KernelRfl
import Derived.Laws.BitsLemmas
import Derived.Laws.BytesArg
import Derived.Laws.IdiomCopy
import Derived.Laws.MakeOwn
import Derived.Laws.OwnMore
import Derived.Laws.RangeAny
import Derived.Laws.Rows
import Derived.Laws.Runes
import Derived.Laws.Slices
import Derived.Lib.AppendStr
import Derived.Lib.ConvBytes
import Derived.Lib.LaidIn
import Derived.Lib.LaidU8T
import Derived.Lib.OthersKept
import Derived.Maps.AppendAt
import Derived.OrdersHeld
import Derived.OwnWalk
import Derived.ProofKit
import Derived.RowKit
import Derived.RowKit3
import Derived.Shelf.Small.Strs
import Derived.Shelf.Strings.Cut
import Derived.Shelf.Strings.IndexAny
import Derived.Shelf.Strings.IndexAnyAll
import Derived.Shelf.Strings.Runes
import Derived.Shelf.Strings.Search3
import Derived.Shelf.Strings.Split
import Derived.Shelf.Unicode.DecodeSlow
import Derived.Shelf.Unicode.ValidAny
import Derived.Shelf.Vars
import Derived.SizedLaws
import Derived.Tactics
import Derived.Test.YtbaipppmefencaaDoorProg
import Derived.Test.YtbaipppmefencaaDoorRows
import Derived.WalkKit
import Derived.WideLaws
import Derived.Test.YtbaipppmefencaaDoorCTopicDeeper0
import Derived.Test.YtbaipppmefencaaDoorCTopicDeeper1
namespace Go.Proofs.YtbaipppmefencaaDoor.P
open Go.RowKit Go.Proofs.YtbaipppmefencaaDoorW.PrintWords

/-- What the contracts ask of the world: utf8's two tables, and that bytealg's variable holds a number. -/
def GW (w : World) : Prop :=
  Go.Lib.Utf8Tabs 0 1 w ∧ ∃ m, w.cell? ⟨2, 0, none⟩ = some (.int .i64 m)
theorem GW.below {w w' : World} (h : GW w) (hb : Below w.heap.size w w') : GW w' :=
  ⟨Utf8Tabs_below h.1 hb, h.2.imp fun _ hm => pw_cell_below hb hm⟩
theorem GW.drawn {w w' : World} (h : GW w) (hd : Drawn0 w w') : GW w' := h.below hd.below
end Go.Proofs.YtbaipppmefencaaDoor.P

/-
  DERIVED: THE SHELF's CONTRACTS AT THIS DUMP, IN PLAIN WORDS (tools/lay-plain.mjs out of 'YtbaipppmefencaaDoorShelf.lean', which tools/lay-shelf.mjs wrote): THE SAME DECLARATIONS UNDER THE SAME NAMES: 'import', 'namespace', 'open', 'def', 'theorem' AND NOTHING ELSE: no command of the shelf's: FOR A HAND-IN. Each laying: the table of numbers ('.._ren') and one theorem, a field a fact of the dump's own or the kernel's comparison; each contract: ONE APPLICATION.
-/
namespace Go.Proofs
open Go.Shelf
def Tryd.lays137_ren : Go.Shelf.Ren := ⟨fun | 137 => 143 | 217 => 139 | 266 => 147 | n => n, fun | 9 => 9 | 5 => 5 | 3 => 3 | n => n, fun | n => n⟩
theorem Tryd.lays137 : Go.Proofs.Lays.n137 Tryd.prog Tryd.lays137_ren := {
  mixed := by kernel_rfl
  f137 := Tryd.func143.trans (congrArg some (by kernel_rfl))
  f217 := Tryd.func139.trans (congrArg some (by kernel_rfl))
  f266 := Tryd.func147.trans (congrArg some (by kernel_rfl))
  t3 := Tryd.underlying3
  a3 := Tryd.isAgg3
  z3 := Tryd.sizeOf3
  v3 := Tryd.zeroValue3
  t5 := Tryd.underlying5
  a5 := Tryd.isAgg5
  z5 := Tryd.sizeOf5
  v5 := Tryd.zeroValue5
  t9 := Tryd.underlying9
  a9 := Tryd.isAgg9
  z9 := Tryd.sizeOf9
  v9 := Tryd.zeroValue9 }
open Go.RowKit in
/-- strings.IndexByte: "IndexByte returns the index of the first instance of c in s, or -1 if c is not present in s.": IT RETURNS 'Lib.indexByte s c'; the world is as it was. (LAID: no walk: one application.) -/
theorem Tryd.strings_IndexByte (s : ByteArray) (c : Int) (w : World) :
    Calls Tryd.prog 143 #[.string s, .int .u8 c] w fun e w' => e = .returned (.int .i64 (Lib.indexByte s.data.toList c.toNat.toUInt8)) ∧ w' = w := Any.strings_IndexByte Tryd.lays137 s c w
def Tryd.lays144_ren : Go.Shelf.Ren := ⟨fun | 144 => 109 | 143 => 113 | 219 => 127 | 217 => 139 | 225 => 140 | 224 => 141 | 267 => 142 | 266 => 147 | 314 => 148 | n => n, fun | 9 => 9 | 4 => 4 | 3 => 3 | 5 => 5 | 46 => 110 | 146 => 158 | 51 => 61 | n => n, fun | 1 => 2 | n => n⟩
theorem Tryd.lays144 : Go.Proofs.Lays.n144 Tryd.prog Tryd.lays144_ren := {
  mixed := by kernel_rfl
  f143 := Tryd.func113.trans (congrArg some (by kernel_rfl))
  f144 := Tryd.func109.trans (congrArg some (by kernel_rfl))
  f217 := Tryd.func139.trans (congrArg some (by kernel_rfl))
  f219 := Tryd.func127.trans (congrArg some (by kernel_rfl))
  f224 := Tryd.func141.trans (congrArg some (by kernel_rfl))
  f225 := Tryd.func140.trans (congrArg some (by kernel_rfl))
  f266 := Tryd.func147.trans (congrArg some (by kernel_rfl))
  f267 := Tryd.func142.trans (congrArg some (by kernel_rfl))
  f314 := Tryd.func148.trans (congrArg some (by kernel_rfl))
  t3 := Tryd.underlying3
  a3 := Tryd.isAgg3
  z3 := Tryd.sizeOf3
  v3 := Tryd.zeroValue3
  t4 := Tryd.underlying4
  a4 := Tryd.isAgg4
  z4 := Tryd.sizeOf4
  v4 := Tryd.zeroValue4
  t5 := Tryd.underlying5
  a5 := Tryd.isAgg5
  z5 := Tryd.sizeOf5
  v5 := Tryd.zeroValue5
  t9 := Tryd.underlying9
  a9 := Tryd.isAgg9
  z9 := Tryd.sizeOf9
  v9 := Tryd.zeroValue9
  t46 := Tryd.underlying110
  a46 := Tryd.isAgg110
  z46 := Tryd.sizeOf110
  v46 := Tryd.zeroValue110
  t51 := Tryd.underlying61
  a51 := Tryd.isAgg61
  z51 := Tryd.sizeOf61
  v51 := Tryd.zeroValue61
  t146 := Tryd.underlying158
  a146 := Tryd.isAgg158
  z146 := Tryd.sizeOf158
  v146 := Tryd.zeroValue158
  g1 := by kernel_rfl }
open Go.RowKit Go.Lib in
/-- strings.Contains: "Contains reports whether substr is within s.": IT RETURNS 'Lib.contains s substr'; the world is as it was. (LAID: no walk: one application.) -/
theorem Tryd.strings_Contains (s sub : ByteArray) (m : Int) (w : World) (hs : s.size < 4294967281) (hm : w.cell? ⟨2, 0, none⟩ = some (.int .i64 m)) :
    Calls Tryd.prog 109 #[.string s, .string sub] w fun e w' => e = .returned (.bool (Lib.contains s.data.toList sub.data.toList)) ∧ w' = w := Any.strings_Contains Tryd.lays144 s sub m w hs hm
def Tryd.lays145_ren : Go.Shelf.Ren := ⟨fun | 145 => 79 | 220 => 107 | 219 => 127 | 217 => 139 | 225 => 140 | 224 => 141 | 267 => 142 | 266 => 147 | 314 => 148 | n => n, fun | 9 => 9 | 4 => 4 | 59 => 76 | 3 => 3 | 5 => 5 | 46 => 110 | 146 => 158 | 51 => 61 | n => n, fun | 1 => 2 | n => n⟩
theorem Tryd.lays145 : Go.Proofs.Lays.n145 Tryd.prog Tryd.lays145_ren := {
  mixed := by kernel_rfl
  f145 := Tryd.func79.trans (congrArg some (by kernel_rfl))
  f217 := Tryd.func139.trans (congrArg some (by kernel_rfl))
  f219 := Tryd.func127.trans (congrArg some (by kernel_rfl))
  f220 := Tryd.func107.trans (congrArg some (by kernel_rfl))
  f224 := Tryd.func141.trans (congrArg some (by kernel_rfl))
  f225 := Tryd.func140.trans (congrArg some (by kernel_rfl))
  f266 := Tryd.func147.trans (congrArg some (by kernel_rfl))
  f267 := Tryd.func142.trans (congrArg some (by kernel_rfl))
  f314 := Tryd.func148.trans (congrArg some (by kernel_rfl))
  t3 := Tryd.underlying3
  a3 := Tryd.isAgg3
  z3 := Tryd.sizeOf3
  v3 := Tryd.zeroValue3
  t4 := Tryd.underlying4
  a4 := Tryd.isAgg4
  z4 := Tryd.sizeOf4
  v4 := Tryd.zeroValue4
  t5 := Tryd.underlying5
  a5 := Tryd.isAgg5
  z5 := Tryd.sizeOf5
  v5 := Tryd.zeroValue5
  t9 := Tryd.underlying9
  a9 := Tryd.isAgg9
  z9 := Tryd.sizeOf9
  v9 := Tryd.zeroValue9
  t46 := Tryd.underlying110
  a46 := Tryd.isAgg110
  z46 := Tryd.sizeOf110
  v46 := Tryd.zeroValue110
  t51 := Tryd.underlying61
  a51 := Tryd.isAgg61
  z51 := Tryd.sizeOf61
  v51 := Tryd.zeroValue61
  t59 := Tryd.underlying76
  a59 := Tryd.isAgg76
  z59 := Tryd.sizeOf76
  v59 := Tryd.zeroValue76
  t146 := Tryd.underlying158
  a146 := Tryd.isAgg158
  z146 := Tryd.sizeOf158
  v146 := Tryd.zeroValue158
  g1 := by kernel_rfl }
open Go.RowKit Go.Lib in
/-- strings.Cut: "Cut slices s around the first instance of sep, returning the text before and after sep. The found result reports whether sep appears in s. If sep does not appear in s, cut returns s, "", false.": IT RETURNS 'Lib.cut s sep'; the world is as it was but for the count of draws. (LAID: no walk: one application.) -/
theorem Tryd.strings_Cut (s sep : ByteArray) (m : Int) (w : World) (hs : s.size < 4294967281) (hm : w.cell? ⟨2, 0, none⟩ = some (.int .i64 m)) :
    Calls Tryd.prog 79 #[.string s, .string sep] w fun e w' => e = .returned (.tuple #[.string ⟨(Lib.cut s.data.toList sep.data.toList).1.toArray⟩, .string ⟨(Lib.cut s.data.toList sep.data.toList).2.1.toArray⟩, .bool (Lib.cut s.data.toList sep.data.toList).2.2]) ∧ ∃ n, w' = w.drewN n := Any.strings_Cut Tryd.lays145 s sep m w hs hm
def Tryd.lays146_ren : Go.Shelf.Ren := ⟨fun | 146 => 46 | 221 => 84 | 268 => 111 | 138 => 112 | 143 => 113 | 195 => 133 | 197 => 134 | 218 => 135 | 219 => 127 | 260 => 145 | 217 => 139 | 225 => 140 | 224 => 141 | 267 => 142 | 266 => 147 | 314 => 148 | n => n, fun | 9 => 9 | 31 => 23 | 3 => 3 | 4 => 4 | 0 => 0 | 105 => 149 | 21 => 21 | 5 => 5 | 46 => 110 | 119 => 139 | 139 => 142 | 138 => 141 | 146 => 158 | 51 => 61 | n => n, fun | 1 => 2 | 3 => 0 | 4 => 1 | n => n⟩
theorem Tryd.lays146 : Go.Proofs.Lays.n146 Tryd.prog Tryd.lays146_ren := {
  mixed := by kernel_rfl
  f138 := Tryd.func112.trans (congrArg some (by kernel_rfl))
  f143 := Tryd.func113.trans (congrArg some (by kernel_rfl))
  f146 := Tryd.func46.trans (congrArg some (by kernel_rfl))
  f195 := Tryd.func133.trans (congrArg some (by kernel_rfl))
  f197 := Tryd.func134.trans (congrArg some (by kernel_rfl))
  f217 := Tryd.func139.trans (congrArg some (by kernel_rfl))
  f218 := Tryd.func135.trans (congrArg some (by kernel_rfl))
  f219 := Tryd.func127.trans (congrArg some (by kernel_rfl))
  f221 := Tryd.func84.trans (congrArg some (by kernel_rfl))
  f224 := Tryd.func141.trans (congrArg some (by kernel_rfl))
  f225 := Tryd.func140.trans (congrArg some (by kernel_rfl))
  f260 := Tryd.func145.trans (congrArg some (by kernel_rfl))
  f266 := Tryd.func147.trans (congrArg some (by kernel_rfl))
  f267 := Tryd.func142.trans (congrArg some (by kernel_rfl))
  f268 := Tryd.func111.trans (congrArg some (by kernel_rfl))
  f314 := Tryd.func148.trans (congrArg some (by kernel_rfl))
  t0 := Tryd.underlying0
  a0 := Tryd.isAgg0
  z0 := Tryd.sizeOf0
  v0 := Tryd.zeroValue0
  t3 := Tryd.underlying3
  a3 := Tryd.isAgg3
  z3 := Tryd.sizeOf3
  v3 := Tryd.zeroValue3
  t4 := Tryd.underlying4
  a4 := Tryd.isAgg4
  z4 := Tryd.sizeOf4
  v4 := Tryd.zeroValue4
  t5 := Tryd.underlying5
  a5 := Tryd.isAgg5
  z5 := Tryd.sizeOf5
  v5 := Tryd.zeroValue5
  t9 := Tryd.underlying9
  a9 := Tryd.isAgg9
  z9 := Tryd.sizeOf9
  v9 := Tryd.zeroValue9
  t21 := Tryd.underlying21
  a21 := Tryd.isAgg21
  z21 := Tryd.sizeOf21
  v21 := Tryd.zeroValue21
  t31 := Tryd.underlying23
  a31 := Tryd.isAgg23
  z31 := Tryd.sizeOf23
  v31 := Tryd.zeroValue23
  t46 := Tryd.underlying110
  a46 := Tryd.isAgg110
  z46 := Tryd.sizeOf110
  v46 := Tryd.zeroValue110
  t51 := Tryd.underlying61
  a51 := Tryd.isAgg61
  z51 := Tryd.sizeOf61
  v51 := Tryd.zeroValue61
  t105 := Tryd.underlying149
  a105 := Tryd.isAgg149
  z105 := Tryd.sizeOf149
  v105 := Tryd.zeroValue149
  t119 := Tryd.underlying139
  a119 := Tryd.isAgg139
  z119 := Tryd.sizeOf139
  t138 := Tryd.underlying141
  a138 := Tryd.isAgg141
  z138 := Tryd.sizeOf141
  v138 := Tryd.zeroValue141
  t139 := Tryd.underlying142
  a139 := Tryd.isAgg142
  z139 := Tryd.sizeOf142
  v139 := Tryd.zeroValue142
  t146 := Tryd.underlying158
  a146 := Tryd.isAgg158
  z146 := Tryd.sizeOf158
  v146 := Tryd.zeroValue158
  g1 := by kernel_rfl
  g3 := by kernel_rfl
  g4 := by kernel_rfl }
open Go.RowKit Go.Lib in
/-- strings.Split. (LAID: no walk: one application.) -/
theorem Tryd.strings_Split (s sep : ByteArray) (m : Int) (w : World) (hs : s.size < 4294967281) (hm : w.cell? ⟨2, 0, none⟩ = some (.int .i64 m)) (h1 : 1 ≤ sep.size) :
    Calls Tryd.prog 46 #[.string s, .string sep] w fun e w' =>
      e = .returned (.slice (some ⟨w.heap.size, 0, none⟩) (Lib.countB s sep + 1) (Lib.countB s sep + 1)) ∧ w' = w.alloc (.cells ((Lib.splitB sep 0 (Lib.countB s sep) s).map Value.string).toArray 9) := Any.strings_Split Tryd.lays146 (by kernel_rfl) s sep m w hs hm h1
def Tryd.lays152_ren : Go.Shelf.Ren := ⟨fun | 152 => 129 | 137 => 143 | 119 => 144 | 224 => 141 | 225 => 140 | 217 => 139 | 266 => 147 | n => n, fun | 9 => 9 | 21 => 21 | 3 => 3 | 4 => 4 | 5 => 5 | 0 => 0 | 46 => 110 | n => n, fun | n => n⟩
theorem Tryd.lays152 : Go.Proofs.Lays.n152 Tryd.prog Tryd.lays152_ren := {
  mixed := by kernel_rfl
  f119 := Tryd.func144.trans (congrArg some (by kernel_rfl))
  f137 := Tryd.func143.trans (congrArg some (by kernel_rfl))
  f152 := Tryd.func129.trans (congrArg some (by kernel_rfl))
  f217 := Tryd.func139.trans (congrArg some (by kernel_rfl))
  f224 := Tryd.func141.trans (congrArg some (by kernel_rfl))
  f225 := Tryd.func140.trans (congrArg some (by kernel_rfl))
  f266 := Tryd.func147.trans (congrArg some (by kernel_rfl))
  t0 := Tryd.underlying0
  a0 := Tryd.isAgg0
  z0 := Tryd.sizeOf0
  v0 := Tryd.zeroValue0
  t3 := Tryd.underlying3
  a3 := Tryd.isAgg3
  z3 := Tryd.sizeOf3
  v3 := Tryd.zeroValue3
  t4 := Tryd.underlying4
  a4 := Tryd.isAgg4
  z4 := Tryd.sizeOf4
  v4 := Tryd.zeroValue4
  t5 := Tryd.underlying5
  a5 := Tryd.isAgg5
  z5 := Tryd.sizeOf5
  v5 := Tryd.zeroValue5
  t9 := Tryd.underlying9
  a9 := Tryd.isAgg9
  z9 := Tryd.sizeOf9
  v9 := Tryd.zeroValue9
  t21 := Tryd.underlying21
  a21 := Tryd.isAgg21
  z21 := Tryd.sizeOf21
  v21 := Tryd.zeroValue21
  t46 := Tryd.underlying110
  a46 := Tryd.isAgg110
  z46 := Tryd.sizeOf110
  v46 := Tryd.zeroValue110 }
open Go.RowKit Go.Lib in
theorem Tryd.strings_IndexRune_ascii (s : ByteArray) (r : Int) (w : World) (h0 : 0 ≤ r) (h1 : r < 128) :
    Calls Tryd.prog 129 #[.string s, .int .i32 r] w fun e w' => e = .returned (.int .i64 (Lib.indexByte s.data.toList r.toNat.toUInt8)) ∧ w' = w := Any.strings_IndexRune_ascii Tryd.lays152 s r w h0 h1
def Tryd.lays226_ren : Go.Shelf.Ren := ⟨fun | 226 => 130 | n => n, fun | 3 => 3 | 4 => 4 | n => n, fun | n => n⟩
theorem Tryd.lays226 : Go.Proofs.Lays.n226 Tryd.prog Tryd.lays226_ren := {
  mixed := by kernel_rfl
  f226 := Tryd.func130.trans (congrArg some (by kernel_rfl))
  t3 := Tryd.underlying3
  a3 := Tryd.isAgg3
  z3 := Tryd.sizeOf3
  v3 := Tryd.zeroValue3
  t4 := Tryd.underlying4
  a4 := Tryd.isAgg4
  z4 := Tryd.sizeOf4
  v4 := Tryd.zeroValue4 }
open Go.RowKit Go.Lib in
theorem Tryd.strings_shouldUseASCIISet (n : Int) (w : World) :
    Calls Tryd.prog 130 #[.int .i64 n] w fun e w' => e = .returned (.bool (decide (8 < n))) ∧ w' = w := Any.strings_shouldUseASCIISet Tryd.lays226 n w
def Tryd.lays153_ren : Go.Shelf.Ren := ⟨fun | 153 => 110 | 152 => 129 | 226 => 130 | 227 => 131 | 228 => 132 | 137 => 143 | 119 => 144 | 224 => 141 | 225 => 140 | 217 => 139 | 266 => 147 | n => n, fun | 9 => 9 | 3 => 3 | 4 => 4 | 5 => 5 | 21 => 21 | 117 => 147 | 116 => 146 | 0 => 0 | 46 => 110 | 124 => 157 | n => n, fun | n => n⟩
theorem Tryd.lays153 : Go.Proofs.Lays.n153 Tryd.prog Tryd.lays153_ren := {
  mixed := by kernel_rfl
  f119 := Tryd.func144.trans (congrArg some (by kernel_rfl))
  f137 := Tryd.func143.trans (congrArg some (by kernel_rfl))
  f152 := Tryd.func129.trans (congrArg some (by kernel_rfl))
  f153 := Tryd.func110.trans (congrArg some (by kernel_rfl))
  f217 := Tryd.func139.trans (congrArg some (by kernel_rfl))
  f224 := Tryd.func141.trans (congrArg some (by kernel_rfl))
  f225 := Tryd.func140.trans (congrArg some (by kernel_rfl))
  f226 := Tryd.func130.trans (congrArg some (by kernel_rfl))
  f227 := Tryd.func131.trans (congrArg some (by kernel_rfl))
  f228 := Tryd.func132.trans (congrArg some (by kernel_rfl))
  f266 := Tryd.func147.trans (congrArg some (by kernel_rfl))
  t0 := Tryd.underlying0
  a0 := Tryd.isAgg0
  z0 := Tryd.sizeOf0
  v0 := Tryd.zeroValue0
  t3 := Tryd.underlying3
  a3 := Tryd.isAgg3
  z3 := Tryd.sizeOf3
  v3 := Tryd.zeroValue3
  t4 := Tryd.underlying4
  a4 := Tryd.isAgg4
  z4 := Tryd.sizeOf4
  v4 := Tryd.zeroValue4
  t5 := Tryd.underlying5
  a5 := Tryd.isAgg5
  z5 := Tryd.sizeOf5
  v5 := Tryd.zeroValue5
  t9 := Tryd.underlying9
  a9 := Tryd.isAgg9
  z9 := Tryd.sizeOf9
  v9 := Tryd.zeroValue9
  t21 := Tryd.underlying21
  a21 := Tryd.isAgg21
  z21 := Tryd.sizeOf21
  v21 := Tryd.zeroValue21
  t46 := Tryd.underlying110
  a46 := Tryd.isAgg110
  z46 := Tryd.sizeOf110
  v46 := Tryd.zeroValue110
  t116 := Tryd.underlying146
  a116 := Tryd.isAgg146
  z116 := Tryd.sizeOf146
  t117 := Tryd.underlying147
  a117 := Tryd.isAgg147
  z117 := Tryd.sizeOf147
  v117 := Tryd.zeroValue147
  t124 := Tryd.underlying157
  a124 := Tryd.isAgg157
  z124 := Tryd.sizeOf157
  v124 := Tryd.zeroValue157 }
open Go.RowKit Go.Lib in
theorem Tryd.strings_IndexAny_long (hv116 : ∀ w, (zeroValue 146).run Tryd.prog w = .ok (.agg (Array.replicate 256 (.bool false))) w) (s chars : ByteArray) (w : World) (h2 : 2 ≤ chars.size) (h8 : 8 < s.size) (hs : s.size < 4294967281) (hcs : chars.size < 4294967281) (hascii : ∀ (j : Nat) b, chars.data.toList[j]? = some b → b.toNat < 128) :
    Calls Tryd.prog 110 #[.string s, .string chars] w fun e w' => e = .returned (.int .i64 (Lib.indexAny s.data.toList chars.data.toList)) ∧ w' = ((w.alloc (.cells (Lib.setCells chars.data.toList) 146)).alloc (.cells (Lib.setCells chars.data.toList) 146)) := Any.strings_IndexAny_long Tryd.lays153 hv116 (by kernel_rfl) s chars w h2 h8 hs hcs hascii
def Tryd.lays196_ren : Go.Shelf.Ren := ⟨fun | 196 => 108 | 259 => 128 | n => n, fun | 9 => 9 | 4 => 4 | 3 => 3 | 5 => 5 | 12 => 12 | 119 => 139 | 0 => 0 | 46 => 110 | 139 => 142 | 138 => 141 | 53 => 25 | n => n, fun | 3 => 0 | 4 => 1 | n => n⟩
theorem Tryd.lays196 : Go.Proofs.Lays.n196 Tryd.prog Tryd.lays196_ren := {
  mixed := by kernel_rfl
  f196 := Tryd.func108.trans (congrArg some (by kernel_rfl))
  f259 := Tryd.func128.trans (congrArg some (by kernel_rfl))
  t0 := Tryd.underlying0
  a0 := Tryd.isAgg0
  z0 := Tryd.sizeOf0
  v0 := Tryd.zeroValue0
  t3 := Tryd.underlying3
  a3 := Tryd.isAgg3
  z3 := Tryd.sizeOf3
  v3 := Tryd.zeroValue3
  t4 := Tryd.underlying4
  a4 := Tryd.isAgg4
  z4 := Tryd.sizeOf4
  v4 := Tryd.zeroValue4
  t5 := Tryd.underlying5
  a5 := Tryd.isAgg5
  z5 := Tryd.sizeOf5
  v5 := Tryd.zeroValue5
  t9 := Tryd.underlying9
  a9 := Tryd.isAgg9
  z9 := Tryd.sizeOf9
  v9 := Tryd.zeroValue9
  t12 := Tryd.underlying12
  a12 := Tryd.isAgg12
  z12 := Tryd.sizeOf12
  v12 := Tryd.zeroValue12
  t46 := Tryd.underlying110
  a46 := Tryd.isAgg110
  z46 := Tryd.sizeOf110
  v46 := Tryd.zeroValue110
  t53 := Tryd.underlying25
  a53 := Tryd.isAgg25
  z53 := Tryd.sizeOf25
  v53 := Tryd.zeroValue25
  t119 := Tryd.underlying139
  a119 := Tryd.isAgg139
  z119 := Tryd.sizeOf139
  t138 := Tryd.underlying141
  a138 := Tryd.isAgg141
  z138 := Tryd.sizeOf141
  v138 := Tryd.zeroValue141
  t139 := Tryd.underlying142
  a139 := Tryd.isAgg142
  z139 := Tryd.sizeOf142
  v139 := Tryd.zeroValue142
  g3 := by kernel_rfl
  g4 := by kernel_rfl }
end Go.Proofs

namespace Go.Proofs.YtbaipppmefencaaDoor.Row
open Go.Shelf Go.ChangeShapes Go.WideShapes Go.ChangeAt Go.RowKit Go.Lib
open Go.ChangeMaps (open_string shut_string)

/-! ### what all rows of this seat share: the listed variables, the world in which they lie -/
theorem own : ownKnob Tryd.prog.godebug = none := by kernel_rfl
noncomputable def laid : List (String × DataW Unit) := [("unicode/utf8.acceptRanges", Rows.laid_unicode_utf8_acceptRanges), ("unicode/utf8.first", Rows.laid_unicode_utf8_first)]

/-- The settled world, the two variables holding what their initialisers lay. -/
noncomputable def laidWorld (os : Os) : World :=
  let w0 := World.holding Tryd.prog os ⟨#[], #[], []⟩
  let put (h : Array Obj) (g : Nat) (cs : Array Value) : Array Obj := h.modify g fun
    | .cells _ t frozen => .cells cs t frozen
    | o => o
  let h1 := put w0.heap 0 (Lib.firstTab.map fun z => Value.int .u8 z).toArray
  let h2 := put h1 1 ((List.range 16).flatMap fun i => [Value.int .u8 (Lib.accLo i), Value.int .u8 (Lib.accHi i)]).toArray
  { w0 with heap := h2 }
theorem laid_met (os : Os) (args : Array Value) : laidMet Tryd.prog laid ((laidWorld os).forCall (fun _ _ => 0) ⟨#[], args, []⟩).memory :=
  (LaidIn.of_run (l := laid) [1, 0] 8 (by kernel_rfl) (by kernel_rfl) (by kernel_rfl) (by kernel_rfl)).met

theorem accept_eq : (Rows.laid_unicode_utf8_acceptRanges : DataW Unit) = Lib.acceptData := by kernel_rfl
theorem first_eq : Rows.laid_unicode_utf8_first = Lib.firstData := by kernel_rfl

/-- What the contracts ask, out of what the rows grant. -/
theorem gw_of {W : World} (hL : laidMetH Tryd.prog laid W) (hS : W.ShapedOpen Tryd.prog) : P.GW W := by
  have h4 := Lib.laidMet.reads hL (n := "unicode/utf8.acceptRanges") (d := Rows.laid_unicode_utf8_acceptRanges) (.head _)
  have h3 := Lib.laidMet.reads hL (n := "unicode/utf8.first") (d := Rows.laid_unicode_utf8_first) (.tail _ (.head _))
  rw [accept_eq] at h4
  rw [first_eq] at h3
  refine ⟨utf8Tabs_of_readsT (U8Types.of196 Tryd.lays196) ⟨by kernel_rfl, by kernel_rfl, by kernel_rfl, by kernel_rfl, by kernel_rfl, by kernel_rfl, by kernel_rfl⟩ h3 h4, ?_⟩
  exact cell_of_shapedOpen_int (zero := #[.int .i64 0]) (t := 3) hS (of_decide_eq_true (by kernel_rfl)) (by kernel_rfl) rfl (by kernel_rfl) (by kernel_rfl) Tryd.underlying3
end Go.Proofs.YtbaipppmefencaaDoor.Row

namespace Go.Proofs.YtbaipppmefencaaDoor.P
open Go.RowKit Go.Proofs.YtbaipppmefencaaDoorW.PrintWords Go.Proofs.YtbaipppmefencaaDoorW.PrintLast Go.Proofs.YtbaipppmefencaaDoorW.PrintMore
attribute [local go_sem] max2_int min2_int max_two min_two max_three min_three max_four min_four
set_option linter.unusedVariables false
set_option linter.unusedSimpArgs false

def errW : Option Int → Value
  | none => .nilIface
  | some c => .iface 0 (.int .i64 c)
theorem errW_none : errW none = .nilIface := rfl
theorem errW_some (c : Int) : errW (some c) = .iface 0 (.int .i64 c) := rfl

theorem info3 : (Tryd.prog.info? 3).map (fun i => (i.zero, i.size, i.bytes)) = some (some (.int .i64 0), 1, 8) := by kernel_rfl
theorem info5 : (Tryd.prog.info? 5).map (fun i => (i.zero, i.size, i.bytes)) = some (some (.int .u8 0), 1, 1) := by kernel_rfl
theorem info9 : (Tryd.prog.info? 9).map (fun i => (i.zero, i.size, i.bytes)) = some (some (.string ⟨#[]⟩), 1, 16) := by kernel_rfl
theorem info63 : (Tryd.prog.info? 63).map (fun i => (i.zero, i.size, i.bytes)) = some (some (.agg #[(.int .u8 0), (.int .u32 0), (.string ⟨#[]⟩), (.string ⟨#[]⟩)]), 4, 40) := by kernel_rfl
theorem info65 : (Tryd.prog.info? 65).map (fun i => (i.zero, i.size, i.bytes)) = some (some (.agg #[(.int .u8 0), (.int .u32 0), (.string ⟨#[]⟩), (.string ⟨#[]⟩)]), 4, 40) := by kernel_rfl
-- the values' own types

end Go.Proofs.YtbaipppmefencaaDoor.P

namespace Go.Proofs.YtbaipppmefencaaDoor.P
open Go.RowKit Go.Proofs.YtbaipppmefencaaDoorW.PrintWords Go.Proofs.YtbaipppmefencaaDoorW.PrintLast Go.Proofs.YtbaipppmefencaaDoorW.PrintMore
attribute [local go_sem] max2_int min2_int max_two min_two max_three min_three max_four min_four
set_option linter.unusedVariables false
set_option linter.unusedSimpArgs false

/-! ### pouchref04_Fix: function 11 -/
def pouchref04_Fix.l0 : Nat → ByteArray → List ByteArray → ByteArray → Int → Option (ByteArray)
  | 0, _, _, _, _ => none
  | k + 1, x0, x3, x4, x5 => if x5 < (x0.size : Int) then (if x5 < 8 then (if 0 ≤ x5 then (if (x3.length : Int) = 0 then (none) else (if 0 ≤ (Int.tmod (wrap64 (bt x0 x5)) (x3.length : Int)) then (if (Int.tmod (wrap64 (bt x0 x5)) (x3.length : Int)) < (x3.length : Int) then (if x4.size + (rdOf ByteArray.empty x3 (Int.tmod (wrap64 (bt x0 x5)) (x3.length : Int))).size ≤ 9223372036854775807 then (pouchref04_Fix.l0 k x0 x3 (x4 ++ (rdOf ByteArray.empty x3 (Int.tmod (wrap64 (bt x0 x5)) (x3.length : Int)))) (wrap64 (x5 + 1))) else (none)) else (none)) else (none))) else (none)) else (if x4.toList = ([] : List UInt8) then (some (⟨#[97]⟩ : ByteArray)) else (some x4))) else (if x4.toList = ([] : List UInt8) then (some (⟨#[97]⟩ : ByteArray)) else (some x4))
def pouchref04_Fix.f (k : Nat) (a0 : ByteArray) : Option (ByteArray) := pouchref04_Fix.l0 k a0 (([(⟨#[97]⟩ : ByteArray), (⟨#[98]⟩ : ByteArray), (⟨#[47]⟩ : ByteArray), (⟨#[99]⟩ : ByteArray), (⟨#[100]⟩ : ByteArray), (⟨#[47]⟩ : ByteArray), (⟨#[195, 164]⟩ : ByteArray), (⟨#[101]⟩ : ByteArray)] : List ByteArray)) (⟨#[]⟩ : ByteArray) 0
theorem pouchref04_Fix.mono_l : ∀ k, (∀ y0 y1 y2 y3, LeO (pouchref04_Fix.l0 k y0 y1 y2 y3) (pouchref04_Fix.l0 (k + 1) y0 y1 y2 y3))
  | 0 => fun _ _ _ _ r h => by simp [pouchref04_Fix.l0] at h
  | k + 1 => by
    have ih0 := pouchref04_Fix.mono_l k
    · intro y0 y1 y2 y3
      unfold pouchref04_Fix.l0
      repeat' first
      | (with_reducible exact ih0 _ _ _ _)
      | (with_reducible exact LeO.refl _)
      | (with_reducible exact LeO.none _)
      | (with_reducible refine LeO.ite ?_ ?_)
      | (with_reducible refine LeO.bind ?_ (fun _ => ?_))
      | exact ih0 _ _ _ _
      | exact LeO.none _
      | refine LeO.ite ?_ ?_
      | refine LeO.bind ?_ (fun _ => ?_)
theorem pouchref04_Fix.mono : ∀ a0 k, LeO (pouchref04_Fix.f k a0) (pouchref04_Fix.f (k + 1) a0) := by
  intro a0 k
  have ih0 := pouchref04_Fix.mono_l k
  unfold pouchref04_Fix.f
  repeat' first
      | (with_reducible exact ih0 _ _ _ _)
      | (with_reducible exact LeO.refl _)
      | (with_reducible exact LeO.none _)
      | (with_reducible refine LeO.ite ?_ ?_)
      | (with_reducible refine LeO.bind ?_ (fun _ => ?_))
      | exact ih0 _ _ _ _
      | exact LeO.none _
      | refine LeO.ite ?_ ?_
      | refine LeO.bind ?_ (fun _ => ?_)
set_option maxHeartbeats 8000000 in
set_option maxRecDepth 100000 in
theorem pouchref04_Fix.calls (k : Nat) (a0 : ByteArray) (r : ByteArray) (w : World) (h : pouchref04_Fix.f k a0 = some r) :
    Calls Tryd.prog 11 #[.string a0] w fun e w' => e = .returned (.string r) ∧ Below w.heap.size w w' := by
  have HB := Aside0.mk (Below.refl w.heap.size w)
  have H : (pouchref04_Fix.l0 k a0 (([(⟨#[97]⟩ : ByteArray), (⟨#[98]⟩ : ByteArray), (⟨#[47]⟩ : ByteArray), (⟨#[99]⟩ : ByteArray), (⟨#[100]⟩ : ByteArray), (⟨#[47]⟩ : ByteArray), (⟨#[195, 164]⟩ : ByteArray), (⟨#[101]⟩ : ByteArray)] : List ByteArray)) (⟨#[]⟩ : ByteArray) 0) = some r := h
  clear h
  obtain ⟨y101, hy101⟩ : ∃ y_ : List ByteArray, y_ = (([(⟨#[97]⟩ : ByteArray), (⟨#[98]⟩ : ByteArray), (⟨#[47]⟩ : ByteArray), (⟨#[99]⟩ : ByteArray), (⟨#[100]⟩ : ByteArray), (⟨#[47]⟩ : ByteArray), (⟨#[195, 164]⟩ : ByteArray), (⟨#[101]⟩ : ByteArray)] : List ByteArray)) := ⟨_, rfl⟩
  replace H : (pouchref04_Fix.l0 k a0 y101 (⟨#[]⟩ : ByteArray) 0) = some r := by first | (rw [hy101]; with_reducible exact H) | (have H2_ := (Option.bind_some _ _).symm.trans H; rw [hy101]; with_reducible exact H2_) | (have H2_ := (Option.bind_some _ _).symm.trans H; with_reducible exact H2_) | with_reducible exact H | (rw [hy101]; exact H) | exact H
  have Ny101 := Aside0.mk hy101
  clear hy101
  have H' := Aside0.mk H
  clear H
  go_enter Tryd.func11, Tryd.ntmps11
  go_wp2_with (first | ((with_reducible refine gate_dst (N := 6) rfl ?_); refine Kd.R_lit Kd.string _ 9 ?hg (N := 6) ?hd (xs := ([(⟨#[97]⟩ : ByteArray), (⟨#[98]⟩ : ByteArray), (⟨#[47]⟩ : ByteArray), (⟨#[99]⟩ : ByteArray), (⟨#[100]⟩ : ByteArray), (⟨#[47]⟩ : ByteArray), (⟨#[195, 164]⟩ : ByteArray), (⟨#[101]⟩ : ByteArray)] : List ByteArray)) (inner := [.string (⟨#[97]⟩ : ByteArray), .string (⟨#[98]⟩ : ByteArray), .string (⟨#[47]⟩ : ByteArray), .string (⟨#[99]⟩ : ByteArray), .string (⟨#[100]⟩ : ByteArray), .string (⟨#[47]⟩ : ByteArray), .string (⟨#[195, 164]⟩ : ByteArray), .string (⟨#[101]⟩ : ByteArray)]) (ok := fun _ => True) (okp := fun _ => True) ?hr ?hp (fun _ hk => hk) trivial (Below.refl _ _) (Nat.le_refl _) (by simp) ?_; (case hd => rfl); (case hg => rfl); (case hr => first | (go_simp; done) | (go_simp; rfl)); (case hp => exact (Reps.one (show Kd.M Kd.string _ _ _ (⟨#[97]⟩ : ByteArray) [.string (⟨#[97]⟩ : ByteArray)] from rfl) (Reps.one (show Kd.M Kd.string _ _ _ (⟨#[98]⟩ : ByteArray) [.string (⟨#[98]⟩ : ByteArray)] from rfl) (Reps.one (show Kd.M Kd.string _ _ _ (⟨#[47]⟩ : ByteArray) [.string (⟨#[47]⟩ : ByteArray)] from rfl) (Reps.one (show Kd.M Kd.string _ _ _ (⟨#[99]⟩ : ByteArray) [.string (⟨#[99]⟩ : ByteArray)] from rfl) (Reps.one (show Kd.M Kd.string _ _ _ (⟨#[100]⟩ : ByteArray) [.string (⟨#[100]⟩ : ByteArray)] from rfl) (Reps.one (show Kd.M Kd.string _ _ _ (⟨#[47]⟩ : ByteArray) [.string (⟨#[47]⟩ : ByteArray)] from rfl) (Reps.one (show Kd.M Kd.string _ _ _ (⟨#[195, 164]⟩ : ByteArray) [.string (⟨#[195, 164]⟩ : ByteArray)] from rfl) (Reps.one (show Kd.M Kd.string _ _ _ (⟨#[101]⟩ : ByteArray) [.string (⟨#[101]⟩ : ByteArray)] from rfl) (Reps.none _ _)))))))))); intro v102 w2 ho3 hb hg_ hnew_; clear hg_ hnew_; (first | rw [← Ny101.out] at ho3 | (simp only [Int.reduceToNat] at ho3; rw [← Ny101.out] at ho3)); have n0_ := Aside0.mk (Kd.R_lower ho3 (below_size (by repeat (first | (with_reducible first | exact HB.out | apply below_alloc | apply pw_below_drewN | apply below_drew1) | exact HB.out)))); have n1_ := Aside0.mk (below_step (by repeat (first | (with_reducible first | exact HB.out | apply below_alloc | apply pw_below_drewN | apply below_drew1) | exact HB.out)) hb); clear HB; have HO103 := n0_; have HB := n1_; clear n0_ n1_; clear hb ho3))
  go_loopg [4, 5] k (fun kq v4 v5 w' => ∃ (x4_1 : ByteArray) (x5_1 : Int), v4 = .string x4_1 ∧ v5 = .int .i64 x5_1 ∧ Aside0 (pouchref04_Fix.l0 kq a0 y101 x4_1 x5_1 = some r) ∧ Aside0 (kq ≤ k) ∧ Aside0 (Kd.R Kd.string 9 w' w.heap.size (fun _ => True) v102 y101) ∧ Aside0 (Below w.heap.size w w'))
  case atStart => exact ⟨((⟨#[]⟩ : ByteArray)), (0), (by first | rfl | (simp; done) | (simp [*]; done)), (by first | rfl | (simp; done) | (simp [*]; done)), H', ⟨Nat.le_refl _⟩, ⟨by (with_reducible repeat (first | apply Kd.R_alloc | apply Kd.R_drewN | apply Kd.R_drew)); exact HO103.out⟩, ⟨by repeat (first | (with_reducible first | exact HB.out | apply below_alloc | apply pw_below_drewN | apply below_drew1) | exact HB.out)⟩⟩
  case round =>
    clear H'
    try clear c1
    try clear p2
    obtain ⟨x4_1, x5_1, rfl, rfl, HA, HK1, HO_3, HB⟩ := hrel
    cases gk with
    | zero => exact absurd HA.out (by simp [pouchref04_Fix.l0])
    | succ k1 =>
      have H := HA.out
      clear HA
      simp only [pouchref04_Fix.l0] at H
      by_cases c4 : x5_1 < (a0.size : Int)
      · rw [if_pos c4] at H
        have c4b0 : decide (x5_1 < (a0.size : Int)) = true := decide_eq_true c4
        clear c4
        by_cases c5 : x5_1 < 8
        · rw [if_pos c5] at H
          have c5b0 : decide (x5_1 < 8) = true := decide_eq_true c5
          clear c5
          by_cases c6 : 0 ≤ x5_1
          · rw [if_pos c6] at H
            have c6b0 : decide (0 ≤ x5_1) = true := decide_eq_true c6
            clear c6
            by_cases c8 : (y101.length : Int) = 0
            · rw [if_pos c8] at H
              exact absurd H (by simp)
            · rw [if_neg c8] at H
              have c8b0 : ((y101.length : Int) == 0) = false := beq_eq_false_iff_ne.mpr c8
              have c8b1 : ((y101.length : Int) != 0) = true := bne_iff_ne.mpr c8
              have c8b2 : ¬ (y101 = []) := fun h_ => c8 (by rw [h_]; rfl)
              obtain ⟨ji9, hji9⟩ : ∃ j_ : Int, (Int.tmod (wrap64 (bt a0 x5_1)) (y101.length : Int)) = j_ := ⟨_, rfl⟩
              replace H : (if 0 ≤ (ji9) then (if (ji9) < (y101.length : Int) then (if x4_1.size + (rdOf ByteArray.empty y101 (ji9)).size ≤ 9223372036854775807 then (pouchref04_Fix.l0 k1 a0 y101 (x4_1 ++ (rdOf ByteArray.empty y101 (ji9))) (wrap64 (x5_1 + 1))) else (none)) else (none)) else (none)) = some r := by first | (rw [hji9] at H; exact H) | (simp only [hji9] at H ⊢; exact H)
              by_cases c10 : 0 ≤ (ji9)
              · rw [if_pos c10] at H
                have c10b0 : decide (0 ≤ (ji9)) = true := decide_eq_true c10
                clear c10
                by_cases c11 : (ji9) < (y101.length : Int)
                · rw [if_pos c11] at H
                  have c11b0 : decide ((ji9) < (y101.length : Int)) = true := decide_eq_true c11
                  clear c11
                  by_cases c12 : x4_1.size + (rdOf ByteArray.empty y101 (ji9)).size ≤ 9223372036854775807
                  · rw [if_pos c12] at H
                    have c12b0 := eq_true c12
                    have c12b1 : decide (x4_1.size + (rdOf ByteArray.empty y101 (ji9)).size ≤ 9223372036854775807) = true := decide_eq_true c12
                    try have c12b2 : (9223372036854775807 < x4_1.size + (rdOf ByteArray.empty y101 (ji9)).size) = False := eq_false (Nat.not_lt.2 c12)
                    have H' := Aside0.mk H
                    clear H
                    have p7 : 0 ≤ (x5_1 : Int) := of_decide_eq_true (by first | (with_reducible assumption) | assumption)
                    have q7 : x5_1 < (a0.size : Int) := of_decide_eq_true (by first | (with_reducible assumption) | assumption)
                    have hx7 := bt_at a0 x5_1
                    replace p7 := eq_true p7
                    replace q7 := eq_true q7
                    obtain ⟨Ao13, co13, eo13⟩ := Kd.R_slice HO_3.out
                    subst eo13
                    have p104 : 0 ≤ ((ji9) : Int) := of_decide_eq_true (by first | (with_reducible assumption) | assumption)
                    have q104 : (ji9) < (y101.length : Int) := of_decide_eq_true (by first | (with_reducible assumption) | assumption)
                    obtain ⟨ad104, e104, hx104_0⟩ := Kd.at_string (Kd.R_reads' HO_3.out).2.2 (ji9) p104 q104
                    cases e104
                    replace p104 := eq_true p104
                    replace q104 := eq_true q104
                    go_wp2
                    go_roundg k1
                    case measure => have := HK1.out; omega
                    case rel => exact ⟨(x4_1 ++ (rdOf ByteArray.empty y101 (ji9))), (wrap64 (x5_1 + 1)), (by first | rfl | (simp; done) | (simp only [← hji9] <;> (first | rfl | simp)) | (simp [*]; done)), (by first | rfl | (simp; done) | (simp [*]; done)), H', ⟨by have := HK1.out; omega⟩, ⟨by (with_reducible repeat (first | apply Kd.R_alloc | apply Kd.R_drewN | apply Kd.R_drew)); exact HO_3.out⟩, ⟨by repeat (first | (with_reducible first | exact HB.out | apply below_alloc | apply pw_below_drewN | apply below_drew1) | exact HB.out)⟩⟩
                  · rw [if_neg c12] at H
                    exact absurd H (by simp)
                · rw [if_neg c11] at H
                  exact absurd H (by simp)
              · rw [if_neg c10] at H
                exact absurd H (by simp)
          · rw [if_neg c6] at H
            exact absurd H (by simp)
        · rw [if_neg c5] at H
          have c5b0 : decide (x5_1 < 8) = false := decide_eq_false c5
          clear c5
          by_cases c14 : x4_1.toList = ([] : List UInt8)
          · rw [if_pos c14] at H
            have c14b0 : (x4_1.toList == ([] : List UInt8)) = true := beq_iff_eq.mpr c14
            have c14b1 : (x4_1.toList != ([] : List UInt8)) = false := bne_eq_false_iff_eq.mpr c14
            clear c14
            obtain rfl := Option.some.inj H
            go_wp2
            go_ret
            exact ⟨by first | rfl | (simp [errW_none, errW_some] <;> rfl) | (simp [*, errW_none, errW_some] <;> rfl), by repeat (first | (with_reducible first | exact HB.out | apply below_alloc | apply pw_below_drewN | apply below_drew1) | exact HB.out)⟩
          · rw [if_neg c14] at H
            have c14b0 : (x4_1.toList == ([] : List UInt8)) = false := beq_eq_false_iff_ne.mpr c14
            have c14b1 : (x4_1.toList != ([] : List UInt8)) = true := bne_iff_ne.mpr c14
            obtain rfl := Option.some.inj H
            go_wp2
            go_ret
            exact ⟨by first | rfl | (simp [errW_none, errW_some] <;> rfl) | (simp [*, errW_none, errW_some] <;> rfl), by repeat (first | (with_reducible first | exact HB.out | apply below_alloc | apply pw_below_drewN | apply below_drew1) | exact HB.out)⟩
      · rw [if_neg c4] at H
        have c4b0 : decide (x5_1 < (a0.size : Int)) = false := decide_eq_false c4
        clear c4
        by_cases c15 : x4_1.toList = ([] : List UInt8)
        · rw [if_pos c15] at H
          have c15b0 : (x4_1.toList == ([] : List UInt8)) = true := beq_iff_eq.mpr c15
          have c15b1 : (x4_1.toList != ([] : List UInt8)) = false := bne_eq_false_iff_eq.mpr c15
          clear c15
          obtain rfl := Option.some.inj H
          go_wp2
          go_ret
          exact ⟨by first | rfl | (simp [errW_none, errW_some] <;> rfl) | (simp [*, errW_none, errW_some] <;> rfl), by repeat (first | (with_reducible first | exact HB.out | apply below_alloc | apply pw_below_drewN | apply below_drew1) | exact HB.out)⟩
        · rw [if_neg c15] at H
          have c15b0 : (x4_1.toList == ([] : List UInt8)) = false := beq_eq_false_iff_ne.mpr c15
          have c15b1 : (x4_1.toList != ([] : List UInt8)) = true := bne_iff_ne.mpr c15
          obtain rfl := Option.some.inj H
          go_wp2
          go_ret
          exact ⟨by first | rfl | (simp [errW_none, errW_some] <;> rfl) | (simp [*, errW_none, errW_some] <;> rfl), by repeat (first | (with_reducible first | exact HB.out | apply below_alloc | apply pw_below_drewN | apply below_drew1) | exact HB.out)⟩

end Go.Proofs.YtbaipppmefencaaDoor.P

namespace Go.Proofs.YtbaipppmefencaaDoor.P
open Go.RowKit Go.Proofs.YtbaipppmefencaaDoorW.PrintWords

/-! ### the library's functions, as the printed texts want them -/
def utf8_ValidString.f (a0 : ByteArray) : Option Bool := if a0.size ≤ 9223372036854775807 then some (Go.Lib.validD a0.data.toList) else none
theorem utf8_ValidString.calls (a0 : ByteArray) (r : Bool) (w : World) (hG : GW w) (h : utf8_ValidString.f a0 = some r) :
    Calls Tryd.prog 108 #[.string a0] w fun e w' => e = .returned (.bool r) ∧ Below w.heap.size w w' := by
  unfold utf8_ValidString.f at h
  split at h
  · obtain rfl := Option.some.inj h
    exact Any.utf8_ValidString Tryd.lays196 a0 w ‹_› hG.1
  · cases h

def strings_Contains.f (a0 a1 : ByteArray) : Option Bool := if a0.size < 4294967281 then some (Go.Lib.contains a0.data.toList a1.data.toList) else none
theorem strings_Contains.calls (a0 : ByteArray) (a1 : ByteArray) (r : Bool) (w : World) (hG : GW w) (h : strings_Contains.f a0 a1 = some r) :
    Calls Tryd.prog 109 #[.string a0, .string a1] w fun e w' => e = .returned (.bool r) ∧ Drawn0 w w' := by
  unfold strings_Contains.f at h
  split at h
  · obtain rfl := Option.some.inj h
    obtain ⟨m, hm⟩ := hG.2
    exact (Tryd.strings_Contains a0 a1 m w ‹_› hm).mono fun e w' ⟨he, hw⟩ => ⟨he, hw ▸ Drawn0.refl _⟩
  · cases h

def strings_Cut.f (a0 a1 : ByteArray) : Option (ByteArray × ByteArray × Bool) :=
  if a0.size < 4294967281 then some (⟨(Go.Lib.cut a0.data.toList a1.data.toList).1.toArray⟩, ⟨(Go.Lib.cut a0.data.toList a1.data.toList).2.1.toArray⟩, (Go.Lib.cut a0.data.toList a1.data.toList).2.2) else none
theorem strings_Cut.calls (a0 : ByteArray) (a1 : ByteArray) (r1 : ByteArray) (r2 : ByteArray) (r3 : Bool) (w : World) (hG : GW w) (h : strings_Cut.f a0 a1 = some (r1, r2, r3)) :
    Calls Tryd.prog 79 #[.string a0, .string a1] w fun e w' => e = .returned (.tuple #[.string r1, .string r2, .bool r3]) ∧ Drawn0 w w' := by
  unfold strings_Cut.f at h
  split at h
  · have h := Option.some.inj h
    simp only [Prod.mk.injEq] at h
    obtain ⟨rfl, rfl, rfl⟩ := h
    obtain ⟨m, hm⟩ := hG.2
    exact (Tryd.strings_Cut a0 a1 m w ‹_› hm).mono fun e w' ⟨he, n, hw⟩ => ⟨he, ⟨⟨n, hw⟩⟩⟩
  · cases h

def strings_Split.f (a0 a1 : ByteArray) : Option (List ByteArray) := if a0.size < 4294967281 then (if 1 ≤ a1.size then some (Go.Lib.splitB a1 0 (Go.Lib.countB a0 a1) a0) else none) else none
theorem strings_Split.calls (a0 : ByteArray) (a1 : ByteArray) (r : List ByteArray) (w : World) (hG : GW w) (h : strings_Split.f a0 a1 = some r) :
    Calls Tryd.prog 46 #[.string a0, .string a1] w fun e w' => ∃ v0_ : Value, e = .returned (v0_) ∧ Kd.R Kd.string 9 w' w.heap.size (fun _ => True) v0_ r ∧ Below w.heap.size w w' := by
  unfold strings_Split.f at h
  split at h
  · split at h
    · obtain rfl := Option.some.inj h
      obtain ⟨m, hm⟩ := hG.2
      rename_i h1 h2
      refine (Tryd.strings_Split a0 a1 m w h1 hm h2).mono fun e w' ⟨he, hw⟩ => ?_
      have hl : (Go.Lib.splitB a1 0 (Go.Lib.countB a0 a1) a0).length = Go.Lib.countB a0 a1 + 1 := Go.Lib.splitB_all a1 h2 0 _ a0 rfl
      have hle := Go.Lib.countB_le a1 h2 a0.size a0 (Nat.le_refl _)
      refine ⟨_, he, Kd.R_of_own (enc := Value.string) (h1 := fun _ => rfl) ?_ (fun _ _ => trivial), hw ▸ below_alloc (Below.refl _ _) _⟩
      subst hw
      refine ⟨by simp [encs], .inr ⟨w.heap.size, Go.Lib.countB a0 a1 + 1, _, ?_, Nat.le_refl _, heap_alloc_new w _, ?_, ?_, ?_, ?_⟩⟩
      · rw [hl]
      · omega
      · unfold maxLen; omega
      · simp [hl]
      · simp only [encs, hl, Nat.mul_one]; exact List.take_of_length_le (by simp [hl])
    · cases h
  · cases h
end Go.Proofs.YtbaipppmefencaaDoor.P

namespace Go.Proofs.YtbaipppmefencaaDoor.P
open Go.RowKit Go.Shelf Go.Lib Go.Proofs.YtbaipppmefencaaDoorW.PrintWords

/-! ### strings.IndexAny at the two wildcards, at every string -/
def two : ByteArray := ⟨#[43, 35]⟩
theorem two_size : two.size = 2 := rfl
theorem two_list : two.data.toList = [43, 35] := rfl

/-- Behind the first byte of what Utf8.decode takes as one stand bytes of 128 and more alone. -/
theorem decode_tail (s : ByteArray) (pos : Nat) (h : pos < s.size) :
    pos + (Utf8.decode s pos).2 ≤ s.size ∧ 1 ≤ (Utf8.decode s pos).2 ∧ ∀ j, 1 ≤ j → j < (Utf8.decode s pos).2 → 128 ≤ (s.get! (pos + j)).toNat := by
  have hd : ∀ a : Nat, a / 64 = 2 → 128 ≤ a := fun a ha => by omega
  simp only [Utf8.decode, get_at s pos h]
  repeat' split
  all_goals simp_all
  all_goals try omega
  all_goals (refine ⟨by omega, fun j h1 h2 => ?_⟩)
  all_goals (have h3 : j = 1 ∨ j = 2 ∨ j = 3 := by omega)
  all_goals (rcases h3 with rfl | rfl | rfl <;> omega)

theorem get_list (s : ByteArray) (i : Nat) (h : i < s.size) : s.data.toList[i]? = some (s.get! i) := by
  rw [Lib.data_getElem? s i h, ← get_at s i h]; rfl

theorem noAny_high (s : ByteArray) (i n : Nat) (hn : NoAny s.data.toList [43, 35] i) (hle : i + n ≤ s.size) (h : ∀ j, j < n → 128 ≤ (s.get! (i + j)).toNat) : NoAny s.data.toList [43, 35] (i + n) := fun j b hj hb => by
  by_cases e : j < i
  · exact hn j b e hb
  · have hg := get_list s j (by omega)
    rw [hb] at hg
    have h1 := h (j - i) (by omega)
    rw [show i + (j - i) = j by omega] at h1
    obtain rfl := Option.some.inj hg
    have h2 : s.get! j ≠ 43 := fun e2 => by rw [e2] at h1; exact absurd h1 (by decide)
    have h3 : s.get! j ≠ 35 := fun e2 => by rw [e2] at h1; exact absurd h1 (by decide)
    simp [h2, h3]

theorem quiet_add_same {P : Program} {f : FuncId} {args : Array Value} {w : World} {a n : Nat} {v : Value}
    (h : Calls P f args (w.drewN (a + n)) fun e w' => e = .returned v ∧ w' = w.drewN (a + n)) :
    Calls P f args (w.drewN (a + n)) fun e w'' => e = .returned v ∧ ∃ m, w'' = w.drewN (a + m) :=
  h.mono fun _ _ ⟨he, hm⟩ => ⟨he, n, hm⟩
theorem iter_below (w : World) (s : ByteArray) (i : Nat) : Below w.heap.size w (w.iter s i) := (Below.refl _ w).alloc (Nat.le_refl _) _
set_option maxHeartbeats 4000000 in
set_option maxRecDepth 1000000 in
theorem indexRune_high1 (w : World) :
    Calls Tryd.prog 129 #[.string two, .int .i32 65533] w fun e w' => e = .returned (.int .i64 (-1)) ∧ Below w.heap.size w w' := by
  have hs2 : two.size = 2 := rfl
  go_enter Tryd.func129, Tryd.ntmps129
  go_wp2
  go_loopg [5] 2 (fun g _ wx => ∃ i : Nat, i + g = 2 ∧ wx = w.iter two i)
  case atStart => exact ⟨0, rfl, rfl⟩
  case round =>
    obtain ⟨i, hi, rfl⟩ := hrel
    cases gk with
    | zero =>
      obtain rfl : i = 2 := by omega
      have hnx := run_next_end (P := Tryd.prog) w two 2
      go_wp2
      go_ret
      exact ⟨rfl, iter_below _ _ _⟩
    | succ g =>
      have hlt : i < two.size := by rw [two_size]; omega
      obtain ⟨x, hx⟩ : ∃ x : UInt8, two[i]'hlt = x := ⟨_, rfl⟩
      have hx128 : x.toNat < 128 := by
        subst hx
        have b0 : ∀ h : 0 < two.size, (two[0]'h).toNat = 43 := fun _ => rfl
        have b1 : ∀ h : 1 < two.size, (two[1]'h).toNat = 35 := fun _ => rfl
        rcases (by omega : i = 0 ∨ i = 1) with rfl | rfl
        · rw [b0]; decide
        · rw [b1]; decide
      have hnx := fun ty => run_next_ascii (P := Tryd.prog) w two i ty hlt (by rw [hx]; exact hx128)
      rw [hx] at hnx
      go_wp2
      go_roundg g
      case measure => omega
      case rel => exact ⟨i + 1, by omega, rfl⟩
set_option maxHeartbeats 4000000 in
set_option maxRecDepth 1000000 in
theorem indexRune_valid (r : Int) (w : World) (h0 : 128 ≤ r) (h1 : r ≤ 2147483647) (hr1 : (r == 65533) = false) (hv : r < 55296 ∨ 57343 < r ∧ r ≤ 1114111)
    (E : ByteArray) (hE : Utf8.encode r = E) (z2 : 2 ≤ E.size) (z4 : E.size ≤ 4) (hx : ∀ h : E.size - 1 < E.size, 128 ≤ (E[E.size - 1]'h).toNat) :
    Calls Tryd.prog 129 #[.string two, .int .i32 r] w fun e w' => e = .returned (.int .i64 (-1)) ∧ Below w.heap.size w w' := by
  have hs2 : two.size = 2 := rfl
  have hr2 : ¬ r < 128 := by omega
  have hr3 : 0 ≤ r := by omega
  have b1 : ∀ h : 1 < two.size, (two[1]'h).toNat = 35 := fun _ => rfl
  have hib : ∀ c, Lib.indexByte (two.extract 2 2).data.toList c = -1 := fun _ => rfl
  by_cases hs3 : 3 ≤ E.size
  · rcases hv with hv | ⟨hv, hv2⟩
    all_goals
      clear hx
      go_enter Tryd.func129, Tryd.ntmps129
      go_wp2
      go_step3
      go_wp2
      go_loopg [9] 1 (fun g v9 wx => v9 = .int .i64 ((E.size : Int) - 1) ∧ wx = w)
      case atStart => exact ⟨rfl, rfl⟩
      case round =>
        obtain ⟨rfl, rfl⟩ := hrel
        go_wp2
        rw [Exit.noGoto_ret]
        go_ret
        exact ⟨rfl, Below.refl _ _⟩
  · have hs : E.size = 2 := by omega
    obtain ⟨x, hx2⟩ : ∃ x : UInt8, E[1]'(hs ▸ by decide) = x := ⟨_, rfl⟩
    have hx3 : 128 ≤ x.toNat := by
      have := hx (by omega)
      subst hx2
      simpa [hs] using this
    have q1 : (two[1]'(by decide)).toNat = 35 := rfl
    have q2 : ((35 : Int) != (x.toNat : Int)) = true := by rw [bne_iff_ne]; omega
    clear hx z2 z4 hs3 b1
    rcases hv with hv | ⟨hv, hv2⟩
    all_goals
      go_enter Tryd.func129, Tryd.ntmps129
      go_wp2
      go_step3
      go_wp2
      go_loopg [9] 1 (fun g v9 wx => v9 = .int .i64 1 ∧ wx = w)
      case atStart => exact ⟨rfl, rfl⟩
      case round =>
        obtain ⟨rfl, rfl⟩ := hrel
        go_wp2
        go_step3
        go_wp2_with (fail)
        go_quiet (fail)
        go_wp2_with (fail)
        have hw1 : IntKind.i64.wrap (1 + 1) = 2 := by decide
        have hw2 : IntKind.i64.wrap 2 = 2 := by decide
        have hw3 : (2 : Int) ≤ (two.size : Int) := by decide
        go_quiet ((go_at_call 143; exact quiet_add_same (Tryd.strings_IndexByte _ _ _)))
        go_wp2
        simp only [Exit.noGoto_ret, Exit.inBlock, Exit.then]
        go_ret
        exact ⟨rfl, pw_below_drewN (Below.refl _ _) _⟩

set_option maxHeartbeats 4000000 in
set_option maxRecDepth 1000000 in
/-- No rune of 128 and more is among them. -/
theorem indexRune_high (r : Int) (w : World) (h0 : 128 ≤ r) (h1 : r ≤ 2147483647) :
    Calls Tryd.prog 129 #[.string two, .int .i32 r] w fun e w' => e = .returned (.int .i64 (-1)) ∧ Below w.heap.size w w' := by
  by_cases hne : r = 65533
  · subst hne; exact indexRune_high1 w
  have hs2 : two.size = 2 := rfl
  have hr1 : (r == 65533) = false := beq_eq_false_iff_ne.2 hne
  have hr2 : ¬ r < 128 := by omega
  have hr3 : 0 ≤ r := by omega
  by_cases hv : r < 55296 ∨ 57343 < r ∧ r ≤ 1114111
  · have hva : Utf8.valid r = true := by rw [validRune_eq]; unfold validRune; exact decide_eq_true (by omega)
    obtain ⟨z2, z4, zl⟩ := encode_facts r hva h0
    exact indexRune_valid r w h0 h1 hr1 hv (Utf8.encode r) rfl z2 z4 zl
  · have e1 : ¬ r < 55296 := by omega
    by_cases e2 : 57343 < r
    · have e3 : ¬ r ≤ 1114111 := by omega
      go_enter Tryd.func129, Tryd.ntmps129
      go_wp2
      go_ret
      exact ⟨rfl, Below.refl _ _⟩
    · go_enter Tryd.func129, Tryd.ntmps129
      go_wp2
      go_ret
      exact ⟨rfl, Below.refl _ _⟩

set_option maxHeartbeats 8000000 in
set_option maxRecDepth 1000000 in
theorem indexAny_short (s : ByteArray) (w : World) (h8 : s.size ≤ 8) :
    Calls Tryd.prog 110 #[.string s, .string two] w fun e w' => e = .returned (.int .i64 (Lib.indexAny s.data.toList [43, 35])) ∧ Below w.heap.size w w' := by
  have hs2 : two.size = 2 := rfl
  have hemp : two.toList.isEmpty = false := by rw [Lib.toList_data]; rfl
  have h8z : decide ((8 : Int) < (s.size : Int)) = false := decide_eq_false (by omega)
  go_enter Tryd.func110, Tryd.ntmps110
  go_wp2_with (go_at_call 130; refine (Tryd.strings_shouldUseASCIISet _ _).mono ?_; rintro e w' ⟨rfl, hw⟩; rw [hw, h8z])
  go_loopg [9, 10] s.size (fun g _ _ wx => ∃ W : World, ∃ i : Nat, i ≤ s.size ∧ s.size - i ≤ g ∧ wx.heap[w.heap.size]? = some (.stringIter s i) ∧ Below w.heap.size w wx ∧ Aside0 (Lib.NoAny s.data.toList [43, 35] i) ∧ W = wx)
  case atStart => exact ⟨_, 0, Nat.zero_le _, by omega, World.iter_heap _ _ _, iter_below _ _ _, ⟨Lib.NoAny.zero _ _⟩, rfl⟩
  case round =>
    obtain ⟨W, i, hle, hig, hit, hbw, hno, rfl⟩ := hrel
    by_cases hlt : i < s.size
    · obtain ⟨x, hx⟩ : ∃ x : UInt8, s[i]'hlt = x := ⟨_, rfl⟩
      have hxl : s.data.toList[i]? = some x := by rw [← hx]; exact Lib.data_getElem? s i hlt
      cases gk with
      | zero => omega
      | succ g =>
        by_cases h128 : x.toNat < 128
        · have hnx := fun ty => run_next_ascii_at (P := Tryd.prog) W w.heap.size s i ty hit hlt (by rw [hx]; exact h128)
          rw [hx] at hnx
          have hit2 := iterAt_heap W w.heap.size s i (i + 1) hit
          have hb2 := below_iterAt hbw (Nat.le_refl w.heap.size) s (i + 1)
          have HI := Aside0.mk hit2
          have HX := Aside0.mk hxl
          have HB := Aside0.mk hb2
          clear hit2 hxl hb2 hx hit hbw
          have hback : ((x.toNat : Int)).toNat.toUInt8 = x := by simp
          cases hin : ([43, 35] : List UInt8).contains x
          · have hib : Lib.indexByte two.data.toList x = -1 := by
              have := Lib.contains_iff_indexByte two.data.toList x
              rw [two_list, hin] at this
              have h2 := Lib.indexByte_ge two.data.toList x
              rw [two_list] at h2 ⊢
              have h3 := of_decide_eq_false this.symm
              omega
            have HN := Aside0.mk hin
            clear hin
            go_wp2_with (go_at_call 129; refine (Tryd.strings_IndexRune_ascii _ _ _ (by omega) (by omega)).mono ?_; rintro e w' ⟨rfl, hw⟩; rw [hw, hback, hib])
            go_roundg g
            case measure => omega
            case rel => exact ⟨_, i + 1, by omega, by omega, HI.out, HB.out, ⟨Lib.NoAny.succ hno.out HX.out HN.out⟩, rfl⟩
          · have hib : (0 : Int) ≤ Lib.indexByte two.data.toList x := by
              have := Lib.contains_iff_indexByte two.data.toList x
              rw [two_list, hin] at this
              exact of_decide_eq_true this.symm
            have HN := Aside0.mk hin
            clear hin
            go_wp2_with (go_at_call 129; refine (Tryd.strings_IndexRune_ascii _ _ _ (by omega) (by omega)).mono ?_; rintro e w' ⟨rfl, hw⟩; rw [hw, hback])
            go_ret
            exact ⟨by rw [Lib.indexAny_hit hno.out HX.out HN.out]; rfl, HB.out⟩
        · have hd := decode_tail s i hlt
          have hh := decode_high s i hlt (by rw [hx]; omega)
          have hb := decode_le s i
          have hnx := fun ty => run_next_any_at (P := Tryd.prog) W w.heap.size s i ty hit hlt
          obtain ⟨c, hc⟩ : ∃ c, (Utf8.decode s i).1 = c := ⟨_, rfl⟩
          obtain ⟨n, hn⟩ : ∃ n, (Utf8.decode s i).2 = n := ⟨_, rfl⟩
          rw [hc, hn] at hnx
          rw [hn] at hd hh
          rw [hc] at hh hb
          have hit2 := iterAt_heap W w.heap.size s i (i + n) hit
          have hb2 := below_iterAt hbw (Nat.le_refl w.heap.size) s (i + n)
          have hno2 : Lib.NoAny s.data.toList [43, 35] (i + n) := noAny_high s i n hno.out hd.1 (fun j hj => by
            by_cases e : j = 0
            · subst e
              have hg := get_list s i hlt
              rw [hxl] at hg
              have := Option.some.inj hg
              rw [Nat.add_zero, ← this]; omega
            · exact hd.2.2 j (by omega) hj)
          have hsz : w.heap.size < (W.iterAt w.heap.size s (i + n)).heap.size := (Array.getElem?_eq_some_iff.1 hit2).1
          have HI := Aside0.mk hit2
          have HB := Aside0.mk hb2
          have HN := Aside0.mk hno2
          have HD := Aside0.mk hd
          have HS := Aside0.mk hsz
          have hc1 : (128 : Int) ≤ (c : Int) := by omega
          have hc2 : (c : Int) ≤ 2147483647 := by omega
          clear hit2 hb2 hno2 hd hsz hxl hx hit hbw hc hn hno
          go_wp2_with (go_at_call 129; refine (indexRune_high _ _ hc1 hc2).mono ?_; rintro e w' ⟨rfl, hbr⟩; have HR := Aside0.mk hbr; clear hbr)
          go_roundg g
          case measure => omega
          case rel =>
            have hr := HR.out
            refine ⟨_, i + n, HD.out.1, by have := HD.out.2.1; omega, ?_, HB.out.trans ⟨hr.os, hr.tape, hr.output, hr.size, fun j hj => hr.block j (by have := HB.out.size; omega)⟩, HN, rfl⟩
            rw [hr.block _ HS.out]; exact HI.out
    · obtain rfl : i = s.size := by omega
      have hnx := fun ty => run_next_end_at (P := Tryd.prog) W w.heap.size s s.size ty hit (Nat.lt_irrefl _)
      have HB := Aside0.mk hbw
      clear hit hbw
      go_wp2
      go_ret
      exact ⟨by rw [Lib.indexAny_none (by rw [← Lib.size_eq]; exact hno.out)]; rfl, HB.out⟩

def strings_IndexAny.f (a0 a1 : ByteArray) : Option Int := if a1.data.toList = [43, 35] then (if a0.size < 4294967281 then some (Go.Lib.indexAny a0.data.toList [43, 35]) else none) else none
theorem strings_IndexAny.calls (a0 : ByteArray) (a1 : ByteArray) (r : Int) (w : World) (h : strings_IndexAny.f a0 a1 = some r) :
    Calls Tryd.prog 110 #[.string a0, .string a1] w fun e w' => e = .returned (.int .i64 r) ∧ Below w.heap.size w w' := by
  unfold strings_IndexAny.f at h
  split at h
  · split at h
    · rename_i h1 h2
      obtain rfl := Option.some.inj h
      obtain rfl : a1 = two := by
        cases a1 with
        | mk d => have h1 : d.toList = [43, 35] := h1; unfold two; congr; exact Array.toList_inj.1 h1
      by_cases h8 : a0.size ≤ 8
      · exact indexAny_short a0 w h8
      · refine (Tryd.strings_IndexAny_long (zero_of_info (n := 256) (by kernel_rfl)).1 a0 two w (by decide) (by omega) h2 (by decide) (fun j b hb => ?_)).mono fun e w' ⟨he, hw⟩ => ⟨he, hw ▸ below_alloc (below_alloc (Below.refl _ _) _) _⟩
        match j, hb with
        | 0, hb => cases hb; decide
        | 1, hb => cases hb; decide
        | j + 2, hb => cases hb
    · cases h
  · cases h
end Go.Proofs.YtbaipppmefencaaDoor.P

namespace Go.Proofs.YtbaipppmefencaaDoor.P
open Go.RowKit Go.Proofs.YtbaipppmefencaaDoorW.PrintWords Go.Proofs.YtbaipppmefencaaDoorW.PrintLast Go.Proofs.YtbaipppmefencaaDoorW.PrintMore
attribute [local go_sem] max2_int min2_int max_two min_two max_three min_three max_four min_four
set_option linter.unusedVariables false
set_option linter.unusedSimpArgs false

/-! ### strings_ContainsAny: function 83 -/
def strings_ContainsAny.f (a0 : ByteArray) (a1 : ByteArray) : Option (Bool) := (strings_IndexAny.f a0 a1).bind fun t111 => (some (decide (t111 ≥ 0)))
set_option maxHeartbeats 8000000 in
set_option maxRecDepth 100000 in
theorem strings_ContainsAny.calls (a0 : ByteArray) (a1 : ByteArray) (r : Bool) (w : World) (h : strings_ContainsAny.f a0 a1 = some r) :
    Calls Tryd.prog 83 #[.string a0, .string a1] w fun e w' => e = .returned (.bool r) ∧ Below w.heap.size w w' := by
  have HB := Aside0.mk (Below.refl w.heap.size w)
  have H : ((strings_IndexAny.f a0 a1).bind fun t111 => (some (decide (t111 ≥ 0)))) = some r := h
  clear h
  replace H := Option.bind_eq_some_iff.mp H
  obtain ⟨t111, A30, H⟩ := H
  replace H : (some (decide (t111 ≥ 0))) = some r := H
  have A3 := Aside0.mk A30
  clear A30
  obtain rfl := Option.some.inj H
  go_enter Tryd.func83, Tryd.ntmps83
  go_wp2_with (first | ((with_reducible refine gate_callee (f := 110) rfl ?_); refine goesL_ (some 7) rfl rfl Tryd.func110 (by kernel_rfl) rfl #[.string a0, .string a1] rfl (by (try simp only [List.map_toArray, List.map_cons, List.map_nil]); first | done | rfl | (simp only [List.length_drop, List.length_take]; rfl)) ?_; (with_reducible refine (strings_IndexAny.calls a0 a1 t111 _ A3.out).mono ?_); rintro e w4 ⟨rfl, hb⟩; refine ⟨_, rfl, ?_⟩; have n0_ := Aside0.mk (below_step (by repeat (first | (with_reducible first | exact HB.out | apply below_alloc | apply pw_below_drewN | apply below_drew1) | exact HB.out)) hb); clear HB; have HB := n0_; clear n0_; (try clear hb); (try clear hb2); (try clear hk); (try clear hi)))
  go_ret
  exact ⟨by first | rfl | (simp [errW_none, errW_some] <;> rfl) | (simp [*, errW_none, errW_some] <;> rfl), by repeat (first | (with_reducible first | exact HB.out | apply below_alloc | apply pw_below_drewN | apply below_drew1) | exact HB.out)⟩

end Go.Proofs.YtbaipppmefencaaDoor.P

namespace Go.Proofs.YtbaipppmefencaaDoor.P
open Go.RowKit Go.Proofs.YtbaipppmefencaaDoorW.PrintWords Go.Proofs.YtbaipppmefencaaDoorW.PrintLast Go.Proofs.YtbaipppmefencaaDoorW.PrintMore
attribute [local go_sem] max2_int min2_int max_two min_two max_three min_three max_four min_four
set_option linter.unusedVariables false
set_option linter.unusedSimpArgs false

/-! ### topic_Wild: function 45 -/
def topic_Wild.f (a0 : ByteArray) : Option (Bool) := (strings_ContainsAny.f a0 (⟨#[43, 35]⟩ : ByteArray)).bind fun t112 => (some t112)
set_option maxHeartbeats 8000000 in
set_option maxRecDepth 100000 in
theorem topic_Wild.calls (a0 : ByteArray) (r : Bool) (w : World) (h : topic_Wild.f a0 = some r) :
    Calls Tryd.prog 45 #[.string a0] w fun e w' => e = .returned (.bool r) ∧ Below w.heap.size w w' := by
  have HB := Aside0.mk (Below.refl w.heap.size w)
  have H : ((strings_ContainsAny.f a0 (⟨#[43, 35]⟩ : ByteArray)).bind fun t112 => (some t112)) = some r := h
  clear h
  replace H := Option.bind_eq_some_iff.mp H
  obtain ⟨t112, A20, H⟩ := H
  replace H : (some t112) = some r := H
  have A2 := Aside0.mk A20
  clear A20
  obtain rfl := Option.some.inj H
  go_enter Tryd.func45, Tryd.ntmps45
  go_wp2_with (first | ((with_reducible refine gate_callee (f := 83) rfl ?_); refine goesL_ (some 4) rfl rfl Tryd.func83 (by kernel_rfl) rfl #[.string a0, .string (⟨#[43, 35]⟩ : ByteArray)] rfl (by (try simp only [List.map_toArray, List.map_cons, List.map_nil]); first | done | rfl | (simp only [List.length_drop, List.length_take]; rfl)) ?_; (with_reducible refine (strings_ContainsAny.calls a0 (⟨#[43, 35]⟩ : ByteArray) t112 _ A2.out).mono ?_); rintro e w3 ⟨rfl, hb⟩; refine ⟨_, rfl, ?_⟩; have n0_ := Aside0.mk (below_step (by repeat (first | (with_reducible first | exact HB.out | apply below_alloc | apply pw_below_drewN | apply below_drew1) | exact HB.out)) hb); clear HB; have HB := n0_; clear n0_; (try clear hb); (try clear hb2); (try clear hk); (try clear hi)))
  go_ret
  exact ⟨by first | rfl | (simp [errW_none, errW_some] <;> rfl) | (simp [*, errW_none, errW_some] <;> rfl), by repeat (first | (with_reducible first | exact HB.out | apply below_alloc | apply pw_below_drewN | apply below_drew1) | exact HB.out)⟩

end Go.Proofs.YtbaipppmefencaaDoor.P

namespace Go.Proofs.YtbaipppmefencaaDoor.P
open Go.RowKit Go.Proofs.YtbaipppmefencaaDoorW.PrintWords Go.Proofs.YtbaipppmefencaaDoorW.PrintLast Go.Proofs.YtbaipppmefencaaDoorW.PrintMore
attribute [local go_sem] max2_int min2_int max_two min_two max_three min_three max_four min_four
set_option linter.unusedVariables false
set_option linter.unusedSimpArgs false

/-! ### stringslite_HasPrefix: function 82 -/
def stringslite_HasPrefix.f (a0 : ByteArray) (a1 : ByteArray) : Option (Bool) := if (a0.size : Int) ≥ (a1.size : Int) then (if 0 ≤ (a1.size : Int) then (if (a1.size : Int) ≤ (a0.size : Int) then (some ((a0.extract 0 ((a1.size : Int) : Int).toNat).toList == a1.toList)) else (none)) else (none)) else (some false)
set_option maxHeartbeats 8000000 in
set_option maxRecDepth 100000 in
theorem stringslite_HasPrefix.calls (a0 : ByteArray) (a1 : ByteArray) (r : Bool) (w : World) (h : stringslite_HasPrefix.f a0 a1 = some r) :
    Calls Tryd.prog 82 #[.string a0, .string a1] w fun e w' => e = .returned (.bool r) ∧ Drawn0 w w' := by
  have H : (if (a0.size : Int) ≥ (a1.size : Int) then (if 0 ≤ (a1.size : Int) then (if (a1.size : Int) ≤ (a0.size : Int) then (some ((a0.extract 0 ((a1.size : Int) : Int).toNat).toList == a1.toList)) else (none)) else (none)) else (some false)) = some r := h
  clear h
  by_cases c3 : (a0.size : Int) ≥ (a1.size : Int)
  · rw [if_pos c3] at H
    have c3b0 : decide ((a1.size : Int) ≤ (a0.size : Int)) = true := decide_eq_true c3
    have c3b1 : decide (a1.size ≤ a0.size) = true := decide_eq_true (Int.ofNat_le.mp c3)
    clear c3
    by_cases c4 : 0 ≤ (a1.size : Int)
    · rw [if_pos c4] at H
      have c4b0 := eq_true c4
      have c4b1 : decide (0 ≤ (a1.size : Int)) = true := decide_eq_true c4
      clear c4
      by_cases c5 : (a1.size : Int) ≤ (a0.size : Int)
      · rw [if_pos c5] at H
        have c5b0 := eq_true c5
        have c5b1 : decide ((a1.size : Int) ≤ (a0.size : Int)) = true := decide_eq_true c5
        clear c5
        obtain rfl := Option.some.inj H
        go_enter Tryd.func82, Tryd.ntmps82
        go_wp2
        go_ret
        exact ⟨by first | rfl | (simp; done) | (simp [*]; done), by repeat (first | exact Drawn0.refl _ | apply Drawn0.step)⟩
      · rw [if_neg c5] at H
        exact absurd H (by simp)
    · rw [if_neg c4] at H
      exact absurd H (by simp)
  · rw [if_neg c3] at H
    have c3b0 : decide ((a1.size : Int) ≤ (a0.size : Int)) = false := decide_eq_false c3
    have c3b1 : decide (a1.size ≤ a0.size) = false := decide_eq_false (fun h => c3 (Int.ofNat_le.mpr h))
    clear c3
    obtain rfl := Option.some.inj H
    go_enter Tryd.func82, Tryd.ntmps82
    go_wp2
    go_ret
    exact ⟨by first | rfl | (simp; done) | (simp [*]; done), by repeat (first | exact Drawn0.refl _ | apply Drawn0.step)⟩

end Go.Proofs.YtbaipppmefencaaDoor.P

namespace Go.Proofs.YtbaipppmefencaaDoor.P
open Go.RowKit Go.Proofs.YtbaipppmefencaaDoorW.PrintWords Go.Proofs.YtbaipppmefencaaDoorW.PrintLast Go.Proofs.YtbaipppmefencaaDoorW.PrintMore
attribute [local go_sem] max2_int min2_int max_two min_two max_three min_three max_four min_four
set_option linter.unusedVariables false
set_option linter.unusedSimpArgs false

/-! ### stringslite_CutPrefix: function 106 -/
def stringslite_CutPrefix.f (a0 : ByteArray) (a1 : ByteArray) : Option (ByteArray × Bool) := (stringslite_HasPrefix.f a0 a1).bind fun t113 => (if t113 = true then (if 0 ≤ (a1.size : Int) then (if (a1.size : Int) ≤ (a0.size : Int) then (some (a0.extract ((a1.size : Int) : Int).toNat a0.size, true)) else (none)) else (none)) else (some (a0, false)))
set_option maxHeartbeats 8000000 in
set_option maxRecDepth 100000 in
theorem stringslite_CutPrefix.calls (a0 : ByteArray) (a1 : ByteArray) (r1 : ByteArray) (r2 : Bool) (w : World) (h : stringslite_CutPrefix.f a0 a1 = some (r1, r2)) :
    Calls Tryd.prog 106 #[.string a0, .string a1] w fun e w' => e = .returned (.tuple #[.string r1, .bool r2]) ∧ Drawn0 w w' := by
  have H : ((stringslite_HasPrefix.f a0 a1).bind fun t113 => (if t113 = true then (if 0 ≤ (a1.size : Int) then (if (a1.size : Int) ≤ (a0.size : Int) then (some (a0.extract ((a1.size : Int) : Int).toNat a0.size, true)) else (none)) else (none)) else (some (a0, false)))) = some (r1, r2) := h
  clear h
  replace H := Option.bind_eq_some_iff.mp H
  obtain ⟨t113, A30, H⟩ := H
  replace H : (if t113 = true then (if 0 ≤ (a1.size : Int) then (if (a1.size : Int) ≤ (a0.size : Int) then (some (a0.extract ((a1.size : Int) : Int).toNat a0.size, true)) else (none)) else (none)) else (some (a0, false))) = some (r1, r2) := H
  have A3 := Aside0.mk A30
  clear A30
  by_cases c4 : t113 = true
  · subst c4
    have H1 : (if 0 ≤ (a1.size : Int) then (if (a1.size : Int) ≤ (a0.size : Int) then (some (a0.extract ((a1.size : Int) : Int).toNat a0.size, true)) else (none)) else (none)) = some (r1, r2) := by rw [if_pos rfl] at H; exact H
    clear H
    have H := H1
    clear H1
    by_cases c5 : 0 ≤ (a1.size : Int)
    · rw [if_pos c5] at H
      have c5b0 := eq_true c5
      have c5b1 : decide (0 ≤ (a1.size : Int)) = true := decide_eq_true c5
      clear c5
      by_cases c6 : (a1.size : Int) ≤ (a0.size : Int)
      · rw [if_pos c6] at H
        have c6b0 := eq_true c6
        have c6b1 : decide ((a1.size : Int) ≤ (a0.size : Int)) = true := decide_eq_true c6
        clear c6
        simp only [Option.some.injEq, Prod.mk.injEq] at H
        obtain ⟨rfl, rfl⟩ := H
        go_enter Tryd.func106, Tryd.ntmps106
        go_wp2_with (first | ((with_reducible refine gate_callee (f := 82) rfl ?_); refine goesL_ (some 8) rfl rfl Tryd.func82 (by kernel_rfl) rfl #[.string a0, .string a1] rfl (by (try simp only [List.map_toArray, List.map_cons, List.map_nil]); first | done | rfl | (simp only [List.length_drop, List.length_take]; rfl)) ?_; (with_reducible refine (stringslite_HasPrefix.calls a0 a1 true _ A3.out).mono ?_); rintro e w' ⟨rfl, ⟨nd, rfl⟩⟩; refine ⟨_, rfl, ?_⟩))
        go_ret2
        exact ⟨by first | rfl | (simp; done) | (simp [*]; done), by repeat (first | exact Drawn0.refl _ | apply Drawn0.step)⟩
      · rw [if_neg c6] at H
        exact absurd H (by simp)
    · rw [if_neg c5] at H
      exact absurd H (by simp)
  · replace c4 := Bool.eq_false_iff.mpr c4
    subst c4
    have H1 : (some (a0, false)) = some (r1, r2) := by rw [if_neg (show ¬ (false = true) by decide)] at H; exact H
    clear H
    have H := H1
    clear H1
    simp only [Option.some.injEq, Prod.mk.injEq] at H
    obtain ⟨rfl, rfl⟩ := H
    go_enter Tryd.func106, Tryd.ntmps106
    go_wp2_with (first | ((with_reducible refine gate_callee (f := 82) rfl ?_); refine goesL_ (some 8) rfl rfl Tryd.func82 (by kernel_rfl) rfl #[.string a0, .string a1] rfl (by (try simp only [List.map_toArray, List.map_cons, List.map_nil]); first | done | rfl | (simp only [List.length_drop, List.length_take]; rfl)) ?_; (with_reducible refine (stringslite_HasPrefix.calls a0 a1 false _ A3.out).mono ?_); rintro e w' ⟨rfl, ⟨nd, rfl⟩⟩; refine ⟨_, rfl, ?_⟩))
    go_ret2
    exact ⟨by first | rfl | (simp; done) | (simp [*]; done), by repeat (first | exact Drawn0.refl _ | apply Drawn0.step)⟩

end Go.Proofs.YtbaipppmefencaaDoor.P

namespace Go.Proofs.YtbaipppmefencaaDoor.P
open Go.RowKit Go.Proofs.YtbaipppmefencaaDoorW.PrintWords Go.Proofs.YtbaipppmefencaaDoorW.PrintLast Go.Proofs.YtbaipppmefencaaDoorW.PrintMore
attribute [local go_sem] max2_int min2_int max_two min_two max_three min_three max_four min_four
set_option linter.unusedVariables false
set_option linter.unusedSimpArgs false

/-! ### strings_CutPrefix: function 78 -/
def strings_CutPrefix.f (a0 : ByteArray) (a1 : ByteArray) : Option (ByteArray × Bool) := (stringslite_CutPrefix.f a0 a1).bind fun bt114 => (some (bt114.1, bt114.2))
set_option maxHeartbeats 8000000 in
set_option maxRecDepth 100000 in
theorem strings_CutPrefix.calls (a0 : ByteArray) (a1 : ByteArray) (r1 : ByteArray) (r2 : Bool) (w : World) (h : strings_CutPrefix.f a0 a1 = some (r1, r2)) :
    Calls Tryd.prog 78 #[.string a0, .string a1] w fun e w' => e = .returned (.tuple #[.string r1, .bool r2]) ∧ Drawn0 w w' := by
  have H : ((stringslite_CutPrefix.f a0 a1).bind fun bt114 => (some (bt114.1, bt114.2))) = some (r1, r2) := h
  clear h
  replace H := Option.bind_eq_some_iff.mp H
  obtain ⟨⟨t114, t115⟩, A30, H⟩ := H
  replace H : (some (t114, t115)) = some (r1, r2) := H
  have A3 := Aside0.mk A30
  clear A30
  simp only [Option.some.injEq, Prod.mk.injEq] at H
  obtain ⟨rfl, rfl⟩ := H
  go_enter Tryd.func78, Tryd.ntmps78
  go_wp2_with (first | ((with_reducible refine gate_callee (f := 106) rfl ?_); refine goesL_ (some 8) rfl rfl Tryd.func106 (by kernel_rfl) rfl #[.string a0, .string a1] rfl (by (try simp only [List.map_toArray, List.map_cons, List.map_nil]); first | done | rfl | (simp only [List.length_drop, List.length_take]; rfl)) ?_; (with_reducible refine (stringslite_CutPrefix.calls a0 a1 t114 t115 _ A3.out).mono ?_); rintro e w' ⟨rfl, ⟨nd, rfl⟩⟩; refine ⟨_, rfl, ?_⟩))
  go_ret2
  exact ⟨by first | rfl | (simp; done) | (simp [*]; done), by repeat (first | exact Drawn0.refl _ | apply Drawn0.step)⟩

end Go.Proofs.YtbaipppmefencaaDoor.P

namespace Go.Proofs.YtbaipppmefencaaDoor.P
open Go.RowKit Go.Proofs.YtbaipppmefencaaDoorW.PrintWords Go.Proofs.YtbaipppmefencaaDoorW.PrintLast Go.Proofs.YtbaipppmefencaaDoorW.PrintMore
attribute [local go_sem] max2_int min2_int max_two min_two max_three min_three max_four min_four
set_option linter.unusedVariables false
set_option linter.unusedSimpArgs false

/-! ### text_Right: function 80 -/
def text_Right.f (a0 : ByteArray) : Option (Bool) := if (a0.size : Int) ≤ 65535 then ((utf8_ValidString.f a0).bind fun t116 => (if t116 = true then ((strings_Contains.f a0 (⟨#[0]⟩ : ByteArray)).bind fun t117 => (some (!t117))) else (some false))) else (some false)
set_option maxHeartbeats 8000000 in
set_option maxRecDepth 100000 in
theorem text_Right.calls (a0 : ByteArray) (r : Bool) (w : World) (hG : GW w) (h : text_Right.f a0 = some r) :
    Calls Tryd.prog 80 #[.string a0] w fun e w' => e = .returned (.bool r) ∧ Below w.heap.size w w' := by
  have HB := Aside0.mk (Below.refl w.heap.size w)
  have HG := Aside0.mk hG
  clear hG
  have H : (if (a0.size : Int) ≤ 65535 then ((utf8_ValidString.f a0).bind fun t116 => (if t116 = true then ((strings_Contains.f a0 (⟨#[0]⟩ : ByteArray)).bind fun t117 => (some (!t117))) else (some false))) else (some false)) = some r := h
  clear h
  by_cases c2 : (a0.size : Int) ≤ 65535
  · rw [if_pos c2] at H
    have c2b0 : decide ((a0.size : Int) ≤ 65535) = true := decide_eq_true c2
    have c2b1 : decide (a0.size ≤ 65535) = true := decide_eq_true (by omega)
    clear c2
    replace H := Option.bind_eq_some_iff.mp H
    obtain ⟨t116, A30, H⟩ := H
    replace H : (if t116 = true then ((strings_Contains.f a0 (⟨#[0]⟩ : ByteArray)).bind fun t117 => (some (!t117))) else (some false)) = some r := H
    have A3 := Aside0.mk A30
    clear A30
    by_cases c4 : t116 = true
    · subst c4
      have H1 : ((strings_Contains.f a0 (⟨#[0]⟩ : ByteArray)).bind fun t117 => (some (!t117))) = some r := by rw [if_pos rfl] at H; exact H
      clear H
      have H := H1
      clear H1
      replace H := Option.bind_eq_some_iff.mp H
      obtain ⟨t117, A50, H⟩ := H
      replace H : (some (!t117)) = some r := H
      have A5 := Aside0.mk A50
      clear A50
      obtain rfl := Option.some.inj H
      go_enter Tryd.func80, Tryd.ntmps80
      go_wp2_with (first | (go_at_call 108; (with_reducible refine (utf8_ValidString.calls a0 true _ ?side1 A3.out).mono ?_); (case side1 => exact GW.below HG.out (by repeat (first | (with_reducible first | exact HB.out | apply below_alloc | apply pw_below_drewN | apply below_drew1) | exact HB.out))); rintro e w6 ⟨rfl, hb⟩; have n0_ := Aside0.mk (below_step (by repeat (first | (with_reducible first | exact HB.out | apply below_alloc | apply pw_below_drewN | apply below_drew1) | exact HB.out)) hb); clear HB; have HB := n0_; clear n0_; (try clear hb); (try clear hb2); (try clear hk); (try clear hi)) | (go_at_call 109; (with_reducible refine (strings_Contains.calls a0 (⟨#[0]⟩ : ByteArray) t117 _ ?side1 A5.out).mono ?_); (case side1 => exact GW.below HG.out (by repeat (first | (with_reducible first | exact HB.out | apply below_alloc | apply pw_below_drewN | apply below_drew1) | exact HB.out))); rintro e w' ⟨rfl, ⟨nd, rfl⟩⟩))
      go_ret
      exact ⟨by first | rfl | (simp [errW_none, errW_some] <;> rfl) | (simp [*, errW_none, errW_some] <;> rfl), by repeat (first | (with_reducible first | exact HB.out | apply below_alloc | apply pw_below_drewN | apply below_drew1) | exact HB.out)⟩
    · replace c4 := Bool.eq_false_iff.mpr c4
      subst c4
      have H1 : (some false) = some r := by rw [if_neg (show ¬ (false = true) by decide)] at H; exact H
      clear H
      have H := H1
      clear H1
      obtain rfl := Option.some.inj H
      go_enter Tryd.func80, Tryd.ntmps80
      go_wp2_with (first | (go_at_call 108; (with_reducible refine (utf8_ValidString.calls a0 false _ ?side1 A3.out).mono ?_); (case side1 => exact GW.below HG.out (by repeat (first | (with_reducible first | exact HB.out | apply below_alloc | apply pw_below_drewN | apply below_drew1) | exact HB.out))); rintro e w7 ⟨rfl, hb⟩; have n0_ := Aside0.mk (below_step (by repeat (first | (with_reducible first | exact HB.out | apply below_alloc | apply pw_below_drewN | apply below_drew1) | exact HB.out)) hb); clear HB; have HB := n0_; clear n0_; (try clear hb); (try clear hb2); (try clear hk); (try clear hi)))
      go_ret
      exact ⟨by first | rfl | (simp [errW_none, errW_some] <;> rfl) | (simp [*, errW_none, errW_some] <;> rfl), by repeat (first | (with_reducible first | exact HB.out | apply below_alloc | apply pw_below_drewN | apply below_drew1) | exact HB.out)⟩
  · rw [if_neg c2] at H
    have c2b0 : decide ((a0.size : Int) ≤ 65535) = false := decide_eq_false c2
    have c2b1 : decide (a0.size ≤ 65535) = false := decide_eq_false (by omega)
    clear c2
    obtain rfl := Option.some.inj H
    go_enter Tryd.func80, Tryd.ntmps80
    go_wp2
    go_ret
    exact ⟨by first | rfl | (simp [errW_none, errW_some] <;> rfl) | (simp [*, errW_none, errW_some] <;> rfl), by repeat (first | (with_reducible first | exact HB.out | apply below_alloc | apply pw_below_drewN | apply below_drew1) | exact HB.out)⟩

end Go.Proofs.YtbaipppmefencaaDoor.P

namespace Go.Proofs.YtbaipppmefencaaDoor.P
open Go.RowKit Go.Proofs.YtbaipppmefencaaDoorW.PrintWords Go.Proofs.YtbaipppmefencaaDoorW.PrintLast Go.Proofs.YtbaipppmefencaaDoorW.PrintMore
attribute [local go_sem] max2_int min2_int max_two min_two max_three min_three max_four min_four
set_option linter.unusedVariables false
set_option linter.unusedSimpArgs false

/-! ### topic_plain: function 81 -/
mutual
def topic_plain.l0 : Nat → List ByteArray → List ByteArray → Int → Int → Option (Bool)
  | 0, _, _, _, _ => none
  | k + 1, x3, x10, x11, x12 => if x12 < x11 then (if 0 ≤ x12 then (if x12 < (x10.length : Int) then (if (rdOf ByteArray.empty x10 x12).toList = ([43] : List UInt8) then (topic_plain.j1 k x3 (rdOf ByteArray.empty x10 x12) x10 x11 x12 ((rdOf ByteArray.empty x10 x12).toList == ([43] : List UInt8))) else (if (rdOf ByteArray.empty x10 x12).toList = ([35] : List UInt8) then (topic_plain.j1 k x3 (rdOf ByteArray.empty x10 x12) x10 x11 x12 (x12 == (wrap64 ((x3.length : Int) - 1)))) else (topic_plain.j1 k x3 (rdOf ByteArray.empty x10 x12) x10 x11 x12 false))) else (none)) else (none)) else (some true)
def topic_plain.j1 : Nat → List ByteArray → ByteArray → List ByteArray → Int → Int → Bool → Option (Bool)
  | 0, _, _, _, _, _, _ => none
  | k + 1, x3, x5, x10, x11, x12, x17 => if x17 = true then (topic_plain.l0 k x3 x10 x11 (wrap64 (x12 + 1))) else ((topic_Wild.f x5).bind fun t122 => (if t122 = true then (some false) else (topic_plain.l0 k x3 x10 x11 (wrap64 (x12 + 1)))))
end
def topic_plain.f (k : Nat) (a0 : ByteArray) : Option (Bool) := if a0.toList = ([] : List UInt8) then (some false) else ((strings_Split.f a0 (⟨#[47]⟩ : ByteArray)).bind fun t118 => (topic_plain.l0 k t118 t118 (t118.length : Int) 0))
theorem topic_plain.mono_l : ∀ k, (∀ y0 y1 y2 y3, LeO (topic_plain.l0 k y0 y1 y2 y3) (topic_plain.l0 (k + 1) y0 y1 y2 y3)) ∧ (∀ y0 y1 y2 y3 y4 y5, LeO (topic_plain.j1 k y0 y1 y2 y3 y4 y5) (topic_plain.j1 (k + 1) y0 y1 y2 y3 y4 y5))
  | 0 => ⟨fun _ _ _ _ r h => by simp [topic_plain.l0] at h, fun _ _ _ _ _ _ r h => by simp [topic_plain.j1] at h⟩
  | k + 1 => by
    obtain ⟨ih0, ih1⟩ := topic_plain.mono_l k
    refine ⟨?_, ?_⟩
    · intro y0 y1 y2 y3
      unfold topic_plain.l0
      repeat' first
      | (with_reducible exact ih0 _ _ _ _)
      | (with_reducible exact ih1 _ _ _ _ _ _)
      | (with_reducible exact LeO.refl _)
      | (with_reducible exact LeO.none _)
      | (with_reducible refine LeO.ite ?_ ?_)
      | (with_reducible refine LeO.bind ?_ (fun _ => ?_))
      | exact ih0 _ _ _ _
      | exact ih1 _ _ _ _ _ _
      | exact LeO.none _
      | refine LeO.ite ?_ ?_
      | refine LeO.bind ?_ (fun _ => ?_)
    · intro y0 y1 y2 y3 y4 y5
      unfold topic_plain.j1
      repeat' first
      | (with_reducible exact ih0 _ _ _ _)
      | (with_reducible exact ih1 _ _ _ _ _ _)
      | (with_reducible exact LeO.refl _)
      | (with_reducible exact LeO.none _)
      | (with_reducible refine LeO.ite ?_ ?_)
      | (with_reducible refine LeO.bind ?_ (fun _ => ?_))
      | exact ih0 _ _ _ _
      | exact ih1 _ _ _ _ _ _
      | exact LeO.none _
      | refine LeO.ite ?_ ?_
      | refine LeO.bind ?_ (fun _ => ?_)
theorem topic_plain.mono : ∀ a0 k, LeO (topic_plain.f k a0) (topic_plain.f (k + 1) a0) := by
  intro a0 k
  obtain ⟨ih0, ih1⟩ := topic_plain.mono_l k
  unfold topic_plain.f
  repeat' first
      | (with_reducible exact ih0 _ _ _ _)
      | (with_reducible exact ih1 _ _ _ _ _ _)
      | (with_reducible exact LeO.refl _)
      | (with_reducible exact LeO.none _)
      | (with_reducible refine LeO.ite ?_ ?_)
      | (with_reducible refine LeO.bind ?_ (fun _ => ?_))
      | exact ih0 _ _ _ _
      | exact ih1 _ _ _ _ _ _
      | exact LeO.none _
      | refine LeO.ite ?_ ?_
      | refine LeO.bind ?_ (fun _ => ?_)
set_option maxHeartbeats 8000000 in
set_option maxRecDepth 100000 in
theorem topic_plain.calls (k : Nat) (a0 : ByteArray) (r : Bool) (w : World) (hG : GW w) (h : topic_plain.f k a0 = some r) :
    Calls Tryd.prog 81 #[.string a0] w fun e w' => e = .returned (.bool r) ∧ Below w.heap.size w w' := by
  have HB := Aside0.mk (Below.refl w.heap.size w)
  have HG := Aside0.mk hG
  clear hG
  have H : (if a0.toList = ([] : List UInt8) then (some false) else ((strings_Split.f a0 (⟨#[47]⟩ : ByteArray)).bind fun t118 => (topic_plain.l0 k t118 t118 (t118.length : Int) 0))) = some r := h
  clear h
  by_cases c2 : a0.toList = ([] : List UInt8)
  · rw [if_pos c2] at H
    have c2b0 : (a0.toList == ([] : List UInt8)) = true := beq_iff_eq.mpr c2
    have c2b1 : (a0.toList != ([] : List UInt8)) = false := bne_eq_false_iff_eq.mpr c2
    clear c2
    obtain rfl := Option.some.inj H
    go_enter Tryd.func81, Tryd.ntmps81
    go_wp2
    go_ret
    exact ⟨by first | rfl | (simp [errW_none, errW_some] <;> rfl) | (simp [*, errW_none, errW_some] <;> rfl), by repeat (first | (with_reducible first | exact HB.out | apply below_alloc | apply pw_below_drewN | apply below_drew1) | exact HB.out)⟩
  · rw [if_neg c2] at H
    have c2b0 : (a0.toList == ([] : List UInt8)) = false := beq_eq_false_iff_ne.mpr c2
    have c2b1 : (a0.toList != ([] : List UInt8)) = true := bne_iff_ne.mpr c2
    replace H := Option.bind_eq_some_iff.mp H
    obtain ⟨t118, A30, H⟩ := H
    replace H : (topic_plain.l0 k t118 t118 (t118.length : Int) 0) = some r := H
    have A3 := Aside0.mk A30
    clear A30
    have H' := Aside0.mk H
    clear H
    go_enter Tryd.func81, Tryd.ntmps81
    go_wp2_with (first | ((with_reducible refine gate_callee (f := 46) rfl ?_); refine goesL_ (some 9) rfl rfl Tryd.func46 (by kernel_rfl) rfl #[.string a0, .string (⟨#[47]⟩ : ByteArray)] rfl (by (try simp only [List.map_toArray, List.map_cons, List.map_nil]); first | done | rfl | (simp only [List.length_drop, List.length_take]; rfl)) ?_; (with_reducible refine (strings_Split.calls a0 (⟨#[47]⟩ : ByteArray) t118 _ ?side1 A3.out).mono ?_); (case side1 => exact GW.below HG.out (by repeat (first | (with_reducible first | exact HB.out | apply below_alloc | apply pw_below_drewN | apply below_drew1) | exact HB.out))); rintro e w4 ⟨v119, rfl, ho0, hb⟩; refine ⟨_, rfl, ?_⟩; have n0_ := Aside0.mk (Kd.R_lower ho0 (below_size (by repeat (first | (with_reducible first | exact HB.out | apply below_alloc | apply pw_below_drewN | apply below_drew1) | exact HB.out)))); have n1_ := Aside0.mk (below_step (by repeat (first | (with_reducible first | exact HB.out | apply below_alloc | apply pw_below_drewN | apply below_drew1) | exact HB.out)) hb); clear HB; have HO120 := n0_; have HB := n1_; clear n0_ n1_; (try clear hb); (try clear hb2); (try clear hk); (try clear hi); (try clear ho0); obtain ⟨Ao5, co5, eo5⟩ := Kd.R_slice HO120.out; subst eo5))
    go_loopg [12] k (fun kq v12 w' => ∃ (x12_1 : Int), v12 = .int .i64 x12_1 ∧ Aside0 (topic_plain.l0 kq t118 t118 (t118.length : Int) x12_1 = some r) ∧ Aside0 (kq ≤ k) ∧ Aside0 (Kd.R Kd.string 9 w' w.heap.size (fun _ => True) (.slice Ao5 t118.length co5) t118) ∧ Aside0 (Kd.R Kd.string 9 w' w.heap.size (fun _ => True) (.slice Ao5 t118.length co5) t118) ∧ Aside0 (Below w.heap.size w w'))
    case atStart => exact ⟨(0), (by first | rfl | (simp; done) | (simp [*]; done)), H', ⟨Nat.le_refl _⟩, ⟨by (with_reducible repeat (first | apply Kd.R_alloc | apply Kd.R_drewN | apply Kd.R_drew)); exact HO120.out⟩, ⟨by (with_reducible repeat (first | apply Kd.R_alloc | apply Kd.R_drewN | apply Kd.R_drew)); exact HO120.out⟩, ⟨by repeat (first | (with_reducible first | exact HB.out | apply below_alloc | apply pw_below_drewN | apply below_drew1) | exact HB.out)⟩⟩
    case round =>
      clear H'
      try clear c2
      try clear c2b0
      try clear c2b1
      try clear p2
      try clear c4
      obtain ⟨x12_1, rfl, HA, HK1, HO_3, HO_10, HB⟩ := hrel
      cases gk with
      | zero => exact absurd HA.out (by simp [topic_plain.l0])
      | succ k1 =>
        have H := HA.out
        clear HA
        simp only [topic_plain.l0] at H
        by_cases c6 : x12_1 < (t118.length : Int)
        · rw [if_pos c6] at H
          have c6b0 : decide (x12_1 < (t118.length : Int)) = true := decide_eq_true c6
          clear c6
          by_cases c7 : 0 ≤ x12_1
          · rw [if_pos c7] at H
            have c7b0 : decide (0 ≤ x12_1) = true := decide_eq_true c7
            clear c7
            by_cases c8 : x12_1 < (t118.length : Int)
            · rw [if_pos c8] at H
              have c8b0 : decide (x12_1 < (t118.length : Int)) = true := decide_eq_true c8
              clear c8
              have HC9 := Aside0.mk H
              clear H
              have p121 : 0 ≤ (x12_1 : Int) := of_decide_eq_true (by first | (with_reducible assumption) | assumption)
              have q121 : x12_1 < (t118.length : Int) := of_decide_eq_true (by first | (with_reducible assumption) | assumption)
              obtain ⟨ad121, e121, hx121_0⟩ := Kd.at_string (Kd.R_reads' HO_10.out).2.2 x12_1 p121 q121
              cases e121
              replace p121 := eq_true p121
              replace q121 := eq_true q121
              go_upto_if 17 with (fail)
              go_cut [17] (fun v17 wc => ∃ (kq : Nat) (x17_8 : Bool), v17 = .bool x17_8 ∧ Aside0 (topic_plain.j1 kq t118 (rdOf ByteArray.empty t118 x12_1) t118 (t118.length : Int) x12_1 x17_8 = some r) ∧ Aside0 (kq ≤ k1) ∧ Aside0 (Kd.R Kd.string 9 wc w.heap.size (fun _ => True) (.slice (some ad121) t118.length co5) t118) ∧ Aside0 (Kd.R Kd.string 9 wc w.heap.size (fun _ => True) (.slice (some ad121) t118.length co5) t118) ∧ Aside0 (Below w.heap.size w wc))
              case first =>
                have H := HC9.out
                clear HC9
                by_cases c10 : (rdOf ByteArray.empty t118 x12_1).toList = ([43] : List UInt8)
                · rw [if_pos c10] at H
                  have c10b0 : ((rdOf ByteArray.empty t118 x12_1).toList == ([43] : List UInt8)) = true := beq_iff_eq.mpr c10
                  have c10b1 : ((rdOf ByteArray.empty t118 x12_1).toList != ([43] : List UInt8)) = false := bne_eq_false_iff_eq.mpr c10
                  clear c10
                  (first | rw [c10b0] | (simp only [i64_w, i32_w]; rw [c10b0]) | skip)
                  have H' := Aside0.mk H
                  clear H
                  go_wp2
                  go_meet
                  case rel => exact ⟨_, (((rdOf ByteArray.empty t118 x12_1).toList == ([43] : List UInt8))), (by first | rfl | (simp; done) | (simp [*]; done)), H', ⟨by have := HK1.out; first | omega | exact Nat.le_refl _⟩, ⟨by (with_reducible repeat (first | apply Kd.R_alloc | apply Kd.R_drewN | apply Kd.R_drew)); exact HO_3.out⟩, ⟨by (with_reducible repeat (first | apply Kd.R_alloc | apply Kd.R_drewN | apply Kd.R_drew)); exact HO_10.out⟩, ⟨by repeat (first | (with_reducible first | exact HB.out | apply below_alloc | apply pw_below_drewN | apply below_drew1) | exact HB.out)⟩⟩
                · rw [if_neg c10] at H
                  have c10b0 : ((rdOf ByteArray.empty t118 x12_1).toList == ([43] : List UInt8)) = false := beq_eq_false_iff_ne.mpr c10
                  have c10b1 : ((rdOf ByteArray.empty t118 x12_1).toList != ([43] : List UInt8)) = true := bne_iff_ne.mpr c10
                  (first | rw [c10b0] | (simp only [i64_w, i32_w]; rw [c10b0]) | skip)
                  by_cases c11 : (rdOf ByteArray.empty t118 x12_1).toList = ([35] : List UInt8)
                  · rw [if_pos c11] at H
                    have c11b0 : ((rdOf ByteArray.empty t118 x12_1).toList == ([35] : List UInt8)) = true := beq_iff_eq.mpr c11
                    have c11b1 : ((rdOf ByteArray.empty t118 x12_1).toList != ([35] : List UInt8)) = false := bne_eq_false_iff_eq.mpr c11
                    clear c11
                    have H' := Aside0.mk H
                    clear H
                    go_wp2
                    go_meet
                    case rel => exact ⟨_, ((x12_1 == (wrap64 ((t118.length : Int) - 1)))), (by first | rfl | (simp; done) | (simp [*]; done)), H', ⟨by have := HK1.out; first | omega | exact Nat.le_refl _⟩, ⟨by (with_reducible repeat (first | apply Kd.R_alloc | apply Kd.R_drewN | apply Kd.R_drew)); exact HO_3.out⟩, ⟨by (with_reducible repeat (first | apply Kd.R_alloc | apply Kd.R_drewN | apply Kd.R_drew)); exact HO_10.out⟩, ⟨by repeat (first | (with_reducible first | exact HB.out | apply below_alloc | apply pw_below_drewN | apply below_drew1) | exact HB.out)⟩⟩
                  · rw [if_neg c11] at H
                    have c11b0 : ((rdOf ByteArray.empty t118 x12_1).toList == ([35] : List UInt8)) = false := beq_eq_false_iff_ne.mpr c11
                    have c11b1 : ((rdOf ByteArray.empty t118 x12_1).toList != ([35] : List UInt8)) = true := bne_iff_ne.mpr c11
                    have H' := Aside0.mk H
                    clear H
                    go_wp2
                    go_meet
                    case rel => exact ⟨_, (false), (by first | rfl | (simp; done) | (simp [*]; done)), H', ⟨by have := HK1.out; first | omega | exact Nat.le_refl _⟩, ⟨by (with_reducible repeat (first | apply Kd.R_alloc | apply Kd.R_drewN | apply Kd.R_drew)); exact HO_3.out⟩, ⟨by (with_reducible repeat (first | apply Kd.R_alloc | apply Kd.R_drewN | apply Kd.R_drew)); exact HO_10.out⟩, ⟨by repeat (first | (with_reducible first | exact HB.out | apply below_alloc | apply pw_below_drewN | apply below_drew1) | exact HB.out)⟩⟩
              case rest =>
                clear HC9
                try clear c1
                try clear p1
                try clear q1
                try clear hx1
                try clear c2
                try clear c2b0
                try clear c2b1
                try clear p2
                try clear c4
                try clear c6
                try clear c6b0
                try clear p6
                try clear c7
                try clear c7b0
                try clear c8
                try clear c8b0
                try clear c10
                try clear c10b0
                try clear c10b1
                try clear c11
                try clear c11b0
                try clear c11b1
                try clear hx121_0
                try clear p121
                try clear p2
                try clear q121
                obtain ⟨kq, x17_8, rfl, HA, HJ8, HO_3, HO_10, HB⟩ := hcut
                cases kq with
                | zero => exact absurd HA.out (by simp [topic_plain.j1])
                | succ kj8 =>
                  have H := HA.out
                  clear HA
                  simp only [topic_plain.j1] at H
                  by_cases c12 : x17_8 = true
                  · subst c12
                    have H1 : (topic_plain.l0 kj8 t118 t118 (t118.length : Int) (wrap64 (x12_1 + 1))) = some r := by rw [if_pos rfl] at H; exact H
                    clear H
                    have H := H1
                    clear H1
                    have H' := Aside0.mk H
                    clear H
                    go_wp2
                    go_roundg kj8
                    case measure => have := HK1.out; have := HJ8.out; omega
                    case rel => exact ⟨(wrap64 (x12_1 + 1)), (by first | rfl | (simp; done) | (simp [*]; done)), H', ⟨by have := HK1.out; have := HJ8.out; omega⟩, ⟨by (with_reducible repeat (first | apply Kd.R_alloc | apply Kd.R_drewN | apply Kd.R_drew)); exact HO_3.out⟩, ⟨by (with_reducible repeat (first | apply Kd.R_alloc | apply Kd.R_drewN | apply Kd.R_drew)); exact HO_10.out⟩, ⟨by repeat (first | (with_reducible first | exact HB.out | apply below_alloc | apply pw_below_drewN | apply below_drew1) | exact HB.out)⟩⟩
                  · replace c12 := Bool.eq_false_iff.mpr c12
                    subst c12
                    have H1 : ((topic_Wild.f (rdOf ByteArray.empty t118 x12_1)).bind fun t122 => (if t122 = true then (some false) else (topic_plain.l0 kj8 t118 t118 (t118.length : Int) (wrap64 (x12_1 + 1))))) = some r := by rw [if_neg (show ¬ (false = true) by decide)] at H; exact H
                    clear H
                    have H := H1
                    clear H1
                    replace H := Option.bind_eq_some_iff.mp H
                    obtain ⟨t122, A130, H⟩ := H
                    replace H : (if t122 = true then (some false) else (topic_plain.l0 kj8 t118 t118 (t118.length : Int) (wrap64 (x12_1 + 1)))) = some r := H
                    have A13 := Aside0.mk A130
                    clear A130
                    by_cases c14 : t122 = true
                    · subst c14
                      have H1 : (some false) = some r := by rw [if_pos rfl] at H; exact H
                      clear H
                      have H := H1
                      clear H1
                      obtain rfl := Option.some.inj H
                      go_wp2_with (first | ((with_reducible refine gate_callee (f := 45) rfl ?_); refine goesL_ (some 31) rfl rfl Tryd.func45 (by kernel_rfl) rfl #[.string (rdOf ByteArray.empty t118 x12_1)] rfl (by (try simp only [List.map_toArray, List.map_cons, List.map_nil]); first | done | rfl | (simp only [List.length_drop, List.length_take]; rfl)) ?_; (with_reducible refine (topic_Wild.calls (rdOf ByteArray.empty t118 x12_1) true _ A13.out).mono ?_); rintro e w15 ⟨rfl, hb⟩; refine ⟨_, rfl, ?_⟩; have n0_ := Aside0.mk (Kd.R_below (by (with_reducible repeat (first | apply Kd.R_alloc | apply Kd.R_drewN | apply Kd.R_drew)); exact HO_3.out) hb); have n1_ := Aside0.mk (Kd.R_below (by (with_reducible repeat (first | apply Kd.R_alloc | apply Kd.R_drewN | apply Kd.R_drew)); exact HO_10.out) hb); have n2_ := Aside0.mk (below_step (by repeat (first | (with_reducible first | exact HB.out | apply below_alloc | apply pw_below_drewN | apply below_drew1) | exact HB.out)) hb); clear HO_3; clear HO_10; clear HB; have HO_3 := n0_; have HO_10 := n1_; have HB := n2_; clear n0_ n1_ n2_; (try clear hb); (try clear hb2); (try clear hk); (try clear hi)))
                      go_ret
                      exact ⟨by first | rfl | (simp [errW_none, errW_some] <;> rfl) | (simp [*, errW_none, errW_some] <;> rfl), by repeat (first | (with_reducible first | exact HB.out | apply below_alloc | apply pw_below_drewN | apply below_drew1) | exact HB.out)⟩
                    · replace c14 := Bool.eq_false_iff.mpr c14
                      subst c14
                      have H1 : (topic_plain.l0 kj8 t118 t118 (t118.length : Int) (wrap64 (x12_1 + 1))) = some r := by rw [if_neg (show ¬ (false = true) by decide)] at H; exact H
                      clear H
                      have H := H1
                      clear H1
                      have H' := Aside0.mk H
                      clear H
                      go_wp2_with (first | ((with_reducible refine gate_callee (f := 45) rfl ?_); refine goesL_ (some 31) rfl rfl Tryd.func45 (by kernel_rfl) rfl #[.string (rdOf ByteArray.empty t118 x12_1)] rfl (by (try simp only [List.map_toArray, List.map_cons, List.map_nil]); first | done | rfl | (simp only [List.length_drop, List.length_take]; rfl)) ?_; (with_reducible refine (topic_Wild.calls (rdOf ByteArray.empty t118 x12_1) false _ A13.out).mono ?_); rintro e w16 ⟨rfl, hb⟩; refine ⟨_, rfl, ?_⟩; have n0_ := Aside0.mk (Kd.R_below (by (with_reducible repeat (first | apply Kd.R_alloc | apply Kd.R_drewN | apply Kd.R_drew)); exact HO_3.out) hb); have n1_ := Aside0.mk (Kd.R_below (by (with_reducible repeat (first | apply Kd.R_alloc | apply Kd.R_drewN | apply Kd.R_drew)); exact HO_10.out) hb); have n2_ := Aside0.mk (below_step (by repeat (first | (with_reducible first | exact HB.out | apply below_alloc | apply pw_below_drewN | apply below_drew1) | exact HB.out)) hb); clear HO_3; clear HO_10; clear HB; have HO_3 := n0_; have HO_10 := n1_; have HB := n2_; clear n0_ n1_ n2_; (try clear hb); (try clear hb2); (try clear hk); (try clear hi)))
                      go_roundg kj8
                      case measure => have := HK1.out; have := HJ8.out; omega
                      case rel => exact ⟨(wrap64 (x12_1 + 1)), (by first | rfl | (simp; done) | (simp [*]; done)), H', ⟨by have := HK1.out; have := HJ8.out; omega⟩, ⟨by (with_reducible repeat (first | apply Kd.R_alloc | apply Kd.R_drewN | apply Kd.R_drew)); exact HO_3.out⟩, ⟨by (with_reducible repeat (first | apply Kd.R_alloc | apply Kd.R_drewN | apply Kd.R_drew)); exact HO_10.out⟩, ⟨by repeat (first | (with_reducible first | exact HB.out | apply below_alloc | apply pw_below_drewN | apply below_drew1) | exact HB.out)⟩⟩
            · rw [if_neg c8] at H
              exact absurd H (by simp)
          · rw [if_neg c7] at H
            exact absurd H (by simp)
        · rw [if_neg c6] at H
          have c6b0 : decide (x12_1 < (t118.length : Int)) = false := decide_eq_false c6
          clear c6
          obtain rfl := Option.some.inj H
          go_wp2
          go_ret
          exact ⟨by first | rfl | (simp [errW_none, errW_some] <;> rfl) | (simp [*, errW_none, errW_some] <;> rfl), by repeat (first | (with_reducible first | exact HB.out | apply below_alloc | apply pw_below_drewN | apply below_drew1) | exact HB.out)⟩

end Go.Proofs.YtbaipppmefencaaDoor.P

namespace Go.Proofs.YtbaipppmefencaaDoor.P
open Go.RowKit Go.Proofs.YtbaipppmefencaaDoorW.PrintWords Go.Proofs.YtbaipppmefencaaDoorW.PrintLast Go.Proofs.YtbaipppmefencaaDoorW.PrintMore
attribute [local go_sem] max2_int min2_int max_two min_two max_three min_three max_four min_four
set_option linter.unusedVariables false
set_option linter.unusedSimpArgs false

/-! ### topic_Filter: function 42 -/
def topic_Filter.f (k : Nat) (a0 : ByteArray) : Option (Bool) := (text_Right.f a0).bind fun t123 => (if t123 = true then ((strings_CutPrefix.f a0 (⟨#[36, 115, 104, 97, 114, 101, 47]⟩ : ByteArray)).bind fun bt124 => (if bt124.2 = true then ((strings_Cut.f bt124.1 (⟨#[47]⟩ : ByteArray)).bind fun bt126 => (if bt126.2.2 = true then (if bt126.1.toList = ([] : List UInt8) then (some false) else ((topic_Wild.f bt126.1).bind fun t129 => (if t129 = true then (some false) else ((topic_plain.f k bt126.2.1).bind fun t130 => (some t130))))) else (some false))) else ((topic_plain.f k a0).bind fun t131 => (some t131)))) else (some false))
theorem topic_Filter.mono : ∀ a0 k, LeO (topic_Filter.f k a0) (topic_Filter.f (k + 1) a0) := by
  intro a0 k
  unfold topic_Filter.f
  repeat' first
      | (with_reducible exact topic_plain.mono _ _)
      | (with_reducible exact LeO.refl _)
      | (with_reducible exact LeO.none _)
      | (with_reducible refine LeO.ite ?_ ?_)
      | (with_reducible refine LeO.bind ?_ (fun _ => ?_))
      | exact topic_plain.mono _ _
      | exact LeO.none _
      | refine LeO.ite ?_ ?_
      | refine LeO.bind ?_ (fun _ => ?_)
set_option maxHeartbeats 8000000 in
set_option maxRecDepth 100000 in
theorem topic_Filter.calls (k : Nat) (a0 : ByteArray) (r : Bool) (w : World) (hG : GW w) (h : topic_Filter.f k a0 = some r) :
    Calls Tryd.prog 42 #[.string a0] w fun e w' => e = .returned (.bool r) ∧ Below w.heap.size w w' := by
  have HB := Aside0.mk (Below.refl w.heap.size w)
  have HG := Aside0.mk hG
  clear hG
  have H : ((text_Right.f a0).bind fun t123 => (if t123 = true then ((strings_CutPrefix.f a0 (⟨#[36, 115, 104, 97, 114, 101, 47]⟩ : ByteArray)).bind fun bt124 => (if bt124.2 = true then ((strings_Cut.f bt124.1 (⟨#[47]⟩ : ByteArray)).bind fun bt126 => (if bt126.2.2 = true then (if bt126.1.toList = ([] : List UInt8) then (some false) else ((topic_Wild.f bt126.1).bind fun t129 => (if t129 = true then (some false) else ((topic_plain.f k bt126.2.1).bind fun t130 => (some t130))))) else (some false))) else ((topic_plain.f k a0).bind fun t131 => (some t131)))) else (some false))) = some r := h
  clear h
  replace H := Option.bind_eq_some_iff.mp H
  obtain ⟨t123, A20, H⟩ := H
  replace H : (if t123 = true then ((strings_CutPrefix.f a0 (⟨#[36, 115, 104, 97, 114, 101, 47]⟩ : ByteArray)).bind fun bt124 => (if bt124.2 = true then ((strings_Cut.f bt124.1 (⟨#[47]⟩ : ByteArray)).bind fun bt126 => (if bt126.2.2 = true then (if bt126.1.toList = ([] : List UInt8) then (some false) else ((topic_Wild.f bt126.1).bind fun t129 => (if t129 = true then (some false) else ((topic_plain.f k bt126.2.1).bind fun t130 => (some t130))))) else (some false))) else ((topic_plain.f k a0).bind fun t131 => (some t131)))) else (some false)) = some r := H
  have A2 := Aside0.mk A20
  clear A20
  by_cases c3 : t123 = true
  · subst c3
    have H1 : ((strings_CutPrefix.f a0 (⟨#[36, 115, 104, 97, 114, 101, 47]⟩ : ByteArray)).bind fun bt124 => (if bt124.2 = true then ((strings_Cut.f bt124.1 (⟨#[47]⟩ : ByteArray)).bind fun bt126 => (if bt126.2.2 = true then (if bt126.1.toList = ([] : List UInt8) then (some false) else ((topic_Wild.f bt126.1).bind fun t129 => (if t129 = true then (some false) else ((topic_plain.f k bt126.2.1).bind fun t130 => (some t130))))) else (some false))) else ((topic_plain.f k a0).bind fun t131 => (some t131)))) = some r := by rw [if_pos rfl] at H; exact H
    clear H
    have H := H1
    clear H1
    replace H := Option.bind_eq_some_iff.mp H
    obtain ⟨⟨t124, t125⟩, A40, H⟩ := H
    replace H : (if t125 = true then ((strings_Cut.f t124 (⟨#[47]⟩ : ByteArray)).bind fun bt126 => (if bt126.2.2 = true then (if bt126.1.toList = ([] : List UInt8) then (some false) else ((topic_Wild.f bt126.1).bind fun t129 => (if t129 = true then (some false) else ((topic_plain.f k bt126.2.1).bind fun t130 => (some t130))))) else (some false))) else ((topic_plain.f k a0).bind fun t131 => (some t131))) = some r := H
    have A4 := Aside0.mk A40
    clear A40
    by_cases c5 : t125 = true
    · subst c5
      have H1 : ((strings_Cut.f t124 (⟨#[47]⟩ : ByteArray)).bind fun bt126 => (if bt126.2.2 = true then (if bt126.1.toList = ([] : List UInt8) then (some false) else ((topic_Wild.f bt126.1).bind fun t129 => (if t129 = true then (some false) else ((topic_plain.f k bt126.2.1).bind fun t130 => (some t130))))) else (some false))) = some r := by rw [if_pos rfl] at H; exact H
      clear H
      have H := H1
      clear H1
      replace H := Option.bind_eq_some_iff.mp H
      obtain ⟨⟨t126, t127, t128⟩, A60, H⟩ := H
      replace H : (if t128 = true then (if t126.toList = ([] : List UInt8) then (some false) else ((topic_Wild.f t126).bind fun t129 => (if t129 = true then (some false) else ((topic_plain.f k t127).bind fun t130 => (some t130))))) else (some false)) = some r := H
      have A6 := Aside0.mk A60
      clear A60
      by_cases c7 : t128 = true
      · subst c7
        have H1 : (if t126.toList = ([] : List UInt8) then (some false) else ((topic_Wild.f t126).bind fun t129 => (if t129 = true then (some false) else ((topic_plain.f k t127).bind fun t130 => (some t130))))) = some r := by rw [if_pos rfl] at H; exact H
        clear H
        have H := H1
        clear H1
        by_cases c8 : t126.toList = ([] : List UInt8)
        · rw [if_pos c8] at H
          have c8b0 : (t126.toList == ([] : List UInt8)) = true := beq_iff_eq.mpr c8
          have c8b1 : (t126.toList != ([] : List UInt8)) = false := bne_eq_false_iff_eq.mpr c8
          clear c8
          obtain rfl := Option.some.inj H
          go_enter Tryd.func42, Tryd.ntmps42
          go_wp2_with (first | ((with_reducible refine gate_callee (f := 80) rfl ?_); refine goesL_ (some 9) rfl rfl Tryd.func80 (by kernel_rfl) rfl #[.string a0] rfl (by (try simp only [List.map_toArray, List.map_cons, List.map_nil]); first | done | rfl | (simp only [List.length_drop, List.length_take]; rfl)) ?_; (with_reducible refine (text_Right.calls a0 true _ ?side1 A2.out).mono ?_); (case side1 => exact GW.below HG.out (by repeat (first | (with_reducible first | exact HB.out | apply below_alloc | apply pw_below_drewN | apply below_drew1) | exact HB.out))); rintro e w9 ⟨rfl, hb⟩; refine ⟨_, rfl, ?_⟩; have n0_ := Aside0.mk (below_step (by repeat (first | (with_reducible first | exact HB.out | apply below_alloc | apply pw_below_drewN | apply below_drew1) | exact HB.out)) hb); clear HB; have HB := n0_; clear n0_; (try clear hb); (try clear hb2); (try clear hk); (try clear hi)) | ((with_reducible refine gate_callee (f := 78) rfl ?_); refine goesL_ (some 13) rfl rfl Tryd.func78 (by kernel_rfl) rfl #[.string a0, .string (⟨#[36, 115, 104, 97, 114, 101, 47]⟩ : ByteArray)] rfl (by (try simp only [List.map_toArray, List.map_cons, List.map_nil]); first | done | rfl | (simp only [List.length_drop, List.length_take]; rfl)) ?_; (with_reducible refine (strings_CutPrefix.calls a0 (⟨#[36, 115, 104, 97, 114, 101, 47]⟩ : ByteArray) t124 true _ A4.out).mono ?_); rintro e w' ⟨rfl, ⟨nd, rfl⟩⟩; refine ⟨_, rfl, ?_⟩) | ((with_reducible refine gate_callee (f := 79) rfl ?_); refine goesL_ (some 22) rfl rfl Tryd.func79 (by kernel_rfl) rfl #[.string t124, .string (⟨#[47]⟩ : ByteArray)] rfl (by (try simp only [List.map_toArray, List.map_cons, List.map_nil]); first | done | rfl | (simp only [List.length_drop, List.length_take]; rfl)) ?_; (with_reducible refine (strings_Cut.calls t124 (⟨#[47]⟩ : ByteArray) t126 t127 true _ ?side1 A6.out).mono ?_); (case side1 => exact GW.below HG.out (by repeat (first | (with_reducible first | exact HB.out | apply below_alloc | apply pw_below_drewN | apply below_drew1) | exact HB.out))); rintro e w' ⟨rfl, ⟨nd, rfl⟩⟩; refine ⟨_, rfl, ?_⟩))
          go_ret
          exact ⟨by first | rfl | (simp [errW_none, errW_some] <;> rfl) | (simp [*, errW_none, errW_some] <;> rfl), by repeat (first | (with_reducible first | exact HB.out | apply below_alloc | apply pw_below_drewN | apply below_drew1) | exact HB.out)⟩
        · rw [if_neg c8] at H
          have c8b0 : (t126.toList == ([] : List UInt8)) = false := beq_eq_false_iff_ne.mpr c8
          have c8b1 : (t126.toList != ([] : List UInt8)) = true := bne_iff_ne.mpr c8
          replace H := Option.bind_eq_some_iff.mp H
          obtain ⟨t129, A100, H⟩ := H
          replace H : (if t129 = true then (some false) else ((topic_plain.f k t127).bind fun t130 => (some t130))) = some r := H
          have A10 := Aside0.mk A100
          clear A100
          by_cases c11 : t129 = true
          · subst c11
            have H1 : (some false) = some r := by rw [if_pos rfl] at H; exact H
            clear H
            have H := H1
            clear H1
            obtain rfl := Option.some.inj H
            go_enter Tryd.func42, Tryd.ntmps42
            go_wp2_with (first | ((with_reducible refine gate_callee (f := 80) rfl ?_); refine goesL_ (some 9) rfl rfl Tryd.func80 (by kernel_rfl) rfl #[.string a0] rfl (by (try simp only [List.map_toArray, List.map_cons, List.map_nil]); first | done | rfl | (simp only [List.length_drop, List.length_take]; rfl)) ?_; (with_reducible refine (text_Right.calls a0 true _ ?side1 A2.out).mono ?_); (case side1 => exact GW.below HG.out (by repeat (first | (with_reducible first | exact HB.out | apply below_alloc | apply pw_below_drewN | apply below_drew1) | exact HB.out))); rintro e w12 ⟨rfl, hb⟩; refine ⟨_, rfl, ?_⟩; have n0_ := Aside0.mk (below_step (by repeat (first | (with_reducible first | exact HB.out | apply below_alloc | apply pw_below_drewN | apply below_drew1) | exact HB.out)) hb); clear HB; have HB := n0_; clear n0_; (try clear hb); (try clear hb2); (try clear hk); (try clear hi)) | ((with_reducible refine gate_callee (f := 78) rfl ?_); refine goesL_ (some 13) rfl rfl Tryd.func78 (by kernel_rfl) rfl #[.string a0, .string (⟨#[36, 115, 104, 97, 114, 101, 47]⟩ : ByteArray)] rfl (by (try simp only [List.map_toArray, List.map_cons, List.map_nil]); first | done | rfl | (simp only [List.length_drop, List.length_take]; rfl)) ?_; (with_reducible refine (strings_CutPrefix.calls a0 (⟨#[36, 115, 104, 97, 114, 101, 47]⟩ : ByteArray) t124 true _ A4.out).mono ?_); rintro e w' ⟨rfl, ⟨nd, rfl⟩⟩; refine ⟨_, rfl, ?_⟩) | ((with_reducible refine gate_callee (f := 79) rfl ?_); refine goesL_ (some 22) rfl rfl Tryd.func79 (by kernel_rfl) rfl #[.string t124, .string (⟨#[47]⟩ : ByteArray)] rfl (by (try simp only [List.map_toArray, List.map_cons, List.map_nil]); first | done | rfl | (simp only [List.length_drop, List.length_take]; rfl)) ?_; (with_reducible refine (strings_Cut.calls t124 (⟨#[47]⟩ : ByteArray) t126 t127 true _ ?side1 A6.out).mono ?_); (case side1 => exact GW.below HG.out (by repeat (first | (with_reducible first | exact HB.out | apply below_alloc | apply pw_below_drewN | apply below_drew1) | exact HB.out))); rintro e w' ⟨rfl, ⟨nd, rfl⟩⟩; refine ⟨_, rfl, ?_⟩) | (go_at_call 45; (with_reducible refine (topic_Wild.calls t126 true _ A10.out).mono ?_); rintro e w13 ⟨rfl, hb⟩; have n0_ := Aside0.mk (below_step (by repeat (first | (with_reducible first | exact HB.out | apply below_alloc | apply pw_below_drewN | apply below_drew1) | exact HB.out)) hb); clear HB; have HB := n0_; clear n0_; (try clear hb); (try clear hb2); (try clear hk); (try clear hi)))
            go_ret
            exact ⟨by first | rfl | (simp [errW_none, errW_some] <;> rfl) | (simp [*, errW_none, errW_some] <;> rfl), by repeat (first | (with_reducible first | exact HB.out | apply below_alloc | apply pw_below_drewN | apply below_drew1) | exact HB.out)⟩
          · replace c11 := Bool.eq_false_iff.mpr c11
            subst c11
            have H1 : ((topic_plain.f k t127).bind fun t130 => (some t130)) = some r := by rw [if_neg (show ¬ (false = true) by decide)] at H; exact H
            clear H
            have H := H1
            clear H1
            replace H := Option.bind_eq_some_iff.mp H
            obtain ⟨t130, A140, H⟩ := H
            replace H : (some t130) = some r := H
            have A14 := Aside0.mk A140
            clear A140
            obtain rfl := Option.some.inj H
            go_enter Tryd.func42, Tryd.ntmps42
            go_wp2_with (first | ((with_reducible refine gate_callee (f := 80) rfl ?_); refine goesL_ (some 9) rfl rfl Tryd.func80 (by kernel_rfl) rfl #[.string a0] rfl (by (try simp only [List.map_toArray, List.map_cons, List.map_nil]); first | done | rfl | (simp only [List.length_drop, List.length_take]; rfl)) ?_; (with_reducible refine (text_Right.calls a0 true _ ?side1 A2.out).mono ?_); (case side1 => exact GW.below HG.out (by repeat (first | (with_reducible first | exact HB.out | apply below_alloc | apply pw_below_drewN | apply below_drew1) | exact HB.out))); rintro e w15 ⟨rfl, hb⟩; refine ⟨_, rfl, ?_⟩; have n0_ := Aside0.mk (below_step (by repeat (first | (with_reducible first | exact HB.out | apply below_alloc | apply pw_below_drewN | apply below_drew1) | exact HB.out)) hb); clear HB; have HB := n0_; clear n0_; (try clear hb); (try clear hb2); (try clear hk); (try clear hi)) | ((with_reducible refine gate_callee (f := 78) rfl ?_); refine goesL_ (some 13) rfl rfl Tryd.func78 (by kernel_rfl) rfl #[.string a0, .string (⟨#[36, 115, 104, 97, 114, 101, 47]⟩ : ByteArray)] rfl (by (try simp only [List.map_toArray, List.map_cons, List.map_nil]); first | done | rfl | (simp only [List.length_drop, List.length_take]; rfl)) ?_; (with_reducible refine (strings_CutPrefix.calls a0 (⟨#[36, 115, 104, 97, 114, 101, 47]⟩ : ByteArray) t124 true _ A4.out).mono ?_); rintro e w' ⟨rfl, ⟨nd, rfl⟩⟩; refine ⟨_, rfl, ?_⟩) | ((with_reducible refine gate_callee (f := 79) rfl ?_); refine goesL_ (some 22) rfl rfl Tryd.func79 (by kernel_rfl) rfl #[.string t124, .string (⟨#[47]⟩ : ByteArray)] rfl (by (try simp only [List.map_toArray, List.map_cons, List.map_nil]); first | done | rfl | (simp only [List.length_drop, List.length_take]; rfl)) ?_; (with_reducible refine (strings_Cut.calls t124 (⟨#[47]⟩ : ByteArray) t126 t127 true _ ?side1 A6.out).mono ?_); (case side1 => exact GW.below HG.out (by repeat (first | (with_reducible first | exact HB.out | apply below_alloc | apply pw_below_drewN | apply below_drew1) | exact HB.out))); rintro e w' ⟨rfl, ⟨nd, rfl⟩⟩; refine ⟨_, rfl, ?_⟩) | (go_at_call 45; (with_reducible refine (topic_Wild.calls t126 false _ A10.out).mono ?_); rintro e w16 ⟨rfl, hb⟩; have n0_ := Aside0.mk (below_step (by repeat (first | (with_reducible first | exact HB.out | apply below_alloc | apply pw_below_drewN | apply below_drew1) | exact HB.out)) hb); clear HB; have HB := n0_; clear n0_; (try clear hb); (try clear hb2); (try clear hk); (try clear hi)) | (go_at_call 81; (with_reducible refine (topic_plain.calls k t127 t130 _ ?side1 A14.out).mono ?_); (case side1 => exact GW.below HG.out (by repeat (first | (with_reducible first | exact HB.out | apply below_alloc | apply pw_below_drewN | apply below_drew1) | exact HB.out))); rintro e w17 ⟨rfl, hb⟩; have n0_ := Aside0.mk (below_step (by repeat (first | (with_reducible first | exact HB.out | apply below_alloc | apply pw_below_drewN | apply below_drew1) | exact HB.out)) hb); clear HB; have HB := n0_; clear n0_; (try clear hb); (try clear hb2); (try clear hk); (try clear hi)))
            go_ret
            exact ⟨by first | rfl | (simp [errW_none, errW_some] <;> rfl) | (simp [*, errW_none, errW_some] <;> rfl), by repeat (first | (with_reducible first | exact HB.out | apply below_alloc | apply pw_below_drewN | apply below_drew1) | exact HB.out)⟩
      · replace c7 := Bool.eq_false_iff.mpr c7
        subst c7
        have H1 : (some false) = some r := by rw [if_neg (show ¬ (false = true) by decide)] at H; exact H
        clear H
        have H := H1
        clear H1
        obtain rfl := Option.some.inj H
        go_enter Tryd.func42, Tryd.ntmps42
        go_wp2_with (first | ((with_reducible refine gate_callee (f := 80) rfl ?_); refine goesL_ (some 9) rfl rfl Tryd.func80 (by kernel_rfl) rfl #[.string a0] rfl (by (try simp only [List.map_toArray, List.map_cons, List.map_nil]); first | done | rfl | (simp only [List.length_drop, List.length_take]; rfl)) ?_; (with_reducible refine (text_Right.calls a0 true _ ?side1 A2.out).mono ?_); (case side1 => exact GW.below HG.out (by repeat (first | (with_reducible first | exact HB.out | apply below_alloc | apply pw_below_drewN | apply below_drew1) | exact HB.out))); rintro e w18 ⟨rfl, hb⟩; refine ⟨_, rfl, ?_⟩; have n0_ := Aside0.mk (below_step (by repeat (first | (with_reducible first | exact HB.out | apply below_alloc | apply pw_below_drewN | apply below_drew1) | exact HB.out)) hb); clear HB; have HB := n0_; clear n0_; (try clear hb); (try clear hb2); (try clear hk); (try clear hi)) | ((with_reducible refine gate_callee (f := 78) rfl ?_); refine goesL_ (some 13) rfl rfl Tryd.func78 (by kernel_rfl) rfl #[.string a0, .string (⟨#[36, 115, 104, 97, 114, 101, 47]⟩ : ByteArray)] rfl (by (try simp only [List.map_toArray, List.map_cons, List.map_nil]); first | done | rfl | (simp only [List.length_drop, List.length_take]; rfl)) ?_; (with_reducible refine (strings_CutPrefix.calls a0 (⟨#[36, 115, 104, 97, 114, 101, 47]⟩ : ByteArray) t124 true _ A4.out).mono ?_); rintro e w' ⟨rfl, ⟨nd, rfl⟩⟩; refine ⟨_, rfl, ?_⟩) | ((with_reducible refine gate_callee (f := 79) rfl ?_); refine goesL_ (some 22) rfl rfl Tryd.func79 (by kernel_rfl) rfl #[.string t124, .string (⟨#[47]⟩ : ByteArray)] rfl (by (try simp only [List.map_toArray, List.map_cons, List.map_nil]); first | done | rfl | (simp only [List.length_drop, List.length_take]; rfl)) ?_; (with_reducible refine (strings_Cut.calls t124 (⟨#[47]⟩ : ByteArray) t126 t127 false _ ?side1 A6.out).mono ?_); (case side1 => exact GW.below HG.out (by repeat (first | (with_reducible first | exact HB.out | apply below_alloc | apply pw_below_drewN | apply below_drew1) | exact HB.out))); rintro e w' ⟨rfl, ⟨nd, rfl⟩⟩; refine ⟨_, rfl, ?_⟩))
        go_ret
        exact ⟨by first | rfl | (simp [errW_none, errW_some] <;> rfl) | (simp [*, errW_none, errW_some] <;> rfl), by repeat (first | (with_reducible first | exact HB.out | apply below_alloc | apply pw_below_drewN | apply below_drew1) | exact HB.out)⟩
    · replace c5 := Bool.eq_false_iff.mpr c5
      subst c5
      have H1 : ((topic_plain.f k a0).bind fun t131 => (some t131)) = some r := by rw [if_neg (show ¬ (false = true) by decide)] at H; exact H
      clear H
      have H := H1
      clear H1
      replace H := Option.bind_eq_some_iff.mp H
      obtain ⟨t131, A190, H⟩ := H
      replace H : (some t131) = some r := H
      have A19 := Aside0.mk A190
      clear A190
      obtain rfl := Option.some.inj H
      go_enter Tryd.func42, Tryd.ntmps42
      go_wp2_with (first | ((with_reducible refine gate_callee (f := 80) rfl ?_); refine goesL_ (some 9) rfl rfl Tryd.func80 (by kernel_rfl) rfl #[.string a0] rfl (by (try simp only [List.map_toArray, List.map_cons, List.map_nil]); first | done | rfl | (simp only [List.length_drop, List.length_take]; rfl)) ?_; (with_reducible refine (text_Right.calls a0 true _ ?side1 A2.out).mono ?_); (case side1 => exact GW.below HG.out (by repeat (first | (with_reducible first | exact HB.out | apply below_alloc | apply pw_below_drewN | apply below_drew1) | exact HB.out))); rintro e w20 ⟨rfl, hb⟩; refine ⟨_, rfl, ?_⟩; have n0_ := Aside0.mk (below_step (by repeat (first | (with_reducible first | exact HB.out | apply below_alloc | apply pw_below_drewN | apply below_drew1) | exact HB.out)) hb); clear HB; have HB := n0_; clear n0_; (try clear hb); (try clear hb2); (try clear hk); (try clear hi)) | ((with_reducible refine gate_callee (f := 78) rfl ?_); refine goesL_ (some 13) rfl rfl Tryd.func78 (by kernel_rfl) rfl #[.string a0, .string (⟨#[36, 115, 104, 97, 114, 101, 47]⟩ : ByteArray)] rfl (by (try simp only [List.map_toArray, List.map_cons, List.map_nil]); first | done | rfl | (simp only [List.length_drop, List.length_take]; rfl)) ?_; (with_reducible refine (strings_CutPrefix.calls a0 (⟨#[36, 115, 104, 97, 114, 101, 47]⟩ : ByteArray) t124 false _ A4.out).mono ?_); rintro e w' ⟨rfl, ⟨nd, rfl⟩⟩; refine ⟨_, rfl, ?_⟩) | ((with_reducible refine gate_callee (f := 81) rfl ?_); refine goesL_ (some 19) rfl rfl Tryd.func81 (by kernel_rfl) rfl #[.string a0] rfl (by (try simp only [List.map_toArray, List.map_cons, List.map_nil]); first | done | rfl | (simp only [List.length_drop, List.length_take]; rfl)) ?_; (with_reducible refine (topic_plain.calls k a0 t131 _ ?side1 A19.out).mono ?_); (case side1 => exact GW.below HG.out (by repeat (first | (with_reducible first | exact HB.out | apply below_alloc | apply pw_below_drewN | apply below_drew1) | exact HB.out))); rintro e w21 ⟨rfl, hb⟩; refine ⟨_, rfl, ?_⟩; have n0_ := Aside0.mk (below_step (by repeat (first | (with_reducible first | exact HB.out | apply below_alloc | apply pw_below_drewN | apply below_drew1) | exact HB.out)) hb); clear HB; have HB := n0_; clear n0_; (try clear hb); (try clear hb2); (try clear hk); (try clear hi)))
      go_ret
      exact ⟨by first | rfl | (simp [errW_none, errW_some] <;> rfl) | (simp [*, errW_none, errW_some] <;> rfl), by repeat (first | (with_reducible first | exact HB.out | apply below_alloc | apply pw_below_drewN | apply below_drew1) | exact HB.out)⟩
  · replace c3 := Bool.eq_false_iff.mpr c3
    subst c3
    have H1 : (some false) = some r := by rw [if_neg (show ¬ (false = true) by decide)] at H; exact H
    clear H
    have H := H1
    clear H1
    obtain rfl := Option.some.inj H
    go_enter Tryd.func42, Tryd.ntmps42
    go_wp2_with (first | ((with_reducible refine gate_callee (f := 80) rfl ?_); refine goesL_ (some 9) rfl rfl Tryd.func80 (by kernel_rfl) rfl #[.string a0] rfl (by (try simp only [List.map_toArray, List.map_cons, List.map_nil]); first | done | rfl | (simp only [List.length_drop, List.length_take]; rfl)) ?_; (with_reducible refine (text_Right.calls a0 false _ ?side1 A2.out).mono ?_); (case side1 => exact GW.below HG.out (by repeat (first | (with_reducible first | exact HB.out | apply below_alloc | apply pw_below_drewN | apply below_drew1) | exact HB.out))); rintro e w22 ⟨rfl, hb⟩; refine ⟨_, rfl, ?_⟩; have n0_ := Aside0.mk (below_step (by repeat (first | (with_reducible first | exact HB.out | apply below_alloc | apply pw_below_drewN | apply below_drew1) | exact HB.out)) hb); clear HB; have HB := n0_; clear n0_; (try clear hb); (try clear hb2); (try clear hk); (try clear hi)))
    go_ret
    exact ⟨by first | rfl | (simp [errW_none, errW_some] <;> rfl) | (simp [*, errW_none, errW_some] <;> rfl), by repeat (first | (with_reducible first | exact HB.out | apply below_alloc | apply pw_below_drewN | apply below_drew1) | exact HB.out)⟩

end Go.Proofs.YtbaipppmefencaaDoor.P

namespace Go.Proofs.YtbaipppmefencaaDoor.P
open Go.RowKit Go.Proofs.YtbaipppmefencaaDoorW.PrintWords Go.Proofs.YtbaipppmefencaaDoorW.PrintLast Go.Proofs.YtbaipppmefencaaDoorW.PrintMore
attribute [local go_sem] max2_int min2_int max_two min_two max_three min_three max_four min_four
set_option linter.unusedVariables false
set_option linter.unusedSimpArgs false

/-! ### topic_Shared: function 41 -/
def topic_Shared.f (k : Nat) (a0 : ByteArray) : Option (ByteArray × ByteArray × Bool) := (strings_CutPrefix.f a0 (⟨#[36, 115, 104, 97, 114, 101, 47]⟩ : ByteArray)).bind fun bt132 => (if bt132.2 = true then ((topic_Filter.f k a0).bind fun t134 => (if t134 = true then ((strings_Cut.f bt132.1 (⟨#[47]⟩ : ByteArray)).bind fun bt135 => (some (bt135.1, bt135.2.1, bt135.2.2))) else (some ((⟨#[]⟩ : ByteArray), (⟨#[]⟩ : ByteArray), false)))) else (some ((⟨#[]⟩ : ByteArray), (⟨#[]⟩ : ByteArray), false)))
theorem topic_Shared.mono : ∀ a0 k, LeO (topic_Shared.f k a0) (topic_Shared.f (k + 1) a0) := by
  intro a0 k
  unfold topic_Shared.f
  repeat' first
      | (with_reducible exact topic_Filter.mono _ _)
      | (with_reducible exact LeO.refl _)
      | (with_reducible exact LeO.none _)
      | (with_reducible refine LeO.ite ?_ ?_)
      | (with_reducible refine LeO.bind ?_ (fun _ => ?_))
      | exact topic_Filter.mono _ _
      | exact LeO.none _
      | refine LeO.ite ?_ ?_
      | refine LeO.bind ?_ (fun _ => ?_)
set_option maxHeartbeats 8000000 in
set_option maxRecDepth 100000 in
theorem topic_Shared.calls (k : Nat) (a0 : ByteArray) (r1 : ByteArray) (r2 : ByteArray) (r3 : Bool) (w : World) (hG : GW w) (h : topic_Shared.f k a0 = some (r1, r2, r3)) :
    Calls Tryd.prog 41 #[.string a0] w fun e w' => e = .returned (.tuple #[.string r1, .string r2, .bool r3]) ∧ Below w.heap.size w w' := by
  have HB := Aside0.mk (Below.refl w.heap.size w)
  have HG := Aside0.mk hG
  clear hG
  have H : ((strings_CutPrefix.f a0 (⟨#[36, 115, 104, 97, 114, 101, 47]⟩ : ByteArray)).bind fun bt132 => (if bt132.2 = true then ((topic_Filter.f k a0).bind fun t134 => (if t134 = true then ((strings_Cut.f bt132.1 (⟨#[47]⟩ : ByteArray)).bind fun bt135 => (some (bt135.1, bt135.2.1, bt135.2.2))) else (some ((⟨#[]⟩ : ByteArray), (⟨#[]⟩ : ByteArray), false)))) else (some ((⟨#[]⟩ : ByteArray), (⟨#[]⟩ : ByteArray), false)))) = some (r1, r2, r3) := h
  clear h
  replace H := Option.bind_eq_some_iff.mp H
  obtain ⟨⟨t132, t133⟩, A20, H⟩ := H
  replace H : (if t133 = true then ((topic_Filter.f k a0).bind fun t134 => (if t134 = true then ((strings_Cut.f t132 (⟨#[47]⟩ : ByteArray)).bind fun bt135 => (some (bt135.1, bt135.2.1, bt135.2.2))) else (some ((⟨#[]⟩ : ByteArray), (⟨#[]⟩ : ByteArray), false)))) else (some ((⟨#[]⟩ : ByteArray), (⟨#[]⟩ : ByteArray), false))) = some (r1, r2, r3) := H
  have A2 := Aside0.mk A20
  clear A20
  by_cases c3 : t133 = true
  · subst c3
    have H1 : ((topic_Filter.f k a0).bind fun t134 => (if t134 = true then ((strings_Cut.f t132 (⟨#[47]⟩ : ByteArray)).bind fun bt135 => (some (bt135.1, bt135.2.1, bt135.2.2))) else (some ((⟨#[]⟩ : ByteArray), (⟨#[]⟩ : ByteArray), false)))) = some (r1, r2, r3) := by rw [if_pos rfl] at H; exact H
    clear H
    have H := H1
    clear H1
    replace H := Option.bind_eq_some_iff.mp H
    obtain ⟨t134, A40, H⟩ := H
    replace H : (if t134 = true then ((strings_Cut.f t132 (⟨#[47]⟩ : ByteArray)).bind fun bt135 => (some (bt135.1, bt135.2.1, bt135.2.2))) else (some ((⟨#[]⟩ : ByteArray), (⟨#[]⟩ : ByteArray), false))) = some (r1, r2, r3) := H
    have A4 := Aside0.mk A40
    clear A40
    by_cases c5 : t134 = true
    · subst c5
      have H1 : ((strings_Cut.f t132 (⟨#[47]⟩ : ByteArray)).bind fun bt135 => (some (bt135.1, bt135.2.1, bt135.2.2))) = some (r1, r2, r3) := by rw [if_pos rfl] at H; exact H
      clear H
      have H := H1
      clear H1
      replace H := Option.bind_eq_some_iff.mp H
      obtain ⟨⟨t135, t136, t137⟩, A60, H⟩ := H
      replace H : (some (t135, t136, t137)) = some (r1, r2, r3) := H
      have A6 := Aside0.mk A60
      clear A60
      simp only [Option.some.injEq, Prod.mk.injEq] at H
      obtain ⟨rfl, rfl, rfl⟩ := H
      go_enter Tryd.func41, Tryd.ntmps41
      go_wp2_with (first | ((with_reducible refine gate_callee (f := 78) rfl ?_); refine goesL_ (some 9) rfl rfl Tryd.func78 (by kernel_rfl) rfl #[.string a0, .string (⟨#[36, 115, 104, 97, 114, 101, 47]⟩ : ByteArray)] rfl (by (try simp only [List.map_toArray, List.map_cons, List.map_nil]); first | done | rfl | (simp only [List.length_drop, List.length_take]; rfl)) ?_; (with_reducible refine (strings_CutPrefix.calls a0 (⟨#[36, 115, 104, 97, 114, 101, 47]⟩ : ByteArray) t132 true _ A2.out).mono ?_); rintro e w' ⟨rfl, ⟨nd, rfl⟩⟩; refine ⟨_, rfl, ?_⟩) | (go_at_call 42; (with_reducible refine (topic_Filter.calls k a0 true _ ?side1 A4.out).mono ?_); (case side1 => exact GW.below HG.out (by repeat (first | (with_reducible first | exact HB.out | apply below_alloc | apply pw_below_drewN | apply below_drew1) | exact HB.out))); rintro e w7 ⟨rfl, hb⟩; have n0_ := Aside0.mk (below_step (by repeat (first | (with_reducible first | exact HB.out | apply below_alloc | apply pw_below_drewN | apply below_drew1) | exact HB.out)) hb); clear HB; have HB := n0_; clear n0_; (try clear hb); (try clear hb2); (try clear hk); (try clear hi)) | ((with_reducible refine gate_callee (f := 79) rfl ?_); refine goesL_ (some 20) rfl rfl Tryd.func79 (by kernel_rfl) rfl #[.string t132, .string (⟨#[47]⟩ : ByteArray)] rfl (by (try simp only [List.map_toArray, List.map_cons, List.map_nil]); first | done | rfl | (simp only [List.length_drop, List.length_take]; rfl)) ?_; (with_reducible refine (strings_Cut.calls t132 (⟨#[47]⟩ : ByteArray) t135 t136 t137 _ ?side1 A6.out).mono ?_); (case side1 => exact GW.below HG.out (by repeat (first | (with_reducible first | exact HB.out | apply below_alloc | apply pw_below_drewN | apply below_drew1) | exact HB.out))); rintro e w' ⟨rfl, ⟨nd, rfl⟩⟩; refine ⟨_, rfl, ?_⟩))
      go_ret3
      exact ⟨by first | rfl | (simp [errW_none, errW_some] <;> rfl) | (simp [*, errW_none, errW_some] <;> rfl), by repeat (first | (with_reducible first | exact HB.out | apply below_alloc | apply pw_below_drewN | apply below_drew1) | exact HB.out)⟩
    · replace c5 := Bool.eq_false_iff.mpr c5
      subst c5
      have H1 : (some ((⟨#[]⟩ : ByteArray), (⟨#[]⟩ : ByteArray), false)) = some (r1, r2, r3) := by rw [if_neg (show ¬ (false = true) by decide)] at H; exact H
      clear H
      have H := H1
      clear H1
      simp only [Option.some.injEq, Prod.mk.injEq] at H
      obtain ⟨rfl, rfl, rfl⟩ := H
      go_enter Tryd.func41, Tryd.ntmps41
      go_wp2_with (first | ((with_reducible refine gate_callee (f := 78) rfl ?_); refine goesL_ (some 9) rfl rfl Tryd.func78 (by kernel_rfl) rfl #[.string a0, .string (⟨#[36, 115, 104, 97, 114, 101, 47]⟩ : ByteArray)] rfl (by (try simp only [List.map_toArray, List.map_cons, List.map_nil]); first | done | rfl | (simp only [List.length_drop, List.length_take]; rfl)) ?_; (with_reducible refine (strings_CutPrefix.calls a0 (⟨#[36, 115, 104, 97, 114, 101, 47]⟩ : ByteArray) t132 true _ A2.out).mono ?_); rintro e w' ⟨rfl, ⟨nd, rfl⟩⟩; refine ⟨_, rfl, ?_⟩) | (go_at_call 42; (with_reducible refine (topic_Filter.calls k a0 false _ ?side1 A4.out).mono ?_); (case side1 => exact GW.below HG.out (by repeat (first | (with_reducible first | exact HB.out | apply below_alloc | apply pw_below_drewN | apply below_drew1) | exact HB.out))); rintro e w8 ⟨rfl, hb⟩; have n0_ := Aside0.mk (below_step (by repeat (first | (with_reducible first | exact HB.out | apply below_alloc | apply pw_below_drewN | apply below_drew1) | exact HB.out)) hb); clear HB; have HB := n0_; clear n0_; (try clear hb); (try clear hb2); (try clear hk); (try clear hi)))
      go_ret3
      exact ⟨by first | rfl | (simp [errW_none, errW_some] <;> rfl) | (simp [*, errW_none, errW_some] <;> rfl), by repeat (first | (with_reducible first | exact HB.out | apply below_alloc | apply pw_below_drewN | apply below_drew1) | exact HB.out)⟩
  · replace c3 := Bool.eq_false_iff.mpr c3
    subst c3
    have H1 : (some ((⟨#[]⟩ : ByteArray), (⟨#[]⟩ : ByteArray), false)) = some (r1, r2, r3) := by rw [if_neg (show ¬ (false = true) by decide)] at H; exact H
    clear H
    have H := H1
    clear H1
    simp only [Option.some.injEq, Prod.mk.injEq] at H
    obtain ⟨rfl, rfl, rfl⟩ := H
    go_enter Tryd.func41, Tryd.ntmps41
    go_wp2_with (first | ((with_reducible refine gate_callee (f := 78) rfl ?_); refine goesL_ (some 9) rfl rfl Tryd.func78 (by kernel_rfl) rfl #[.string a0, .string (⟨#[36, 115, 104, 97, 114, 101, 47]⟩ : ByteArray)] rfl (by (try simp only [List.map_toArray, List.map_cons, List.map_nil]); first | done | rfl | (simp only [List.length_drop, List.length_take]; rfl)) ?_; (with_reducible refine (strings_CutPrefix.calls a0 (⟨#[36, 115, 104, 97, 114, 101, 47]⟩ : ByteArray) t132 false _ A2.out).mono ?_); rintro e w' ⟨rfl, ⟨nd, rfl⟩⟩; refine ⟨_, rfl, ?_⟩))
    go_ret3
    exact ⟨by first | rfl | (simp [errW_none, errW_some] <;> rfl) | (simp [*, errW_none, errW_some] <;> rfl), by repeat (first | (with_reducible first | exact HB.out | apply below_alloc | apply pw_below_drewN | apply below_drew1) | exact HB.out)⟩

end Go.Proofs.YtbaipppmefencaaDoor.P

namespace Go.Proofs.YtbaipppmefencaaDoor.P
open Go.RowKit Go.Proofs.YtbaipppmefencaaDoorW.PrintWords Go.Proofs.YtbaipppmefencaaDoorW.PrintLast Go.Proofs.YtbaipppmefencaaDoorW.PrintMore
attribute [local go_sem] max2_int min2_int max_two min_two max_three min_three max_four min_four
set_option linter.unusedVariables false
set_option linter.unusedSimpArgs false

/-! ### topic_Name: function 43 -/
def topic_Name.f (a0 : ByteArray) : Option (Bool) := if a0.toList = ([] : List UInt8) then (some false) else ((text_Right.f a0).bind fun t138 => (if t138 = true then ((topic_Wild.f a0).bind fun t139 => (some (!t139))) else (some false)))
set_option maxHeartbeats 8000000 in
set_option maxRecDepth 100000 in
theorem topic_Name.calls (a0 : ByteArray) (r : Bool) (w : World) (hG : GW w) (h : topic_Name.f a0 = some r) :
    Calls Tryd.prog 43 #[.string a0] w fun e w' => e = .returned (.bool r) ∧ Below w.heap.size w w' := by
  have HB := Aside0.mk (Below.refl w.heap.size w)
  have HG := Aside0.mk hG
  clear hG
  have H : (if a0.toList = ([] : List UInt8) then (some false) else ((text_Right.f a0).bind fun t138 => (if t138 = true then ((topic_Wild.f a0).bind fun t139 => (some (!t139))) else (some false)))) = some r := h
  clear h
  by_cases c2 : a0.toList = ([] : List UInt8)
  · rw [if_pos c2] at H
    have c2b0 : (a0.toList == ([] : List UInt8)) = true := beq_iff_eq.mpr c2
    have c2b1 : (a0.toList != ([] : List UInt8)) = false := bne_eq_false_iff_eq.mpr c2
    clear c2
    obtain rfl := Option.some.inj H
    go_enter Tryd.func43, Tryd.ntmps43
    go_wp2
    go_ret
    exact ⟨by first | rfl | (simp [errW_none, errW_some] <;> rfl) | (simp [*, errW_none, errW_some] <;> rfl), by repeat (first | (with_reducible first | exact HB.out | apply below_alloc | apply pw_below_drewN | apply below_drew1) | exact HB.out)⟩
  · rw [if_neg c2] at H
    have c2b0 : (a0.toList == ([] : List UInt8)) = false := beq_eq_false_iff_ne.mpr c2
    have c2b1 : (a0.toList != ([] : List UInt8)) = true := bne_iff_ne.mpr c2
    replace H := Option.bind_eq_some_iff.mp H
    obtain ⟨t138, A30, H⟩ := H
    replace H : (if t138 = true then ((topic_Wild.f a0).bind fun t139 => (some (!t139))) else (some false)) = some r := H
    have A3 := Aside0.mk A30
    clear A30
    by_cases c4 : t138 = true
    · subst c4
      have H1 : ((topic_Wild.f a0).bind fun t139 => (some (!t139))) = some r := by rw [if_pos rfl] at H; exact H
      clear H
      have H := H1
      clear H1
      replace H := Option.bind_eq_some_iff.mp H
      obtain ⟨t139, A50, H⟩ := H
      replace H : (some (!t139)) = some r := H
      have A5 := Aside0.mk A50
      clear A50
      obtain rfl := Option.some.inj H
      go_enter Tryd.func43, Tryd.ntmps43
      go_wp2_with (first | (go_at_call 80; (with_reducible refine (text_Right.calls a0 true _ ?side1 A3.out).mono ?_); (case side1 => exact GW.below HG.out (by repeat (first | (with_reducible first | exact HB.out | apply below_alloc | apply pw_below_drewN | apply below_drew1) | exact HB.out))); rintro e w6 ⟨rfl, hb⟩; have n0_ := Aside0.mk (below_step (by repeat (first | (with_reducible first | exact HB.out | apply below_alloc | apply pw_below_drewN | apply below_drew1) | exact HB.out)) hb); clear HB; have HB := n0_; clear n0_; (try clear hb); (try clear hb2); (try clear hk); (try clear hi)) | (go_at_call 45; (with_reducible refine (topic_Wild.calls a0 t139 _ A5.out).mono ?_); rintro e w7 ⟨rfl, hb⟩; have n0_ := Aside0.mk (below_step (by repeat (first | (with_reducible first | exact HB.out | apply below_alloc | apply pw_below_drewN | apply below_drew1) | exact HB.out)) hb); clear HB; have HB := n0_; clear n0_; (try clear hb); (try clear hb2); (try clear hk); (try clear hi)))
      go_ret
      exact ⟨by first | rfl | (simp [errW_none, errW_some] <;> rfl) | (simp [*, errW_none, errW_some] <;> rfl), by repeat (first | (with_reducible first | exact HB.out | apply below_alloc | apply pw_below_drewN | apply below_drew1) | exact HB.out)⟩
    · replace c4 := Bool.eq_false_iff.mpr c4
      subst c4
      have H1 : (some false) = some r := by rw [if_neg (show ¬ (false = true) by decide)] at H; exact H
      clear H
      have H := H1
      clear H1
      obtain rfl := Option.some.inj H
      go_enter Tryd.func43, Tryd.ntmps43
      go_wp2_with (first | (go_at_call 80; (with_reducible refine (text_Right.calls a0 false _ ?side1 A3.out).mono ?_); (case side1 => exact GW.below HG.out (by repeat (first | (with_reducible first | exact HB.out | apply below_alloc | apply pw_below_drewN | apply below_drew1) | exact HB.out))); rintro e w8 ⟨rfl, hb⟩; have n0_ := Aside0.mk (below_step (by repeat (first | (with_reducible first | exact HB.out | apply below_alloc | apply pw_below_drewN | apply below_drew1) | exact HB.out)) hb); clear HB; have HB := n0_; clear n0_; (try clear hb); (try clear hb2); (try clear hk); (try clear hi)))
      go_ret
      exact ⟨by first | rfl | (simp [errW_none, errW_some] <;> rfl) | (simp [*, errW_none, errW_some] <;> rfl), by repeat (first | (with_reducible first | exact HB.out | apply below_alloc | apply pw_below_drewN | apply below_drew1) | exact HB.out)⟩

end Go.Proofs.YtbaipppmefencaaDoor.P

namespace Go.Proofs.YtbaipppmefencaaDoor.P
open Go.RowKit Go.Proofs.YtbaipppmefencaaDoorW.PrintWords Go.Proofs.YtbaipppmefencaaDoorW.PrintLast Go.Proofs.YtbaipppmefencaaDoorW.PrintMore
attribute [local go_sem] max2_int min2_int max_two min_two max_three min_three max_four min_four
set_option linter.unusedVariables false
set_option linter.unusedSimpArgs false

/-! ### strings_HasPrefix: function 44 -/
def strings_HasPrefix.f (a0 : ByteArray) (a1 : ByteArray) : Option (Bool) := (stringslite_HasPrefix.f a0 a1).bind fun t140 => (some t140)
set_option maxHeartbeats 8000000 in
set_option maxRecDepth 100000 in
theorem strings_HasPrefix.calls (a0 : ByteArray) (a1 : ByteArray) (r : Bool) (w : World) (h : strings_HasPrefix.f a0 a1 = some r) :
    Calls Tryd.prog 44 #[.string a0, .string a1] w fun e w' => e = .returned (.bool r) ∧ Drawn0 w w' := by
  have H : ((stringslite_HasPrefix.f a0 a1).bind fun t140 => (some t140)) = some r := h
  clear h
  replace H := Option.bind_eq_some_iff.mp H
  obtain ⟨t140, A30, H⟩ := H
  replace H : (some t140) = some r := H
  have A3 := Aside0.mk A30
  clear A30
  obtain rfl := Option.some.inj H
  go_enter Tryd.func44, Tryd.ntmps44
  go_wp2_with (first | ((with_reducible refine gate_callee (f := 82) rfl ?_); refine goesL_ (some 7) rfl rfl Tryd.func82 (by kernel_rfl) rfl #[.string a0, .string a1] rfl (by (try simp only [List.map_toArray, List.map_cons, List.map_nil]); first | done | rfl | (simp only [List.length_drop, List.length_take]; rfl)) ?_; (with_reducible refine (stringslite_HasPrefix.calls a0 a1 t140 _ A3.out).mono ?_); rintro e w' ⟨rfl, ⟨nd, rfl⟩⟩; refine ⟨_, rfl, ?_⟩))
  go_ret
  exact ⟨by first | rfl | (simp; done) | (simp [*]; done), by repeat (first | exact Drawn0.refl _ | apply Drawn0.step)⟩

end Go.Proofs.YtbaipppmefencaaDoor.P

namespace Go.Proofs.YtbaipppmefencaaDoor.P
open Go.RowKit Go.Proofs.YtbaipppmefencaaDoorW.PrintWords Go.Proofs.YtbaipppmefencaaDoorW.PrintLast Go.Proofs.YtbaipppmefencaaDoorW.PrintMore
attribute [local go_sem] max2_int min2_int max_two min_two max_three min_three max_four min_four
set_option linter.unusedVariables false
set_option linter.unusedSimpArgs false

/-! ### topic_Match: function 14 -/
mutual
def topic_Match.j0 : Nat → ByteArray → ByteArray → Bool → Option (Bool)
  | 0, _, _, _ => none
  | k + 1, x0, x1, x19 => if x19 = true then (some false) else ((topic_Shared.f k x0).bind fun bt143 => (if bt143.2.2 = true then (topic_Match.j1 k bt143.2.1 x1) else (topic_Match.j1 k x0 x1)))
def topic_Match.j1 : Nat → ByteArray → ByteArray → Option (Bool)
  | 0, _, _ => none
  | k + 1, x0, x1 => (strings_HasPrefix.f x1 (⟨#[36]⟩ : ByteArray)).bind fun t146 => (if t146 = true then (if 0 ≤ 1 then (if 1 ≤ (x0.size : Int) then ((topic_Wild.f (x0.extract 0 1)).bind fun t147 => (topic_Match.j2 k x0 x1 t147)) else (none)) else (none)) else (topic_Match.j2 k x0 x1 false))
def topic_Match.j2 : Nat → ByteArray → ByteArray → Bool → Option (Bool)
  | 0, _, _, _ => none
  | k + 1, x0, x1, x34 => if x34 = true then (some false) else ((strings_Split.f x0 (⟨#[47]⟩ : ByteArray)).bind fun t148 => ((strings_Split.f x1 (⟨#[47]⟩ : ByteArray)).bind fun t151 => (topic_Match.l0 k t148 t151 t148 (t148.length : Int) 0)))
def topic_Match.l0 : Nat → List ByteArray → List ByteArray → List ByteArray → Int → Int → Option (Bool)
  | 0, _, _, _, _, _ => none
  | k + 1, x8, x9, x39, x40, x41 => if x41 < x40 then (if 0 ≤ x41 then (if x41 < (x39.length : Int) then (if (rdOf ByteArray.empty x39 x41).toList = ([35] : List UInt8) then (some true) else (if x41 ≥ (x9.length : Int) then (some false) else (if (rdOf ByteArray.empty x39 x41).toList = ([43] : List UInt8) then (topic_Match.l0 k x8 x9 x39 x40 (wrap64 (x41 + 1))) else (if x41 < (x9.length : Int) then (if (rdOf ByteArray.empty x39 x41).toList = (rdOf ByteArray.empty x9 x41).toList then (topic_Match.l0 k x8 x9 x39 x40 (wrap64 (x41 + 1))) else (some false)) else (none))))) else (none)) else (none)) else (some ((x8.length : Int) == (x9.length : Int)))
end
def topic_Match.f (k : Nat) (a0 : ByteArray) (a1 : ByteArray) : Option (Bool) := (topic_Filter.f k a0).bind fun t141 => (if t141 = true then ((topic_Name.f a1).bind fun t142 => (topic_Match.j0 k a0 a1 (!t142))) else (topic_Match.j0 k a0 a1 true))
theorem topic_Match.mono_l : ∀ k, (∀ y0 y1 y2, LeO (topic_Match.j0 k y0 y1 y2) (topic_Match.j0 (k + 1) y0 y1 y2)) ∧ (∀ y0 y1, LeO (topic_Match.j1 k y0 y1) (topic_Match.j1 (k + 1) y0 y1)) ∧ (∀ y0 y1 y2, LeO (topic_Match.j2 k y0 y1 y2) (topic_Match.j2 (k + 1) y0 y1 y2)) ∧ (∀ y0 y1 y2 y3 y4, LeO (topic_Match.l0 k y0 y1 y2 y3 y4) (topic_Match.l0 (k + 1) y0 y1 y2 y3 y4))
  | 0 => ⟨fun _ _ _ r h => by simp [topic_Match.j0] at h, fun _ _ r h => by simp [topic_Match.j1] at h, fun _ _ _ r h => by simp [topic_Match.j2] at h, fun _ _ _ _ _ r h => by simp [topic_Match.l0] at h⟩
  | k + 1 => by
    obtain ⟨ih0, ih1, ih2, ih3⟩ := topic_Match.mono_l k
    refine ⟨?_, ?_, ?_, ?_⟩
    · intro y0 y1 y2
      unfold topic_Match.j0
      repeat' first
      | (with_reducible exact ih0 _ _ _)
      | (with_reducible exact ih1 _ _)
      | (with_reducible exact ih2 _ _ _)
      | (with_reducible exact ih3 _ _ _ _ _)
      | (with_reducible exact topic_Filter.mono _ _)
      | (with_reducible exact topic_Shared.mono _ _)
      | (with_reducible exact LeO.refl _)
      | (with_reducible exact LeO.none _)
      | (with_reducible refine LeO.ite ?_ ?_)
      | (with_reducible refine LeO.bind ?_ (fun _ => ?_))
      | exact ih0 _ _ _
      | exact ih1 _ _
      | exact ih2 _ _ _
      | exact ih3 _ _ _ _ _
      | exact topic_Filter.mono _ _
      | exact topic_Shared.mono _ _
      | exact LeO.none _
      | refine LeO.ite ?_ ?_
      | refine LeO.bind ?_ (fun _ => ?_)
    · intro y0 y1
      unfold topic_Match.j1
      repeat' first
      | (with_reducible exact ih0 _ _ _)
      | (with_reducible exact ih1 _ _)
      | (with_reducible exact ih2 _ _ _)
      | (with_reducible exact ih3 _ _ _ _ _)
      | (with_reducible exact topic_Filter.mono _ _)
      | (with_reducible exact topic_Shared.mono _ _)
      | (with_reducible exact LeO.refl _)
      | (with_reducible exact LeO.none _)
      | (with_reducible refine LeO.ite ?_ ?_)
      | (with_reducible refine LeO.bind ?_ (fun _ => ?_))
      | exact ih0 _ _ _
      | exact ih1 _ _
      | exact ih2 _ _ _
      | exact ih3 _ _ _ _ _
      | exact topic_Filter.mono _ _
      | exact topic_Shared.mono _ _
      | exact LeO.none _
      | refine LeO.ite ?_ ?_
      | refine LeO.bind ?_ (fun _ => ?_)
    · intro y0 y1 y2
      unfold topic_Match.j2
      repeat' first
      | (with_reducible exact ih0 _ _ _)
      | (with_reducible exact ih1 _ _)
      | (with_reducible exact ih2 _ _ _)
      | (with_reducible exact ih3 _ _ _ _ _)
      | (with_reducible exact topic_Filter.mono _ _)
      | (with_reducible exact topic_Shared.mono _ _)
      | (with_reducible exact LeO.refl _)
      | (with_reducible exact LeO.none _)
      | (with_reducible refine LeO.ite ?_ ?_)
      | (with_reducible refine LeO.bind ?_ (fun _ => ?_))
      | exact ih0 _ _ _
      | exact ih1 _ _
      | exact ih2 _ _ _
      | exact ih3 _ _ _ _ _
      | exact topic_Filter.mono _ _
      | exact topic_Shared.mono _ _
      | exact LeO.none _
      | refine LeO.ite ?_ ?_
      | refine LeO.bind ?_ (fun _ => ?_)
    · intro y0 y1 y2 y3 y4
      unfold topic_Match.l0
      repeat' first
      | (with_reducible exact ih0 _ _ _)
      | (with_reducible exact ih1 _ _)
      | (with_reducible exact ih2 _ _ _)
      | (with_reducible exact ih3 _ _ _ _ _)
      | (with_reducible exact topic_Filter.mono _ _)
      | (with_reducible exact topic_Shared.mono _ _)
      | (with_reducible exact LeO.refl _)
      | (with_reducible exact LeO.none _)
      | (with_reducible refine LeO.ite ?_ ?_)
      | (with_reducible refine LeO.bind ?_ (fun _ => ?_))
      | exact ih0 _ _ _
      | exact ih1 _ _
      | exact ih2 _ _ _
      | exact ih3 _ _ _ _ _
      | exact topic_Filter.mono _ _
      | exact topic_Shared.mono _ _
      | exact LeO.none _
      | refine LeO.ite ?_ ?_
      | refine LeO.bind ?_ (fun _ => ?_)
theorem topic_Match.mono : ∀ a0 a1 k, LeO (topic_Match.f k a0 a1) (topic_Match.f (k + 1) a0 a1) := by
  intro a0 a1 k
  obtain ⟨ih0, ih1, ih2, ih3⟩ := topic_Match.mono_l k
  unfold topic_Match.f
  repeat' first
      | (with_reducible exact ih0 _ _ _)
      | (with_reducible exact ih1 _ _)
      | (with_reducible exact ih2 _ _ _)
      | (with_reducible exact ih3 _ _ _ _ _)
      | (with_reducible exact topic_Filter.mono _ _)
      | (with_reducible exact topic_Shared.mono _ _)
      | (with_reducible exact LeO.refl _)
      | (with_reducible exact LeO.none _)
      | (with_reducible refine LeO.ite ?_ ?_)
      | (with_reducible refine LeO.bind ?_ (fun _ => ?_))
      | exact ih0 _ _ _
      | exact ih1 _ _
      | exact ih2 _ _ _
      | exact ih3 _ _ _ _ _
      | exact topic_Filter.mono _ _
      | exact topic_Shared.mono _ _
      | exact LeO.none _
      | refine LeO.ite ?_ ?_
      | refine LeO.bind ?_ (fun _ => ?_)
set_option maxHeartbeats 8000000 in
set_option maxRecDepth 100000 in
theorem topic_Match.calls (k : Nat) (a0 : ByteArray) (a1 : ByteArray) (r : Bool) (w : World) (hG : GW w) (h : topic_Match.f k a0 a1 = some r) :
    Calls Tryd.prog 14 #[.string a0, .string a1] w fun e w' => e = .returned (.bool r) ∧ Below w.heap.size w w' := by
  have HB := Aside0.mk (Below.refl w.heap.size w)
  have HG := Aside0.mk hG
  clear hG
  have H : ((topic_Filter.f k a0).bind fun t141 => (if t141 = true then ((topic_Name.f a1).bind fun t142 => (topic_Match.j0 k a0 a1 (!t142))) else (topic_Match.j0 k a0 a1 true))) = some r := h
  clear h
  have HC3 := Aside0.mk H
  clear H
  go_enter Tryd.func14, Tryd.ntmps14
  go_upto_region 1 with (fail)
  go_cut [19] (fun v19 wc => ∃ (kq : Nat) (x19_2 : Bool), v19 = .bool x19_2 ∧ Aside0 (topic_Match.j0 kq a0 a1 x19_2 = some r) ∧ Aside0 (kq ≤ k) ∧ Aside0 (Below w.heap.size w wc))
  case first =>
    have H := HC3.out
    clear HC3
    replace H := Option.bind_eq_some_iff.mp H
    obtain ⟨t141, A40, H⟩ := H
    replace H : (if t141 = true then ((topic_Name.f a1).bind fun t142 => (topic_Match.j0 k a0 a1 (!t142))) else (topic_Match.j0 k a0 a1 true)) = some r := H
    have A4 := Aside0.mk A40
    clear A40
    by_cases c5 : t141 = true
    · subst c5
      have H1 : ((topic_Name.f a1).bind fun t142 => (topic_Match.j0 k a0 a1 (!t142))) = some r := by rw [if_pos rfl] at H; exact H
      clear H
      have H := H1
      clear H1
      replace H := Option.bind_eq_some_iff.mp H
      obtain ⟨t142, A60, H⟩ := H
      replace H : (topic_Match.j0 k a0 a1 (!t142)) = some r := H
      have A6 := Aside0.mk A60
      clear A60
      have H' := Aside0.mk H
      clear H
      go_wp2_with (first | ((with_reducible refine gate_callee (f := 42) rfl ?_); refine goesL_ (some 13) rfl rfl Tryd.func42 (by kernel_rfl) rfl #[.string a0] rfl (by (try simp only [List.map_toArray, List.map_cons, List.map_nil]); first | done | rfl | (simp only [List.length_drop, List.length_take]; rfl)) ?_; (with_reducible refine (topic_Filter.calls k a0 true _ ?side1 A4.out).mono ?_); (case side1 => exact GW.below HG.out (by repeat (first | (with_reducible first | exact HB.out | apply below_alloc | apply pw_below_drewN | apply below_drew1) | exact HB.out))); rintro e w7 ⟨rfl, hb⟩; refine ⟨_, rfl, ?_⟩; have n0_ := Aside0.mk (below_step (by repeat (first | (with_reducible first | exact HB.out | apply below_alloc | apply pw_below_drewN | apply below_drew1) | exact HB.out)) hb); clear HB; have HB := n0_; clear n0_; (try clear hb); (try clear hb2); (try clear hk); (try clear hi)) | (go_at_call 43; (with_reducible refine (topic_Name.calls a1 t142 _ ?side1 A6.out).mono ?_); (case side1 => exact GW.below HG.out (by repeat (first | (with_reducible first | exact HB.out | apply below_alloc | apply pw_below_drewN | apply below_drew1) | exact HB.out))); rintro e w8 ⟨rfl, hb⟩; have n0_ := Aside0.mk (below_step (by repeat (first | (with_reducible first | exact HB.out | apply below_alloc | apply pw_below_drewN | apply below_drew1) | exact HB.out)) hb); clear HB; have HB := n0_; clear n0_; (try clear hb); (try clear hb2); (try clear hk); (try clear hi)))
      go_meet
      case rel => exact ⟨_, (!t142), (by first | rfl | (simp; done) | (simp [*]; done)), H', ⟨by first | omega | exact Nat.le_refl _⟩, ⟨by repeat (first | (with_reducible first | exact HB.out | apply below_alloc | apply pw_below_drewN | apply below_drew1) | exact HB.out)⟩⟩
    · replace c5 := Bool.eq_false_iff.mpr c5
      subst c5
      have H1 : (topic_Match.j0 k a0 a1 true) = some r := by rw [if_neg (show ¬ (false = true) by decide)] at H; exact H
      clear H
      have H := H1
      clear H1
      have H' := Aside0.mk H
      clear H
      go_wp2_with (first | ((with_reducible refine gate_callee (f := 42) rfl ?_); refine goesL_ (some 13) rfl rfl Tryd.func42 (by kernel_rfl) rfl #[.string a0] rfl (by (try simp only [List.map_toArray, List.map_cons, List.map_nil]); first | done | rfl | (simp only [List.length_drop, List.length_take]; rfl)) ?_; (with_reducible refine (topic_Filter.calls k a0 false _ ?side1 A4.out).mono ?_); (case side1 => exact GW.below HG.out (by repeat (first | (with_reducible first | exact HB.out | apply below_alloc | apply pw_below_drewN | apply below_drew1) | exact HB.out))); rintro e w9 ⟨rfl, hb⟩; refine ⟨_, rfl, ?_⟩; have n0_ := Aside0.mk (below_step (by repeat (first | (with_reducible first | exact HB.out | apply below_alloc | apply pw_below_drewN | apply below_drew1) | exact HB.out)) hb); clear HB; have HB := n0_; clear n0_; (try clear hb); (try clear hb2); (try clear hk); (try clear hi)))
      go_meet
      case rel => exact ⟨_, (true), (by first | rfl | (simp; done) | (simp [*]; done)), H', ⟨by first | omega | exact Nat.le_refl _⟩, ⟨by repeat (first | (with_reducible first | exact HB.out | apply below_alloc | apply pw_below_drewN | apply below_drew1) | exact HB.out)⟩⟩
  case rest =>
    clear HC3
    try clear c1
    try clear p2
    try clear c4
    try clear c5
    obtain ⟨kq, x19_2, rfl, HA, HJ2, HB⟩ := hcut
    cases kq with
    | zero => exact absurd HA.out (by simp [topic_Match.j0])
    | succ kj2 =>
      have H := HA.out
      clear HA
      simp only [topic_Match.j0] at H
      by_cases c10 : x19_2 = true
      · subst c10
        have H1 : (some false) = some r := by rw [if_pos rfl] at H; exact H
        clear H
        have H := H1
        clear H1
        obtain rfl := Option.some.inj H
        go_wp2
        go_ret
        exact ⟨by first | rfl | (simp [errW_none, errW_some] <;> rfl) | (simp [*, errW_none, errW_some] <;> rfl), by repeat (first | (with_reducible first | exact HB.out | apply below_alloc | apply pw_below_drewN | apply below_drew1) | exact HB.out)⟩
      · replace c10 := Bool.eq_false_iff.mpr c10
        subst c10
        have H1 : ((topic_Shared.f kj2 a0).bind fun bt143 => (if bt143.2.2 = true then (topic_Match.j1 kj2 bt143.2.1 a1) else (topic_Match.j1 kj2 a0 a1))) = some r := by rw [if_neg (show ¬ (false = true) by decide)] at H; exact H
        clear H
        have H := H1
        clear H1
        replace H := Option.bind_eq_some_iff.mp H
        obtain ⟨⟨t143, t144, t145⟩, A110, H⟩ := H
        replace H : (if t145 = true then (topic_Match.j1 kj2 t144 a1) else (topic_Match.j1 kj2 a0 a1)) = some r := H
        have A11 := Aside0.mk A110
        clear A110
        have HC12 := Aside0.mk H
        clear H
        go_upto_if 26 with (first | ((with_reducible refine gate_callee (f := 41) rfl ?_); refine goesL_ (some 22) rfl rfl Tryd.func41 (by kernel_rfl) rfl #[.string a0] rfl (by (try simp only [List.map_toArray, List.map_cons, List.map_nil]); first | done | rfl | (simp only [List.length_drop, List.length_take]; rfl)) ?_; (with_reducible refine (topic_Shared.calls kj2 a0 t143 t144 t145 _ ?side1 A11.out).mono ?_); (case side1 => exact GW.below HG.out (by repeat (first | (with_reducible first | exact HB.out | apply below_alloc | apply pw_below_drewN | apply below_drew1) | exact HB.out))); rintro e w13 ⟨rfl, hb⟩; refine ⟨_, rfl, ?_⟩; have n0_ := Aside0.mk (below_step (by repeat (first | (with_reducible first | exact HB.out | apply below_alloc | apply pw_below_drewN | apply below_drew1) | exact HB.out)) hb); clear HB; have HB := n0_; clear n0_; (try clear hb); (try clear hb2); (try clear hk); (try clear hi)))
        (try simp only [Act.put, List.setIfInBounds_toArray, List.set_cons_zero, List.set_cons_succ])
        go_cut [0] (fun v0 wc => ∃ (kq : Nat) (x0_11 : ByteArray), v0 = .string x0_11 ∧ Aside0 (topic_Match.j1 kq x0_11 a1 = some r) ∧ Aside0 (kq ≤ kj2) ∧ Aside0 (Below w.heap.size w wc))
        case first =>
          have H := HC12.out
          clear HC12
          by_cases c14 : t145 = true
          · subst c14
            have H1 : (topic_Match.j1 kj2 t144 a1) = some r := by rw [if_pos rfl] at H; exact H
            clear H
            have H := H1
            clear H1
            have H' := Aside0.mk H
            clear H
            go_wp2
            go_meet
            case rel => exact ⟨_, (t144), (by first | rfl | (simp; done) | (simp [*]; done)), H', ⟨by have := HJ2.out; first | omega | exact Nat.le_refl _⟩, ⟨by repeat (first | (with_reducible first | exact HB.out | apply below_alloc | apply pw_below_drewN | apply below_drew1) | exact HB.out)⟩⟩
          · replace c14 := Bool.eq_false_iff.mpr c14
            subst c14
            have H1 : (topic_Match.j1 kj2 a0 a1) = some r := by rw [if_neg (show ¬ (false = true) by decide)] at H; exact H
            clear H
            have H := H1
            clear H1
            have H' := Aside0.mk H
            clear H
            go_wp2
            go_meet
            case rel => exact ⟨_, (a0), (by first | rfl | (simp; done) | (simp [*]; done)), H', ⟨by have := HJ2.out; first | omega | exact Nat.le_refl _⟩, ⟨by repeat (first | (with_reducible first | exact HB.out | apply below_alloc | apply pw_below_drewN | apply below_drew1) | exact HB.out)⟩⟩
        case rest =>
          clear HC12
          try clear c1
          try clear p2
          try clear c4
          try clear c5
          try clear c10
          try clear c14
          try clear p2
          obtain ⟨kq, x0_11, rfl, HA, HJ11, HB⟩ := hcut
          cases kq with
          | zero => exact absurd HA.out (by simp [topic_Match.j1])
          | succ kj11 =>
            have H := HA.out
            clear HA
            simp only [topic_Match.j1] at H
            have HC15 := Aside0.mk H
            clear H
            go_upto_region 6 with (fail)
            go_cut [34] (fun v34 wc => ∃ (kq : Nat) (x34_14 : Bool), v34 = .bool x34_14 ∧ Aside0 (topic_Match.j2 kq x0_11 a1 x34_14 = some r) ∧ Aside0 (kq ≤ kj11) ∧ Aside0 (Below w.heap.size w wc))
            case first =>
              have H := HC15.out
              clear HC15
              replace H := Option.bind_eq_some_iff.mp H
              obtain ⟨t146, A160, H⟩ := H
              replace H : (if t146 = true then (if 0 ≤ 1 then (if 1 ≤ (x0_11.size : Int) then ((topic_Wild.f (x0_11.extract 0 1)).bind fun t147 => (topic_Match.j2 kj11 x0_11 a1 t147)) else (none)) else (none)) else (topic_Match.j2 kj11 x0_11 a1 false)) = some r := H
              have A16 := Aside0.mk A160
              clear A160
              by_cases c17 : t146 = true
              · subst c17
                have H1 : (if 0 ≤ 1 then (if 1 ≤ (x0_11.size : Int) then ((topic_Wild.f (x0_11.extract 0 1)).bind fun t147 => (topic_Match.j2 kj11 x0_11 a1 t147)) else (none)) else (none)) = some r := by rw [if_pos rfl] at H; exact H
                clear H
                have H := H1
                clear H1
                by_cases c18 : 0 ≤ 1
                · rw [if_pos c18] at H
                  have c18b0 := eq_true c18
                  have c18b1 : decide (0 ≤ 1) = true := decide_eq_true c18
                  clear c18
                  by_cases c19 : 1 ≤ (x0_11.size : Int)
                  · rw [if_pos c19] at H
                    have c19b0 := eq_true c19
                    have c19b1 : decide (1 ≤ (x0_11.size : Int)) = true := decide_eq_true c19
                    clear c19
                    replace H := Option.bind_eq_some_iff.mp H
                    obtain ⟨t147, A200, H⟩ := H
                    replace H : (topic_Match.j2 kj11 x0_11 a1 t147) = some r := H
                    have A20 := Aside0.mk A200
                    clear A200
                    have H' := Aside0.mk H
                    clear H
                    go_wp2_with (first | ((with_reducible refine gate_callee (f := 44) rfl ?_); refine goesL_ (some 29) rfl rfl Tryd.func44 (by kernel_rfl) rfl #[.string a1, .string (⟨#[36]⟩ : ByteArray)] rfl (by (try simp only [List.map_toArray, List.map_cons, List.map_nil]); first | done | rfl | (simp only [List.length_drop, List.length_take]; rfl)) ?_; (with_reducible refine (strings_HasPrefix.calls a1 (⟨#[36]⟩ : ByteArray) true _ A16.out).mono ?_); rintro e w' ⟨rfl, ⟨nd, rfl⟩⟩; refine ⟨_, rfl, ?_⟩) | (go_at_call 45; (with_reducible refine (topic_Wild.calls (x0_11.extract 0 1) t147 _ A20.out).mono ?_); rintro e w21 ⟨rfl, hb⟩; have n0_ := Aside0.mk (below_step (by repeat (first | (with_reducible first | exact HB.out | apply below_alloc | apply pw_below_drewN | apply below_drew1) | exact HB.out)) hb); clear HB; have HB := n0_; clear n0_; (try clear hb); (try clear hb2); (try clear hk); (try clear hi)))
                    go_meet
                    case rel => exact ⟨_, (t147), (by first | rfl | (simp; done) | (simp [*]; done)), H', ⟨by have := HJ2.out; have := HJ11.out; first | omega | exact Nat.le_refl _⟩, ⟨by repeat (first | (with_reducible first | exact HB.out | apply below_alloc | apply pw_below_drewN | apply below_drew1) | exact HB.out)⟩⟩
                  · rw [if_neg c19] at H
                    exact absurd H (by simp)
                · rw [if_neg c18] at H
                  exact absurd H (by simp)
              · replace c17 := Bool.eq_false_iff.mpr c17
                subst c17
                have H1 : (topic_Match.j2 kj11 x0_11 a1 false) = some r := by rw [if_neg (show ¬ (false = true) by decide)] at H; exact H
                clear H
                have H := H1
                clear H1
                have H' := Aside0.mk H
                clear H
                go_wp2_with (first | ((with_reducible refine gate_callee (f := 44) rfl ?_); refine goesL_ (some 29) rfl rfl Tryd.func44 (by kernel_rfl) rfl #[.string a1, .string (⟨#[36]⟩ : ByteArray)] rfl (by (try simp only [List.map_toArray, List.map_cons, List.map_nil]); first | done | rfl | (simp only [List.length_drop, List.length_take]; rfl)) ?_; (with_reducible refine (strings_HasPrefix.calls a1 (⟨#[36]⟩ : ByteArray) false _ A16.out).mono ?_); rintro e w' ⟨rfl, ⟨nd, rfl⟩⟩; refine ⟨_, rfl, ?_⟩))
                go_meet
                case rel => exact ⟨_, (false), (by first | rfl | (simp; done) | (simp [*]; done)), H', ⟨by have := HJ2.out; have := HJ11.out; first | omega | exact Nat.le_refl _⟩, ⟨by repeat (first | (with_reducible first | exact HB.out | apply below_alloc | apply pw_below_drewN | apply below_drew1) | exact HB.out)⟩⟩
            case rest =>
              clear HC15
              try clear c1
              try clear p2
              try clear c4
              try clear c5
              try clear c10
              try clear c14
              try clear c17
              try clear c18
              try clear c18b0
              try clear c18b1
              try clear c19
              try clear c19b0
              try clear c19b1
              try clear p2
              obtain ⟨kq, x34_14, rfl, HA, HJ14, HB⟩ := hcut
              cases kq with
              | zero => exact absurd HA.out (by simp [topic_Match.j2])
              | succ kj14 =>
                have H := HA.out
                clear HA
                simp only [topic_Match.j2] at H
                by_cases c22 : x34_14 = true
                · subst c22
                  have H1 : (some false) = some r := by rw [if_pos rfl] at H; exact H
                  clear H
                  have H := H1
                  clear H1
                  obtain rfl := Option.some.inj H
                  go_wp2
                  go_ret
                  exact ⟨by first | rfl | (simp [errW_none, errW_some] <;> rfl) | (simp [*, errW_none, errW_some] <;> rfl), by repeat (first | (with_reducible first | exact HB.out | apply below_alloc | apply pw_below_drewN | apply below_drew1) | exact HB.out)⟩
                · replace c22 := Bool.eq_false_iff.mpr c22
                  subst c22
                  have H1 : ((strings_Split.f x0_11 (⟨#[47]⟩ : ByteArray)).bind fun t148 => ((strings_Split.f a1 (⟨#[47]⟩ : ByteArray)).bind fun t151 => (topic_Match.l0 kj14 t148 t151 t148 (t148.length : Int) 0))) = some r := by rw [if_neg (show ¬ (false = true) by decide)] at H; exact H
                  clear H
                  have H := H1
                  clear H1
                  replace H := Option.bind_eq_some_iff.mp H
                  obtain ⟨t148, A230, H⟩ := H
                  replace H : ((strings_Split.f a1 (⟨#[47]⟩ : ByteArray)).bind fun t151 => (topic_Match.l0 kj14 t148 t151 t148 (t148.length : Int) 0)) = some r := H
                  have A23 := Aside0.mk A230
                  clear A230
                  replace H := Option.bind_eq_some_iff.mp H
                  obtain ⟨t151, A240, H⟩ := H
                  replace H : (topic_Match.l0 kj14 t148 t151 t148 (t148.length : Int) 0) = some r := H
                  have A24 := Aside0.mk A240
                  clear A240
                  have H' := Aside0.mk H
                  clear H
                  go_wp2_with (first | ((with_reducible refine gate_callee (f := 46) rfl ?_); refine goesL_ (some 36) rfl rfl Tryd.func46 (by kernel_rfl) rfl #[.string x0_11, .string (⟨#[47]⟩ : ByteArray)] rfl (by (try simp only [List.map_toArray, List.map_cons, List.map_nil]); first | done | rfl | (simp only [List.length_drop, List.length_take]; rfl)) ?_; (with_reducible refine (strings_Split.calls x0_11 (⟨#[47]⟩ : ByteArray) t148 _ ?side1 A23.out).mono ?_); (case side1 => exact GW.below HG.out (by repeat (first | (with_reducible first | exact HB.out | apply below_alloc | apply pw_below_drewN | apply below_drew1) | exact HB.out))); rintro e w25 ⟨v149, rfl, ho0, hb⟩; refine ⟨_, rfl, ?_⟩; have n0_ := Aside0.mk (Kd.R_lower ho0 (below_size (by repeat (first | (with_reducible first | exact HB.out | apply below_alloc | apply pw_below_drewN | apply below_drew1) | exact HB.out)))); have n1_ := Aside0.mk (below_step (by repeat (first | (with_reducible first | exact HB.out | apply below_alloc | apply pw_below_drewN | apply below_drew1) | exact HB.out)) hb); clear HB; have HO150 := n0_; have HB := n1_; clear n0_ n1_; (try clear hb); (try clear hb2); (try clear hk); (try clear hi); (try clear ho0)) | ((with_reducible refine gate_callee (f := 46) rfl ?_); refine goesL_ (some 38) rfl rfl Tryd.func46 (by kernel_rfl) rfl #[.string a1, .string (⟨#[47]⟩ : ByteArray)] rfl (by (try simp only [List.map_toArray, List.map_cons, List.map_nil]); first | done | rfl | (simp only [List.length_drop, List.length_take]; rfl)) ?_; (with_reducible refine (strings_Split.calls a1 (⟨#[47]⟩ : ByteArray) t151 _ ?side1 A24.out).mono ?_); (case side1 => exact GW.below HG.out (by repeat (first | (with_reducible first | exact HB.out | apply below_alloc | apply pw_below_drewN | apply below_drew1) | exact HB.out))); rintro e w26 ⟨v152, rfl, ho0, hb⟩; refine ⟨_, rfl, ?_⟩; have n0_ := Aside0.mk (Kd.R_elder' (by (with_reducible repeat (first | apply Kd.R_alloc | apply Kd.R_drewN | apply Kd.R_drew)); exact HO150.out) (Kd.R_base ho0) hb); have n1_ := Aside0.mk (Kd.R_lower (Kd.R_new' ho0 (Kd.R_lt (by (with_reducible repeat (first | apply Kd.R_alloc | apply Kd.R_drewN | apply Kd.R_drew)); exact HO150.out))) (below_size (by repeat (first | (with_reducible first | exact HB.out | apply below_alloc | apply pw_below_drewN | apply below_drew1) | exact HB.out)))); have n2_ := Aside0.mk (below_step (by repeat (first | (with_reducible first | exact HB.out | apply below_alloc | apply pw_below_drewN | apply below_drew1) | exact HB.out)) hb); clear HO150; clear HB; have HO150 := n0_; have HO153 := n1_; have HB := n2_; clear n0_ n1_ n2_; (try clear hb); (try clear hb2); (try clear hk); (try clear hi); (try clear ho0); obtain ⟨Ao27, co27, eo27⟩ := Kd.R_slice HO150.out; subst eo27))
                  go_loopg [41] kj14 (fun kq v41 w' => ∃ (x41_4 : Int), v41 = .int .i64 x41_4 ∧ Aside0 (topic_Match.l0 kq t148 t151 t148 (t148.length : Int) x41_4 = some r) ∧ Aside0 (kq ≤ kj14) ∧ Aside0 (Kd.R Kd.string 9 w' w.heap.size (fun k_ => some k_ ≠ (v152 : Value).ownBlock) (.slice Ao27 t148.length co27) t148) ∧ Aside0 (Kd.R Kd.string 9 w' w.heap.size (fun k_ => some k_ ≠ ((.slice Ao27 t148.length co27) : Value).ownBlock ∧ some k_ ≠ ((.slice Ao27 t148.length co27) : Value).ownBlock) v152 t151) ∧ Aside0 (Kd.R Kd.string 9 w' w.heap.size (fun k_ => some k_ ≠ (v152 : Value).ownBlock) (.slice Ao27 t148.length co27) t148) ∧ Aside0 (Below w.heap.size w w'))
                  case atStart => exact ⟨(0), (by first | rfl | (simp; done) | (simp [*]; done)), H', ⟨Nat.le_refl _⟩, ⟨by (with_reducible repeat (first | apply Kd.R_alloc | apply Kd.R_drewN | apply Kd.R_drew)); exact Kd.R_mono HO150.out (fun _ hk => hk.2)⟩, ⟨by (with_reducible repeat (first | apply Kd.R_alloc | apply Kd.R_drewN | apply Kd.R_drew)); exact Kd.R_mono HO153.out (fun _ hk => ⟨hk.2, hk.2⟩)⟩, ⟨by (with_reducible repeat (first | apply Kd.R_alloc | apply Kd.R_drewN | apply Kd.R_drew)); exact Kd.R_mono HO150.out (fun _ hk => hk.2)⟩, ⟨by repeat (first | (with_reducible first | exact HB.out | apply below_alloc | apply pw_below_drewN | apply below_drew1) | exact HB.out)⟩⟩
                  case round =>
                    clear H'
                    try clear c1
                    try clear c2
                    try clear p2
                    try clear c4
                    try clear c5
                    try clear c10
                    try clear c14
                    try clear c17
                    try clear c18
                    try clear c18b0
                    try clear c18b1
                    try clear c19
                    try clear c19b0
                    try clear c19b1
                    try clear c22
                    try clear p2
                    obtain ⟨x41_4, rfl, HA, HK4, HO_8, HO_9, HO_39, HB⟩ := hrel
                    cases gk with
                    | zero => exact absurd HA.out (by simp [topic_Match.l0])
                    | succ k4 =>
                      have H := HA.out
                      clear HA
                      simp only [topic_Match.l0] at H
                      by_cases c28 : x41_4 < (t148.length : Int)
                      · rw [if_pos c28] at H
                        have c28b0 : decide (x41_4 < (t148.length : Int)) = true := decide_eq_true c28
                        clear c28
                        by_cases c29 : 0 ≤ x41_4
                        · rw [if_pos c29] at H
                          have c29b0 : decide (0 ≤ x41_4) = true := decide_eq_true c29
                          clear c29
                          by_cases c30 : x41_4 < (t148.length : Int)
                          · rw [if_pos c30] at H
                            have c30b0 : decide (x41_4 < (t148.length : Int)) = true := decide_eq_true c30
                            clear c30
                            by_cases c31 : (rdOf ByteArray.empty t148 x41_4).toList = ([35] : List UInt8)
                            · rw [if_pos c31] at H
                              have c31b0 : ((rdOf ByteArray.empty t148 x41_4).toList == ([35] : List UInt8)) = true := beq_iff_eq.mpr c31
                              have c31b1 : ((rdOf ByteArray.empty t148 x41_4).toList != ([35] : List UInt8)) = false := bne_eq_false_iff_eq.mpr c31
                              clear c31
                              obtain rfl := Option.some.inj H
                              have p154 : 0 ≤ (x41_4 : Int) := of_decide_eq_true (by first | (with_reducible assumption) | assumption)
                              have q154 : x41_4 < (t148.length : Int) := of_decide_eq_true (by first | (with_reducible assumption) | assumption)
                              obtain ⟨ad154, e154, hx154_0⟩ := Kd.at_string (Kd.R_reads' HO_39.out).2.2 x41_4 p154 q154
                              cases e154
                              replace p154 := eq_true p154
                              replace q154 := eq_true q154
                              go_wp2
                              go_ret
                              exact ⟨by first | rfl | (simp [errW_none, errW_some] <;> rfl) | (simp [*, errW_none, errW_some] <;> rfl), by repeat (first | (with_reducible first | exact HB.out | apply below_alloc | apply pw_below_drewN | apply below_drew1) | exact HB.out)⟩
                            · rw [if_neg c31] at H
                              have c31b0 : ((rdOf ByteArray.empty t148 x41_4).toList == ([35] : List UInt8)) = false := beq_eq_false_iff_ne.mpr c31
                              have c31b1 : ((rdOf ByteArray.empty t148 x41_4).toList != ([35] : List UInt8)) = true := bne_iff_ne.mpr c31
                              by_cases c32 : x41_4 ≥ (t151.length : Int)
                              · rw [if_pos c32] at H
                                have c32b0 : decide ((t151.length : Int) ≤ x41_4) = true := decide_eq_true c32
                                clear c32
                                obtain rfl := Option.some.inj H
                                have p154 : 0 ≤ (x41_4 : Int) := of_decide_eq_true (by first | (with_reducible assumption) | assumption)
                                have q154 : x41_4 < (t148.length : Int) := of_decide_eq_true (by first | (with_reducible assumption) | assumption)
                                obtain ⟨ad154, e154, hx154_0⟩ := Kd.at_string (Kd.R_reads' HO_39.out).2.2 x41_4 p154 q154
                                cases e154
                                replace p154 := eq_true p154
                                replace q154 := eq_true q154
                                obtain ⟨Ao33, co33, eo33⟩ := Kd.R_slice HO_9.out
                                subst eo33
                                go_wp2
                                go_ret
                                exact ⟨by first | rfl | (simp [errW_none, errW_some] <;> rfl) | (simp [*, errW_none, errW_some] <;> rfl), by repeat (first | (with_reducible first | exact HB.out | apply below_alloc | apply pw_below_drewN | apply below_drew1) | exact HB.out)⟩
                              · rw [if_neg c32] at H
                                have c32b0 : decide ((t151.length : Int) ≤ x41_4) = false := decide_eq_false c32
                                clear c32
                                by_cases c34 : (rdOf ByteArray.empty t148 x41_4).toList = ([43] : List UInt8)
                                · rw [if_pos c34] at H
                                  have c34b0 : ((rdOf ByteArray.empty t148 x41_4).toList == ([43] : List UInt8)) = true := beq_iff_eq.mpr c34
                                  have c34b1 : ((rdOf ByteArray.empty t148 x41_4).toList != ([43] : List UInt8)) = false := bne_eq_false_iff_eq.mpr c34
                                  clear c34
                                  have H' := Aside0.mk H
                                  clear H
                                  have p154 : 0 ≤ (x41_4 : Int) := of_decide_eq_true (by first | (with_reducible assumption) | assumption)
                                  have q154 : x41_4 < (t148.length : Int) := of_decide_eq_true (by first | (with_reducible assumption) | assumption)
                                  obtain ⟨ad154, e154, hx154_0⟩ := Kd.at_string (Kd.R_reads' HO_39.out).2.2 x41_4 p154 q154
                                  cases e154
                                  replace p154 := eq_true p154
                                  replace q154 := eq_true q154
                                  obtain ⟨Ao35, co35, eo35⟩ := Kd.R_slice HO_9.out
                                  subst eo35
                                  go_wp2
                                  go_roundg k4
                                  case measure => have := HJ2.out; have := HJ11.out; have := HJ14.out; have := HK4.out; omega
                                  case rel => exact ⟨(wrap64 (x41_4 + 1)), (by first | rfl | (simp; done) | (simp [*]; done)), H', ⟨by have := HJ2.out; have := HJ11.out; have := HJ14.out; have := HK4.out; omega⟩, ⟨by (with_reducible repeat (first | apply Kd.R_alloc | apply Kd.R_drewN | apply Kd.R_drew)); exact HO_8.out⟩, ⟨by (with_reducible repeat (first | apply Kd.R_alloc | apply Kd.R_drewN | apply Kd.R_drew)); exact HO_9.out⟩, ⟨by (with_reducible repeat (first | apply Kd.R_alloc | apply Kd.R_drewN | apply Kd.R_drew)); exact HO_39.out⟩, ⟨by repeat (first | (with_reducible first | exact HB.out | apply below_alloc | apply pw_below_drewN | apply below_drew1) | exact HB.out)⟩⟩
                                · rw [if_neg c34] at H
                                  have c34b0 : ((rdOf ByteArray.empty t148 x41_4).toList == ([43] : List UInt8)) = false := beq_eq_false_iff_ne.mpr c34
                                  have c34b1 : ((rdOf ByteArray.empty t148 x41_4).toList != ([43] : List UInt8)) = true := bne_iff_ne.mpr c34
                                  by_cases c36 : x41_4 < (t151.length : Int)
                                  · rw [if_pos c36] at H
                                    have c36b0 : decide (x41_4 < (t151.length : Int)) = true := decide_eq_true c36
                                    clear c36
                                    by_cases c37 : (rdOf ByteArray.empty t148 x41_4).toList = (rdOf ByteArray.empty t151 x41_4).toList
                                    · rw [if_pos c37] at H
                                      have c37b0 : ((rdOf ByteArray.empty t148 x41_4).toList == (rdOf ByteArray.empty t151 x41_4).toList) = true := beq_iff_eq.mpr c37
                                      have c37b1 : ((rdOf ByteArray.empty t148 x41_4).toList != (rdOf ByteArray.empty t151 x41_4).toList) = false := bne_eq_false_iff_eq.mpr c37
                                      clear c37
                                      have H' := Aside0.mk H
                                      clear H
                                      have p154 : 0 ≤ (x41_4 : Int) := of_decide_eq_true (by first | (with_reducible assumption) | assumption)
                                      have q154 : x41_4 < (t148.length : Int) := of_decide_eq_true (by first | (with_reducible assumption) | assumption)
                                      obtain ⟨ad154, e154, hx154_0⟩ := Kd.at_string (Kd.R_reads' HO_39.out).2.2 x41_4 p154 q154
                                      cases e154
                                      replace p154 := eq_true p154
                                      replace q154 := eq_true q154
                                      obtain ⟨Ao38, co38, eo38⟩ := Kd.R_slice HO_9.out
                                      subst eo38
                                      have p155 : 0 ≤ (x41_4 : Int) := of_decide_eq_true (by first | (with_reducible assumption) | assumption)
                                      have q155 : x41_4 < (t151.length : Int) := of_decide_eq_true (by first | (with_reducible assumption) | assumption)
                                      obtain ⟨ad155, e155, hx155_0⟩ := Kd.at_string (Kd.R_reads' HO_9.out).2.2 x41_4 p155 q155
                                      cases e155
                                      replace p155 := eq_true p155
                                      replace q155 := eq_true q155
                                      go_wp2
                                      go_roundg k4
                                      case measure => have := HJ2.out; have := HJ11.out; have := HJ14.out; have := HK4.out; omega
                                      case rel => exact ⟨(wrap64 (x41_4 + 1)), (by first | rfl | (simp; done) | (simp [*]; done)), H', ⟨by have := HJ2.out; have := HJ11.out; have := HJ14.out; have := HK4.out; omega⟩, ⟨by (with_reducible repeat (first | apply Kd.R_alloc | apply Kd.R_drewN | apply Kd.R_drew)); exact HO_8.out⟩, ⟨by (with_reducible repeat (first | apply Kd.R_alloc | apply Kd.R_drewN | apply Kd.R_drew)); exact HO_9.out⟩, ⟨by (with_reducible repeat (first | apply Kd.R_alloc | apply Kd.R_drewN | apply Kd.R_drew)); exact HO_39.out⟩, ⟨by repeat (first | (with_reducible first | exact HB.out | apply below_alloc | apply pw_below_drewN | apply below_drew1) | exact HB.out)⟩⟩
                                    · rw [if_neg c37] at H
                                      have c37b0 : ((rdOf ByteArray.empty t148 x41_4).toList == (rdOf ByteArray.empty t151 x41_4).toList) = false := beq_eq_false_iff_ne.mpr c37
                                      have c37b1 : ((rdOf ByteArray.empty t148 x41_4).toList != (rdOf ByteArray.empty t151 x41_4).toList) = true := bne_iff_ne.mpr c37
                                      obtain rfl := Option.some.inj H
                                      have p154 : 0 ≤ (x41_4 : Int) := of_decide_eq_true (by first | (with_reducible assumption) | assumption)
                                      have q154 : x41_4 < (t148.length : Int) := of_decide_eq_true (by first | (with_reducible assumption) | assumption)
                                      obtain ⟨ad154, e154, hx154_0⟩ := Kd.at_string (Kd.R_reads' HO_39.out).2.2 x41_4 p154 q154
                                      cases e154
                                      replace p154 := eq_true p154
                                      replace q154 := eq_true q154
                                      obtain ⟨Ao39, co39, eo39⟩ := Kd.R_slice HO_9.out
                                      subst eo39
                                      have p155 : 0 ≤ (x41_4 : Int) := of_decide_eq_true (by first | (with_reducible assumption) | assumption)
                                      have q155 : x41_4 < (t151.length : Int) := of_decide_eq_true (by first | (with_reducible assumption) | assumption)
                                      obtain ⟨ad155, e155, hx155_0⟩ := Kd.at_string (Kd.R_reads' HO_9.out).2.2 x41_4 p155 q155
                                      cases e155
                                      replace p155 := eq_true p155
                                      replace q155 := eq_true q155
                                      go_wp2
                                      go_ret
                                      exact ⟨by first | rfl | (simp [errW_none, errW_some] <;> rfl) | (simp [*, errW_none, errW_some] <;> rfl), by repeat (first | (with_reducible first | exact HB.out | apply below_alloc | apply pw_below_drewN | apply below_drew1) | exact HB.out)⟩
                                  · rw [if_neg c36] at H
                                    exact absurd H (by simp)
                          · rw [if_neg c30] at H
                            exact absurd H (by simp)
                        · rw [if_neg c29] at H
                          exact absurd H (by simp)
                      · rw [if_neg c28] at H
                        have c28b0 : decide (x41_4 < (t148.length : Int)) = false := decide_eq_false c28
                        clear c28
                        obtain rfl := Option.some.inj H
                        obtain ⟨Ao40, co40, eo40⟩ := Kd.R_slice HO_9.out
                        subst eo40
                        go_wp2
                        go_ret
                        exact ⟨by first | rfl | (simp [errW_none, errW_some] <;> rfl) | (simp [*, errW_none, errW_some] <;> rfl), by repeat (first | (with_reducible first | exact HB.out | apply below_alloc | apply pw_below_drewN | apply below_drew1) | exact HB.out)⟩

end Go.Proofs.YtbaipppmefencaaDoor.P

namespace Go.Proofs.YtbaipppmefencaaDoor.P
open Go.RowKit Go.Proofs.YtbaipppmefencaaDoorW.PrintWords Go.Proofs.YtbaipppmefencaaDoorW.PrintLast Go.Proofs.YtbaipppmefencaaDoorW.PrintMore
attribute [local go_sem] max2_int min2_int max_two min_two max_three min_three max_four min_four
set_option linter.unusedVariables false
set_option linter.unusedSimpArgs false

/-! ### pouchlaw04_told: function 13 -/
def pouchlaw04_told.f (k : Nat)  : Option (Bool) := (topic_Shared.f k (⟨#[36, 115, 104, 97, 114, 101, 47, 103, 47, 97, 47, 43]⟩ : ByteArray)).bind fun bt156 => ((topic_Match.f k (⟨#[97, 47, 43, 47, 99]⟩ : ByteArray) (⟨#[97, 47, 98, 47, 99]⟩ : ByteArray)).bind fun t159 => (if t159 = true then ((topic_Match.f k (⟨#[97, 47, 43, 47, 99]⟩ : ByteArray) (⟨#[97, 47, 47, 99]⟩ : ByteArray)).bind fun t160 => (if t160 = true then ((topic_Match.f k (⟨#[97, 47, 43, 47, 99]⟩ : ByteArray) (⟨#[97, 47, 98]⟩ : ByteArray)).bind fun t161 => (if t161 = true then (some false) else ((topic_Match.f k (⟨#[97, 47, 35]⟩ : ByteArray) (⟨#[97]⟩ : ByteArray)).bind fun t162 => (if t162 = true then ((topic_Match.f k (⟨#[35]⟩ : ByteArray) (⟨#[36, 120]⟩ : ByteArray)).bind fun t163 => (if t163 = true then (some false) else (if bt156.1.toList = ([103] : List UInt8) then (if bt156.2.1.toList = ([97, 47, 43] : List UInt8) then (if bt156.2.2 = true then ((topic_Filter.f k (⟨#[97, 47, 35, 47, 98]⟩ : ByteArray)).bind fun t164 => (if t164 = true then (some false) else ((topic_Filter.f k (⟨#[36, 115, 104, 97, 114, 101, 47, 103]⟩ : ByteArray)).bind fun t165 => (if t165 = true then (some false) else ((topic_Name.f (⟨#[97]⟩ : ByteArray)).bind fun t166 => (if t166 = true then ((topic_Name.f (⟨#[43]⟩ : ByteArray)).bind fun t167 => (some (!t167))) else (some false))))))) else (some false)) else (some false)) else (some false)))) else (some false))))) else (some false))) else (some false)))
theorem pouchlaw04_told.mono : ∀ k, LeO (pouchlaw04_told.f k ) (pouchlaw04_told.f (k + 1) ) := by
  intro  k
  unfold pouchlaw04_told.f
  repeat' first
      | (with_reducible exact topic_Filter.mono _ _)
      | (with_reducible exact topic_Match.mono _ _ _)
      | (with_reducible exact topic_Shared.mono _ _)
      | (with_reducible exact LeO.refl _)
      | (with_reducible exact LeO.none _)
      | (with_reducible refine LeO.ite ?_ ?_)
      | (with_reducible refine LeO.bind ?_ (fun _ => ?_))
      | exact topic_Filter.mono _ _
      | exact topic_Match.mono _ _ _
      | exact topic_Shared.mono _ _
      | exact LeO.none _
      | refine LeO.ite ?_ ?_
      | refine LeO.bind ?_ (fun _ => ?_)
set_option maxHeartbeats 8000000 in
set_option maxRecDepth 100000 in
theorem pouchlaw04_told.calls (k : Nat)  (r : Bool) (w : World) (hG : GW w) (h : pouchlaw04_told.f k  = some r) :
    Calls Tryd.prog 13 #[] w fun e w' => e = .returned (.bool r) ∧ Below w.heap.size w w' := by
  have HB := Aside0.mk (Below.refl w.heap.size w)
  have HG := Aside0.mk hG
  clear hG
  have H : ((topic_Shared.f k (⟨#[36, 115, 104, 97, 114, 101, 47, 103, 47, 97, 47, 43]⟩ : ByteArray)).bind fun bt156 => ((topic_Match.f k (⟨#[97, 47, 43, 47, 99]⟩ : ByteArray) (⟨#[97, 47, 98, 47, 99]⟩ : ByteArray)).bind fun t159 => (if t159 = true then ((topic_Match.f k (⟨#[97, 47, 43, 47, 99]⟩ : ByteArray) (⟨#[97, 47, 47, 99]⟩ : ByteArray)).bind fun t160 => (if t160 = true then ((topic_Match.f k (⟨#[97, 47, 43, 47, 99]⟩ : ByteArray) (⟨#[97, 47, 98]⟩ : ByteArray)).bind fun t161 => (if t161 = true then (some false) else ((topic_Match.f k (⟨#[97, 47, 35]⟩ : ByteArray) (⟨#[97]⟩ : ByteArray)).bind fun t162 => (if t162 = true then ((topic_Match.f k (⟨#[35]⟩ : ByteArray) (⟨#[36, 120]⟩ : ByteArray)).bind fun t163 => (if t163 = true then (some false) else (if bt156.1.toList = ([103] : List UInt8) then (if bt156.2.1.toList = ([97, 47, 43] : List UInt8) then (if bt156.2.2 = true then ((topic_Filter.f k (⟨#[97, 47, 35, 47, 98]⟩ : ByteArray)).bind fun t164 => (if t164 = true then (some false) else ((topic_Filter.f k (⟨#[36, 115, 104, 97, 114, 101, 47, 103]⟩ : ByteArray)).bind fun t165 => (if t165 = true then (some false) else ((topic_Name.f (⟨#[97]⟩ : ByteArray)).bind fun t166 => (if t166 = true then ((topic_Name.f (⟨#[43]⟩ : ByteArray)).bind fun t167 => (some (!t167))) else (some false))))))) else (some false)) else (some false)) else (some false)))) else (some false))))) else (some false))) else (some false)))) = some r := h
  clear h
  replace H := Option.bind_eq_some_iff.mp H
  obtain ⟨⟨t156, t157, t158⟩, A10, H⟩ := H
  replace H : ((topic_Match.f k (⟨#[97, 47, 43, 47, 99]⟩ : ByteArray) (⟨#[97, 47, 98, 47, 99]⟩ : ByteArray)).bind fun t159 => (if t159 = true then ((topic_Match.f k (⟨#[97, 47, 43, 47, 99]⟩ : ByteArray) (⟨#[97, 47, 47, 99]⟩ : ByteArray)).bind fun t160 => (if t160 = true then ((topic_Match.f k (⟨#[97, 47, 43, 47, 99]⟩ : ByteArray) (⟨#[97, 47, 98]⟩ : ByteArray)).bind fun t161 => (if t161 = true then (some false) else ((topic_Match.f k (⟨#[97, 47, 35]⟩ : ByteArray) (⟨#[97]⟩ : ByteArray)).bind fun t162 => (if t162 = true then ((topic_Match.f k (⟨#[35]⟩ : ByteArray) (⟨#[36, 120]⟩ : ByteArray)).bind fun t163 => (if t163 = true then (some false) else (if t156.toList = ([103] : List UInt8) then (if t157.toList = ([97, 47, 43] : List UInt8) then (if t158 = true then ((topic_Filter.f k (⟨#[97, 47, 35, 47, 98]⟩ : ByteArray)).bind fun t164 => (if t164 = true then (some false) else ((topic_Filter.f k (⟨#[36, 115, 104, 97, 114, 101, 47, 103]⟩ : ByteArray)).bind fun t165 => (if t165 = true then (some false) else ((topic_Name.f (⟨#[97]⟩ : ByteArray)).bind fun t166 => (if t166 = true then ((topic_Name.f (⟨#[43]⟩ : ByteArray)).bind fun t167 => (some (!t167))) else (some false))))))) else (some false)) else (some false)) else (some false)))) else (some false))))) else (some false))) else (some false))) = some r := H
  have A1 := Aside0.mk A10
  clear A10
  replace H := Option.bind_eq_some_iff.mp H
  obtain ⟨t159, A20, H⟩ := H
  replace H : (if t159 = true then ((topic_Match.f k (⟨#[97, 47, 43, 47, 99]⟩ : ByteArray) (⟨#[97, 47, 47, 99]⟩ : ByteArray)).bind fun t160 => (if t160 = true then ((topic_Match.f k (⟨#[97, 47, 43, 47, 99]⟩ : ByteArray) (⟨#[97, 47, 98]⟩ : ByteArray)).bind fun t161 => (if t161 = true then (some false) else ((topic_Match.f k (⟨#[97, 47, 35]⟩ : ByteArray) (⟨#[97]⟩ : ByteArray)).bind fun t162 => (if t162 = true then ((topic_Match.f k (⟨#[35]⟩ : ByteArray) (⟨#[36, 120]⟩ : ByteArray)).bind fun t163 => (if t163 = true then (some false) else (if t156.toList = ([103] : List UInt8) then (if t157.toList = ([97, 47, 43] : List UInt8) then (if t158 = true then ((topic_Filter.f k (⟨#[97, 47, 35, 47, 98]⟩ : ByteArray)).bind fun t164 => (if t164 = true then (some false) else ((topic_Filter.f k (⟨#[36, 115, 104, 97, 114, 101, 47, 103]⟩ : ByteArray)).bind fun t165 => (if t165 = true then (some false) else ((topic_Name.f (⟨#[97]⟩ : ByteArray)).bind fun t166 => (if t166 = true then ((topic_Name.f (⟨#[43]⟩ : ByteArray)).bind fun t167 => (some (!t167))) else (some false))))))) else (some false)) else (some false)) else (some false)))) else (some false))))) else (some false))) else (some false)) = some r := H
  have A2 := Aside0.mk A20
  clear A20
  by_cases c3 : t159 = true
  · subst c3
    have H1 : ((topic_Match.f k (⟨#[97, 47, 43, 47, 99]⟩ : ByteArray) (⟨#[97, 47, 47, 99]⟩ : ByteArray)).bind fun t160 => (if t160 = true then ((topic_Match.f k (⟨#[97, 47, 43, 47, 99]⟩ : ByteArray) (⟨#[97, 47, 98]⟩ : ByteArray)).bind fun t161 => (if t161 = true then (some false) else ((topic_Match.f k (⟨#[97, 47, 35]⟩ : ByteArray) (⟨#[97]⟩ : ByteArray)).bind fun t162 => (if t162 = true then ((topic_Match.f k (⟨#[35]⟩ : ByteArray) (⟨#[36, 120]⟩ : ByteArray)).bind fun t163 => (if t163 = true then (some false) else (if t156.toList = ([103] : List UInt8) then (if t157.toList = ([97, 47, 43] : List UInt8) then (if t158 = true then ((topic_Filter.f k (⟨#[97, 47, 35, 47, 98]⟩ : ByteArray)).bind fun t164 => (if t164 = true then (some false) else ((topic_Filter.f k (⟨#[36, 115, 104, 97, 114, 101, 47, 103]⟩ : ByteArray)).bind fun t165 => (if t165 = true then (some false) else ((topic_Name.f (⟨#[97]⟩ : ByteArray)).bind fun t166 => (if t166 = true then ((topic_Name.f (⟨#[43]⟩ : ByteArray)).bind fun t167 => (some (!t167))) else (some false))))))) else (some false)) else (some false)) else (some false)))) else (some false))))) else (some false))) = some r := by rw [if_pos rfl] at H; exact H
    clear H
    have H := H1
    clear H1
    replace H := Option.bind_eq_some_iff.mp H
    obtain ⟨t160, A40, H⟩ := H
    replace H : (if t160 = true then ((topic_Match.f k (⟨#[97, 47, 43, 47, 99]⟩ : ByteArray) (⟨#[97, 47, 98]⟩ : ByteArray)).bind fun t161 => (if t161 = true then (some false) else ((topic_Match.f k (⟨#[97, 47, 35]⟩ : ByteArray) (⟨#[97]⟩ : ByteArray)).bind fun t162 => (if t162 = true then ((topic_Match.f k (⟨#[35]⟩ : ByteArray) (⟨#[36, 120]⟩ : ByteArray)).bind fun t163 => (if t163 = true then (some false) else (if t156.toList = ([103] : List UInt8) then (if t157.toList = ([97, 47, 43] : List UInt8) then (if t158 = true then ((topic_Filter.f k (⟨#[97, 47, 35, 47, 98]⟩ : ByteArray)).bind fun t164 => (if t164 = true then (some false) else ((topic_Filter.f k (⟨#[36, 115, 104, 97, 114, 101, 47, 103]⟩ : ByteArray)).bind fun t165 => (if t165 = true then (some false) else ((topic_Name.f (⟨#[97]⟩ : ByteArray)).bind fun t166 => (if t166 = true then ((topic_Name.f (⟨#[43]⟩ : ByteArray)).bind fun t167 => (some (!t167))) else (some false))))))) else (some false)) else (some false)) else (some false)))) else (some false))))) else (some false)) = some r := H
    have A4 := Aside0.mk A40
    clear A40
    by_cases c5 : t160 = true
    · subst c5
      have H1 : ((topic_Match.f k (⟨#[97, 47, 43, 47, 99]⟩ : ByteArray) (⟨#[97, 47, 98]⟩ : ByteArray)).bind fun t161 => (if t161 = true then (some false) else ((topic_Match.f k (⟨#[97, 47, 35]⟩ : ByteArray) (⟨#[97]⟩ : ByteArray)).bind fun t162 => (if t162 = true then ((topic_Match.f k (⟨#[35]⟩ : ByteArray) (⟨#[36, 120]⟩ : ByteArray)).bind fun t163 => (if t163 = true then (some false) else (if t156.toList = ([103] : List UInt8) then (if t157.toList = ([97, 47, 43] : List UInt8) then (if t158 = true then ((topic_Filter.f k (⟨#[97, 47, 35, 47, 98]⟩ : ByteArray)).bind fun t164 => (if t164 = true then (some false) else ((topic_Filter.f k (⟨#[36, 115, 104, 97, 114, 101, 47, 103]⟩ : ByteArray)).bind fun t165 => (if t165 = true then (some false) else ((topic_Name.f (⟨#[97]⟩ : ByteArray)).bind fun t166 => (if t166 = true then ((topic_Name.f (⟨#[43]⟩ : ByteArray)).bind fun t167 => (some (!t167))) else (some false))))))) else (some false)) else (some false)) else (some false)))) else (some false))))) = some r := by rw [if_pos rfl] at H; exact H
      clear H
      have H := H1
      clear H1
      replace H := Option.bind_eq_some_iff.mp H
      obtain ⟨t161, A60, H⟩ := H
      replace H : (if t161 = true then (some false) else ((topic_Match.f k (⟨#[97, 47, 35]⟩ : ByteArray) (⟨#[97]⟩ : ByteArray)).bind fun t162 => (if t162 = true then ((topic_Match.f k (⟨#[35]⟩ : ByteArray) (⟨#[36, 120]⟩ : ByteArray)).bind fun t163 => (if t163 = true then (some false) else (if t156.toList = ([103] : List UInt8) then (if t157.toList = ([97, 47, 43] : List UInt8) then (if t158 = true then ((topic_Filter.f k (⟨#[97, 47, 35, 47, 98]⟩ : ByteArray)).bind fun t164 => (if t164 = true then (some false) else ((topic_Filter.f k (⟨#[36, 115, 104, 97, 114, 101, 47, 103]⟩ : ByteArray)).bind fun t165 => (if t165 = true then (some false) else ((topic_Name.f (⟨#[97]⟩ : ByteArray)).bind fun t166 => (if t166 = true then ((topic_Name.f (⟨#[43]⟩ : ByteArray)).bind fun t167 => (some (!t167))) else (some false))))))) else (some false)) else (some false)) else (some false)))) else (some false)))) = some r := H
      have A6 := Aside0.mk A60
      clear A60
      by_cases c7 : t161 = true
      · subst c7
        have H1 : (some false) = some r := by rw [if_pos rfl] at H; exact H
        clear H
        have H := H1
        clear H1
        obtain rfl := Option.some.inj H
        go_enter Tryd.func13, Tryd.ntmps13
        go_wp2_with (first | ((with_reducible refine gate_callee (f := 41) rfl ?_); refine goesL_ (some 5) rfl rfl Tryd.func41 (by kernel_rfl) rfl #[.string (⟨#[36, 115, 104, 97, 114, 101, 47, 103, 47, 97, 47, 43]⟩ : ByteArray)] rfl (by (try simp only [List.map_toArray, List.map_cons, List.map_nil]); first | done | rfl | (simp only [List.length_drop, List.length_take]; rfl)) ?_; (with_reducible refine (topic_Shared.calls k (⟨#[36, 115, 104, 97, 114, 101, 47, 103, 47, 97, 47, 43]⟩ : ByteArray) t156 t157 t158 _ ?side1 A1.out).mono ?_); (case side1 => exact GW.below HG.out (by repeat (first | (with_reducible first | exact HB.out | apply below_alloc | apply pw_below_drewN | apply below_drew1) | exact HB.out))); rintro e w8 ⟨rfl, hb⟩; refine ⟨_, rfl, ?_⟩; have n0_ := Aside0.mk (below_step (by repeat (first | (with_reducible first | exact HB.out | apply below_alloc | apply pw_below_drewN | apply below_drew1) | exact HB.out)) hb); clear HB; have HB := n0_; clear n0_; (try clear hb); (try clear hb2); (try clear hk); (try clear hi)) | ((with_reducible refine gate_callee (f := 14) rfl ?_); refine goesL_ (some 9) rfl rfl Tryd.func14 (by kernel_rfl) rfl #[.string (⟨#[97, 47, 43, 47, 99]⟩ : ByteArray), .string (⟨#[97, 47, 98, 47, 99]⟩ : ByteArray)] rfl (by (try simp only [List.map_toArray, List.map_cons, List.map_nil]); first | done | rfl | (simp only [List.length_drop, List.length_take]; rfl)) ?_; (with_reducible refine (topic_Match.calls k (⟨#[97, 47, 43, 47, 99]⟩ : ByteArray) (⟨#[97, 47, 98, 47, 99]⟩ : ByteArray) true _ ?side1 A2.out).mono ?_); (case side1 => exact GW.below HG.out (by repeat (first | (with_reducible first | exact HB.out | apply below_alloc | apply pw_below_drewN | apply below_drew1) | exact HB.out))); rintro e w9 ⟨rfl, hb⟩; refine ⟨_, rfl, ?_⟩; have n0_ := Aside0.mk (below_step (by repeat (first | (with_reducible first | exact HB.out | apply below_alloc | apply pw_below_drewN | apply below_drew1) | exact HB.out)) hb); clear HB; have HB := n0_; clear n0_; (try clear hb); (try clear hb2); (try clear hk); (try clear hi)) | (go_at_call 14; (with_reducible refine (topic_Match.calls k (⟨#[97, 47, 43, 47, 99]⟩ : ByteArray) (⟨#[97, 47, 47, 99]⟩ : ByteArray) true _ ?side1 A4.out).mono ?_); (case side1 => exact GW.below HG.out (by repeat (first | (with_reducible first | exact HB.out | apply below_alloc | apply pw_below_drewN | apply below_drew1) | exact HB.out))); rintro e w10 ⟨rfl, hb⟩; have n0_ := Aside0.mk (below_step (by repeat (first | (with_reducible first | exact HB.out | apply below_alloc | apply pw_below_drewN | apply below_drew1) | exact HB.out)) hb); clear HB; have HB := n0_; clear n0_; (try clear hb); (try clear hb2); (try clear hk); (try clear hi)) | (go_at_call 14; (with_reducible refine (topic_Match.calls k (⟨#[97, 47, 43, 47, 99]⟩ : ByteArray) (⟨#[97, 47, 98]⟩ : ByteArray) true _ ?side1 A6.out).mono ?_); (case side1 => exact GW.below HG.out (by repeat (first | (with_reducible first | exact HB.out | apply below_alloc | apply pw_below_drewN | apply below_drew1) | exact HB.out))); rintro e w11 ⟨rfl, hb⟩; have n0_ := Aside0.mk (below_step (by repeat (first | (with_reducible first | exact HB.out | apply below_alloc | apply pw_below_drewN | apply below_drew1) | exact HB.out)) hb); clear HB; have HB := n0_; clear n0_; (try clear hb); (try clear hb2); (try clear hk); (try clear hi)))
        go_ret
        exact ⟨by first | rfl | (simp [errW_none, errW_some] <;> rfl) | (simp [*, errW_none, errW_some] <;> rfl), by repeat (first | (with_reducible first | exact HB.out | apply below_alloc | apply pw_below_drewN | apply below_drew1) | exact HB.out)⟩
      · replace c7 := Bool.eq_false_iff.mpr c7
        subst c7
        have H1 : ((topic_Match.f k (⟨#[97, 47, 35]⟩ : ByteArray) (⟨#[97]⟩ : ByteArray)).bind fun t162 => (if t162 = true then ((topic_Match.f k (⟨#[35]⟩ : ByteArray) (⟨#[36, 120]⟩ : ByteArray)).bind fun t163 => (if t163 = true then (some false) else (if t156.toList = ([103] : List UInt8) then (if t157.toList = ([97, 47, 43] : List UInt8) then (if t158 = true then ((topic_Filter.f k (⟨#[97, 47, 35, 47, 98]⟩ : ByteArray)).bind fun t164 => (if t164 = true then (some false) else ((topic_Filter.f k (⟨#[36, 115, 104, 97, 114, 101, 47, 103]⟩ : ByteArray)).bind fun t165 => (if t165 = true then (some false) else ((topic_Name.f (⟨#[97]⟩ : ByteArray)).bind fun t166 => (if t166 = true then ((topic_Name.f (⟨#[43]⟩ : ByteArray)).bind fun t167 => (some (!t167))) else (some false))))))) else (some false)) else (some false)) else (some false)))) else (some false))) = some r := by rw [if_neg (show ¬ (false = true) by decide)] at H; exact H
        clear H
        have H := H1
        clear H1
        replace H := Option.bind_eq_some_iff.mp H
        obtain ⟨t162, A120, H⟩ := H
        replace H : (if t162 = true then ((topic_Match.f k (⟨#[35]⟩ : ByteArray) (⟨#[36, 120]⟩ : ByteArray)).bind fun t163 => (if t163 = true then (some false) else (if t156.toList = ([103] : List UInt8) then (if t157.toList = ([97, 47, 43] : List UInt8) then (if t158 = true then ((topic_Filter.f k (⟨#[97, 47, 35, 47, 98]⟩ : ByteArray)).bind fun t164 => (if t164 = true then (some false) else ((topic_Filter.f k (⟨#[36, 115, 104, 97, 114, 101, 47, 103]⟩ : ByteArray)).bind fun t165 => (if t165 = true then (some false) else ((topic_Name.f (⟨#[97]⟩ : ByteArray)).bind fun t166 => (if t166 = true then ((topic_Name.f (⟨#[43]⟩ : ByteArray)).bind fun t167 => (some (!t167))) else (some false))))))) else (some false)) else (some false)) else (some false)))) else (some false)) = some r := H
        have A12 := Aside0.mk A120
        clear A120
        by_cases c13 : t162 = true
        · subst c13
          have H1 : ((topic_Match.f k (⟨#[35]⟩ : ByteArray) (⟨#[36, 120]⟩ : ByteArray)).bind fun t163 => (if t163 = true then (some false) else (if t156.toList = ([103] : List UInt8) then (if t157.toList = ([97, 47, 43] : List UInt8) then (if t158 = true then ((topic_Filter.f k (⟨#[97, 47, 35, 47, 98]⟩ : ByteArray)).bind fun t164 => (if t164 = true then (some false) else ((topic_Filter.f k (⟨#[36, 115, 104, 97, 114, 101, 47, 103]⟩ : ByteArray)).bind fun t165 => (if t165 = true then (some false) else ((topic_Name.f (⟨#[97]⟩ : ByteArray)).bind fun t166 => (if t166 = true then ((topic_Name.f (⟨#[43]⟩ : ByteArray)).bind fun t167 => (some (!t167))) else (some false))))))) else (some false)) else (some false)) else (some false)))) = some r := by rw [if_pos rfl] at H; exact H
          clear H
          have H := H1
          clear H1
          replace H := Option.bind_eq_some_iff.mp H
          obtain ⟨t163, A140, H⟩ := H
          replace H : (if t163 = true then (some false) else (if t156.toList = ([103] : List UInt8) then (if t157.toList = ([97, 47, 43] : List UInt8) then (if t158 = true then ((topic_Filter.f k (⟨#[97, 47, 35, 47, 98]⟩ : ByteArray)).bind fun t164 => (if t164 = true then (some false) else ((topic_Filter.f k (⟨#[36, 115, 104, 97, 114, 101, 47, 103]⟩ : ByteArray)).bind fun t165 => (if t165 = true then (some false) else ((topic_Name.f (⟨#[97]⟩ : ByteArray)).bind fun t166 => (if t166 = true then ((topic_Name.f (⟨#[43]⟩ : ByteArray)).bind fun t167 => (some (!t167))) else (some false))))))) else (some false)) else (some false)) else (some false))) = some r := H
          have A14 := Aside0.mk A140
          clear A140
          by_cases c15 : t163 = true
          · subst c15
            have H1 : (some false) = some r := by rw [if_pos rfl] at H; exact H
            clear H
            have H := H1
            clear H1
            obtain rfl := Option.some.inj H
            go_enter Tryd.func13, Tryd.ntmps13
            go_wp2_with (first | ((with_reducible refine gate_callee (f := 41) rfl ?_); refine goesL_ (some 5) rfl rfl Tryd.func41 (by kernel_rfl) rfl #[.string (⟨#[36, 115, 104, 97, 114, 101, 47, 103, 47, 97, 47, 43]⟩ : ByteArray)] rfl (by (try simp only [List.map_toArray, List.map_cons, List.map_nil]); first | done | rfl | (simp only [List.length_drop, List.length_take]; rfl)) ?_; (with_reducible refine (topic_Shared.calls k (⟨#[36, 115, 104, 97, 114, 101, 47, 103, 47, 97, 47, 43]⟩ : ByteArray) t156 t157 t158 _ ?side1 A1.out).mono ?_); (case side1 => exact GW.below HG.out (by repeat (first | (with_reducible first | exact HB.out | apply below_alloc | apply pw_below_drewN | apply below_drew1) | exact HB.out))); rintro e w16 ⟨rfl, hb⟩; refine ⟨_, rfl, ?_⟩; have n0_ := Aside0.mk (below_step (by repeat (first | (with_reducible first | exact HB.out | apply below_alloc | apply pw_below_drewN | apply below_drew1) | exact HB.out)) hb); clear HB; have HB := n0_; clear n0_; (try clear hb); (try clear hb2); (try clear hk); (try clear hi)) | ((with_reducible refine gate_callee (f := 14) rfl ?_); refine goesL_ (some 9) rfl rfl Tryd.func14 (by kernel_rfl) rfl #[.string (⟨#[97, 47, 43, 47, 99]⟩ : ByteArray), .string (⟨#[97, 47, 98, 47, 99]⟩ : ByteArray)] rfl (by (try simp only [List.map_toArray, List.map_cons, List.map_nil]); first | done | rfl | (simp only [List.length_drop, List.length_take]; rfl)) ?_; (with_reducible refine (topic_Match.calls k (⟨#[97, 47, 43, 47, 99]⟩ : ByteArray) (⟨#[97, 47, 98, 47, 99]⟩ : ByteArray) true _ ?side1 A2.out).mono ?_); (case side1 => exact GW.below HG.out (by repeat (first | (with_reducible first | exact HB.out | apply below_alloc | apply pw_below_drewN | apply below_drew1) | exact HB.out))); rintro e w17 ⟨rfl, hb⟩; refine ⟨_, rfl, ?_⟩; have n0_ := Aside0.mk (below_step (by repeat (first | (with_reducible first | exact HB.out | apply below_alloc | apply pw_below_drewN | apply below_drew1) | exact HB.out)) hb); clear HB; have HB := n0_; clear n0_; (try clear hb); (try clear hb2); (try clear hk); (try clear hi)) | (go_at_call 14; (with_reducible refine (topic_Match.calls k (⟨#[97, 47, 43, 47, 99]⟩ : ByteArray) (⟨#[97, 47, 47, 99]⟩ : ByteArray) true _ ?side1 A4.out).mono ?_); (case side1 => exact GW.below HG.out (by repeat (first | (with_reducible first | exact HB.out | apply below_alloc | apply pw_below_drewN | apply below_drew1) | exact HB.out))); rintro e w18 ⟨rfl, hb⟩; have n0_ := Aside0.mk (below_step (by repeat (first | (with_reducible first | exact HB.out | apply below_alloc | apply pw_below_drewN | apply below_drew1) | exact HB.out)) hb); clear HB; have HB := n0_; clear n0_; (try clear hb); (try clear hb2); (try clear hk); (try clear hi)) | (go_at_call 14; (with_reducible refine (topic_Match.calls k (⟨#[97, 47, 43, 47, 99]⟩ : ByteArray) (⟨#[97, 47, 98]⟩ : ByteArray) false _ ?side1 A6.out).mono ?_); (case side1 => exact GW.below HG.out (by repeat (first | (with_reducible first | exact HB.out | apply below_alloc | apply pw_below_drewN | apply below_drew1) | exact HB.out))); rintro e w19 ⟨rfl, hb⟩; have n0_ := Aside0.mk (below_step (by repeat (first | (with_reducible first | exact HB.out | apply below_alloc | apply pw_below_drewN | apply below_drew1) | exact HB.out)) hb); clear HB; have HB := n0_; clear n0_; (try clear hb); (try clear hb2); (try clear hk); (try clear hi)) | (go_at_call 14; (with_reducible refine (topic_Match.calls k (⟨#[97, 47, 35]⟩ : ByteArray) (⟨#[97]⟩ : ByteArray) true _ ?side1 A12.out).mono ?_); (case side1 => exact GW.below HG.out (by repeat (first | (with_reducible first | exact HB.out | apply below_alloc | apply pw_below_drewN | apply below_drew1) | exact HB.out))); rintro e w20 ⟨rfl, hb⟩; have n0_ := Aside0.mk (below_step (by repeat (first | (with_reducible first | exact HB.out | apply below_alloc | apply pw_below_drewN | apply below_drew1) | exact HB.out)) hb); clear HB; have HB := n0_; clear n0_; (try clear hb); (try clear hb2); (try clear hk); (try clear hi)) | (go_at_call 14; (with_reducible refine (topic_Match.calls k (⟨#[35]⟩ : ByteArray) (⟨#[36, 120]⟩ : ByteArray) true _ ?side1 A14.out).mono ?_); (case side1 => exact GW.below HG.out (by repeat (first | (with_reducible first | exact HB.out | apply below_alloc | apply pw_below_drewN | apply below_drew1) | exact HB.out))); rintro e w21 ⟨rfl, hb⟩; have n0_ := Aside0.mk (below_step (by repeat (first | (with_reducible first | exact HB.out | apply below_alloc | apply pw_below_drewN | apply below_drew1) | exact HB.out)) hb); clear HB; have HB := n0_; clear n0_; (try clear hb); (try clear hb2); (try clear hk); (try clear hi)))
            go_ret
            exact ⟨by first | rfl | (simp [errW_none, errW_some] <;> rfl) | (simp [*, errW_none, errW_some] <;> rfl), by repeat (first | (with_reducible first | exact HB.out | apply below_alloc | apply pw_below_drewN | apply below_drew1) | exact HB.out)⟩
          · replace c15 := Bool.eq_false_iff.mpr c15
            subst c15
            have H1 : (if t156.toList = ([103] : List UInt8) then (if t157.toList = ([97, 47, 43] : List UInt8) then (if t158 = true then ((topic_Filter.f k (⟨#[97, 47, 35, 47, 98]⟩ : ByteArray)).bind fun t164 => (if t164 = true then (some false) else ((topic_Filter.f k (⟨#[36, 115, 104, 97, 114, 101, 47, 103]⟩ : ByteArray)).bind fun t165 => (if t165 = true then (some false) else ((topic_Name.f (⟨#[97]⟩ : ByteArray)).bind fun t166 => (if t166 = true then ((topic_Name.f (⟨#[43]⟩ : ByteArray)).bind fun t167 => (some (!t167))) else (some false))))))) else (some false)) else (some false)) else (some false)) = some r := by rw [if_neg (show ¬ (false = true) by decide)] at H; exact H
            clear H
            have H := H1
            clear H1
            by_cases c22 : t156.toList = ([103] : List UInt8)
            · rw [if_pos c22] at H
              have c22b0 : (t156.toList == ([103] : List UInt8)) = true := beq_iff_eq.mpr c22
              have c22b1 : (t156.toList != ([103] : List UInt8)) = false := bne_eq_false_iff_eq.mpr c22
              clear c22
              by_cases c23 : t157.toList = ([97, 47, 43] : List UInt8)
              · rw [if_pos c23] at H
                have c23b0 : (t157.toList == ([97, 47, 43] : List UInt8)) = true := beq_iff_eq.mpr c23
                have c23b1 : (t157.toList != ([97, 47, 43] : List UInt8)) = false := bne_eq_false_iff_eq.mpr c23
                clear c23
                by_cases c24 : t158 = true
                · subst c24
                  have H1 : ((topic_Filter.f k (⟨#[97, 47, 35, 47, 98]⟩ : ByteArray)).bind fun t164 => (if t164 = true then (some false) else ((topic_Filter.f k (⟨#[36, 115, 104, 97, 114, 101, 47, 103]⟩ : ByteArray)).bind fun t165 => (if t165 = true then (some false) else ((topic_Name.f (⟨#[97]⟩ : ByteArray)).bind fun t166 => (if t166 = true then ((topic_Name.f (⟨#[43]⟩ : ByteArray)).bind fun t167 => (some (!t167))) else (some false))))))) = some r := by rw [if_pos rfl] at H; exact H
                  clear H
                  have H := H1
                  clear H1
                  replace H := Option.bind_eq_some_iff.mp H
                  obtain ⟨t164, A250, H⟩ := H
                  replace H : (if t164 = true then (some false) else ((topic_Filter.f k (⟨#[36, 115, 104, 97, 114, 101, 47, 103]⟩ : ByteArray)).bind fun t165 => (if t165 = true then (some false) else ((topic_Name.f (⟨#[97]⟩ : ByteArray)).bind fun t166 => (if t166 = true then ((topic_Name.f (⟨#[43]⟩ : ByteArray)).bind fun t167 => (some (!t167))) else (some false)))))) = some r := H
                  have A25 := Aside0.mk A250
                  clear A250
                  by_cases c26 : t164 = true
                  · subst c26
                    have H1 : (some false) = some r := by rw [if_pos rfl] at H; exact H
                    clear H
                    have H := H1
                    clear H1
                    obtain rfl := Option.some.inj H
                    go_enter Tryd.func13, Tryd.ntmps13
                    go_wp2_with (first | ((with_reducible refine gate_callee (f := 41) rfl ?_); refine goesL_ (some 5) rfl rfl Tryd.func41 (by kernel_rfl) rfl #[.string (⟨#[36, 115, 104, 97, 114, 101, 47, 103, 47, 97, 47, 43]⟩ : ByteArray)] rfl (by (try simp only [List.map_toArray, List.map_cons, List.map_nil]); first | done | rfl | (simp only [List.length_drop, List.length_take]; rfl)) ?_; (with_reducible refine (topic_Shared.calls k (⟨#[36, 115, 104, 97, 114, 101, 47, 103, 47, 97, 47, 43]⟩ : ByteArray) t156 t157 true _ ?side1 A1.out).mono ?_); (case side1 => exact GW.below HG.out (by repeat (first | (with_reducible first | exact HB.out | apply below_alloc | apply pw_below_drewN | apply below_drew1) | exact HB.out))); rintro e w27 ⟨rfl, hb⟩; refine ⟨_, rfl, ?_⟩; have n0_ := Aside0.mk (below_step (by repeat (first | (with_reducible first | exact HB.out | apply below_alloc | apply pw_below_drewN | apply below_drew1) | exact HB.out)) hb); clear HB; have HB := n0_; clear n0_; (try clear hb); (try clear hb2); (try clear hk); (try clear hi)) | ((with_reducible refine gate_callee (f := 14) rfl ?_); refine goesL_ (some 9) rfl rfl Tryd.func14 (by kernel_rfl) rfl #[.string (⟨#[97, 47, 43, 47, 99]⟩ : ByteArray), .string (⟨#[97, 47, 98, 47, 99]⟩ : ByteArray)] rfl (by (try simp only [List.map_toArray, List.map_cons, List.map_nil]); first | done | rfl | (simp only [List.length_drop, List.length_take]; rfl)) ?_; (with_reducible refine (topic_Match.calls k (⟨#[97, 47, 43, 47, 99]⟩ : ByteArray) (⟨#[97, 47, 98, 47, 99]⟩ : ByteArray) true _ ?side1 A2.out).mono ?_); (case side1 => exact GW.below HG.out (by repeat (first | (with_reducible first | exact HB.out | apply below_alloc | apply pw_below_drewN | apply below_drew1) | exact HB.out))); rintro e w28 ⟨rfl, hb⟩; refine ⟨_, rfl, ?_⟩; have n0_ := Aside0.mk (below_step (by repeat (first | (with_reducible first | exact HB.out | apply below_alloc | apply pw_below_drewN | apply below_drew1) | exact HB.out)) hb); clear HB; have HB := n0_; clear n0_; (try clear hb); (try clear hb2); (try clear hk); (try clear hi)) | (go_at_call 14; (with_reducible refine (topic_Match.calls k (⟨#[97, 47, 43, 47, 99]⟩ : ByteArray) (⟨#[97, 47, 47, 99]⟩ : ByteArray) true _ ?side1 A4.out).mono ?_); (case side1 => exact GW.below HG.out (by repeat (first | (with_reducible first | exact HB.out | apply below_alloc | apply pw_below_drewN | apply below_drew1) | exact HB.out))); rintro e w29 ⟨rfl, hb⟩; have n0_ := Aside0.mk (below_step (by repeat (first | (with_reducible first | exact HB.out | apply below_alloc | apply pw_below_drewN | apply below_drew1) | exact HB.out)) hb); clear HB; have HB := n0_; clear n0_; (try clear hb); (try clear hb2); (try clear hk); (try clear hi)) | (go_at_call 14; (with_reducible refine (topic_Match.calls k (⟨#[97, 47, 43, 47, 99]⟩ : ByteArray) (⟨#[97, 47, 98]⟩ : ByteArray) false _ ?side1 A6.out).mono ?_); (case side1 => exact GW.below HG.out (by repeat (first | (with_reducible first | exact HB.out | apply below_alloc | apply pw_below_drewN | apply below_drew1) | exact HB.out))); rintro e w30 ⟨rfl, hb⟩; have n0_ := Aside0.mk (below_step (by repeat (first | (with_reducible first | exact HB.out | apply below_alloc | apply pw_below_drewN | apply below_drew1) | exact HB.out)) hb); clear HB; have HB := n0_; clear n0_; (try clear hb); (try clear hb2); (try clear hk); (try clear hi)) | (go_at_call 14; (with_reducible refine (topic_Match.calls k (⟨#[97, 47, 35]⟩ : ByteArray) (⟨#[97]⟩ : ByteArray) true _ ?side1 A12.out).mono ?_); (case side1 => exact GW.below HG.out (by repeat (first | (with_reducible first | exact HB.out | apply below_alloc | apply pw_below_drewN | apply below_drew1) | exact HB.out))); rintro e w31 ⟨rfl, hb⟩; have n0_ := Aside0.mk (below_step (by repeat (first | (with_reducible first | exact HB.out | apply below_alloc | apply pw_below_drewN | apply below_drew1) | exact HB.out)) hb); clear HB; have HB := n0_; clear n0_; (try clear hb); (try clear hb2); (try clear hk); (try clear hi)) | (go_at_call 14; (with_reducible refine (topic_Match.calls k (⟨#[35]⟩ : ByteArray) (⟨#[36, 120]⟩ : ByteArray) false _ ?side1 A14.out).mono ?_); (case side1 => exact GW.below HG.out (by repeat (first | (with_reducible first | exact HB.out | apply below_alloc | apply pw_below_drewN | apply below_drew1) | exact HB.out))); rintro e w32 ⟨rfl, hb⟩; have n0_ := Aside0.mk (below_step (by repeat (first | (with_reducible first | exact HB.out | apply below_alloc | apply pw_below_drewN | apply below_drew1) | exact HB.out)) hb); clear HB; have HB := n0_; clear n0_; (try clear hb); (try clear hb2); (try clear hk); (try clear hi)) | (go_at_call 42; (with_reducible refine (topic_Filter.calls k (⟨#[97, 47, 35, 47, 98]⟩ : ByteArray) true _ ?side1 A25.out).mono ?_); (case side1 => exact GW.below HG.out (by repeat (first | (with_reducible first | exact HB.out | apply below_alloc | apply pw_below_drewN | apply below_drew1) | exact HB.out))); rintro e w33 ⟨rfl, hb⟩; have n0_ := Aside0.mk (below_step (by repeat (first | (with_reducible first | exact HB.out | apply below_alloc | apply pw_below_drewN | apply below_drew1) | exact HB.out)) hb); clear HB; have HB := n0_; clear n0_; (try clear hb); (try clear hb2); (try clear hk); (try clear hi)))
                    go_ret
                    exact ⟨by first | rfl | (simp [errW_none, errW_some] <;> rfl) | (simp [*, errW_none, errW_some] <;> rfl), by repeat (first | (with_reducible first | exact HB.out | apply below_alloc | apply pw_below_drewN | apply below_drew1) | exact HB.out)⟩
                  · replace c26 := Bool.eq_false_iff.mpr c26
                    subst c26
                    have H1 : ((topic_Filter.f k (⟨#[36, 115, 104, 97, 114, 101, 47, 103]⟩ : ByteArray)).bind fun t165 => (if t165 = true then (some false) else ((topic_Name.f (⟨#[97]⟩ : ByteArray)).bind fun t166 => (if t166 = true then ((topic_Name.f (⟨#[43]⟩ : ByteArray)).bind fun t167 => (some (!t167))) else (some false))))) = some r := by rw [if_neg (show ¬ (false = true) by decide)] at H; exact H
                    clear H
                    have H := H1
                    clear H1
                    replace H := Option.bind_eq_some_iff.mp H
                    obtain ⟨t165, A340, H⟩ := H
                    replace H : (if t165 = true then (some false) else ((topic_Name.f (⟨#[97]⟩ : ByteArray)).bind fun t166 => (if t166 = true then ((topic_Name.f (⟨#[43]⟩ : ByteArray)).bind fun t167 => (some (!t167))) else (some false)))) = some r := H
                    have A34 := Aside0.mk A340
                    clear A340
                    by_cases c35 : t165 = true
                    · subst c35
                      have H1 : (some false) = some r := by rw [if_pos rfl] at H; exact H
                      clear H
                      have H := H1
                      clear H1
                      obtain rfl := Option.some.inj H
                      go_enter Tryd.func13, Tryd.ntmps13
                      go_wp2_with (first | ((with_reducible refine gate_callee (f := 41) rfl ?_); refine goesL_ (some 5) rfl rfl Tryd.func41 (by kernel_rfl) rfl #[.string (⟨#[36, 115, 104, 97, 114, 101, 47, 103, 47, 97, 47, 43]⟩ : ByteArray)] rfl (by (try simp only [List.map_toArray, List.map_cons, List.map_nil]); first | done | rfl | (simp only [List.length_drop, List.length_take]; rfl)) ?_; (with_reducible refine (topic_Shared.calls k (⟨#[36, 115, 104, 97, 114, 101, 47, 103, 47, 97, 47, 43]⟩ : ByteArray) t156 t157 true _ ?side1 A1.out).mono ?_); (case side1 => exact GW.below HG.out (by repeat (first | (with_reducible first | exact HB.out | apply below_alloc | apply pw_below_drewN | apply below_drew1) | exact HB.out))); rintro e w36 ⟨rfl, hb⟩; refine ⟨_, rfl, ?_⟩; have n0_ := Aside0.mk (below_step (by repeat (first | (with_reducible first | exact HB.out | apply below_alloc | apply pw_below_drewN | apply below_drew1) | exact HB.out)) hb); clear HB; have HB := n0_; clear n0_; (try clear hb); (try clear hb2); (try clear hk); (try clear hi)) | ((with_reducible refine gate_callee (f := 14) rfl ?_); refine goesL_ (some 9) rfl rfl Tryd.func14 (by kernel_rfl) rfl #[.string (⟨#[97, 47, 43, 47, 99]⟩ : ByteArray), .string (⟨#[97, 47, 98, 47, 99]⟩ : ByteArray)] rfl (by (try simp only [List.map_toArray, List.map_cons, List.map_nil]); first | done | rfl | (simp only [List.length_drop, List.length_take]; rfl)) ?_; (with_reducible refine (topic_Match.calls k (⟨#[97, 47, 43, 47, 99]⟩ : ByteArray) (⟨#[97, 47, 98, 47, 99]⟩ : ByteArray) true _ ?side1 A2.out).mono ?_); (case side1 => exact GW.below HG.out (by repeat (first | (with_reducible first | exact HB.out | apply below_alloc | apply pw_below_drewN | apply below_drew1) | exact HB.out))); rintro e w37 ⟨rfl, hb⟩; refine ⟨_, rfl, ?_⟩; have n0_ := Aside0.mk (below_step (by repeat (first | (with_reducible first | exact HB.out | apply below_alloc | apply pw_below_drewN | apply below_drew1) | exact HB.out)) hb); clear HB; have HB := n0_; clear n0_; (try clear hb); (try clear hb2); (try clear hk); (try clear hi)) | (go_at_call 14; (with_reducible refine (topic_Match.calls k (⟨#[97, 47, 43, 47, 99]⟩ : ByteArray) (⟨#[97, 47, 47, 99]⟩ : ByteArray) true _ ?side1 A4.out).mono ?_); (case side1 => exact GW.below HG.out (by repeat (first | (with_reducible first | exact HB.out | apply below_alloc | apply pw_below_drewN | apply below_drew1) | exact HB.out))); rintro e w38 ⟨rfl, hb⟩; have n0_ := Aside0.mk (below_step (by repeat (first | (with_reducible first | exact HB.out | apply below_alloc | apply pw_below_drewN | apply below_drew1) | exact HB.out)) hb); clear HB; have HB := n0_; clear n0_; (try clear hb); (try clear hb2); (try clear hk); (try clear hi)) | (go_at_call 14; (with_reducible refine (topic_Match.calls k (⟨#[97, 47, 43, 47, 99]⟩ : ByteArray) (⟨#[97, 47, 98]⟩ : ByteArray) false _ ?side1 A6.out).mono ?_); (case side1 => exact GW.below HG.out (by repeat (first | (with_reducible first | exact HB.out | apply below_alloc | apply pw_below_drewN | apply below_drew1) | exact HB.out))); rintro e w39 ⟨rfl, hb⟩; have n0_ := Aside0.mk (below_step (by repeat (first | (with_reducible first | exact HB.out | apply below_alloc | apply pw_below_drewN | apply below_drew1) | exact HB.out)) hb); clear HB; have HB := n0_; clear n0_; (try clear hb); (try clear hb2); (try clear hk); (try clear hi)) | (go_at_call 14; (with_reducible refine (topic_Match.calls k (⟨#[97, 47, 35]⟩ : ByteArray) (⟨#[97]⟩ : ByteArray) true _ ?side1 A12.out).mono ?_); (case side1 => exact GW.below HG.out (by repeat (first | (with_reducible first | exact HB.out | apply below_alloc | apply pw_below_drewN | apply below_drew1) | exact HB.out))); rintro e w40 ⟨rfl, hb⟩; have n0_ := Aside0.mk (below_step (by repeat (first | (with_reducible first | exact HB.out | apply below_alloc | apply pw_below_drewN | apply below_drew1) | exact HB.out)) hb); clear HB; have HB := n0_; clear n0_; (try clear hb); (try clear hb2); (try clear hk); (try clear hi)) | (go_at_call 14; (with_reducible refine (topic_Match.calls k (⟨#[35]⟩ : ByteArray) (⟨#[36, 120]⟩ : ByteArray) false _ ?side1 A14.out).mono ?_); (case side1 => exact GW.below HG.out (by repeat (first | (with_reducible first | exact HB.out | apply below_alloc | apply pw_below_drewN | apply below_drew1) | exact HB.out))); rintro e w41 ⟨rfl, hb⟩; have n0_ := Aside0.mk (below_step (by repeat (first | (with_reducible first | exact HB.out | apply below_alloc | apply pw_below_drewN | apply below_drew1) | exact HB.out)) hb); clear HB; have HB := n0_; clear n0_; (try clear hb); (try clear hb2); (try clear hk); (try clear hi)) | (go_at_call 42; (with_reducible refine (topic_Filter.calls k (⟨#[97, 47, 35, 47, 98]⟩ : ByteArray) false _ ?side1 A25.out).mono ?_); (case side1 => exact GW.below HG.out (by repeat (first | (with_reducible first | exact HB.out | apply below_alloc | apply pw_below_drewN | apply below_drew1) | exact HB.out))); rintro e w42 ⟨rfl, hb⟩; have n0_ := Aside0.mk (below_step (by repeat (first | (with_reducible first | exact HB.out | apply below_alloc | apply pw_below_drewN | apply below_drew1) | exact HB.out)) hb); clear HB; have HB := n0_; clear n0_; (try clear hb); (try clear hb2); (try clear hk); (try clear hi)) | (go_at_call 42; (with_reducible refine (topic_Filter.calls k (⟨#[36, 115, 104, 97, 114, 101, 47, 103]⟩ : ByteArray) true _ ?side1 A34.out).mono ?_); (case side1 => exact GW.below HG.out (by repeat (first | (with_reducible first | exact HB.out | apply below_alloc | apply pw_below_drewN | apply below_drew1) | exact HB.out))); rintro e w43 ⟨rfl, hb⟩; have n0_ := Aside0.mk (below_step (by repeat (first | (with_reducible first | exact HB.out | apply below_alloc | apply pw_below_drewN | apply below_drew1) | exact HB.out)) hb); clear HB; have HB := n0_; clear n0_; (try clear hb); (try clear hb2); (try clear hk); (try clear hi)))
                      go_ret
                      exact ⟨by first | rfl | (simp [errW_none, errW_some] <;> rfl) | (simp [*, errW_none, errW_some] <;> rfl), by repeat (first | (with_reducible first | exact HB.out | apply below_alloc | apply pw_below_drewN | apply below_drew1) | exact HB.out)⟩
                    · replace c35 := Bool.eq_false_iff.mpr c35
                      subst c35
                      have H1 : ((topic_Name.f (⟨#[97]⟩ : ByteArray)).bind fun t166 => (if t166 = true then ((topic_Name.f (⟨#[43]⟩ : ByteArray)).bind fun t167 => (some (!t167))) else (some false))) = some r := by rw [if_neg (show ¬ (false = true) by decide)] at H; exact H
                      clear H
                      have H := H1
                      clear H1
                      replace H := Option.bind_eq_some_iff.mp H
                      obtain ⟨t166, A440, H⟩ := H
                      replace H : (if t166 = true then ((topic_Name.f (⟨#[43]⟩ : ByteArray)).bind fun t167 => (some (!t167))) else (some false)) = some r := H
                      have A44 := Aside0.mk A440
                      clear A440
                      by_cases c45 : t166 = true
                      · subst c45
                        have H1 : ((topic_Name.f (⟨#[43]⟩ : ByteArray)).bind fun t167 => (some (!t167))) = some r := by rw [if_pos rfl] at H; exact H
                        clear H
                        have H := H1
                        clear H1
                        replace H := Option.bind_eq_some_iff.mp H
                        obtain ⟨t167, A460, H⟩ := H
                        replace H : (some (!t167)) = some r := H
                        have A46 := Aside0.mk A460
                        clear A460
                        obtain rfl := Option.some.inj H
                        go_enter Tryd.func13, Tryd.ntmps13
                        go_wp2_with (first | ((with_reducible refine gate_callee (f := 41) rfl ?_); refine goesL_ (some 5) rfl rfl Tryd.func41 (by kernel_rfl) rfl #[.string (⟨#[36, 115, 104, 97, 114, 101, 47, 103, 47, 97, 47, 43]⟩ : ByteArray)] rfl (by (try simp only [List.map_toArray, List.map_cons, List.map_nil]); first | done | rfl | (simp only [List.length_drop, List.length_take]; rfl)) ?_; (with_reducible refine (topic_Shared.calls k (⟨#[36, 115, 104, 97, 114, 101, 47, 103, 47, 97, 47, 43]⟩ : ByteArray) t156 t157 true _ ?side1 A1.out).mono ?_); (case side1 => exact GW.below HG.out (by repeat (first | (with_reducible first | exact HB.out | apply below_alloc | apply pw_below_drewN | apply below_drew1) | exact HB.out))); rintro e w47 ⟨rfl, hb⟩; refine ⟨_, rfl, ?_⟩; have n0_ := Aside0.mk (below_step (by repeat (first | (with_reducible first | exact HB.out | apply below_alloc | apply pw_below_drewN | apply below_drew1) | exact HB.out)) hb); clear HB; have HB := n0_; clear n0_; (try clear hb); (try clear hb2); (try clear hk); (try clear hi)) | ((with_reducible refine gate_callee (f := 14) rfl ?_); refine goesL_ (some 9) rfl rfl Tryd.func14 (by kernel_rfl) rfl #[.string (⟨#[97, 47, 43, 47, 99]⟩ : ByteArray), .string (⟨#[97, 47, 98, 47, 99]⟩ : ByteArray)] rfl (by (try simp only [List.map_toArray, List.map_cons, List.map_nil]); first | done | rfl | (simp only [List.length_drop, List.length_take]; rfl)) ?_; (with_reducible refine (topic_Match.calls k (⟨#[97, 47, 43, 47, 99]⟩ : ByteArray) (⟨#[97, 47, 98, 47, 99]⟩ : ByteArray) true _ ?side1 A2.out).mono ?_); (case side1 => exact GW.below HG.out (by repeat (first | (with_reducible first | exact HB.out | apply below_alloc | apply pw_below_drewN | apply below_drew1) | exact HB.out))); rintro e w48 ⟨rfl, hb⟩; refine ⟨_, rfl, ?_⟩; have n0_ := Aside0.mk (below_step (by repeat (first | (with_reducible first | exact HB.out | apply below_alloc | apply pw_below_drewN | apply below_drew1) | exact HB.out)) hb); clear HB; have HB := n0_; clear n0_; (try clear hb); (try clear hb2); (try clear hk); (try clear hi)) | (go_at_call 14; (with_reducible refine (topic_Match.calls k (⟨#[97, 47, 43, 47, 99]⟩ : ByteArray) (⟨#[97, 47, 47, 99]⟩ : ByteArray) true _ ?side1 A4.out).mono ?_); (case side1 => exact GW.below HG.out (by repeat (first | (with_reducible first | exact HB.out | apply below_alloc | apply pw_below_drewN | apply below_drew1) | exact HB.out))); rintro e w49 ⟨rfl, hb⟩; have n0_ := Aside0.mk (below_step (by repeat (first | (with_reducible first | exact HB.out | apply below_alloc | apply pw_below_drewN | apply below_drew1) | exact HB.out)) hb); clear HB; have HB := n0_; clear n0_; (try clear hb); (try clear hb2); (try clear hk); (try clear hi)) | (go_at_call 14; (with_reducible refine (topic_Match.calls k (⟨#[97, 47, 43, 47, 99]⟩ : ByteArray) (⟨#[97, 47, 98]⟩ : ByteArray) false _ ?side1 A6.out).mono ?_); (case side1 => exact GW.below HG.out (by repeat (first | (with_reducible first | exact HB.out | apply below_alloc | apply pw_below_drewN | apply below_drew1) | exact HB.out))); rintro e w50 ⟨rfl, hb⟩; have n0_ := Aside0.mk (below_step (by repeat (first | (with_reducible first | exact HB.out | apply below_alloc | apply pw_below_drewN | apply below_drew1) | exact HB.out)) hb); clear HB; have HB := n0_; clear n0_; (try clear hb); (try clear hb2); (try clear hk); (try clear hi)) | (go_at_call 14; (with_reducible refine (topic_Match.calls k (⟨#[97, 47, 35]⟩ : ByteArray) (⟨#[97]⟩ : ByteArray) true _ ?side1 A12.out).mono ?_); (case side1 => exact GW.below HG.out (by repeat (first | (with_reducible first | exact HB.out | apply below_alloc | apply pw_below_drewN | apply below_drew1) | exact HB.out))); rintro e w51 ⟨rfl, hb⟩; have n0_ := Aside0.mk (below_step (by repeat (first | (with_reducible first | exact HB.out | apply below_alloc | apply pw_below_drewN | apply below_drew1) | exact HB.out)) hb); clear HB; have HB := n0_; clear n0_; (try clear hb); (try clear hb2); (try clear hk); (try clear hi)) | (go_at_call 14; (with_reducible refine (topic_Match.calls k (⟨#[35]⟩ : ByteArray) (⟨#[36, 120]⟩ : ByteArray) false _ ?side1 A14.out).mono ?_); (case side1 => exact GW.below HG.out (by repeat (first | (with_reducible first | exact HB.out | apply below_alloc | apply pw_below_drewN | apply below_drew1) | exact HB.out))); rintro e w52 ⟨rfl, hb⟩; have n0_ := Aside0.mk (below_step (by repeat (first | (with_reducible first | exact HB.out | apply below_alloc | apply pw_below_drewN | apply below_drew1) | exact HB.out)) hb); clear HB; have HB := n0_; clear n0_; (try clear hb); (try clear hb2); (try clear hk); (try clear hi)) | (go_at_call 42; (with_reducible refine (topic_Filter.calls k (⟨#[97, 47, 35, 47, 98]⟩ : ByteArray) false _ ?side1 A25.out).mono ?_); (case side1 => exact GW.below HG.out (by repeat (first | (with_reducible first | exact HB.out | apply below_alloc | apply pw_below_drewN | apply below_drew1) | exact HB.out))); rintro e w53 ⟨rfl, hb⟩; have n0_ := Aside0.mk (below_step (by repeat (first | (with_reducible first | exact HB.out | apply below_alloc | apply pw_below_drewN | apply below_drew1) | exact HB.out)) hb); clear HB; have HB := n0_; clear n0_; (try clear hb); (try clear hb2); (try clear hk); (try clear hi)) | (go_at_call 42; (with_reducible refine (topic_Filter.calls k (⟨#[36, 115, 104, 97, 114, 101, 47, 103]⟩ : ByteArray) false _ ?side1 A34.out).mono ?_); (case side1 => exact GW.below HG.out (by repeat (first | (with_reducible first | exact HB.out | apply below_alloc | apply pw_below_drewN | apply below_drew1) | exact HB.out))); rintro e w54 ⟨rfl, hb⟩; have n0_ := Aside0.mk (below_step (by repeat (first | (with_reducible first | exact HB.out | apply below_alloc | apply pw_below_drewN | apply below_drew1) | exact HB.out)) hb); clear HB; have HB := n0_; clear n0_; (try clear hb); (try clear hb2); (try clear hk); (try clear hi)) | (go_at_call 43; (with_reducible refine (topic_Name.calls (⟨#[97]⟩ : ByteArray) true _ ?side1 A44.out).mono ?_); (case side1 => exact GW.below HG.out (by repeat (first | (with_reducible first | exact HB.out | apply below_alloc | apply pw_below_drewN | apply below_drew1) | exact HB.out))); rintro e w55 ⟨rfl, hb⟩; have n0_ := Aside0.mk (below_step (by repeat (first | (with_reducible first | exact HB.out | apply below_alloc | apply pw_below_drewN | apply below_drew1) | exact HB.out)) hb); clear HB; have HB := n0_; clear n0_; (try clear hb); (try clear hb2); (try clear hk); (try clear hi)) | (go_at_call 43; (with_reducible refine (topic_Name.calls (⟨#[43]⟩ : ByteArray) t167 _ ?side1 A46.out).mono ?_); (case side1 => exact GW.below HG.out (by repeat (first | (with_reducible first | exact HB.out | apply below_alloc | apply pw_below_drewN | apply below_drew1) | exact HB.out))); rintro e w56 ⟨rfl, hb⟩; have n0_ := Aside0.mk (below_step (by repeat (first | (with_reducible first | exact HB.out | apply below_alloc | apply pw_below_drewN | apply below_drew1) | exact HB.out)) hb); clear HB; have HB := n0_; clear n0_; (try clear hb); (try clear hb2); (try clear hk); (try clear hi)))
                        go_ret
                        exact ⟨by first | rfl | (simp [errW_none, errW_some] <;> rfl) | (simp [*, errW_none, errW_some] <;> rfl), by repeat (first | (with_reducible first | exact HB.out | apply below_alloc | apply pw_below_drewN | apply below_drew1) | exact HB.out)⟩
                      · replace c45 := Bool.eq_false_iff.mpr c45
                        subst c45
                        have H1 : (some false) = some r := by rw [if_neg (show ¬ (false = true) by decide)] at H; exact H
                        clear H
                        have H := H1
                        clear H1
                        obtain rfl := Option.some.inj H
                        go_enter Tryd.func13, Tryd.ntmps13
                        go_wp2_with (first | ((with_reducible refine gate_callee (f := 41) rfl ?_); refine goesL_ (some 5) rfl rfl Tryd.func41 (by kernel_rfl) rfl #[.string (⟨#[36, 115, 104, 97, 114, 101, 47, 103, 47, 97, 47, 43]⟩ : ByteArray)] rfl (by (try simp only [List.map_toArray, List.map_cons, List.map_nil]); first | done | rfl | (simp only [List.length_drop, List.length_take]; rfl)) ?_; (with_reducible refine (topic_Shared.calls k (⟨#[36, 115, 104, 97, 114, 101, 47, 103, 47, 97, 47, 43]⟩ : ByteArray) t156 t157 true _ ?side1 A1.out).mono ?_); (case side1 => exact GW.below HG.out (by repeat (first | (with_reducible first | exact HB.out | apply below_alloc | apply pw_below_drewN | apply below_drew1) | exact HB.out))); rintro e w57 ⟨rfl, hb⟩; refine ⟨_, rfl, ?_⟩; have n0_ := Aside0.mk (below_step (by repeat (first | (with_reducible first | exact HB.out | apply below_alloc | apply pw_below_drewN | apply below_drew1) | exact HB.out)) hb); clear HB; have HB := n0_; clear n0_; (try clear hb); (try clear hb2); (try clear hk); (try clear hi)) | ((with_reducible refine gate_callee (f := 14) rfl ?_); refine goesL_ (some 9) rfl rfl Tryd.func14 (by kernel_rfl) rfl #[.string (⟨#[97, 47, 43, 47, 99]⟩ : ByteArray), .string (⟨#[97, 47, 98, 47, 99]⟩ : ByteArray)] rfl (by (try simp only [List.map_toArray, List.map_cons, List.map_nil]); first | done | rfl | (simp only [List.length_drop, List.length_take]; rfl)) ?_; (with_reducible refine (topic_Match.calls k (⟨#[97, 47, 43, 47, 99]⟩ : ByteArray) (⟨#[97, 47, 98, 47, 99]⟩ : ByteArray) true _ ?side1 A2.out).mono ?_); (case side1 => exact GW.below HG.out (by repeat (first | (with_reducible first | exact HB.out | apply below_alloc | apply pw_below_drewN | apply below_drew1) | exact HB.out))); rintro e w58 ⟨rfl, hb⟩; refine ⟨_, rfl, ?_⟩; have n0_ := Aside0.mk (below_step (by repeat (first | (with_reducible first | exact HB.out | apply below_alloc | apply pw_below_drewN | apply below_drew1) | exact HB.out)) hb); clear HB; have HB := n0_; clear n0_; (try clear hb); (try clear hb2); (try clear hk); (try clear hi)) | (go_at_call 14; (with_reducible refine (topic_Match.calls k (⟨#[97, 47, 43, 47, 99]⟩ : ByteArray) (⟨#[97, 47, 47, 99]⟩ : ByteArray) true _ ?side1 A4.out).mono ?_); (case side1 => exact GW.below HG.out (by repeat (first | (with_reducible first | exact HB.out | apply below_alloc | apply pw_below_drewN | apply below_drew1) | exact HB.out))); rintro e w59 ⟨rfl, hb⟩; have n0_ := Aside0.mk (below_step (by repeat (first | (with_reducible first | exact HB.out | apply below_alloc | apply pw_below_drewN | apply below_drew1) | exact HB.out)) hb); clear HB; have HB := n0_; clear n0_; (try clear hb); (try clear hb2); (try clear hk); (try clear hi)) | (go_at_call 14; (with_reducible refine (topic_Match.calls k (⟨#[97, 47, 43, 47, 99]⟩ : ByteArray) (⟨#[97, 47, 98]⟩ : ByteArray) false _ ?side1 A6.out).mono ?_); (case side1 => exact GW.below HG.out (by repeat (first | (with_reducible first | exact HB.out | apply below_alloc | apply pw_below_drewN | apply below_drew1) | exact HB.out))); rintro e w60 ⟨rfl, hb⟩; have n0_ := Aside0.mk (below_step (by repeat (first | (with_reducible first | exact HB.out | apply below_alloc | apply pw_below_drewN | apply below_drew1) | exact HB.out)) hb); clear HB; have HB := n0_; clear n0_; (try clear hb); (try clear hb2); (try clear hk); (try clear hi)) | (go_at_call 14; (with_reducible refine (topic_Match.calls k (⟨#[97, 47, 35]⟩ : ByteArray) (⟨#[97]⟩ : ByteArray) true _ ?side1 A12.out).mono ?_); (case side1 => exact GW.below HG.out (by repeat (first | (with_reducible first | exact HB.out | apply below_alloc | apply pw_below_drewN | apply below_drew1) | exact HB.out))); rintro e w61 ⟨rfl, hb⟩; have n0_ := Aside0.mk (below_step (by repeat (first | (with_reducible first | exact HB.out | apply below_alloc | apply pw_below_drewN | apply below_drew1) | exact HB.out)) hb); clear HB; have HB := n0_; clear n0_; (try clear hb); (try clear hb2); (try clear hk); (try clear hi)) | (go_at_call 14; (with_reducible refine (topic_Match.calls k (⟨#[35]⟩ : ByteArray) (⟨#[36, 120]⟩ : ByteArray) false _ ?side1 A14.out).mono ?_); (case side1 => exact GW.below HG.out (by repeat (first | (with_reducible first | exact HB.out | apply below_alloc | apply pw_below_drewN | apply below_drew1) | exact HB.out))); rintro e w62 ⟨rfl, hb⟩; have n0_ := Aside0.mk (below_step (by repeat (first | (with_reducible first | exact HB.out | apply below_alloc | apply pw_below_drewN | apply below_drew1) | exact HB.out)) hb); clear HB; have HB := n0_; clear n0_; (try clear hb); (try clear hb2); (try clear hk); (try clear hi)) | (go_at_call 42; (with_reducible refine (topic_Filter.calls k (⟨#[97, 47, 35, 47, 98]⟩ : ByteArray) false _ ?side1 A25.out).mono ?_); (case side1 => exact GW.below HG.out (by repeat (first | (with_reducible first | exact HB.out | apply below_alloc | apply pw_below_drewN | apply below_drew1) | exact HB.out))); rintro e w63 ⟨rfl, hb⟩; have n0_ := Aside0.mk (below_step (by repeat (first | (with_reducible first | exact HB.out | apply below_alloc | apply pw_below_drewN | apply below_drew1) | exact HB.out)) hb); clear HB; have HB := n0_; clear n0_; (try clear hb); (try clear hb2); (try clear hk); (try clear hi)) | (go_at_call 42; (with_reducible refine (topic_Filter.calls k (⟨#[36, 115, 104, 97, 114, 101, 47, 103]⟩ : ByteArray) false _ ?side1 A34.out).mono ?_); (case side1 => exact GW.below HG.out (by repeat (first | (with_reducible first | exact HB.out | apply below_alloc | apply pw_below_drewN | apply below_drew1) | exact HB.out))); rintro e w64 ⟨rfl, hb⟩; have n0_ := Aside0.mk (below_step (by repeat (first | (with_reducible first | exact HB.out | apply below_alloc | apply pw_below_drewN | apply below_drew1) | exact HB.out)) hb); clear HB; have HB := n0_; clear n0_; (try clear hb); (try clear hb2); (try clear hk); (try clear hi)) | (go_at_call 43; (with_reducible refine (topic_Name.calls (⟨#[97]⟩ : ByteArray) false _ ?side1 A44.out).mono ?_); (case side1 => exact GW.below HG.out (by repeat (first | (with_reducible first | exact HB.out | apply below_alloc | apply pw_below_drewN | apply below_drew1) | exact HB.out))); rintro e w65 ⟨rfl, hb⟩; have n0_ := Aside0.mk (below_step (by repeat (first | (with_reducible first | exact HB.out | apply below_alloc | apply pw_below_drewN | apply below_drew1) | exact HB.out)) hb); clear HB; have HB := n0_; clear n0_; (try clear hb); (try clear hb2); (try clear hk); (try clear hi)))
                        go_ret
                        exact ⟨by first | rfl | (simp [errW_none, errW_some] <;> rfl) | (simp [*, errW_none, errW_some] <;> rfl), by repeat (first | (with_reducible first | exact HB.out | apply below_alloc | apply pw_below_drewN | apply below_drew1) | exact HB.out)⟩
                · replace c24 := Bool.eq_false_iff.mpr c24
                  subst c24
                  have H1 : (some false) = some r := by rw [if_neg (show ¬ (false = true) by decide)] at H; exact H
                  clear H
                  have H := H1
                  clear H1
                  obtain rfl := Option.some.inj H
                  go_enter Tryd.func13, Tryd.ntmps13
                  go_wp2_with (first | ((with_reducible refine gate_callee (f := 41) rfl ?_); refine goesL_ (some 5) rfl rfl Tryd.func41 (by kernel_rfl) rfl #[.string (⟨#[36, 115, 104, 97, 114, 101, 47, 103, 47, 97, 47, 43]⟩ : ByteArray)] rfl (by (try simp only [List.map_toArray, List.map_cons, List.map_nil]); first | done | rfl | (simp only [List.length_drop, List.length_take]; rfl)) ?_; (with_reducible refine (topic_Shared.calls k (⟨#[36, 115, 104, 97, 114, 101, 47, 103, 47, 97, 47, 43]⟩ : ByteArray) t156 t157 false _ ?side1 A1.out).mono ?_); (case side1 => exact GW.below HG.out (by repeat (first | (with_reducible first | exact HB.out | apply below_alloc | apply pw_below_drewN | apply below_drew1) | exact HB.out))); rintro e w66 ⟨rfl, hb⟩; refine ⟨_, rfl, ?_⟩; have n0_ := Aside0.mk (below_step (by repeat (first | (with_reducible first | exact HB.out | apply below_alloc | apply pw_below_drewN | apply below_drew1) | exact HB.out)) hb); clear HB; have HB := n0_; clear n0_; (try clear hb); (try clear hb2); (try clear hk); (try clear hi)) | ((with_reducible refine gate_callee (f := 14) rfl ?_); refine goesL_ (some 9) rfl rfl Tryd.func14 (by kernel_rfl) rfl #[.string (⟨#[97, 47, 43, 47, 99]⟩ : ByteArray), .string (⟨#[97, 47, 98, 47, 99]⟩ : ByteArray)] rfl (by (try simp only [List.map_toArray, List.map_cons, List.map_nil]); first | done | rfl | (simp only [List.length_drop, List.length_take]; rfl)) ?_; (with_reducible refine (topic_Match.calls k (⟨#[97, 47, 43, 47, 99]⟩ : ByteArray) (⟨#[97, 47, 98, 47, 99]⟩ : ByteArray) true _ ?side1 A2.out).mono ?_); (case side1 => exact GW.below HG.out (by repeat (first | (with_reducible first | exact HB.out | apply below_alloc | apply pw_below_drewN | apply below_drew1) | exact HB.out))); rintro e w67 ⟨rfl, hb⟩; refine ⟨_, rfl, ?_⟩; have n0_ := Aside0.mk (below_step (by repeat (first | (with_reducible first | exact HB.out | apply below_alloc | apply pw_below_drewN | apply below_drew1) | exact HB.out)) hb); clear HB; have HB := n0_; clear n0_; (try clear hb); (try clear hb2); (try clear hk); (try clear hi)) | (go_at_call 14; (with_reducible refine (topic_Match.calls k (⟨#[97, 47, 43, 47, 99]⟩ : ByteArray) (⟨#[97, 47, 47, 99]⟩ : ByteArray) true _ ?side1 A4.out).mono ?_); (case side1 => exact GW.below HG.out (by repeat (first | (with_reducible first | exact HB.out | apply below_alloc | apply pw_below_drewN | apply below_drew1) | exact HB.out))); rintro e w68 ⟨rfl, hb⟩; have n0_ := Aside0.mk (below_step (by repeat (first | (with_reducible first | exact HB.out | apply below_alloc | apply pw_below_drewN | apply below_drew1) | exact HB.out)) hb); clear HB; have HB := n0_; clear n0_; (try clear hb); (try clear hb2); (try clear hk); (try clear hi)) | (go_at_call 14; (with_reducible refine (topic_Match.calls k (⟨#[97, 47, 43, 47, 99]⟩ : ByteArray) (⟨#[97, 47, 98]⟩ : ByteArray) false _ ?side1 A6.out).mono ?_); (case side1 => exact GW.below HG.out (by repeat (first | (with_reducible first | exact HB.out | apply below_alloc | apply pw_below_drewN | apply below_drew1) | exact HB.out))); rintro e w69 ⟨rfl, hb⟩; have n0_ := Aside0.mk (below_step (by repeat (first | (with_reducible first | exact HB.out | apply below_alloc | apply pw_below_drewN | apply below_drew1) | exact HB.out)) hb); clear HB; have HB := n0_; clear n0_; (try clear hb); (try clear hb2); (try clear hk); (try clear hi)) | (go_at_call 14; (with_reducible refine (topic_Match.calls k (⟨#[97, 47, 35]⟩ : ByteArray) (⟨#[97]⟩ : ByteArray) true _ ?side1 A12.out).mono ?_); (case side1 => exact GW.below HG.out (by repeat (first | (with_reducible first | exact HB.out | apply below_alloc | apply pw_below_drewN | apply below_drew1) | exact HB.out))); rintro e w70 ⟨rfl, hb⟩; have n0_ := Aside0.mk (below_step (by repeat (first | (with_reducible first | exact HB.out | apply below_alloc | apply pw_below_drewN | apply below_drew1) | exact HB.out)) hb); clear HB; have HB := n0_; clear n0_; (try clear hb); (try clear hb2); (try clear hk); (try clear hi)) | (go_at_call 14; (with_reducible refine (topic_Match.calls k (⟨#[35]⟩ : ByteArray) (⟨#[36, 120]⟩ : ByteArray) false _ ?side1 A14.out).mono ?_); (case side1 => exact GW.below HG.out (by repeat (first | (with_reducible first | exact HB.out | apply below_alloc | apply pw_below_drewN | apply below_drew1) | exact HB.out))); rintro e w71 ⟨rfl, hb⟩; have n0_ := Aside0.mk (below_step (by repeat (first | (with_reducible first | exact HB.out | apply below_alloc | apply pw_below_drewN | apply below_drew1) | exact HB.out)) hb); clear HB; have HB := n0_; clear n0_; (try clear hb); (try clear hb2); (try clear hk); (try clear hi)))
                  go_ret
                  exact ⟨by first | rfl | (simp [errW_none, errW_some] <;> rfl) | (simp [*, errW_none, errW_some] <;> rfl), by repeat (first | (with_reducible first | exact HB.out | apply below_alloc | apply pw_below_drewN | apply below_drew1) | exact HB.out)⟩
              · rw [if_neg c23] at H
                have c23b0 : (t157.toList == ([97, 47, 43] : List UInt8)) = false := beq_eq_false_iff_ne.mpr c23
                have c23b1 : (t157.toList != ([97, 47, 43] : List UInt8)) = true := bne_iff_ne.mpr c23
                obtain rfl := Option.some.inj H
                go_enter Tryd.func13, Tryd.ntmps13
                go_wp2_with (first | ((with_reducible refine gate_callee (f := 41) rfl ?_); refine goesL_ (some 5) rfl rfl Tryd.func41 (by kernel_rfl) rfl #[.string (⟨#[36, 115, 104, 97, 114, 101, 47, 103, 47, 97, 47, 43]⟩ : ByteArray)] rfl (by (try simp only [List.map_toArray, List.map_cons, List.map_nil]); first | done | rfl | (simp only [List.length_drop, List.length_take]; rfl)) ?_; (with_reducible refine (topic_Shared.calls k (⟨#[36, 115, 104, 97, 114, 101, 47, 103, 47, 97, 47, 43]⟩ : ByteArray) t156 t157 t158 _ ?side1 A1.out).mono ?_); (case side1 => exact GW.below HG.out (by repeat (first | (with_reducible first | exact HB.out | apply below_alloc | apply pw_below_drewN | apply below_drew1) | exact HB.out))); rintro e w72 ⟨rfl, hb⟩; refine ⟨_, rfl, ?_⟩; have n0_ := Aside0.mk (below_step (by repeat (first | (with_reducible first | exact HB.out | apply below_alloc | apply pw_below_drewN | apply below_drew1) | exact HB.out)) hb); clear HB; have HB := n0_; clear n0_; (try clear hb); (try clear hb2); (try clear hk); (try clear hi)) | ((with_reducible refine gate_callee (f := 14) rfl ?_); refine goesL_ (some 9) rfl rfl Tryd.func14 (by kernel_rfl) rfl #[.string (⟨#[97, 47, 43, 47, 99]⟩ : ByteArray), .string (⟨#[97, 47, 98, 47, 99]⟩ : ByteArray)] rfl (by (try simp only [List.map_toArray, List.map_cons, List.map_nil]); first | done | rfl | (simp only [List.length_drop, List.length_take]; rfl)) ?_; (with_reducible refine (topic_Match.calls k (⟨#[97, 47, 43, 47, 99]⟩ : ByteArray) (⟨#[97, 47, 98, 47, 99]⟩ : ByteArray) true _ ?side1 A2.out).mono ?_); (case side1 => exact GW.below HG.out (by repeat (first | (with_reducible first | exact HB.out | apply below_alloc | apply pw_below_drewN | apply below_drew1) | exact HB.out))); rintro e w73 ⟨rfl, hb⟩; refine ⟨_, rfl, ?_⟩; have n0_ := Aside0.mk (below_step (by repeat (first | (with_reducible first | exact HB.out | apply below_alloc | apply pw_below_drewN | apply below_drew1) | exact HB.out)) hb); clear HB; have HB := n0_; clear n0_; (try clear hb); (try clear hb2); (try clear hk); (try clear hi)) | (go_at_call 14; (with_reducible refine (topic_Match.calls k (⟨#[97, 47, 43, 47, 99]⟩ : ByteArray) (⟨#[97, 47, 47, 99]⟩ : ByteArray) true _ ?side1 A4.out).mono ?_); (case side1 => exact GW.below HG.out (by repeat (first | (with_reducible first | exact HB.out | apply below_alloc | apply pw_below_drewN | apply below_drew1) | exact HB.out))); rintro e w74 ⟨rfl, hb⟩; have n0_ := Aside0.mk (below_step (by repeat (first | (with_reducible first | exact HB.out | apply below_alloc | apply pw_below_drewN | apply below_drew1) | exact HB.out)) hb); clear HB; have HB := n0_; clear n0_; (try clear hb); (try clear hb2); (try clear hk); (try clear hi)) | (go_at_call 14; (with_reducible refine (topic_Match.calls k (⟨#[97, 47, 43, 47, 99]⟩ : ByteArray) (⟨#[97, 47, 98]⟩ : ByteArray) false _ ?side1 A6.out).mono ?_); (case side1 => exact GW.below HG.out (by repeat (first | (with_reducible first | exact HB.out | apply below_alloc | apply pw_below_drewN | apply below_drew1) | exact HB.out))); rintro e w75 ⟨rfl, hb⟩; have n0_ := Aside0.mk (below_step (by repeat (first | (with_reducible first | exact HB.out | apply below_alloc | apply pw_below_drewN | apply below_drew1) | exact HB.out)) hb); clear HB; have HB := n0_; clear n0_; (try clear hb); (try clear hb2); (try clear hk); (try clear hi)) | (go_at_call 14; (with_reducible refine (topic_Match.calls k (⟨#[97, 47, 35]⟩ : ByteArray) (⟨#[97]⟩ : ByteArray) true _ ?side1 A12.out).mono ?_); (case side1 => exact GW.below HG.out (by repeat (first | (with_reducible first | exact HB.out | apply below_alloc | apply pw_below_drewN | apply below_drew1) | exact HB.out))); rintro e w76 ⟨rfl, hb⟩; have n0_ := Aside0.mk (below_step (by repeat (first | (with_reducible first | exact HB.out | apply below_alloc | apply pw_below_drewN | apply below_drew1) | exact HB.out)) hb); clear HB; have HB := n0_; clear n0_; (try clear hb); (try clear hb2); (try clear hk); (try clear hi)) | (go_at_call 14; (with_reducible refine (topic_Match.calls k (⟨#[35]⟩ : ByteArray) (⟨#[36, 120]⟩ : ByteArray) false _ ?side1 A14.out).mono ?_); (case side1 => exact GW.below HG.out (by repeat (first | (with_reducible first | exact HB.out | apply below_alloc | apply pw_below_drewN | apply below_drew1) | exact HB.out))); rintro e w77 ⟨rfl, hb⟩; have n0_ := Aside0.mk (below_step (by repeat (first | (with_reducible first | exact HB.out | apply below_alloc | apply pw_below_drewN | apply below_drew1) | exact HB.out)) hb); clear HB; have HB := n0_; clear n0_; (try clear hb); (try clear hb2); (try clear hk); (try clear hi)))
                go_ret
                exact ⟨by first | rfl | (simp [errW_none, errW_some] <;> rfl) | (simp [*, errW_none, errW_some] <;> rfl), by repeat (first | (with_reducible first | exact HB.out | apply below_alloc | apply pw_below_drewN | apply below_drew1) | exact HB.out)⟩
            · rw [if_neg c22] at H
              have c22b0 : (t156.toList == ([103] : List UInt8)) = false := beq_eq_false_iff_ne.mpr c22
              have c22b1 : (t156.toList != ([103] : List UInt8)) = true := bne_iff_ne.mpr c22
              obtain rfl := Option.some.inj H
              go_enter Tryd.func13, Tryd.ntmps13
              go_wp2_with (first | ((with_reducible refine gate_callee (f := 41) rfl ?_); refine goesL_ (some 5) rfl rfl Tryd.func41 (by kernel_rfl) rfl #[.string (⟨#[36, 115, 104, 97, 114, 101, 47, 103, 47, 97, 47, 43]⟩ : ByteArray)] rfl (by (try simp only [List.map_toArray, List.map_cons, List.map_nil]); first | done | rfl | (simp only [List.length_drop, List.length_take]; rfl)) ?_; (with_reducible refine (topic_Shared.calls k (⟨#[36, 115, 104, 97, 114, 101, 47, 103, 47, 97, 47, 43]⟩ : ByteArray) t156 t157 t158 _ ?side1 A1.out).mono ?_); (case side1 => exact GW.below HG.out (by repeat (first | (with_reducible first | exact HB.out | apply below_alloc | apply pw_below_drewN | apply below_drew1) | exact HB.out))); rintro e w78 ⟨rfl, hb⟩; refine ⟨_, rfl, ?_⟩; have n0_ := Aside0.mk (below_step (by repeat (first | (with_reducible first | exact HB.out | apply below_alloc | apply pw_below_drewN | apply below_drew1) | exact HB.out)) hb); clear HB; have HB := n0_; clear n0_; (try clear hb); (try clear hb2); (try clear hk); (try clear hi)) | ((with_reducible refine gate_callee (f := 14) rfl ?_); refine goesL_ (some 9) rfl rfl Tryd.func14 (by kernel_rfl) rfl #[.string (⟨#[97, 47, 43, 47, 99]⟩ : ByteArray), .string (⟨#[97, 47, 98, 47, 99]⟩ : ByteArray)] rfl (by (try simp only [List.map_toArray, List.map_cons, List.map_nil]); first | done | rfl | (simp only [List.length_drop, List.length_take]; rfl)) ?_; (with_reducible refine (topic_Match.calls k (⟨#[97, 47, 43, 47, 99]⟩ : ByteArray) (⟨#[97, 47, 98, 47, 99]⟩ : ByteArray) true _ ?side1 A2.out).mono ?_); (case side1 => exact GW.below HG.out (by repeat (first | (with_reducible first | exact HB.out | apply below_alloc | apply pw_below_drewN | apply below_drew1) | exact HB.out))); rintro e w79 ⟨rfl, hb⟩; refine ⟨_, rfl, ?_⟩; have n0_ := Aside0.mk (below_step (by repeat (first | (with_reducible first | exact HB.out | apply below_alloc | apply pw_below_drewN | apply below_drew1) | exact HB.out)) hb); clear HB; have HB := n0_; clear n0_; (try clear hb); (try clear hb2); (try clear hk); (try clear hi)) | (go_at_call 14; (with_reducible refine (topic_Match.calls k (⟨#[97, 47, 43, 47, 99]⟩ : ByteArray) (⟨#[97, 47, 47, 99]⟩ : ByteArray) true _ ?side1 A4.out).mono ?_); (case side1 => exact GW.below HG.out (by repeat (first | (with_reducible first | exact HB.out | apply below_alloc | apply pw_below_drewN | apply below_drew1) | exact HB.out))); rintro e w80 ⟨rfl, hb⟩; have n0_ := Aside0.mk (below_step (by repeat (first | (with_reducible first | exact HB.out | apply below_alloc | apply pw_below_drewN | apply below_drew1) | exact HB.out)) hb); clear HB; have HB := n0_; clear n0_; (try clear hb); (try clear hb2); (try clear hk); (try clear hi)) | (go_at_call 14; (with_reducible refine (topic_Match.calls k (⟨#[97, 47, 43, 47, 99]⟩ : ByteArray) (⟨#[97, 47, 98]⟩ : ByteArray) false _ ?side1 A6.out).mono ?_); (case side1 => exact GW.below HG.out (by repeat (first | (with_reducible first | exact HB.out | apply below_alloc | apply pw_below_drewN | apply below_drew1) | exact HB.out))); rintro e w81 ⟨rfl, hb⟩; have n0_ := Aside0.mk (below_step (by repeat (first | (with_reducible first | exact HB.out | apply below_alloc | apply pw_below_drewN | apply below_drew1) | exact HB.out)) hb); clear HB; have HB := n0_; clear n0_; (try clear hb); (try clear hb2); (try clear hk); (try clear hi)) | (go_at_call 14; (with_reducible refine (topic_Match.calls k (⟨#[97, 47, 35]⟩ : ByteArray) (⟨#[97]⟩ : ByteArray) true _ ?side1 A12.out).mono ?_); (case side1 => exact GW.below HG.out (by repeat (first | (with_reducible first | exact HB.out | apply below_alloc | apply pw_below_drewN | apply below_drew1) | exact HB.out))); rintro e w82 ⟨rfl, hb⟩; have n0_ := Aside0.mk (below_step (by repeat (first | (with_reducible first | exact HB.out | apply below_alloc | apply pw_below_drewN | apply below_drew1) | exact HB.out)) hb); clear HB; have HB := n0_; clear n0_; (try clear hb); (try clear hb2); (try clear hk); (try clear hi)) | (go_at_call 14; (with_reducible refine (topic_Match.calls k (⟨#[35]⟩ : ByteArray) (⟨#[36, 120]⟩ : ByteArray) false _ ?side1 A14.out).mono ?_); (case side1 => exact GW.below HG.out (by repeat (first | (with_reducible first | exact HB.out | apply below_alloc | apply pw_below_drewN | apply below_drew1) | exact HB.out))); rintro e w83 ⟨rfl, hb⟩; have n0_ := Aside0.mk (below_step (by repeat (first | (with_reducible first | exact HB.out | apply below_alloc | apply pw_below_drewN | apply below_drew1) | exact HB.out)) hb); clear HB; have HB := n0_; clear n0_; (try clear hb); (try clear hb2); (try clear hk); (try clear hi)))
              go_ret
              exact ⟨by first | rfl | (simp [errW_none, errW_some] <;> rfl) | (simp [*, errW_none, errW_some] <;> rfl), by repeat (first | (with_reducible first | exact HB.out | apply below_alloc | apply pw_below_drewN | apply below_drew1) | exact HB.out)⟩
        · replace c13 := Bool.eq_false_iff.mpr c13
          subst c13
          have H1 : (some false) = some r := by rw [if_neg (show ¬ (false = true) by decide)] at H; exact H
          clear H
          have H := H1
          clear H1
          obtain rfl := Option.some.inj H
          go_enter Tryd.func13, Tryd.ntmps13
          go_wp2_with (first | ((with_reducible refine gate_callee (f := 41) rfl ?_); refine goesL_ (some 5) rfl rfl Tryd.func41 (by kernel_rfl) rfl #[.string (⟨#[36, 115, 104, 97, 114, 101, 47, 103, 47, 97, 47, 43]⟩ : ByteArray)] rfl (by (try simp only [List.map_toArray, List.map_cons, List.map_nil]); first | done | rfl | (simp only [List.length_drop, List.length_take]; rfl)) ?_; (with_reducible refine (topic_Shared.calls k (⟨#[36, 115, 104, 97, 114, 101, 47, 103, 47, 97, 47, 43]⟩ : ByteArray) t156 t157 t158 _ ?side1 A1.out).mono ?_); (case side1 => exact GW.below HG.out (by repeat (first | (with_reducible first | exact HB.out | apply below_alloc | apply pw_below_drewN | apply below_drew1) | exact HB.out))); rintro e w84 ⟨rfl, hb⟩; refine ⟨_, rfl, ?_⟩; have n0_ := Aside0.mk (below_step (by repeat (first | (with_reducible first | exact HB.out | apply below_alloc | apply pw_below_drewN | apply below_drew1) | exact HB.out)) hb); clear HB; have HB := n0_; clear n0_; (try clear hb); (try clear hb2); (try clear hk); (try clear hi)) | ((with_reducible refine gate_callee (f := 14) rfl ?_); refine goesL_ (some 9) rfl rfl Tryd.func14 (by kernel_rfl) rfl #[.string (⟨#[97, 47, 43, 47, 99]⟩ : ByteArray), .string (⟨#[97, 47, 98, 47, 99]⟩ : ByteArray)] rfl (by (try simp only [List.map_toArray, List.map_cons, List.map_nil]); first | done | rfl | (simp only [List.length_drop, List.length_take]; rfl)) ?_; (with_reducible refine (topic_Match.calls k (⟨#[97, 47, 43, 47, 99]⟩ : ByteArray) (⟨#[97, 47, 98, 47, 99]⟩ : ByteArray) true _ ?side1 A2.out).mono ?_); (case side1 => exact GW.below HG.out (by repeat (first | (with_reducible first | exact HB.out | apply below_alloc | apply pw_below_drewN | apply below_drew1) | exact HB.out))); rintro e w85 ⟨rfl, hb⟩; refine ⟨_, rfl, ?_⟩; have n0_ := Aside0.mk (below_step (by repeat (first | (with_reducible first | exact HB.out | apply below_alloc | apply pw_below_drewN | apply below_drew1) | exact HB.out)) hb); clear HB; have HB := n0_; clear n0_; (try clear hb); (try clear hb2); (try clear hk); (try clear hi)) | (go_at_call 14; (with_reducible refine (topic_Match.calls k (⟨#[97, 47, 43, 47, 99]⟩ : ByteArray) (⟨#[97, 47, 47, 99]⟩ : ByteArray) true _ ?side1 A4.out).mono ?_); (case side1 => exact GW.below HG.out (by repeat (first | (with_reducible first | exact HB.out | apply below_alloc | apply pw_below_drewN | apply below_drew1) | exact HB.out))); rintro e w86 ⟨rfl, hb⟩; have n0_ := Aside0.mk (below_step (by repeat (first | (with_reducible first | exact HB.out | apply below_alloc | apply pw_below_drewN | apply below_drew1) | exact HB.out)) hb); clear HB; have HB := n0_; clear n0_; (try clear hb); (try clear hb2); (try clear hk); (try clear hi)) | (go_at_call 14; (with_reducible refine (topic_Match.calls k (⟨#[97, 47, 43, 47, 99]⟩ : ByteArray) (⟨#[97, 47, 98]⟩ : ByteArray) false _ ?side1 A6.out).mono ?_); (case side1 => exact GW.below HG.out (by repeat (first | (with_reducible first | exact HB.out | apply below_alloc | apply pw_below_drewN | apply below_drew1) | exact HB.out))); rintro e w87 ⟨rfl, hb⟩; have n0_ := Aside0.mk (below_step (by repeat (first | (with_reducible first | exact HB.out | apply below_alloc | apply pw_below_drewN | apply below_drew1) | exact HB.out)) hb); clear HB; have HB := n0_; clear n0_; (try clear hb); (try clear hb2); (try clear hk); (try clear hi)) | (go_at_call 14; (with_reducible refine (topic_Match.calls k (⟨#[97, 47, 35]⟩ : ByteArray) (⟨#[97]⟩ : ByteArray) false _ ?side1 A12.out).mono ?_); (case side1 => exact GW.below HG.out (by repeat (first | (with_reducible first | exact HB.out | apply below_alloc | apply pw_below_drewN | apply below_drew1) | exact HB.out))); rintro e w88 ⟨rfl, hb⟩; have n0_ := Aside0.mk (below_step (by repeat (first | (with_reducible first | exact HB.out | apply below_alloc | apply pw_below_drewN | apply below_drew1) | exact HB.out)) hb); clear HB; have HB := n0_; clear n0_; (try clear hb); (try clear hb2); (try clear hk); (try clear hi)))
          go_ret
          exact ⟨by first | rfl | (simp [errW_none, errW_some] <;> rfl) | (simp [*, errW_none, errW_some] <;> rfl), by repeat (first | (with_reducible first | exact HB.out | apply below_alloc | apply pw_below_drewN | apply below_drew1) | exact HB.out)⟩
    · replace c5 := Bool.eq_false_iff.mpr c5
      subst c5
      have H1 : (some false) = some r := by rw [if_neg (show ¬ (false = true) by decide)] at H; exact H
      clear H
      have H := H1
      clear H1
      obtain rfl := Option.some.inj H
      go_enter Tryd.func13, Tryd.ntmps13
      go_wp2_with (first | ((with_reducible refine gate_callee (f := 41) rfl ?_); refine goesL_ (some 5) rfl rfl Tryd.func41 (by kernel_rfl) rfl #[.string (⟨#[36, 115, 104, 97, 114, 101, 47, 103, 47, 97, 47, 43]⟩ : ByteArray)] rfl (by (try simp only [List.map_toArray, List.map_cons, List.map_nil]); first | done | rfl | (simp only [List.length_drop, List.length_take]; rfl)) ?_; (with_reducible refine (topic_Shared.calls k (⟨#[36, 115, 104, 97, 114, 101, 47, 103, 47, 97, 47, 43]⟩ : ByteArray) t156 t157 t158 _ ?side1 A1.out).mono ?_); (case side1 => exact GW.below HG.out (by repeat (first | (with_reducible first | exact HB.out | apply below_alloc | apply pw_below_drewN | apply below_drew1) | exact HB.out))); rintro e w89 ⟨rfl, hb⟩; refine ⟨_, rfl, ?_⟩; have n0_ := Aside0.mk (below_step (by repeat (first | (with_reducible first | exact HB.out | apply below_alloc | apply pw_below_drewN | apply below_drew1) | exact HB.out)) hb); clear HB; have HB := n0_; clear n0_; (try clear hb); (try clear hb2); (try clear hk); (try clear hi)) | ((with_reducible refine gate_callee (f := 14) rfl ?_); refine goesL_ (some 9) rfl rfl Tryd.func14 (by kernel_rfl) rfl #[.string (⟨#[97, 47, 43, 47, 99]⟩ : ByteArray), .string (⟨#[97, 47, 98, 47, 99]⟩ : ByteArray)] rfl (by (try simp only [List.map_toArray, List.map_cons, List.map_nil]); first | done | rfl | (simp only [List.length_drop, List.length_take]; rfl)) ?_; (with_reducible refine (topic_Match.calls k (⟨#[97, 47, 43, 47, 99]⟩ : ByteArray) (⟨#[97, 47, 98, 47, 99]⟩ : ByteArray) true _ ?side1 A2.out).mono ?_); (case side1 => exact GW.below HG.out (by repeat (first | (with_reducible first | exact HB.out | apply below_alloc | apply pw_below_drewN | apply below_drew1) | exact HB.out))); rintro e w90 ⟨rfl, hb⟩; refine ⟨_, rfl, ?_⟩; have n0_ := Aside0.mk (below_step (by repeat (first | (with_reducible first | exact HB.out | apply below_alloc | apply pw_below_drewN | apply below_drew1) | exact HB.out)) hb); clear HB; have HB := n0_; clear n0_; (try clear hb); (try clear hb2); (try clear hk); (try clear hi)) | (go_at_call 14; (with_reducible refine (topic_Match.calls k (⟨#[97, 47, 43, 47, 99]⟩ : ByteArray) (⟨#[97, 47, 47, 99]⟩ : ByteArray) false _ ?side1 A4.out).mono ?_); (case side1 => exact GW.below HG.out (by repeat (first | (with_reducible first | exact HB.out | apply below_alloc | apply pw_below_drewN | apply below_drew1) | exact HB.out))); rintro e w91 ⟨rfl, hb⟩; have n0_ := Aside0.mk (below_step (by repeat (first | (with_reducible first | exact HB.out | apply below_alloc | apply pw_below_drewN | apply below_drew1) | exact HB.out)) hb); clear HB; have HB := n0_; clear n0_; (try clear hb); (try clear hb2); (try clear hk); (try clear hi)))
      go_ret
      exact ⟨by first | rfl | (simp [errW_none, errW_some] <;> rfl) | (simp [*, errW_none, errW_some] <;> rfl), by repeat (first | (with_reducible first | exact HB.out | apply below_alloc | apply pw_below_drewN | apply below_drew1) | exact HB.out)⟩
  · replace c3 := Bool.eq_false_iff.mpr c3
    subst c3
    have H1 : (some false) = some r := by rw [if_neg (show ¬ (false = true) by decide)] at H; exact H
    clear H
    have H := H1
    clear H1
    obtain rfl := Option.some.inj H
    go_enter Tryd.func13, Tryd.ntmps13
    go_wp2_with (first | ((with_reducible refine gate_callee (f := 41) rfl ?_); refine goesL_ (some 5) rfl rfl Tryd.func41 (by kernel_rfl) rfl #[.string (⟨#[36, 115, 104, 97, 114, 101, 47, 103, 47, 97, 47, 43]⟩ : ByteArray)] rfl (by (try simp only [List.map_toArray, List.map_cons, List.map_nil]); first | done | rfl | (simp only [List.length_drop, List.length_take]; rfl)) ?_; (with_reducible refine (topic_Shared.calls k (⟨#[36, 115, 104, 97, 114, 101, 47, 103, 47, 97, 47, 43]⟩ : ByteArray) t156 t157 t158 _ ?side1 A1.out).mono ?_); (case side1 => exact GW.below HG.out (by repeat (first | (with_reducible first | exact HB.out | apply below_alloc | apply pw_below_drewN | apply below_drew1) | exact HB.out))); rintro e w92 ⟨rfl, hb⟩; refine ⟨_, rfl, ?_⟩; have n0_ := Aside0.mk (below_step (by repeat (first | (with_reducible first | exact HB.out | apply below_alloc | apply pw_below_drewN | apply below_drew1) | exact HB.out)) hb); clear HB; have HB := n0_; clear n0_; (try clear hb); (try clear hb2); (try clear hk); (try clear hi)) | ((with_reducible refine gate_callee (f := 14) rfl ?_); refine goesL_ (some 9) rfl rfl Tryd.func14 (by kernel_rfl) rfl #[.string (⟨#[97, 47, 43, 47, 99]⟩ : ByteArray), .string (⟨#[97, 47, 98, 47, 99]⟩ : ByteArray)] rfl (by (try simp only [List.map_toArray, List.map_cons, List.map_nil]); first | done | rfl | (simp only [List.length_drop, List.length_take]; rfl)) ?_; (with_reducible refine (topic_Match.calls k (⟨#[97, 47, 43, 47, 99]⟩ : ByteArray) (⟨#[97, 47, 98, 47, 99]⟩ : ByteArray) false _ ?side1 A2.out).mono ?_); (case side1 => exact GW.below HG.out (by repeat (first | (with_reducible first | exact HB.out | apply below_alloc | apply pw_below_drewN | apply below_drew1) | exact HB.out))); rintro e w93 ⟨rfl, hb⟩; refine ⟨_, rfl, ?_⟩; have n0_ := Aside0.mk (below_step (by repeat (first | (with_reducible first | exact HB.out | apply below_alloc | apply pw_below_drewN | apply below_drew1) | exact HB.out)) hb); clear HB; have HB := n0_; clear n0_; (try clear hb); (try clear hb2); (try clear hk); (try clear hi)))
    go_ret
    exact ⟨by first | rfl | (simp [errW_none, errW_some] <;> rfl) | (simp [*, errW_none, errW_some] <;> rfl), by repeat (first | (with_reducible first | exact HB.out | apply below_alloc | apply pw_below_drewN | apply below_drew1) | exact HB.out)⟩

end Go.Proofs.YtbaipppmefencaaDoor.P
