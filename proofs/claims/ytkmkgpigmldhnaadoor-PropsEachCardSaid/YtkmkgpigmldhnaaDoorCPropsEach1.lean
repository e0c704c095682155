import Derived.ArgAppend
import Derived.Below
import Derived.BigQuiet
import Derived.Deep.AppendLies
import Derived.Deep.CutBlock
import Derived.Deep.DeepCutAuto
import Derived.Deep.DeepHandedRow
import Derived.Deep.DeepWitnessRowRef
import Derived.Deep.Draws
import Derived.Deep.LoopGhost
import Derived.Deep.OwnRows
import Derived.Deep.QuietTactic
import Derived.Deep.RegionHeld3
import Derived.KernelRfl
import Derived.Laws.BitsLemmas
import Derived.Laws.BytesArg
import Derived.Laws.IdiomCopy
import Derived.Laws.MakeOwn
import Derived.Laws.OwnMore
import Derived.Laws.Rows
import Derived.Laws.Slices
import Derived.Lib.AppendStr
import Derived.Lib.ConvBytes
import Derived.Lib.LaidIn
import Derived.Lib.LaidU8T
import Derived.Maps.AppendAt
import Derived.OrdersHeld
import Derived.OwnWalk
import Derived.ProofKit
import Derived.RangeFuncCalls
import Derived.RangeFuncLeaves
import Derived.RangeFuncNested
import Derived.RowKit
import Derived.RowKit3
import Derived.Shelf.Small.Strs
import Derived.Shelf.Strings.Cut
import Derived.Shelf.Strings.IndexAny
import Derived.Shelf.Strings.IndexAnyAll
import Derived.Shelf.Strings.Runes
import Derived.Shelf.Strings.Search3
import Derived.Shelf.Strings.Split
import Derived.Shelf.Unicode.DecodeSlow
import Derived.Shelf.Unicode.ValidAny
import Derived.Shelf.Vars
import Derived.SizedLaws
import Derived.Tactics
import Derived.Test.YtkmkgpigmldhnaaDoorProg
import Derived.Test.YtkmkgpigmldhnaaDoorRows
import Derived.WalkKit
import Derived.WideLaws
import Derived.Test.YtkmkgpigmldhnaaDoorCPropsEach0
namespace Go.Proofs.YtkmkgpigmldhnaaDoor.P
open Go.RowKit Go.Proofs.YtkmkgpigmldhnaaDoorW.PrintWords
def GW (w : World) : Prop :=
  Go.Lib.Utf8Tabs 0 1 w ∧ ∃ m, w.cell? ⟨2, 0, none⟩ = some (.int .i64 m)
theorem GW.below {w w' : World} (h : GW w) (hb : Below w.heap.size w w') : GW w' :=
  ⟨Utf8Tabs_below h.1 hb, h.2.imp fun _ hm => pw_cell_below hb hm⟩
theorem GW.drawn {w w' : World} (h : GW w) (hd : Drawn0 w w') : GW w' := h.below hd.below
structure Hold (p : Prop) : Prop where
  out : p
theorem cc4_0 {W : World} {g : Nat} {a b c d : Value} {t : TypeId} (h : W.heap[g]? = some (.cells #[a, b, c, d] t (0, 0))) : W.cell? ⟨g, 0, none⟩ = some a := (blk_cell h 0).trans rfl
theorem cc4_1 {W : World} {g : Nat} {a b c d : Value} {t : TypeId} (h : W.heap[g]? = some (.cells #[a, b, c, d] t (0, 0))) : W.cell? ⟨g, 1, none⟩ = some b := (blk_cell h 1).trans rfl
theorem cc4_2 {W : World} {g : Nat} {a b c d : Value} {t : TypeId} (h : W.heap[g]? = some (.cells #[a, b, c, d] t (0, 0))) : W.cell? ⟨g, 2, none⟩ = some c := (blk_cell h 2).trans rfl
theorem cc4_3 {W : World} {g : Nat} {a b c d : Value} {t : TypeId} (h : W.heap[g]? = some (.cells #[a, b, c, d] t (0, 0))) : W.cell? ⟨g, 3, none⟩ = some d := (blk_cell h 3).trans rfl
end Go.Proofs.YtkmkgpigmldhnaaDoor.P

namespace Go.Proofs
open Go.Shelf
def Tryd.lays137_ren : Go.Shelf.Ren := ⟨fun | 137 => 122 | 217 => 118 | 266 => 124 | n => n, fun | 9 => 9 | 5 => 5 | 3 => 3 | n => n, fun | n => n⟩
theorem Tryd.lays137 : Go.Proofs.Lays.n137 Tryd.prog Tryd.lays137_ren := {
  mixed := by kernel_rfl
  f137 := Tryd.func122.trans (congrArg some (by kernel_rfl))
  f217 := Tryd.func118.trans (congrArg some (by kernel_rfl))
  f266 := Tryd.func124.trans (congrArg some (by kernel_rfl))
  t3 := Tryd.underlying3
  a3 := Tryd.isAgg3
  z3 := Tryd.sizeOf3
  v3 := Tryd.zeroValue3
  t5 := Tryd.underlying5
  a5 := Tryd.isAgg5
  z5 := Tryd.sizeOf5
  v5 := Tryd.zeroValue5
  t9 := Tryd.underlying9
  a9 := Tryd.isAgg9
  z9 := Tryd.sizeOf9
  v9 := Tryd.zeroValue9 }
open Go.RowKit in
theorem Tryd.strings_IndexByte (s : ByteArray) (c : Int) (w : World) :
    Calls Tryd.prog 122 #[.string s, .int .u8 c] w fun e w' => e = .returned (.int .i64 (Lib.indexByte s.data.toList c.toNat.toUInt8)) ∧ w' = w := Any.strings_IndexByte Tryd.lays137 s c w
def Tryd.lays144_ren : Go.Shelf.Ren := ⟨fun | 144 => 104 | 143 => 110 | 219 => 113 | 217 => 118 | 225 => 119 | 224 => 120 | 267 => 121 | 266 => 124 | 314 => 125 | n => n, fun | 9 => 9 | 4 => 4 | 3 => 3 | 5 => 5 | 46 => 99 | 146 => 147 | 51 => 56 | n => n, fun | 1 => 2 | n => n⟩
theorem Tryd.lays144 : Go.Proofs.Lays.n144 Tryd.prog Tryd.lays144_ren := {
  mixed := by kernel_rfl
  f143 := Tryd.func110.trans (congrArg some (by kernel_rfl))
  f144 := Tryd.func104.trans (congrArg some (by kernel_rfl))
  f217 := Tryd.func118.trans (congrArg some (by kernel_rfl))
  f219 := Tryd.func113.trans (congrArg some (by kernel_rfl))
  f224 := Tryd.func120.trans (congrArg some (by kernel_rfl))
  f225 := Tryd.func119.trans (congrArg some (by kernel_rfl))
  f266 := Tryd.func124.trans (congrArg some (by kernel_rfl))
  f267 := Tryd.func121.trans (congrArg some (by kernel_rfl))
  f314 := Tryd.func125.trans (congrArg some (by kernel_rfl))
  t3 := Tryd.underlying3
  a3 := Tryd.isAgg3
  z3 := Tryd.sizeOf3
  v3 := Tryd.zeroValue3
  t4 := Tryd.underlying4
  a4 := Tryd.isAgg4
  z4 := Tryd.sizeOf4
  v4 := Tryd.zeroValue4
  t5 := Tryd.underlying5
  a5 := Tryd.isAgg5
  z5 := Tryd.sizeOf5
  v5 := Tryd.zeroValue5
  t9 := Tryd.underlying9
  a9 := Tryd.isAgg9
  z9 := Tryd.sizeOf9
  v9 := Tryd.zeroValue9
  t46 := Tryd.underlying99
  a46 := Tryd.isAgg99
  z46 := Tryd.sizeOf99
  v46 := Tryd.zeroValue99
  t51 := Tryd.underlying56
  a51 := Tryd.isAgg56
  z51 := Tryd.sizeOf56
  v51 := Tryd.zeroValue56
  t146 := Tryd.underlying147
  a146 := Tryd.isAgg147
  z146 := Tryd.sizeOf147
  v146 := Tryd.zeroValue147
  g1 := by kernel_rfl }
open Go.RowKit Go.Lib in
theorem Tryd.strings_Contains (s sub : ByteArray) (m : Int) (w : World) (hs : s.size < 4294967281) (hm : w.cell? ⟨2, 0, none⟩ = some (.int .i64 m)) :
    Calls Tryd.prog 104 #[.string s, .string sub] w fun e w' => e = .returned (.bool (Lib.contains s.data.toList sub.data.toList)) ∧ w' = w := Any.strings_Contains Tryd.lays144 s sub m w hs hm
def Tryd.lays152_ren : Go.Shelf.Ren := ⟨fun | 152 => 114 | 137 => 122 | 119 => 123 | 224 => 120 | 225 => 119 | 217 => 118 | 266 => 124 | n => n, fun | 9 => 9 | 21 => 21 | 3 => 3 | 4 => 4 | 5 => 5 | 0 => 0 | 46 => 99 | n => n, fun | n => n⟩
theorem Tryd.lays152 : Go.Proofs.Lays.n152 Tryd.prog Tryd.lays152_ren := {
  mixed := by kernel_rfl
  f119 := Tryd.func123.trans (congrArg some (by kernel_rfl))
  f137 := Tryd.func122.trans (congrArg some (by kernel_rfl))
  f152 := Tryd.func114.trans (congrArg some (by kernel_rfl))
  f217 := Tryd.func118.trans (congrArg some (by kernel_rfl))
  f224 := Tryd.func120.trans (congrArg some (by kernel_rfl))
  f225 := Tryd.func119.trans (congrArg some (by kernel_rfl))
  f266 := Tryd.func124.trans (congrArg some (by kernel_rfl))
  t0 := Tryd.underlying0
  a0 := Tryd.isAgg0
  z0 := Tryd.sizeOf0
  v0 := Tryd.zeroValue0
  t3 := Tryd.underlying3
  a3 := Tryd.isAgg3
  z3 := Tryd.sizeOf3
  v3 := Tryd.zeroValue3
  t4 := Tryd.underlying4
  a4 := Tryd.isAgg4
  z4 := Tryd.sizeOf4
  v4 := Tryd.zeroValue4
  t5 := Tryd.underlying5
  a5 := Tryd.isAgg5
  z5 := Tryd.sizeOf5
  v5 := Tryd.zeroValue5
  t9 := Tryd.underlying9
  a9 := Tryd.isAgg9
  z9 := Tryd.sizeOf9
  v9 := Tryd.zeroValue9
  t21 := Tryd.underlying21
  a21 := Tryd.isAgg21
  z21 := Tryd.sizeOf21
  v21 := Tryd.zeroValue21
  t46 := Tryd.underlying99
  a46 := Tryd.isAgg99
  z46 := Tryd.sizeOf99
  v46 := Tryd.zeroValue99 }
open Go.RowKit Go.Lib in
theorem Tryd.strings_IndexRune_ascii (s : ByteArray) (r : Int) (w : World) (h0 : 0 ≤ r) (h1 : r < 128) :
    Calls Tryd.prog 114 #[.string s, .int .i32 r] w fun e w' => e = .returned (.int .i64 (Lib.indexByte s.data.toList r.toNat.toUInt8)) ∧ w' = w := Any.strings_IndexRune_ascii Tryd.lays152 s r w h0 h1
def Tryd.lays226_ren : Go.Shelf.Ren := ⟨fun | 226 => 115 | n => n, fun | 3 => 3 | 4 => 4 | n => n, fun | n => n⟩
theorem Tryd.lays226 : Go.Proofs.Lays.n226 Tryd.prog Tryd.lays226_ren := {
  mixed := by kernel_rfl
  f226 := Tryd.func115.trans (congrArg some (by kernel_rfl))
  t3 := Tryd.underlying3
  a3 := Tryd.isAgg3
  z3 := Tryd.sizeOf3
  v3 := Tryd.zeroValue3
  t4 := Tryd.underlying4
  a4 := Tryd.isAgg4
  z4 := Tryd.sizeOf4
  v4 := Tryd.zeroValue4 }
open Go.RowKit Go.Lib in
theorem Tryd.strings_shouldUseASCIISet (n : Int) (w : World) :
    Calls Tryd.prog 115 #[.int .i64 n] w fun e w' => e = .returned (.bool (decide (8 < n))) ∧ w' = w := Any.strings_shouldUseASCIISet Tryd.lays226 n w
def Tryd.lays153_ren : Go.Shelf.Ren := ⟨fun | 153 => 112 | 152 => 114 | 226 => 115 | 227 => 116 | 228 => 117 | 137 => 122 | 119 => 123 | 224 => 120 | 225 => 119 | 217 => 118 | 266 => 124 | n => n, fun | 9 => 9 | 3 => 3 | 4 => 4 | 5 => 5 | 21 => 21 | 117 => 141 | 116 => 140 | 0 => 0 | 46 => 99 | 124 => 146 | n => n, fun | n => n⟩
theorem Tryd.lays153 : Go.Proofs.Lays.n153 Tryd.prog Tryd.lays153_ren := {
  mixed := by kernel_rfl
  f119 := Tryd.func123.trans (congrArg some (by kernel_rfl))
  f137 := Tryd.func122.trans (congrArg some (by kernel_rfl))
  f152 := Tryd.func114.trans (congrArg some (by kernel_rfl))
  f153 := Tryd.func112.trans (congrArg some (by kernel_rfl))
  f217 := Tryd.func118.trans (congrArg some (by kernel_rfl))
  f224 := Tryd.func120.trans (congrArg some (by kernel_rfl))
  f225 := Tryd.func119.trans (congrArg some (by kernel_rfl))
  f226 := Tryd.func115.trans (congrArg some (by kernel_rfl))
  f227 := Tryd.func116.trans (congrArg some (by kernel_rfl))
  f228 := Tryd.func117.trans (congrArg some (by kernel_rfl))
  f266 := Tryd.func124.trans (congrArg some (by kernel_rfl))
  t0 := Tryd.underlying0
  a0 := Tryd.isAgg0
  z0 := Tryd.sizeOf0
  v0 := Tryd.zeroValue0
  t3 := Tryd.underlying3
  a3 := Tryd.isAgg3
  z3 := Tryd.sizeOf3
  v3 := Tryd.zeroValue3
  t4 := Tryd.underlying4
  a4 := Tryd.isAgg4
  z4 := Tryd.sizeOf4
  v4 := Tryd.zeroValue4
  t5 := Tryd.underlying5
  a5 := Tryd.isAgg5
  z5 := Tryd.sizeOf5
  v5 := Tryd.zeroValue5
  t9 := Tryd.underlying9
  a9 := Tryd.isAgg9
  z9 := Tryd.sizeOf9
  v9 := Tryd.zeroValue9
  t21 := Tryd.underlying21
  a21 := Tryd.isAgg21
  z21 := Tryd.sizeOf21
  v21 := Tryd.zeroValue21
  t46 := Tryd.underlying99
  a46 := Tryd.isAgg99
  z46 := Tryd.sizeOf99
  v46 := Tryd.zeroValue99
  t116 := Tryd.underlying140
  a116 := Tryd.isAgg140
  z116 := Tryd.sizeOf140
  t117 := Tryd.underlying141
  a117 := Tryd.isAgg141
  z117 := Tryd.sizeOf141
  v117 := Tryd.zeroValue141
  t124 := Tryd.underlying146
  a124 := Tryd.isAgg146
  z124 := Tryd.sizeOf146
  v124 := Tryd.zeroValue146 }
open Go.RowKit Go.Lib in
theorem Tryd.strings_IndexAny_long (hv116 : ∀ w, (zeroValue 140).run Tryd.prog w = .ok (.agg (Array.replicate 256 (.bool false))) w) (s chars : ByteArray) (w : World) (h2 : 2 ≤ chars.size) (h8 : 8 < s.size) (hs : s.size < 4294967281) (hcs : chars.size < 4294967281) (hascii : ∀ (j : Nat) b, chars.data.toList[j]? = some b → b.toNat < 128) :
    Calls Tryd.prog 112 #[.string s, .string chars] w fun e w' => e = .returned (.int .i64 (Lib.indexAny s.data.toList chars.data.toList)) ∧ w' = ((w.alloc (.cells (Lib.setCells chars.data.toList) 140)).alloc (.cells (Lib.setCells chars.data.toList) 140)) := Any.strings_IndexAny_long Tryd.lays153 hv116 (by kernel_rfl) s chars w h2 h8 hs hcs hascii
def Tryd.lays196_ren : Go.Shelf.Ren := ⟨fun | 196 => 103 | 259 => 109 | n => n, fun | 9 => 9 | 4 => 4 | 3 => 3 | 5 => 5 | 12 => 12 | 119 => 132 | 0 => 0 | 46 => 99 | 139 => 135 | 138 => 134 | 53 => 51 | n => n, fun | 3 => 0 | 4 => 1 | n => n⟩
theorem Tryd.lays196 : Go.Proofs.Lays.n196 Tryd.prog Tryd.lays196_ren := {
  mixed := by kernel_rfl
  f196 := Tryd.func103.trans (congrArg some (by kernel_rfl))
  f259 := Tryd.func109.trans (congrArg some (by kernel_rfl))
  t0 := Tryd.underlying0
  a0 := Tryd.isAgg0
  z0 := Tryd.sizeOf0
  v0 := Tryd.zeroValue0
  t3 := Tryd.underlying3
  a3 := Tryd.isAgg3
  z3 := Tryd.sizeOf3
  v3 := Tryd.zeroValue3
  t4 := Tryd.underlying4
  a4 := Tryd.isAgg4
  z4 := Tryd.sizeOf4
  v4 := Tryd.zeroValue4
  t5 := Tryd.underlying5
  a5 := Tryd.isAgg5
  z5 := Tryd.sizeOf5
  v5 := Tryd.zeroValue5
  t9 := Tryd.underlying9
  a9 := Tryd.isAgg9
  z9 := Tryd.sizeOf9
  v9 := Tryd.zeroValue9
  t12 := Tryd.underlying12
  a12 := Tryd.isAgg12
  z12 := Tryd.sizeOf12
  v12 := Tryd.zeroValue12
  t46 := Tryd.underlying99
  a46 := Tryd.isAgg99
  z46 := Tryd.sizeOf99
  v46 := Tryd.zeroValue99
  t53 := Tryd.underlying51
  a53 := Tryd.isAgg51
  z53 := Tryd.sizeOf51
  v53 := Tryd.zeroValue51
  t119 := Tryd.underlying132
  a119 := Tryd.isAgg132
  z119 := Tryd.sizeOf132
  t138 := Tryd.underlying134
  a138 := Tryd.isAgg134
  z138 := Tryd.sizeOf134
  v138 := Tryd.zeroValue134
  t139 := Tryd.underlying135
  a139 := Tryd.isAgg135
  z139 := Tryd.sizeOf135
  v139 := Tryd.zeroValue135
  g3 := by kernel_rfl
  g4 := by kernel_rfl }
end Go.Proofs

namespace Go.Proofs.YtkmkgpigmldhnaaDoor.Row
open Go.Shelf Go.ChangeShapes Go.WideShapes Go.ChangeAt Go.RowKit Go.Lib
open Go.ChangeMaps (open_string shut_string)
theorem own : ownKnob Tryd.prog.godebug = none := by kernel_rfl
noncomputable def laid : List (String × DataW Unit) := [("unicode/utf8.acceptRanges", Rows.laid_unicode_utf8_acceptRanges), ("unicode/utf8.first", Rows.laid_unicode_utf8_first)]
noncomputable def laidWorld (os : Os) : World :=
  let w0 := World.holding Tryd.prog os ⟨#[], #[], []⟩
  let put (h : Array Obj) (g : Nat) (cs : Array Value) : Array Obj := h.modify g fun
    | .cells _ t frozen => .cells cs t frozen
    | o => o
  let h1 := put w0.heap 0 (Lib.firstTab.map fun z => Value.int .u8 z).toArray
  let h2 := put h1 1 ((List.range 16).flatMap fun i => [Value.int .u8 (Lib.accLo i), Value.int .u8 (Lib.accHi i)]).toArray
  { w0 with heap := h2 }
theorem laid_met (os : Os) (args : Array Value) : laidMet Tryd.prog laid ((laidWorld os).forCall (fun _ _ => 0) ⟨#[], args, []⟩).memory :=
  (LaidIn.of_run (l := laid) [1, 0] 8 (by kernel_rfl) (by kernel_rfl) (by kernel_rfl) (by kernel_rfl)).met
theorem accept_eq : (Rows.laid_unicode_utf8_acceptRanges : DataW Unit) = Lib.acceptData := by kernel_rfl
theorem first_eq : Rows.laid_unicode_utf8_first = Lib.firstData := by kernel_rfl
theorem gw_of {W : World} (hL : laidMetH Tryd.prog laid W) (hS : W.ShapedOpen Tryd.prog) : P.GW W := by
  have h4 := Lib.laidMet.reads hL (n := "unicode/utf8.acceptRanges") (d := Rows.laid_unicode_utf8_acceptRanges) (.head _)
  have h3 := Lib.laidMet.reads hL (n := "unicode/utf8.first") (d := Rows.laid_unicode_utf8_first) (.tail _ (.head _))
  rw [accept_eq] at h4
  rw [first_eq] at h3
  refine ⟨utf8Tabs_of_readsT (U8Types.of196 Tryd.lays196) ⟨by kernel_rfl, by kernel_rfl, by kernel_rfl, by kernel_rfl, by kernel_rfl, by kernel_rfl, by kernel_rfl⟩ h3 h4, ?_⟩
  exact cell_of_shapedOpen_int (zero := #[.int .i64 0]) (t := 3) hS (of_decide_eq_true (by kernel_rfl)) (by kernel_rfl) rfl (by kernel_rfl) (by kernel_rfl) Tryd.underlying3
end Go.Proofs.YtkmkgpigmldhnaaDoor.Row

namespace Go.Proofs.YtkmkgpigmldhnaaDoor.P
open Go.RowKit Go.Proofs.YtkmkgpigmldhnaaDoorW.PrintWords Go.Proofs.YtkmkgpigmldhnaaDoorW.PrintLast Go.Proofs.YtkmkgpigmldhnaaDoorW.PrintMore
attribute [local go_sem] max2_int min2_int max_two min_two max_three min_three max_four min_four
set_option linter.unusedVariables false
set_option linter.unusedSimpArgs false
def errW : Option Int → Value
  | none => .nilIface
  | some c => .iface 0 (.int .i64 c)
theorem errW_none : errW none = .nilIface := rfl
theorem errW_some (c : Int) : errW (some c) = .iface 0 (.int .i64 c) := rfl
theorem info5 : (Tryd.prog.info? 5).map (fun i => (i.zero, i.size, i.bytes)) = some (some (.int .u8 0), 1, 1) := by kernel_rfl
theorem info58 : (Tryd.prog.info? 58).map (fun i => (i.zero, i.size, i.bytes)) = some (some (.agg #[(.int .u8 0), (.int .u32 0), (.string ⟨#[]⟩), (.string ⟨#[]⟩)]), 4, 40) := by kernel_rfl
theorem info60 : (Tryd.prog.info? 60).map (fun i => (i.zero, i.size, i.bytes)) = some (some (.agg #[(.int .u8 0), (.int .u32 0), (.string ⟨#[]⟩), (.string ⟨#[]⟩)]), 4, 40) := by kernel_rfl
-- the values' own types
end Go.Proofs.YtkmkgpigmldhnaaDoor.P

namespace Go.Proofs.YtkmkgpigmldhnaaDoor.Rg
open Go Go.RowKit
def Sp (T : Nat) (o : Obj) : Prop := o.isCells = false ∨ ∃ cs, o = .cells cs T (0, 0)
def Ab (B T : Nat) (I : World → Prop) : Prop := ∀ W W' row, I W → W.grownBy W' row → (∀ r, row = some r → B ≤ r ∧ ∃ o, W.heap[r]? = some o ∧ Sp T o) → I W'
def Kq (B T : Nat) (W W' : World) : Prop := ∀ k o, B ≤ k → W.heap[k]? = some o → Sp T o → W'.heap[k]? = some o
theorem Kq.trans {B T : Nat} {W W1 W2 : World} (h : Kq B T W W1) (k : Kq B T W1 W2) : Kq B T W W2 := fun i o hB ho hs => k i o hB (h i o hB ho hs) hs
theorem Kq.lower {B B' T : Nat} {W W1 : World} (h : Kq B T W W1) (hB : B ≤ B') : Kq B' T W W1 := fun i o hB' ho hs => h i o (by omega) ho hs
theorem Kq.refl (B T : Nat) (W : World) : Kq B T W W := fun _ _ _ h _ => h
theorem Kq.put {B T l : Nat} {W : World} (o : Obj) (hl : l < B) : Kq B T W (W.putObj l o) := fun k o' hB ho _ => (World.putObj_heap_other (by omega)).trans ho
theorem Ab.put {B T : Nat} {I : World → Prop} (h : Ab B T I) {W : World} {l : Nat} {o : Obj} (o' : Obj) (hi : I W) (hB : B ≤ l) (hl : W.heap[l]? = some o) (hs : Sp T o) : I (W.putObj l o') :=
  h W _ (some l) hi (grownBy_putObj' W l o') (fun r e => by cases e; exact ⟨hB, o, hl, hs⟩)
theorem Ab.alloc {B T : Nat} {I : World → Prop} (h : Ab B T I) {W : World} (o : Obj) (hi : I W) : I (W.alloc o) := h W _ none hi (World.grownBy_alloc W o none) (fun r e => by cases e)
theorem Ab.and {B T : Nat} {I J : World → Prop} (h : Ab B T I) (k : Ab B T J) : Ab B T (fun W => I W ∧ J W) := fun W W' row hi hg hr => ⟨h W W' row hi.1 hg hr, k W W' row hi.2 hg hr⟩
theorem Ab.block {B T l : Nat} (o : Obj) (hl : l < B) : Ab B T (fun W => W.heap[l]? = some o) := fun W W' row hi hg hr =>
  (hg.block l (Array.getElem?_eq_some_iff.1 hi).1 (fun e => by have := (hr l e.symm).1; omega)).trans hi
theorem Ab.lower {B B' T : Nat} {I : World → Prop} (h : Ab B T I) (hB : B ≤ B') : Ab B' T I := fun W W' row hi hg hr => h W W' row hi hg (fun r e => ⟨by have := (hr r e).1; omega, (hr r e).2⟩)
def Seq {α : Type} (F : Fence) (n : Nat) (P : Program) (g : Nat) (lb : Array Value) (encs : α → Array Value) (T n₀ : Nat) (L : List α) (w : World) : Prop :=
  ∀ (l : Nat) (J X : List α → World → Prop) (W : World), Below w.heap.size w W → (∀ pre, Ab W.heap.size T (J pre)) → (∀ pre, Ab W.heap.size T (X pre)) →
    (∀ pre x rest W1, L = pre ++ x :: rest → J pre W1 → YieldAt F (n - 1) P l (encs x) W1 fun e W' =>
      (e = .returned (.bool true) ∧ J (pre ++ [x]) W' ∧ Kq W.heap.size T W1 W' ∧ Below n₀ W1 W') ∨ (e = .returned (.bool false) ∧ X (pre ++ [x]) W')) →
    J [] W →
    CallsIn F n P g (#[.func (.yield l) #[] #[]] ++ lb) W fun e W' => (∃ v, e = .returned v) ∧ (J L W' ∨ ∃ pre rest, L = pre ++ rest ∧ X pre W')
def rp (B T n₀ : Nat) (I X : World → Prop) (W : World) : Exit → Act → World → Prop
  | .normal, _, W' => Kq B T W W' ∧ Below n₀ W W' ∧ I W'
  | .ret, _, W' => Kq B T W W' ∧ X W'
  | _, _, _ => False
section
variable {F : Fence} {n : Nat} {P : Program}
theorem range_law {α : Type} {g : Operand} {ps : Array Tmp} {assign body : Code} {Q : Exit → Act → World → Prop} {a : Act} {w : World} (T n₀ : Nat) (hn₀ : n₀ ≤ w.heap.size)
    (hro : F.round = none) (h1 : 1 ≤ n) {gf : Nat} {lb : Array Value} (hg : a.eval g = .func (.func gf) #[] lb) (hFg : F.fn gf) (eg : ∀ args w, (callFunc gf args).run P w = .ok (.enter gf args) w)
    {encs : α → Array Value} {L : List α} {w0 : World} (hseq : Seq F (n - 1) P gf lb encs T n₀ L w0) (hb0 : Below w0.heap.size w0 w) (hps : ∀ x, (encs x).size = ps.size)
    (I X : List α → World → Prop) (hI : ∀ pre, Ab w.heap.size T (I pre)) (hX : ∀ pre, Ab w.heap.size T (X pre)) (h0 : I [] w)
    (hround : ∀ (l : Nat) (rb : Loop) (pre : List α) (x : α) (rest : List α) (W : World), L = pre ++ x :: rest → w.heap.size ≤ l → (∃ r, W.heap[l]? = some (.loop r)) → I pre W →
      assign.wpIn (F.inRound l) (n - 1 - 1) P (Exit.then (fun a' W' => Kq w.heap.size T W W' ∧ Below n₀ W W' ∧ body.wpIn (F.inRound l) (n - 1 - 1) P (rp w.heap.size T n₀ (I (pre ++ [x])) (X (pre ++ [x])) (W'.putObj l (.loop rb))) a' (W'.putObj l (.loop rb))) (fun _ _ _ => False))
        { tmps := (ps.zip (encs x)).foldl (fun t (p, v) => t.setIfInBounds p v) a.tmps, defers := [] } W)
    (hdone : ∀ (D : Nat) (W : World), w.heap.size ≤ D → I L W → W.heap[D]? = some (.deferred (some [])) → Q .normal { a with defers := { target := .collected D, args := #[] } :: a.defers } W)
    (hstop : ∀ (D : Nat) (pre rest : List α) (W : World), w.heap.size ≤ D → L = pre ++ rest → X pre W → W.heap[D]? = some (.deferred (some [])) → Code.ret.wpIn F n P Q { a with defers := { target := .collected D, args := #[] } :: a.defers } W) :
    (Code.rangeFunc g ps assign body).wpIn F n P Q a w := by
  refine wpIn_rangeFunc fun fn hfn => ?_
  rw [hro]
  let r0 : Loop := { state := .ready, pending := none, fn, tmps := a.tmps, params := ps, assign, body, defers := w.heap.size }
  let V := (w.alloc (.deferred (some []))).alloc (.loop r0)
  have sV : V.heap.size = w.heap.size + 2 := by show ((w.alloc _).alloc _).heap.size = _; rw [World.size_alloc, World.size_alloc]
  have hl : V.heap[w.heap.size + 1]? = some (.loop r0) := by
    have := World.alloc_heap_new (w.alloc (.deferred (some []))) (.loop r0); rwa [World.size_alloc] at this
  have hd : V.heap[w.heap.size]? = some (.deferred (some [])) := (Below.heap_alloc _ _ _ (by rw [World.size_alloc]; omega)).trans (World.alloc_heap_new w _)
  have hbV : Below w0.heap.size w0 V := hb0.trans ((((Below.refl _ w).alloc (Nat.le_refl _) _).alloc (by rw [World.size_alloc]; omega) _).mono hb0.size)
  have hIV : I [] V := (hI []).alloc _ ((hI []).alloc _ h0)
  refine ⟨w.heap.size + 1, [{ target := .collected w.heap.size, args := #[] }], V, { target := .fn (.func gf) lb, args := #[.func (.yield (w.heap.size + 1)) #[] #[]] }, V, gf,
    #[.func (.yield (w.heap.size + 1)) #[] #[]] ++ lb, V, run_enterLoop_outer _ _ _ _ _, ?_, ?_, ?_, fun _ => h1, ?_⟩
  · simp only [resolve, hg]
    simp [go_sem]
  · intro f' hf'
    simp [Target.leads] at hf'
    subst hf'
    exact hFg
  · simp [invoke, go_sem, eg]
  -- the iterator, at the caller's invariant beside the two blocks of the loop
  have two : ∀ o : Obj, Ab V.heap.size T (fun W => W.heap[w.heap.size + 1]? = some o ∧ W.heap[w.heap.size]? = some (.deferred (some []))) := fun o =>
    (Ab.block o (by omega)).and (Ab.block _ (by omega))
  have ends : ∀ (j : Option Code) (W : World), W.heap[w.heap.size + 1]? = some (.loop { r0 with state := .busy }) →
      (Instr.endRound (w.heap.size + 1) j).run P W = .ok (.bool j.isNone) (W.putObj (w.heap.size + 1) (.loop { r0 with state := if j.isNone then .ready else .done, pending := j })) := fun j W h => run_endRound (P := P) (r := { r0 with state := .busy }) j h
  refine (hseq (w.heap.size + 1) (fun pre W => I pre W ∧ (W.heap[w.heap.size + 1]? = some (.loop r0) ∧ W.heap[w.heap.size]? = some (.deferred (some []))))
    (fun pre W => X pre W ∧ (W.heap[w.heap.size + 1]? = some (.loop { r0 with state := .done, pending := some .ret }) ∧ W.heap[w.heap.size]? = some (.deferred (some [])))) V hbV
    (fun pre => ((hI pre).lower (by omega)).and (two _)) (fun pre => ((hX pre).lower (by omega)).and (two _)) ?_ ⟨hIV, hl, hd⟩).mono ?_
  · rintro pre x rest W hL ⟨hi, hlW, hdW⟩
    refine ⟨fn, _, assign, body, run_yield (P := P) (args := encs x) hlW (hps x), roundIn_of_wpIn hfn (wpIn_mono (hround (w.heap.size + 1) { r0 with state := .busy } pre x rest W hL (by omega) ⟨_, hlW⟩ hi) ?_)⟩
    intro e a' W' he
    cases e with
    | normal =>
      obtain ⟨hk, hkb, hb⟩ := he
      have hl1 := hk _ _ (by omega) hlW (.inl rfl)
      have hd1 := hk _ _ (Nat.le_refl _) hdW (.inl rfl)
      have hlt : w.heap.size + 1 < W'.heap.size := (Array.getElem?_eq_some_iff.1 hl1).1
      refine ⟨_, run_beginRound hl1 rfl, wpIn_mono hb ?_⟩
      have hl2 : (W'.putObj (w.heap.size + 1) (.loop { r0 with state := .busy })).heap[w.heap.size + 1]? = some (.loop { r0 with state := .busy }) := World.putObj_heap_same hlt
      have hd2 : (W'.putObj (w.heap.size + 1) (.loop { r0 with state := .busy })).heap[w.heap.size]? = some (.deferred (some [])) := (World.putObj_heap_other (by omega)).trans hd1
      intro e2 a2 W2 h2
      cases e2 with
      | normal =>
        obtain ⟨hk2, hkb2, hi2⟩ := h2
        have hl3 := hk2 _ _ (by omega) hl2 (.inl rfl)
        have hd3 := hk2 _ _ (Nat.le_refl _) hd2 (.inl rfl)
        refine ⟨_, _, ends none W2 hl3, .inl ⟨rfl, ⟨(hI _).put _ hi2 (by omega) hl3 (.inl rfl), World.putObj_heap_same (Array.getElem?_eq_some_iff.1 hl3).1, (World.putObj_heap_other (by omega)).trans hd3⟩, ?_⟩⟩
        refine ⟨(hk.lower (by omega)).trans ((Kq.put _ (by omega)).trans ((hk2.lower (by omega)).trans (Kq.put _ (by omega)))), ?_⟩
        exact hkb.trans ((belowK_b hn₀ W' _ _ _ (by omega) hl1 rfl rfl).trans (hkb2.trans (belowK_b hn₀ W2 _ _ _ (by omega) hl3 rfl rfl)))
      | ret =>
        obtain ⟨hk2, hi2⟩ := h2
        have hl3 := hk2 _ _ (by omega) hl2 (.inl rfl)
        have hd3 := hk2 _ _ (Nat.le_refl _) hd2 (.inl rfl)
        exact ⟨_, _, ends (some .ret) W2 hl3, .inr ⟨rfl, (hX _).put _ hi2 (by omega) hl3 (.inl rfl), World.putObj_heap_same (Array.getElem?_eq_some_iff.1 hl3).1, (World.putObj_heap_other (by omega)).trans hd3⟩⟩
      | exit _ => exact h2.elim
      | goto _ => exact h2.elim
      | panic _ => exact h2.elim
      | outgrown => exact h2.elim
    | ret => exact he.elim
    | exit _ => exact he.elim
    | goto _ => exact he.elim
    | panic _ => exact he.elim
    | outgrown => exact he.elim
  · rintro e W2 ⟨⟨v, rfl⟩, (⟨hi, hl2, hd2⟩ | ⟨pre, rest, hL, hx, hl2, hd2⟩)⟩
    · exact ⟨none, _, run_endLoop (P := P) hl2 (by simp [r0]), hdone _ _ (Nat.le_refl _) ((hI _).put _ hi (by omega) hl2 (.inl rfl)) ((World.putObj_heap_other (by omega)).trans hd2)⟩
    · exact ⟨some .ret, _, run_endLoop (P := P) hl2 (by simp), hstop _ pre rest _ (Nat.le_refl _) hL ((hX _).put _ hx (by omega) hl2 (.inl rfl)) ((World.putObj_heap_other (by omega)).trans hd2)⟩
end
end Go.Proofs.YtkmkgpigmldhnaaDoor.Rg

namespace Go.Proofs.YtkmkgpigmldhnaaDoor.P
open Go.RowKit Go.Shelf Go.Lib Go.Proofs.YtkmkgpigmldhnaaDoorW.PrintWords Go.Proofs.YtkmkgpigmldhnaaDoorW.PrintLast Go.Proofs.YtkmkgpigmldhnaaDoorW.PrintMore
def rowB (id : Int) : Int × List Int :=
  if id = 1 then (1, [3, 16]) else
  if id = 2 then (3, [3, 16]) else
  if id = 3 ∨ id = 8 then (5, [3, 16]) else
  if id = 9 then (6, [3, 16]) else
  if id = 11 then (4, [3, 8]) else
  if id = 17 then (3, [1, 2, 14]) else
  if id = 18 ∨ id = 26 then (5, [2]) else
  if id = 19 then (2, [2]) else
  if id = 21 then (5, [1, 2, 15]) else
  if id = 22 then (6, [1, 2, 15]) else
  if id = 23 ∨ id = 25 then (1, [1]) else
  if id = 24 then (3, [16]) else
  if id = 28 then (5, [2, 14]) else
  if id = 31 then (5, [2, 4, 5, 6, 7, 9, 11, 14, 15]) else
  if id = 33 ∨ id = 34 then (2, [1, 2]) else
  if id = 35 then (2, [3]) else
  if id = 36 ∨ id = 37 ∨ id = 40 ∨ id = 41 ∨ id = 42 then (1, [2]) else
  if id = 38 then (7, [1, 2, 3, 4, 5, 6, 7, 8, 9, 10, 11, 14, 15, 16]) else
  if id = 39 then (3, [1, 2]) else
  (0, [])
theorem add_at (g off j : Nat) : (⟨g, off, none⟩ : Addr).add j = ⟨g, off + j, none⟩ := by cases j <;> simp [Addr.add]
theorem C_lit {w : World} {g : Nat} {t : TypeId} {fr : Nat × Nat} (l : List Int) (hb : w.heap[g]? = some (.cells (l.map (Value.int .i64)).toArray t fr)) (hl : l.length ≤ 9223372036854775807) : Kd.C (Kd.int .i64) w (some ⟨g, 0, none⟩) l.length l := by
  refine Kd.C_of_reads (d := (0 : Int)) (h1 := fun _ => rfl) ⟨rfl, hl, fun _ => ⟨_, rfl, fun j hj => ?_⟩⟩
  rw [add_at]
  simp only [World.cell?, hb]
  simp [List.getElem?_map, List.getElem?_eq_getElem hj, List.getD_eq_getElem?_getD]
theorem C_drop {w : World} {g : Nat} {x : Int} {l : List Int} (h : Kd.C (Kd.int .i64) w (some ⟨g, 0, none⟩) (x :: l).length (x :: l)) : Kd.C (Kd.int .i64) w (some ⟨g, 1, none⟩) l.length l := by
  have h2 := Kd.reads_of_C (d := (0 : Int)) h
  refine Kd.C_of_reads (d := (0 : Int)) (h1 := fun _ => rfl) ⟨rfl, by have := h2.2.1; simp at this; omega, fun hn => ⟨_, rfl, fun j hj => ?_⟩⟩
  obtain ⟨ad2, e, hc⟩ := h2.2.2 (by simp)
  obtain rfl := Option.some.inj e
  have := hc (j + 1) (by simp; omega)
  rw [add_at] at this ⊢
  rw [show 1 + j = 0 + (j + 1) by omega]
  simpa using this
theorem heap2_old (w : World) (A B : Obj) : ((w.alloc A).alloc B).heap[w.heap.size]? = some A := by
  have h := heap_alloc_new w A
  have h2 := (Array.getElem?_eq_some_iff.1 h).1
  show ((w.alloc A).heap.push B)[w.heap.size]? = _
  rw [Array.getElem?_push, if_neg (Nat.ne_of_lt h2)]; exact h
def allL : List Int := [1, 2, 3, 4, 5, 6, 7, 8, 9, 10, 11, 14, 15, 16]
def IsRowOf (w : World) (r : Int × List Int) (e : Ending) (w' : World) : Prop :=
  ∃ A c, e = .returned (.agg #[.int .i64 r.1, .slice A r.2.length c]) ∧ Kd.C (Kd.int .i64) w' A r.2.length r.2 ∧ r.2.length ≤ c ∧ Below w.heap.size w w'
section
variable (id : Int) (gB : Nat) (aA : Option Addr) (cA : Nat) (w : World)
set_option maxHeartbeats 4000000 in
set_option maxRecDepth 1000000 in
theorem later28 : Calls Tryd.prog 101 #[.int .u8 28, .slice (some ⟨gB, 0, none⟩) 2 2, .slice aA 14 cA] w (IsRowOf w (5, [2, 14])) := by
  have hu := Tryd.underlying115
  go_enter Tryd.func101, Tryd.ntmps101
  go_wp2
  refine bodyPost_ret (results_cell_row rfl _ _ w.heap.size 115 #[.int .i64 5, .slice (some ⟨w.heap.size + 1, 0, none⟩) 2 2] (0, 0) _ rfl (by exact heap2_old _ _ _) hu rfl (by kernel_rfl)) rfl ?_
  exact ⟨_, _, rfl, C_lit [2, 14] (heap_alloc2_new _ _ _) (by decide), by decide, by repeat (first | exact Below.refl _ _ | apply below_alloc)⟩
set_option maxHeartbeats 4000000 in
set_option maxRecDepth 1000000 in
theorem later31 : Calls Tryd.prog 101 #[.int .u8 31, .slice (some ⟨gB, 0, none⟩) 2 2, .slice aA 14 cA] w (IsRowOf w (5, [2, 4, 5, 6, 7, 9, 11, 14, 15])) := by
  have hu := Tryd.underlying115
  go_enter Tryd.func101, Tryd.ntmps101
  go_wp2
  refine bodyPost_ret (results_cell_row rfl _ _ w.heap.size 115 #[.int .i64 5, .slice (some ⟨w.heap.size + 1, 0, none⟩) 9 9] (0, 0) _ rfl (by exact heap2_old _ _ _) hu rfl (by kernel_rfl)) rfl ?_
  exact ⟨_, _, rfl, C_lit [2, 4, 5, 6, 7, 9, 11, 14, 15] (heap_alloc2_new _ _ _) (by decide), by decide, by repeat (first | exact Below.refl _ _ | apply below_alloc)⟩
set_option maxHeartbeats 4000000 in
set_option maxRecDepth 1000000 in
theorem later33 (hB : Kd.C (Kd.int .i64) w (some ⟨gB, 0, none⟩) 2 [1, 2]) : Calls Tryd.prog 101 #[.int .u8 33, .slice (some ⟨gB, 0, none⟩) 2 2, .slice aA 14 cA] w (IsRowOf w (2, [1, 2])) := by
  have hu := Tryd.underlying115
  go_enter Tryd.func101, Tryd.ntmps101
  go_wp2
  refine bodyPost_ret (results_cell_row rfl _ _ w.heap.size 115 #[.int .i64 2, .slice (some ⟨gB, 0, none⟩) 2 2] (0, 0) _ rfl (by exact heap_alloc_new _ _) hu rfl (by kernel_rfl)) rfl ?_
  exact ⟨_, _, rfl, Kd.C_alloc hB _, by decide, by repeat (first | exact Below.refl _ _ | apply below_alloc)⟩
set_option maxHeartbeats 4000000 in
set_option maxRecDepth 1000000 in
theorem later34 (hB : Kd.C (Kd.int .i64) w (some ⟨gB, 0, none⟩) 2 [1, 2]) : Calls Tryd.prog 101 #[.int .u8 34, .slice (some ⟨gB, 0, none⟩) 2 2, .slice aA 14 cA] w (IsRowOf w (2, [1, 2])) := by
  have hu := Tryd.underlying115
  go_enter Tryd.func101, Tryd.ntmps101
  go_wp2
  refine bodyPost_ret (results_cell_row rfl _ _ w.heap.size 115 #[.int .i64 2, .slice (some ⟨gB, 0, none⟩) 2 2] (0, 0) _ rfl (by exact heap_alloc_new _ _) hu rfl (by kernel_rfl)) rfl ?_
  exact ⟨_, _, rfl, Kd.C_alloc hB _, by decide, by repeat (first | exact Below.refl _ _ | apply below_alloc)⟩
set_option maxHeartbeats 4000000 in
set_option maxRecDepth 1000000 in
theorem later35 : Calls Tryd.prog 101 #[.int .u8 35, .slice (some ⟨gB, 0, none⟩) 2 2, .slice aA 14 cA] w (IsRowOf w (2, [3])) := by
  have hu := Tryd.underlying115
  go_enter Tryd.func101, Tryd.ntmps101
  go_wp2
  refine bodyPost_ret (results_cell_row rfl _ _ w.heap.size 115 #[.int .i64 2, .slice (some ⟨w.heap.size + 1, 0, none⟩) 1 1] (0, 0) _ rfl (by exact heap2_old _ _ _) hu rfl (by kernel_rfl)) rfl ?_
  exact ⟨_, _, rfl, C_lit [3] (heap_alloc2_new _ _ _) (by decide), by decide, by repeat (first | exact Below.refl _ _ | apply below_alloc)⟩
set_option maxHeartbeats 4000000 in
set_option maxRecDepth 1000000 in
theorem later36 (hB : Kd.C (Kd.int .i64) w (some ⟨gB, 0, none⟩) 2 [1, 2]) : Calls Tryd.prog 101 #[.int .u8 36, .slice (some ⟨gB, 0, none⟩) 2 2, .slice aA 14 cA] w (IsRowOf w (1, [2])) := by
  have hu := Tryd.underlying115
  go_enter Tryd.func101, Tryd.ntmps101
  go_wp2
  refine bodyPost_ret (results_cell_row rfl _ _ w.heap.size 115 #[.int .i64 1, .slice (some ⟨gB, 1, none⟩) 1 1] (0, 0) _ rfl (by exact heap_alloc_new _ _) hu rfl (by kernel_rfl)) rfl ?_
  exact ⟨_, _, rfl, Kd.C_alloc (C_drop hB) _, by decide, by repeat (first | exact Below.refl _ _ | apply below_alloc)⟩
set_option maxHeartbeats 4000000 in
set_option maxRecDepth 1000000 in
theorem later37 (hB : Kd.C (Kd.int .i64) w (some ⟨gB, 0, none⟩) 2 [1, 2]) : Calls Tryd.prog 101 #[.int .u8 37, .slice (some ⟨gB, 0, none⟩) 2 2, .slice aA 14 cA] w (IsRowOf w (1, [2])) := by
  have hu := Tryd.underlying115
  go_enter Tryd.func101, Tryd.ntmps101
  go_wp2
  refine bodyPost_ret (results_cell_row rfl _ _ w.heap.size 115 #[.int .i64 1, .slice (some ⟨gB, 1, none⟩) 1 1] (0, 0) _ rfl (by exact heap_alloc_new _ _) hu rfl (by kernel_rfl)) rfl ?_
  exact ⟨_, _, rfl, Kd.C_alloc (C_drop hB) _, by decide, by repeat (first | exact Below.refl _ _ | apply below_alloc)⟩
set_option maxHeartbeats 4000000 in
set_option maxRecDepth 1000000 in
theorem later40 (hB : Kd.C (Kd.int .i64) w (some ⟨gB, 0, none⟩) 2 [1, 2]) : Calls Tryd.prog 101 #[.int .u8 40, .slice (some ⟨gB, 0, none⟩) 2 2, .slice aA 14 cA] w (IsRowOf w (1, [2])) := by
  have hu := Tryd.underlying115
  go_enter Tryd.func101, Tryd.ntmps101
  go_wp2
  refine bodyPost_ret (results_cell_row rfl _ _ w.heap.size 115 #[.int .i64 1, .slice (some ⟨gB, 1, none⟩) 1 1] (0, 0) _ rfl (by exact heap_alloc_new _ _) hu rfl (by kernel_rfl)) rfl ?_
  exact ⟨_, _, rfl, Kd.C_alloc (C_drop hB) _, by decide, by repeat (first | exact Below.refl _ _ | apply below_alloc)⟩
set_option maxHeartbeats 4000000 in
set_option maxRecDepth 1000000 in
theorem later41 (hB : Kd.C (Kd.int .i64) w (some ⟨gB, 0, none⟩) 2 [1, 2]) : Calls Tryd.prog 101 #[.int .u8 41, .slice (some ⟨gB, 0, none⟩) 2 2, .slice aA 14 cA] w (IsRowOf w (1, [2])) := by
  have hu := Tryd.underlying115
  go_enter Tryd.func101, Tryd.ntmps101
  go_wp2
  refine bodyPost_ret (results_cell_row rfl _ _ w.heap.size 115 #[.int .i64 1, .slice (some ⟨gB, 1, none⟩) 1 1] (0, 0) _ rfl (by exact heap_alloc_new _ _) hu rfl (by kernel_rfl)) rfl ?_
  exact ⟨_, _, rfl, Kd.C_alloc (C_drop hB) _, by decide, by repeat (first | exact Below.refl _ _ | apply below_alloc)⟩
set_option maxHeartbeats 4000000 in
set_option maxRecDepth 1000000 in
theorem later42 (hB : Kd.C (Kd.int .i64) w (some ⟨gB, 0, none⟩) 2 [1, 2]) : Calls Tryd.prog 101 #[.int .u8 42, .slice (some ⟨gB, 0, none⟩) 2 2, .slice aA 14 cA] w (IsRowOf w (1, [2])) := by
  have hu := Tryd.underlying115
  go_enter Tryd.func101, Tryd.ntmps101
  go_wp2
  refine bodyPost_ret (results_cell_row rfl _ _ w.heap.size 115 #[.int .i64 1, .slice (some ⟨gB, 1, none⟩) 1 1] (0, 0) _ rfl (by exact heap_alloc_new _ _) hu rfl (by kernel_rfl)) rfl ?_
  exact ⟨_, _, rfl, Kd.C_alloc (C_drop hB) _, by decide, by repeat (first | exact Below.refl _ _ | apply below_alloc)⟩
set_option maxHeartbeats 4000000 in
set_option maxRecDepth 1000000 in
theorem later38 (hA : Kd.C (Kd.int .i64) w aA 14 allL) (hc : 14 ≤ cA) : Calls Tryd.prog 101 #[.int .u8 38, .slice (some ⟨gB, 0, none⟩) 2 2, .slice aA 14 cA] w (IsRowOf w (7, [1, 2, 3, 4, 5, 6, 7, 8, 9, 10, 11, 14, 15, 16])) := by
  have hu := Tryd.underlying115
  go_enter Tryd.func101, Tryd.ntmps101
  go_wp2
  refine bodyPost_ret (results_cell_row rfl _ _ w.heap.size 115 #[.int .i64 7, .slice aA 14 cA] (0, 0) _ rfl (by exact heap_alloc_new _ _) hu rfl (by kernel_rfl)) rfl ?_
  exact ⟨_, _, rfl, Kd.C_alloc hA _, hc, by repeat (first | exact Below.refl _ _ | apply below_alloc)⟩
set_option maxHeartbeats 4000000 in
set_option maxRecDepth 1000000 in
theorem later39 (hB : Kd.C (Kd.int .i64) w (some ⟨gB, 0, none⟩) 2 [1, 2]) : Calls Tryd.prog 101 #[.int .u8 39, .slice (some ⟨gB, 0, none⟩) 2 2, .slice aA 14 cA] w (IsRowOf w (3, [1, 2])) := by
  have hu := Tryd.underlying115
  go_enter Tryd.func101, Tryd.ntmps101
  go_wp2
  refine bodyPost_ret (results_cell_row rfl _ _ w.heap.size 115 #[.int .i64 3, .slice (some ⟨gB, 0, none⟩) 2 2] (0, 0) _ rfl (by exact heap_alloc_new _ _) hu rfl (by kernel_rfl)) rfl ?_
  exact ⟨_, _, rfl, Kd.C_alloc hB _, by decide, by repeat (first | exact Below.refl _ _ | apply below_alloc)⟩
set_option maxHeartbeats 4000000 in
set_option maxRecDepth 1000000 in
theorem later0 (h28 : ¬ id = 28) (h31 : ¬ id = 31) (h33 : ¬ id = 33) (h34 : ¬ id = 34) (h35 : ¬ id = 35) (h36 : ¬ id = 36) (h37 : ¬ id = 37) (h40 : ¬ id = 40) (h41 : ¬ id = 41) (h42 : ¬ id = 42) (h38 : ¬ id = 38) (h39 : ¬ id = 39) : Calls Tryd.prog 101 #[.int .u8 id, .slice (some ⟨gB, 0, none⟩) 2 2, .slice aA 14 cA] w (IsRowOf w (0, [])) := by
  have hu := Tryd.underlying115
  have e28 : (id == 28) = false := beq_eq_false_iff_ne.2 h28
  have e31 : (id == 31) = false := beq_eq_false_iff_ne.2 h31
  have e33 : (id == 33) = false := beq_eq_false_iff_ne.2 h33
  have e34 : (id == 34) = false := beq_eq_false_iff_ne.2 h34
  have e35 : (id == 35) = false := beq_eq_false_iff_ne.2 h35
  have e36 : (id == 36) = false := beq_eq_false_iff_ne.2 h36
  have e37 : (id == 37) = false := beq_eq_false_iff_ne.2 h37
  have e40 : (id == 40) = false := beq_eq_false_iff_ne.2 h40
  have e41 : (id == 41) = false := beq_eq_false_iff_ne.2 h41
  have e42 : (id == 42) = false := beq_eq_false_iff_ne.2 h42
  have e38 : (id == 38) = false := beq_eq_false_iff_ne.2 h38
  have e39 : (id == 39) = false := beq_eq_false_iff_ne.2 h39
  go_enter Tryd.func101, Tryd.ntmps101
  go_wp2
  refine bodyPost_ret (results_cell_row rfl _ _ w.heap.size 115 #[.int .i64 0, .slice none 0 0] (0, 0) _ rfl (by exact heap_alloc_new _ _) hu rfl (by kernel_rfl)) rfl ?_
  exact ⟨_, _, rfl, Kd.C_nil _ _, by decide, by repeat (first | exact Below.refl _ _ | apply below_alloc)⟩
end
theorem prop_laterRow.calls (id : Int) (gB : Nat) (aA : Option Addr) (cA : Nat) (w : World) (hB : Kd.C (Kd.int .i64) w (some ⟨gB, 0, none⟩) 2 [1, 2]) (hA : Kd.C (Kd.int .i64) w aA 14 allL) (hc : 14 ≤ cA) (h1 : ¬ id = 1) (h2 : ¬ id = 2) (h3 : ¬ id = 3) (h8 : ¬ id = 8) (h9 : ¬ id = 9) (h11 : ¬ id = 11) (h17 : ¬ id = 17) (h18 : ¬ id = 18) (h26 : ¬ id = 26) (h19 : ¬ id = 19) (h21 : ¬ id = 21) (h22 : ¬ id = 22) (h23 : ¬ id = 23) (h25 : ¬ id = 25) (h24 : ¬ id = 24) :
    Calls Tryd.prog 101 #[.int .u8 id, .slice (some ⟨gB, 0, none⟩) 2 2, .slice aA 14 cA] w (IsRowOf w (rowB id)) := by
  by_cases h28 : id = 28
  · subst h28; exact later28 _ _ _ _
  by_cases h31 : id = 31
  · subst h31; exact later31 _ _ _ _
  by_cases h33 : id = 33
  · subst h33; exact later33 _ _ _ _ hB
  by_cases h34 : id = 34
  · subst h34; exact later34 _ _ _ _ hB
  by_cases h35 : id = 35
  · subst h35; exact later35 _ _ _ _
  by_cases h36 : id = 36
  · subst h36; exact later36 _ _ _ _ hB
  by_cases h37 : id = 37
  · subst h37; exact later37 _ _ _ _ hB
  by_cases h40 : id = 40
  · subst h40; exact later40 _ _ _ _ hB
  by_cases h41 : id = 41
  · subst h41; exact later41 _ _ _ _ hB
  by_cases h42 : id = 42
  · subst h42; exact later42 _ _ _ _ hB
  by_cases h38 : id = 38
  · subst h38; exact later38 _ _ _ _ hA hc
  by_cases h39 : id = 39
  · subst h39; exact later39 _ _ _ _ hB
  have e : rowB id = (0, []) := by unfold rowB; simp [h1, h2, h3, h8, h9, h11, h17, h18, h26, h19, h21, h22, h23, h25, h24, h28, h31, h33, h34, h35, h36, h37, h40, h41, h42, h38, h39]
  rw [e]
  exact later0 _ _ _ _ _ h28 h31 h33 h34 h35 h36 h37 h40 h41 h42 h38 h39
theorem C_first {w : World} {A : Option Addr} {x : Int} {l : List Int} (h : Kd.C (Kd.int .i64) w A (x :: l).length (x :: l)) : Kd.C (Kd.int .i64) w A 1 [x] := by
  have h2 := Kd.reads_of_C (d := (0 : Int)) h
  refine Kd.C_of_reads (d := (0 : Int)) (h1 := fun _ => rfl) ⟨rfl, by decide, fun hn => ?_⟩
  obtain ⟨ad2, e, hc⟩ := h2.2.2 (by simp)
  refine ⟨ad2, e, fun j hj => ?_⟩
  obtain rfl : j = 0 := by omega
  simpa using hc 0 (by simp)
theorem R_now (W : World) (l : List Int) (hl : l.length ≤ 9223372036854775807) : Kd.R (Kd.int .i64) 3 (W.alloc (.cells (l.map (Value.int .i64)).toArray 3)) W.heap.size (fun _ => True) (.slice (some ⟨W.heap.size, 0, none⟩) l.length l.length) l := by
  refine Kd.R_of_own (enc := Value.int .i64) (h1 := fun _ => rfl) ?_ (fun _ _ => trivial)
  have := World.ownsRow_lit (base := W.heap.size) (e := 3) (size := 1) W (l.map (Value.int .i64)).toArray l.length (Nat.le_refl _) (by simpa [maxLen] using hl) (by simp)
  simpa [encs] using this
def upto (i : Nat) : List Int := allL.filter (· < (i : Int))
theorem upto_next : ∀ i, i < 17 → upto (i + 1) = if i = 0 ∨ i = 12 ∨ i = 13 then upto i else upto i ++ [(i : Int)] := by decide +kernel
theorem upto_len : ∀ i, i < 18 → (upto i).length ≤ 14 := by decide +kernel
theorem C_sets (i1 i2 : Nat) (u1 u2 : Value) {W : World} {g n : Nat} {A : Option Addr} {l : List Int} (h : Kd.C (Kd.int .i64) W A n l) (hA : ∀ ad, A = some ad → 0 < n → ad.block ≠ g) : Kd.C (Kd.int .i64) ((W.setCell ⟨g, i1, none⟩ u1).setCell ⟨g, i2, none⟩ u2) A n l := by
  have h2 := Kd.reads_of_C (d := (0 : Int)) h
  refine Kd.C_of_reads (d := (0 : Int)) (h1 := fun _ => rfl) ⟨h2.1, h2.2.1, fun hn => ?_⟩
  obtain ⟨ad, e, hc⟩ := h2.2.2 hn
  have hne := hA ad e hn
  refine ⟨ad, e, fun i hi => ?_⟩
  have hb : (ad.add i).block = ad.block := by cases i <;> simp [Addr.add]
  rw [World.cell?_setCell_other _ _ _ _ (fun e => hne (by rw [← hb, ← e])), World.cell?_setCell_other _ _ _ _ (fun e => hne (by rw [← hb, ← e]))]
  exact hc i hi
theorem C_ne {W : World} {g n : Nat} {t : TypeId} {A : Option Addr} {l : List Int} (bk : W.heap[g]? = some (.cells #[.int .i64 0, .slice none 0 0] t (0, 0))) (h : Kd.C (Kd.int .i64) W A n l) (h0 : (0 : Int) ∉ l) : ∀ ad, A = some ad → 0 < n → ad.block ≠ g := by
  intro ad e hn hg
  have h2 := Kd.reads_of_C (d := (0 : Int)) h
  obtain ⟨ad2, e2, hc⟩ := h2.2.2 hn
  obtain rfl := Option.some.inj (e.symm.trans e2)
  have h3 := hc 0 hn
  have e0 : ad.add 0 = ad := by simp [Addr.add]
  rw [e0] at h3
  simp only [World.cell?, hg, bk] at h3
  cases l with
  | nil => have := h2.1; simp at this; omega
  | cons x l =>
    match ho : ad.off, h3 with
    | 0, h3 => simp at h3; exact h0 (by simp [h3.2])
    | 1, h3 => simp at h3
    | k + 2, h3 => simp at h3
theorem rowB_len (id : Int) : (rowB id).2.length ≤ 14 := by
  unfold rowB
  by_cases h0 : id = 1
  · rw [if_pos h0]; decide
  rw [if_neg h0]
  by_cases h1 : id = 2
  · rw [if_pos h1]; decide
  rw [if_neg h1]
  by_cases h2 : id = 3 ∨ id = 8
  · rw [if_pos h2]; decide
  rw [if_neg h2]
  by_cases h3 : id = 9
  · rw [if_pos h3]; decide
  rw [if_neg h3]
  by_cases h4 : id = 11
  · rw [if_pos h4]; decide
  rw [if_neg h4]
  by_cases h5 : id = 17
  · rw [if_pos h5]; decide
  rw [if_neg h5]
  by_cases h6 : id = 18 ∨ id = 26
  · rw [if_pos h6]; decide
  rw [if_neg h6]
  by_cases h7 : id = 19
  · rw [if_pos h7]; decide
  rw [if_neg h7]
  by_cases h8 : id = 21
  · rw [if_pos h8]; decide
  rw [if_neg h8]
  by_cases h9 : id = 22
  · rw [if_pos h9]; decide
  rw [if_neg h9]
  by_cases h10 : id = 23 ∨ id = 25
  · rw [if_pos h10]; decide
  rw [if_neg h10]
  by_cases h11 : id = 24
  · rw [if_pos h11]; decide
  rw [if_neg h11]
  by_cases h12 : id = 28
  · rw [if_pos h12]; decide
  rw [if_neg h12]
  by_cases h13 : id = 31
  · rw [if_pos h13]; decide
  rw [if_neg h13]
  by_cases h14 : id = 33 ∨ id = 34
  · rw [if_pos h14]; decide
  rw [if_neg h14]
  by_cases h15 : id = 35
  · rw [if_pos h15]; decide
  rw [if_neg h15]
  by_cases h16 : id = 36 ∨ id = 37 ∨ id = 40 ∨ id = 41 ∨ id = 42
  · rw [if_pos h16]; decide
  rw [if_neg h16]
  by_cases h17 : id = 38
  · rw [if_pos h17]; decide
  rw [if_neg h17]
  by_cases h18 : id = 39
  · rw [if_pos h18]; decide
  rw [if_neg h18]
  decide
theorem rowB_zero (id : Int) : (0 : Int) ∉ (rowB id).2 := by
  unfold rowB
  by_cases h0 : id = 1
  · rw [if_pos h0]; decide
  rw [if_neg h0]
  by_cases h1 : id = 2
  · rw [if_pos h1]; decide
  rw [if_neg h1]
  by_cases h2 : id = 3 ∨ id = 8
  · rw [if_pos h2]; decide
  rw [if_neg h2]
  by_cases h3 : id = 9
  · rw [if_pos h3]; decide
  rw [if_neg h3]
  by_cases h4 : id = 11
  · rw [if_pos h4]; decide
  rw [if_neg h4]
  by_cases h5 : id = 17
  · rw [if_pos h5]; decide
  rw [if_neg h5]
  by_cases h6 : id = 18 ∨ id = 26
  · rw [if_pos h6]; decide
  rw [if_neg h6]
  by_cases h7 : id = 19
  · rw [if_pos h7]; decide
  rw [if_neg h7]
  by_cases h8 : id = 21
  · rw [if_pos h8]; decide
  rw [if_neg h8]
  by_cases h9 : id = 22
  · rw [if_pos h9]; decide
  rw [if_neg h9]
  by_cases h10 : id = 23 ∨ id = 25
  · rw [if_pos h10]; decide
  rw [if_neg h10]
  by_cases h11 : id = 24
  · rw [if_pos h11]; decide
  rw [if_neg h11]
  by_cases h12 : id = 28
  · rw [if_pos h12]; decide
  rw [if_neg h12]
  by_cases h13 : id = 31
  · rw [if_pos h13]; decide
  rw [if_neg h13]
  by_cases h14 : id = 33 ∨ id = 34
  · rw [if_pos h14]; decide
  rw [if_neg h14]
  by_cases h15 : id = 35
  · rw [if_pos h15]; decide
  rw [if_neg h15]
  by_cases h16 : id = 36 ∨ id = 37 ∨ id = 40 ∨ id = 41 ∨ id = 42
  · rw [if_pos h16]; decide
  rw [if_neg h16]
  by_cases h17 : id = 38
  · rw [if_pos h17]; decide
  rw [if_neg h17]
  by_cases h18 : id = 39
  · rw [if_pos h18]; decide
  rw [if_neg h18]
  decide
theorem IsRowOf.fin {w W : World} {id : Int} {r : Int × List Int} {A : Option Addr} {c : Nat} (e : rowB id = r) (hc : Kd.C (Kd.int .i64) W A r.2.length r.2) (hl : r.2.length ≤ c) (hb : Below w.heap.size w W) : IsRowOf w (rowB id) (.returned (.agg #[.int .i64 r.1, .slice A r.2.length c])) W := by
  rw [e]; exact ⟨A, c, rfl, hc, hl, hb⟩
structure RowW (w W : World) (v5 : Value) : Prop where
  res : W.heap[w.heap.size]? = some (.cells #[.int .i64 0, .slice none 0 0] 115 (0, 0))
  msg : Kd.C (Kd.int .i64) W (some ⟨w.heap.size + 1, 0, none⟩) 2 [3, 16]
  both : Kd.C (Kd.int .i64) W (some ⟨w.heap.size + 1 + 1, 0, none⟩) 2 [1, 2]
  own : Kd.R (Kd.int .i64) 3 W w.heap.size (fun k => k ≠ w.heap.size) (.slice (some ⟨w.heap.size + 1 + 1, 0, none⟩) 2 2) [1, 2]
  all : Kd.R (Kd.int .i64) 3 W w.heap.size (fun k => k ≠ w.heap.size) v5 allL
  below : Below w.heap.size w W
theorem RowW.start (w W : World) (v5 : Value) (hb : Below (w.heap.size + 1 + 1 + 1) (((w.alloc (.cells #[.int .i64 0, .slice none 0 0] 115)).alloc (.cells #[.int .i64 3, .int .i64 16] 3)).alloc (.cells #[.int .i64 1, .int .i64 2] 3)) W)
    (hr : Kd.R (Kd.int .i64) 3 W (w.heap.size + 1 + 1 + 1) (fun _ => True) v5 allL) : RowW w W v5 := by
  have s3 : (((w.alloc (.cells #[.int .i64 0, .slice none 0 0] 115)).alloc (.cells #[.int .i64 3, .int .i64 16] 3)).alloc (.cells #[.int .i64 1, .int .i64 2] 3)).heap.size = w.heap.size + 1 + 1 + 1 := by
    show (((w.heap.push _).push _).push _).size = _
    simp
  have hb' : Below (((w.alloc (.cells #[.int .i64 0, .slice none 0 0] 115)).alloc (.cells #[.int .i64 3, .int .i64 16] 3)).alloc (.cells #[.int .i64 1, .int .i64 2] 3)).heap.size (((w.alloc (.cells #[.int .i64 0, .slice none 0 0] 115)).alloc (.cells #[.int .i64 3, .int .i64 16] 3)).alloc (.cells #[.int .i64 1, .int .i64 2] 3)) W := by rw [s3]; exact hb
  have own := R_now ((w.alloc (.cells #[.int .i64 0, .slice none 0 0] 115)).alloc (.cells #[.int .i64 3, .int .i64 16] 3)) [1, 2] (by decide)
  have s2 : ((w.alloc (.cells #[.int .i64 0, .slice none 0 0] 115)).alloc (.cells #[.int .i64 3, .int .i64 16] 3)).heap.size = w.heap.size + 1 + 1 := by
    show ((w.heap.push _).push _).size = _
    simp
  rw [s2] at own
  refine ⟨?_, ?_, ?_, ?_, ?_, ?_⟩
  · rw [hb'.block _ (by rw [s3]; omega)]
    show (((w.heap.push _).push _).push _)[w.heap.size]? = _
    rw [Array.getElem?_push, if_neg (by simp; omega), Array.getElem?_push, if_neg (by simp), Array.getElem?_push, if_pos rfl]
  · refine C_lit [3, 16] (fr := (0, 0)) (t := 3) ?_ (by decide)
    rw [hb'.block _ (by rw [s3]; omega)]
    show (((w.heap.push _).push _).push _)[w.heap.size + 1]? = _
    rw [Array.getElem?_push, if_neg (by simp), Array.getElem?_push, if_pos (by simp)]; rfl
  · refine C_lit [1, 2] (fr := (0, 0)) (t := 3) ?_ (by decide)
    rw [hb'.block _ (by rw [s3]; omega)]
    show (((w.heap.push _).push _).push _)[w.heap.size + 1 + 1]? = _
    rw [Array.getElem?_push, if_pos (by simp)]; rfl
  · refine Kd.R_mono (Kd.R_lower (Kd.R_bound (Kd.R_below own hb')) (by omega)) (fun k hk => ?_)
    have := hk.2.1
    omega
  · refine Kd.R_mono (Kd.R_lower (Kd.R_bound hr) (by omega)) (fun k hk => ?_)
    have := hk.2.1
    omega
  · refine Below.trans (below_alloc (below_alloc (below_alloc (Below.refl _ _) _) _) _) ⟨hb'.os, hb'.tape, hb'.output, hb'.size, fun j hj => hb'.block j (by rw [s3]; omega)⟩
set_option maxHeartbeats 40000000 in
set_option maxRecDepth 1000000 in
theorem prop_rowOf.calls (id : Int) (w : World) : Calls Tryd.prog 85 #[.int .u8 id] w (IsRowOf w (rowB id)) := by
  have hu := Tryd.underlying115
  go_enter Tryd.func85, Tryd.ntmps85
  go_wp2
  have s3 : (((w.alloc (.cells #[.int .i64 0, .slice none 0 0] 115)).alloc (.cells #[.int .i64 3, .int .i64 16] 3)).alloc (.cells #[.int .i64 1, .int .i64 2] 3)).heap.size = w.heap.size + 1 + 1 + 1 := by
    show (((w.heap.push _).push _).push _).size = _
    simp
  have start := R_now (((w.alloc (.cells #[.int .i64 0, .slice none 0 0] 115)).alloc (.cells #[.int .i64 3, .int .i64 16] 3)).alloc (.cells #[.int .i64 1, .int .i64 2] 3)) [] (by decide)
  rw [s3] at start
  have sB : Below (w.heap.size + 1 + 1 + 1) (((w.alloc (.cells #[.int .i64 0, .slice none 0 0] 115)).alloc (.cells #[.int .i64 3, .int .i64 16] 3)).alloc (.cells #[.int .i64 1, .int .i64 2] 3)) ((((w.alloc (.cells #[.int .i64 0, .slice none 0 0] 115)).alloc (.cells #[.int .i64 3, .int .i64 16] 3)).alloc (.cells #[.int .i64 1, .int .i64 2] 3)).alloc (.cells #[] 3)) := by
    have := below_alloc (Below.refl _ (((w.alloc (.cells #[.int .i64 0, .slice none 0 0] 115)).alloc (.cells #[.int .i64 3, .int .i64 16] 3)).alloc (.cells #[.int .i64 1, .int .i64 2] 3))) (.cells #[] 3)
    rw [s3] at this
    exact this
  have HS := Aside0.mk start
  have HSB := Aside0.mk sB
  have S3 := Aside0.mk s3
  clear start sB s3
  go_loopg [5, 6] 17 (fun g v5 v6 wr => ∃ (i : Nat), v6 = .int .i64 (i : Int) ∧ 1 ≤ i ∧ i ≤ 17 ∧ i + g = 18 ∧ Aside0 (Kd.R (Kd.int .i64) 3 wr (w.heap.size + 1 + 1 + 1) (fun _ => True) v5 (upto i)) ∧ Aside0 (Below (w.heap.size + 1 + 1 + 1) (((w.alloc (.cells #[.int .i64 0, .slice none 0 0] 115)).alloc (.cells #[.int .i64 3, .int .i64 16] 3)).alloc (.cells #[.int .i64 1, .int .i64 2] 3)) wr))
  case atStart => exact ⟨1, rfl, Nat.le_refl 1, by decide, rfl, HS, HSB⟩
  case round =>
    clear HS HSB
    obtain ⟨i, rfl, h1, h17, hg, HR, HB⟩ := hrel
    cases gk with
    | zero => omega
    | succ g =>
    by_cases hi : i ≤ 16
    · have b0 : decide ((i : Int) ≤ 16) = true := decide_eq_true (by omega)
      have hn := upto_next i (by omega)
      have hl := upto_len i (by omega)
      have hw : IntKind.i64.wrap ((i : Int) + 1) = ((i + 1 : Nat) : Int) := by rw [show IntKind.i64.wrap ((i : Int) + 1) = wrap64 ((i : Int) + 1) from (i64_w _)]; unfold wrap64; omega
      by_cases h12 : i = 12 ∨ i = 13
      · rw [if_pos (by omega)] at hn
        have HR' := Aside0.mk (hn ▸ HR.out)
        clear HR hn hl
        rcases h12 with rfl | rfl
        all_goals
          go_wp2
          go_roundg g
          case measure => omega
          case rel => first | exact ⟨12 + 1, rfl, by omega, by omega, by omega, HR', HB⟩ | exact ⟨13 + 1, rfl, by omega, by omega, by omega, HR', HB⟩
      · rw [if_neg (by omega)] at hn
        have c12 : ((i : Int) != 12) = true := bne_iff_ne.2 (by omega)
        have c13 : ((i : Int) != 13) = true := bne_iff_ne.2 (by omega)
        have HN := Aside0.mk hn
        have HL := Aside0.mk hl
        clear hn hl
        go_wp2_with (first | ((with_reducible refine gate_builtin (b := .append) (xs := #[.tmp 20, .tmp 22]) rfl ?_); at_builtin; refine Kd.R_append (Kd.int .i64) (w0 := (((w.alloc (.cells #[.int .i64 0, .slice none 0 0] 115)).alloc (.cells #[.int .i64 3, .int .i64 16] 3)).alloc (.cells #[.int .i64 1, .int .i64 2] 3))) (w.heap.size + 1 + 1 + 1) rfl (.tmp 20) (.tmp 22) 54 3 (.int .i64 0) 8 rfl Tryd.underlying54 (by kernel_rfl) rfl (by decide) (by omega) u5 (upto i) (i : Int) [.int .i64 (i : Int)] (fun _ => True) (fun _ => False) rfl rfl rfl (fun _ hk => hk.elim) (fun _ _ => trivial) HR.out HB.out ?aS ?aL ?_; (case aS => have h9_ := HB.out.size; rw [S3.out] at h9_; exact h9_); (case aL => have := HL.out; omega); intro v9 w9 ho hb hgr hat; rw [← HN.out] at ho; have n0_ := Aside0.mk hb; have n1_ := Aside0.mk ho; clear HB HR; have HB := n0_; have HR := n1_; clear n0_ n1_; clear ho hb hgr hat))
        go_roundg g
        case measure => omega
        case rel => exact ⟨i + 1, rfl, by omega, by omega, by omega, HR, HB⟩
    · obtain rfl : i = 17 := by omega
      have hall : upto 17 = allL := by decide +kernel
      have RW := RowW.start w _ _ HB.out (hall ▸ HR.out)
      clear HR HB hall
      have BK := Aside0.mk RW.res
      have hz0 := blk_cell BK.out 0
      have hz1 := blk_cell BK.out 1
      have hf0 := blk_frozen BK.out 0
      have hf1 := blk_frozen BK.out 1
      simp at hz0 hz1
      have HM := Aside0.mk RW.msg
      have HBo := Aside0.mk RW.both
      have HO := Aside0.mk RW.own
      have HA := Aside0.mk RW.all
      have HW := Aside0.mk RW.below
      clear RW
      by_cases h1 : id = 1
      · subst h1
        go_wp2
        refine bodyPost_ret (results_cell_row rfl _ _ w.heap.size 115 #[.int .i64 1, .slice (some ⟨w.heap.size + 1, 0, none⟩) 2 2] (0, 0) _ rfl (blk_put (cs := #[.int .i64 1, .slice none 0 0]) (blk_put (cs := #[.int .i64 0, .slice none 0 0]) BK.out 0 _ rfl) 1 _ rfl) hu rfl (by kernel_rfl)) rfl ?_
        exact IsRowOf.fin (r := (1, [3, 16])) (by decide) (C_sets 0 1 _ _ HM.out (by rintro ad h9_ _; cases h9_; show w.heap.size + 1 ≠ w.heap.size; omega)) (by decide) (below_set (below_set HW.out (Nat.le_refl _)) (Nat.le_refl _))
      by_cases h2 : id = 2
      · subst h2
        go_wp2
        refine bodyPost_ret (results_cell_row rfl _ _ w.heap.size 115 #[.int .i64 3, .slice (some ⟨w.heap.size + 1, 0, none⟩) 2 2] (0, 0) _ rfl (blk_put (cs := #[.int .i64 3, .slice none 0 0]) (blk_put (cs := #[.int .i64 0, .slice none 0 0]) BK.out 0 _ rfl) 1 _ rfl) hu rfl (by kernel_rfl)) rfl ?_
        exact IsRowOf.fin (r := (3, [3, 16])) (by decide) (C_sets 0 1 _ _ HM.out (by rintro ad h9_ _; cases h9_; show w.heap.size + 1 ≠ w.heap.size; omega)) (by decide) (below_set (below_set HW.out (Nat.le_refl _)) (Nat.le_refl _))
      by_cases h3 : id = 3
      · subst h3
        go_wp2
        refine bodyPost_ret (results_cell_row rfl _ _ w.heap.size 115 #[.int .i64 5, .slice (some ⟨w.heap.size + 1, 0, none⟩) 2 2] (0, 0) _ rfl (blk_put (cs := #[.int .i64 5, .slice none 0 0]) (blk_put (cs := #[.int .i64 0, .slice none 0 0]) BK.out 0 _ rfl) 1 _ rfl) hu rfl (by kernel_rfl)) rfl ?_
        exact IsRowOf.fin (r := (5, [3, 16])) (by decide) (C_sets 0 1 _ _ HM.out (by rintro ad h9_ _; cases h9_; show w.heap.size + 1 ≠ w.heap.size; omega)) (by decide) (below_set (below_set HW.out (Nat.le_refl _)) (Nat.le_refl _))
      by_cases h8 : id = 8
      · subst h8
        go_wp2
        refine bodyPost_ret (results_cell_row rfl _ _ w.heap.size 115 #[.int .i64 5, .slice (some ⟨w.heap.size + 1, 0, none⟩) 2 2] (0, 0) _ rfl (blk_put (cs := #[.int .i64 5, .slice none 0 0]) (blk_put (cs := #[.int .i64 0, .slice none 0 0]) BK.out 0 _ rfl) 1 _ rfl) hu rfl (by kernel_rfl)) rfl ?_
        exact IsRowOf.fin (r := (5, [3, 16])) (by decide) (C_sets 0 1 _ _ HM.out (by rintro ad h9_ _; cases h9_; show w.heap.size + 1 ≠ w.heap.size; omega)) (by decide) (below_set (below_set HW.out (Nat.le_refl _)) (Nat.le_refl _))
      by_cases h9 : id = 9
      · subst h9
        go_wp2
        refine bodyPost_ret (results_cell_row rfl _ _ w.heap.size 115 #[.int .i64 6, .slice (some ⟨w.heap.size + 1, 0, none⟩) 2 2] (0, 0) _ rfl (blk_put (cs := #[.int .i64 6, .slice none 0 0]) (blk_put (cs := #[.int .i64 0, .slice none 0 0]) BK.out 0 _ rfl) 1 _ rfl) hu rfl (by kernel_rfl)) rfl ?_
        exact IsRowOf.fin (r := (6, [3, 16])) (by decide) (C_sets 0 1 _ _ HM.out (by rintro ad h9_ _; cases h9_; show w.heap.size + 1 ≠ w.heap.size; omega)) (by decide) (below_set (below_set HW.out (Nat.le_refl _)) (Nat.le_refl _))
      by_cases h11 : id = 11
      · subst h11
        clear hz0 hz1 hf0 hf1
        go_wp2_with ((with_reducible refine gate_dst (N := 44) rfl ?_); refine Kd.R_lit (Kd.int .i64) _ 3 ?hg (N := 44) ?hd (xs := ([3, 8] : List Int)) (inner := [.int .i64 3, .int .i64 8]) (ok := fun _ => True) (okp := fun _ => True) ?hr ?hp (fun _ hk => hk) trivial (Below.refl _ _) (Nat.le_refl _) (by simp) ?_; (case hd => rfl); (case hg => rfl); (case hr => first | (go_simp; done) | (go_simp; rfl)); (case hp => exact (Reps.one (show Kd.M (Kd.int .i64) _ _ _ 3 [.int .i64 3] from rfl) (Reps.one (show Kd.M (Kd.int .i64) _ _ _ 8 [.int .i64 8] from rfl) (Reps.none _ _)))); intro v9 w9 ho hb hg_ hnew_; have bk9 := blk_below BK.out hb; have hw9 := Below.trans HW.out ⟨hb.os, hb.tape, hb.output, hb.size, fun j hj => hb.block j (by have := HW.out.size; omega)⟩; have ho9 := Kd.R_mono (Kd.R_bound ho) (ok' := fun k => k ≠ w.heap.size) (fun k hk => by have := hk.2.1; have := blk_lt BK.out; omega); clear ho hnew_; obtain ⟨A9, c9, rfl⟩ := Kd.R_slice ho9; have HO9 := Aside0.mk ho9; have HW9 := Aside0.mk hw9; clear hb hg_ ho9 hw9; have BK9 := Aside0.mk bk9; have hz0 := blk_cell BK9.out 0; have hz1 := blk_cell BK9.out 1; have hf0 := blk_frozen BK9.out 0; have hf1 := blk_frozen BK9.out 1; simp at hz0 hz1; clear bk9)
        obtain ⟨A9', c9', e9, hl9, hc9⟩ := Kd.R_reads (Kd.R_far (p := ⟨w.heap.size, 1, none⟩) (Kd.R_far (p := ⟨w.heap.size, 0, none⟩) HO9.out (fun _ hk => hk) (.int .i64 4)) (fun _ hk => hk) (.slice A9 ([3, 8] : List Int).length c9))
        cases e9
        refine bodyPost_ret (results_cell_row rfl _ _ w.heap.size 115 #[.int .i64 4, .slice A9 ([3, 8] : List Int).length c9] (0, 0) _ rfl (blk_put (cs := #[.int .i64 4, .slice none 0 0]) (blk_put (cs := #[.int .i64 0, .slice none 0 0]) BK9.out 0 _ rfl) 1 _ rfl) hu rfl (by kernel_rfl)) rfl ?_
        exact IsRowOf.fin (r := (4, [3, 8])) (by decide) (hc9) (hl9) (below_set (below_set HW9.out (Nat.le_refl _)) (Nat.le_refl _))
      by_cases h17 : id = 17
      · subst h17
        clear hz0 hz1 hf0 hf1
        go_wp2_with ((with_reducible refine gate_builtin (b := .append) (xs := #[.tmp 48, .tmp 49]) rfl ?_); at_builtin; refine Kd.R_append (Kd.int .i64) (w0 := w) w.heap.size rfl (.tmp 48) (.tmp 49) 54 3 (.int .i64 0) 8 rfl Tryd.underlying54 (by kernel_rfl) rfl (by decide) (by omega) (.slice (some ⟨w.heap.size + 1 + 1, 0, none⟩) 2 2) [1, 2] 14 [.int .i64 14] (fun k => k ≠ w.heap.size) (fun _ => False) rfl rfl rfl (fun _ hk => hk.elim) ?aF HO.out HW.out HW.out.size (by decide) ?_; (case aF => intro k hk; have := blk_lt BK.out; omega); intro v9 w9 ho hb hgr hat; have bk9 := blk_grown BK.out hgr (by simp [Value.ownBlock]; omega); clear hat; obtain ⟨A9, c9, rfl⟩ := Kd.R_slice ho; have HO9 := Aside0.mk ho; have HW9 := Aside0.mk hb; clear ho hb hgr; have BK9 := Aside0.mk bk9; have hz0 := blk_cell BK9.out 0; have hz1 := blk_cell BK9.out 1; have hf0 := blk_frozen BK9.out 0; have hf1 := blk_frozen BK9.out 1; simp at hz0 hz1; clear bk9)
        obtain ⟨A9', c9', e9, hl9, hc9⟩ := Kd.R_reads (Kd.R_far (p := ⟨w.heap.size, 1, none⟩) (Kd.R_far (p := ⟨w.heap.size, 0, none⟩) HO9.out (fun _ hk => hk) (.int .i64 3)) (fun _ hk => hk) (.slice A9 ([1, 2] ++ [14] : List Int).length c9))
        cases e9
        refine bodyPost_ret (results_cell_row rfl _ _ w.heap.size 115 #[.int .i64 3, .slice A9 ([1, 2] ++ [14] : List Int).length c9] (0, 0) _ rfl (blk_put (cs := #[.int .i64 3, .slice none 0 0]) (blk_put (cs := #[.int .i64 0, .slice none 0 0]) BK9.out 0 _ rfl) 1 _ rfl) hu rfl (by kernel_rfl)) rfl ?_
        exact IsRowOf.fin (r := (3, [1, 2, 14])) (by decide) (hc9) (hl9) (below_set (below_set HW9.out (Nat.le_refl _)) (Nat.le_refl _))
      by_cases h18 : id = 18
      · subst h18
        go_wp2
        refine bodyPost_ret (results_cell_row rfl _ _ w.heap.size 115 #[.int .i64 5, .slice (some ⟨w.heap.size + 1 + 1, 1, none⟩) 1 1] (0, 0) _ rfl (blk_put (cs := #[.int .i64 5, .slice none 0 0]) (blk_put (cs := #[.int .i64 0, .slice none 0 0]) BK.out 0 _ rfl) 1 _ rfl) hu rfl (by kernel_rfl)) rfl ?_
        exact IsRowOf.fin (r := (5, [2])) (by decide) (C_sets 0 1 _ _ (C_drop HBo.out) (by rintro ad h9_ _; cases h9_; show w.heap.size + 1 + 1 ≠ w.heap.size; omega)) (by decide) (below_set (below_set HW.out (Nat.le_refl _)) (Nat.le_refl _))
      by_cases h26 : id = 26
      · subst h26
        go_wp2
        refine bodyPost_ret (results_cell_row rfl _ _ w.heap.size 115 #[.int .i64 5, .slice (some ⟨w.heap.size + 1 + 1, 1, none⟩) 1 1] (0, 0) _ rfl (blk_put (cs := #[.int .i64 5, .slice none 0 0]) (blk_put (cs := #[.int .i64 0, .slice none 0 0]) BK.out 0 _ rfl) 1 _ rfl) hu rfl (by kernel_rfl)) rfl ?_
        exact IsRowOf.fin (r := (5, [2])) (by decide) (C_sets 0 1 _ _ (C_drop HBo.out) (by rintro ad h9_ _; cases h9_; show w.heap.size + 1 + 1 ≠ w.heap.size; omega)) (by decide) (below_set (below_set HW.out (Nat.le_refl _)) (Nat.le_refl _))
      by_cases h19 : id = 19
      · subst h19
        go_wp2
        refine bodyPost_ret (results_cell_row rfl _ _ w.heap.size 115 #[.int .i64 2, .slice (some ⟨w.heap.size + 1 + 1, 1, none⟩) 1 1] (0, 0) _ rfl (blk_put (cs := #[.int .i64 2, .slice none 0 0]) (blk_put (cs := #[.int .i64 0, .slice none 0 0]) BK.out 0 _ rfl) 1 _ rfl) hu rfl (by kernel_rfl)) rfl ?_
        exact IsRowOf.fin (r := (2, [2])) (by decide) (C_sets 0 1 _ _ (C_drop HBo.out) (by rintro ad h9_ _; cases h9_; show w.heap.size + 1 + 1 ≠ w.heap.size; omega)) (by decide) (below_set (below_set HW.out (Nat.le_refl _)) (Nat.le_refl _))
      by_cases h21 : id = 21
      · subst h21
        clear hz0 hz1 hf0 hf1
        go_wp2_with ((with_reducible refine gate_builtin (b := .append) (xs := #[.tmp 65, .tmp 66]) rfl ?_); at_builtin; refine Kd.R_append (Kd.int .i64) (w0 := w) w.heap.size rfl (.tmp 65) (.tmp 66) 54 3 (.int .i64 0) 8 rfl Tryd.underlying54 (by kernel_rfl) rfl (by decide) (by omega) (.slice (some ⟨w.heap.size + 1 + 1, 0, none⟩) 2 2) [1, 2] 15 [.int .i64 15] (fun k => k ≠ w.heap.size) (fun _ => False) rfl rfl rfl (fun _ hk => hk.elim) ?aF HO.out HW.out HW.out.size (by decide) ?_; (case aF => intro k hk; have := blk_lt BK.out; omega); intro v9 w9 ho hb hgr hat; have bk9 := blk_grown BK.out hgr (by simp [Value.ownBlock]; omega); clear hat; obtain ⟨A9, c9, rfl⟩ := Kd.R_slice ho; have HO9 := Aside0.mk ho; have HW9 := Aside0.mk hb; clear ho hb hgr; have BK9 := Aside0.mk bk9; have hz0 := blk_cell BK9.out 0; have hz1 := blk_cell BK9.out 1; have hf0 := blk_frozen BK9.out 0; have hf1 := blk_frozen BK9.out 1; simp at hz0 hz1; clear bk9)
        obtain ⟨A9', c9', e9, hl9, hc9⟩ := Kd.R_reads (Kd.R_far (p := ⟨w.heap.size, 1, none⟩) (Kd.R_far (p := ⟨w.heap.size, 0, none⟩) HO9.out (fun _ hk => hk) (.int .i64 5)) (fun _ hk => hk) (.slice A9 ([1, 2] ++ [15] : List Int).length c9))
        cases e9
        refine bodyPost_ret (results_cell_row rfl _ _ w.heap.size 115 #[.int .i64 5, .slice A9 ([1, 2] ++ [15] : List Int).length c9] (0, 0) _ rfl (blk_put (cs := #[.int .i64 5, .slice none 0 0]) (blk_put (cs := #[.int .i64 0, .slice none 0 0]) BK9.out 0 _ rfl) 1 _ rfl) hu rfl (by kernel_rfl)) rfl ?_
        exact IsRowOf.fin (r := (5, [1, 2, 15])) (by decide) (hc9) (hl9) (below_set (below_set HW9.out (Nat.le_refl _)) (Nat.le_refl _))
      by_cases h22 : id = 22
      · subst h22
        clear hz0 hz1 hf0 hf1
        go_wp2_with ((with_reducible refine gate_builtin (b := .append) (xs := #[.tmp 71, .tmp 72]) rfl ?_); at_builtin; refine Kd.R_append (Kd.int .i64) (w0 := w) w.heap.size rfl (.tmp 71) (.tmp 72) 54 3 (.int .i64 0) 8 rfl Tryd.underlying54 (by kernel_rfl) rfl (by decide) (by omega) (.slice (some ⟨w.heap.size + 1 + 1, 0, none⟩) 2 2) [1, 2] 15 [.int .i64 15] (fun k => k ≠ w.heap.size) (fun _ => False) rfl rfl rfl (fun _ hk => hk.elim) ?aF HO.out HW.out HW.out.size (by decide) ?_; (case aF => intro k hk; have := blk_lt BK.out; omega); intro v9 w9 ho hb hgr hat; have bk9 := blk_grown BK.out hgr (by simp [Value.ownBlock]; omega); clear hat; obtain ⟨A9, c9, rfl⟩ := Kd.R_slice ho; have HO9 := Aside0.mk ho; have HW9 := Aside0.mk hb; clear ho hb hgr; have BK9 := Aside0.mk bk9; have hz0 := blk_cell BK9.out 0; have hz1 := blk_cell BK9.out 1; have hf0 := blk_frozen BK9.out 0; have hf1 := blk_frozen BK9.out 1; simp at hz0 hz1; clear bk9)
        obtain ⟨A9', c9', e9, hl9, hc9⟩ := Kd.R_reads (Kd.R_far (p := ⟨w.heap.size, 1, none⟩) (Kd.R_far (p := ⟨w.heap.size, 0, none⟩) HO9.out (fun _ hk => hk) (.int .i64 6)) (fun _ hk => hk) (.slice A9 ([1, 2] ++ [15] : List Int).length c9))
        cases e9
        refine bodyPost_ret (results_cell_row rfl _ _ w.heap.size 115 #[.int .i64 6, .slice A9 ([1, 2] ++ [15] : List Int).length c9] (0, 0) _ rfl (blk_put (cs := #[.int .i64 6, .slice none 0 0]) (blk_put (cs := #[.int .i64 0, .slice none 0 0]) BK9.out 0 _ rfl) 1 _ rfl) hu rfl (by kernel_rfl)) rfl ?_
        exact IsRowOf.fin (r := (6, [1, 2, 15])) (by decide) (hc9) (hl9) (below_set (below_set HW9.out (Nat.le_refl _)) (Nat.le_refl _))
      by_cases h23 : id = 23
      · subst h23
        go_wp2
        refine bodyPost_ret (results_cell_row rfl _ _ w.heap.size 115 #[.int .i64 1, .slice (some ⟨w.heap.size + 1 + 1, 0, none⟩) 1 2] (0, 0) _ rfl (blk_put (cs := #[.int .i64 1, .slice none 0 0]) (blk_put (cs := #[.int .i64 0, .slice none 0 0]) BK.out 0 _ rfl) 1 _ rfl) hu rfl (by kernel_rfl)) rfl ?_
        exact IsRowOf.fin (r := (1, [1])) (by decide) (C_sets 0 1 _ _ (C_first HBo.out) (by rintro ad h9_ _; cases h9_; show w.heap.size + 1 + 1 ≠ w.heap.size; omega)) (by decide) (below_set (below_set HW.out (Nat.le_refl _)) (Nat.le_refl _))
      by_cases h25 : id = 25
      · subst h25
        go_wp2
        refine bodyPost_ret (results_cell_row rfl _ _ w.heap.size 115 #[.int .i64 1, .slice (some ⟨w.heap.size + 1 + 1, 0, none⟩) 1 2] (0, 0) _ rfl (blk_put (cs := #[.int .i64 1, .slice none 0 0]) (blk_put (cs := #[.int .i64 0, .slice none 0 0]) BK.out 0 _ rfl) 1 _ rfl) hu rfl (by kernel_rfl)) rfl ?_
        exact IsRowOf.fin (r := (1, [1])) (by decide) (C_sets 0 1 _ _ (C_first HBo.out) (by rintro ad h9_ _; cases h9_; show w.heap.size + 1 + 1 ≠ w.heap.size; omega)) (by decide) (below_set (below_set HW.out (Nat.le_refl _)) (Nat.le_refl _))
      by_cases h24 : id = 24
      · subst h24
        go_wp2
        refine bodyPost_ret (results_cell_row rfl _ _ w.heap.size 115 #[.int .i64 3, .slice (some ⟨w.heap.size + 1, 1, none⟩) 1 1] (0, 0) _ rfl (blk_put (cs := #[.int .i64 3, .slice none 0 0]) (blk_put (cs := #[.int .i64 0, .slice none 0 0]) BK.out 0 _ rfl) 1 _ rfl) hu rfl (by kernel_rfl)) rfl ?_
        exact IsRowOf.fin (r := (3, [16])) (by decide) (C_sets 0 1 _ _ (C_drop HM.out) (by rintro ad h9_ _; cases h9_; show w.heap.size + 1 ≠ w.heap.size; omega)) (by decide) (below_set (below_set HW.out (Nat.le_refl _)) (Nat.le_refl _))
      obtain ⟨A5, c5, rfl, hl5, hc5⟩ := Kd.R_reads HA.out
      have HL5 := Aside0.mk hl5
      have HC5 := Aside0.mk hc5
      clear hl5 hc5 hz0 hz1 hf0 hf1
      have e1 : (id == 1) = false := beq_eq_false_iff_ne.2 h1
      have e2 : (id == 2) = false := beq_eq_false_iff_ne.2 h2
      have e3 : (id == 3) = false := beq_eq_false_iff_ne.2 h3
      have e8 : (id == 8) = false := beq_eq_false_iff_ne.2 h8
      have e9 : (id == 9) = false := beq_eq_false_iff_ne.2 h9
      have e11 : (id == 11) = false := beq_eq_false_iff_ne.2 h11
      have e17 : (id == 17) = false := beq_eq_false_iff_ne.2 h17
      have e18 : (id == 18) = false := beq_eq_false_iff_ne.2 h18
      have e26 : (id == 26) = false := beq_eq_false_iff_ne.2 h26
      have e19 : (id == 19) = false := beq_eq_false_iff_ne.2 h19
      have e21 : (id == 21) = false := beq_eq_false_iff_ne.2 h21
      have e22 : (id == 22) = false := beq_eq_false_iff_ne.2 h22
      have e23 : (id == 23) = false := beq_eq_false_iff_ne.2 h23
      have e25 : (id == 25) = false := beq_eq_false_iff_ne.2 h25
      have e24 : (id == 24) = false := beq_eq_false_iff_ne.2 h24
      go_wp2_with (go_at_call 101; refine (prop_laterRow.calls id _ _ _ _ HBo.out HC5.out HL5.out h1 h2 h3 h8 h9 h11 h17 h18 h26 h19 h21 h22 h23 h25 h24).mono ?_; rintro e w9 ⟨A9, c9, rfl, hc9, hl9, hb⟩; have bk9 := blk_below BK.out hb; have hw9 := Below.trans HW.out ⟨hb.os, hb.tape, hb.output, hb.size, fun j hj => hb.block j (by have := HW.out.size; omega)⟩; have hn9 := C_ne bk9 hc9 (rowB_zero id); have HC9 := Aside0.mk hc9; have HN9 := Aside0.mk hn9; have HL9 := Aside0.mk hl9; have HW9 := Aside0.mk hw9; clear hb hc9 hn9 hl9 hw9; have BK9 := Aside0.mk bk9; have hz0 := blk_cell BK9.out 0; have hz1 := blk_cell BK9.out 1; have hf0 := blk_frozen BK9.out 0; have hf1 := blk_frozen BK9.out 1; simp at hz0 hz1; clear bk9)
      refine bodyPost_ret (results_cell_row rfl _ _ w.heap.size 115 #[.int .i64 (rowB id).1, .slice A9 (rowB id).2.length c9] (0, 0) _ rfl (blk_put (cs := #[.int .i64 (rowB id).1, .slice none 0 0]) (blk_put (cs := #[.int .i64 0, .slice none 0 0]) BK9.out 0 _ rfl) 1 _ rfl) hu rfl (by kernel_rfl)) rfl ?_
      exact IsRowOf.fin rfl (C_sets 0 1 _ _ HC9.out HN9.out) HL9.out (below_set (below_set HW9.out (Nat.le_refl _)) (Nat.le_refl _))
end Go.Proofs.YtkmkgpigmldhnaaDoor.P

namespace Go.Proofs.YtkmkgpigmldhnaaDoor.P
open Go.RowKit Go.Proofs.YtkmkgpigmldhnaaDoorW.PrintWords Go.Proofs.YtkmkgpigmldhnaaDoorW.PrintLast Go.Proofs.YtkmkgpigmldhnaaDoorW.PrintMore
attribute [local go_sem] max2_int min2_int max_two min_two max_three min_three max_four min_four
set_option linter.unusedVariables false
set_option linter.unusedSimpArgs false
structure S60 where
  f0 : Int
  f1 : Int
  f2 : ByteArray
  f3 : ByteArray
def z60 : S60 := ⟨(0 : Int), (0 : Int), (⟨#[]⟩ : ByteArray), (⟨#[]⟩ : ByteArray)⟩
def k60 : Kd S60 := Kd.iso (Kd.pair (Kd.int .u8) (Kd.pair (Kd.int .u32) (Kd.pair Kd.string Kd.string))) (fun x : S60 => (x.f0, x.f1, x.f2, x.f3))
theorem k60_open {w : World} {x : S60} {cs : List Value} (h : k60.K w x cs) : cs = [.int .u8 x.f0, .int .u32 x.f1, .string x.f2, .string x.f3] := by
  obtain ⟨_, _, rfl, rfl, ⟨_, _, rfl, rfl, ⟨_, _, rfl, rfl, rfl⟩⟩⟩ := h
  exact rfl
theorem k60_openM {w : World} {base : Nat} {ok : Nat → Prop} {x : S60} {cs : List Value} (h : k60.M w base ok x cs) : cs = [.int .u8 x.f0, .int .u32 x.f1, .string x.f2, .string x.f3] := by
  obtain ⟨_, _, rfl, rfl, ⟨_, _, rfl, rfl, ⟨_, _, rfl, rfl, rfl⟩⟩⟩ := h
  exact rfl
theorem k60_mkM (w : World) (base : Nat) (ok : Nat → Prop) (x : S60)  : k60.M w base ok x [.int .u8 x.f0, .int .u32 x.f1, .string x.f2, .string x.f3] := ⟨[.int .u8 x.f0], [.int .u32 x.f1, .string x.f2, .string x.f3], rfl, rfl, ⟨[.int .u32 x.f1], [.string x.f2, .string x.f3], rfl, rfl, ⟨[.string x.f2], [.string x.f3], rfl, rfl, rfl⟩⟩⟩
def rd_T60 (xs : List S60) (i : Int) : S60 := xs.getD i.toNat z60
theorem at_T60 {w : World} {A : Option Addr} {n : Nat} {xs : List S60} (h : Kd.C k60 w A n xs) (i : Int) (h0 : 0 ≤ i) (h1 : i < n) : ∃ ad , A = some ad ∧ w.cell? (ad.add (i.toNat * 4)) = some (.int .u8 (rd_T60 xs i).f0) ∧ w.cell? ⟨(ad.add (i.toNat * 4)).block, (ad.add (i.toNat * 4)).off + 1, none⟩ = some (.int .u32 (rd_T60 xs i).f1) ∧ w.cell? ⟨(ad.add (i.toNat * 4)).block, (ad.add (i.toNat * 4)).off + 2, none⟩ = some (.string (rd_T60 xs i).f2) ∧ w.cell? ⟨(ad.add (i.toNat * 4)).block, (ad.add (i.toNat * 4)).off + 3, none⟩ = some (.string (rd_T60 xs i).f3) := by
  obtain ⟨ad, c, e, _, hK, hc0⟩ := Kd.C_get h z60 i h0 h1
  have hc : ∀ j u, c[j]? = some u → w.cell? (ad.add (i.toNat * 4 + j)) = some u := hc0
  obtain rfl := k60_open hK
  exact ⟨ad, e, hc 0 _ rfl, by rw [← add_field _ _ 1 (by omega)]; exact hc 1 _ rfl, by rw [← add_field _ _ 2 (by omega)]; exact hc 2 _ rfl, by rw [← add_field _ _ 3 (by omega)]; exact hc 3 _ rfl⟩
end Go.Proofs.YtkmkgpigmldhnaaDoor.P

namespace Go.Proofs.YtkmkgpigmldhnaaDoor.P
open Go.RowKit Go.Proofs.YtkmkgpigmldhnaaDoorW.PrintWords Go.Proofs.YtkmkgpigmldhnaaDoorW.PrintLast Go.Proofs.YtkmkgpigmldhnaaDoorW.PrintMore
attribute [local go_sem] max2_int min2_int max_two min_two max_three min_three max_four min_four
set_option linter.unusedVariables false
set_option linter.unusedSimpArgs false
def IsS78 (w0 W : World) (g : Nat) (f0 : ByteArray) (f1 : Int) : Prop := W.heap[g]? = some (.cells #[.string f0, .int .i64 f1] 78 (0, 0)) ∧ w0.heap.size ≤ g
theorem IsS78.grown {w0 W : World} {g : Nat} {f0 : ByteArray} {f1 : Int} {W1 : World} {row : Option Nat} (h : IsS78 w0 W g f0 f1) (hw : W.grownBy W1 row) (hne : some g ≠ row) : IsS78 w0 W1 g f0 f1 := by
  obtain ⟨hb, hg⟩ := h
  exact ⟨blk_grown hb hw hne, hg⟩
theorem IsS78.kept {w0 W : World} {g : Nat} {f0 : ByteArray} {f1 : Int} {W1 : World} {S : Nat → Prop} (h : IsS78 w0 W g f0 f1) (hk : Kept W W1 S) (hne : ¬ S g) : IsS78 w0 W1 g f0 f1 := by
  obtain ⟨hb, hg⟩ := h
  exact ⟨blk_kept hb hk hne, hg⟩
theorem IsS78.below {w0 W : World} {g : Nat} {f0 : ByteArray} {f1 : Int} {W1 : World} (h : IsS78 w0 W g f0 f1) (hw : Below W.heap.size W W1) : IsS78 w0 W1 g f0 f1 := h.grown (grown_of_below hw none) (by simp)
theorem IsS78.alloc {w0 W : World} {g : Nat} {f0 : ByteArray} {f1 : Int} (h : IsS78 w0 W g f0 f1) (o : Obj) : IsS78 w0 (W.alloc o) g f0 f1 := h.below (below_alloc (Below.refl _ _) o)
theorem IsS78.drewN {w0 W : World} {g : Nat} {f0 : ByteArray} {f1 : Int} (h : IsS78 w0 W g f0 f1) (m : Nat) : IsS78 w0 (W.drewN m) g f0 f1 := h
theorem IsS78.drew {w0 W : World} {g : Nat} {f0 : ByteArray} {f1 : Int} (h : IsS78 w0 W g f0 f1) : IsS78 w0 W.drew g f0 f1 := h
theorem IsS78.at_ {w0 W : World} {g : Nat} {f0 : ByteArray} {f1 : Int} {w' : World} {m : Nat} (hq : W.drewN m = w') (h : IsS78 w0 W g f0 f1) : IsS78 w0 w' g f0 f1 := by subst hq; exact IsS78.drewN h m
theorem IsS78.apart {w0 W : World} {g : Nat} {f0 : ByteArray} {f1 : Int} {α : Type} {d : Kd α} {e : Nat} {base : Nat} {ok : Nat → Prop} {v : Value} {xs : List α} (h : IsS78 w0 W g f0 f1) (ho : d.R e W base ok v xs) (ht : ∀ q, q ∈ e :: d.E → q ≠ 78) : d.R e W base (fun k => ok k ∧ k ≠ g) v xs := by
  obtain ⟨hb, hg⟩ := h
  exact Kd.R_types ho hb ht
theorem IsS78.own_ne {w0 W : World} {g : Nat} {f0 : ByteArray} {f1 : Int} {α : Type} {d : Kd α} {e : Nat} {base : Nat} {ok : Nat → Prop} {v : Value} {xs : List α} (h : IsS78 w0 W g f0 f1) (ho : d.R e W base ok v xs) (ht : e ≠ 78) : some g ≠ v.ownBlock := by
  obtain ⟨hb, hg⟩ := h
  exact Kd.R_ne ho hb ht
theorem IsS78.lt {w0 W : World} {g : Nat} {f0 : ByteArray} {f1 : Int} (h : IsS78 w0 W g f0 f1) : g < W.heap.size := by
  obtain ⟨hb, hg⟩ := h
  exact blk_lt hb
theorem IsS78.ge {w0 W : World} {g : Nat} {f0 : ByteArray} {f1 : Int} (h : IsS78 w0 W g f0 f1) : w0.heap.size ≤ g := by
  obtain ⟨hb, hg⟩ := h
  exact hg
theorem IsS78.ne_blk {w0 W : World} {g : Nat} {f0 : ByteArray} {f1 : Int} {a : Nat} {cs : Array Value} {t : TypeId} {fr : Nat × Nat} (h : IsS78 w0 W g f0 f1) (hb2 : W.heap[a]? = some (.cells cs t fr)) (ht : t ≠ 78) : g ≠ a := by
  obtain ⟨hb, hg⟩ := h
  rintro rfl
  rw [hb] at hb2
  injection hb2 with hb2
  injection hb2 with _ ht2
  exact ht ht2.symm
theorem IsS78.far {w0 W : World} {g : Nat} {f0 : ByteArray} {f1 : Int} {p : Addr} (h : IsS78 w0 W g f0 f1) (hne : g ≠ p.block) (u : Value) : IsS78 w0 (W.setCell p u) g f0 f1 := by
  obtain ⟨hb, hg⟩ := h
  exact ⟨blk_far hb hne u, hg⟩
theorem cellS78_0 {W : World} {g : Nat} {f0 : ByteArray} {f1 : Int} (h : W.heap[g]? = some (.cells #[.string f0, .int .i64 f1] 78 (0, 0))) : W.cell? ⟨g, 0, none⟩ = some (.string f0) := (blk_cell h 0).trans rfl
theorem IsS78.set_0 {w0 W : World} {g : Nat} {f0 : ByteArray} {f1 : Int} (h : IsS78 w0 W g f0 f1) (x : ByteArray) : IsS78 w0 (W.setCell ⟨g, 0, none⟩ (.string x)) g x f1 := by
  obtain ⟨hb, hg⟩ := h
  exact ⟨by simpa using blk_set hb 0 (.string x), hg⟩
theorem cellS78_1 {W : World} {g : Nat} {f0 : ByteArray} {f1 : Int} (h : W.heap[g]? = some (.cells #[.string f0, .int .i64 f1] 78 (0, 0))) : W.cell? ⟨g, 1, none⟩ = some (.int .i64 f1) := (blk_cell h 1).trans rfl
theorem IsS78.set_1 {w0 W : World} {g : Nat} {f0 : ByteArray} {f1 : Int} (h : IsS78 w0 W g f0 f1) (x : Int) : IsS78 w0 (W.setCell ⟨g, 1, none⟩ (.int .i64 x)) g f0 x := by
  obtain ⟨hb, hg⟩ := h
  exact ⟨by simpa using blk_set hb 1 (.int .i64 x), hg⟩
theorem IsS78.new (w0 W : World) (f0 : ByteArray) (f1 : Int) (hB : Below w0.heap.size w0 W) : IsS78 w0 (W.alloc (.cells #[.string f0, .int .i64 f1] 78)) W.heap.size f0 f1 := ⟨by simpa using heap_alloc_new W _, hB.size⟩
end Go.Proofs.YtkmkgpigmldhnaaDoor.P

namespace Go.Proofs.YtkmkgpigmldhnaaDoor.P
open Go.RowKit Go.Proofs.YtkmkgpigmldhnaaDoorW.PrintWords Go.Proofs.YtkmkgpigmldhnaaDoorW.PrintLast Go.Proofs.YtkmkgpigmldhnaaDoorW.PrintMore
attribute [local go_sem] max2_int min2_int max_two min_two max_three min_three max_four min_four
set_option linter.unusedVariables false
set_option linter.unusedSimpArgs false
def wire_Read.f (l0 : List Int) : Option (ByteArray × Int) := some (strOfNums l0, 0)
theorem z15z0 {p : Prop} (h : p := by repeat (first | (with_reducible first | exact HBW.out | apply below_alloc | apply pw_below_drewN | apply below_drew1) | exact HBW.out)) : p := h
set_option maxHeartbeats 8000000 in
set_option maxRecDepth 100000 in
theorem wire_Read.calls (A0 : Option Addr) (c0 : Nat) (l0 : List Int) (r1 : ByteArray) (r2 : Int) (w0 w : World) (hB : Below w0.heap.size w0 w) (hr0 : Kd.C (Kd.int .u8) w0 A0 l0.length l0) (hc0 : l0.length ≤ c0) (h : wire_Read.f l0 = some (r1, r2)) :
  Calls Tryd.prog 15 #[.slice A0 l0.length c0] w fun e w' => ∃ g_ : Nat, e = .returned (.pointer (some ⟨g_, 0, none⟩)) ∧ IsS78 w0 w' g_ r1 r2 ∧ Below w0.heap.size w0 w' ∧ Below w.heap.size w w' := by
 have hu78 := Tryd.underlying78
 have HR0 := Aside0.mk hr0
 have HC0 := Aside0.mk hc0
 clear hr0 hc0
 have HBW := Aside0.mk (Below.refl w.heap.size w)
 have HW0 := Aside0.mk hB.size
 have HB := Aside0.mk hB
 clear hB
 have H : (some (strOfNums l0, 0)) = some (r1, r2) := h
 clear h
 simp only [Option.some.injEq, Prod.mk.injEq] at H
 obtain ⟨rfl, rfl⟩ := H
 have hcv2 := Kd.C_string (P := Tryd.prog) (A := A0) (c := c0) Tryd.underlying25 Tryd.underlying5 Tryd.underlying9 (Kd.C_below HR0.out HB.out)
 go_enter Tryd.func15, Tryd.ntmps15
 go_wp2_with (first | ((with_reducible refine gate_dst (N := 6) rfl ?_); refine box_event ?hg (N := 6) ?hd (cs := #[.string (strOfNums l0), .int .i64 0]) (t := 78) ?hr ?_; (case hd => rfl); (case hg => rfl); (case hr => first | (go_simp; done) | (go_simp; rfl)); intro gb101 hg w3 hbox hb; have n0_ := Aside0.mk (below_step HBW.out hb); have n1_ := Aside0.mk (below_step (by repeat (first | (with_reducible first | exact HB.out | apply below_alloc | apply pw_below_drewN | apply below_drew1) | exact HB.out)) hb); have n2_ := Aside0.mk (hbox); have n3_ := Aside0.mk ((by rw [hg]; exact (below_size z15z0) : w.heap.size ≤ gb101)); have n4_ := Aside0.mk ((Nat.le_trans HW0.out (by rw [hg]; exact (below_size z15z0) : w.heap.size ≤ gb101) : w0.heap.size ≤ gb101)); replace HBW := n0_; replace HB := n1_; have BK101 := n2_; have GW101 := n3_; have GE101 := n4_; clear n0_ n1_ n2_ n3_ n4_; clear hb hbox hg))
 go_ret
 exact ⟨_, rfl, (show IsS78 w0 _ gb101 (strOfNums l0) 0 from ⟨by (with_reducible repeat (first | refine blk_drewN ?_ _ | refine blk_drew ?_ | refine blk_alloc ?_ _)); exact BK101.out, GE101.out⟩), by repeat (first | (with_reducible first | exact HB.out | apply below_alloc | apply pw_below_drewN | apply below_drew1 | refine below_set ?_ GE101.out) | exact HB.out), by repeat (first | (with_reducible first | exact HBW.out | apply below_alloc | apply pw_below_drewN | apply below_drew1 | refine below_set ?_ GW101.out) | exact HBW.out)⟩
theorem wire_Read.calls_at (A0 : Option Addr) (c0 : Nat) (l0 : List Int) (r1 : ByteArray) (r2 : Int) (w0 w : World) (hB : Below w0.heap.size w0 w) (hr0 : Kd.C (Kd.int .u8) w A0 l0.length l0) (hc0 : l0.length ≤ c0) (h : wire_Read.f l0 = some (r1, r2)) :
  Calls Tryd.prog 15 #[.slice A0 l0.length c0] w fun e w' => ∃ g_ : Nat, e = .returned (.pointer (some ⟨g_, 0, none⟩)) ∧ IsS78 w0 w' g_ r1 r2 ∧ Below w0.heap.size w0 w' ∧ Below w.heap.size w w' :=
 (wire_Read.calls A0 c0 l0 r1 r2 w w (Below.refl _ _) hr0 hc0 h).mono fun _ _ ⟨g, he, hi, hb, hb2⟩ => ⟨g, he, ⟨hi.1, Nat.le_trans hB.size hi.2⟩, below_step hB hb, hb2⟩
end Go.Proofs.YtkmkgpigmldhnaaDoor.P

namespace Go.Proofs.YtkmkgpigmldhnaaDoor.P
open Go.RowKit Go.Shelf Go.Lib Go.Proofs.YtkmkgpigmldhnaaDoorW.PrintWords Go.Proofs.YtkmkgpigmldhnaaDoorW.PrintLast Go.Proofs.YtkmkgpigmldhnaaDoorW.PrintMore
def wire_Reader_Err.f (s0_0 : ByteArray) (s0_1 : Int) : Option (Int × ByteArray × Int) := some (s0_1, s0_0, s0_1)
set_option maxHeartbeats 4000000 in
set_option maxRecDepth 100000 in
theorem wire_Reader_Err.calls (g : Nat) (s0_0 : ByteArray) (s0_1 : Int) (r1 : Int) (r2 : ByteArray) (r3 : Int) (w0 w : World) (hI : IsS78 w0 w g s0_0 s0_1) (hB : Below w0.heap.size w0 w) (h : wire_Reader_Err.f s0_0 s0_1 = some (r1, r2, r3)) :
    Calls Tryd.prog 22 #[.pointer (some ⟨g, 0, none⟩)] w fun e w' => e = .returned (.int .i64 r1) ∧ IsS78 w0 w' g r2 r3 ∧ Below w0.heap.size w0 w' ∧ KeepBut w w' g none := by
  have h2 := Option.some.inj h
  simp only [Prod.mk.injEq] at h2
  obtain ⟨rfl, rfl, rfl⟩ := h2
  have HI := Aside0.mk hI
  have HB := Aside0.mk hB
  have hc0 := cellS78_0 hI.1
  have hc1 := cellS78_1 hI.1
  have hf0 := blk_frozen hI.1 0
  have hf1 := blk_frozen hI.1 1
  have he : ∀ w : World, (binOp BinOp.eql 32 (.pointer (some ⟨g, 0, none⟩)) (.pointer none)).run Tryd.prog w = .ok (.bool false) w := fun _ => by kernel_rfl
  clear hI hB h
  go_enter Tryd.func22, Tryd.ntmps22
  go_wp2
  go_ret
  exact ⟨rfl, HI.out, HB.out, KeepBut.refl w g none⟩
end Go.Proofs.YtkmkgpigmldhnaaDoor.P

namespace Go.Proofs.YtkmkgpigmldhnaaDoor.P
open Go.RowKit Go.Proofs.YtkmkgpigmldhnaaDoorW.PrintWords Go.Proofs.YtkmkgpigmldhnaaDoorW.PrintLast Go.Proofs.YtkmkgpigmldhnaaDoorW.PrintMore
attribute [local go_sem] max2_int min2_int max_two min_two max_three min_three max_four min_four
set_option linter.unusedVariables false
set_option linter.unusedSimpArgs false
def wire_Reader_Left.f (s0_0 : ByteArray) (s0_1 : Int) : Option (Int × ByteArray × Int) := (wire_Reader_Err.f s0_0 s0_1).bind fun bt101 => (if bt101.1 = 0 then (some ((bt101.2.1.size : Int), bt101.2.1, bt101.2.2)) else (some (0, bt101.2.1, bt101.2.2)))
theorem z21z0 {p : Prop} (h : p := by repeat (first | (with_reducible first | exact HB.out | apply below_alloc | apply pw_below_drewN | apply below_drew1 | refine below_set ?_ (IsS78.ge HI0.out)) | exact HB.out)) : p := h
theorem z21z1 {p : Prop} (h : p := by repeat (first | (with_reducible first | exact HI0.out | apply IsS78.alloc | apply IsS78.drewN | apply IsS78.drew | apply IsS78.set_0 | apply IsS78.set_1) | exact HI0.out)) : p := h
theorem z21z2 {p : Prop} (h : p := by repeat (first | (with_reducible first | exact HK.out | apply KeepBut.set_ | apply keep_drewN | apply keep_drew | apply keep_alloc) | exact HK.out)) : p := h
theorem z21z3 {p : Prop} (h : p := by (try simp only [List.map_toArray, List.map_cons, List.map_nil]); first | done | rfl | (simp only [List.length_drop, List.length_take]; rfl)) : p := h
set_option maxHeartbeats 8000000 in
set_option maxRecDepth 100000 in
theorem wire_Reader_Left.calls (g : Nat) (s0_0 : ByteArray) (s0_1 : Int) (r1 : Int) (r2 : ByteArray) (r3 : Int) (w0 w : World) (hI : IsS78 w0 w g s0_0 s0_1) (hB : Below w0.heap.size w0 w) (h : wire_Reader_Left.f s0_0 s0_1 = some (r1, r2, r3)) :
  Calls Tryd.prog 21 #[.pointer (some ⟨g, 0, none⟩)] w fun e w' => e = .returned (.int .i64 r1) ∧ IsS78 w0 w' g r2 r3 ∧ Below w0.heap.size w0 w' ∧ KeepBut w w' g none := by
 have HI0 := Aside0.mk hI
 have HK := Aside0.mk (KeepBut.refl w g none)
 have HL := Aside0.mk hB.size
 clear hI
 have HW0 := Aside0.mk hB.size
 have HB := Aside0.mk hB
 clear hB
 have H : ((wire_Reader_Err.f s0_0 s0_1).bind fun bt101 => (if bt101.1 = 0 then (some ((bt101.2.1.size : Int), bt101.2.1, bt101.2.2)) else (some (0, bt101.2.1, bt101.2.2)))) = some (r1, r2, r3) := h
 clear h
 replace H := Option.bind_eq_some_iff.mp H
 obtain ⟨⟨t101, t102, t103⟩, A20, H⟩ := H
 replace H : (if t101 = 0 then (some ((t102.size : Int), t102, t103)) else (some (0, t102, t103))) = some (r1, r2, r3) := H
 have A2 := Aside0.mk A20
 clear A20
 by_cases c3 : t101 = 0
 ·rw [if_pos c3] at H
  have c3b0 : (t101 == 0) = true := beq_iff_eq.mpr c3
  have c3b1 : (t101 != 0) = false := bne_eq_false_iff_eq.mpr c3
  clear c3
  simp only [Option.some.injEq, Prod.mk.injEq] at H
  obtain ⟨rfl, rfl, rfl⟩ := H
  go_enter Tryd.func21, Tryd.ntmps21
  go_wp2_with (first | ((with_reducible refine gate_callee (f := 22) rfl ?_); refine goesL_ (some 4) rfl rfl Tryd.func22 (by kernel_rfl) rfl #[.pointer (some ⟨g, 0, none⟩)] rfl z21z3 ?_; (with_reducible refine (wire_Reader_Err.calls g s0_0 s0_1 t101 t102 t103 w0 _ ?side1 ?side2 A2.out).mono ?_); (case side1 => exact z21z1); (case side2 => exact z21z0); rintro e w4 ⟨rfl, hi, hb, hk⟩; refine ⟨_, rfl, ?_⟩; have n0_ := Aside0.mk (KeepBut.trans z21z2 hk (.inl rfl)); have n1_ := Aside0.mk (hb); have n2_ := Aside0.mk (hi); replace HK := n0_; replace HB := n1_; replace HI0 := n2_; clear n0_ n1_ n2_; clear hb hk hi; obtain ⟨HGz5, hgz5⟩ := HI0.out; have hcz5_0 := cellS78_0 HGz5; have hcz5_1 := cellS78_1 HGz5; have hfz5_0 := blk_frozen HGz5 0; have hfz5_1 := blk_frozen HGz5 1; clear HGz5 hgz5))
  go_ret
  exact ⟨by first | rfl | (simp [errW_none, errW_some] <;> rfl) | (simp [*, errW_none, errW_some] <;> rfl), by repeat (first | (with_reducible first | exact HI0.out | apply IsS78.alloc | apply IsS78.drewN | apply IsS78.drew | apply IsS78.set_0 | apply IsS78.set_1) | exact HI0.out), by repeat (first | (with_reducible first | exact HB.out | apply below_alloc | apply pw_below_drewN | apply below_drew1 | refine below_set ?_ (IsS78.ge HI0.out)) | exact HB.out), by repeat (first | (with_reducible first | exact HK.out | apply KeepBut.set_ | apply keep_drewN | apply keep_drew | apply keep_alloc) | exact HK.out)⟩
 ·rw [if_neg c3] at H
  have c3b0 : (t101 == 0) = false := beq_eq_false_iff_ne.mpr c3
  have c3b1 : (t101 != 0) = true := bne_iff_ne.mpr c3
  simp only [Option.some.injEq, Prod.mk.injEq] at H
  obtain ⟨rfl, rfl, rfl⟩ := H
  go_enter Tryd.func21, Tryd.ntmps21
  go_wp2_with (first | ((with_reducible refine gate_callee (f := 22) rfl ?_); refine goesL_ (some 4) rfl rfl Tryd.func22 (by kernel_rfl) rfl #[.pointer (some ⟨g, 0, none⟩)] rfl z21z3 ?_; (with_reducible refine (wire_Reader_Err.calls g s0_0 s0_1 t101 t102 t103 w0 _ ?side1 ?side2 A2.out).mono ?_); (case side1 => exact z21z1); (case side2 => exact z21z0); rintro e w6 ⟨rfl, hi, hb, hk⟩; refine ⟨_, rfl, ?_⟩; have n0_ := Aside0.mk (KeepBut.trans z21z2 hk (.inl rfl)); have n1_ := Aside0.mk (hb); have n2_ := Aside0.mk (hi); replace HK := n0_; replace HB := n1_; replace HI0 := n2_; clear n0_ n1_ n2_; clear hb hk hi))
  go_ret
  exact ⟨by first | rfl | (simp [errW_none, errW_some] <;> rfl) | (simp [*, errW_none, errW_some] <;> rfl), by repeat (first | (with_reducible first | exact HI0.out | apply IsS78.alloc | apply IsS78.drewN | apply IsS78.drew | apply IsS78.set_0 | apply IsS78.set_1) | exact HI0.out), by repeat (first | (with_reducible first | exact HB.out | apply below_alloc | apply pw_below_drewN | apply below_drew1 | refine below_set ?_ (IsS78.ge HI0.out)) | exact HB.out), by repeat (first | (with_reducible first | exact HK.out | apply KeepBut.set_ | apply keep_drewN | apply keep_drew | apply keep_alloc) | exact HK.out)⟩
end Go.Proofs.YtkmkgpigmldhnaaDoor.P

namespace Go.Proofs.YtkmkgpigmldhnaaDoor.P
open Go.RowKit Go.Proofs.YtkmkgpigmldhnaaDoorW.PrintWords Go.Proofs.YtkmkgpigmldhnaaDoorW.PrintLast Go.Proofs.YtkmkgpigmldhnaaDoorW.PrintMore
attribute [local go_sem] max2_int min2_int max_two min_two max_three min_three max_four min_four
set_option linter.unusedVariables false
set_option linter.unusedSimpArgs false
def slices_Index_int_int.l0 : Nat → List Int → Int → Int → Int → Option (Int)
  | 0, _, _, _, _ => none
  | k + 1, x0, x1, x7, x8 => if x8 < x7 then (if 0 ≤ x8 then (if x8 < (x0.length : Int) then (if x1 = (rd x0 x8) then (some x8) else (slices_Index_int_int.l0 k x0 x1 x7 (wrap64 (x8 + 1)))) else (none)) else (none)) else (some (-1))
def slices_Index_int_int.f (k : Nat) (l0 : List Int) (a1 : Int) : Option (Int) := slices_Index_int_int.l0 k l0 a1 (l0.length : Int) 0
theorem z100m0 {p : Prop} (h : p := by
 repeat' first
 | (with_reducible exact ih0 _ _ _ _)
 | (with_reducible exact LeO.refl _)
 | (with_reducible exact LeO.none _)
 | (with_reducible refine LeO.ite ?_ ?_)
 | (with_reducible refine LeO.bind ?_ (fun _ => ?_))
 | exact ih0 _ _ _ _
 | exact LeO.none _
 | refine LeO.ite ?_ ?_
 | refine LeO.bind ?_ (fun _ => ?_)) : p := h
theorem slices_Index_int_int.mono_l : ∀ k, (∀ y0 y1 y2 y3, LeO (slices_Index_int_int.l0 k y0 y1 y2 y3) (slices_Index_int_int.l0 (k + 1) y0 y1 y2 y3))
  | 0 => fun _ _ _ _ r h => by simp [slices_Index_int_int.l0] at h
  | k + 1 => by
    have ih0 := slices_Index_int_int.mono_l k
    · intro y0 y1 y2 y3
      unfold slices_Index_int_int.l0
      exact z100m0
theorem slices_Index_int_int.mono : ∀ a0 a1 k, LeO (slices_Index_int_int.f k a0 a1) (slices_Index_int_int.f (k + 1) a0 a1) := by
  intro a0 a1 k
  have ih0 := slices_Index_int_int.mono_l k
  unfold slices_Index_int_int.f
  exact z100m0
theorem z100z0 {p : Prop} (h : p := by first | (with_reducible assumption) | assumption) : p := h
set_option maxHeartbeats 8000000 in
set_option maxRecDepth 100000 in
theorem slices_Index_int_int.calls (k : Nat) (A0 : Option Addr) (c0 : Nat) (l0 : List Int) (a1 : Int) (r : Int) (w : World) (hr0 : Kd.C (Kd.int .i64) w A0 l0.length l0) (hc0 : l0.length ≤ c0) (h : slices_Index_int_int.f k l0 a1 = some r) :
  Calls Tryd.prog 100 #[.slice A0 l0.length c0, .int .i64 a1] w fun e w' => e = .returned (.int .i64 r) ∧ Drawn0 w w' := by
 have HR0 := Aside0.mk hr0
 have HC0 := Aside0.mk hc0
 clear hr0 hc0
 have H : (slices_Index_int_int.l0 k l0 a1 (l0.length : Int) 0) = some r := h
 clear h
 have H' := Aside0.mk H
 clear H
 go_enter Tryd.func100, Tryd.ntmps100
 go_wp2
 go_loopg [8] k (fun kq v8 w' => ∃ (x8_1 : Int), v8 = .int .i64 x8_1 ∧ Aside0 (slices_Index_int_int.l0 kq l0 a1 (l0.length : Int) x8_1 = some r) ∧ Aside0 (kq ≤ k) ∧ Drawn0 w w')
 case atStart => exact ⟨(0), (by first | rfl | (simp; done) | (simp [*]; done)), H', ⟨Nat.le_refl _⟩, by repeat (first | exact Drawn0.refl _ | apply Drawn0.step)⟩
 case round =>
  clear H'
  try clear c1
  try clear p2
  obtain ⟨x8_1, rfl, HA, HK1, ⟨m1, rfl⟩⟩ := hrel
  cases gk with
  | zero => exact absurd HA.out (by simp [slices_Index_int_int.l0])
  | succ k1 =>
   have H := HA.out
   clear HA
   simp only [slices_Index_int_int.l0] at H
   by_cases c3 : x8_1 < (l0.length : Int)
   ·rw [if_pos c3] at H
    have c3b0 : decide (x8_1 < (l0.length : Int)) = true := decide_eq_true c3
    clear c3
    by_cases c4 : 0 ≤ x8_1
    ·rw [if_pos c4] at H
     have c4b0 : decide (0 ≤ x8_1) = true := decide_eq_true c4
     clear c4
     by_cases c5 : x8_1 < (l0.length : Int)
     ·rw [if_pos c5] at H
      have c5b0 : decide (x8_1 < (l0.length : Int)) = true := decide_eq_true c5
      clear c5
      by_cases c6 : a1 = (rd l0 x8_1)
      ·rw [if_pos c6] at H
       have c6b0 : (a1 == (rd l0 x8_1)) = true := beq_iff_eq.mpr c6
       have c6b1 : (a1 != (rd l0 x8_1)) = false := bne_eq_false_iff_eq.mpr c6
       clear c6
       obtain rfl := Option.some.inj H
       have p101 : 0 ≤ (x8_1 : Int) := of_decide_eq_true z100z0
       have q101 : x8_1 < (l0.length : Int) := of_decide_eq_true z100z0
       obtain ⟨ad101, e101, hx101_0⟩ := Kd.at_int HR0.out x8_1 p101 q101
       cases e101
       replace p101 := eq_true p101
       replace q101 := eq_true q101
       go_wp2
       go_ret
       exact ⟨by first | rfl | (simp; done) | (simp [*]; done), by repeat (first | exact Drawn0.refl _ | apply Drawn0.step)⟩
      ·rw [if_neg c6] at H
       have c6b0 : (a1 == (rd l0 x8_1)) = false := beq_eq_false_iff_ne.mpr c6
       have c6b1 : (a1 != (rd l0 x8_1)) = true := bne_iff_ne.mpr c6
       have H' := Aside0.mk H
       clear H
       have p101 : 0 ≤ (x8_1 : Int) := of_decide_eq_true z100z0
       have q101 : x8_1 < (l0.length : Int) := of_decide_eq_true z100z0
       obtain ⟨ad101, e101, hx101_0⟩ := Kd.at_int HR0.out x8_1 p101 q101
       cases e101
       replace p101 := eq_true p101
       replace q101 := eq_true q101
       go_wp2
       go_roundg k1
       case measure => have := HK1.out; omega
       case rel => exact ⟨(wrap64 (x8_1 + 1)), (by first | rfl | (simp; done) | (simp [*]; done)), H', ⟨by have := HK1.out; omega⟩, by repeat (first | exact Drawn0.refl _ | apply Drawn0.step)⟩
     ·rw [if_neg c5] at H
      exact absurd H (by simp)
    ·rw [if_neg c4] at H
     exact absurd H (by simp)
   ·rw [if_neg c3] at H
    have c3b0 : decide (x8_1 < (l0.length : Int)) = false := decide_eq_false c3
    clear c3
    obtain rfl := Option.some.inj H
    go_wp2
    go_ret
    exact ⟨by first | rfl | (simp; done) | (simp [*]; done), by repeat (first | exact Drawn0.refl _ | apply Drawn0.step)⟩
end Go.Proofs.YtkmkgpigmldhnaaDoor.P

namespace Go.Proofs.YtkmkgpigmldhnaaDoor.P
open Go.RowKit Go.Proofs.YtkmkgpigmldhnaaDoorW.PrintWords Go.Proofs.YtkmkgpigmldhnaaDoorW.PrintLast Go.Proofs.YtkmkgpigmldhnaaDoorW.PrintMore
attribute [local go_sem] max2_int min2_int max_two min_two max_three min_three max_four min_four
set_option linter.unusedVariables false
set_option linter.unusedSimpArgs false
def slices_Contains_int_int.f (k : Nat) (l0 : List Int) (a1 : Int) : Option (Bool) := (slices_Index_int_int.f k l0 a1).bind fun t101 => (some (decide (t101 ≥ 0)))
theorem slices_Contains_int_int.mono : ∀ a0 a1 k, LeO (slices_Contains_int_int.f k a0 a1) (slices_Contains_int_int.f (k + 1) a0 a1) := by
  intro a0 a1 k
  unfold slices_Contains_int_int.f
  repeat' first
      | (with_reducible exact slices_Index_int_int.mono _ _ _)
      | (with_reducible exact LeO.refl _)
      | (with_reducible exact LeO.none _)
      | (with_reducible refine LeO.ite ?_ ?_)
      | (with_reducible refine LeO.bind ?_ (fun _ => ?_))
      | exact slices_Index_int_int.mono _ _ _
      | exact LeO.none _
      | refine LeO.ite ?_ ?_
      | refine LeO.bind ?_ (fun _ => ?_)
set_option maxHeartbeats 8000000 in
set_option maxRecDepth 100000 in
theorem slices_Contains_int_int.calls (k : Nat) (A0 : Option Addr) (c0 : Nat) (l0 : List Int) (a1 : Int) (r : Bool) (w : World) (hr0 : Kd.C (Kd.int .i64) w A0 l0.length l0) (hc0 : l0.length ≤ c0) (h : slices_Contains_int_int.f k l0 a1 = some r) :
    Calls Tryd.prog 84 #[.slice A0 l0.length c0, .int .i64 a1] w fun e w' => e = .returned (.bool r) ∧ Drawn0 w w' := by
  have HR0 := Aside0.mk hr0
  have HC0 := Aside0.mk hc0
  clear hr0 hc0
  have H : ((slices_Index_int_int.f k l0 a1).bind fun t101 => (some (decide (t101 ≥ 0)))) = some r := h
  clear h
  replace H := Option.bind_eq_some_iff.mp H
  obtain ⟨t101, A30, H⟩ := H
  replace H : (some (decide (t101 ≥ 0))) = some r := H
  have A3 := Aside0.mk A30
  clear A30
  obtain rfl := Option.some.inj H
  go_enter Tryd.func84, Tryd.ntmps84
  go_wp2_with (first | ((with_reducible refine gate_callee (f := 100) rfl ?_); refine goesL_ (some 7) rfl rfl Tryd.func100 (by kernel_rfl) rfl #[.slice A0 l0.length c0, .int .i64 a1] rfl (by (try simp only [List.map_toArray, List.map_cons, List.map_nil]); first | done | rfl | (simp only [List.length_drop, List.length_take]; rfl)) ?_; (with_reducible refine (slices_Index_int_int.calls k _ _ l0 a1 t101 _ ?side1 ?side2 A3.out).mono ?_); (case side1 => repeat (first | exact HR0.out | (with_reducible refine Kd.C_alloc ?_ _) | (with_reducible refine Kd.C_drewN ?_ _) | (with_reducible refine Kd.C_drew ?_))); (case side2 => exact HC0.out); rintro e w' ⟨rfl, ⟨nd, rfl⟩⟩; refine ⟨_, rfl, ?_⟩))
  go_ret
  exact ⟨by first | rfl | (simp; done) | (simp [*]; done), by repeat (first | exact Drawn0.refl _ | apply Drawn0.step)⟩
end Go.Proofs.YtkmkgpigmldhnaaDoor.P

namespace Go.Proofs.YtkmkgpigmldhnaaDoor.P
open Go.RowKit Go.Shelf Go.Lib Go.Proofs.YtkmkgpigmldhnaaDoorW.PrintWords Go.Proofs.YtkmkgpigmldhnaaDoorW.PrintLast Go.Proofs.YtkmkgpigmldhnaaDoorW.PrintMore
theorem wrap_nat0 (i : Nat) (h : i < 4611686018427387904) : wrap64 ((i : Int) + 1) = ((i + 1 : Nat) : Int) := by unfold wrap64; omega
theorem index_ev (L : List Int) (a : Int) (hL : L.length < 4611686018427387904) : ∀ (d i : Nat), i + d = L.length → ∃ r, Ev (fun k => slices_Index_int_int.l0 k L a (L.length : Int) (i : Int)) r ∧ decide (r ≥ 0) = (L.drop i).contains a
  | 0, i, h => by
    refine ⟨-1, Ev.step (f := fun _ => some (-1)) (fun k => by simp only [slices_Index_int_int.l0]; rw [if_neg (by omega)]) (Ev.now _), ?_⟩
    rw [List.drop_eq_nil_of_le (by omega)]; rfl
  | d + 1, i, h => by
    have hi : i < L.length := by omega
    have hr : rd L (i : Int) = L[i] := by unfold rd; simp [hi]
    rw [List.drop_eq_getElem_cons hi, List.contains_cons]
    by_cases e : a = L[i]
    · refine ⟨(i : Int), Ev.step (f := fun _ => some (i : Int)) (fun k => by simp only [slices_Index_int_int.l0]; rw [if_pos (by omega), if_pos (by omega), if_pos (by omega), hr, if_pos e]) (Ev.now _), ?_⟩
      rw [show (a == L[i]) = true from beq_iff_eq.2 e, Bool.true_or, decide_eq_true (by omega)]
    · obtain ⟨r, h1, h2⟩ := index_ev L a hL d (i + 1) (by omega)
      refine ⟨r, Ev.step (fun k => by simp only [slices_Index_int_int.l0]; rw [if_pos (by omega), if_pos (by omega), if_pos (by omega), hr, if_neg e, wrap_nat0 i (by omega)]) h1, ?_⟩
      rw [show (a == L[i]) = false from beq_eq_false_iff_ne.2 e, Bool.false_or, h2]
theorem contains_ev (L : List Int) (a : Int) (hL : L.length < 4611686018427387904) : Ev (fun k => slices_Contains_int_int.f k L a) (L.contains a) := by
  obtain ⟨r, h1, h2⟩ := index_ev L a hL L.length 0 (by omega)
  rw [List.drop_zero] at h2
  rw [← h2]
  exact Ev.bind h1 (Ev.now _)
def prop_Type.f (a0 : Int) : Option Int := some (rowB a0).1
set_option maxHeartbeats 4000000 in
set_option maxRecDepth 100000 in
theorem prop_Type.calls (a0 : Int) (r : Int) (w : World) (h : prop_Type.f a0 = some r) :
    Calls Tryd.prog 82 #[.int .u8 a0] w fun e w' => e = .returned (.int .i64 r) ∧ Below w.heap.size w w' := by
  have hfd : ∀ (k : Int) (A : Option Addr) (n c : Nat) (w : World), (Instr.field 115 (.agg #[.int .i64 k, .slice A n c]) 0).run Tryd.prog w = .ok (.int .i64 k) w := fun _ _ _ _ _ => by kernel_rfl
  obtain rfl := Option.some.inj h
  go_enter Tryd.func82, Tryd.ntmps82
  go_wp2_with (go_at_call 85; refine (prop_rowOf.calls a0 _).mono ?_; rintro e w' ⟨A9, c9, rfl, hc9, hl9, hb⟩; have HB := Aside0.mk hb; clear hb hc9 hl9)
  go_ret
  exact ⟨rfl, HB.out⟩
def prop_For.f (a0 a1 : Int) : Option Bool := some ((rowB a0).2.contains a1)
set_option maxHeartbeats 4000000 in
set_option maxRecDepth 100000 in
theorem prop_For.calls (a0 a1 : Int) (r : Bool) (w : World) (h : prop_For.f a0 a1 = some r) :
    Calls Tryd.prog 60 #[.int .u8 a0, .int .i64 a1] w fun e w' => e = .returned (.bool r) ∧ Below w.heap.size w w' := by
  have hfd : ∀ (k : Int) (A : Option Addr) (n c : Nat) (w : World), (Instr.field 115 (.agg #[.int .i64 k, .slice A n c]) 1).run Tryd.prog w = .ok (.slice A n c) w := fun _ _ _ _ _ => by kernel_rfl
  have h2 : (rowB a0).2.contains a1 = r := Option.some.inj h
  obtain ⟨k, hk⟩ := (contains_ev (rowB a0).2 a1 (by have := rowB_len a0; omega)).rounds
  rw [h2] at hk
  have HK := Aside0.mk hk
  clear hk h h2
  go_enter Tryd.func60, Tryd.ntmps60
  go_wp2_with (first | (go_at_call 85; refine (prop_rowOf.calls a0 _).mono ?_; rintro e w' ⟨A9, c9, rfl, hc9, hl9, hb⟩; have HB := Aside0.mk hb; have HC9 := Aside0.mk hc9; have HL9 := Aside0.mk hl9; clear hb hc9 hl9) | (go_at_call 84; refine (slices_Contains_int_int.calls k _ _ (rowB a0).2 a1 r _ HC9.out HL9.out HK.out).mono ?_; rintro e w'' ⟨rfl, hd⟩; have HD := Aside0.mk hd; clear hd))
  go_ret
  exact ⟨rfl, HB.out.trans ⟨HD.out.below.os, HD.out.below.tape, HD.out.below.output, HD.out.below.size, fun j hj => HD.out.below.block j (by have := HB.out.size; omega)⟩⟩
end Go.Proofs.YtkmkgpigmldhnaaDoor.P

namespace Go.Proofs.YtkmkgpigmldhnaaDoor.P
open Go.RowKit Go.Proofs.YtkmkgpigmldhnaaDoorW.PrintWords Go.Proofs.YtkmkgpigmldhnaaDoorW.PrintLast Go.Proofs.YtkmkgpigmldhnaaDoorW.PrintMore
attribute [local go_sem] max2_int min2_int max_two min_two max_three min_three max_four min_four
set_option linter.unusedVariables false
set_option linter.unusedSimpArgs false
def wire_Reader_take.f (s0_0 : ByteArray) (s0_1 : Int) (a1 : Int) : Option (ByteArray × Bool × ByteArray × Int) := (wire_Reader_Err.f s0_0 s0_1).bind fun bt101 => (if bt101.1 = 0 then (if a1 < 0 then (some ((⟨#[]⟩ : ByteArray), false, bt101.2.1, 2)) else (if a1 > (bt101.2.1.size : Int) then (some ((⟨#[]⟩ : ByteArray), false, bt101.2.1, 2)) else (if 0 ≤ a1 then (if a1 ≤ (bt101.2.1.size : Int) then (some (bt101.2.1.extract 0 (a1 : Int).toNat, true, bt101.2.1.extract (a1 : Int).toNat bt101.2.1.size, bt101.2.2)) else (none)) else (none)))) else (some ((⟨#[]⟩ : ByteArray), false, bt101.2.1, bt101.2.2)))
theorem z41z0 {p : Prop} (h : p := by repeat (first | (with_reducible first | exact HB.out | apply below_alloc | apply pw_below_drewN | apply below_drew1 | refine below_set ?_ (IsS78.ge HI0.out)) | exact HB.out)) : p := h
theorem z41z1 {p : Prop} (h : p := by repeat (first | (with_reducible first | exact HI0.out | apply IsS78.alloc | apply IsS78.drewN | apply IsS78.drew | apply IsS78.set_0 | apply IsS78.set_1) | exact HI0.out)) : p := h
theorem z41z2 {p : Prop} (h : p := by repeat (first | (with_reducible first | exact HK.out | apply KeepBut.set_ | apply keep_drewN | apply keep_drew | apply keep_alloc) | exact HK.out)) : p := h
theorem z41z3 {p : Prop} (h : p := by (try simp only [List.map_toArray, List.map_cons, List.map_nil]); first | done | rfl | (simp only [List.length_drop, List.length_take]; rfl)) : p := h
set_option maxHeartbeats 8000000 in
set_option maxRecDepth 100000 in
theorem wire_Reader_take.calls (g : Nat) (s0_0 : ByteArray) (s0_1 : Int) (a1 : Int) (r1 : ByteArray) (r2 : Bool) (r3 : ByteArray) (r4 : Int) (w0 w : World) (hI : IsS78 w0 w g s0_0 s0_1) (hB : Below w0.heap.size w0 w) (h : wire_Reader_take.f s0_0 s0_1 a1 = some (r1, r2, r3, r4)) :
  Calls Tryd.prog 41 #[.pointer (some ⟨g, 0, none⟩), .int .i64 a1] w fun e w' => e = .returned (.tuple #[.string r1, .bool r2]) ∧ IsS78 w0 w' g r3 r4 ∧ Below w0.heap.size w0 w' ∧ KeepBut w w' g none := by
 have HI0 := Aside0.mk hI
 have HK := Aside0.mk (KeepBut.refl w g none)
 have HL := Aside0.mk hB.size
 clear hI
 have HW0 := Aside0.mk hB.size
 have HB := Aside0.mk hB
 clear hB
 have H : ((wire_Reader_Err.f s0_0 s0_1).bind fun bt101 => (if bt101.1 = 0 then (if a1 < 0 then (some ((⟨#[]⟩ : ByteArray), false, bt101.2.1, 2)) else (if a1 > (bt101.2.1.size : Int) then (some ((⟨#[]⟩ : ByteArray), false, bt101.2.1, 2)) else (if 0 ≤ a1 then (if a1 ≤ (bt101.2.1.size : Int) then (some (bt101.2.1.extract 0 (a1 : Int).toNat, true, bt101.2.1.extract (a1 : Int).toNat bt101.2.1.size, bt101.2.2)) else (none)) else (none)))) else (some ((⟨#[]⟩ : ByteArray), false, bt101.2.1, bt101.2.2)))) = some (r1, r2, r3, r4) := h
 clear h
 replace H := Option.bind_eq_some_iff.mp H
 obtain ⟨⟨t101, t102, t103⟩, A30, H⟩ := H
 replace H : (if t101 = 0 then (if a1 < 0 then (some ((⟨#[]⟩ : ByteArray), false, t102, 2)) else (if a1 > (t102.size : Int) then (some ((⟨#[]⟩ : ByteArray), false, t102, 2)) else (if 0 ≤ a1 then (if a1 ≤ (t102.size : Int) then (some (t102.extract 0 (a1 : Int).toNat, true, t102.extract (a1 : Int).toNat t102.size, t103)) else (none)) else (none)))) else (some ((⟨#[]⟩ : ByteArray), false, t102, t103))) = some (r1, r2, r3, r4) := H
 have A3 := Aside0.mk A30
 clear A30
 by_cases c4 : t101 = 0
 ·rw [if_pos c4] at H
  have c4b0 : (t101 == 0) = true := beq_iff_eq.mpr c4
  have c4b1 : (t101 != 0) = false := bne_eq_false_iff_eq.mpr c4
  clear c4
  by_cases c5 : a1 < 0
  ·rw [if_pos c5] at H
   have c5b0 : decide (a1 < 0) = true := decide_eq_true c5
   clear c5
   simp only [Option.some.injEq, Prod.mk.injEq] at H
   obtain ⟨rfl, rfl, rfl, rfl⟩ := H
   go_enter Tryd.func41, Tryd.ntmps41
   go_wp2_with (first | ((with_reducible refine gate_callee (f := 22) rfl ?_); refine goesL_ (some 8) rfl rfl Tryd.func22 (by kernel_rfl) rfl #[.pointer (some ⟨g, 0, none⟩)] rfl z41z3 ?_; (with_reducible refine (wire_Reader_Err.calls g s0_0 s0_1 t101 t102 t103 w0 _ ?side1 ?side2 A3.out).mono ?_); (case side1 => exact z41z1); (case side2 => exact z41z0); rintro e w6 ⟨rfl, hi, hb, hk⟩; refine ⟨_, rfl, ?_⟩; have n0_ := Aside0.mk (KeepBut.trans z41z2 hk (.inl rfl)); have n1_ := Aside0.mk (hb); have n2_ := Aside0.mk (hi); replace HK := n0_; replace HB := n1_; replace HI0 := n2_; clear n0_ n1_ n2_; clear hb hk hi; obtain ⟨HGz7, hgz7⟩ := HI0.out; have hcz7_0 := cellS78_0 HGz7; have hcz7_1 := cellS78_1 HGz7; have hfz7_0 := blk_frozen HGz7 0; have hfz7_1 := blk_frozen HGz7 1; clear HGz7 hgz7))
   go_ret2
   exact ⟨by first | rfl | (simp [errW_none, errW_some] <;> rfl) | (simp [*, errW_none, errW_some] <;> rfl), by repeat (first | (with_reducible first | exact HI0.out | apply IsS78.alloc | apply IsS78.drewN | apply IsS78.drew | apply IsS78.set_0 | apply IsS78.set_1) | exact HI0.out), by repeat (first | (with_reducible first | exact HB.out | apply below_alloc | apply pw_below_drewN | apply below_drew1 | refine below_set ?_ (IsS78.ge HI0.out)) | exact HB.out), by repeat (first | (with_reducible first | exact HK.out | apply KeepBut.set_ | apply keep_drewN | apply keep_drew | apply keep_alloc) | exact HK.out)⟩
  ·rw [if_neg c5] at H
   have c5b0 : decide (a1 < 0) = false := decide_eq_false c5
   clear c5
   by_cases c8 : a1 > (t102.size : Int)
   ·rw [if_pos c8] at H
    have c8b0 : decide ((t102.size : Int) < a1) = true := decide_eq_true c8
    clear c8
    simp only [Option.some.injEq, Prod.mk.injEq] at H
    obtain ⟨rfl, rfl, rfl, rfl⟩ := H
    go_enter Tryd.func41, Tryd.ntmps41
    go_wp2_with (first | ((with_reducible refine gate_callee (f := 22) rfl ?_); refine goesL_ (some 8) rfl rfl Tryd.func22 (by kernel_rfl) rfl #[.pointer (some ⟨g, 0, none⟩)] rfl z41z3 ?_; (with_reducible refine (wire_Reader_Err.calls g s0_0 s0_1 t101 t102 t103 w0 _ ?side1 ?side2 A3.out).mono ?_); (case side1 => exact z41z1); (case side2 => exact z41z0); rintro e w9 ⟨rfl, hi, hb, hk⟩; refine ⟨_, rfl, ?_⟩; have n0_ := Aside0.mk (KeepBut.trans z41z2 hk (.inl rfl)); have n1_ := Aside0.mk (hb); have n2_ := Aside0.mk (hi); replace HK := n0_; replace HB := n1_; replace HI0 := n2_; clear n0_ n1_ n2_; clear hb hk hi; obtain ⟨HGz10, hgz10⟩ := HI0.out; have hcz10_0 := cellS78_0 HGz10; have hcz10_1 := cellS78_1 HGz10; have hfz10_0 := blk_frozen HGz10 0; have hfz10_1 := blk_frozen HGz10 1; clear HGz10 hgz10))
    go_ret2
    exact ⟨by first | rfl | (simp [errW_none, errW_some] <;> rfl) | (simp [*, errW_none, errW_some] <;> rfl), by repeat (first | (with_reducible first | exact HI0.out | apply IsS78.alloc | apply IsS78.drewN | apply IsS78.drew | apply IsS78.set_0 | apply IsS78.set_1) | exact HI0.out), by repeat (first | (with_reducible first | exact HB.out | apply below_alloc | apply pw_below_drewN | apply below_drew1 | refine below_set ?_ (IsS78.ge HI0.out)) | exact HB.out), by repeat (first | (with_reducible first | exact HK.out | apply KeepBut.set_ | apply keep_drewN | apply keep_drew | apply keep_alloc) | exact HK.out)⟩
   ·rw [if_neg c8] at H
    have c8b0 : decide ((t102.size : Int) < a1) = false := decide_eq_false c8
    clear c8
    by_cases c11 : 0 ≤ a1
    ·rw [if_pos c11] at H
     have c11b0 := eq_true c11
     have c11b1 : decide (0 ≤ a1) = true := decide_eq_true c11
     clear c11
     by_cases c12 : a1 ≤ (t102.size : Int)
     ·rw [if_pos c12] at H
      have c12b0 := eq_true c12
      have c12b1 : decide (a1 ≤ (t102.size : Int)) = true := decide_eq_true c12
      clear c12
      have c13b0 := eq_true (of_decide_eq_true (by first | (with_reducible assumption) | assumption) : 0 ≤ a1)
      have c14b0 := eq_true (of_decide_eq_true (by first | (with_reducible assumption) | assumption) : a1 ≤ (t102.size : Int))
      simp only [Option.some.injEq, Prod.mk.injEq] at H
      obtain ⟨rfl, rfl, rfl, rfl⟩ := H
      go_enter Tryd.func41, Tryd.ntmps41
      go_wp2_with (first | ((with_reducible refine gate_callee (f := 22) rfl ?_); refine goesL_ (some 8) rfl rfl Tryd.func22 (by kernel_rfl) rfl #[.pointer (some ⟨g, 0, none⟩)] rfl z41z3 ?_; (with_reducible refine (wire_Reader_Err.calls g s0_0 s0_1 t101 t102 t103 w0 _ ?side1 ?side2 A3.out).mono ?_); (case side1 => exact z41z1); (case side2 => exact z41z0); rintro e w15 ⟨rfl, hi, hb, hk⟩; refine ⟨_, rfl, ?_⟩; have n0_ := Aside0.mk (KeepBut.trans z41z2 hk (.inl rfl)); have n1_ := Aside0.mk (hb); have n2_ := Aside0.mk (hi); replace HK := n0_; replace HB := n1_; replace HI0 := n2_; clear n0_ n1_ n2_; clear hb hk hi; obtain ⟨HGz16, hgz16⟩ := HI0.out; have hcz16_0 := cellS78_0 HGz16; have hcz16_1 := cellS78_1 HGz16; have hfz16_0 := blk_frozen HGz16 0; have hfz16_1 := blk_frozen HGz16 1; clear HGz16 hgz16))
      go_ret2
      exact ⟨by first | rfl | (simp [errW_none, errW_some] <;> rfl) | (simp [*, errW_none, errW_some] <;> rfl), by repeat (first | (with_reducible first | exact HI0.out | apply IsS78.alloc | apply IsS78.drewN | apply IsS78.drew | apply IsS78.set_0 | apply IsS78.set_1) | exact HI0.out), by repeat (first | (with_reducible first | exact HB.out | apply below_alloc | apply pw_below_drewN | apply below_drew1 | refine below_set ?_ (IsS78.ge HI0.out)) | exact HB.out), by repeat (first | (with_reducible first | exact HK.out | apply KeepBut.set_ | apply keep_drewN | apply keep_drew | apply keep_alloc) | exact HK.out)⟩
     ·rw [if_neg c12] at H
      exact absurd H (by simp)
    ·rw [if_neg c11] at H
     exact absurd H (by simp)
 ·rw [if_neg c4] at H
  have c4b0 : (t101 == 0) = false := beq_eq_false_iff_ne.mpr c4
  have c4b1 : (t101 != 0) = true := bne_iff_ne.mpr c4
  simp only [Option.some.injEq, Prod.mk.injEq] at H
  obtain ⟨rfl, rfl, rfl, rfl⟩ := H
  go_enter Tryd.func41, Tryd.ntmps41
  go_wp2_with (first | ((with_reducible refine gate_callee (f := 22) rfl ?_); refine goesL_ (some 8) rfl rfl Tryd.func22 (by kernel_rfl) rfl #[.pointer (some ⟨g, 0, none⟩)] rfl z41z3 ?_; (with_reducible refine (wire_Reader_Err.calls g s0_0 s0_1 t101 t102 t103 w0 _ ?side1 ?side2 A3.out).mono ?_); (case side1 => exact z41z1); (case side2 => exact z41z0); rintro e w17 ⟨rfl, hi, hb, hk⟩; refine ⟨_, rfl, ?_⟩; have n0_ := Aside0.mk (KeepBut.trans z41z2 hk (.inl rfl)); have n1_ := Aside0.mk (hb); have n2_ := Aside0.mk (hi); replace HK := n0_; replace HB := n1_; replace HI0 := n2_; clear n0_ n1_ n2_; clear hb hk hi))
  go_ret2
  exact ⟨by first | rfl | (simp [errW_none, errW_some] <;> rfl) | (simp [*, errW_none, errW_some] <;> rfl), by repeat (first | (with_reducible first | exact HI0.out | apply IsS78.alloc | apply IsS78.drewN | apply IsS78.drew | apply IsS78.set_0 | apply IsS78.set_1) | exact HI0.out), by repeat (first | (with_reducible first | exact HB.out | apply below_alloc | apply pw_below_drewN | apply below_drew1 | refine below_set ?_ (IsS78.ge HI0.out)) | exact HB.out), by repeat (first | (with_reducible first | exact HK.out | apply KeepBut.set_ | apply keep_drewN | apply keep_drew | apply keep_alloc) | exact HK.out)⟩
end Go.Proofs.YtkmkgpigmldhnaaDoor.P

namespace Go.Proofs.YtkmkgpigmldhnaaDoor.P
open Go.RowKit Go.Proofs.YtkmkgpigmldhnaaDoorW.PrintWords Go.Proofs.YtkmkgpigmldhnaaDoorW.PrintLast Go.Proofs.YtkmkgpigmldhnaaDoorW.PrintMore
attribute [local go_sem] max2_int min2_int max_two min_two max_three min_three max_four min_four
set_option linter.unusedVariables false
set_option linter.unusedSimpArgs false
def wire_Reader_Byte.f (s0_0 : ByteArray) (s0_1 : Int) : Option (Int × ByteArray × Int) := (wire_Reader_take.f s0_0 s0_1 1).bind fun bt101 => (if bt101.2.1 = true then (if 0 < (bt101.1.size : Int) then (some (bt bt101.1 0, bt101.2.2.1, bt101.2.2.2)) else (none)) else (some (0, bt101.2.2.1, bt101.2.2.2)))
theorem z16z0 {p : Prop} (h : p := by repeat (first | (with_reducible first | exact HB.out | apply below_alloc | apply pw_below_drewN | apply below_drew1 | refine below_set ?_ (IsS78.ge HI0.out)) | exact HB.out)) : p := h
theorem z16z1 {p : Prop} (h : p := by repeat (first | (with_reducible first | exact HI0.out | apply IsS78.alloc | apply IsS78.drewN | apply IsS78.drew | apply IsS78.set_0 | apply IsS78.set_1) | exact HI0.out)) : p := h
theorem z16z2 {p : Prop} (h : p := by repeat (first | (with_reducible first | exact HK.out | apply KeepBut.set_ | apply keep_drewN | apply keep_drew | apply keep_alloc) | exact HK.out)) : p := h
theorem z16z3 {p : Prop} (h : p := by (try simp only [List.map_toArray, List.map_cons, List.map_nil]); first | done | rfl | (simp only [List.length_drop, List.length_take]; rfl)) : p := h
set_option maxHeartbeats 8000000 in
set_option maxRecDepth 100000 in
theorem wire_Reader_Byte.calls (g : Nat) (s0_0 : ByteArray) (s0_1 : Int) (r1 : Int) (r2 : ByteArray) (r3 : Int) (w0 w : World) (hI : IsS78 w0 w g s0_0 s0_1) (hB : Below w0.heap.size w0 w) (h : wire_Reader_Byte.f s0_0 s0_1 = some (r1, r2, r3)) :
  Calls Tryd.prog 16 #[.pointer (some ⟨g, 0, none⟩)] w fun e w' => e = .returned (.int .u8 r1) ∧ IsS78 w0 w' g r2 r3 ∧ Below w0.heap.size w0 w' ∧ KeepBut w w' g none := by
 have HI0 := Aside0.mk hI
 have HK := Aside0.mk (KeepBut.refl w g none)
 have HL := Aside0.mk hB.size
 clear hI
 have HW0 := Aside0.mk hB.size
 have HB := Aside0.mk hB
 clear hB
 have H : ((wire_Reader_take.f s0_0 s0_1 1).bind fun bt101 => (if bt101.2.1 = true then (if 0 < (bt101.1.size : Int) then (some (bt bt101.1 0, bt101.2.2.1, bt101.2.2.2)) else (none)) else (some (0, bt101.2.2.1, bt101.2.2.2)))) = some (r1, r2, r3) := h
 clear h
 replace H := Option.bind_eq_some_iff.mp H
 obtain ⟨⟨t101, t102, t103, t104⟩, A20, H⟩ := H
 replace H : (if t102 = true then (if 0 < (t101.size : Int) then (some (bt t101 0, t103, t104)) else (none)) else (some (0, t103, t104))) = some (r1, r2, r3) := H
 have A2 := Aside0.mk A20
 clear A20
 by_cases c3 : t102 = true
 ·subst c3
  have H1 : (if 0 < (t101.size : Int) then (some (bt t101 0, t103, t104)) else (none)) = some (r1, r2, r3) := by rw [if_pos rfl] at H; exact H
  clear H
  have H := H1
  clear H1
  by_cases c4 : 0 < (t101.size : Int)
  ·rw [if_pos c4] at H
   have c4b0 : decide (0 < (t101.size : Int)) = true := decide_eq_true c4
   have c4b1 : decide (0 < t101.size) = true := decide_eq_true (by omega)
   clear c4
   simp only [Option.some.injEq, Prod.mk.injEq] at H
   obtain ⟨rfl, rfl, rfl⟩ := H
   go_enter Tryd.func16, Tryd.ntmps16
   go_wp2_with (first | ((with_reducible refine gate_callee (f := 41) rfl ?_); refine goesL_ (some 7) rfl rfl Tryd.func41 (by kernel_rfl) rfl #[.pointer (some ⟨g, 0, none⟩), .int .i64 1] rfl z16z3 ?_; (with_reducible refine (wire_Reader_take.calls g s0_0 s0_1 1 t101 true t103 t104 w0 _ ?side1 ?side2 A2.out).mono ?_); (case side1 => exact z16z1); (case side2 => exact z16z0); rintro e w6 ⟨rfl, hi, hb, hk⟩; refine ⟨_, rfl, ?_⟩; have n0_ := Aside0.mk (KeepBut.trans z16z2 hk (.inl rfl)); have n1_ := Aside0.mk (hb); have n2_ := Aside0.mk (hi); replace HK := n0_; replace HB := n1_; replace HI0 := n2_; clear n0_ n1_ n2_; clear hb hk hi; have p5 : 0 ≤ (0 : Int) := (by omega); have q5 : 0 < t101.size := (by have : (0 : Int) < (t101.size : Int) := of_decide_eq_true (by first | (with_reducible assumption) | assumption); omega); have hx5 : ∀ h : 0 < t101.size, ((t101[0]'h).toNat : Int) = bt t101 0 := bt_at t101 0; clear p5; have qi5 : (0 < (t101.size : Int)) = True := eq_true (of_decide_eq_true (by first | (with_reducible assumption) | assumption)); replace q5 := eq_true q5))
   go_ret
   exact ⟨by first | rfl | (simp [errW_none, errW_some] <;> rfl) | (simp [*, errW_none, errW_some] <;> rfl), by repeat (first | (with_reducible first | exact HI0.out | apply IsS78.alloc | apply IsS78.drewN | apply IsS78.drew | apply IsS78.set_0 | apply IsS78.set_1) | exact HI0.out), by repeat (first | (with_reducible first | exact HB.out | apply below_alloc | apply pw_below_drewN | apply below_drew1 | refine below_set ?_ (IsS78.ge HI0.out)) | exact HB.out), by repeat (first | (with_reducible first | exact HK.out | apply KeepBut.set_ | apply keep_drewN | apply keep_drew | apply keep_alloc) | exact HK.out)⟩
  ·rw [if_neg c4] at H
   exact absurd H (by simp)
 ·replace c3 := Bool.eq_false_iff.mpr c3
  subst c3
  have H1 : (some (0, t103, t104)) = some (r1, r2, r3) := by rw [if_neg (show ¬ (false = true) by decide)] at H; exact H
  clear H
  have H := H1
  clear H1
  simp only [Option.some.injEq, Prod.mk.injEq] at H
  obtain ⟨rfl, rfl, rfl⟩ := H
  go_enter Tryd.func16, Tryd.ntmps16
  go_wp2_with (first | ((with_reducible refine gate_callee (f := 41) rfl ?_); refine goesL_ (some 7) rfl rfl Tryd.func41 (by kernel_rfl) rfl #[.pointer (some ⟨g, 0, none⟩), .int .i64 1] rfl z16z3 ?_; (with_reducible refine (wire_Reader_take.calls g s0_0 s0_1 1 t101 false t103 t104 w0 _ ?side1 ?side2 A2.out).mono ?_); (case side1 => exact z16z1); (case side2 => exact z16z0); rintro e w7 ⟨rfl, hi, hb, hk⟩; refine ⟨_, rfl, ?_⟩; have n0_ := Aside0.mk (KeepBut.trans z16z2 hk (.inl rfl)); have n1_ := Aside0.mk (hb); have n2_ := Aside0.mk (hi); replace HK := n0_; replace HB := n1_; replace HI0 := n2_; clear n0_ n1_ n2_; clear hb hk hi))
  go_ret
  exact ⟨by first | rfl | (simp [errW_none, errW_some] <;> rfl) | (simp [*, errW_none, errW_some] <;> rfl), by repeat (first | (with_reducible first | exact HI0.out | apply IsS78.alloc | apply IsS78.drewN | apply IsS78.drew | apply IsS78.set_0 | apply IsS78.set_1) | exact HI0.out), by repeat (first | (with_reducible first | exact HB.out | apply below_alloc | apply pw_below_drewN | apply below_drew1 | refine below_set ?_ (IsS78.ge HI0.out)) | exact HB.out), by repeat (first | (with_reducible first | exact HK.out | apply KeepBut.set_ | apply keep_drewN | apply keep_drew | apply keep_alloc) | exact HK.out)⟩
end Go.Proofs.YtkmkgpigmldhnaaDoor.P

namespace Go.Proofs.YtkmkgpigmldhnaaDoor.P
open Go.RowKit Go.Proofs.YtkmkgpigmldhnaaDoorW.PrintWords Go.Proofs.YtkmkgpigmldhnaaDoorW.PrintLast Go.Proofs.YtkmkgpigmldhnaaDoorW.PrintMore
attribute [local go_sem] max2_int min2_int max_two min_two max_three min_three max_four min_four
set_option linter.unusedVariables false
set_option linter.unusedSimpArgs false
def wire_digits.l0 : Nat → ByteArray → Int → Int → Option (Int × Int × Int)
  | 0, _, _, _ => none
  | k + 1, x0, x2, x7 => if x7 < 4 then (if x7 ≥ (x0.size : Int) then (some (0, 0, 2)) else (if 0 ≤ x7 then (if x7 < (x0.size : Int) then (if 0 ≤ (wrap64 (7 * x7)) then (if (bt x0 x7) ≥ 128 then (wire_digits.l0 k x0 (Go.bits .or .u32 x2 (shl .u32 ((Go.bits .andNot .u8 (bt x0 x7) 128) % 4294967296) (wrap64 (7 * x7)))) (wrap64 (x7 + 1))) else (if (bt x0 x7) = 0 then (if x7 > 0 then (some (0, 0, 3)) else (some (Go.bits .or .u32 x2 (shl .u32 ((Go.bits .andNot .u8 (bt x0 x7) 128) % 4294967296) (wrap64 (7 * x7))), wrap64 (x7 + 1), 0))) else (some (Go.bits .or .u32 x2 (shl .u32 ((Go.bits .andNot .u8 (bt x0 x7) 128) % 4294967296) (wrap64 (7 * x7))), wrap64 (x7 + 1), 0)))) else (none)) else (none)) else (none))) else (some (0, 0, 3))
def wire_digits.f (k : Nat) (a0 : ByteArray) : Option (Int × Int × Int) := wire_digits.l0 k a0 0 0
theorem z71m0 {p : Prop} (h : p := by
 repeat' first
 | (with_reducible exact ih0 _ _ _)
 | (with_reducible exact LeO.refl _)
 | (with_reducible exact LeO.none _)
 | (with_reducible refine LeO.ite ?_ ?_)
 | (with_reducible refine LeO.bind ?_ (fun _ => ?_))
 | exact ih0 _ _ _
 | exact LeO.none _
 | refine LeO.ite ?_ ?_
 | refine LeO.bind ?_ (fun _ => ?_)) : p := h
theorem wire_digits.mono_l : ∀ k, (∀ y0 y1 y2, LeO (wire_digits.l0 k y0 y1 y2) (wire_digits.l0 (k + 1) y0 y1 y2))
  | 0 => fun _ _ _ r h => by simp [wire_digits.l0] at h
  | k + 1 => by
    have ih0 := wire_digits.mono_l k
    · intro y0 y1 y2
      unfold wire_digits.l0
      exact z71m0
theorem wire_digits.mono : ∀ a0 k, LeO (wire_digits.f k a0) (wire_digits.f (k + 1) a0) := by
  intro a0 k
  have ih0 := wire_digits.mono_l k
  unfold wire_digits.f
  exact z71m0
theorem z71z0 {p : Prop} (h : p := by first | (with_reducible assumption) | assumption) : p := h
theorem z71z1 {p : Prop} (h : p := by first | rfl | (simp; done) | (simp [*]; done)) : p := h
set_option maxHeartbeats 8000000 in
set_option maxRecDepth 100000 in
theorem wire_digits.calls (k : Nat) (a0 : ByteArray) (r1 : Int) (r2 : Int) (r3 : Int) (w : World) (h : wire_digits.f k a0 = some (r1, r2, r3)) :
  Calls Tryd.prog 71 #[.string a0] w fun e w' => e = .returned (.tuple #[.int .u32 r1, .int .i64 r2, .int .i64 r3]) ∧ Drawn0 w w' := by
 have H : (wire_digits.l0 k a0 0 0) = some (r1, r2, r3) := h
 clear h
 have H' := Aside0.mk H
 clear H
 go_enter Tryd.func71, Tryd.ntmps71
 go_wp2
 go_loopg [2, 7] k (fun kq v2 v7 w' => ∃ (x2_1 : Int) (x7_1 : Int), v2 = .int .u32 x2_1 ∧ v7 = .int .i64 x7_1 ∧ Aside0 (wire_digits.l0 kq a0 x2_1 x7_1 = some (r1, r2, r3)) ∧ Aside0 (kq ≤ k) ∧ Drawn0 w w')
 case atStart => exact ⟨(0), (0), z71z1, z71z1, H', ⟨Nat.le_refl _⟩, by repeat (first | exact Drawn0.refl _ | apply Drawn0.step)⟩
 case round =>
  clear H'
  obtain ⟨x2_1, x7_1, rfl, rfl, HA, HK1, ⟨m1, rfl⟩⟩ := hrel
  cases gk with
  | zero => exact absurd HA.out (by simp [wire_digits.l0])
  | succ k1 =>
   have H := HA.out
   clear HA
   simp only [wire_digits.l0] at H
   by_cases c2 : x7_1 < 4
   ·rw [if_pos c2] at H
    have c2b0 : decide (x7_1 < 4) = true := decide_eq_true c2
    clear c2
    by_cases c3 : x7_1 ≥ (a0.size : Int)
    ·rw [if_pos c3] at H
     have c3b0 : decide ((a0.size : Int) ≤ x7_1) = true := decide_eq_true c3
     clear c3
     simp only [Option.some.injEq, Prod.mk.injEq] at H
     obtain ⟨rfl, rfl, rfl⟩ := H
     go_wp2
     go_ret3
     exact ⟨by first | rfl | (simp; done) | (simp [*]; done), by repeat (first | exact Drawn0.refl _ | apply Drawn0.step)⟩
    ·rw [if_neg c3] at H
     have c3b0 : decide ((a0.size : Int) ≤ x7_1) = false := decide_eq_false c3
     clear c3
     by_cases c4 : 0 ≤ x7_1
     ·rw [if_pos c4] at H
      have c4b0 : decide (0 ≤ x7_1) = true := decide_eq_true c4
      clear c4
      by_cases c5 : x7_1 < (a0.size : Int)
      ·rw [if_pos c5] at H
       have c5b0 : decide (x7_1 < (a0.size : Int)) = true := decide_eq_true c5
       clear c5
       obtain ⟨ji7, hji7⟩ : ∃ j_ : Int, (wrap64 (7 * x7_1)) = j_ := ⟨_, rfl⟩
       replace H : (if 0 ≤ (ji7) then (if (bt a0 x7_1) ≥ 128 then (wire_digits.l0 k1 a0 (Go.bits .or .u32 x2_1 (shl .u32 ((Go.bits .andNot .u8 (bt a0 x7_1) 128) % 4294967296) (ji7))) (wrap64 (x7_1 + 1))) else (if (bt a0 x7_1) = 0 then (if x7_1 > 0 then (some (0, 0, 3)) else (some (Go.bits .or .u32 x2_1 (shl .u32 ((Go.bits .andNot .u8 (bt a0 x7_1) 128) % 4294967296) (ji7)), wrap64 (x7_1 + 1), 0))) else (some (Go.bits .or .u32 x2_1 (shl .u32 ((Go.bits .andNot .u8 (bt a0 x7_1) 128) % 4294967296) (ji7)), wrap64 (x7_1 + 1), 0)))) else (none)) = some (r1, r2, r3) := by first | (rw [hji7] at H; exact H) | (simp only [hji7] at H ⊢; exact H)
       have hji7w : (IntKind.i64.wrap (7 * x7_1)) = ji7 := (i64_w _).trans hji7
       by_cases c8 : 0 ≤ (ji7)
       ·rw [if_pos c8] at H
        have c8b0 := eq_true c8
        have c8b1 : decide (0 ≤ (ji7)) = true := decide_eq_true c8
        clear c8
        obtain ⟨ji9, hji9⟩ : ∃ j_ : Int, (shl .u32 ((Go.bits .andNot .u8 (bt a0 x7_1) 128) % 4294967296) (ji7)) = j_ := ⟨_, rfl⟩
        replace H : (if (bt a0 x7_1) ≥ 128 then (wire_digits.l0 k1 a0 (Go.bits .or .u32 x2_1 (ji9)) (wrap64 (x7_1 + 1))) else (if (bt a0 x7_1) = 0 then (if x7_1 > 0 then (some (0, 0, 3)) else (some (Go.bits .or .u32 x2_1 (ji9), wrap64 (x7_1 + 1), 0))) else (some (Go.bits .or .u32 x2_1 (ji9), wrap64 (x7_1 + 1), 0)))) = some (r1, r2, r3) := by first | (rw [hji9] at H; exact H) | (simp only [hji9] at H ⊢; exact H)
        have hji9_ : (IntKind.u32.wrap (((Go.bits .andNot .u8 (bt a0 x7_1) 128) % 4294967296) * 2 ^ min (ji7).toNat 32)) = ji9 := hji9
        have hji9z : (ji7) ≤ 32 → (IntKind.u32.wrap (((Go.bits .andNot .u8 (bt a0 x7_1) 128) % 4294967296) * 2 ^ (ji7).toNat)) = ji9 := shl_small hji9
        by_cases c10 : (bt a0 x7_1) ≥ 128
        ·rw [if_pos c10] at H
         have c10b0 : decide (128 ≤ (bt a0 x7_1)) = true := decide_eq_true c10
         clear c10
         have H' := Aside0.mk H
         clear H
         have p6 : 0 ≤ (x7_1 : Int) := of_decide_eq_true z71z0
         have q6 : x7_1 < (a0.size : Int) := of_decide_eq_true z71z0
         have hx6 := bt_at a0 x7_1
         replace p6 := eq_true p6
         replace q6 := eq_true q6
         go_wp2
         go_roundg k1
         case measure => have := HK1.out; omega
         case rel => exact ⟨(Go.bits .or .u32 x2_1 (ji9)), (wrap64 (x7_1 + 1)), (by first | rfl | (simp; done) | (simp only [← hji9] <;> (first | rfl | simp)) | (simp [*]; done)), z71z1, H', ⟨by have := HK1.out; omega⟩, by repeat (first | exact Drawn0.refl _ | apply Drawn0.step)⟩
        ·rw [if_neg c10] at H
         have c10b0 : decide (128 ≤ (bt a0 x7_1)) = false := decide_eq_false c10
         clear c10
         by_cases c11 : (bt a0 x7_1) = 0
         ·rw [if_pos c11] at H
          have c11b0 : ((bt a0 x7_1) == 0) = true := beq_iff_eq.mpr c11
          have c11b1 : ((bt a0 x7_1) != 0) = false := bne_eq_false_iff_eq.mpr c11
          clear c11
          by_cases c12 : x7_1 > 0
          ·rw [if_pos c12] at H
           have c12b0 : decide (0 < x7_1) = true := decide_eq_true c12
           clear c12
           simp only [Option.some.injEq, Prod.mk.injEq] at H
           obtain ⟨rfl, rfl, rfl⟩ := H
           have p6 : 0 ≤ (x7_1 : Int) := of_decide_eq_true z71z0
           have q6 : x7_1 < (a0.size : Int) := of_decide_eq_true z71z0
           have hx6 := bt_at a0 x7_1
           replace p6 := eq_true p6
           replace q6 := eq_true q6
           go_wp2
           go_ret3
           exact ⟨by first | rfl | (simp; done) | (simp only [← hji7, ← hji9] <;> (first | rfl | simp)) | (simp [*]; done), by repeat (first | exact Drawn0.refl _ | apply Drawn0.step)⟩
          ·rw [if_neg c12] at H
           have c12b0 : decide (0 < x7_1) = false := decide_eq_false c12
           clear c12
           simp only [Option.some.injEq, Prod.mk.injEq] at H
           obtain ⟨rfl, rfl, rfl⟩ := H
           have p6 : 0 ≤ (x7_1 : Int) := of_decide_eq_true z71z0
           have q6 : x7_1 < (a0.size : Int) := of_decide_eq_true z71z0
           have hx6 := bt_at a0 x7_1
           replace p6 := eq_true p6
           replace q6 := eq_true q6
           go_wp2
           go_ret3
           exact ⟨by first | rfl | (simp; done) | (simp only [← hji7, ← hji9] <;> (first | rfl | simp)) | (simp [*]; done), by repeat (first | exact Drawn0.refl _ | apply Drawn0.step)⟩
         ·rw [if_neg c11] at H
          have c11b0 : ((bt a0 x7_1) == 0) = false := beq_eq_false_iff_ne.mpr c11
          have c11b1 : ((bt a0 x7_1) != 0) = true := bne_iff_ne.mpr c11
          simp only [Option.some.injEq, Prod.mk.injEq] at H
          obtain ⟨rfl, rfl, rfl⟩ := H
          have p6 : 0 ≤ (x7_1 : Int) := of_decide_eq_true z71z0
          have q6 : x7_1 < (a0.size : Int) := of_decide_eq_true z71z0
          have hx6 := bt_at a0 x7_1
          replace p6 := eq_true p6
          replace q6 := eq_true q6
          go_wp2
          go_ret3
          exact ⟨by first | rfl | (simp; done) | (simp only [← hji7, ← hji9] <;> (first | rfl | simp)) | (simp [*]; done), by repeat (first | exact Drawn0.refl _ | apply Drawn0.step)⟩
       ·rw [if_neg c8] at H
        exact absurd H (by simp)
      ·rw [if_neg c5] at H
       exact absurd H (by simp)
     ·rw [if_neg c4] at H
      exact absurd H (by simp)
   ·rw [if_neg c2] at H
    have c2b0 : decide (x7_1 < 4) = false := decide_eq_false c2
    clear c2
    simp only [Option.some.injEq, Prod.mk.injEq] at H
    obtain ⟨rfl, rfl, rfl⟩ := H
    go_wp2
    go_ret3
    exact ⟨by first | rfl | (simp; done) | (simp [*]; done), by repeat (first | exact Drawn0.refl _ | apply Drawn0.step)⟩
end Go.Proofs.YtkmkgpigmldhnaaDoor.P

namespace Go.Proofs.YtkmkgpigmldhnaaDoor.P
open Go.RowKit Go.Proofs.YtkmkgpigmldhnaaDoorW.PrintWords Go.Proofs.YtkmkgpigmldhnaaDoorW.PrintLast Go.Proofs.YtkmkgpigmldhnaaDoorW.PrintMore
attribute [local go_sem] max2_int min2_int max_two min_two max_three min_three max_four min_four
set_option linter.unusedVariables false
set_option linter.unusedSimpArgs false
def wire_Reader_Var.f (k : Nat) (s0_0 : ByteArray) (s0_1 : Int) : Option (Int × ByteArray × Int) := (wire_Reader_Err.f s0_0 s0_1).bind fun bt101 => (if bt101.1 = 0 then ((wire_digits.f k bt101.2.1).bind fun bt104 => (if 0 ≤ bt104.2.1 then (if bt104.2.1 ≤ (bt101.2.1.size : Int) then (some (bt104.1, bt101.2.1.extract (bt104.2.1 : Int).toNat bt101.2.1.size, bt104.2.2)) else (none)) else (none))) else (some (0, bt101.2.1, bt101.2.2)))
theorem wire_Reader_Var.mono : ∀ a0 a1 k, LeO (wire_Reader_Var.f k a0 a1) (wire_Reader_Var.f (k + 1) a0 a1) := by
  intro a0 a1 k
  unfold wire_Reader_Var.f
  repeat' first
      | (with_reducible exact wire_digits.mono _ _)
      | (with_reducible exact LeO.refl _)
      | (with_reducible exact LeO.none _)
      | (with_reducible refine LeO.ite ?_ ?_)
      | (with_reducible refine LeO.bind ?_ (fun _ => ?_))
      | exact wire_digits.mono _ _
      | exact LeO.none _
      | refine LeO.ite ?_ ?_
      | refine LeO.bind ?_ (fun _ => ?_)
theorem z43z0 {p : Prop} (h : p := by repeat (first | (with_reducible first | exact HK.out | apply KeepBut.set_ | apply keep_drewN | apply keep_drew | apply keep_alloc) | exact HK.out)) : p := h
theorem z43z1 {p : Prop} (h : p := by (try simp only [List.map_toArray, List.map_cons, List.map_nil]); first | done | rfl | (simp only [List.length_drop, List.length_take]; rfl)) : p := h
theorem z43z2 {p : Prop} (h : p := by repeat (first | (with_reducible first | exact HB.out | apply below_alloc | apply pw_below_drewN | apply below_drew1 | refine below_set ?_ (IsS78.ge HI0.out)) | exact HB.out)) : p := h
theorem z43z3 {p : Prop} (h : p := by repeat (first | (with_reducible first | exact HI0.out | apply IsS78.alloc | apply IsS78.drewN | apply IsS78.drew | apply IsS78.set_0 | apply IsS78.set_1) | exact HI0.out)) : p := h
set_option maxHeartbeats 8000000 in
set_option maxRecDepth 100000 in
theorem wire_Reader_Var.calls (k : Nat) (g : Nat) (s0_0 : ByteArray) (s0_1 : Int) (r1 : Int) (r2 : ByteArray) (r3 : Int) (w0 w : World) (hI : IsS78 w0 w g s0_0 s0_1) (hB : Below w0.heap.size w0 w) (h : wire_Reader_Var.f k s0_0 s0_1 = some (r1, r2, r3)) :
  Calls Tryd.prog 43 #[.pointer (some ⟨g, 0, none⟩)] w fun e w' => e = .returned (.int .u32 r1) ∧ IsS78 w0 w' g r2 r3 ∧ Below w0.heap.size w0 w' ∧ KeepBut w w' g none := by
 have HI0 := Aside0.mk hI
 have HK := Aside0.mk (KeepBut.refl w g none)
 have HL := Aside0.mk hB.size
 clear hI
 have HW0 := Aside0.mk hB.size
 have HB := Aside0.mk hB
 clear hB
 have H : ((wire_Reader_Err.f s0_0 s0_1).bind fun bt101 => (if bt101.1 = 0 then ((wire_digits.f k bt101.2.1).bind fun bt104 => (if 0 ≤ bt104.2.1 then (if bt104.2.1 ≤ (bt101.2.1.size : Int) then (some (bt104.1, bt101.2.1.extract (bt104.2.1 : Int).toNat bt101.2.1.size, bt104.2.2)) else (none)) else (none))) else (some (0, bt101.2.1, bt101.2.2)))) = some (r1, r2, r3) := h
 clear h
 replace H := Option.bind_eq_some_iff.mp H
 obtain ⟨⟨t101, t102, t103⟩, A20, H⟩ := H
 replace H : (if t101 = 0 then ((wire_digits.f k t102).bind fun bt104 => (if 0 ≤ bt104.2.1 then (if bt104.2.1 ≤ (t102.size : Int) then (some (bt104.1, t102.extract (bt104.2.1 : Int).toNat t102.size, bt104.2.2)) else (none)) else (none))) else (some (0, t102, t103))) = some (r1, r2, r3) := H
 have A2 := Aside0.mk A20
 clear A20
 by_cases c3 : t101 = 0
 ·rw [if_pos c3] at H
  have c3b0 : (t101 == 0) = true := beq_iff_eq.mpr c3
  have c3b1 : (t101 != 0) = false := bne_eq_false_iff_eq.mpr c3
  clear c3
  replace H := Option.bind_eq_some_iff.mp H
  obtain ⟨⟨t104, t105, t106⟩, A40, H⟩ := H
  replace H : (if 0 ≤ t105 then (if t105 ≤ (t102.size : Int) then (some (t104, t102.extract (t105 : Int).toNat t102.size, t106)) else (none)) else (none)) = some (r1, r2, r3) := H
  have A4 := Aside0.mk A40
  clear A40
  by_cases c5 : 0 ≤ t105
  ·rw [if_pos c5] at H
   have c5b0 := eq_true c5
   have c5b1 : decide (0 ≤ t105) = true := decide_eq_true c5
   clear c5
   by_cases c6 : t105 ≤ (t102.size : Int)
   ·rw [if_pos c6] at H
    have c6b0 := eq_true c6
    have c6b1 : decide (t105 ≤ (t102.size : Int)) = true := decide_eq_true c6
    clear c6
    simp only [Option.some.injEq, Prod.mk.injEq] at H
    obtain ⟨rfl, rfl, rfl⟩ := H
    go_enter Tryd.func43, Tryd.ntmps43
    go_wp2_with (first | ((with_reducible refine gate_callee (f := 22) rfl ?_); refine goesL_ (some 7) rfl rfl Tryd.func22 (by kernel_rfl) rfl #[.pointer (some ⟨g, 0, none⟩)] rfl z43z1 ?_; (with_reducible refine (wire_Reader_Err.calls g s0_0 s0_1 t101 t102 t103 w0 _ ?side1 ?side2 A2.out).mono ?_); (case side1 => exact z43z3); (case side2 => exact z43z2); rintro e w7 ⟨rfl, hi, hb, hk⟩; refine ⟨_, rfl, ?_⟩; have n0_ := Aside0.mk (KeepBut.trans z43z0 hk (.inl rfl)); have n1_ := Aside0.mk (hb); have n2_ := Aside0.mk (hi); replace HK := n0_; replace HB := n1_; replace HI0 := n2_; clear n0_ n1_ n2_; clear hb hk hi; obtain ⟨HGz8, hgz8⟩ := HI0.out; have hcz8_0 := cellS78_0 HGz8; have hcz8_1 := cellS78_1 HGz8; have hfz8_0 := blk_frozen HGz8 0; have hfz8_1 := blk_frozen HGz8 1; clear HGz8 hgz8) | ((with_reducible refine gate_callee (f := 71) rfl ?_); refine goesL_ (some 14) rfl rfl Tryd.func71 (by kernel_rfl) rfl #[.string t102] rfl z43z1 ?_; (with_reducible refine (wire_digits.calls k t102 t104 t105 t106 _ A4.out).mono ?_); rintro e w' ⟨rfl, ⟨nd, rfl⟩⟩; refine ⟨_, rfl, ?_⟩; (try (rw [drewN_self w7]; generalize hq_ : World.drewN w7 _ = w7; have n0_ : Aside0 (IsS78 w0 w7 g t102 t103) := ⟨by rw [← hq_]; exact z43z3⟩; have n1_ : Aside0 (KeepBut w w7 g none) := ⟨by rw [← hq_]; exact z43z0⟩; have n2_ : Aside0 (Below w0.heap.size w0 w7) := ⟨by rw [← hq_]; exact z43z2⟩; clear HI0 HK HB hq_; have HI0 := n0_; have HK := n1_; have HB := n2_; clear n0_ n1_ n2_; (try (obtain ⟨HGzq_, hgzq_⟩ := HI0.out; have hczq_0 := cellS78_0 HGzq_; have hfzq_0 := blk_frozen HGzq_ 0; have hczq_1 := cellS78_1 HGzq_; have hfzq_1 := blk_frozen HGzq_ 1; clear HGzq_ hgzq_))))))
    go_ret
    exact ⟨by first | rfl | (simp [errW_none, errW_some] <;> rfl) | (simp [*, errW_none, errW_some] <;> rfl), by repeat (first | (with_reducible first | exact HI0.out | apply IsS78.alloc | apply IsS78.drewN | apply IsS78.drew | apply IsS78.set_0 | apply IsS78.set_1) | exact HI0.out), by repeat (first | (with_reducible first | exact HB.out | apply below_alloc | apply pw_below_drewN | apply below_drew1 | refine below_set ?_ (IsS78.ge HI0.out)) | exact HB.out), by repeat (first | (with_reducible first | exact HK.out | apply KeepBut.set_ | apply keep_drewN | apply keep_drew | apply keep_alloc) | exact HK.out)⟩
   ·rw [if_neg c6] at H
    exact absurd H (by simp)
  ·rw [if_neg c5] at H
   exact absurd H (by simp)
 ·rw [if_neg c3] at H
  have c3b0 : (t101 == 0) = false := beq_eq_false_iff_ne.mpr c3
  have c3b1 : (t101 != 0) = true := bne_iff_ne.mpr c3
  simp only [Option.some.injEq, Prod.mk.injEq] at H
  obtain ⟨rfl, rfl, rfl⟩ := H
  go_enter Tryd.func43, Tryd.ntmps43
  go_wp2_with (first | ((with_reducible refine gate_callee (f := 22) rfl ?_); refine goesL_ (some 7) rfl rfl Tryd.func22 (by kernel_rfl) rfl #[.pointer (some ⟨g, 0, none⟩)] rfl z43z1 ?_; (with_reducible refine (wire_Reader_Err.calls g s0_0 s0_1 t101 t102 t103 w0 _ ?side1 ?side2 A2.out).mono ?_); (case side1 => exact z43z3); (case side2 => exact z43z2); rintro e w9 ⟨rfl, hi, hb, hk⟩; refine ⟨_, rfl, ?_⟩; have n0_ := Aside0.mk (KeepBut.trans z43z0 hk (.inl rfl)); have n1_ := Aside0.mk (hb); have n2_ := Aside0.mk (hi); replace HK := n0_; replace HB := n1_; replace HI0 := n2_; clear n0_ n1_ n2_; clear hb hk hi))
  go_ret
  exact ⟨by first | rfl | (simp [errW_none, errW_some] <;> rfl) | (simp [*, errW_none, errW_some] <;> rfl), by repeat (first | (with_reducible first | exact HI0.out | apply IsS78.alloc | apply IsS78.drewN | apply IsS78.drew | apply IsS78.set_0 | apply IsS78.set_1) | exact HI0.out), by repeat (first | (with_reducible first | exact HB.out | apply below_alloc | apply pw_below_drewN | apply below_drew1 | refine below_set ?_ (IsS78.ge HI0.out)) | exact HB.out), by repeat (first | (with_reducible first | exact HK.out | apply KeepBut.set_ | apply keep_drewN | apply keep_drew | apply keep_alloc) | exact HK.out)⟩
end Go.Proofs.YtkmkgpigmldhnaaDoor.P

namespace Go.Proofs.YtkmkgpigmldhnaaDoor.P
open Go.RowKit Go.Proofs.YtkmkgpigmldhnaaDoorW.PrintWords
def utf8_ValidString.f (a0 : ByteArray) : Option Bool := if a0.size ≤ 9223372036854775807 then some (Go.Lib.validD a0.data.toList) else none
theorem utf8_ValidString.calls (a0 : ByteArray) (r : Bool) (w : World) (hG : GW w) (h : utf8_ValidString.f a0 = some r) :
    Calls Tryd.prog 103 #[.string a0] w fun e w' => e = .returned (.bool r) ∧ Below w.heap.size w w' := by
  unfold utf8_ValidString.f at h
  split at h
  · obtain rfl := Option.some.inj h
    exact Any.utf8_ValidString Tryd.lays196 a0 w ‹_› hG.1
  · cases h
def strings_Contains.f (a0 a1 : ByteArray) : Option Bool := if a0.size < 4294967281 then some (Go.Lib.contains a0.data.toList a1.data.toList) else none
theorem strings_Contains.calls (a0 : ByteArray) (a1 : ByteArray) (r : Bool) (w : World) (hG : GW w) (h : strings_Contains.f a0 a1 = some r) :
    Calls Tryd.prog 104 #[.string a0, .string a1] w fun e w' => e = .returned (.bool r) ∧ Drawn0 w w' := by
  unfold strings_Contains.f at h
  split at h
  · obtain rfl := Option.some.inj h
    obtain ⟨m, hm⟩ := hG.2
    exact (Tryd.strings_Contains a0 a1 m w ‹_› hm).mono fun e w' ⟨he, hw⟩ => ⟨he, hw ▸ Drawn0.refl _⟩
  · cases h
end Go.Proofs.YtkmkgpigmldhnaaDoor.P

namespace Go.Proofs.YtkmkgpigmldhnaaDoor.P
open Go.RowKit Go.Proofs.YtkmkgpigmldhnaaDoorW.PrintWords Go.Proofs.YtkmkgpigmldhnaaDoorW.PrintLast Go.Proofs.YtkmkgpigmldhnaaDoorW.PrintMore
attribute [local go_sem] max2_int min2_int max_two min_two max_three min_three max_four min_four
set_option linter.unusedVariables false
set_option linter.unusedSimpArgs false
def text_Right.f (a0 : ByteArray) : Option (Bool) := if (a0.size : Int) ≤ 65535 then ((utf8_ValidString.f a0).bind fun t101 => (if t101 = true then ((strings_Contains.f a0 (⟨#[0]⟩ : ByteArray)).bind fun t102 => (some (!t102))) else (some false))) else (some false)
theorem z88z0 {p : Prop} (h : p := by repeat (first | (with_reducible first | exact HB.out | apply below_alloc | apply pw_below_drewN | apply below_drew1) | exact HB.out)) : p := h
set_option maxHeartbeats 8000000 in
set_option maxRecDepth 100000 in
theorem text_Right.calls (a0 : ByteArray) (r : Bool) (w : World) (hG : GW w) (h : text_Right.f a0 = some r) :
  Calls Tryd.prog 88 #[.string a0] w fun e w' => e = .returned (.bool r) ∧ Below w.heap.size w w' := by
 have HB := Aside0.mk (Below.refl w.heap.size w)
 have HG := Aside0.mk hG
 clear hG
 have H : (if (a0.size : Int) ≤ 65535 then ((utf8_ValidString.f a0).bind fun t101 => (if t101 = true then ((strings_Contains.f a0 (⟨#[0]⟩ : ByteArray)).bind fun t102 => (some (!t102))) else (some false))) else (some false)) = some r := h
 clear h
 by_cases c2 : (a0.size : Int) ≤ 65535
 ·rw [if_pos c2] at H
  have c2b0 : decide ((a0.size : Int) ≤ 65535) = true := decide_eq_true c2
  have c2b1 : decide (a0.size ≤ 65535) = true := decide_eq_true (by omega)
  clear c2
  replace H := Option.bind_eq_some_iff.mp H
  obtain ⟨t101, A30, H⟩ := H
  replace H : (if t101 = true then ((strings_Contains.f a0 (⟨#[0]⟩ : ByteArray)).bind fun t102 => (some (!t102))) else (some false)) = some r := H
  have A3 := Aside0.mk A30
  clear A30
  by_cases c4 : t101 = true
  ·subst c4
   have H1 : ((strings_Contains.f a0 (⟨#[0]⟩ : ByteArray)).bind fun t102 => (some (!t102))) = some r := by rw [if_pos rfl] at H; exact H
   clear H
   have H := H1
   clear H1
   replace H := Option.bind_eq_some_iff.mp H
   obtain ⟨t102, A50, H⟩ := H
   replace H : (some (!t102)) = some r := H
   have A5 := Aside0.mk A50
   clear A50
   obtain rfl := Option.some.inj H
   go_enter Tryd.func88, Tryd.ntmps88
   go_wp2_with (first | (go_at_call 103; (with_reducible refine (utf8_ValidString.calls a0 true _ ?side1 A3.out).mono ?_); (case side1 => exact GW.below HG.out z88z0); rintro e w6 ⟨rfl, hb⟩; have n0_ := Aside0.mk (below_step z88z0 hb); replace HB := n0_; clear n0_; clear hb) | (go_at_call 104; (with_reducible refine (strings_Contains.calls a0 (⟨#[0]⟩ : ByteArray) t102 _ ?side1 A5.out).mono ?_); (case side1 => exact GW.below HG.out z88z0); rintro e w' ⟨rfl, ⟨nd, rfl⟩⟩))
   go_ret
   exact ⟨by first | rfl | (simp [errW_none, errW_some] <;> rfl) | (simp [*, errW_none, errW_some] <;> rfl), by repeat (first | (with_reducible first | exact HB.out | apply below_alloc | apply pw_below_drewN | apply below_drew1) | exact HB.out)⟩
  ·replace c4 := Bool.eq_false_iff.mpr c4
   subst c4
   have H1 : (some false) = some r := by rw [if_neg (show ¬ (false = true) by decide)] at H; exact H
   clear H
   have H := H1
   clear H1
   obtain rfl := Option.some.inj H
   go_enter Tryd.func88, Tryd.ntmps88
   go_wp2_with (first | (go_at_call 103; (with_reducible refine (utf8_ValidString.calls a0 false _ ?side1 A3.out).mono ?_); (case side1 => exact GW.below HG.out z88z0); rintro e w7 ⟨rfl, hb⟩; have n0_ := Aside0.mk (below_step z88z0 hb); replace HB := n0_; clear n0_; clear hb))
   go_ret
   exact ⟨by first | rfl | (simp [errW_none, errW_some] <;> rfl) | (simp [*, errW_none, errW_some] <;> rfl), by repeat (first | (with_reducible first | exact HB.out | apply below_alloc | apply pw_below_drewN | apply below_drew1) | exact HB.out)⟩
 ·rw [if_neg c2] at H
  have c2b0 : decide ((a0.size : Int) ≤ 65535) = false := decide_eq_false c2
  have c2b1 : decide (a0.size ≤ 65535) = false := decide_eq_false (by omega)
  clear c2
  obtain rfl := Option.some.inj H
  go_enter Tryd.func88, Tryd.ntmps88
  go_wp2
  go_ret
  exact ⟨by first | rfl | (simp [errW_none, errW_some] <;> rfl) | (simp [*, errW_none, errW_some] <;> rfl), by repeat (first | (with_reducible first | exact HB.out | apply below_alloc | apply pw_below_drewN | apply below_drew1) | exact HB.out)⟩
end Go.Proofs.YtkmkgpigmldhnaaDoor.P

namespace Go.Proofs.YtkmkgpigmldhnaaDoor.P
open Go.RowKit Go.Proofs.YtkmkgpigmldhnaaDoorW.PrintWords Go.Proofs.YtkmkgpigmldhnaaDoorW.PrintLast Go.Proofs.YtkmkgpigmldhnaaDoorW.PrintMore
attribute [local go_sem] max2_int min2_int max_two min_two max_three min_three max_four min_four
set_option linter.unusedVariables false
set_option linter.unusedSimpArgs false
def prop_Right.j0 : Nat → Bool → Bool → Int → Int → ByteArray → ByteArray → Option (Bool)
  | 0, _, _, _, _, _, _ => none
  | k + 1, x3, x4, x102000, x102001, x102002, x102003 => (prop_Type.f x102000).bind fun t102 => (if t102 = 1 then (if x102001 < 256 then (some x3) else (some false)) else (if t102 = 2 then (if x102001 < 65536 then (some x3) else (some false)) else (if t102 = 3 then (some x3) else (if t102 = 4 then (if x102001 ≤ 268435455 then (some x3) else (some false)) else (if t102 = 5 then (if x4 = true then ((text_Right.f x102002).bind fun t103 => (if t103 = true then (some (x102003.toList == ([] : List UInt8))) else (some false))) else (some false)) else (if t102 = 6 then (if x4 = true then (if (x102002.size : Int) ≤ 65535 then (some (x102003.toList == ([] : List UInt8))) else (some false)) else (some false)) else (if t102 = 7 then (if x4 = true then ((text_Right.f x102002).bind fun t104 => (if t104 = true then ((text_Right.f x102003).bind fun t105 => (some t105)) else (some false))) else (some false)) else (some false))))))))
def prop_Right.f (k : Nat) (a0_0 : Int) (a0_1 : Int) (a0_2 : ByteArray) (a0_3 : ByteArray) : Option (Bool) := if a0_2.toList = ([] : List UInt8) then (prop_Right.j0 k (a0_3.toList == ([] : List UInt8)) (a0_1 == 0) a0_0 a0_1 a0_2 a0_3) else (prop_Right.j0 k false (a0_1 == 0) a0_0 a0_1 a0_2 a0_3)
theorem z65m0 {p : Prop} (h : p := by
 repeat' first
 | (with_reducible exact ih0 _ _ _ _ _ _)
 | (with_reducible exact LeO.refl _)
 | (with_reducible exact LeO.none _)
 | (with_reducible refine LeO.ite ?_ ?_)
 | (with_reducible refine LeO.bind ?_ (fun _ => ?_))
 | exact ih0 _ _ _ _ _ _
 | exact LeO.none _
 | refine LeO.ite ?_ ?_
 | refine LeO.bind ?_ (fun _ => ?_)) : p := h
theorem prop_Right.mono_l : ∀ k, (∀ y0 y1 y2 y3 y4 y5, LeO (prop_Right.j0 k y0 y1 y2 y3 y4 y5) (prop_Right.j0 (k + 1) y0 y1 y2 y3 y4 y5))
  | 0 => fun _ _ _ _ _ _ r h => by simp [prop_Right.j0] at h
  | k + 1 => by
    have ih0 := prop_Right.mono_l k
    · intro y0 y1 y2 y3 y4 y5
      unfold prop_Right.j0
      exact z65m0
theorem prop_Right.mono : ∀ a0 a1 a2 a3 k, LeO (prop_Right.f k a0 a1 a2 a3) (prop_Right.f (k + 1) a0 a1 a2 a3) := by
  intro a0 a1 a2 a3 k
  have ih0 := prop_Right.mono_l k
  unfold prop_Right.f
  exact z65m0
theorem z65z0 {p : Prop} (h : p := by repeat (first | (with_reducible first | exact HB.out | apply below_alloc | apply pw_below_drewN | apply below_drew1 | refine below_set ?_ GE101.out) | exact HB.out)) : p := h
theorem z65z1 {p : Prop} (h : p := by (with_reducible repeat (first | refine blk_drewN ?_ _ | refine blk_drew ?_ | refine blk_alloc ?_ _)); exact BK101.out) : p := h
theorem z65z2 {p : Prop} (h : p := by repeat (first | (with_reducible first | exact HB.out | apply below_alloc | apply pw_below_drewN | apply below_drew1) | exact HB.out)) : p := h
theorem z65z3 {p : Prop} (h : p := by exact GW.below HG.out z65z0) : p := h
theorem z65z4 {p : Prop} (h : p := by first | rfl | (simp; done) | (simp [*]; done)) : p := h
set_option maxHeartbeats 8000000 in
set_option maxRecDepth 100000 in
theorem prop_Right.calls (k : Nat) (a0_0 : Int) (a0_1 : Int) (a0_2 : ByteArray) (a0_3 : ByteArray) (r : Bool) (w : World) (hG : GW w) (h : prop_Right.f k a0_0 a0_1 a0_2 a0_3 = some r) :
  Calls Tryd.prog 65 #[.agg #[.int .u8 a0_0, .int .u32 a0_1, .string a0_2, .string a0_3]] w fun e w' => e = .returned (.bool r) ∧ Below w.heap.size w w' := by
 have hu60 := Tryd.underlying60
 have HB := Aside0.mk (Below.refl w.heap.size w)
 have HG := Aside0.mk hG
 clear hG
 have H : (if a0_2.toList = ([] : List UInt8) then (prop_Right.j0 k (a0_3.toList == ([] : List UInt8)) (a0_1 == 0) a0_0 a0_1 a0_2 a0_3) else (prop_Right.j0 k false (a0_1 == 0) a0_0 a0_1 a0_2 a0_3)) = some r := h
 clear h
 have HC2 := Aside0.mk H
 clear H
 go_enter Tryd.func65, Tryd.ntmps65
 go_upto_region 1 with (first | ((with_reducible refine gate_dst (N := 1) rfl ?_); refine box_event ?hg (N := 1) ?hd (cs := #[.int .u8 a0_0, .int .u32 a0_1, .string a0_2, .string a0_3]) (t := 60) ?hr ?_; (case hd => rfl); (case hg => rfl); (case hr => first | (go_simp; done) | (go_simp; rfl)); intro gb101 hg w3 hbox hb; have n0_ := Aside0.mk (below_step z65z2 hb); have n1_ := Aside0.mk (hbox); have n2_ := Aside0.mk ((by rw [hg]; exact (below_size z65z2) : w.heap.size ≤ gb101)); have n3_ := Aside0.mk ((by rw [hg]; exact (below_size z65z2) : w.heap.size ≤ gb101)); replace HB := n0_; have BK101 := n1_; have GW101 := n2_; have GE101 := n3_; clear n0_ n1_ n2_ n3_; clear hb hbox hg))
 repeat (go_quiet (first | ((with_reducible refine gate_dst (N := 1) rfl ?_); refine box_event ?hg (N := 1) ?hd (cs := #[.int .u8 a0_0, .int .u32 a0_1, .string a0_2, .string a0_3]) (t := 60) ?hr ?_; (case hd => rfl); (case hg => rfl); (case hr => first | (go_simp; done) | (go_simp; rfl)); intro gb101 hg w3 hbox hb; have n0_ := Aside0.mk (below_step z65z2 hb); have n1_ := Aside0.mk (hbox); have n2_ := Aside0.mk ((by rw [hg]; exact (below_size z65z2) : w.heap.size ≤ gb101)); have n3_ := Aside0.mk ((by rw [hg]; exact (below_size z65z2) : w.heap.size ≤ gb101)); replace HB := n0_; have BK101 := n1_; have GW101 := n2_; have GE101 := n3_; clear n0_ n1_ n2_ n3_; clear hb hbox hg)); go_upto_region 1 with (first | ((with_reducible refine gate_dst (N := 1) rfl ?_); refine box_event ?hg (N := 1) ?hd (cs := #[.int .u8 a0_0, .int .u32 a0_1, .string a0_2, .string a0_3]) (t := 60) ?hr ?_; (case hd => rfl); (case hg => rfl); (case hr => first | (go_simp; done) | (go_simp; rfl)); intro gb101 hg w3 hbox hb; have n0_ := Aside0.mk (below_step z65z2 hb); have n1_ := Aside0.mk (hbox); have n2_ := Aside0.mk ((by rw [hg]; exact (below_size z65z2) : w.heap.size ≤ gb101)); have n3_ := Aside0.mk ((by rw [hg]; exact (below_size z65z2) : w.heap.size ≤ gb101)); replace HB := n0_; have BK101 := n1_; have GW101 := n2_; have GE101 := n3_; clear n0_ n1_ n2_ n3_; clear hb hbox hg)))
 (try simp only [Act.put, List.setIfInBounds_toArray, List.set_cons_zero, List.set_cons_succ])
 go_cut [3, 4] (fun v3 v4 wc => ∃ (kq : Nat) (x3_1 : Bool) (x4_1 : Bool), v3 = .bool x3_1 ∧ v4 = .bool x4_1 ∧ Aside0 (prop_Right.j0 kq x3_1 x4_1 a0_0 a0_1 a0_2 a0_3 = some r) ∧ Aside0 (kq ≤ k) ∧ Aside0 (wc.heap[gb101]? = some (.cells #[.int .u8 a0_0, .int .u32 a0_1, .string a0_2, .string a0_3] 60 (0, 0))) ∧ Aside0 (Below w.heap.size w wc))
 case first =>
  have H := HC2.out
  clear HC2
  by_cases c4 : a0_2.toList = ([] : List UInt8)
  ·rw [if_pos c4] at H
   have c4b0 : (a0_2.toList == ([] : List UInt8)) = true := beq_iff_eq.mpr c4
   have c4b1 : (a0_2.toList != ([] : List UInt8)) = false := bne_eq_false_iff_eq.mpr c4
   clear c4
   (first | rw [c4b0] | (simp only [i64_w, i32_w]; rw [c4b0]) | skip)
   have H' := Aside0.mk H
   clear H
   have hcz5_0 := cc4_0 BK101.out
   have hcz5_1 := cc4_1 BK101.out
   have hcz5_2 := cc4_2 BK101.out
   have hcz5_3 := cc4_3 BK101.out
   have hfz5_0 := blk_frozen BK101.out 0
   have hfz5_1 := blk_frozen BK101.out 1
   have hfz5_2 := blk_frozen BK101.out 2
   have hfz5_3 := blk_frozen BK101.out 3
   go_wp2
   repeat (go_quiet (fail); try go_wp2)
   go_meet
   case rel => exact ⟨_, ((a0_3.toList == ([] : List UInt8))), ((a0_1 == 0)), z65z4, z65z4, H', ⟨by first | omega | exact Nat.le_refl _⟩, ⟨by (with_reducible repeat (first | refine blk_drewN ?_ _ | refine blk_drew ?_ | refine blk_alloc ?_ _)); exact BK101.out⟩, ⟨by repeat (first | (with_reducible first | exact HB.out | apply below_alloc | apply pw_below_drewN | apply below_drew1 | refine below_set ?_ GE101.out) | exact HB.out)⟩⟩
  ·rw [if_neg c4] at H
   have c4b0 : (a0_2.toList == ([] : List UInt8)) = false := beq_eq_false_iff_ne.mpr c4
   have c4b1 : (a0_2.toList != ([] : List UInt8)) = true := bne_iff_ne.mpr c4
   (first | rw [c4b0] | (simp only [i64_w, i32_w]; rw [c4b0]) | skip)
   have H' := Aside0.mk H
   clear H
   have hcz6_0 := cc4_0 BK101.out
   have hcz6_1 := cc4_1 BK101.out
   have hcz6_2 := cc4_2 BK101.out
   have hcz6_3 := cc4_3 BK101.out
   have hfz6_0 := blk_frozen BK101.out 0
   have hfz6_1 := blk_frozen BK101.out 1
   have hfz6_2 := blk_frozen BK101.out 2
   have hfz6_3 := blk_frozen BK101.out 3
   go_wp2
   repeat (go_quiet (fail); try go_wp2)
   go_meet
   case rel => exact ⟨_, (false), ((a0_1 == 0)), z65z4, z65z4, H', ⟨by first | omega | exact Nat.le_refl _⟩, ⟨by (with_reducible repeat (first | refine blk_drewN ?_ _ | refine blk_drew ?_ | refine blk_alloc ?_ _)); exact BK101.out⟩, ⟨by repeat (first | (with_reducible first | exact HB.out | apply below_alloc | apply pw_below_drewN | apply below_drew1 | refine below_set ?_ GE101.out) | exact HB.out)⟩⟩
 case rest =>
  clear HC2
  try clear p2
  try clear c4
  try clear c4b0
  try clear c4b1
  try clear c6
  try clear hcz5_0
  try clear hcz5_1
  try clear hcz5_2
  try clear hcz5_3
  try clear hcz6_0
  try clear hcz6_1
  try clear hcz6_2
  try clear hcz6_3
  try clear hfz5_0
  try clear hfz5_1
  try clear hfz5_2
  try clear hfz5_3
  try clear hfz6_0
  try clear hfz6_1
  try clear hfz6_2
  try clear hfz6_3
  obtain ⟨kq, x3_1, x4_1, rfl, rfl, HA, HJ1, BK101, HB⟩ := hcut
  cases kq with
  | zero => exact absurd HA.out (by simp [prop_Right.j0])
  | succ kj1 =>
   have H := HA.out
   clear HA
   simp only [prop_Right.j0] at H
   replace H := Option.bind_eq_some_iff.mp H
   obtain ⟨t102, A70, H⟩ := H
   replace H : (if t102 = 1 then (if a0_1 < 256 then (some x3_1) else (some false)) else (if t102 = 2 then (if a0_1 < 65536 then (some x3_1) else (some false)) else (if t102 = 3 then (some x3_1) else (if t102 = 4 then (if a0_1 ≤ 268435455 then (some x3_1) else (some false)) else (if t102 = 5 then (if x4_1 = true then ((text_Right.f a0_2).bind fun t103 => (if t103 = true then (some (a0_3.toList == ([] : List UInt8))) else (some false))) else (some false)) else (if t102 = 6 then (if x4_1 = true then (if (a0_2.size : Int) ≤ 65535 then (some (a0_3.toList == ([] : List UInt8))) else (some false)) else (some false)) else (if t102 = 7 then (if x4_1 = true then ((text_Right.f a0_2).bind fun t104 => (if t104 = true then ((text_Right.f a0_3).bind fun t105 => (some t105)) else (some false))) else (some false)) else (some false)))))))) = some r := H
   have A7 := Aside0.mk A70
   clear A70
   by_cases c8 : t102 = 1
   ·rw [if_pos c8] at H
    have c8b0 : (t102 == 1) = true := beq_iff_eq.mpr c8
    have c8b1 : (t102 != 1) = false := bne_eq_false_iff_eq.mpr c8
    clear c8
    by_cases c9 : a0_1 < 256
    ·rw [if_pos c9] at H
     have c9b0 : decide (a0_1 < 256) = true := decide_eq_true c9
     clear c9
     obtain rfl := Option.some.inj H
     have hcz10_0 := cc4_0 BK101.out
     have hcz10_1 := cc4_1 BK101.out
     have hcz10_2 := cc4_2 BK101.out
     have hcz10_3 := cc4_3 BK101.out
     have hfz10_0 := blk_frozen BK101.out 0
     have hfz10_1 := blk_frozen BK101.out 1
     have hfz10_2 := blk_frozen BK101.out 2
     have hfz10_3 := blk_frozen BK101.out 3
     go_wp2_with (first | (go_at_call 82; (with_reducible refine (prop_Type.calls a0_0 t102 _ A7.out).mono ?_); rintro e w11 ⟨rfl, hb⟩; have n0_ := Aside0.mk (blk_below (g := gb101) (o := .cells #[.int .u8 a0_0, .int .u32 a0_1, .string a0_2, .string a0_3] 60 (0, 0)) z65z1 hb); have n1_ := Aside0.mk (below_step z65z0 hb); replace BK101 := n0_; replace HB := n1_; clear n0_ n1_; clear hb; have hcz12_0 := cc4_0 BK101.out; have hcz12_1 := cc4_1 BK101.out; have hcz12_2 := cc4_2 BK101.out; have hcz12_3 := cc4_3 BK101.out))
     repeat (go_quiet (first | (go_at_call 82; (with_reducible refine (prop_Type.calls a0_0 t102 _ A7.out).mono ?_); rintro e w11 ⟨rfl, hb⟩; have n0_ := Aside0.mk (blk_below (g := gb101) (o := .cells #[.int .u8 a0_0, .int .u32 a0_1, .string a0_2, .string a0_3] 60 (0, 0)) z65z1 hb); have n1_ := Aside0.mk (below_step z65z0 hb); replace BK101 := n0_; replace HB := n1_; clear n0_ n1_; clear hb; have hcz12_0 := cc4_0 BK101.out; have hcz12_1 := cc4_1 BK101.out; have hcz12_2 := cc4_2 BK101.out; have hcz12_3 := cc4_3 BK101.out)); try go_wp2_with (first | (go_at_call 82; (with_reducible refine (prop_Type.calls a0_0 t102 _ A7.out).mono ?_); rintro e w11 ⟨rfl, hb⟩; have n0_ := Aside0.mk (blk_below (g := gb101) (o := .cells #[.int .u8 a0_0, .int .u32 a0_1, .string a0_2, .string a0_3] 60 (0, 0)) z65z1 hb); have n1_ := Aside0.mk (below_step z65z0 hb); replace BK101 := n0_; replace HB := n1_; clear n0_ n1_; clear hb; have hcz12_0 := cc4_0 BK101.out; have hcz12_1 := cc4_1 BK101.out; have hcz12_2 := cc4_2 BK101.out; have hcz12_3 := cc4_3 BK101.out)))
     go_ret
     exact ⟨by first | rfl | (simp [errW_none, errW_some] <;> rfl) | (simp [*, errW_none, errW_some] <;> rfl), by repeat (first | (with_reducible first | exact HB.out | apply below_alloc | apply pw_below_drewN | apply below_drew1 | refine below_set ?_ GE101.out) | exact HB.out)⟩
    ·rw [if_neg c9] at H
     have c9b0 : decide (a0_1 < 256) = false := decide_eq_false c9
     clear c9
     obtain rfl := Option.some.inj H
     have hcz13_0 := cc4_0 BK101.out
     have hcz13_1 := cc4_1 BK101.out
     have hcz13_2 := cc4_2 BK101.out
     have hcz13_3 := cc4_3 BK101.out
     have hfz13_0 := blk_frozen BK101.out 0
     have hfz13_1 := blk_frozen BK101.out 1
     have hfz13_2 := blk_frozen BK101.out 2
     have hfz13_3 := blk_frozen BK101.out 3
     go_wp2_with (first | (go_at_call 82; (with_reducible refine (prop_Type.calls a0_0 t102 _ A7.out).mono ?_); rintro e w14 ⟨rfl, hb⟩; have n0_ := Aside0.mk (blk_below (g := gb101) (o := .cells #[.int .u8 a0_0, .int .u32 a0_1, .string a0_2, .string a0_3] 60 (0, 0)) z65z1 hb); have n1_ := Aside0.mk (below_step z65z0 hb); replace BK101 := n0_; replace HB := n1_; clear n0_ n1_; clear hb; have hcz15_0 := cc4_0 BK101.out; have hcz15_1 := cc4_1 BK101.out; have hcz15_2 := cc4_2 BK101.out; have hcz15_3 := cc4_3 BK101.out))
     repeat (go_quiet (first | (go_at_call 82; (with_reducible refine (prop_Type.calls a0_0 t102 _ A7.out).mono ?_); rintro e w14 ⟨rfl, hb⟩; have n0_ := Aside0.mk (blk_below (g := gb101) (o := .cells #[.int .u8 a0_0, .int .u32 a0_1, .string a0_2, .string a0_3] 60 (0, 0)) z65z1 hb); have n1_ := Aside0.mk (below_step z65z0 hb); replace BK101 := n0_; replace HB := n1_; clear n0_ n1_; clear hb; have hcz15_0 := cc4_0 BK101.out; have hcz15_1 := cc4_1 BK101.out; have hcz15_2 := cc4_2 BK101.out; have hcz15_3 := cc4_3 BK101.out)); try go_wp2_with (first | (go_at_call 82; (with_reducible refine (prop_Type.calls a0_0 t102 _ A7.out).mono ?_); rintro e w14 ⟨rfl, hb⟩; have n0_ := Aside0.mk (blk_below (g := gb101) (o := .cells #[.int .u8 a0_0, .int .u32 a0_1, .string a0_2, .string a0_3] 60 (0, 0)) z65z1 hb); have n1_ := Aside0.mk (below_step z65z0 hb); replace BK101 := n0_; replace HB := n1_; clear n0_ n1_; clear hb; have hcz15_0 := cc4_0 BK101.out; have hcz15_1 := cc4_1 BK101.out; have hcz15_2 := cc4_2 BK101.out; have hcz15_3 := cc4_3 BK101.out)))
     go_ret
     exact ⟨by first | rfl | (simp [errW_none, errW_some] <;> rfl) | (simp [*, errW_none, errW_some] <;> rfl), by repeat (first | (with_reducible first | exact HB.out | apply below_alloc | apply pw_below_drewN | apply below_drew1 | refine below_set ?_ GE101.out) | exact HB.out)⟩
   ·rw [if_neg c8] at H
    have c8b0 : (t102 == 1) = false := beq_eq_false_iff_ne.mpr c8
    have c8b1 : (t102 != 1) = true := bne_iff_ne.mpr c8
    by_cases c16 : t102 = 2
    ·rw [if_pos c16] at H
     have c16b0 : (t102 == 2) = true := beq_iff_eq.mpr c16
     have c16b1 : (t102 != 2) = false := bne_eq_false_iff_eq.mpr c16
     clear c16
     by_cases c17 : a0_1 < 65536
     ·rw [if_pos c17] at H
      have c17b0 : decide (a0_1 < 65536) = true := decide_eq_true c17
      clear c17
      obtain rfl := Option.some.inj H
      have hcz18_0 : wc.cell? ⟨gb101, 0, none⟩ = some (.int .u8 a0_0) := (blk_cell BK101.out 0).trans rfl
      have hcz18_1 : wc.cell? ⟨gb101, 1, none⟩ = some (.int .u32 a0_1) := (blk_cell BK101.out 1).trans rfl
      have hcz18_2 : wc.cell? ⟨gb101, 2, none⟩ = some (.string a0_2) := (blk_cell BK101.out 2).trans rfl
      have hcz18_3 : wc.cell? ⟨gb101, 3, none⟩ = some (.string a0_3) := (blk_cell BK101.out 3).trans rfl
      have hfz18_0 := blk_frozen BK101.out 0
      have hfz18_1 := blk_frozen BK101.out 1
      have hfz18_2 := blk_frozen BK101.out 2
      have hfz18_3 := blk_frozen BK101.out 3
      go_wp2_with (first | (go_at_call 82; (with_reducible refine (prop_Type.calls a0_0 t102 _ A7.out).mono ?_); rintro e w19 ⟨rfl, hb⟩; have n0_ := Aside0.mk (blk_below (g := gb101) (o := .cells #[.int .u8 a0_0, .int .u32 a0_1, .string a0_2, .string a0_3] 60 (0, 0)) z65z1 hb); have n1_ := Aside0.mk (below_step z65z0 hb); replace BK101 := n0_; replace HB := n1_; clear n0_ n1_; clear hb; have hcz20_0 := cc4_0 BK101.out; have hcz20_1 := cc4_1 BK101.out; have hcz20_2 := cc4_2 BK101.out; have hcz20_3 := cc4_3 BK101.out))
      repeat (go_quiet (first | (go_at_call 82; (with_reducible refine (prop_Type.calls a0_0 t102 _ A7.out).mono ?_); rintro e w19 ⟨rfl, hb⟩; have n0_ := Aside0.mk (blk_below (g := gb101) (o := .cells #[.int .u8 a0_0, .int .u32 a0_1, .string a0_2, .string a0_3] 60 (0, 0)) z65z1 hb); have n1_ := Aside0.mk (below_step z65z0 hb); replace BK101 := n0_; replace HB := n1_; clear n0_ n1_; clear hb; have hcz20_0 := cc4_0 BK101.out; have hcz20_1 := cc4_1 BK101.out; have hcz20_2 := cc4_2 BK101.out; have hcz20_3 := cc4_3 BK101.out)); try go_wp2_with (first | (go_at_call 82; (with_reducible refine (prop_Type.calls a0_0 t102 _ A7.out).mono ?_); rintro e w19 ⟨rfl, hb⟩; have n0_ := Aside0.mk (blk_below (g := gb101) (o := .cells #[.int .u8 a0_0, .int .u32 a0_1, .string a0_2, .string a0_3] 60 (0, 0)) z65z1 hb); have n1_ := Aside0.mk (below_step z65z0 hb); replace BK101 := n0_; replace HB := n1_; clear n0_ n1_; clear hb; have hcz20_0 := cc4_0 BK101.out; have hcz20_1 := cc4_1 BK101.out; have hcz20_2 := cc4_2 BK101.out; have hcz20_3 := cc4_3 BK101.out)))
      go_ret
      exact ⟨by first | rfl | (simp [errW_none, errW_some] <;> rfl) | (simp [*, errW_none, errW_some] <;> rfl), by repeat (first | (with_reducible first | exact HB.out | apply below_alloc | apply pw_below_drewN | apply below_drew1 | refine below_set ?_ GE101.out) | exact HB.out)⟩
     ·rw [if_neg c17] at H
      have c17b0 : decide (a0_1 < 65536) = false := decide_eq_false c17
      clear c17
      obtain rfl := Option.some.inj H
      have hcz21_0 : wc.cell? ⟨gb101, 0, none⟩ = some (.int .u8 a0_0) := (blk_cell BK101.out 0).trans rfl
      have hcz21_1 : wc.cell? ⟨gb101, 1, none⟩ = some (.int .u32 a0_1) := (blk_cell BK101.out 1).trans rfl
      have hcz21_2 : wc.cell? ⟨gb101, 2, none⟩ = some (.string a0_2) := (blk_cell BK101.out 2).trans rfl
      have hcz21_3 : wc.cell? ⟨gb101, 3, none⟩ = some (.string a0_3) := (blk_cell BK101.out 3).trans rfl
      have hfz21_0 := blk_frozen BK101.out 0
      have hfz21_1 := blk_frozen BK101.out 1
      have hfz21_2 := blk_frozen BK101.out 2
      have hfz21_3 := blk_frozen BK101.out 3
      go_wp2_with (first | (go_at_call 82; (with_reducible refine (prop_Type.calls a0_0 t102 _ A7.out).mono ?_); rintro e w22 ⟨rfl, hb⟩; have n0_ := Aside0.mk (blk_below (g := gb101) (o := .cells #[.int .u8 a0_0, .int .u32 a0_1, .string a0_2, .string a0_3] 60 (0, 0)) z65z1 hb); have n1_ := Aside0.mk (below_step z65z0 hb); replace BK101 := n0_; replace HB := n1_; clear n0_ n1_; clear hb; have hcz23_0 := cc4_0 BK101.out; have hcz23_1 := cc4_1 BK101.out; have hcz23_2 := cc4_2 BK101.out; have hcz23_3 := cc4_3 BK101.out))
      repeat (go_quiet (first | (go_at_call 82; (with_reducible refine (prop_Type.calls a0_0 t102 _ A7.out).mono ?_); rintro e w22 ⟨rfl, hb⟩; have n0_ := Aside0.mk (blk_below (g := gb101) (o := .cells #[.int .u8 a0_0, .int .u32 a0_1, .string a0_2, .string a0_3] 60 (0, 0)) z65z1 hb); have n1_ := Aside0.mk (below_step z65z0 hb); replace BK101 := n0_; replace HB := n1_; clear n0_ n1_; clear hb; have hcz23_0 := cc4_0 BK101.out; have hcz23_1 := cc4_1 BK101.out; have hcz23_2 := cc4_2 BK101.out; have hcz23_3 := cc4_3 BK101.out)); try go_wp2_with (first | (go_at_call 82; (with_reducible refine (prop_Type.calls a0_0 t102 _ A7.out).mono ?_); rintro e w22 ⟨rfl, hb⟩; have n0_ := Aside0.mk (blk_below (g := gb101) (o := .cells #[.int .u8 a0_0, .int .u32 a0_1, .string a0_2, .string a0_3] 60 (0, 0)) z65z1 hb); have n1_ := Aside0.mk (below_step z65z0 hb); replace BK101 := n0_; replace HB := n1_; clear n0_ n1_; clear hb; have hcz23_0 := cc4_0 BK101.out; have hcz23_1 := cc4_1 BK101.out; have hcz23_2 := cc4_2 BK101.out; have hcz23_3 := cc4_3 BK101.out)))
      go_ret
      exact ⟨by first | rfl | (simp [errW_none, errW_some] <;> rfl) | (simp [*, errW_none, errW_some] <;> rfl), by repeat (first | (with_reducible first | exact HB.out | apply below_alloc | apply pw_below_drewN | apply below_drew1 | refine below_set ?_ GE101.out) | exact HB.out)⟩
    ·rw [if_neg c16] at H
     have c16b0 : (t102 == 2) = false := beq_eq_false_iff_ne.mpr c16
     have c16b1 : (t102 != 2) = true := bne_iff_ne.mpr c16
     by_cases c24 : t102 = 3
     ·rw [if_pos c24] at H
      have c24b0 : (t102 == 3) = true := beq_iff_eq.mpr c24
      have c24b1 : (t102 != 3) = false := bne_eq_false_iff_eq.mpr c24
      clear c24
      obtain rfl := Option.some.inj H
      have hcz25_0 : wc.cell? ⟨gb101, 0, none⟩ = some (.int .u8 a0_0) := (blk_cell BK101.out 0).trans rfl
      have hcz25_1 : wc.cell? ⟨gb101, 1, none⟩ = some (.int .u32 a0_1) := (blk_cell BK101.out 1).trans rfl
      have hcz25_2 : wc.cell? ⟨gb101, 2, none⟩ = some (.string a0_2) := (blk_cell BK101.out 2).trans rfl
      have hcz25_3 : wc.cell? ⟨gb101, 3, none⟩ = some (.string a0_3) := (blk_cell BK101.out 3).trans rfl
      have hfz25_0 := blk_frozen BK101.out 0
      have hfz25_1 := blk_frozen BK101.out 1
      have hfz25_2 := blk_frozen BK101.out 2
      have hfz25_3 := blk_frozen BK101.out 3
      go_wp2_with (first | (go_at_call 82; (with_reducible refine (prop_Type.calls a0_0 t102 _ A7.out).mono ?_); rintro e w26 ⟨rfl, hb⟩; have n0_ := Aside0.mk (blk_below (g := gb101) (o := .cells #[.int .u8 a0_0, .int .u32 a0_1, .string a0_2, .string a0_3] 60 (0, 0)) z65z1 hb); have n1_ := Aside0.mk (below_step z65z0 hb); replace BK101 := n0_; replace HB := n1_; clear n0_ n1_; clear hb))
      repeat (go_quiet (first | (go_at_call 82; (with_reducible refine (prop_Type.calls a0_0 t102 _ A7.out).mono ?_); rintro e w26 ⟨rfl, hb⟩; have n0_ := Aside0.mk (blk_below (g := gb101) (o := .cells #[.int .u8 a0_0, .int .u32 a0_1, .string a0_2, .string a0_3] 60 (0, 0)) z65z1 hb); have n1_ := Aside0.mk (below_step z65z0 hb); replace BK101 := n0_; replace HB := n1_; clear n0_ n1_; clear hb)); try go_wp2_with (first | (go_at_call 82; (with_reducible refine (prop_Type.calls a0_0 t102 _ A7.out).mono ?_); rintro e w26 ⟨rfl, hb⟩; have n0_ := Aside0.mk (blk_below (g := gb101) (o := .cells #[.int .u8 a0_0, .int .u32 a0_1, .string a0_2, .string a0_3] 60 (0, 0)) z65z1 hb); have n1_ := Aside0.mk (below_step z65z0 hb); replace BK101 := n0_; replace HB := n1_; clear n0_ n1_; clear hb)))
      go_ret
      exact ⟨by first | rfl | (simp [errW_none, errW_some] <;> rfl) | (simp [*, errW_none, errW_some] <;> rfl), by repeat (first | (with_reducible first | exact HB.out | apply below_alloc | apply pw_below_drewN | apply below_drew1 | refine below_set ?_ GE101.out) | exact HB.out)⟩
     ·rw [if_neg c24] at H
      have c24b0 : (t102 == 3) = false := beq_eq_false_iff_ne.mpr c24
      have c24b1 : (t102 != 3) = true := bne_iff_ne.mpr c24
      by_cases c27 : t102 = 4
      ·rw [if_pos c27] at H
       have c27b0 : (t102 == 4) = true := beq_iff_eq.mpr c27
       have c27b1 : (t102 != 4) = false := bne_eq_false_iff_eq.mpr c27
       clear c27
       by_cases c28 : a0_1 ≤ 268435455
       ·rw [if_pos c28] at H
        have c28b0 : decide (a0_1 ≤ 268435455) = true := decide_eq_true c28
        clear c28
        obtain rfl := Option.some.inj H
        have hcz29_0 : wc.cell? ⟨gb101, 0, none⟩ = some (.int .u8 a0_0) := (blk_cell BK101.out 0).trans rfl
        have hcz29_1 : wc.cell? ⟨gb101, 1, none⟩ = some (.int .u32 a0_1) := (blk_cell BK101.out 1).trans rfl
        have hcz29_2 : wc.cell? ⟨gb101, 2, none⟩ = some (.string a0_2) := (blk_cell BK101.out 2).trans rfl
        have hcz29_3 : wc.cell? ⟨gb101, 3, none⟩ = some (.string a0_3) := (blk_cell BK101.out 3).trans rfl
        have hfz29_0 := blk_frozen BK101.out 0
        have hfz29_1 := blk_frozen BK101.out 1
        have hfz29_2 := blk_frozen BK101.out 2
        have hfz29_3 := blk_frozen BK101.out 3
        go_wp2_with (first | (go_at_call 82; (with_reducible refine (prop_Type.calls a0_0 t102 _ A7.out).mono ?_); rintro e w30 ⟨rfl, hb⟩; have n0_ := Aside0.mk (blk_below (g := gb101) (o := .cells #[.int .u8 a0_0, .int .u32 a0_1, .string a0_2, .string a0_3] 60 (0, 0)) z65z1 hb); have n1_ := Aside0.mk (below_step z65z0 hb); replace BK101 := n0_; replace HB := n1_; clear n0_ n1_; clear hb; have hcz31_0 := cc4_0 BK101.out; have hcz31_1 := cc4_1 BK101.out; have hcz31_2 := cc4_2 BK101.out; have hcz31_3 := cc4_3 BK101.out))
        repeat (go_quiet (first | (go_at_call 82; (with_reducible refine (prop_Type.calls a0_0 t102 _ A7.out).mono ?_); rintro e w30 ⟨rfl, hb⟩; have n0_ := Aside0.mk (blk_below (g := gb101) (o := .cells #[.int .u8 a0_0, .int .u32 a0_1, .string a0_2, .string a0_3] 60 (0, 0)) z65z1 hb); have n1_ := Aside0.mk (below_step z65z0 hb); replace BK101 := n0_; replace HB := n1_; clear n0_ n1_; clear hb; have hcz31_0 := cc4_0 BK101.out; have hcz31_1 := cc4_1 BK101.out; have hcz31_2 := cc4_2 BK101.out; have hcz31_3 := cc4_3 BK101.out)); try go_wp2_with (first | (go_at_call 82; (with_reducible refine (prop_Type.calls a0_0 t102 _ A7.out).mono ?_); rintro e w30 ⟨rfl, hb⟩; have n0_ := Aside0.mk (blk_below (g := gb101) (o := .cells #[.int .u8 a0_0, .int .u32 a0_1, .string a0_2, .string a0_3] 60 (0, 0)) z65z1 hb); have n1_ := Aside0.mk (below_step z65z0 hb); replace BK101 := n0_; replace HB := n1_; clear n0_ n1_; clear hb; have hcz31_0 := cc4_0 BK101.out; have hcz31_1 := cc4_1 BK101.out; have hcz31_2 := cc4_2 BK101.out; have hcz31_3 := cc4_3 BK101.out)))
        go_ret
        exact ⟨by first | rfl | (simp [errW_none, errW_some] <;> rfl) | (simp [*, errW_none, errW_some] <;> rfl), by repeat (first | (with_reducible first | exact HB.out | apply below_alloc | apply pw_below_drewN | apply below_drew1 | refine below_set ?_ GE101.out) | exact HB.out)⟩
       ·rw [if_neg c28] at H
        have c28b0 : decide (a0_1 ≤ 268435455) = false := decide_eq_false c28
        clear c28
        obtain rfl := Option.some.inj H
        have hcz32_0 : wc.cell? ⟨gb101, 0, none⟩ = some (.int .u8 a0_0) := (blk_cell BK101.out 0).trans rfl
        have hcz32_1 : wc.cell? ⟨gb101, 1, none⟩ = some (.int .u32 a0_1) := (blk_cell BK101.out 1).trans rfl
        have hcz32_2 : wc.cell? ⟨gb101, 2, none⟩ = some (.string a0_2) := (blk_cell BK101.out 2).trans rfl
        have hcz32_3 : wc.cell? ⟨gb101, 3, none⟩ = some (.string a0_3) := (blk_cell BK101.out 3).trans rfl
        have hfz32_0 := blk_frozen BK101.out 0
        have hfz32_1 := blk_frozen BK101.out 1
        have hfz32_2 := blk_frozen BK101.out 2
        have hfz32_3 := blk_frozen BK101.out 3
        go_wp2_with (first | (go_at_call 82; (with_reducible refine (prop_Type.calls a0_0 t102 _ A7.out).mono ?_); rintro e w33 ⟨rfl, hb⟩; have n0_ := Aside0.mk (blk_below (g := gb101) (o := .cells #[.int .u8 a0_0, .int .u32 a0_1, .string a0_2, .string a0_3] 60 (0, 0)) z65z1 hb); have n1_ := Aside0.mk (below_step z65z0 hb); replace BK101 := n0_; replace HB := n1_; clear n0_ n1_; clear hb; have hcz34_0 := cc4_0 BK101.out; have hcz34_1 := cc4_1 BK101.out; have hcz34_2 := cc4_2 BK101.out; have hcz34_3 := cc4_3 BK101.out))
        repeat (go_quiet (first | (go_at_call 82; (with_reducible refine (prop_Type.calls a0_0 t102 _ A7.out).mono ?_); rintro e w33 ⟨rfl, hb⟩; have n0_ := Aside0.mk (blk_below (g := gb101) (o := .cells #[.int .u8 a0_0, .int .u32 a0_1, .string a0_2, .string a0_3] 60 (0, 0)) z65z1 hb); have n1_ := Aside0.mk (below_step z65z0 hb); replace BK101 := n0_; replace HB := n1_; clear n0_ n1_; clear hb; have hcz34_0 := cc4_0 BK101.out; have hcz34_1 := cc4_1 BK101.out; have hcz34_2 := cc4_2 BK101.out; have hcz34_3 := cc4_3 BK101.out)); try go_wp2_with (first | (go_at_call 82; (with_reducible refine (prop_Type.calls a0_0 t102 _ A7.out).mono ?_); rintro e w33 ⟨rfl, hb⟩; have n0_ := Aside0.mk (blk_below (g := gb101) (o := .cells #[.int .u8 a0_0, .int .u32 a0_1, .string a0_2, .string a0_3] 60 (0, 0)) z65z1 hb); have n1_ := Aside0.mk (below_step z65z0 hb); replace BK101 := n0_; replace HB := n1_; clear n0_ n1_; clear hb; have hcz34_0 := cc4_0 BK101.out; have hcz34_1 := cc4_1 BK101.out; have hcz34_2 := cc4_2 BK101.out; have hcz34_3 := cc4_3 BK101.out)))
        go_ret
        exact ⟨by first | rfl | (simp [errW_none, errW_some] <;> rfl) | (simp [*, errW_none, errW_some] <;> rfl), by repeat (first | (with_reducible first | exact HB.out | apply below_alloc | apply pw_below_drewN | apply below_drew1 | refine below_set ?_ GE101.out) | exact HB.out)⟩
      ·rw [if_neg c27] at H
       have c27b0 : (t102 == 4) = false := beq_eq_false_iff_ne.mpr c27
       have c27b1 : (t102 != 4) = true := bne_iff_ne.mpr c27
       by_cases c35 : t102 = 5
       ·rw [if_pos c35] at H
        have c35b0 : (t102 == 5) = true := beq_iff_eq.mpr c35
        have c35b1 : (t102 != 5) = false := bne_eq_false_iff_eq.mpr c35
        clear c35
        by_cases c36 : x4_1 = true
        ·subst c36
         have H1 : ((text_Right.f a0_2).bind fun t103 => (if t103 = true then (some (a0_3.toList == ([] : List UInt8))) else (some false))) = some r := by rw [if_pos rfl] at H; exact H
         clear H
         have H := H1
         clear H1
         replace H := Option.bind_eq_some_iff.mp H
         obtain ⟨t103, A370, H⟩ := H
         replace H : (if t103 = true then (some (a0_3.toList == ([] : List UInt8))) else (some false)) = some r := H
         have A37 := Aside0.mk A370
         clear A370
         by_cases c38 : t103 = true
         ·subst c38
          have H1 : (some (a0_3.toList == ([] : List UInt8))) = some r := by rw [if_pos rfl] at H; exact H
          clear H
          have H := H1
          clear H1
          obtain rfl := Option.some.inj H
          have hcz39_0 : wc.cell? ⟨gb101, 0, none⟩ = some (.int .u8 a0_0) := (blk_cell BK101.out 0).trans rfl
          have hcz39_1 : wc.cell? ⟨gb101, 1, none⟩ = some (.int .u32 a0_1) := (blk_cell BK101.out 1).trans rfl
          have hcz39_2 : wc.cell? ⟨gb101, 2, none⟩ = some (.string a0_2) := (blk_cell BK101.out 2).trans rfl
          have hcz39_3 : wc.cell? ⟨gb101, 3, none⟩ = some (.string a0_3) := (blk_cell BK101.out 3).trans rfl
          have hfz39_0 := blk_frozen BK101.out 0
          have hfz39_1 := blk_frozen BK101.out 1
          have hfz39_2 := blk_frozen BK101.out 2
          have hfz39_3 := blk_frozen BK101.out 3
          go_wp2_with (first | (go_at_call 82; (with_reducible refine (prop_Type.calls a0_0 t102 _ A7.out).mono ?_); rintro e w40 ⟨rfl, hb⟩; have n0_ := Aside0.mk (blk_below (g := gb101) (o := .cells #[.int .u8 a0_0, .int .u32 a0_1, .string a0_2, .string a0_3] 60 (0, 0)) z65z1 hb); have n1_ := Aside0.mk (below_step z65z0 hb); replace BK101 := n0_; replace HB := n1_; clear n0_ n1_; clear hb; have hcz41_0 := cc4_0 BK101.out; have hcz41_1 := cc4_1 BK101.out; have hcz41_2 := cc4_2 BK101.out; have hcz41_3 := cc4_3 BK101.out) | (go_at_call 88; (with_reducible refine (text_Right.calls a0_2 true _ ?side1 A37.out).mono ?_); (case side1 => exact z65z3); rintro e w42 ⟨rfl, hb⟩; have n0_ := Aside0.mk (blk_below (g := gb101) (o := .cells #[.int .u8 a0_0, .int .u32 a0_1, .string a0_2, .string a0_3] 60 (0, 0)) z65z1 hb); have n1_ := Aside0.mk (below_step z65z0 hb); replace BK101 := n0_; replace HB := n1_; clear n0_ n1_; clear hb; have hcz43_0 := cc4_0 BK101.out; have hcz43_1 := cc4_1 BK101.out; have hcz43_2 := cc4_2 BK101.out; have hcz43_3 := cc4_3 BK101.out))
          repeat (go_quiet (first | (go_at_call 82; (with_reducible refine (prop_Type.calls a0_0 t102 _ A7.out).mono ?_); rintro e w40 ⟨rfl, hb⟩; have n0_ := Aside0.mk (blk_below (g := gb101) (o := .cells #[.int .u8 a0_0, .int .u32 a0_1, .string a0_2, .string a0_3] 60 (0, 0)) z65z1 hb); have n1_ := Aside0.mk (below_step z65z0 hb); replace BK101 := n0_; replace HB := n1_; clear n0_ n1_; clear hb; have hcz41_0 := cc4_0 BK101.out; have hcz41_1 := cc4_1 BK101.out; have hcz41_2 := cc4_2 BK101.out; have hcz41_3 := cc4_3 BK101.out) | (go_at_call 88; (with_reducible refine (text_Right.calls a0_2 true _ ?side1 A37.out).mono ?_); (case side1 => exact z65z3); rintro e w42 ⟨rfl, hb⟩; have n0_ := Aside0.mk (blk_below (g := gb101) (o := .cells #[.int .u8 a0_0, .int .u32 a0_1, .string a0_2, .string a0_3] 60 (0, 0)) z65z1 hb); have n1_ := Aside0.mk (below_step z65z0 hb); replace BK101 := n0_; replace HB := n1_; clear n0_ n1_; clear hb; have hcz43_0 := cc4_0 BK101.out; have hcz43_1 := cc4_1 BK101.out; have hcz43_2 := cc4_2 BK101.out; have hcz43_3 := cc4_3 BK101.out)); try go_wp2_with (first | (go_at_call 82; (with_reducible refine (prop_Type.calls a0_0 t102 _ A7.out).mono ?_); rintro e w40 ⟨rfl, hb⟩; have n0_ := Aside0.mk (blk_below (g := gb101) (o := .cells #[.int .u8 a0_0, .int .u32 a0_1, .string a0_2, .string a0_3] 60 (0, 0)) z65z1 hb); have n1_ := Aside0.mk (below_step z65z0 hb); replace BK101 := n0_; replace HB := n1_; clear n0_ n1_; clear hb; have hcz41_0 := cc4_0 BK101.out; have hcz41_1 := cc4_1 BK101.out; have hcz41_2 := cc4_2 BK101.out; have hcz41_3 := cc4_3 BK101.out) | (go_at_call 88; (with_reducible refine (text_Right.calls a0_2 true _ ?side1 A37.out).mono ?_); (case side1 => exact z65z3); rintro e w42 ⟨rfl, hb⟩; have n0_ := Aside0.mk (blk_below (g := gb101) (o := .cells #[.int .u8 a0_0, .int .u32 a0_1, .string a0_2, .string a0_3] 60 (0, 0)) z65z1 hb); have n1_ := Aside0.mk (below_step z65z0 hb); replace BK101 := n0_; replace HB := n1_; clear n0_ n1_; clear hb; have hcz43_0 := cc4_0 BK101.out; have hcz43_1 := cc4_1 BK101.out; have hcz43_2 := cc4_2 BK101.out; have hcz43_3 := cc4_3 BK101.out)))
          go_ret
          exact ⟨by first | rfl | (simp [errW_none, errW_some] <;> rfl) | (simp [*, errW_none, errW_some] <;> rfl), by repeat (first | (with_reducible first | exact HB.out | apply below_alloc | apply pw_below_drewN | apply below_drew1 | refine below_set ?_ GE101.out) | exact HB.out)⟩
         ·replace c38 := Bool.eq_false_iff.mpr c38
          subst c38
          have H1 : (some false) = some r := by rw [if_neg (show ¬ (false = true) by decide)] at H; exact H
          clear H
          have H := H1
          clear H1
          obtain rfl := Option.some.inj H
          have hcz44_0 : wc.cell? ⟨gb101, 0, none⟩ = some (.int .u8 a0_0) := (blk_cell BK101.out 0).trans rfl
          have hcz44_1 : wc.cell? ⟨gb101, 1, none⟩ = some (.int .u32 a0_1) := (blk_cell BK101.out 1).trans rfl
          have hcz44_2 : wc.cell? ⟨gb101, 2, none⟩ = some (.string a0_2) := (blk_cell BK101.out 2).trans rfl
          have hcz44_3 : wc.cell? ⟨gb101, 3, none⟩ = some (.string a0_3) := (blk_cell BK101.out 3).trans rfl
          have hfz44_0 := blk_frozen BK101.out 0
          have hfz44_1 := blk_frozen BK101.out 1
          have hfz44_2 := blk_frozen BK101.out 2
          have hfz44_3 := blk_frozen BK101.out 3
          go_wp2_with (first | (go_at_call 82; (with_reducible refine (prop_Type.calls a0_0 t102 _ A7.out).mono ?_); rintro e w45 ⟨rfl, hb⟩; have n0_ := Aside0.mk (blk_below (g := gb101) (o := .cells #[.int .u8 a0_0, .int .u32 a0_1, .string a0_2, .string a0_3] 60 (0, 0)) z65z1 hb); have n1_ := Aside0.mk (below_step z65z0 hb); replace BK101 := n0_; replace HB := n1_; clear n0_ n1_; clear hb; have hcz46_0 := cc4_0 BK101.out; have hcz46_1 := cc4_1 BK101.out; have hcz46_2 := cc4_2 BK101.out; have hcz46_3 := cc4_3 BK101.out) | (go_at_call 88; (with_reducible refine (text_Right.calls a0_2 false _ ?side1 A37.out).mono ?_); (case side1 => exact z65z3); rintro e w47 ⟨rfl, hb⟩; have n0_ := Aside0.mk (blk_below (g := gb101) (o := .cells #[.int .u8 a0_0, .int .u32 a0_1, .string a0_2, .string a0_3] 60 (0, 0)) z65z1 hb); have n1_ := Aside0.mk (below_step z65z0 hb); replace BK101 := n0_; replace HB := n1_; clear n0_ n1_; clear hb))
          repeat (go_quiet (first | (go_at_call 82; (with_reducible refine (prop_Type.calls a0_0 t102 _ A7.out).mono ?_); rintro e w45 ⟨rfl, hb⟩; have n0_ := Aside0.mk (blk_below (g := gb101) (o := .cells #[.int .u8 a0_0, .int .u32 a0_1, .string a0_2, .string a0_3] 60 (0, 0)) z65z1 hb); have n1_ := Aside0.mk (below_step z65z0 hb); replace BK101 := n0_; replace HB := n1_; clear n0_ n1_; clear hb; have hcz46_0 := cc4_0 BK101.out; have hcz46_1 := cc4_1 BK101.out; have hcz46_2 := cc4_2 BK101.out; have hcz46_3 := cc4_3 BK101.out) | (go_at_call 88; (with_reducible refine (text_Right.calls a0_2 false _ ?side1 A37.out).mono ?_); (case side1 => exact z65z3); rintro e w47 ⟨rfl, hb⟩; have n0_ := Aside0.mk (blk_below (g := gb101) (o := .cells #[.int .u8 a0_0, .int .u32 a0_1, .string a0_2, .string a0_3] 60 (0, 0)) z65z1 hb); have n1_ := Aside0.mk (below_step z65z0 hb); replace BK101 := n0_; replace HB := n1_; clear n0_ n1_; clear hb)); try go_wp2_with (first | (go_at_call 82; (with_reducible refine (prop_Type.calls a0_0 t102 _ A7.out).mono ?_); rintro e w45 ⟨rfl, hb⟩; have n0_ := Aside0.mk (blk_below (g := gb101) (o := .cells #[.int .u8 a0_0, .int .u32 a0_1, .string a0_2, .string a0_3] 60 (0, 0)) z65z1 hb); have n1_ := Aside0.mk (below_step z65z0 hb); replace BK101 := n0_; replace HB := n1_; clear n0_ n1_; clear hb; have hcz46_0 := cc4_0 BK101.out; have hcz46_1 := cc4_1 BK101.out; have hcz46_2 := cc4_2 BK101.out; have hcz46_3 := cc4_3 BK101.out) | (go_at_call 88; (with_reducible refine (text_Right.calls a0_2 false _ ?side1 A37.out).mono ?_); (case side1 => exact z65z3); rintro e w47 ⟨rfl, hb⟩; have n0_ := Aside0.mk (blk_below (g := gb101) (o := .cells #[.int .u8 a0_0, .int .u32 a0_1, .string a0_2, .string a0_3] 60 (0, 0)) z65z1 hb); have n1_ := Aside0.mk (below_step z65z0 hb); replace BK101 := n0_; replace HB := n1_; clear n0_ n1_; clear hb)))
          go_ret
          exact ⟨by first | rfl | (simp [errW_none, errW_some] <;> rfl) | (simp [*, errW_none, errW_some] <;> rfl), by repeat (first | (with_reducible first | exact HB.out | apply below_alloc | apply pw_below_drewN | apply below_drew1 | refine below_set ?_ GE101.out) | exact HB.out)⟩
        ·replace c36 := Bool.eq_false_iff.mpr c36
         subst c36
         have H1 : (some false) = some r := by rw [if_neg (show ¬ (false = true) by decide)] at H; exact H
         clear H
         have H := H1
         clear H1
         obtain rfl := Option.some.inj H
         have hcz48_0 : wc.cell? ⟨gb101, 0, none⟩ = some (.int .u8 a0_0) := (blk_cell BK101.out 0).trans rfl
         have hcz48_1 : wc.cell? ⟨gb101, 1, none⟩ = some (.int .u32 a0_1) := (blk_cell BK101.out 1).trans rfl
         have hcz48_2 : wc.cell? ⟨gb101, 2, none⟩ = some (.string a0_2) := (blk_cell BK101.out 2).trans rfl
         have hcz48_3 : wc.cell? ⟨gb101, 3, none⟩ = some (.string a0_3) := (blk_cell BK101.out 3).trans rfl
         have hfz48_0 := blk_frozen BK101.out 0
         have hfz48_1 := blk_frozen BK101.out 1
         have hfz48_2 := blk_frozen BK101.out 2
         have hfz48_3 := blk_frozen BK101.out 3
         go_wp2_with (first | (go_at_call 82; (with_reducible refine (prop_Type.calls a0_0 t102 _ A7.out).mono ?_); rintro e w49 ⟨rfl, hb⟩; have n0_ := Aside0.mk (blk_below (g := gb101) (o := .cells #[.int .u8 a0_0, .int .u32 a0_1, .string a0_2, .string a0_3] 60 (0, 0)) z65z1 hb); have n1_ := Aside0.mk (below_step z65z0 hb); replace BK101 := n0_; replace HB := n1_; clear n0_ n1_; clear hb))
         repeat (go_quiet (first | (go_at_call 82; (with_reducible refine (prop_Type.calls a0_0 t102 _ A7.out).mono ?_); rintro e w49 ⟨rfl, hb⟩; have n0_ := Aside0.mk (blk_below (g := gb101) (o := .cells #[.int .u8 a0_0, .int .u32 a0_1, .string a0_2, .string a0_3] 60 (0, 0)) z65z1 hb); have n1_ := Aside0.mk (below_step z65z0 hb); replace BK101 := n0_; replace HB := n1_; clear n0_ n1_; clear hb)); try go_wp2_with (first | (go_at_call 82; (with_reducible refine (prop_Type.calls a0_0 t102 _ A7.out).mono ?_); rintro e w49 ⟨rfl, hb⟩; have n0_ := Aside0.mk (blk_below (g := gb101) (o := .cells #[.int .u8 a0_0, .int .u32 a0_1, .string a0_2, .string a0_3] 60 (0, 0)) z65z1 hb); have n1_ := Aside0.mk (below_step z65z0 hb); replace BK101 := n0_; replace HB := n1_; clear n0_ n1_; clear hb)))
         go_ret
         exact ⟨by first | rfl | (simp [errW_none, errW_some] <;> rfl) | (simp [*, errW_none, errW_some] <;> rfl), by repeat (first | (with_reducible first | exact HB.out | apply below_alloc | apply pw_below_drewN | apply below_drew1 | refine below_set ?_ GE101.out) | exact HB.out)⟩
       ·rw [if_neg c35] at H
        have c35b0 : (t102 == 5) = false := beq_eq_false_iff_ne.mpr c35
        have c35b1 : (t102 != 5) = true := bne_iff_ne.mpr c35
        by_cases c50 : t102 = 6
        ·rw [if_pos c50] at H
         have c50b0 : (t102 == 6) = true := beq_iff_eq.mpr c50
         have c50b1 : (t102 != 6) = false := bne_eq_false_iff_eq.mpr c50
         clear c50
         by_cases c51 : x4_1 = true
         ·subst c51
          have H1 : (if (a0_2.size : Int) ≤ 65535 then (some (a0_3.toList == ([] : List UInt8))) else (some false)) = some r := by rw [if_pos rfl] at H; exact H
          clear H
          have H := H1
          clear H1
          by_cases c52 : (a0_2.size : Int) ≤ 65535
          ·rw [if_pos c52] at H
           have c52b0 : decide ((a0_2.size : Int) ≤ 65535) = true := decide_eq_true c52
           have c52b1 : decide (a0_2.size ≤ 65535) = true := decide_eq_true (by omega)
           clear c52
           obtain rfl := Option.some.inj H
           have hcz53_0 : wc.cell? ⟨gb101, 0, none⟩ = some (.int .u8 a0_0) := (blk_cell BK101.out 0).trans rfl
           have hcz53_1 : wc.cell? ⟨gb101, 1, none⟩ = some (.int .u32 a0_1) := (blk_cell BK101.out 1).trans rfl
           have hcz53_2 : wc.cell? ⟨gb101, 2, none⟩ = some (.string a0_2) := (blk_cell BK101.out 2).trans rfl
           have hcz53_3 : wc.cell? ⟨gb101, 3, none⟩ = some (.string a0_3) := (blk_cell BK101.out 3).trans rfl
           have hfz53_0 := blk_frozen BK101.out 0
           have hfz53_1 := blk_frozen BK101.out 1
           have hfz53_2 := blk_frozen BK101.out 2
           have hfz53_3 := blk_frozen BK101.out 3
           go_wp2_with (first | (go_at_call 82; (with_reducible refine (prop_Type.calls a0_0 t102 _ A7.out).mono ?_); rintro e w54 ⟨rfl, hb⟩; have n0_ := Aside0.mk (blk_below (g := gb101) (o := .cells #[.int .u8 a0_0, .int .u32 a0_1, .string a0_2, .string a0_3] 60 (0, 0)) z65z1 hb); have n1_ := Aside0.mk (below_step z65z0 hb); replace BK101 := n0_; replace HB := n1_; clear n0_ n1_; clear hb; have hcz55_0 := cc4_0 BK101.out; have hcz55_1 := cc4_1 BK101.out; have hcz55_2 := cc4_2 BK101.out; have hcz55_3 := cc4_3 BK101.out))
           repeat (go_quiet (first | (go_at_call 82; (with_reducible refine (prop_Type.calls a0_0 t102 _ A7.out).mono ?_); rintro e w54 ⟨rfl, hb⟩; have n0_ := Aside0.mk (blk_below (g := gb101) (o := .cells #[.int .u8 a0_0, .int .u32 a0_1, .string a0_2, .string a0_3] 60 (0, 0)) z65z1 hb); have n1_ := Aside0.mk (below_step z65z0 hb); replace BK101 := n0_; replace HB := n1_; clear n0_ n1_; clear hb; have hcz55_0 := cc4_0 BK101.out; have hcz55_1 := cc4_1 BK101.out; have hcz55_2 := cc4_2 BK101.out; have hcz55_3 := cc4_3 BK101.out)); try go_wp2_with (first | (go_at_call 82; (with_reducible refine (prop_Type.calls a0_0 t102 _ A7.out).mono ?_); rintro e w54 ⟨rfl, hb⟩; have n0_ := Aside0.mk (blk_below (g := gb101) (o := .cells #[.int .u8 a0_0, .int .u32 a0_1, .string a0_2, .string a0_3] 60 (0, 0)) z65z1 hb); have n1_ := Aside0.mk (below_step z65z0 hb); replace BK101 := n0_; replace HB := n1_; clear n0_ n1_; clear hb; have hcz55_0 := cc4_0 BK101.out; have hcz55_1 := cc4_1 BK101.out; have hcz55_2 := cc4_2 BK101.out; have hcz55_3 := cc4_3 BK101.out)))
           go_ret
           exact ⟨by first | rfl | (simp [errW_none, errW_some] <;> rfl) | (simp [*, errW_none, errW_some] <;> rfl), by repeat (first | (with_reducible first | exact HB.out | apply below_alloc | apply pw_below_drewN | apply below_drew1 | refine below_set ?_ GE101.out) | exact HB.out)⟩
          ·rw [if_neg c52] at H
           have c52b0 : decide ((a0_2.size : Int) ≤ 65535) = false := decide_eq_false c52
           have c52b1 : decide (a0_2.size ≤ 65535) = false := decide_eq_false (by omega)
           clear c52
           obtain rfl := Option.some.inj H
           have hcz56_0 : wc.cell? ⟨gb101, 0, none⟩ = some (.int .u8 a0_0) := (blk_cell BK101.out 0).trans rfl
           have hcz56_1 : wc.cell? ⟨gb101, 1, none⟩ = some (.int .u32 a0_1) := (blk_cell BK101.out 1).trans rfl
           have hcz56_2 : wc.cell? ⟨gb101, 2, none⟩ = some (.string a0_2) := (blk_cell BK101.out 2).trans rfl
           have hcz56_3 : wc.cell? ⟨gb101, 3, none⟩ = some (.string a0_3) := (blk_cell BK101.out 3).trans rfl
           have hfz56_0 := blk_frozen BK101.out 0
           have hfz56_1 := blk_frozen BK101.out 1
           have hfz56_2 := blk_frozen BK101.out 2
           have hfz56_3 := blk_frozen BK101.out 3
           go_wp2_with (first | (go_at_call 82; (with_reducible refine (prop_Type.calls a0_0 t102 _ A7.out).mono ?_); rintro e w57 ⟨rfl, hb⟩; have n0_ := Aside0.mk (blk_below (g := gb101) (o := .cells #[.int .u8 a0_0, .int .u32 a0_1, .string a0_2, .string a0_3] 60 (0, 0)) z65z1 hb); have n1_ := Aside0.mk (below_step z65z0 hb); replace BK101 := n0_; replace HB := n1_; clear n0_ n1_; clear hb; have hcz58_0 := cc4_0 BK101.out; have hcz58_1 := cc4_1 BK101.out; have hcz58_2 := cc4_2 BK101.out; have hcz58_3 := cc4_3 BK101.out))
           repeat (go_quiet (first | (go_at_call 82; (with_reducible refine (prop_Type.calls a0_0 t102 _ A7.out).mono ?_); rintro e w57 ⟨rfl, hb⟩; have n0_ := Aside0.mk (blk_below (g := gb101) (o := .cells #[.int .u8 a0_0, .int .u32 a0_1, .string a0_2, .string a0_3] 60 (0, 0)) z65z1 hb); have n1_ := Aside0.mk (below_step z65z0 hb); replace BK101 := n0_; replace HB := n1_; clear n0_ n1_; clear hb; have hcz58_0 := cc4_0 BK101.out; have hcz58_1 := cc4_1 BK101.out; have hcz58_2 := cc4_2 BK101.out; have hcz58_3 := cc4_3 BK101.out)); try go_wp2_with (first | (go_at_call 82; (with_reducible refine (prop_Type.calls a0_0 t102 _ A7.out).mono ?_); rintro e w57 ⟨rfl, hb⟩; have n0_ := Aside0.mk (blk_below (g := gb101) (o := .cells #[.int .u8 a0_0, .int .u32 a0_1, .string a0_2, .string a0_3] 60 (0, 0)) z65z1 hb); have n1_ := Aside0.mk (below_step z65z0 hb); replace BK101 := n0_; replace HB := n1_; clear n0_ n1_; clear hb; have hcz58_0 := cc4_0 BK101.out; have hcz58_1 := cc4_1 BK101.out; have hcz58_2 := cc4_2 BK101.out; have hcz58_3 := cc4_3 BK101.out)))
           go_ret
           exact ⟨by first | rfl | (simp [errW_none, errW_some] <;> rfl) | (simp [*, errW_none, errW_some] <;> rfl), by repeat (first | (with_reducible first | exact HB.out | apply below_alloc | apply pw_below_drewN | apply below_drew1 | refine below_set ?_ GE101.out) | exact HB.out)⟩
         ·replace c51 := Bool.eq_false_iff.mpr c51
          subst c51
          have H1 : (some false) = some r := by rw [if_neg (show ¬ (false = true) by decide)] at H; exact H
          clear H
          have H := H1
          clear H1
          obtain rfl := Option.some.inj H
          have hcz59_0 : wc.cell? ⟨gb101, 0, none⟩ = some (.int .u8 a0_0) := (blk_cell BK101.out 0).trans rfl
          have hcz59_1 : wc.cell? ⟨gb101, 1, none⟩ = some (.int .u32 a0_1) := (blk_cell BK101.out 1).trans rfl
          have hcz59_2 : wc.cell? ⟨gb101, 2, none⟩ = some (.string a0_2) := (blk_cell BK101.out 2).trans rfl
          have hcz59_3 : wc.cell? ⟨gb101, 3, none⟩ = some (.string a0_3) := (blk_cell BK101.out 3).trans rfl
          have hfz59_0 := blk_frozen BK101.out 0
          have hfz59_1 := blk_frozen BK101.out 1
          have hfz59_2 := blk_frozen BK101.out 2
          have hfz59_3 := blk_frozen BK101.out 3
          go_wp2_with (first | (go_at_call 82; (with_reducible refine (prop_Type.calls a0_0 t102 _ A7.out).mono ?_); rintro e w60 ⟨rfl, hb⟩; have n0_ := Aside0.mk (blk_below (g := gb101) (o := .cells #[.int .u8 a0_0, .int .u32 a0_1, .string a0_2, .string a0_3] 60 (0, 0)) z65z1 hb); have n1_ := Aside0.mk (below_step z65z0 hb); replace BK101 := n0_; replace HB := n1_; clear n0_ n1_; clear hb))
          repeat (go_quiet (first | (go_at_call 82; (with_reducible refine (prop_Type.calls a0_0 t102 _ A7.out).mono ?_); rintro e w60 ⟨rfl, hb⟩; have n0_ := Aside0.mk (blk_below (g := gb101) (o := .cells #[.int .u8 a0_0, .int .u32 a0_1, .string a0_2, .string a0_3] 60 (0, 0)) z65z1 hb); have n1_ := Aside0.mk (below_step z65z0 hb); replace BK101 := n0_; replace HB := n1_; clear n0_ n1_; clear hb)); try go_wp2_with (first | (go_at_call 82; (with_reducible refine (prop_Type.calls a0_0 t102 _ A7.out).mono ?_); rintro e w60 ⟨rfl, hb⟩; have n0_ := Aside0.mk (blk_below (g := gb101) (o := .cells #[.int .u8 a0_0, .int .u32 a0_1, .string a0_2, .string a0_3] 60 (0, 0)) z65z1 hb); have n1_ := Aside0.mk (below_step z65z0 hb); replace BK101 := n0_; replace HB := n1_; clear n0_ n1_; clear hb)))
          go_ret
          exact ⟨by first | rfl | (simp [errW_none, errW_some] <;> rfl) | (simp [*, errW_none, errW_some] <;> rfl), by repeat (first | (with_reducible first | exact HB.out | apply below_alloc | apply pw_below_drewN | apply below_drew1 | refine below_set ?_ GE101.out) | exact HB.out)⟩
        ·rw [if_neg c50] at H
         have c50b0 : (t102 == 6) = false := beq_eq_false_iff_ne.mpr c50
         have c50b1 : (t102 != 6) = true := bne_iff_ne.mpr c50
         by_cases c61 : t102 = 7
         ·rw [if_pos c61] at H
          have c61b0 : (t102 == 7) = true := beq_iff_eq.mpr c61
          have c61b1 : (t102 != 7) = false := bne_eq_false_iff_eq.mpr c61
          clear c61
          by_cases c62 : x4_1 = true
          ·subst c62
           have H1 : ((text_Right.f a0_2).bind fun t104 => (if t104 = true then ((text_Right.f a0_3).bind fun t105 => (some t105)) else (some false))) = some r := by rw [if_pos rfl] at H; exact H
           clear H
           have H := H1
           clear H1
           replace H := Option.bind_eq_some_iff.mp H
           obtain ⟨t104, A630, H⟩ := H
           replace H : (if t104 = true then ((text_Right.f a0_3).bind fun t105 => (some t105)) else (some false)) = some r := H
           have A63 := Aside0.mk A630
           clear A630
           by_cases c64 : t104 = true
           ·subst c64
            have H1 : ((text_Right.f a0_3).bind fun t105 => (some t105)) = some r := by rw [if_pos rfl] at H; exact H
            clear H
            have H := H1
            clear H1
            replace H := Option.bind_eq_some_iff.mp H
            obtain ⟨t105, A650, H⟩ := H
            replace H : (some t105) = some r := H
            have A65 := Aside0.mk A650
            clear A650
            obtain rfl := Option.some.inj H
            have hcz66_0 : wc.cell? ⟨gb101, 0, none⟩ = some (.int .u8 a0_0) := (blk_cell BK101.out 0).trans rfl
            have hcz66_1 : wc.cell? ⟨gb101, 1, none⟩ = some (.int .u32 a0_1) := (blk_cell BK101.out 1).trans rfl
            have hcz66_2 : wc.cell? ⟨gb101, 2, none⟩ = some (.string a0_2) := (blk_cell BK101.out 2).trans rfl
            have hcz66_3 : wc.cell? ⟨gb101, 3, none⟩ = some (.string a0_3) := (blk_cell BK101.out 3).trans rfl
            have hfz66_0 := blk_frozen BK101.out 0
            have hfz66_1 := blk_frozen BK101.out 1
            have hfz66_2 := blk_frozen BK101.out 2
            have hfz66_3 := blk_frozen BK101.out 3
            go_wp2_with (first | (go_at_call 82; (with_reducible refine (prop_Type.calls a0_0 t102 _ A7.out).mono ?_); rintro e w67 ⟨rfl, hb⟩; have n0_ := Aside0.mk (blk_below (g := gb101) (o := .cells #[.int .u8 a0_0, .int .u32 a0_1, .string a0_2, .string a0_3] 60 (0, 0)) z65z1 hb); have n1_ := Aside0.mk (below_step z65z0 hb); replace BK101 := n0_; replace HB := n1_; clear n0_ n1_; clear hb; have hcz68_0 := cc4_0 BK101.out; have hcz68_1 := cc4_1 BK101.out; have hcz68_2 := cc4_2 BK101.out; have hcz68_3 := cc4_3 BK101.out) | (go_at_call 88; (with_reducible refine (text_Right.calls a0_2 true _ ?side1 A63.out).mono ?_); (case side1 => exact z65z3); rintro e w69 ⟨rfl, hb⟩; have n0_ := Aside0.mk (blk_below (g := gb101) (o := .cells #[.int .u8 a0_0, .int .u32 a0_1, .string a0_2, .string a0_3] 60 (0, 0)) z65z1 hb); have n1_ := Aside0.mk (below_step z65z0 hb); replace BK101 := n0_; replace HB := n1_; clear n0_ n1_; clear hb; have hcz70_0 := cc4_0 BK101.out; have hcz70_1 := cc4_1 BK101.out; have hcz70_2 := cc4_2 BK101.out; have hcz70_3 := cc4_3 BK101.out) | (go_at_call 88; (with_reducible refine (text_Right.calls a0_3 t105 _ ?side1 A65.out).mono ?_); (case side1 => exact z65z3); rintro e w71 ⟨rfl, hb⟩; have n0_ := Aside0.mk (blk_below (g := gb101) (o := .cells #[.int .u8 a0_0, .int .u32 a0_1, .string a0_2, .string a0_3] 60 (0, 0)) z65z1 hb); have n1_ := Aside0.mk (below_step z65z0 hb); replace BK101 := n0_; replace HB := n1_; clear n0_ n1_; clear hb))
            repeat (go_quiet (first | (go_at_call 82; (with_reducible refine (prop_Type.calls a0_0 t102 _ A7.out).mono ?_); rintro e w67 ⟨rfl, hb⟩; have n0_ := Aside0.mk (blk_below (g := gb101) (o := .cells #[.int .u8 a0_0, .int .u32 a0_1, .string a0_2, .string a0_3] 60 (0, 0)) z65z1 hb); have n1_ := Aside0.mk (below_step z65z0 hb); replace BK101 := n0_; replace HB := n1_; clear n0_ n1_; clear hb; have hcz68_0 := cc4_0 BK101.out; have hcz68_1 := cc4_1 BK101.out; have hcz68_2 := cc4_2 BK101.out; have hcz68_3 := cc4_3 BK101.out) | (go_at_call 88; (with_reducible refine (text_Right.calls a0_2 true _ ?side1 A63.out).mono ?_); (case side1 => exact z65z3); rintro e w69 ⟨rfl, hb⟩; have n0_ := Aside0.mk (blk_below (g := gb101) (o := .cells #[.int .u8 a0_0, .int .u32 a0_1, .string a0_2, .string a0_3] 60 (0, 0)) z65z1 hb); have n1_ := Aside0.mk (below_step z65z0 hb); replace BK101 := n0_; replace HB := n1_; clear n0_ n1_; clear hb; have hcz70_0 := cc4_0 BK101.out; have hcz70_1 := cc4_1 BK101.out; have hcz70_2 := cc4_2 BK101.out; have hcz70_3 := cc4_3 BK101.out) | (go_at_call 88; (with_reducible refine (text_Right.calls a0_3 t105 _ ?side1 A65.out).mono ?_); (case side1 => exact z65z3); rintro e w71 ⟨rfl, hb⟩; have n0_ := Aside0.mk (blk_below (g := gb101) (o := .cells #[.int .u8 a0_0, .int .u32 a0_1, .string a0_2, .string a0_3] 60 (0, 0)) z65z1 hb); have n1_ := Aside0.mk (below_step z65z0 hb); replace BK101 := n0_; replace HB := n1_; clear n0_ n1_; clear hb)); try go_wp2_with (first | (go_at_call 82; (with_reducible refine (prop_Type.calls a0_0 t102 _ A7.out).mono ?_); rintro e w67 ⟨rfl, hb⟩; have n0_ := Aside0.mk (blk_below (g := gb101) (o := .cells #[.int .u8 a0_0, .int .u32 a0_1, .string a0_2, .string a0_3] 60 (0, 0)) z65z1 hb); have n1_ := Aside0.mk (below_step z65z0 hb); replace BK101 := n0_; replace HB := n1_; clear n0_ n1_; clear hb; have hcz68_0 := cc4_0 BK101.out; have hcz68_1 := cc4_1 BK101.out; have hcz68_2 := cc4_2 BK101.out; have hcz68_3 := cc4_3 BK101.out) | (go_at_call 88; (with_reducible refine (text_Right.calls a0_2 true _ ?side1 A63.out).mono ?_); (case side1 => exact z65z3); rintro e w69 ⟨rfl, hb⟩; have n0_ := Aside0.mk (blk_below (g := gb101) (o := .cells #[.int .u8 a0_0, .int .u32 a0_1, .string a0_2, .string a0_3] 60 (0, 0)) z65z1 hb); have n1_ := Aside0.mk (below_step z65z0 hb); replace BK101 := n0_; replace HB := n1_; clear n0_ n1_; clear hb; have hcz70_0 := cc4_0 BK101.out; have hcz70_1 := cc4_1 BK101.out; have hcz70_2 := cc4_2 BK101.out; have hcz70_3 := cc4_3 BK101.out) | (go_at_call 88; (with_reducible refine (text_Right.calls a0_3 t105 _ ?side1 A65.out).mono ?_); (case side1 => exact z65z3); rintro e w71 ⟨rfl, hb⟩; have n0_ := Aside0.mk (blk_below (g := gb101) (o := .cells #[.int .u8 a0_0, .int .u32 a0_1, .string a0_2, .string a0_3] 60 (0, 0)) z65z1 hb); have n1_ := Aside0.mk (below_step z65z0 hb); replace BK101 := n0_; replace HB := n1_; clear n0_ n1_; clear hb)))
            go_ret
            exact ⟨by first | rfl | (simp [errW_none, errW_some] <;> rfl) | (simp [*, errW_none, errW_some] <;> rfl), by repeat (first | (with_reducible first | exact HB.out | apply below_alloc | apply pw_below_drewN | apply below_drew1 | refine below_set ?_ GE101.out) | exact HB.out)⟩
           ·replace c64 := Bool.eq_false_iff.mpr c64
            subst c64
            have H1 : (some false) = some r := by rw [if_neg (show ¬ (false = true) by decide)] at H; exact H
            clear H
            have H := H1
            clear H1
            obtain rfl := Option.some.inj H
            have hcz72_0 : wc.cell? ⟨gb101, 0, none⟩ = some (.int .u8 a0_0) := (blk_cell BK101.out 0).trans rfl
            have hcz72_1 : wc.cell? ⟨gb101, 1, none⟩ = some (.int .u32 a0_1) := (blk_cell BK101.out 1).trans rfl
            have hcz72_2 : wc.cell? ⟨gb101, 2, none⟩ = some (.string a0_2) := (blk_cell BK101.out 2).trans rfl
            have hcz72_3 : wc.cell? ⟨gb101, 3, none⟩ = some (.string a0_3) := (blk_cell BK101.out 3).trans rfl
            have hfz72_0 := blk_frozen BK101.out 0
            have hfz72_1 := blk_frozen BK101.out 1
            have hfz72_2 := blk_frozen BK101.out 2
            have hfz72_3 := blk_frozen BK101.out 3
            go_wp2_with (first | (go_at_call 82; (with_reducible refine (prop_Type.calls a0_0 t102 _ A7.out).mono ?_); rintro e w73 ⟨rfl, hb⟩; have n0_ := Aside0.mk (blk_below (g := gb101) (o := .cells #[.int .u8 a0_0, .int .u32 a0_1, .string a0_2, .string a0_3] 60 (0, 0)) z65z1 hb); have n1_ := Aside0.mk (below_step z65z0 hb); replace BK101 := n0_; replace HB := n1_; clear n0_ n1_; clear hb; have hcz74_0 := cc4_0 BK101.out; have hcz74_1 := cc4_1 BK101.out; have hcz74_2 := cc4_2 BK101.out; have hcz74_3 := cc4_3 BK101.out) | (go_at_call 88; (with_reducible refine (text_Right.calls a0_2 false _ ?side1 A63.out).mono ?_); (case side1 => exact z65z3); rintro e w75 ⟨rfl, hb⟩; have n0_ := Aside0.mk (blk_below (g := gb101) (o := .cells #[.int .u8 a0_0, .int .u32 a0_1, .string a0_2, .string a0_3] 60 (0, 0)) z65z1 hb); have n1_ := Aside0.mk (below_step z65z0 hb); replace BK101 := n0_; replace HB := n1_; clear n0_ n1_; clear hb))
            repeat (go_quiet (first | (go_at_call 82; (with_reducible refine (prop_Type.calls a0_0 t102 _ A7.out).mono ?_); rintro e w73 ⟨rfl, hb⟩; have n0_ := Aside0.mk (blk_below (g := gb101) (o := .cells #[.int .u8 a0_0, .int .u32 a0_1, .string a0_2, .string a0_3] 60 (0, 0)) z65z1 hb); have n1_ := Aside0.mk (below_step z65z0 hb); replace BK101 := n0_; replace HB := n1_; clear n0_ n1_; clear hb; have hcz74_0 := cc4_0 BK101.out; have hcz74_1 := cc4_1 BK101.out; have hcz74_2 := cc4_2 BK101.out; have hcz74_3 := cc4_3 BK101.out) | (go_at_call 88; (with_reducible refine (text_Right.calls a0_2 false _ ?side1 A63.out).mono ?_); (case side1 => exact z65z3); rintro e w75 ⟨rfl, hb⟩; have n0_ := Aside0.mk (blk_below (g := gb101) (o := .cells #[.int .u8 a0_0, .int .u32 a0_1, .string a0_2, .string a0_3] 60 (0, 0)) z65z1 hb); have n1_ := Aside0.mk (below_step z65z0 hb); replace BK101 := n0_; replace HB := n1_; clear n0_ n1_; clear hb)); try go_wp2_with (first | (go_at_call 82; (with_reducible refine (prop_Type.calls a0_0 t102 _ A7.out).mono ?_); rintro e w73 ⟨rfl, hb⟩; have n0_ := Aside0.mk (blk_below (g := gb101) (o := .cells #[.int .u8 a0_0, .int .u32 a0_1, .string a0_2, .string a0_3] 60 (0, 0)) z65z1 hb); have n1_ := Aside0.mk (below_step z65z0 hb); replace BK101 := n0_; replace HB := n1_; clear n0_ n1_; clear hb; have hcz74_0 := cc4_0 BK101.out; have hcz74_1 := cc4_1 BK101.out; have hcz74_2 := cc4_2 BK101.out; have hcz74_3 := cc4_3 BK101.out) | (go_at_call 88; (with_reducible refine (text_Right.calls a0_2 false _ ?side1 A63.out).mono ?_); (case side1 => exact z65z3); rintro e w75 ⟨rfl, hb⟩; have n0_ := Aside0.mk (blk_below (g := gb101) (o := .cells #[.int .u8 a0_0, .int .u32 a0_1, .string a0_2, .string a0_3] 60 (0, 0)) z65z1 hb); have n1_ := Aside0.mk (below_step z65z0 hb); replace BK101 := n0_; replace HB := n1_; clear n0_ n1_; clear hb)))
            go_ret
            exact ⟨by first | rfl | (simp [errW_none, errW_some] <;> rfl) | (simp [*, errW_none, errW_some] <;> rfl), by repeat (first | (with_reducible first | exact HB.out | apply below_alloc | apply pw_below_drewN | apply below_drew1 | refine below_set ?_ GE101.out) | exact HB.out)⟩
          ·replace c62 := Bool.eq_false_iff.mpr c62
           subst c62
           have H1 : (some false) = some r := by rw [if_neg (show ¬ (false = true) by decide)] at H; exact H
           clear H
           have H := H1
           clear H1
           obtain rfl := Option.some.inj H
           have hcz76_0 : wc.cell? ⟨gb101, 0, none⟩ = some (.int .u8 a0_0) := (blk_cell BK101.out 0).trans rfl
           have hcz76_1 : wc.cell? ⟨gb101, 1, none⟩ = some (.int .u32 a0_1) := (blk_cell BK101.out 1).trans rfl
           have hcz76_2 : wc.cell? ⟨gb101, 2, none⟩ = some (.string a0_2) := (blk_cell BK101.out 2).trans rfl
           have hcz76_3 : wc.cell? ⟨gb101, 3, none⟩ = some (.string a0_3) := (blk_cell BK101.out 3).trans rfl
           have hfz76_0 := blk_frozen BK101.out 0
           have hfz76_1 := blk_frozen BK101.out 1
           have hfz76_2 := blk_frozen BK101.out 2
           have hfz76_3 := blk_frozen BK101.out 3
           go_wp2_with (first | (go_at_call 82; (with_reducible refine (prop_Type.calls a0_0 t102 _ A7.out).mono ?_); rintro e w77 ⟨rfl, hb⟩; have n0_ := Aside0.mk (blk_below (g := gb101) (o := .cells #[.int .u8 a0_0, .int .u32 a0_1, .string a0_2, .string a0_3] 60 (0, 0)) z65z1 hb); have n1_ := Aside0.mk (below_step z65z0 hb); replace BK101 := n0_; replace HB := n1_; clear n0_ n1_; clear hb))
           repeat (go_quiet (first | (go_at_call 82; (with_reducible refine (prop_Type.calls a0_0 t102 _ A7.out).mono ?_); rintro e w77 ⟨rfl, hb⟩; have n0_ := Aside0.mk (blk_below (g := gb101) (o := .cells #[.int .u8 a0_0, .int .u32 a0_1, .string a0_2, .string a0_3] 60 (0, 0)) z65z1 hb); have n1_ := Aside0.mk (below_step z65z0 hb); replace BK101 := n0_; replace HB := n1_; clear n0_ n1_; clear hb)); try go_wp2_with (first | (go_at_call 82; (with_reducible refine (prop_Type.calls a0_0 t102 _ A7.out).mono ?_); rintro e w77 ⟨rfl, hb⟩; have n0_ := Aside0.mk (blk_below (g := gb101) (o := .cells #[.int .u8 a0_0, .int .u32 a0_1, .string a0_2, .string a0_3] 60 (0, 0)) z65z1 hb); have n1_ := Aside0.mk (below_step z65z0 hb); replace BK101 := n0_; replace HB := n1_; clear n0_ n1_; clear hb)))
           go_ret
           exact ⟨by first | rfl | (simp [errW_none, errW_some] <;> rfl) | (simp [*, errW_none, errW_some] <;> rfl), by repeat (first | (with_reducible first | exact HB.out | apply below_alloc | apply pw_below_drewN | apply below_drew1 | refine below_set ?_ GE101.out) | exact HB.out)⟩
         ·rw [if_neg c61] at H
          have c61b0 : (t102 == 7) = false := beq_eq_false_iff_ne.mpr c61
          have c61b1 : (t102 != 7) = true := bne_iff_ne.mpr c61
          obtain rfl := Option.some.inj H
          have hcz78_0 : wc.cell? ⟨gb101, 0, none⟩ = some (.int .u8 a0_0) := (blk_cell BK101.out 0).trans rfl
          have hcz78_1 : wc.cell? ⟨gb101, 1, none⟩ = some (.int .u32 a0_1) := (blk_cell BK101.out 1).trans rfl
          have hcz78_2 : wc.cell? ⟨gb101, 2, none⟩ = some (.string a0_2) := (blk_cell BK101.out 2).trans rfl
          have hcz78_3 : wc.cell? ⟨gb101, 3, none⟩ = some (.string a0_3) := (blk_cell BK101.out 3).trans rfl
          have hfz78_0 := blk_frozen BK101.out 0
          have hfz78_1 := blk_frozen BK101.out 1
          have hfz78_2 := blk_frozen BK101.out 2
          have hfz78_3 := blk_frozen BK101.out 3
          go_wp2_with (first | (go_at_call 82; (with_reducible refine (prop_Type.calls a0_0 t102 _ A7.out).mono ?_); rintro e w79 ⟨rfl, hb⟩; have n0_ := Aside0.mk (blk_below (g := gb101) (o := .cells #[.int .u8 a0_0, .int .u32 a0_1, .string a0_2, .string a0_3] 60 (0, 0)) z65z1 hb); have n1_ := Aside0.mk (below_step z65z0 hb); replace BK101 := n0_; replace HB := n1_; clear n0_ n1_; clear hb))
          repeat (go_quiet (first | (go_at_call 82; (with_reducible refine (prop_Type.calls a0_0 t102 _ A7.out).mono ?_); rintro e w79 ⟨rfl, hb⟩; have n0_ := Aside0.mk (blk_below (g := gb101) (o := .cells #[.int .u8 a0_0, .int .u32 a0_1, .string a0_2, .string a0_3] 60 (0, 0)) z65z1 hb); have n1_ := Aside0.mk (below_step z65z0 hb); replace BK101 := n0_; replace HB := n1_; clear n0_ n1_; clear hb)); try go_wp2_with (first | (go_at_call 82; (with_reducible refine (prop_Type.calls a0_0 t102 _ A7.out).mono ?_); rintro e w79 ⟨rfl, hb⟩; have n0_ := Aside0.mk (blk_below (g := gb101) (o := .cells #[.int .u8 a0_0, .int .u32 a0_1, .string a0_2, .string a0_3] 60 (0, 0)) z65z1 hb); have n1_ := Aside0.mk (below_step z65z0 hb); replace BK101 := n0_; replace HB := n1_; clear n0_ n1_; clear hb)))
          go_ret
          exact ⟨by first | rfl | (simp [errW_none, errW_some] <;> rfl) | (simp [*, errW_none, errW_some] <;> rfl), by repeat (first | (with_reducible first | exact HB.out | apply below_alloc | apply pw_below_drewN | apply below_drew1 | refine below_set ?_ GE101.out) | exact HB.out)⟩
end Go.Proofs.YtkmkgpigmldhnaaDoor.P

namespace Go.Proofs.YtkmkgpigmldhnaaDoor.P
open Go.RowKit Go.Proofs.YtkmkgpigmldhnaaDoorW.PrintWords Go.Proofs.YtkmkgpigmldhnaaDoorW.PrintLast Go.Proofs.YtkmkgpigmldhnaaDoorW.PrintMore
attribute [local go_sem] max2_int min2_int max_two min_two max_three min_three max_four min_four
set_option linter.unusedVariables false
set_option linter.unusedSimpArgs false
def wire_Reader_Two.f (s0_0 : ByteArray) (s0_1 : Int) : Option (Int × ByteArray × Int) := (wire_Reader_take.f s0_0 s0_1 2).bind fun bt101 => (if bt101.2.1 = true then (if 0 < (bt101.1.size : Int) then (if 1 < (bt101.1.size : Int) then (some (Go.bits .or .u16 (IntKind.u16.wrap ((IntKind.u16.wrap (bt bt101.1 0)) * 256)) (IntKind.u16.wrap (bt bt101.1 1)), bt101.2.2.1, bt101.2.2.2)) else (none)) else (none)) else (some (0, bt101.2.2.1, bt101.2.2.2)))
theorem z94z0 {p : Prop} (h : p := by repeat (first | (with_reducible first | exact HB.out | apply below_alloc | apply pw_below_drewN | apply below_drew1 | refine below_set ?_ (IsS78.ge HI0.out)) | exact HB.out)) : p := h
theorem z94z1 {p : Prop} (h : p := by repeat (first | (with_reducible first | exact HI0.out | apply IsS78.alloc | apply IsS78.drewN | apply IsS78.drew | apply IsS78.set_0 | apply IsS78.set_1) | exact HI0.out)) : p := h
theorem z94z2 {p : Prop} (h : p := by repeat (first | (with_reducible first | exact HK.out | apply KeepBut.set_ | apply keep_drewN | apply keep_drew | apply keep_alloc) | exact HK.out)) : p := h
theorem z94z3 {p : Prop} (h : p := by first | (with_reducible assumption) | assumption) : p := h
set_option maxHeartbeats 8000000 in
set_option maxRecDepth 100000 in
theorem wire_Reader_Two.calls (g : Nat) (s0_0 : ByteArray) (s0_1 : Int) (r1 : Int) (r2 : ByteArray) (r3 : Int) (w0 w : World) (hI : IsS78 w0 w g s0_0 s0_1) (hB : Below w0.heap.size w0 w) (h : wire_Reader_Two.f s0_0 s0_1 = some (r1, r2, r3)) :
  Calls Tryd.prog 94 #[.pointer (some ⟨g, 0, none⟩)] w fun e w' => e = .returned (.int .u16 r1) ∧ IsS78 w0 w' g r2 r3 ∧ Below w0.heap.size w0 w' ∧ KeepBut w w' g none := by
 have HI0 := Aside0.mk hI
 have HK := Aside0.mk (KeepBut.refl w g none)
 have HL := Aside0.mk hB.size
 clear hI
 have HW0 := Aside0.mk hB.size
 have HB := Aside0.mk hB
 clear hB
 have H : ((wire_Reader_take.f s0_0 s0_1 2).bind fun bt101 => (if bt101.2.1 = true then (if 0 < (bt101.1.size : Int) then (if 1 < (bt101.1.size : Int) then (some (Go.bits .or .u16 (IntKind.u16.wrap ((IntKind.u16.wrap (bt bt101.1 0)) * 256)) (IntKind.u16.wrap (bt bt101.1 1)), bt101.2.2.1, bt101.2.2.2)) else (none)) else (none)) else (some (0, bt101.2.2.1, bt101.2.2.2)))) = some (r1, r2, r3) := h
 clear h
 replace H := Option.bind_eq_some_iff.mp H
 obtain ⟨⟨t101, t102, t103, t104⟩, A20, H⟩ := H
 replace H : (if t102 = true then (if 0 < (t101.size : Int) then (if 1 < (t101.size : Int) then (some (Go.bits .or .u16 (IntKind.u16.wrap ((IntKind.u16.wrap (bt t101 0)) * 256)) (IntKind.u16.wrap (bt t101 1)), t103, t104)) else (none)) else (none)) else (some (0, t103, t104))) = some (r1, r2, r3) := H
 have A2 := Aside0.mk A20
 clear A20
 by_cases c3 : t102 = true
 ·subst c3
  have H1 : (if 0 < (t101.size : Int) then (if 1 < (t101.size : Int) then (some (Go.bits .or .u16 (IntKind.u16.wrap ((IntKind.u16.wrap (bt t101 0)) * 256)) (IntKind.u16.wrap (bt t101 1)), t103, t104)) else (none)) else (none)) = some (r1, r2, r3) := by rw [if_pos rfl] at H; exact H
  clear H
  have H := H1
  clear H1
  by_cases c4 : 0 < (t101.size : Int)
  ·rw [if_pos c4] at H
   have c4b0 : decide (0 < (t101.size : Int)) = true := decide_eq_true c4
   have c4b1 : decide (0 < t101.size) = true := decide_eq_true (by omega)
   clear c4
   by_cases c6 : 1 < (t101.size : Int)
   ·rw [if_pos c6] at H
    have c6b0 : decide (1 < (t101.size : Int)) = true := decide_eq_true c6
    have c6b1 : decide (1 < t101.size) = true := decide_eq_true (by omega)
    clear c6
    simp only [Option.some.injEq, Prod.mk.injEq] at H
    obtain ⟨rfl, rfl, rfl⟩ := H
    go_enter Tryd.func94, Tryd.ntmps94
    go_wp2_with (first | (go_at_call 41; (with_reducible refine (wire_Reader_take.calls g s0_0 s0_1 2 t101 true t103 t104 w0 _ ?side1 ?side2 A2.out).mono ?_); (case side1 => exact z94z1); (case side2 => exact z94z0); rintro e w8 ⟨rfl, hi, hb, hk⟩; have n0_ := Aside0.mk (KeepBut.trans z94z2 hk (.inl rfl)); have n1_ := Aside0.mk (hb); have n2_ := Aside0.mk (hi); replace HK := n0_; replace HB := n1_; replace HI0 := n2_; clear n0_ n1_ n2_; clear hb hk hi; have p5 : 0 ≤ (0 : Int) := (by omega); have q5 : 0 < t101.size := (by have : (0 : Int) < (t101.size : Int) := of_decide_eq_true z94z3; omega); have hx5 : ∀ h : 0 < t101.size, ((t101[0]'h).toNat : Int) = bt t101 0 := bt_at t101 0; clear p5; have qi5 : (0 < (t101.size : Int)) = True := eq_true (of_decide_eq_true z94z3); replace q5 := eq_true q5; have p7 : 0 ≤ (1 : Int) := (by omega); have q7 : 1 < t101.size := (by have : (1 : Int) < (t101.size : Int) := of_decide_eq_true z94z3; omega); have hx7 : ∀ h : 1 < t101.size, ((t101[1]'h).toNat : Int) = bt t101 1 := bt_at t101 1; clear p7; have qi7 : (1 < (t101.size : Int)) = True := eq_true (of_decide_eq_true z94z3); replace q7 := eq_true q7))
    repeat (go_quiet (first | (go_at_call 41; (with_reducible refine (wire_Reader_take.calls g s0_0 s0_1 2 t101 true t103 t104 w0 _ ?side1 ?side2 A2.out).mono ?_); (case side1 => exact z94z1); (case side2 => exact z94z0); rintro e w8 ⟨rfl, hi, hb, hk⟩; have n0_ := Aside0.mk (KeepBut.trans z94z2 hk (.inl rfl)); have n1_ := Aside0.mk (hb); have n2_ := Aside0.mk (hi); replace HK := n0_; replace HB := n1_; replace HI0 := n2_; clear n0_ n1_ n2_; clear hb hk hi; have p5 : 0 ≤ (0 : Int) := (by omega); have q5 : 0 < t101.size := (by have : (0 : Int) < (t101.size : Int) := of_decide_eq_true z94z3; omega); have hx5 : ∀ h : 0 < t101.size, ((t101[0]'h).toNat : Int) = bt t101 0 := bt_at t101 0; clear p5; have qi5 : (0 < (t101.size : Int)) = True := eq_true (of_decide_eq_true z94z3); replace q5 := eq_true q5; have p7 : 0 ≤ (1 : Int) := (by omega); have q7 : 1 < t101.size := (by have : (1 : Int) < (t101.size : Int) := of_decide_eq_true z94z3; omega); have hx7 : ∀ h : 1 < t101.size, ((t101[1]'h).toNat : Int) = bt t101 1 := bt_at t101 1; clear p7; have qi7 : (1 < (t101.size : Int)) = True := eq_true (of_decide_eq_true z94z3); replace q7 := eq_true q7)); try go_wp2_with (first | (go_at_call 41; (with_reducible refine (wire_Reader_take.calls g s0_0 s0_1 2 t101 true t103 t104 w0 _ ?side1 ?side2 A2.out).mono ?_); (case side1 => exact z94z1); (case side2 => exact z94z0); rintro e w8 ⟨rfl, hi, hb, hk⟩; have n0_ := Aside0.mk (KeepBut.trans z94z2 hk (.inl rfl)); have n1_ := Aside0.mk (hb); have n2_ := Aside0.mk (hi); replace HK := n0_; replace HB := n1_; replace HI0 := n2_; clear n0_ n1_ n2_; clear hb hk hi; have p5 : 0 ≤ (0 : Int) := (by omega); have q5 : 0 < t101.size := (by have : (0 : Int) < (t101.size : Int) := of_decide_eq_true z94z3; omega); have hx5 : ∀ h : 0 < t101.size, ((t101[0]'h).toNat : Int) = bt t101 0 := bt_at t101 0; clear p5; have qi5 : (0 < (t101.size : Int)) = True := eq_true (of_decide_eq_true z94z3); replace q5 := eq_true q5; have p7 : 0 ≤ (1 : Int) := (by omega); have q7 : 1 < t101.size := (by have : (1 : Int) < (t101.size : Int) := of_decide_eq_true z94z3; omega); have hx7 : ∀ h : 1 < t101.size, ((t101[1]'h).toNat : Int) = bt t101 1 := bt_at t101 1; clear p7; have qi7 : (1 < (t101.size : Int)) = True := eq_true (of_decide_eq_true z94z3); replace q7 := eq_true q7)))
    go_ret
    exact ⟨by first | rfl | (simp [errW_none, errW_some] <;> rfl) | (simp [*, errW_none, errW_some] <;> rfl), by repeat (first | (with_reducible first | exact HI0.out | apply IsS78.alloc | apply IsS78.drewN | apply IsS78.drew | apply IsS78.set_0 | apply IsS78.set_1) | exact HI0.out), by repeat (first | (with_reducible first | exact HB.out | apply below_alloc | apply pw_below_drewN | apply below_drew1 | refine below_set ?_ (IsS78.ge HI0.out)) | exact HB.out), by repeat (first | (with_reducible first | exact HK.out | apply KeepBut.set_ | apply keep_drewN | apply keep_drew | apply keep_alloc) | exact HK.out)⟩
   ·rw [if_neg c6] at H
    exact absurd H (by simp)
  ·rw [if_neg c4] at H
   exact absurd H (by simp)
 ·replace c3 := Bool.eq_false_iff.mpr c3
  subst c3
  have H1 : (some (0, t103, t104)) = some (r1, r2, r3) := by rw [if_neg (show ¬ (false = true) by decide)] at H; exact H
  clear H
  have H := H1
  clear H1
  simp only [Option.some.injEq, Prod.mk.injEq] at H
  obtain ⟨rfl, rfl, rfl⟩ := H
  go_enter Tryd.func94, Tryd.ntmps94
  go_wp2_with (first | (go_at_call 41; (with_reducible refine (wire_Reader_take.calls g s0_0 s0_1 2 t101 false t103 t104 w0 _ ?side1 ?side2 A2.out).mono ?_); (case side1 => exact z94z1); (case side2 => exact z94z0); rintro e w9 ⟨rfl, hi, hb, hk⟩; have n0_ := Aside0.mk (KeepBut.trans z94z2 hk (.inl rfl)); have n1_ := Aside0.mk (hb); have n2_ := Aside0.mk (hi); replace HK := n0_; replace HB := n1_; replace HI0 := n2_; clear n0_ n1_ n2_; clear hb hk hi))
  repeat (go_quiet (first | (go_at_call 41; (with_reducible refine (wire_Reader_take.calls g s0_0 s0_1 2 t101 false t103 t104 w0 _ ?side1 ?side2 A2.out).mono ?_); (case side1 => exact z94z1); (case side2 => exact z94z0); rintro e w9 ⟨rfl, hi, hb, hk⟩; have n0_ := Aside0.mk (KeepBut.trans z94z2 hk (.inl rfl)); have n1_ := Aside0.mk (hb); have n2_ := Aside0.mk (hi); replace HK := n0_; replace HB := n1_; replace HI0 := n2_; clear n0_ n1_ n2_; clear hb hk hi)); try go_wp2_with (first | (go_at_call 41; (with_reducible refine (wire_Reader_take.calls g s0_0 s0_1 2 t101 false t103 t104 w0 _ ?side1 ?side2 A2.out).mono ?_); (case side1 => exact z94z1); (case side2 => exact z94z0); rintro e w9 ⟨rfl, hi, hb, hk⟩; have n0_ := Aside0.mk (KeepBut.trans z94z2 hk (.inl rfl)); have n1_ := Aside0.mk (hb); have n2_ := Aside0.mk (hi); replace HK := n0_; replace HB := n1_; replace HI0 := n2_; clear n0_ n1_ n2_; clear hb hk hi)))
  go_ret
  exact ⟨by first | rfl | (simp [errW_none, errW_some] <;> rfl) | (simp [*, errW_none, errW_some] <;> rfl), by repeat (first | (with_reducible first | exact HI0.out | apply IsS78.alloc | apply IsS78.drewN | apply IsS78.drew | apply IsS78.set_0 | apply IsS78.set_1) | exact HI0.out), by repeat (first | (with_reducible first | exact HB.out | apply below_alloc | apply pw_below_drewN | apply below_drew1 | refine below_set ?_ (IsS78.ge HI0.out)) | exact HB.out), by repeat (first | (with_reducible first | exact HK.out | apply KeepBut.set_ | apply keep_drewN | apply keep_drew | apply keep_alloc) | exact HK.out)⟩
end Go.Proofs.YtkmkgpigmldhnaaDoor.P

namespace Go.Proofs.YtkmkgpigmldhnaaDoor.P
open Go.RowKit Go.Proofs.YtkmkgpigmldhnaaDoorW.PrintWords Go.Proofs.YtkmkgpigmldhnaaDoorW.PrintLast Go.Proofs.YtkmkgpigmldhnaaDoorW.PrintMore
attribute [local go_sem] max2_int min2_int max_two min_two max_three min_three max_four min_four
set_option linter.unusedVariables false
set_option linter.unusedSimpArgs false
def wire_Reader_Four.f (s0_0 : ByteArray) (s0_1 : Int) : Option (Int × ByteArray × Int) := (wire_Reader_take.f s0_0 s0_1 4).bind fun bt101 => (if bt101.2.1 = true then (if 0 < (bt101.1.size : Int) then (if 1 < (bt101.1.size : Int) then (if 2 < (bt101.1.size : Int) then (if 3 < (bt101.1.size : Int) then (some (Go.bits .or .u32 (Go.bits .or .u32 (Go.bits .or .u32 ((((bt bt101.1 0) % 4294967296) * 16777216) % 4294967296) ((((bt bt101.1 1) % 4294967296) * 65536) % 4294967296)) ((((bt bt101.1 2) % 4294967296) * 256) % 4294967296)) ((bt bt101.1 3) % 4294967296), bt101.2.2.1, bt101.2.2.2)) else (none)) else (none)) else (none)) else (none)) else (some (0, bt101.2.2.1, bt101.2.2.2)))
theorem z95z0 {p : Prop} (h : p := by first | (with_reducible assumption) | assumption) : p := h
theorem z95z1 {p : Prop} (h : p := by repeat (first | (with_reducible first | exact HB.out | apply below_alloc | apply pw_below_drewN | apply below_drew1 | refine below_set ?_ (IsS78.ge HI0.out)) | exact HB.out)) : p := h
theorem z95z2 {p : Prop} (h : p := by repeat (first | (with_reducible first | exact HI0.out | apply IsS78.alloc | apply IsS78.drewN | apply IsS78.drew | apply IsS78.set_0 | apply IsS78.set_1) | exact HI0.out)) : p := h
theorem z95z3 {p : Prop} (h : p := by repeat (first | (with_reducible first | exact HK.out | apply KeepBut.set_ | apply keep_drewN | apply keep_drew | apply keep_alloc) | exact HK.out)) : p := h
set_option maxHeartbeats 8000000 in
set_option maxRecDepth 100000 in
theorem wire_Reader_Four.calls (g : Nat) (s0_0 : ByteArray) (s0_1 : Int) (r1 : Int) (r2 : ByteArray) (r3 : Int) (w0 w : World) (hI : IsS78 w0 w g s0_0 s0_1) (hB : Below w0.heap.size w0 w) (h : wire_Reader_Four.f s0_0 s0_1 = some (r1, r2, r3)) :
  Calls Tryd.prog 95 #[.pointer (some ⟨g, 0, none⟩)] w fun e w' => e = .returned (.int .u32 r1) ∧ IsS78 w0 w' g r2 r3 ∧ Below w0.heap.size w0 w' ∧ KeepBut w w' g none := by
 have HI0 := Aside0.mk hI
 have HK := Aside0.mk (KeepBut.refl w g none)
 have HL := Aside0.mk hB.size
 clear hI
 have HW0 := Aside0.mk hB.size
 have HB := Aside0.mk hB
 clear hB
 have H : ((wire_Reader_take.f s0_0 s0_1 4).bind fun bt101 => (if bt101.2.1 = true then (if 0 < (bt101.1.size : Int) then (if 1 < (bt101.1.size : Int) then (if 2 < (bt101.1.size : Int) then (if 3 < (bt101.1.size : Int) then (some (Go.bits .or .u32 (Go.bits .or .u32 (Go.bits .or .u32 ((((bt bt101.1 0) % 4294967296) * 16777216) % 4294967296) ((((bt bt101.1 1) % 4294967296) * 65536) % 4294967296)) ((((bt bt101.1 2) % 4294967296) * 256) % 4294967296)) ((bt bt101.1 3) % 4294967296), bt101.2.2.1, bt101.2.2.2)) else (none)) else (none)) else (none)) else (none)) else (some (0, bt101.2.2.1, bt101.2.2.2)))) = some (r1, r2, r3) := h
 clear h
 replace H := Option.bind_eq_some_iff.mp H
 obtain ⟨⟨t101, t102, t103, t104⟩, A20, H⟩ := H
 replace H : (if t102 = true then (if 0 < (t101.size : Int) then (if 1 < (t101.size : Int) then (if 2 < (t101.size : Int) then (if 3 < (t101.size : Int) then (some (Go.bits .or .u32 (Go.bits .or .u32 (Go.bits .or .u32 ((((bt t101 0) % 4294967296) * 16777216) % 4294967296) ((((bt t101 1) % 4294967296) * 65536) % 4294967296)) ((((bt t101 2) % 4294967296) * 256) % 4294967296)) ((bt t101 3) % 4294967296), t103, t104)) else (none)) else (none)) else (none)) else (none)) else (some (0, t103, t104))) = some (r1, r2, r3) := H
 have A2 := Aside0.mk A20
 clear A20
 by_cases c3 : t102 = true
 ·subst c3
  have H1 : (if 0 < (t101.size : Int) then (if 1 < (t101.size : Int) then (if 2 < (t101.size : Int) then (if 3 < (t101.size : Int) then (some (Go.bits .or .u32 (Go.bits .or .u32 (Go.bits .or .u32 ((((bt t101 0) % 4294967296) * 16777216) % 4294967296) ((((bt t101 1) % 4294967296) * 65536) % 4294967296)) ((((bt t101 2) % 4294967296) * 256) % 4294967296)) ((bt t101 3) % 4294967296), t103, t104)) else (none)) else (none)) else (none)) else (none)) = some (r1, r2, r3) := by rw [if_pos rfl] at H; exact H
  clear H
  have H := H1
  clear H1
  by_cases c4 : 0 < (t101.size : Int)
  ·rw [if_pos c4] at H
   have c4b0 : decide (0 < (t101.size : Int)) = true := decide_eq_true c4
   have c4b1 : decide (0 < t101.size) = true := decide_eq_true (by omega)
   clear c4
   by_cases c6 : 1 < (t101.size : Int)
   ·rw [if_pos c6] at H
    have c6b0 : decide (1 < (t101.size : Int)) = true := decide_eq_true c6
    have c6b1 : decide (1 < t101.size) = true := decide_eq_true (by omega)
    clear c6
    by_cases c8 : 2 < (t101.size : Int)
    ·rw [if_pos c8] at H
     have c8b0 : decide (2 < (t101.size : Int)) = true := decide_eq_true c8
     have c8b1 : decide (2 < t101.size) = true := decide_eq_true (by omega)
     clear c8
     by_cases c10 : 3 < (t101.size : Int)
     ·rw [if_pos c10] at H
      have c10b0 : decide (3 < (t101.size : Int)) = true := decide_eq_true c10
      have c10b1 : decide (3 < t101.size) = true := decide_eq_true (by omega)
      clear c10
      simp only [Option.some.injEq, Prod.mk.injEq] at H
      obtain ⟨rfl, rfl, rfl⟩ := H
      go_enter Tryd.func95, Tryd.ntmps95
      go_wp2_with (first | (go_at_call 41; (with_reducible refine (wire_Reader_take.calls g s0_0 s0_1 4 t101 true t103 t104 w0 _ ?side1 ?side2 A2.out).mono ?_); (case side1 => exact z95z2); (case side2 => exact z95z1); rintro e w12 ⟨rfl, hi, hb, hk⟩; have n0_ := Aside0.mk (KeepBut.trans z95z3 hk (.inl rfl)); have n1_ := Aside0.mk (hb); have n2_ := Aside0.mk (hi); replace HK := n0_; replace HB := n1_; replace HI0 := n2_; clear n0_ n1_ n2_; clear hb hk hi; have p5 : 0 ≤ (0 : Int) := (by omega); have q5 : 0 < t101.size := (by have : (0 : Int) < (t101.size : Int) := of_decide_eq_true z95z0; omega); have hx5 : ∀ h : 0 < t101.size, ((t101[0]'h).toNat : Int) = bt t101 0 := bt_at t101 0; clear p5; have qi5 : (0 < (t101.size : Int)) = True := eq_true (of_decide_eq_true z95z0); replace q5 := eq_true q5; have p7 : 0 ≤ (1 : Int) := (by omega); have q7 : 1 < t101.size := (by have : (1 : Int) < (t101.size : Int) := of_decide_eq_true z95z0; omega); have hx7 : ∀ h : 1 < t101.size, ((t101[1]'h).toNat : Int) = bt t101 1 := bt_at t101 1; clear p7; have qi7 : (1 < (t101.size : Int)) = True := eq_true (of_decide_eq_true z95z0); replace q7 := eq_true q7; have p9 : 0 ≤ (2 : Int) := (by omega); have q9 : 2 < t101.size := (by have : (2 : Int) < (t101.size : Int) := of_decide_eq_true z95z0; omega); have hx9 : ∀ h : 2 < t101.size, ((t101[2]'h).toNat : Int) = bt t101 2 := bt_at t101 2; clear p9; have qi9 : (2 < (t101.size : Int)) = True := eq_true (of_decide_eq_true z95z0); replace q9 := eq_true q9; have p11 : 0 ≤ (3 : Int) := (by omega); have q11 : 3 < t101.size := (by have : (3 : Int) < (t101.size : Int) := of_decide_eq_true z95z0; omega); have hx11 : ∀ h : 3 < t101.size, ((t101[3]'h).toNat : Int) = bt t101 3 := bt_at t101 3; clear p11; have qi11 : (3 < (t101.size : Int)) = True := eq_true (of_decide_eq_true z95z0); replace q11 := eq_true q11))
      repeat (go_quiet (first | (go_at_call 41; (with_reducible refine (wire_Reader_take.calls g s0_0 s0_1 4 t101 true t103 t104 w0 _ ?side1 ?side2 A2.out).mono ?_); (case side1 => exact z95z2); (case side2 => exact z95z1); rintro e w12 ⟨rfl, hi, hb, hk⟩; have n0_ := Aside0.mk (KeepBut.trans z95z3 hk (.inl rfl)); have n1_ := Aside0.mk (hb); have n2_ := Aside0.mk (hi); replace HK := n0_; replace HB := n1_; replace HI0 := n2_; clear n0_ n1_ n2_; clear hb hk hi; have p5 : 0 ≤ (0 : Int) := (by omega); have q5 : 0 < t101.size := (by have : (0 : Int) < (t101.size : Int) := of_decide_eq_true z95z0; omega); have hx5 : ∀ h : 0 < t101.size, ((t101[0]'h).toNat : Int) = bt t101 0 := bt_at t101 0; clear p5; have qi5 : (0 < (t101.size : Int)) = True := eq_true (of_decide_eq_true z95z0); replace q5 := eq_true q5; have p7 : 0 ≤ (1 : Int) := (by omega); have q7 : 1 < t101.size := (by have : (1 : Int) < (t101.size : Int) := of_decide_eq_true z95z0; omega); have hx7 : ∀ h : 1 < t101.size, ((t101[1]'h).toNat : Int) = bt t101 1 := bt_at t101 1; clear p7; have qi7 : (1 < (t101.size : Int)) = True := eq_true (of_decide_eq_true z95z0); replace q7 := eq_true q7; have p9 : 0 ≤ (2 : Int) := (by omega); have q9 : 2 < t101.size := (by have : (2 : Int) < (t101.size : Int) := of_decide_eq_true z95z0; omega); have hx9 : ∀ h : 2 < t101.size, ((t101[2]'h).toNat : Int) = bt t101 2 := bt_at t101 2; clear p9; have qi9 : (2 < (t101.size : Int)) = True := eq_true (of_decide_eq_true z95z0); replace q9 := eq_true q9; have p11 : 0 ≤ (3 : Int) := (by omega); have q11 : 3 < t101.size := (by have : (3 : Int) < (t101.size : Int) := of_decide_eq_true z95z0; omega); have hx11 : ∀ h : 3 < t101.size, ((t101[3]'h).toNat : Int) = bt t101 3 := bt_at t101 3; clear p11; have qi11 : (3 < (t101.size : Int)) = True := eq_true (of_decide_eq_true z95z0); replace q11 := eq_true q11)); try go_wp2_with (first | (go_at_call 41; (with_reducible refine (wire_Reader_take.calls g s0_0 s0_1 4 t101 true t103 t104 w0 _ ?side1 ?side2 A2.out).mono ?_); (case side1 => exact z95z2); (case side2 => exact z95z1); rintro e w12 ⟨rfl, hi, hb, hk⟩; have n0_ := Aside0.mk (KeepBut.trans z95z3 hk (.inl rfl)); have n1_ := Aside0.mk (hb); have n2_ := Aside0.mk (hi); replace HK := n0_; replace HB := n1_; replace HI0 := n2_; clear n0_ n1_ n2_; clear hb hk hi; have p5 : 0 ≤ (0 : Int) := (by omega); have q5 : 0 < t101.size := (by have : (0 : Int) < (t101.size : Int) := of_decide_eq_true z95z0; omega); have hx5 : ∀ h : 0 < t101.size, ((t101[0]'h).toNat : Int) = bt t101 0 := bt_at t101 0; clear p5; have qi5 : (0 < (t101.size : Int)) = True := eq_true (of_decide_eq_true z95z0); replace q5 := eq_true q5; have p7 : 0 ≤ (1 : Int) := (by omega); have q7 : 1 < t101.size := (by have : (1 : Int) < (t101.size : Int) := of_decide_eq_true z95z0; omega); have hx7 : ∀ h : 1 < t101.size, ((t101[1]'h).toNat : Int) = bt t101 1 := bt_at t101 1; clear p7; have qi7 : (1 < (t101.size : Int)) = True := eq_true (of_decide_eq_true z95z0); replace q7 := eq_true q7; have p9 : 0 ≤ (2 : Int) := (by omega); have q9 : 2 < t101.size := (by have : (2 : Int) < (t101.size : Int) := of_decide_eq_true z95z0; omega); have hx9 : ∀ h : 2 < t101.size, ((t101[2]'h).toNat : Int) = bt t101 2 := bt_at t101 2; clear p9; have qi9 : (2 < (t101.size : Int)) = True := eq_true (of_decide_eq_true z95z0); replace q9 := eq_true q9; have p11 : 0 ≤ (3 : Int) := (by omega); have q11 : 3 < t101.size := (by have : (3 : Int) < (t101.size : Int) := of_decide_eq_true z95z0; omega); have hx11 : ∀ h : 3 < t101.size, ((t101[3]'h).toNat : Int) = bt t101 3 := bt_at t101 3; clear p11; have qi11 : (3 < (t101.size : Int)) = True := eq_true (of_decide_eq_true z95z0); replace q11 := eq_true q11)))
      go_ret
      exact ⟨by first | rfl | (simp [errW_none, errW_some] <;> rfl) | (simp [*, errW_none, errW_some] <;> rfl), by repeat (first | (with_reducible first | exact HI0.out | apply IsS78.alloc | apply IsS78.drewN | apply IsS78.drew | apply IsS78.set_0 | apply IsS78.set_1) | exact HI0.out), by repeat (first | (with_reducible first | exact HB.out | apply below_alloc | apply pw_below_drewN | apply below_drew1 | refine below_set ?_ (IsS78.ge HI0.out)) | exact HB.out), by repeat (first | (with_reducible first | exact HK.out | apply KeepBut.set_ | apply keep_drewN | apply keep_drew | apply keep_alloc) | exact HK.out)⟩
     ·rw [if_neg c10] at H
      exact absurd H (by simp)
    ·rw [if_neg c8] at H
     exact absurd H (by simp)
   ·rw [if_neg c6] at H
    exact absurd H (by simp)
  ·rw [if_neg c4] at H
   exact absurd H (by simp)
 ·replace c3 := Bool.eq_false_iff.mpr c3
  subst c3
  have H1 : (some (0, t103, t104)) = some (r1, r2, r3) := by rw [if_neg (show ¬ (false = true) by decide)] at H; exact H
  clear H
  have H := H1
  clear H1
  simp only [Option.some.injEq, Prod.mk.injEq] at H
  obtain ⟨rfl, rfl, rfl⟩ := H
  go_enter Tryd.func95, Tryd.ntmps95
  go_wp2_with (first | (go_at_call 41; (with_reducible refine (wire_Reader_take.calls g s0_0 s0_1 4 t101 false t103 t104 w0 _ ?side1 ?side2 A2.out).mono ?_); (case side1 => exact z95z2); (case side2 => exact z95z1); rintro e w13 ⟨rfl, hi, hb, hk⟩; have n0_ := Aside0.mk (KeepBut.trans z95z3 hk (.inl rfl)); have n1_ := Aside0.mk (hb); have n2_ := Aside0.mk (hi); replace HK := n0_; replace HB := n1_; replace HI0 := n2_; clear n0_ n1_ n2_; clear hb hk hi))
  repeat (go_quiet (first | (go_at_call 41; (with_reducible refine (wire_Reader_take.calls g s0_0 s0_1 4 t101 false t103 t104 w0 _ ?side1 ?side2 A2.out).mono ?_); (case side1 => exact z95z2); (case side2 => exact z95z1); rintro e w13 ⟨rfl, hi, hb, hk⟩; have n0_ := Aside0.mk (KeepBut.trans z95z3 hk (.inl rfl)); have n1_ := Aside0.mk (hb); have n2_ := Aside0.mk (hi); replace HK := n0_; replace HB := n1_; replace HI0 := n2_; clear n0_ n1_ n2_; clear hb hk hi)); try go_wp2_with (first | (go_at_call 41; (with_reducible refine (wire_Reader_take.calls g s0_0 s0_1 4 t101 false t103 t104 w0 _ ?side1 ?side2 A2.out).mono ?_); (case side1 => exact z95z2); (case side2 => exact z95z1); rintro e w13 ⟨rfl, hi, hb, hk⟩; have n0_ := Aside0.mk (KeepBut.trans z95z3 hk (.inl rfl)); have n1_ := Aside0.mk (hb); have n2_ := Aside0.mk (hi); replace HK := n0_; replace HB := n1_; replace HI0 := n2_; clear n0_ n1_ n2_; clear hb hk hi)))
  go_ret
  exact ⟨by first | rfl | (simp [errW_none, errW_some] <;> rfl) | (simp [*, errW_none, errW_some] <;> rfl), by repeat (first | (with_reducible first | exact HI0.out | apply IsS78.alloc | apply IsS78.drewN | apply IsS78.drew | apply IsS78.set_0 | apply IsS78.set_1) | exact HI0.out), by repeat (first | (with_reducible first | exact HB.out | apply below_alloc | apply pw_below_drewN | apply below_drew1 | refine below_set ?_ (IsS78.ge HI0.out)) | exact HB.out), by repeat (first | (with_reducible first | exact HK.out | apply KeepBut.set_ | apply keep_drewN | apply keep_drew | apply keep_alloc) | exact HK.out)⟩
end Go.Proofs.YtkmkgpigmldhnaaDoor.P

namespace Go.Proofs.YtkmkgpigmldhnaaDoor.P
open Go.RowKit Go.Proofs.YtkmkgpigmldhnaaDoorW.PrintWords Go.Proofs.YtkmkgpigmldhnaaDoorW.PrintLast Go.Proofs.YtkmkgpigmldhnaaDoorW.PrintMore
attribute [local go_sem] max2_int min2_int max_two min_two max_three min_three max_four min_four
set_option linter.unusedVariables false
set_option linter.unusedSimpArgs false
def wire_Reader_Bin.f (s0_0 : ByteArray) (s0_1 : Int) : Option (ByteArray × ByteArray × Int) := (wire_Reader_Two.f s0_0 s0_1).bind fun bt101 => ((wire_Reader_take.f bt101.2.1 bt101.2.2 (wrap64 (bt101.1))).bind fun bt104 => (some (bt104.1, bt104.2.2.1, bt104.2.2.2)))
theorem z96z0 {p : Prop} (h : p := by repeat (first | (with_reducible first | exact HB.out | apply below_alloc | apply pw_below_drewN | apply below_drew1 | refine below_set ?_ (IsS78.ge HI0.out)) | exact HB.out)) : p := h
theorem z96z1 {p : Prop} (h : p := by repeat (first | (with_reducible first | exact HI0.out | apply IsS78.alloc | apply IsS78.drewN | apply IsS78.drew | apply IsS78.set_0 | apply IsS78.set_1) | exact HI0.out)) : p := h
theorem z96z2 {p : Prop} (h : p := by repeat (first | (with_reducible first | exact HK.out | apply KeepBut.set_ | apply keep_drewN | apply keep_drew | apply keep_alloc) | exact HK.out)) : p := h
theorem z96z3 {p : Prop} (h : p := by (try simp only [List.map_toArray, List.map_cons, List.map_nil]); first | done | rfl | (simp only [List.length_drop, List.length_take]; rfl)) : p := h
set_option maxHeartbeats 8000000 in
set_option maxRecDepth 100000 in
theorem wire_Reader_Bin.calls (g : Nat) (s0_0 : ByteArray) (s0_1 : Int) (r1 : ByteArray) (r2 : ByteArray) (r3 : Int) (w0 w : World) (hI : IsS78 w0 w g s0_0 s0_1) (hB : Below w0.heap.size w0 w) (h : wire_Reader_Bin.f s0_0 s0_1 = some (r1, r2, r3)) :
  Calls Tryd.prog 96 #[.pointer (some ⟨g, 0, none⟩)] w fun e w' => e = .returned (.string r1) ∧ IsS78 w0 w' g r2 r3 ∧ Below w0.heap.size w0 w' ∧ KeepBut w w' g none := by
 have HI0 := Aside0.mk hI
 have HK := Aside0.mk (KeepBut.refl w g none)
 have HL := Aside0.mk hB.size
 clear hI
 have HW0 := Aside0.mk hB.size
 have HB := Aside0.mk hB
 clear hB
 have H : ((wire_Reader_Two.f s0_0 s0_1).bind fun bt101 => ((wire_Reader_take.f bt101.2.1 bt101.2.2 (wrap64 (bt101.1))).bind fun bt104 => (some (bt104.1, bt104.2.2.1, bt104.2.2.2)))) = some (r1, r2, r3) := h
 clear h
 replace H := Option.bind_eq_some_iff.mp H
 obtain ⟨⟨t101, t102, t103⟩, A20, H⟩ := H
 replace H : ((wire_Reader_take.f t102 t103 (wrap64 (t101))).bind fun bt104 => (some (bt104.1, bt104.2.2.1, bt104.2.2.2))) = some (r1, r2, r3) := H
 have A2 := Aside0.mk A20
 clear A20
 replace H := Option.bind_eq_some_iff.mp H
 obtain ⟨⟨t104, t105, t106, t107⟩, A30, H⟩ := H
 replace H : (some (t104, t106, t107)) = some (r1, r2, r3) := H
 have A3 := Aside0.mk A30
 clear A30
 simp only [Option.some.injEq, Prod.mk.injEq] at H
 obtain ⟨rfl, rfl, rfl⟩ := H
 go_enter Tryd.func96, Tryd.ntmps96
 go_wp2_with (first | ((with_reducible refine gate_callee (f := 94) rfl ?_); refine goesL_ (some 8) rfl rfl Tryd.func94 (by kernel_rfl) rfl #[.pointer (some ⟨g, 0, none⟩)] rfl z96z3 ?_; (with_reducible refine (wire_Reader_Two.calls g s0_0 s0_1 t101 t102 t103 w0 _ ?side1 ?side2 A2.out).mono ?_); (case side1 => exact z96z1); (case side2 => exact z96z0); rintro e w4 ⟨rfl, hi, hb, hk⟩; refine ⟨_, rfl, ?_⟩; have n0_ := Aside0.mk (KeepBut.trans z96z2 hk (.inl rfl)); have n1_ := Aside0.mk (hb); have n2_ := Aside0.mk (hi); replace HK := n0_; replace HB := n1_; replace HI0 := n2_; clear n0_ n1_ n2_; clear hb hk hi) | ((with_reducible refine gate_callee (f := 41) rfl ?_); refine goesL_ (some 10) rfl rfl Tryd.func41 (by kernel_rfl) rfl #[.pointer (some ⟨g, 0, none⟩), .int .i64 (wrap64 (t101))] rfl z96z3 ?_; (with_reducible refine (wire_Reader_take.calls g t102 t103 (wrap64 (t101)) t104 t105 t106 t107 w0 _ ?side1 ?side2 A3.out).mono ?_); (case side1 => exact z96z1); (case side2 => exact z96z0); rintro e w5 ⟨rfl, hi, hb, hk⟩; refine ⟨_, rfl, ?_⟩; have n0_ := Aside0.mk (KeepBut.trans z96z2 hk (.inl rfl)); have n1_ := Aside0.mk (hb); have n2_ := Aside0.mk (hi); replace HK := n0_; replace HB := n1_; replace HI0 := n2_; clear n0_ n1_ n2_; clear hb hk hi))
 go_ret
 exact ⟨by first | rfl | (simp [errW_none, errW_some] <;> rfl) | (simp [*, errW_none, errW_some] <;> rfl), by repeat (first | (with_reducible first | exact HI0.out | apply IsS78.alloc | apply IsS78.drewN | apply IsS78.drew | apply IsS78.set_0 | apply IsS78.set_1) | exact HI0.out), by repeat (first | (with_reducible first | exact HB.out | apply below_alloc | apply pw_below_drewN | apply below_drew1 | refine below_set ?_ (IsS78.ge HI0.out)) | exact HB.out), by repeat (first | (with_reducible first | exact HK.out | apply KeepBut.set_ | apply keep_drewN | apply keep_drew | apply keep_alloc) | exact HK.out)⟩
end Go.Proofs.YtkmkgpigmldhnaaDoor.P
