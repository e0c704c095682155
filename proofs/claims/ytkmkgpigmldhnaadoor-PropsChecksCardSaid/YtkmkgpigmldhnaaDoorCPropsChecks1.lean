import Derived.ArgAppend
import Derived.Below
import Derived.BigQuiet
import Derived.Deep.AppendLies
import Derived.Deep.CutBlock
import Derived.Deep.DeepCutAuto
import Derived.Deep.DeepHandedRow
import Derived.Deep.DeepWitnessRowRef
import Derived.Deep.Draws
import Derived.Deep.LoopGhost
import Derived.Deep.OwnRows
import Derived.Deep.QuietTactic
import Derived.Deep.RegionHeld3
import Derived.Ground.SlsfProg
import Derived.KernelRfl
import Derived.Laws.BitsLemmas
import Derived.Laws.BytesArg
import Derived.Laws.IdiomCopy
import Derived.Laws.MakeOwn
import Derived.Laws.OwnMore
import Derived.Laws.Rows
import Derived.Laws.Slices
import Derived.Lib.AppendStr
import Derived.Lib.ConvBytes
import Derived.Lib.LaidIn
import Derived.Lib.LaidU8T
import Derived.Maps.AppendAt
import Derived.OrdersHeld
import Derived.OwnWalk
import Derived.ProofKit
import Derived.RangeFuncCalls
import Derived.RangeFuncLeaves
import Derived.RangeFuncNested
import Derived.RowKit
import Derived.RowKit3
import Derived.Shelf.SlSortCmp.InsertionK
import Derived.Shelf.SlSortCmp.KitK
import Derived.Shelf.Small.Strs
import Derived.Shelf.Strings.Cut
import Derived.Shelf.Strings.IndexAny
import Derived.Shelf.Strings.IndexAnyAll
import Derived.Shelf.Strings.Runes
import Derived.Shelf.Strings.Search3
import Derived.Shelf.Strings.Split
import Derived.Shelf.Unicode.DecodeSlow
import Derived.Shelf.Unicode.ValidAny
import Derived.Shelf.Vars
import Derived.SizedLaws
import Derived.Sort.Defs
import Derived.Sort.WalkB12
import Derived.Sort.WalkB2
import Derived.Tactics
import Derived.Test.YtkmkgpigmldhnaaDoorProg
import Derived.Test.YtkmkgpigmldhnaaDoorRows
import Derived.WalkKit
import Derived.WideLaws
import Derived.Test.YtkmkgpigmldhnaaDoorCPropsChecks0
set_option linter.unusedVariables false
set_option linter.unusedSimpArgs false
set_option maxHeartbeats 8000000
set_option maxRecDepth 100000
namespace Go.Proofs.YtkmkgpigmldhnaaDoor.P
open Go.RowKit Go.Proofs.YtkmkgpigmldhnaaDoorW.PrintWords
def GW (w : World) : Prop :=
  Go.Lib.Utf8Tabs 0 1 w ∧ ∃ m, w.cell? ⟨2, 0, none⟩ = some (.int .i64 m)
theorem GW.below {w w' : World} (h : GW w) (hb : Below w.heap.size w w') : GW w' :=
  ⟨Utf8Tabs_below h.1 hb, h.2.imp fun _ hm => pw_cell_below hb hm⟩
theorem GW.drawn {w w' : World} (h : GW w) (hd : Drawn0 w w') : GW w' := h.below hd.below
structure Hold (p : Prop) : Prop where
  out : p
section
open Go.Proofs.YtkmkgpigmldhnaaDoorW.PrintLast
variable {P : Program} {ops : Array Oper} {Q : Exit → Act → World → Prop} {md : Region.Mode} {S : World → Prop} {ds : List Nat} {fuel n m0 : Nat} {a a' : Act} {w : World} {oi : Oper} {v : Value}
def ba (n m : Nat) : Array Bool := ((List.range n).map fun j => m.testBit j).toArray
theorem pq_ (i N m : Nat) (h : wpAnyLast P md ops Q S ds fuel (ba n m) a' w) (hi : ops[i]? = some oi := by exact rfl) (hN : oi.dst = some N := by exact rfl) (hc : anyB md ops (ba n m0) (ba n m) i = true := by exact any_of HT_.out (by kernel_rfl))
    (hQ : ∀ c a w, Q (.panic c) (a.put oi.dst v) w → Q (.panic c) a w := by exact fun _ _ _ h => h) (hy : Yields P ops oi v a := by exact Or.inl ⟨by rfl, by intro w'; go_simp; with_reducible rfl⟩)
    (ha : a.put (some N) v = a' := by (simp only [Act.put, List.setIfInBounds_toArray, List.set_cons_zero, List.set_cons_succ, i64_w, i32_w]; rfl)) : wpAnyLast P md ops Q S ds (fuel + 1) (ba n m0) a w := pure_ (ba n m) hi hN hc hQ hy ha h
theorem uq_ (i N m : Nat) (h : wpAnyLast P md ops Q S ds fuel (ba n m) a' w) (hi : ops[i]? = some oi := by exact rfl) (hN : oi.dst = some N := by exact rfl) (hc : anyB md ops (ba n m0) (ba n m) i = true := by exact any_of HT_.out (by kernel_rfl))
    (hQ : ∀ c a w, Q (.panic c) (a.put oi.dst undef) w → Q (.panic c) a w := by exact fun _ _ _ h => h) (hy : Yields P ops oi undef a := by exact Or.inr ⟨by rfl, rfl⟩)
    (ha : a.put (some N) undef = a' := by (simp only [Act.put, List.setIfInBounds_toArray, List.set_cons_zero, List.set_cons_succ, i64_w, i32_w]; rfl)) : wpAnyLast P md ops Q S ds (fuel + 1) (ba n m0) a w := pure_ (ba n m) hi hN hc hQ hy ha h
end
end Go.Proofs.YtkmkgpigmldhnaaDoor.P
namespace Go.Proofs
open Go.Shelf
def Tryd.lays137_ren : Go.Shelf.Ren := ⟨fun | 137 => 122 | 217 => 118 | 266 => 124 | n => n, fun | 9 => 9 | 5 => 5 | 3 => 3 | n => n, fun | n => n⟩
theorem Tryd.lays137 : Go.Proofs.Lays.n137 Tryd.prog Tryd.lays137_ren := {
  mixed := by kernel_rfl
  f137 := Tryd.func122.trans (congrArg some (by kernel_rfl))
  f217 := Tryd.func118.trans (congrArg some (by kernel_rfl))
  f266 := Tryd.func124.trans (congrArg some (by kernel_rfl))
  t3 := Tryd.underlying3
  a3 := Tryd.isAgg3
  z3 := Tryd.sizeOf3
  v3 := Tryd.zeroValue3
  t5 := Tryd.underlying5
  a5 := Tryd.isAgg5
  z5 := Tryd.sizeOf5
  v5 := Tryd.zeroValue5
  t9 := Tryd.underlying9
  a9 := Tryd.isAgg9
  z9 := Tryd.sizeOf9
  v9 := Tryd.zeroValue9 }
open Go.RowKit in
theorem Tryd.strings_IndexByte (s : ByteArray) (c : Int) (w : World) :
    Calls Tryd.prog 122 #[.string s, .int .u8 c] w fun e w' => e = .returned (.int .i64 (Lib.indexByte s.data.toList c.toNat.toUInt8)) ∧ w' = w := Any.strings_IndexByte Tryd.lays137 s c w
def Tryd.lays144_ren : Go.Shelf.Ren := ⟨fun | 144 => 104 | 143 => 110 | 219 => 113 | 217 => 118 | 225 => 119 | 224 => 120 | 267 => 121 | 266 => 124 | 314 => 125 | n => n, fun | 9 => 9 | 4 => 4 | 3 => 3 | 5 => 5 | 46 => 99 | 146 => 147 | 51 => 56 | n => n, fun | 1 => 2 | n => n⟩
theorem Tryd.lays144 : Go.Proofs.Lays.n144 Tryd.prog Tryd.lays144_ren := {
  mixed := by kernel_rfl
  f143 := Tryd.func110.trans (congrArg some (by kernel_rfl))
  f144 := Tryd.func104.trans (congrArg some (by kernel_rfl))
  f217 := Tryd.func118.trans (congrArg some (by kernel_rfl))
  f219 := Tryd.func113.trans (congrArg some (by kernel_rfl))
  f224 := Tryd.func120.trans (congrArg some (by kernel_rfl))
  f225 := Tryd.func119.trans (congrArg some (by kernel_rfl))
  f266 := Tryd.func124.trans (congrArg some (by kernel_rfl))
  f267 := Tryd.func121.trans (congrArg some (by kernel_rfl))
  f314 := Tryd.func125.trans (congrArg some (by kernel_rfl))
  t3 := Tryd.underlying3
  a3 := Tryd.isAgg3
  z3 := Tryd.sizeOf3
  v3 := Tryd.zeroValue3
  t4 := Tryd.underlying4
  a4 := Tryd.isAgg4
  z4 := Tryd.sizeOf4
  v4 := Tryd.zeroValue4
  t5 := Tryd.underlying5
  a5 := Tryd.isAgg5
  z5 := Tryd.sizeOf5
  v5 := Tryd.zeroValue5
  t9 := Tryd.underlying9
  a9 := Tryd.isAgg9
  z9 := Tryd.sizeOf9
  v9 := Tryd.zeroValue9
  t46 := Tryd.underlying99
  a46 := Tryd.isAgg99
  z46 := Tryd.sizeOf99
  v46 := Tryd.zeroValue99
  t51 := Tryd.underlying56
  a51 := Tryd.isAgg56
  z51 := Tryd.sizeOf56
  v51 := Tryd.zeroValue56
  t146 := Tryd.underlying147
  a146 := Tryd.isAgg147
  z146 := Tryd.sizeOf147
  v146 := Tryd.zeroValue147
  g1 := by kernel_rfl }
open Go.RowKit Go.Lib in
theorem Tryd.strings_Contains (s sub : ByteArray) (m : Int) (w : World) (hs : s.size < 4294967281) (hm : w.cell? ⟨2, 0, none⟩ = some (.int .i64 m)) :
    Calls Tryd.prog 104 #[.string s, .string sub] w fun e w' => e = .returned (.bool (Lib.contains s.data.toList sub.data.toList)) ∧ w' = w := Any.strings_Contains Tryd.lays144 s sub m w hs hm
def Tryd.lays152_ren : Go.Shelf.Ren := ⟨fun | 152 => 114 | 137 => 122 | 119 => 123 | 224 => 120 | 225 => 119 | 217 => 118 | 266 => 124 | n => n, fun | 9 => 9 | 21 => 21 | 3 => 3 | 4 => 4 | 5 => 5 | 0 => 0 | 46 => 99 | n => n, fun | n => n⟩
theorem Tryd.lays152 : Go.Proofs.Lays.n152 Tryd.prog Tryd.lays152_ren := {
  mixed := by kernel_rfl
  f119 := Tryd.func123.trans (congrArg some (by kernel_rfl))
  f137 := Tryd.func122.trans (congrArg some (by kernel_rfl))
  f152 := Tryd.func114.trans (congrArg some (by kernel_rfl))
  f217 := Tryd.func118.trans (congrArg some (by kernel_rfl))
  f224 := Tryd.func120.trans (congrArg some (by kernel_rfl))
  f225 := Tryd.func119.trans (congrArg some (by kernel_rfl))
  f266 := Tryd.func124.trans (congrArg some (by kernel_rfl))
  t0 := Tryd.underlying0
  a0 := Tryd.isAgg0
  z0 := Tryd.sizeOf0
  v0 := Tryd.zeroValue0
  t3 := Tryd.underlying3
  a3 := Tryd.isAgg3
  z3 := Tryd.sizeOf3
  v3 := Tryd.zeroValue3
  t4 := Tryd.underlying4
  a4 := Tryd.isAgg4
  z4 := Tryd.sizeOf4
  v4 := Tryd.zeroValue4
  t5 := Tryd.underlying5
  a5 := Tryd.isAgg5
  z5 := Tryd.sizeOf5
  v5 := Tryd.zeroValue5
  t9 := Tryd.underlying9
  a9 := Tryd.isAgg9
  z9 := Tryd.sizeOf9
  v9 := Tryd.zeroValue9
  t21 := Tryd.underlying21
  a21 := Tryd.isAgg21
  z21 := Tryd.sizeOf21
  v21 := Tryd.zeroValue21
  t46 := Tryd.underlying99
  a46 := Tryd.isAgg99
  z46 := Tryd.sizeOf99
  v46 := Tryd.zeroValue99 }
open Go.RowKit Go.Lib in
theorem Tryd.strings_IndexRune_ascii (s : ByteArray) (r : Int) (w : World) (h0 : 0 ≤ r) (h1 : r < 128) :
    Calls Tryd.prog 114 #[.string s, .int .i32 r] w fun e w' => e = .returned (.int .i64 (Lib.indexByte s.data.toList r.toNat.toUInt8)) ∧ w' = w := Any.strings_IndexRune_ascii Tryd.lays152 s r w h0 h1
def Tryd.lays226_ren : Go.Shelf.Ren := ⟨fun | 226 => 115 | n => n, fun | 3 => 3 | 4 => 4 | n => n, fun | n => n⟩
theorem Tryd.lays226 : Go.Proofs.Lays.n226 Tryd.prog Tryd.lays226_ren := {
  mixed := by kernel_rfl
  f226 := Tryd.func115.trans (congrArg some (by kernel_rfl))
  t3 := Tryd.underlying3
  a3 := Tryd.isAgg3
  z3 := Tryd.sizeOf3
  v3 := Tryd.zeroValue3
  t4 := Tryd.underlying4
  a4 := Tryd.isAgg4
  z4 := Tryd.sizeOf4
  v4 := Tryd.zeroValue4 }
open Go.RowKit Go.Lib in
theorem Tryd.strings_shouldUseASCIISet (n : Int) (w : World) :
    Calls Tryd.prog 115 #[.int .i64 n] w fun e w' => e = .returned (.bool (decide (8 < n))) ∧ w' = w := Any.strings_shouldUseASCIISet Tryd.lays226 n w
def Tryd.lays153_ren : Go.Shelf.Ren := ⟨fun | 153 => 112 | 152 => 114 | 226 => 115 | 227 => 116 | 228 => 117 | 137 => 122 | 119 => 123 | 224 => 120 | 225 => 119 | 217 => 118 | 266 => 124 | n => n, fun | 9 => 9 | 3 => 3 | 4 => 4 | 5 => 5 | 21 => 21 | 117 => 141 | 116 => 140 | 0 => 0 | 46 => 99 | 124 => 146 | n => n, fun | n => n⟩
theorem Tryd.lays153 : Go.Proofs.Lays.n153 Tryd.prog Tryd.lays153_ren := {
  mixed := by kernel_rfl
  f119 := Tryd.func123.trans (congrArg some (by kernel_rfl))
  f137 := Tryd.func122.trans (congrArg some (by kernel_rfl))
  f152 := Tryd.func114.trans (congrArg some (by kernel_rfl))
  f153 := Tryd.func112.trans (congrArg some (by kernel_rfl))
  f217 := Tryd.func118.trans (congrArg some (by kernel_rfl))
  f224 := Tryd.func120.trans (congrArg some (by kernel_rfl))
  f225 := Tryd.func119.trans (congrArg some (by kernel_rfl))
  f226 := Tryd.func115.trans (congrArg some (by kernel_rfl))
  f227 := Tryd.func116.trans (congrArg some (by kernel_rfl))
  f228 := Tryd.func117.trans (congrArg some (by kernel_rfl))
  f266 := Tryd.func124.trans (congrArg some (by kernel_rfl))
  t0 := Tryd.underlying0
  a0 := Tryd.isAgg0
  z0 := Tryd.sizeOf0
  v0 := Tryd.zeroValue0
  t3 := Tryd.underlying3
  a3 := Tryd.isAgg3
  z3 := Tryd.sizeOf3
  v3 := Tryd.zeroValue3
  t4 := Tryd.underlying4
  a4 := Tryd.isAgg4
  z4 := Tryd.sizeOf4
  v4 := Tryd.zeroValue4
  t5 := Tryd.underlying5
  a5 := Tryd.isAgg5
  z5 := Tryd.sizeOf5
  v5 := Tryd.zeroValue5
  t9 := Tryd.underlying9
  a9 := Tryd.isAgg9
  z9 := Tryd.sizeOf9
  v9 := Tryd.zeroValue9
  t21 := Tryd.underlying21
  a21 := Tryd.isAgg21
  z21 := Tryd.sizeOf21
  v21 := Tryd.zeroValue21
  t46 := Tryd.underlying99
  a46 := Tryd.isAgg99
  z46 := Tryd.sizeOf99
  v46 := Tryd.zeroValue99
  t116 := Tryd.underlying140
  a116 := Tryd.isAgg140
  z116 := Tryd.sizeOf140
  t117 := Tryd.underlying141
  a117 := Tryd.isAgg141
  z117 := Tryd.sizeOf141
  v117 := Tryd.zeroValue141
  t124 := Tryd.underlying146
  a124 := Tryd.isAgg146
  z124 := Tryd.sizeOf146
  v124 := Tryd.zeroValue146 }
open Go.RowKit Go.Lib in
theorem Tryd.strings_IndexAny_long (hv116 : ∀ w, (zeroValue 140).run Tryd.prog w = .ok (.agg (Array.replicate 256 (.bool false))) w) (s chars : ByteArray) (w : World) (h2 : 2 ≤ chars.size) (h8 : 8 < s.size) (hs : s.size < 4294967281) (hcs : chars.size < 4294967281) (hascii : ∀ (j : Nat) b, chars.data.toList[j]? = some b → b.toNat < 128) :
    Calls Tryd.prog 112 #[.string s, .string chars] w fun e w' => e = .returned (.int .i64 (Lib.indexAny s.data.toList chars.data.toList)) ∧ w' = ((w.alloc (.cells (Lib.setCells chars.data.toList) 140)).alloc (.cells (Lib.setCells chars.data.toList) 140)) := Any.strings_IndexAny_long Tryd.lays153 hv116 (by kernel_rfl) s chars w h2 h8 hs hcs hascii
def Tryd.lays196_ren : Go.Shelf.Ren := ⟨fun | 196 => 103 | 259 => 109 | n => n, fun | 9 => 9 | 4 => 4 | 3 => 3 | 5 => 5 | 12 => 12 | 119 => 132 | 0 => 0 | 46 => 99 | 139 => 135 | 138 => 134 | 53 => 51 | n => n, fun | 3 => 0 | 4 => 1 | n => n⟩
theorem Tryd.lays196 : Go.Proofs.Lays.n196 Tryd.prog Tryd.lays196_ren := {
  mixed := by kernel_rfl
  f196 := Tryd.func103.trans (congrArg some (by kernel_rfl))
  f259 := Tryd.func109.trans (congrArg some (by kernel_rfl))
  t0 := Tryd.underlying0
  a0 := Tryd.isAgg0
  z0 := Tryd.sizeOf0
  v0 := Tryd.zeroValue0
  t3 := Tryd.underlying3
  a3 := Tryd.isAgg3
  z3 := Tryd.sizeOf3
  v3 := Tryd.zeroValue3
  t4 := Tryd.underlying4
  a4 := Tryd.isAgg4
  z4 := Tryd.sizeOf4
  v4 := Tryd.zeroValue4
  t5 := Tryd.underlying5
  a5 := Tryd.isAgg5
  z5 := Tryd.sizeOf5
  v5 := Tryd.zeroValue5
  t9 := Tryd.underlying9
  a9 := Tryd.isAgg9
  z9 := Tryd.sizeOf9
  v9 := Tryd.zeroValue9
  t12 := Tryd.underlying12
  a12 := Tryd.isAgg12
  z12 := Tryd.sizeOf12
  v12 := Tryd.zeroValue12
  t46 := Tryd.underlying99
  a46 := Tryd.isAgg99
  z46 := Tryd.sizeOf99
  v46 := Tryd.zeroValue99
  t53 := Tryd.underlying51
  a53 := Tryd.isAgg51
  z53 := Tryd.sizeOf51
  v53 := Tryd.zeroValue51
  t119 := Tryd.underlying132
  a119 := Tryd.isAgg132
  z119 := Tryd.sizeOf132
  t138 := Tryd.underlying134
  a138 := Tryd.isAgg134
  z138 := Tryd.sizeOf134
  v138 := Tryd.zeroValue134
  t139 := Tryd.underlying135
  a139 := Tryd.isAgg135
  z139 := Tryd.sizeOf135
  v139 := Tryd.zeroValue135
  g3 := by kernel_rfl
  g4 := by kernel_rfl }
end Go.Proofs
namespace Go.Proofs.YtkmkgpigmldhnaaDoor.Row
open Go.Shelf Go.ChangeShapes Go.WideShapes Go.ChangeAt Go.RowKit Go.Lib
open Go.ChangeMaps (open_string shut_string)
theorem own : ownKnob Tryd.prog.godebug = none := by kernel_rfl
noncomputable def laid : List (String × DataW Unit) := [("unicode/utf8.acceptRanges", Rows.laid_unicode_utf8_acceptRanges), ("unicode/utf8.first", Rows.laid_unicode_utf8_first)]
noncomputable def laidWorld (os : Os) : World :=
 let w0 := World.holding Tryd.prog os ⟨#[], #[], []⟩
 let put (h : Array Obj) (g : Nat) (cs : Array Value) : Array Obj := h.modify g fun
  | .cells _ t frozen => .cells cs t frozen
  | o => o
 let h1 := put w0.heap 0 (Lib.firstTab.map fun z => Value.int .u8 z).toArray
 let h2 := put h1 1 ((List.range 16).flatMap fun i => [Value.int .u8 (Lib.accLo i), Value.int .u8 (Lib.accHi i)]).toArray
 { w0 with heap := h2 }
theorem laid_met (os : Os) (args : Array Value) : laidMet Tryd.prog laid ((laidWorld os).forCall (fun _ _ => 0) ⟨#[], args, []⟩).memory :=
 (LaidIn.of_run (l := laid) [1, 0] 8 (by kernel_rfl) (by kernel_rfl) (by kernel_rfl) (by kernel_rfl)).met
theorem accept_eq : (Rows.laid_unicode_utf8_acceptRanges : DataW Unit) = Lib.acceptData := by kernel_rfl
theorem first_eq : Rows.laid_unicode_utf8_first = Lib.firstData := by kernel_rfl
theorem gw_of {W : World} (hL : laidMetH Tryd.prog laid W) (hS : W.ShapedOpen Tryd.prog) : P.GW W := by
 have h4 := Lib.laidMet.reads hL (n := "unicode/utf8.acceptRanges") (d := Rows.laid_unicode_utf8_acceptRanges) (.head _)
 have h3 := Lib.laidMet.reads hL (n := "unicode/utf8.first") (d := Rows.laid_unicode_utf8_first) (.tail _ (.head _))
 rw [accept_eq] at h4
 rw [first_eq] at h3
 refine ⟨utf8Tabs_of_readsT (U8Types.of196 Tryd.lays196) ⟨by kernel_rfl, by kernel_rfl, by kernel_rfl, by kernel_rfl, by kernel_rfl, by kernel_rfl, by kernel_rfl⟩ h3 h4, ?_⟩
 exact cell_of_shapedOpen_int (zero := #[.int .i64 0]) (t := 3) hS (of_decide_eq_true (by kernel_rfl)) (by kernel_rfl) rfl (by kernel_rfl) (by kernel_rfl) Tryd.underlying3
end Go.Proofs.YtkmkgpigmldhnaaDoor.Row
namespace Go.Proofs.YtkmkgpigmldhnaaDoor.P
open Go.RowKit Go.Proofs.YtkmkgpigmldhnaaDoorW.PrintWords Go.Proofs.YtkmkgpigmldhnaaDoorW.PrintLast Go.Proofs.YtkmkgpigmldhnaaDoorW.PrintMore
attribute [local go_sem] max2_int min2_int max_two min_two max_three min_three max_four min_four
def errW : Option Int → Value
  | none => .nilIface
  | some c => .iface 0 (.int .i64 c)
theorem errW_none : errW none = .nilIface := rfl
theorem errW_some (c : Int) : errW (some c) = .iface 0 (.int .i64 c) := rfl
theorem info5 : (Tryd.prog.info? 5).map (fun i => (i.zero, i.size, i.bytes)) = some (some (.int .u8 0), 1, 1) := by kernel_rfl
theorem info58 : (Tryd.prog.info? 58).map (fun i => (i.zero, i.size, i.bytes)) = some (some (.agg #[(.int .u8 0), (.int .u32 0), (.string ⟨#[]⟩), (.string ⟨#[]⟩)]), 4, 40) := by kernel_rfl
theorem info60 : (Tryd.prog.info? 60).map (fun i => (i.zero, i.size, i.bytes)) = some (some (.agg #[(.int .u8 0), (.int .u32 0), (.string ⟨#[]⟩), (.string ⟨#[]⟩)]), 4, 40) := by kernel_rfl
-- the values' own types
end Go.Proofs.YtkmkgpigmldhnaaDoor.P
namespace Go.Proofs.YtkmkgpigmldhnaaDoor.P
open Go.RowKit Go.Proofs.YtkmkgpigmldhnaaDoorW.PrintWords
theorem ccs4_ {W : World} {g : Nat} {a b c d : Value} {t : TypeId} (h : W.heap[g]? = some (.cells #[a, b, c, d] t (0, 0))) : W.cell? ⟨g, 0, none⟩ = some a ∧ W.cell? ⟨g, 1, none⟩ = some b ∧ W.cell? ⟨g, 2, none⟩ = some c ∧ W.cell? ⟨g, 3, none⟩ = some d := ⟨(blk_cell h 0).trans rfl, (blk_cell h 1).trans rfl, (blk_cell h 2).trans rfl, (blk_cell h 3).trans rfl⟩
theorem fzs4_ {W : World} {g : Nat} {cs : Array Value} {t : TypeId} (h : W.heap[g]? = some (.cells cs t (0, 0))) : W.frozen? ⟨g, 0, none⟩ = false ∧ W.frozen? ⟨g, 1, none⟩ = false ∧ W.frozen? ⟨g, 2, none⟩ = false ∧ W.frozen? ⟨g, 3, none⟩ = false := ⟨blk_frozen h 0, blk_frozen h 1, blk_frozen h 2, blk_frozen h 3⟩
theorem eqt_ {α : Type} [BEq α] [LawfulBEq α] {a b : α} (h : a = b) : (a == b) = true ∧ (a != b) = false := ⟨beq_iff_eq.mpr h, bne_eq_false_iff_eq.mpr h⟩
theorem eqf_ {α : Type} [BEq α] [LawfulBEq α] {a b : α} (h : ¬ a = b) : (a == b) = false ∧ (a != b) = true := ⟨beq_eq_false_iff_ne.mpr h, bne_iff_ne.mpr h⟩
section
open Go.Proofs.YtkmkgpigmldhnaaDoorW.PrintLast
variable {P : Program} {ops : Array Oper} {Q : Exit → Act → World → Prop} {md : Region.Mode} {S : World → Prop} {ds : List Nat} {fuel n m0 : Nat} {a a' : Act} {w : World} {oi : Oper} {v : Value}
theorem tr_ (i N m : Nat) (h : wpAnyLast P md ops Q S ds fuel (ba n m) a' w) (hi : ops[i]? = some oi := by exact rfl) (hN : oi.dst = some N := by exact rfl) (hc : takeB md ops ds (ba n m0) (ba n m) i = true := by exact take_ofW HT_.out HW_.out (by kernel_rfl))
    (hQ : ∀ c a w, Q (.panic c) (a.put oi.dst v) w → Q (.panic c) a w := by exact fun _ _ _ h => h) (hy : YieldsIf P ops S oi v a) (hS : S w := by exact hHeld)
    (ha : a.put (some N) v = a' := by (simp only [Act.put, List.setIfInBounds_toArray, List.set_cons_zero, List.set_cons_succ, i64_w, i32_w]; rfl)) : wpAnyLast P md ops Q S ds (fuel + 1) (ba n m0) a w := take_ (ba n m) hi hN hc hQ hy hS ha h
end
end Go.Proofs.YtkmkgpigmldhnaaDoor.P
namespace Go.Proofs.YtkmkgpigmldhnaaDoor.P
open Go.RowKit Go.Proofs.YtkmkgpigmldhnaaDoorW.PrintWords Go.Proofs.YtkmkgpigmldhnaaDoorW.PrintLast Go.Proofs.YtkmkgpigmldhnaaDoorW.PrintMore
attribute [local go_sem] max2_int min2_int max_two min_two max_three min_three max_four min_four
theorem eqA58 (d : Nat) (w : World) (x0 y0 : Int) (x1 y1 : Int) (x2 y2 : ByteArray) (x3 y3 : ByteArray) :
    (Op.equalIn (d + 2) 58 (.agg #[.int .u8 x0, .int .u32 x1, .string x2, .string x3]) (.agg #[.int .u8 y0, .int .u32 y1, .string y2, .string y3])).run Tryd.prog w = .ok (x0 == y0 && (x1 == y1 && (x2.toList == y2.toList && (x3.toList == y3.toList)))) w := by
  refine eqA_of Tryd.underlying58 (by kernel_rfl) ?_
  refine eqf_cons (by rfl) (by go_simp; rfl) (by go_simp; rfl) (by go_simp) ?_
  refine eqf_cons (by rfl) (by go_simp; rfl) (by go_simp; rfl) (by go_simp) ?_
  refine eqf_cons (by rfl) (by go_simp; rfl) (by go_simp; rfl) (by go_simp) ?_
  exact eqf_last (by rfl) (by go_simp; rfl) (by go_simp; rfl) (by go_simp)
end Go.Proofs.YtkmkgpigmldhnaaDoor.P
namespace Go.Proofs.YtkmkgpigmldhnaaDoor.P
open Go.RowKit Go.Shelf Go.Lib Go.Proofs.YtkmkgpigmldhnaaDoorW.PrintWords Go.Proofs.YtkmkgpigmldhnaaDoorW.PrintLast Go.Proofs.YtkmkgpigmldhnaaDoorW.PrintMore
def rowB (id : Int) : Int × List Int :=
 if id = 1 then (1, [3, 16]) else
 if id = 2 then (3, [3, 16]) else
 if id = 3 ∨ id = 8 then (5, [3, 16]) else
 if id = 9 then (6, [3, 16]) else
 if id = 11 then (4, [3, 8]) else
 if id = 17 then (3, [1, 2, 14]) else
 if id = 18 ∨ id = 26 then (5, [2]) else
 if id = 19 then (2, [2]) else
 if id = 21 then (5, [1, 2, 15]) else
 if id = 22 then (6, [1, 2, 15]) else
 if id = 23 ∨ id = 25 then (1, [1]) else
 if id = 24 then (3, [16]) else
 if id = 28 then (5, [2, 14]) else
 if id = 31 then (5, [2, 4, 5, 6, 7, 9, 11, 14, 15]) else
 if id = 33 ∨ id = 34 then (2, [1, 2]) else
 if id = 35 then (2, [3]) else
 if id = 36 ∨ id = 37 ∨ id = 40 ∨ id = 41 ∨ id = 42 then (1, [2]) else
 if id = 38 then (7, [1, 2, 3, 4, 5, 6, 7, 8, 9, 10, 11, 14, 15, 16]) else
 if id = 39 then (3, [1, 2]) else
 (0, [])
theorem add_at (g off j : Nat) : (⟨g, off, none⟩ : Addr).add j = ⟨g, off + j, none⟩ := by cases j <;> simp [Addr.add]
theorem C_lit {w : World} {g : Nat} {t : TypeId} {fr : Nat × Nat} (l : List Int) (hb : w.heap[g]? = some (.cells (l.map (Value.int .i64)).toArray t fr)) (hl : l.length ≤ 9223372036854775807) : Kd.C (Kd.int .i64) w (some ⟨g, 0, none⟩) l.length l := by
 refine Kd.C_of_reads (d := (0 : Int)) (h1 := fun _ => rfl) ⟨rfl, hl, fun _ => ⟨_, rfl, fun j hj => ?_⟩⟩
 rw [add_at]
 simp only [World.cell?, hb]
 simp [List.getElem?_map, List.getElem?_eq_getElem hj, List.getD_eq_getElem?_getD]
theorem C_drop {w : World} {g : Nat} {x : Int} {l : List Int} (h : Kd.C (Kd.int .i64) w (some ⟨g, 0, none⟩) (x :: l).length (x :: l)) : Kd.C (Kd.int .i64) w (some ⟨g, 1, none⟩) l.length l := by
 have h2 := Kd.reads_of_C (d := (0 : Int)) h
 refine Kd.C_of_reads (d := (0 : Int)) (h1 := fun _ => rfl) ⟨rfl, by have := h2.2.1; simp at this; omega, fun hn => ⟨_, rfl, fun j hj => ?_⟩⟩
 obtain ⟨ad2, e, hc⟩ := h2.2.2 (by simp)
 obtain rfl := Option.some.inj e
 have := hc (j + 1) (by simp; omega)
 rw [add_at] at this ⊢
 rw [show 1 + j = 0 + (j + 1) by omega]
 simpa using this
theorem heap2_old (w : World) (A B : Obj) : ((w.alloc A).alloc B).heap[w.heap.size]? = some A := by
 have h := heap_alloc_new w A
 have h2 := (Array.getElem?_eq_some_iff.1 h).1
 show ((w.alloc A).heap.push B)[w.heap.size]? = _
 rw [Array.getElem?_push, if_neg (Nat.ne_of_lt h2)]; exact h
def allL : List Int := [1, 2, 3, 4, 5, 6, 7, 8, 9, 10, 11, 14, 15, 16]
def IsRowOf (w : World) (r : Int × List Int) (e : Ending) (w' : World) : Prop :=
 ∃ A c, e = .returned (.agg #[.int .i64 r.1, .slice A r.2.length c]) ∧ Kd.C (Kd.int .i64) w' A r.2.length r.2 ∧ r.2.length ≤ c ∧ Below w.heap.size w w'
section
variable (id : Int) (gB : Nat) (aA : Option Addr) (cA : Nat) (w : World)
set_option maxRecDepth 1000000 in
theorem later28 : Calls Tryd.prog 101 #[.int .u8 28, .slice (some ⟨gB, 0, none⟩) 2 2, .slice aA 14 cA] w (IsRowOf w (5, [2, 14])) := by
 have hu := Tryd.underlying115
 go_enter Tryd.func101, Tryd.ntmps101
 go_wp2
 refine bodyPost_ret (results_cell_row rfl _ _ w.heap.size 115 #[.int .i64 5, .slice (some ⟨w.heap.size + 1, 0, none⟩) 2 2] (0, 0) _ rfl (by exact heap2_old _ _ _) hu rfl (by kernel_rfl)) rfl ?_
 exact ⟨_, _, rfl, C_lit [2, 14] (heap_alloc2_new _ _ _) (by decide), by decide, by repeat (first | exact Below.refl _ _ | apply below_alloc)⟩
set_option maxRecDepth 1000000 in
theorem later31 : Calls Tryd.prog 101 #[.int .u8 31, .slice (some ⟨gB, 0, none⟩) 2 2, .slice aA 14 cA] w (IsRowOf w (5, [2, 4, 5, 6, 7, 9, 11, 14, 15])) := by
 have hu := Tryd.underlying115
 go_enter Tryd.func101, Tryd.ntmps101
 go_wp2
 refine bodyPost_ret (results_cell_row rfl _ _ w.heap.size 115 #[.int .i64 5, .slice (some ⟨w.heap.size + 1, 0, none⟩) 9 9] (0, 0) _ rfl (by exact heap2_old _ _ _) hu rfl (by kernel_rfl)) rfl ?_
 exact ⟨_, _, rfl, C_lit [2, 4, 5, 6, 7, 9, 11, 14, 15] (heap_alloc2_new _ _ _) (by decide), by decide, by repeat (first | exact Below.refl _ _ | apply below_alloc)⟩
set_option maxRecDepth 1000000 in
theorem later33 (hB : Kd.C (Kd.int .i64) w (some ⟨gB, 0, none⟩) 2 [1, 2]) : Calls Tryd.prog 101 #[.int .u8 33, .slice (some ⟨gB, 0, none⟩) 2 2, .slice aA 14 cA] w (IsRowOf w (2, [1, 2])) := by
 have hu := Tryd.underlying115
 go_enter Tryd.func101, Tryd.ntmps101
 go_wp2
 refine bodyPost_ret (results_cell_row rfl _ _ w.heap.size 115 #[.int .i64 2, .slice (some ⟨gB, 0, none⟩) 2 2] (0, 0) _ rfl (by exact heap_alloc_new _ _) hu rfl (by kernel_rfl)) rfl ?_
 exact ⟨_, _, rfl, Kd.C_alloc hB _, by decide, by repeat (first | exact Below.refl _ _ | apply below_alloc)⟩
set_option maxRecDepth 1000000 in
theorem later34 (hB : Kd.C (Kd.int .i64) w (some ⟨gB, 0, none⟩) 2 [1, 2]) : Calls Tryd.prog 101 #[.int .u8 34, .slice (some ⟨gB, 0, none⟩) 2 2, .slice aA 14 cA] w (IsRowOf w (2, [1, 2])) := by
 have hu := Tryd.underlying115
 go_enter Tryd.func101, Tryd.ntmps101
 go_wp2
 refine bodyPost_ret (results_cell_row rfl _ _ w.heap.size 115 #[.int .i64 2, .slice (some ⟨gB, 0, none⟩) 2 2] (0, 0) _ rfl (by exact heap_alloc_new _ _) hu rfl (by kernel_rfl)) rfl ?_
 exact ⟨_, _, rfl, Kd.C_alloc hB _, by decide, by repeat (first | exact Below.refl _ _ | apply below_alloc)⟩
set_option maxRecDepth 1000000 in
theorem later35 : Calls Tryd.prog 101 #[.int .u8 35, .slice (some ⟨gB, 0, none⟩) 2 2, .slice aA 14 cA] w (IsRowOf w (2, [3])) := by
 have hu := Tryd.underlying115
 go_enter Tryd.func101, Tryd.ntmps101
 go_wp2
 refine bodyPost_ret (results_cell_row rfl _ _ w.heap.size 115 #[.int .i64 2, .slice (some ⟨w.heap.size + 1, 0, none⟩) 1 1] (0, 0) _ rfl (by exact heap2_old _ _ _) hu rfl (by kernel_rfl)) rfl ?_
 exact ⟨_, _, rfl, C_lit [3] (heap_alloc2_new _ _ _) (by decide), by decide, by repeat (first | exact Below.refl _ _ | apply below_alloc)⟩
set_option maxRecDepth 1000000 in
theorem later36 (hB : Kd.C (Kd.int .i64) w (some ⟨gB, 0, none⟩) 2 [1, 2]) : Calls Tryd.prog 101 #[.int .u8 36, .slice (some ⟨gB, 0, none⟩) 2 2, .slice aA 14 cA] w (IsRowOf w (1, [2])) := by
 have hu := Tryd.underlying115
 go_enter Tryd.func101, Tryd.ntmps101
 go_wp2
 refine bodyPost_ret (results_cell_row rfl _ _ w.heap.size 115 #[.int .i64 1, .slice (some ⟨gB, 1, none⟩) 1 1] (0, 0) _ rfl (by exact heap_alloc_new _ _) hu rfl (by kernel_rfl)) rfl ?_
 exact ⟨_, _, rfl, Kd.C_alloc (C_drop hB) _, by decide, by repeat (first | exact Below.refl _ _ | apply below_alloc)⟩
set_option maxRecDepth 1000000 in
theorem later37 (hB : Kd.C (Kd.int .i64) w (some ⟨gB, 0, none⟩) 2 [1, 2]) : Calls Tryd.prog 101 #[.int .u8 37, .slice (some ⟨gB, 0, none⟩) 2 2, .slice aA 14 cA] w (IsRowOf w (1, [2])) := by
 have hu := Tryd.underlying115
 go_enter Tryd.func101, Tryd.ntmps101
 go_wp2
 refine bodyPost_ret (results_cell_row rfl _ _ w.heap.size 115 #[.int .i64 1, .slice (some ⟨gB, 1, none⟩) 1 1] (0, 0) _ rfl (by exact heap_alloc_new _ _) hu rfl (by kernel_rfl)) rfl ?_
 exact ⟨_, _, rfl, Kd.C_alloc (C_drop hB) _, by decide, by repeat (first | exact Below.refl _ _ | apply below_alloc)⟩
set_option maxRecDepth 1000000 in
theorem later40 (hB : Kd.C (Kd.int .i64) w (some ⟨gB, 0, none⟩) 2 [1, 2]) : Calls Tryd.prog 101 #[.int .u8 40, .slice (some ⟨gB, 0, none⟩) 2 2, .slice aA 14 cA] w (IsRowOf w (1, [2])) := by
 have hu := Tryd.underlying115
 go_enter Tryd.func101, Tryd.ntmps101
 go_wp2
 refine bodyPost_ret (results_cell_row rfl _ _ w.heap.size 115 #[.int .i64 1, .slice (some ⟨gB, 1, none⟩) 1 1] (0, 0) _ rfl (by exact heap_alloc_new _ _) hu rfl (by kernel_rfl)) rfl ?_
 exact ⟨_, _, rfl, Kd.C_alloc (C_drop hB) _, by decide, by repeat (first | exact Below.refl _ _ | apply below_alloc)⟩
set_option maxRecDepth 1000000 in
theorem later41 (hB : Kd.C (Kd.int .i64) w (some ⟨gB, 0, none⟩) 2 [1, 2]) : Calls Tryd.prog 101 #[.int .u8 41, .slice (some ⟨gB, 0, none⟩) 2 2, .slice aA 14 cA] w (IsRowOf w (1, [2])) := by
 have hu := Tryd.underlying115
 go_enter Tryd.func101, Tryd.ntmps101
 go_wp2
 refine bodyPost_ret (results_cell_row rfl _ _ w.heap.size 115 #[.int .i64 1, .slice (some ⟨gB, 1, none⟩) 1 1] (0, 0) _ rfl (by exact heap_alloc_new _ _) hu rfl (by kernel_rfl)) rfl ?_
 exact ⟨_, _, rfl, Kd.C_alloc (C_drop hB) _, by decide, by repeat (first | exact Below.refl _ _ | apply below_alloc)⟩
set_option maxRecDepth 1000000 in
theorem later42 (hB : Kd.C (Kd.int .i64) w (some ⟨gB, 0, none⟩) 2 [1, 2]) : Calls Tryd.prog 101 #[.int .u8 42, .slice (some ⟨gB, 0, none⟩) 2 2, .slice aA 14 cA] w (IsRowOf w (1, [2])) := by
 have hu := Tryd.underlying115
 go_enter Tryd.func101, Tryd.ntmps101
 go_wp2
 refine bodyPost_ret (results_cell_row rfl _ _ w.heap.size 115 #[.int .i64 1, .slice (some ⟨gB, 1, none⟩) 1 1] (0, 0) _ rfl (by exact heap_alloc_new _ _) hu rfl (by kernel_rfl)) rfl ?_
 exact ⟨_, _, rfl, Kd.C_alloc (C_drop hB) _, by decide, by repeat (first | exact Below.refl _ _ | apply below_alloc)⟩
set_option maxRecDepth 1000000 in
theorem later38 (hA : Kd.C (Kd.int .i64) w aA 14 allL) (hc : 14 ≤ cA) : Calls Tryd.prog 101 #[.int .u8 38, .slice (some ⟨gB, 0, none⟩) 2 2, .slice aA 14 cA] w (IsRowOf w (7, [1, 2, 3, 4, 5, 6, 7, 8, 9, 10, 11, 14, 15, 16])) := by
 have hu := Tryd.underlying115
 go_enter Tryd.func101, Tryd.ntmps101
 go_wp2
 refine bodyPost_ret (results_cell_row rfl _ _ w.heap.size 115 #[.int .i64 7, .slice aA 14 cA] (0, 0) _ rfl (by exact heap_alloc_new _ _) hu rfl (by kernel_rfl)) rfl ?_
 exact ⟨_, _, rfl, Kd.C_alloc hA _, hc, by repeat (first | exact Below.refl _ _ | apply below_alloc)⟩
set_option maxRecDepth 1000000 in
theorem later39 (hB : Kd.C (Kd.int .i64) w (some ⟨gB, 0, none⟩) 2 [1, 2]) : Calls Tryd.prog 101 #[.int .u8 39, .slice (some ⟨gB, 0, none⟩) 2 2, .slice aA 14 cA] w (IsRowOf w (3, [1, 2])) := by
 have hu := Tryd.underlying115
 go_enter Tryd.func101, Tryd.ntmps101
 go_wp2
 refine bodyPost_ret (results_cell_row rfl _ _ w.heap.size 115 #[.int .i64 3, .slice (some ⟨gB, 0, none⟩) 2 2] (0, 0) _ rfl (by exact heap_alloc_new _ _) hu rfl (by kernel_rfl)) rfl ?_
 exact ⟨_, _, rfl, Kd.C_alloc hB _, by decide, by repeat (first | exact Below.refl _ _ | apply below_alloc)⟩
set_option maxRecDepth 1000000 in
theorem later0 (h28 : ¬ id = 28) (h31 : ¬ id = 31) (h33 : ¬ id = 33) (h34 : ¬ id = 34) (h35 : ¬ id = 35) (h36 : ¬ id = 36) (h37 : ¬ id = 37) (h40 : ¬ id = 40) (h41 : ¬ id = 41) (h42 : ¬ id = 42) (h38 : ¬ id = 38) (h39 : ¬ id = 39) : Calls Tryd.prog 101 #[.int .u8 id, .slice (some ⟨gB, 0, none⟩) 2 2, .slice aA 14 cA] w (IsRowOf w (0, [])) := by
 have hu := Tryd.underlying115
 have e28 : (id == 28) = false := beq_eq_false_iff_ne.2 h28
 have e31 : (id == 31) = false := beq_eq_false_iff_ne.2 h31
 have e33 : (id == 33) = false := beq_eq_false_iff_ne.2 h33
 have e34 : (id == 34) = false := beq_eq_false_iff_ne.2 h34
 have e35 : (id == 35) = false := beq_eq_false_iff_ne.2 h35
 have e36 : (id == 36) = false := beq_eq_false_iff_ne.2 h36
 have e37 : (id == 37) = false := beq_eq_false_iff_ne.2 h37
 have e40 : (id == 40) = false := beq_eq_false_iff_ne.2 h40
 have e41 : (id == 41) = false := beq_eq_false_iff_ne.2 h41
 have e42 : (id == 42) = false := beq_eq_false_iff_ne.2 h42
 have e38 : (id == 38) = false := beq_eq_false_iff_ne.2 h38
 have e39 : (id == 39) = false := beq_eq_false_iff_ne.2 h39
 go_enter Tryd.func101, Tryd.ntmps101
 go_wp2
 refine bodyPost_ret (results_cell_row rfl _ _ w.heap.size 115 #[.int .i64 0, .slice none 0 0] (0, 0) _ rfl (by exact heap_alloc_new _ _) hu rfl (by kernel_rfl)) rfl ?_
 exact ⟨_, _, rfl, Kd.C_nil _ _, by decide, by repeat (first | exact Below.refl _ _ | apply below_alloc)⟩
end
theorem prop_laterRow.calls (id : Int) (gB : Nat) (aA : Option Addr) (cA : Nat) (w : World) (hB : Kd.C (Kd.int .i64) w (some ⟨gB, 0, none⟩) 2 [1, 2]) (hA : Kd.C (Kd.int .i64) w aA 14 allL) (hc : 14 ≤ cA) (h1 : ¬ id = 1) (h2 : ¬ id = 2) (h3 : ¬ id = 3) (h8 : ¬ id = 8) (h9 : ¬ id = 9) (h11 : ¬ id = 11) (h17 : ¬ id = 17) (h18 : ¬ id = 18) (h26 : ¬ id = 26) (h19 : ¬ id = 19) (h21 : ¬ id = 21) (h22 : ¬ id = 22) (h23 : ¬ id = 23) (h25 : ¬ id = 25) (h24 : ¬ id = 24) :
  Calls Tryd.prog 101 #[.int .u8 id, .slice (some ⟨gB, 0, none⟩) 2 2, .slice aA 14 cA] w (IsRowOf w (rowB id)) := by
 by_cases h28 : id = 28
 ·subst h28; exact later28 _ _ _ _
 by_cases h31 : id = 31
 ·subst h31; exact later31 _ _ _ _
 by_cases h33 : id = 33
 ·subst h33; exact later33 _ _ _ _ hB
 by_cases h34 : id = 34
 ·subst h34; exact later34 _ _ _ _ hB
 by_cases h35 : id = 35
 ·subst h35; exact later35 _ _ _ _
 by_cases h36 : id = 36
 ·subst h36; exact later36 _ _ _ _ hB
 by_cases h37 : id = 37
 ·subst h37; exact later37 _ _ _ _ hB
 by_cases h40 : id = 40
 ·subst h40; exact later40 _ _ _ _ hB
 by_cases h41 : id = 41
 ·subst h41; exact later41 _ _ _ _ hB
 by_cases h42 : id = 42
 ·subst h42; exact later42 _ _ _ _ hB
 by_cases h38 : id = 38
 ·subst h38; exact later38 _ _ _ _ hA hc
 by_cases h39 : id = 39
 ·subst h39; exact later39 _ _ _ _ hB
 have e : rowB id = (0, []) := by unfold rowB; simp [h1, h2, h3, h8, h9, h11, h17, h18, h26, h19, h21, h22, h23, h25, h24, h28, h31, h33, h34, h35, h36, h37, h40, h41, h42, h38, h39]
 rw [e]
 exact later0 _ _ _ _ _ h28 h31 h33 h34 h35 h36 h37 h40 h41 h42 h38 h39
theorem C_first {w : World} {A : Option Addr} {x : Int} {l : List Int} (h : Kd.C (Kd.int .i64) w A (x :: l).length (x :: l)) : Kd.C (Kd.int .i64) w A 1 [x] := by
 have h2 := Kd.reads_of_C (d := (0 : Int)) h
 refine Kd.C_of_reads (d := (0 : Int)) (h1 := fun _ => rfl) ⟨rfl, by decide, fun hn => ?_⟩
 obtain ⟨ad2, e, hc⟩ := h2.2.2 (by simp)
 refine ⟨ad2, e, fun j hj => ?_⟩
 obtain rfl : j = 0 := by omega
 simpa using hc 0 (by simp)
theorem R_now (W : World) (l : List Int) (hl : l.length ≤ 9223372036854775807) : Kd.R (Kd.int .i64) 3 (W.alloc (.cells (l.map (Value.int .i64)).toArray 3)) W.heap.size (fun _ => True) (.slice (some ⟨W.heap.size, 0, none⟩) l.length l.length) l := by
 refine Kd.R_of_own (enc := Value.int .i64) (h1 := fun _ => rfl) ?_ (fun _ _ => trivial)
 have := World.ownsRow_lit (base := W.heap.size) (e := 3) (size := 1) W (l.map (Value.int .i64)).toArray l.length (Nat.le_refl _) (by simpa [maxLen] using hl) (by simp)
 simpa [encs] using this
def upto (i : Nat) : List Int := allL.filter (· < (i : Int))
theorem upto_next : ∀ i, i < 17 → upto (i + 1) = if i = 0 ∨ i = 12 ∨ i = 13 then upto i else upto i ++ [(i : Int)] := by decide +kernel
theorem upto_len : ∀ i, i < 18 → (upto i).length ≤ 14 := by decide +kernel
theorem C_sets (i1 i2 : Nat) (u1 u2 : Value) {W : World} {g n : Nat} {A : Option Addr} {l : List Int} (h : Kd.C (Kd.int .i64) W A n l) (hA : ∀ ad, A = some ad → 0 < n → ad.block ≠ g) : Kd.C (Kd.int .i64) ((W.setCell ⟨g, i1, none⟩ u1).setCell ⟨g, i2, none⟩ u2) A n l := by
 have h2 := Kd.reads_of_C (d := (0 : Int)) h
 refine Kd.C_of_reads (d := (0 : Int)) (h1 := fun _ => rfl) ⟨h2.1, h2.2.1, fun hn => ?_⟩
 obtain ⟨ad, e, hc⟩ := h2.2.2 hn
 have hne := hA ad e hn
 refine ⟨ad, e, fun i hi => ?_⟩
 have hb : (ad.add i).block = ad.block := by cases i <;> simp [Addr.add]
 rw [World.cell?_setCell_other _ _ _ _ (fun e => hne (by rw [← hb, ← e])), World.cell?_setCell_other _ _ _ _ (fun e => hne (by rw [← hb, ← e]))]
 exact hc i hi
theorem C_ne {W : World} {g n : Nat} {t : TypeId} {A : Option Addr} {l : List Int} (bk : W.heap[g]? = some (.cells #[.int .i64 0, .slice none 0 0] t (0, 0))) (h : Kd.C (Kd.int .i64) W A n l) (h0 : (0 : Int) ∉ l) : ∀ ad, A = some ad → 0 < n → ad.block ≠ g := by
 intro ad e hn hg
 have h2 := Kd.reads_of_C (d := (0 : Int)) h
 obtain ⟨ad2, e2, hc⟩ := h2.2.2 hn
 obtain rfl := Option.some.inj (e.symm.trans e2)
 have h3 := hc 0 hn
 have e0 : ad.add 0 = ad := by simp [Addr.add]
 rw [e0] at h3
 simp only [World.cell?, hg, bk] at h3
 cases l with
 | nil => have := h2.1; simp at this; omega
 | cons x l =>
  match ho : ad.off, h3 with
  | 0, h3 => simp at h3; exact h0 (by simp [h3.2])
  | 1, h3 => simp at h3
  | k + 2, h3 => simp at h3
theorem rowB_len (id : Int) : (rowB id).2.length ≤ 14 := by
 unfold rowB
 by_cases h0 : id = 1
 ·rw [if_pos h0]; decide
 rw [if_neg h0]
 by_cases h1 : id = 2
 ·rw [if_pos h1]; decide
 rw [if_neg h1]
 by_cases h2 : id = 3 ∨ id = 8
 ·rw [if_pos h2]; decide
 rw [if_neg h2]
 by_cases h3 : id = 9
 ·rw [if_pos h3]; decide
 rw [if_neg h3]
 by_cases h4 : id = 11
 ·rw [if_pos h4]; decide
 rw [if_neg h4]
 by_cases h5 : id = 17
 ·rw [if_pos h5]; decide
 rw [if_neg h5]
 by_cases h6 : id = 18 ∨ id = 26
 ·rw [if_pos h6]; decide
 rw [if_neg h6]
 by_cases h7 : id = 19
 ·rw [if_pos h7]; decide
 rw [if_neg h7]
 by_cases h8 : id = 21
 ·rw [if_pos h8]; decide
 rw [if_neg h8]
 by_cases h9 : id = 22
 ·rw [if_pos h9]; decide
 rw [if_neg h9]
 by_cases h10 : id = 23 ∨ id = 25
 ·rw [if_pos h10]; decide
 rw [if_neg h10]
 by_cases h11 : id = 24
 ·rw [if_pos h11]; decide
 rw [if_neg h11]
 by_cases h12 : id = 28
 ·rw [if_pos h12]; decide
 rw [if_neg h12]
 by_cases h13 : id = 31
 ·rw [if_pos h13]; decide
 rw [if_neg h13]
 by_cases h14 : id = 33 ∨ id = 34
 ·rw [if_pos h14]; decide
 rw [if_neg h14]
 by_cases h15 : id = 35
 ·rw [if_pos h15]; decide
 rw [if_neg h15]
 by_cases h16 : id = 36 ∨ id = 37 ∨ id = 40 ∨ id = 41 ∨ id = 42
 ·rw [if_pos h16]; decide
 rw [if_neg h16]
 by_cases h17 : id = 38
 ·rw [if_pos h17]; decide
 rw [if_neg h17]
 by_cases h18 : id = 39
 ·rw [if_pos h18]; decide
 rw [if_neg h18]
 decide
theorem rowB_zero (id : Int) : (0 : Int) ∉ (rowB id).2 := by
 unfold rowB
 by_cases h0 : id = 1
 ·rw [if_pos h0]; decide
 rw [if_neg h0]
 by_cases h1 : id = 2
 ·rw [if_pos h1]; decide
 rw [if_neg h1]
 by_cases h2 : id = 3 ∨ id = 8
 ·rw [if_pos h2]; decide
 rw [if_neg h2]
 by_cases h3 : id = 9
 ·rw [if_pos h3]; decide
 rw [if_neg h3]
 by_cases h4 : id = 11
 ·rw [if_pos h4]; decide
 rw [if_neg h4]
 by_cases h5 : id = 17
 ·rw [if_pos h5]; decide
 rw [if_neg h5]
 by_cases h6 : id = 18 ∨ id = 26
 ·rw [if_pos h6]; decide
 rw [if_neg h6]
 by_cases h7 : id = 19
 ·rw [if_pos h7]; decide
 rw [if_neg h7]
 by_cases h8 : id = 21
 ·rw [if_pos h8]; decide
 rw [if_neg h8]
 by_cases h9 : id = 22
 ·rw [if_pos h9]; decide
 rw [if_neg h9]
 by_cases h10 : id = 23 ∨ id = 25
 ·rw [if_pos h10]; decide
 rw [if_neg h10]
 by_cases h11 : id = 24
 ·rw [if_pos h11]; decide
 rw [if_neg h11]
 by_cases h12 : id = 28
 ·rw [if_pos h12]; decide
 rw [if_neg h12]
 by_cases h13 : id = 31
 ·rw [if_pos h13]; decide
 rw [if_neg h13]
 by_cases h14 : id = 33 ∨ id = 34
 ·rw [if_pos h14]; decide
 rw [if_neg h14]
 by_cases h15 : id = 35
 ·rw [if_pos h15]; decide
 rw [if_neg h15]
 by_cases h16 : id = 36 ∨ id = 37 ∨ id = 40 ∨ id = 41 ∨ id = 42
 ·rw [if_pos h16]; decide
 rw [if_neg h16]
 by_cases h17 : id = 38
 ·rw [if_pos h17]; decide
 rw [if_neg h17]
 by_cases h18 : id = 39
 ·rw [if_pos h18]; decide
 rw [if_neg h18]
 decide
theorem IsRowOf.fin {w W : World} {id : Int} {r : Int × List Int} {A : Option Addr} {c : Nat} (e : rowB id = r) (hc : Kd.C (Kd.int .i64) W A r.2.length r.2) (hl : r.2.length ≤ c) (hb : Below w.heap.size w W) : IsRowOf w (rowB id) (.returned (.agg #[.int .i64 r.1, .slice A r.2.length c])) W := by
 rw [e]; exact ⟨A, c, rfl, hc, hl, hb⟩
structure RowW (w W : World) (v5 : Value) : Prop where
 res : W.heap[w.heap.size]? = some (.cells #[.int .i64 0, .slice none 0 0] 115 (0, 0))
 msg : Kd.C (Kd.int .i64) W (some ⟨w.heap.size + 1, 0, none⟩) 2 [3, 16]
 both : Kd.C (Kd.int .i64) W (some ⟨w.heap.size + 1 + 1, 0, none⟩) 2 [1, 2]
 own : Kd.R (Kd.int .i64) 3 W w.heap.size (fun k => k ≠ w.heap.size) (.slice (some ⟨w.heap.size + 1 + 1, 0, none⟩) 2 2) [1, 2]
 all : Kd.R (Kd.int .i64) 3 W w.heap.size (fun k => k ≠ w.heap.size) v5 allL
 below : Below w.heap.size w W
theorem RowW.start (w W : World) (v5 : Value) (hb : Below (w.heap.size + 1 + 1 + 1) (((w.alloc (.cells #[.int .i64 0, .slice none 0 0] 115)).alloc (.cells #[.int .i64 3, .int .i64 16] 3)).alloc (.cells #[.int .i64 1, .int .i64 2] 3)) W)
  (hr : Kd.R (Kd.int .i64) 3 W (w.heap.size + 1 + 1 + 1) (fun _ => True) v5 allL) : RowW w W v5 := by
 have s3 : (((w.alloc (.cells #[.int .i64 0, .slice none 0 0] 115)).alloc (.cells #[.int .i64 3, .int .i64 16] 3)).alloc (.cells #[.int .i64 1, .int .i64 2] 3)).heap.size = w.heap.size + 1 + 1 + 1 := by
  show (((w.heap.push _).push _).push _).size = _
  simp
 have hb' : Below (((w.alloc (.cells #[.int .i64 0, .slice none 0 0] 115)).alloc (.cells #[.int .i64 3, .int .i64 16] 3)).alloc (.cells #[.int .i64 1, .int .i64 2] 3)).heap.size (((w.alloc (.cells #[.int .i64 0, .slice none 0 0] 115)).alloc (.cells #[.int .i64 3, .int .i64 16] 3)).alloc (.cells #[.int .i64 1, .int .i64 2] 3)) W := by rw [s3]; exact hb
 have own := R_now ((w.alloc (.cells #[.int .i64 0, .slice none 0 0] 115)).alloc (.cells #[.int .i64 3, .int .i64 16] 3)) [1, 2] (by decide)
 have s2 : ((w.alloc (.cells #[.int .i64 0, .slice none 0 0] 115)).alloc (.cells #[.int .i64 3, .int .i64 16] 3)).heap.size = w.heap.size + 1 + 1 := by
  show ((w.heap.push _).push _).size = _
  simp
 rw [s2] at own
 refine ⟨?_, ?_, ?_, ?_, ?_, ?_⟩
 ·rw [hb'.block _ (by rw [s3]; omega)]
  show (((w.heap.push _).push _).push _)[w.heap.size]? = _
  rw [Array.getElem?_push, if_neg (by simp; omega), Array.getElem?_push, if_neg (by simp), Array.getElem?_push, if_pos rfl]
 ·refine C_lit [3, 16] (fr := (0, 0)) (t := 3) ?_ (by decide)
  rw [hb'.block _ (by rw [s3]; omega)]
  show (((w.heap.push _).push _).push _)[w.heap.size + 1]? = _
  rw [Array.getElem?_push, if_neg (by simp), Array.getElem?_push, if_pos (by simp)]; rfl
 ·refine C_lit [1, 2] (fr := (0, 0)) (t := 3) ?_ (by decide)
  rw [hb'.block _ (by rw [s3]; omega)]
  show (((w.heap.push _).push _).push _)[w.heap.size + 1 + 1]? = _
  rw [Array.getElem?_push, if_pos (by simp)]; rfl
 ·refine Kd.R_mono (Kd.R_lower (Kd.R_bound (Kd.R_below own hb')) (by omega)) (fun k hk => ?_)
  have := hk.2.1
  omega
 ·refine Kd.R_mono (Kd.R_lower (Kd.R_bound hr) (by omega)) (fun k hk => ?_)
  have := hk.2.1
  omega
 ·refine Below.trans (below_alloc (below_alloc (below_alloc (Below.refl _ _) _) _) _) ⟨hb'.os, hb'.tape, hb'.output, hb'.size, fun j hj => hb'.block j (by rw [s3]; omega)⟩
set_option maxHeartbeats 40000000 in
set_option maxRecDepth 1000000 in
theorem prop_rowOf.calls (id : Int) (w : World) : Calls Tryd.prog 85 #[.int .u8 id] w (IsRowOf w (rowB id)) := by
 have hu := Tryd.underlying115
 go_enter Tryd.func85, Tryd.ntmps85
 go_wp2
 have s3 : (((w.alloc (.cells #[.int .i64 0, .slice none 0 0] 115)).alloc (.cells #[.int .i64 3, .int .i64 16] 3)).alloc (.cells #[.int .i64 1, .int .i64 2] 3)).heap.size = w.heap.size + 1 + 1 + 1 := by
  show (((w.heap.push _).push _).push _).size = _
  simp
 have start := R_now (((w.alloc (.cells #[.int .i64 0, .slice none 0 0] 115)).alloc (.cells #[.int .i64 3, .int .i64 16] 3)).alloc (.cells #[.int .i64 1, .int .i64 2] 3)) [] (by decide)
 rw [s3] at start
 have sB : Below (w.heap.size + 1 + 1 + 1) (((w.alloc (.cells #[.int .i64 0, .slice none 0 0] 115)).alloc (.cells #[.int .i64 3, .int .i64 16] 3)).alloc (.cells #[.int .i64 1, .int .i64 2] 3)) ((((w.alloc (.cells #[.int .i64 0, .slice none 0 0] 115)).alloc (.cells #[.int .i64 3, .int .i64 16] 3)).alloc (.cells #[.int .i64 1, .int .i64 2] 3)).alloc (.cells #[] 3)) := by
  have := below_alloc (Below.refl _ (((w.alloc (.cells #[.int .i64 0, .slice none 0 0] 115)).alloc (.cells #[.int .i64 3, .int .i64 16] 3)).alloc (.cells #[.int .i64 1, .int .i64 2] 3))) (.cells #[] 3)
  rw [s3] at this
  exact this
 have HS := Aside0.mk start
 have HSB := Aside0.mk sB
 have S3 := Aside0.mk s3
 clear start sB s3
 go_loopg [5, 6] 17 (fun g v5 v6 wr => ∃ (i : Nat), v6 = .int .i64 (i : Int) ∧ 1 ≤ i ∧ i ≤ 17 ∧ i + g = 18 ∧ Aside0 (Kd.R (Kd.int .i64) 3 wr (w.heap.size + 1 + 1 + 1) (fun _ => True) v5 (upto i)) ∧ Aside0 (Below (w.heap.size + 1 + 1 + 1) (((w.alloc (.cells #[.int .i64 0, .slice none 0 0] 115)).alloc (.cells #[.int .i64 3, .int .i64 16] 3)).alloc (.cells #[.int .i64 1, .int .i64 2] 3)) wr))
 case atStart => exact ⟨1, rfl, Nat.le_refl 1, by decide, rfl, HS, HSB⟩
 case round =>
  clear HS HSB
  obtain ⟨i, rfl, h1, h17, hg, HR, HB⟩ := hrel
  cases gk with
  | zero => omega
  | succ g =>
  by_cases hi : i ≤ 16
  ·have b0 : decide ((i : Int) ≤ 16) = true := decide_eq_true (by omega)
   have hn := upto_next i (by omega)
   have hl := upto_len i (by omega)
   have hw : IntKind.i64.wrap ((i : Int) + 1) = ((i + 1 : Nat) : Int) := by rw [show IntKind.i64.wrap ((i : Int) + 1) = wrap64 ((i : Int) + 1) from (i64_w _)]; unfold wrap64; omega
   by_cases h12 : i = 12 ∨ i = 13
   ·rw [if_pos (by omega)] at hn
    have HR' := Aside0.mk (hn ▸ HR.out)
    clear HR hn hl
    rcases h12 with rfl | rfl
    all_goals
     go_wp2
     go_roundg g
     case measure => omega
     case rel => first | exact ⟨12 + 1, rfl, by omega, by omega, by omega, HR', HB⟩ | exact ⟨13 + 1, rfl, by omega, by omega, by omega, HR', HB⟩
   ·rw [if_neg (by omega)] at hn
    have c12 : ((i : Int) != 12) = true := bne_iff_ne.2 (by omega)
    have c13 : ((i : Int) != 13) = true := bne_iff_ne.2 (by omega)
    have HN := Aside0.mk hn
    have HL := Aside0.mk hl
    clear hn hl
    go_wp2_with (first | ((with_reducible refine gate_builtin (b := .append) (xs := #[.tmp 20, .tmp 22]) rfl ?_); at_builtin; refine Kd.R_append (Kd.int .i64) (w0 := (((w.alloc (.cells #[.int .i64 0, .slice none 0 0] 115)).alloc (.cells #[.int .i64 3, .int .i64 16] 3)).alloc (.cells #[.int .i64 1, .int .i64 2] 3))) (w.heap.size + 1 + 1 + 1) rfl (.tmp 20) (.tmp 22) 54 3 (.int .i64 0) 8 rfl Tryd.underlying54 (by kernel_rfl) rfl (by decide) (by omega) u5 (upto i) (i : Int) [.int .i64 (i : Int)] (fun _ => True) (fun _ => False) rfl rfl rfl (fun _ hk => hk.elim) (fun _ _ => trivial) HR.out HB.out ?aS ?aL ?_; (case aS => have h9_ := HB.out.size; rw [S3.out] at h9_; exact h9_); (case aL => have := HL.out; omega); intro v9 w9 ho hb hgr hat; rw [← HN.out] at ho; have n0_ := Aside0.mk hb; have n1_ := Aside0.mk ho; clear HB HR; have HB := n0_; have HR := n1_; clear n0_ n1_; clear ho hb hgr hat))
    go_roundg g
    case measure => omega
    case rel => exact ⟨i + 1, rfl, by omega, by omega, by omega, HR, HB⟩
  ·obtain rfl : i = 17 := by omega
   have hall : upto 17 = allL := by decide +kernel
   have RW := RowW.start w _ _ HB.out (hall ▸ HR.out)
   clear HR HB hall
   have BK := Aside0.mk RW.res
   have hz0 := blk_cell BK.out 0
   have hz1 := blk_cell BK.out 1
   have hf0 := blk_frozen BK.out 0
   have hf1 := blk_frozen BK.out 1
   simp at hz0 hz1
   have HM := Aside0.mk RW.msg
   have HBo := Aside0.mk RW.both
   have HO := Aside0.mk RW.own
   have HA := Aside0.mk RW.all
   have HW := Aside0.mk RW.below
   clear RW
   by_cases h1 : id = 1
   ·subst h1
    go_wp2
    refine bodyPost_ret (results_cell_row rfl _ _ w.heap.size 115 #[.int .i64 1, .slice (some ⟨w.heap.size + 1, 0, none⟩) 2 2] (0, 0) _ rfl (blk_put (cs := #[.int .i64 1, .slice none 0 0]) (blk_put (cs := #[.int .i64 0, .slice none 0 0]) BK.out 0 _ rfl) 1 _ rfl) hu rfl (by kernel_rfl)) rfl ?_
    exact IsRowOf.fin (r := (1, [3, 16])) (by decide) (C_sets 0 1 _ _ HM.out (by rintro ad h9_ _; cases h9_; show w.heap.size + 1 ≠ w.heap.size; omega)) (by decide) (below_set (below_set HW.out (Nat.le_refl _)) (Nat.le_refl _))
   by_cases h2 : id = 2
   ·subst h2
    go_wp2
    refine bodyPost_ret (results_cell_row rfl _ _ w.heap.size 115 #[.int .i64 3, .slice (some ⟨w.heap.size + 1, 0, none⟩) 2 2] (0, 0) _ rfl (blk_put (cs := #[.int .i64 3, .slice none 0 0]) (blk_put (cs := #[.int .i64 0, .slice none 0 0]) BK.out 0 _ rfl) 1 _ rfl) hu rfl (by kernel_rfl)) rfl ?_
    exact IsRowOf.fin (r := (3, [3, 16])) (by decide) (C_sets 0 1 _ _ HM.out (by rintro ad h9_ _; cases h9_; show w.heap.size + 1 ≠ w.heap.size; omega)) (by decide) (below_set (below_set HW.out (Nat.le_refl _)) (Nat.le_refl _))
   by_cases h3 : id = 3
   ·subst h3
    go_wp2
    refine bodyPost_ret (results_cell_row rfl _ _ w.heap.size 115 #[.int .i64 5, .slice (some ⟨w.heap.size + 1, 0, none⟩) 2 2] (0, 0) _ rfl (blk_put (cs := #[.int .i64 5, .slice none 0 0]) (blk_put (cs := #[.int .i64 0, .slice none 0 0]) BK.out 0 _ rfl) 1 _ rfl) hu rfl (by kernel_rfl)) rfl ?_
    exact IsRowOf.fin (r := (5, [3, 16])) (by decide) (C_sets 0 1 _ _ HM.out (by rintro ad h9_ _; cases h9_; show w.heap.size + 1 ≠ w.heap.size; omega)) (by decide) (below_set (below_set HW.out (Nat.le_refl _)) (Nat.le_refl _))
   by_cases h8 : id = 8
   ·subst h8
    go_wp2
    refine bodyPost_ret (results_cell_row rfl _ _ w.heap.size 115 #[.int .i64 5, .slice (some ⟨w.heap.size + 1, 0, none⟩) 2 2] (0, 0) _ rfl (blk_put (cs := #[.int .i64 5, .slice none 0 0]) (blk_put (cs := #[.int .i64 0, .slice none 0 0]) BK.out 0 _ rfl) 1 _ rfl) hu rfl (by kernel_rfl)) rfl ?_
    exact IsRowOf.fin (r := (5, [3, 16])) (by decide) (C_sets 0 1 _ _ HM.out (by rintro ad h9_ _; cases h9_; show w.heap.size + 1 ≠ w.heap.size; omega)) (by decide) (below_set (below_set HW.out (Nat.le_refl _)) (Nat.le_refl _))
   by_cases h9 : id = 9
   ·subst h9
    go_wp2
    refine bodyPost_ret (results_cell_row rfl _ _ w.heap.size 115 #[.int .i64 6, .slice (some ⟨w.heap.size + 1, 0, none⟩) 2 2] (0, 0) _ rfl (blk_put (cs := #[.int .i64 6, .slice none 0 0]) (blk_put (cs := #[.int .i64 0, .slice none 0 0]) BK.out 0 _ rfl) 1 _ rfl) hu rfl (by kernel_rfl)) rfl ?_
    exact IsRowOf.fin (r := (6, [3, 16])) (by decide) (C_sets 0 1 _ _ HM.out (by rintro ad h9_ _; cases h9_; show w.heap.size + 1 ≠ w.heap.size; omega)) (by decide) (below_set (below_set HW.out (Nat.le_refl _)) (Nat.le_refl _))
   by_cases h11 : id = 11
   ·subst h11
    clear hz0 hz1 hf0 hf1
    go_wp2_with ((with_reducible refine gate_dst (N := 44) rfl ?_); refine Kd.R_lit (Kd.int .i64) _ 3 ?hg (N := 44) ?hd (xs := ([3, 8] : List Int)) (inner := [.int .i64 3, .int .i64 8]) (ok := fun _ => True) (okp := fun _ => True) ?hr ?hp (fun _ hk => hk) trivial (Below.refl _ _) (Nat.le_refl _) (by simp) ?_; (case hd => rfl); (case hg => rfl); (case hr => first | (go_simp; done) | (go_simp; rfl)); (case hp => exact (Reps.one (show Kd.M (Kd.int .i64) _ _ _ 3 [.int .i64 3] from rfl) (Reps.one (show Kd.M (Kd.int .i64) _ _ _ 8 [.int .i64 8] from rfl) (Reps.none _ _)))); intro v9 w9 ho hb hg_ hnew_; have bk9 := blk_below BK.out hb; have hw9 := Below.trans HW.out ⟨hb.os, hb.tape, hb.output, hb.size, fun j hj => hb.block j (by have := HW.out.size; omega)⟩; have ho9 := Kd.R_mono (Kd.R_bound ho) (ok' := fun k => k ≠ w.heap.size) (fun k hk => by have := hk.2.1; have := blk_lt BK.out; omega); clear ho hnew_; obtain ⟨A9, c9, rfl⟩ := Kd.R_slice ho9; have HO9 := Aside0.mk ho9; have HW9 := Aside0.mk hw9; clear hb hg_ ho9 hw9; have BK9 := Aside0.mk bk9; have hz0 := blk_cell BK9.out 0; have hz1 := blk_cell BK9.out 1; have hf0 := blk_frozen BK9.out 0; have hf1 := blk_frozen BK9.out 1; simp at hz0 hz1; clear bk9)
    obtain ⟨A9', c9', e9, hl9, hc9⟩ := Kd.R_reads (Kd.R_far (p := ⟨w.heap.size, 1, none⟩) (Kd.R_far (p := ⟨w.heap.size, 0, none⟩) HO9.out (fun _ hk => hk) (.int .i64 4)) (fun _ hk => hk) (.slice A9 ([3, 8] : List Int).length c9))
    cases e9
    refine bodyPost_ret (results_cell_row rfl _ _ w.heap.size 115 #[.int .i64 4, .slice A9 ([3, 8] : List Int).length c9] (0, 0) _ rfl (blk_put (cs := #[.int .i64 4, .slice none 0 0]) (blk_put (cs := #[.int .i64 0, .slice none 0 0]) BK9.out 0 _ rfl) 1 _ rfl) hu rfl (by kernel_rfl)) rfl ?_
    exact IsRowOf.fin (r := (4, [3, 8])) (by decide) (hc9) (hl9) (below_set (below_set HW9.out (Nat.le_refl _)) (Nat.le_refl _))
   by_cases h17 : id = 17
   ·subst h17
    clear hz0 hz1 hf0 hf1
    go_wp2_with ((with_reducible refine gate_builtin (b := .append) (xs := #[.tmp 48, .tmp 49]) rfl ?_); at_builtin; refine Kd.R_append (Kd.int .i64) (w0 := w) w.heap.size rfl (.tmp 48) (.tmp 49) 54 3 (.int .i64 0) 8 rfl Tryd.underlying54 (by kernel_rfl) rfl (by decide) (by omega) (.slice (some ⟨w.heap.size + 1 + 1, 0, none⟩) 2 2) [1, 2] 14 [.int .i64 14] (fun k => k ≠ w.heap.size) (fun _ => False) rfl rfl rfl (fun _ hk => hk.elim) ?aF HO.out HW.out HW.out.size (by decide) ?_; (case aF => intro k hk; have := blk_lt BK.out; omega); intro v9 w9 ho hb hgr hat; have bk9 := blk_grown BK.out hgr (by simp [Value.ownBlock]; omega); clear hat; obtain ⟨A9, c9, rfl⟩ := Kd.R_slice ho; have HO9 := Aside0.mk ho; have HW9 := Aside0.mk hb; clear ho hb hgr; have BK9 := Aside0.mk bk9; have hz0 := blk_cell BK9.out 0; have hz1 := blk_cell BK9.out 1; have hf0 := blk_frozen BK9.out 0; have hf1 := blk_frozen BK9.out 1; simp at hz0 hz1; clear bk9)
    obtain ⟨A9', c9', e9, hl9, hc9⟩ := Kd.R_reads (Kd.R_far (p := ⟨w.heap.size, 1, none⟩) (Kd.R_far (p := ⟨w.heap.size, 0, none⟩) HO9.out (fun _ hk => hk) (.int .i64 3)) (fun _ hk => hk) (.slice A9 ([1, 2] ++ [14] : List Int).length c9))
    cases e9
    refine bodyPost_ret (results_cell_row rfl _ _ w.heap.size 115 #[.int .i64 3, .slice A9 ([1, 2] ++ [14] : List Int).length c9] (0, 0) _ rfl (blk_put (cs := #[.int .i64 3, .slice none 0 0]) (blk_put (cs := #[.int .i64 0, .slice none 0 0]) BK9.out 0 _ rfl) 1 _ rfl) hu rfl (by kernel_rfl)) rfl ?_
    exact IsRowOf.fin (r := (3, [1, 2, 14])) (by decide) (hc9) (hl9) (below_set (below_set HW9.out (Nat.le_refl _)) (Nat.le_refl _))
   by_cases h18 : id = 18
   ·subst h18
    go_wp2
    refine bodyPost_ret (results_cell_row rfl _ _ w.heap.size 115 #[.int .i64 5, .slice (some ⟨w.heap.size + 1 + 1, 1, none⟩) 1 1] (0, 0) _ rfl (blk_put (cs := #[.int .i64 5, .slice none 0 0]) (blk_put (cs := #[.int .i64 0, .slice none 0 0]) BK.out 0 _ rfl) 1 _ rfl) hu rfl (by kernel_rfl)) rfl ?_
    exact IsRowOf.fin (r := (5, [2])) (by decide) (C_sets 0 1 _ _ (C_drop HBo.out) (by rintro ad h9_ _; cases h9_; show w.heap.size + 1 + 1 ≠ w.heap.size; omega)) (by decide) (below_set (below_set HW.out (Nat.le_refl _)) (Nat.le_refl _))
   by_cases h26 : id = 26
   ·subst h26
    go_wp2
    refine bodyPost_ret (results_cell_row rfl _ _ w.heap.size 115 #[.int .i64 5, .slice (some ⟨w.heap.size + 1 + 1, 1, none⟩) 1 1] (0, 0) _ rfl (blk_put (cs := #[.int .i64 5, .slice none 0 0]) (blk_put (cs := #[.int .i64 0, .slice none 0 0]) BK.out 0 _ rfl) 1 _ rfl) hu rfl (by kernel_rfl)) rfl ?_
    exact IsRowOf.fin (r := (5, [2])) (by decide) (C_sets 0 1 _ _ (C_drop HBo.out) (by rintro ad h9_ _; cases h9_; show w.heap.size + 1 + 1 ≠ w.heap.size; omega)) (by decide) (below_set (below_set HW.out (Nat.le_refl _)) (Nat.le_refl _))
   by_cases h19 : id = 19
   ·subst h19
    go_wp2
    refine bodyPost_ret (results_cell_row rfl _ _ w.heap.size 115 #[.int .i64 2, .slice (some ⟨w.heap.size + 1 + 1, 1, none⟩) 1 1] (0, 0) _ rfl (blk_put (cs := #[.int .i64 2, .slice none 0 0]) (blk_put (cs := #[.int .i64 0, .slice none 0 0]) BK.out 0 _ rfl) 1 _ rfl) hu rfl (by kernel_rfl)) rfl ?_
    exact IsRowOf.fin (r := (2, [2])) (by decide) (C_sets 0 1 _ _ (C_drop HBo.out) (by rintro ad h9_ _; cases h9_; show w.heap.size + 1 + 1 ≠ w.heap.size; omega)) (by decide) (below_set (below_set HW.out (Nat.le_refl _)) (Nat.le_refl _))
   by_cases h21 : id = 21
   ·subst h21
    clear hz0 hz1 hf0 hf1
    go_wp2_with ((with_reducible refine gate_builtin (b := .append) (xs := #[.tmp 65, .tmp 66]) rfl ?_); at_builtin; refine Kd.R_append (Kd.int .i64) (w0 := w) w.heap.size rfl (.tmp 65) (.tmp 66) 54 3 (.int .i64 0) 8 rfl Tryd.underlying54 (by kernel_rfl) rfl (by decide) (by omega) (.slice (some ⟨w.heap.size + 1 + 1, 0, none⟩) 2 2) [1, 2] 15 [.int .i64 15] (fun k => k ≠ w.heap.size) (fun _ => False) rfl rfl rfl (fun _ hk => hk.elim) ?aF HO.out HW.out HW.out.size (by decide) ?_; (case aF => intro k hk; have := blk_lt BK.out; omega); intro v9 w9 ho hb hgr hat; have bk9 := blk_grown BK.out hgr (by simp [Value.ownBlock]; omega); clear hat; obtain ⟨A9, c9, rfl⟩ := Kd.R_slice ho; have HO9 := Aside0.mk ho; have HW9 := Aside0.mk hb; clear ho hb hgr; have BK9 := Aside0.mk bk9; have hz0 := blk_cell BK9.out 0; have hz1 := blk_cell BK9.out 1; have hf0 := blk_frozen BK9.out 0; have hf1 := blk_frozen BK9.out 1; simp at hz0 hz1; clear bk9)
    obtain ⟨A9', c9', e9, hl9, hc9⟩ := Kd.R_reads (Kd.R_far (p := ⟨w.heap.size, 1, none⟩) (Kd.R_far (p := ⟨w.heap.size, 0, none⟩) HO9.out (fun _ hk => hk) (.int .i64 5)) (fun _ hk => hk) (.slice A9 ([1, 2] ++ [15] : List Int).length c9))
    cases e9
    refine bodyPost_ret (results_cell_row rfl _ _ w.heap.size 115 #[.int .i64 5, .slice A9 ([1, 2] ++ [15] : List Int).length c9] (0, 0) _ rfl (blk_put (cs := #[.int .i64 5, .slice none 0 0]) (blk_put (cs := #[.int .i64 0, .slice none 0 0]) BK9.out 0 _ rfl) 1 _ rfl) hu rfl (by kernel_rfl)) rfl ?_
    exact IsRowOf.fin (r := (5, [1, 2, 15])) (by decide) (hc9) (hl9) (below_set (below_set HW9.out (Nat.le_refl _)) (Nat.le_refl _))
   by_cases h22 : id = 22
   ·subst h22
    clear hz0 hz1 hf0 hf1
    go_wp2_with ((with_reducible refine gate_builtin (b := .append) (xs := #[.tmp 71, .tmp 72]) rfl ?_); at_builtin; refine Kd.R_append (Kd.int .i64) (w0 := w) w.heap.size rfl (.tmp 71) (.tmp 72) 54 3 (.int .i64 0) 8 rfl Tryd.underlying54 (by kernel_rfl) rfl (by decide) (by omega) (.slice (some ⟨w.heap.size + 1 + 1, 0, none⟩) 2 2) [1, 2] 15 [.int .i64 15] (fun k => k ≠ w.heap.size) (fun _ => False) rfl rfl rfl (fun _ hk => hk.elim) ?aF HO.out HW.out HW.out.size (by decide) ?_; (case aF => intro k hk; have := blk_lt BK.out; omega); intro v9 w9 ho hb hgr hat; have bk9 := blk_grown BK.out hgr (by simp [Value.ownBlock]; omega); clear hat; obtain ⟨A9, c9, rfl⟩ := Kd.R_slice ho; have HO9 := Aside0.mk ho; have HW9 := Aside0.mk hb; clear ho hb hgr; have BK9 := Aside0.mk bk9; have hz0 := blk_cell BK9.out 0; have hz1 := blk_cell BK9.out 1; have hf0 := blk_frozen BK9.out 0; have hf1 := blk_frozen BK9.out 1; simp at hz0 hz1; clear bk9)
    obtain ⟨A9', c9', e9, hl9, hc9⟩ := Kd.R_reads (Kd.R_far (p := ⟨w.heap.size, 1, none⟩) (Kd.R_far (p := ⟨w.heap.size, 0, none⟩) HO9.out (fun _ hk => hk) (.int .i64 6)) (fun _ hk => hk) (.slice A9 ([1, 2] ++ [15] : List Int).length c9))
    cases e9
    refine bodyPost_ret (results_cell_row rfl _ _ w.heap.size 115 #[.int .i64 6, .slice A9 ([1, 2] ++ [15] : List Int).length c9] (0, 0) _ rfl (blk_put (cs := #[.int .i64 6, .slice none 0 0]) (blk_put (cs := #[.int .i64 0, .slice none 0 0]) BK9.out 0 _ rfl) 1 _ rfl) hu rfl (by kernel_rfl)) rfl ?_
    exact IsRowOf.fin (r := (6, [1, 2, 15])) (by decide) (hc9) (hl9) (below_set (below_set HW9.out (Nat.le_refl _)) (Nat.le_refl _))
   by_cases h23 : id = 23
   ·subst h23
    go_wp2
    refine bodyPost_ret (results_cell_row rfl _ _ w.heap.size 115 #[.int .i64 1, .slice (some ⟨w.heap.size + 1 + 1, 0, none⟩) 1 2] (0, 0) _ rfl (blk_put (cs := #[.int .i64 1, .slice none 0 0]) (blk_put (cs := #[.int .i64 0, .slice none 0 0]) BK.out 0 _ rfl) 1 _ rfl) hu rfl (by kernel_rfl)) rfl ?_
    exact IsRowOf.fin (r := (1, [1])) (by decide) (C_sets 0 1 _ _ (C_first HBo.out) (by rintro ad h9_ _; cases h9_; show w.heap.size + 1 + 1 ≠ w.heap.size; omega)) (by decide) (below_set (below_set HW.out (Nat.le_refl _)) (Nat.le_refl _))
   by_cases h25 : id = 25
   ·subst h25
    go_wp2
    refine bodyPost_ret (results_cell_row rfl _ _ w.heap.size 115 #[.int .i64 1, .slice (some ⟨w.heap.size + 1 + 1, 0, none⟩) 1 2] (0, 0) _ rfl (blk_put (cs := #[.int .i64 1, .slice none 0 0]) (blk_put (cs := #[.int .i64 0, .slice none 0 0]) BK.out 0 _ rfl) 1 _ rfl) hu rfl (by kernel_rfl)) rfl ?_
    exact IsRowOf.fin (r := (1, [1])) (by decide) (C_sets 0 1 _ _ (C_first HBo.out) (by rintro ad h9_ _; cases h9_; show w.heap.size + 1 + 1 ≠ w.heap.size; omega)) (by decide) (below_set (below_set HW.out (Nat.le_refl _)) (Nat.le_refl _))
   by_cases h24 : id = 24
   ·subst h24
    go_wp2
    refine bodyPost_ret (results_cell_row rfl _ _ w.heap.size 115 #[.int .i64 3, .slice (some ⟨w.heap.size + 1, 1, none⟩) 1 1] (0, 0) _ rfl (blk_put (cs := #[.int .i64 3, .slice none 0 0]) (blk_put (cs := #[.int .i64 0, .slice none 0 0]) BK.out 0 _ rfl) 1 _ rfl) hu rfl (by kernel_rfl)) rfl ?_
    exact IsRowOf.fin (r := (3, [16])) (by decide) (C_sets 0 1 _ _ (C_drop HM.out) (by rintro ad h9_ _; cases h9_; show w.heap.size + 1 ≠ w.heap.size; omega)) (by decide) (below_set (below_set HW.out (Nat.le_refl _)) (Nat.le_refl _))
   obtain ⟨A5, c5, rfl, hl5, hc5⟩ := Kd.R_reads HA.out
   have HL5 := Aside0.mk hl5
   have HC5 := Aside0.mk hc5
   clear hl5 hc5 hz0 hz1 hf0 hf1
   have e1 : (id == 1) = false := beq_eq_false_iff_ne.2 h1
   have e2 : (id == 2) = false := beq_eq_false_iff_ne.2 h2
   have e3 : (id == 3) = false := beq_eq_false_iff_ne.2 h3
   have e8 : (id == 8) = false := beq_eq_false_iff_ne.2 h8
   have e9 : (id == 9) = false := beq_eq_false_iff_ne.2 h9
   have e11 : (id == 11) = false := beq_eq_false_iff_ne.2 h11
   have e17 : (id == 17) = false := beq_eq_false_iff_ne.2 h17
   have e18 : (id == 18) = false := beq_eq_false_iff_ne.2 h18
   have e26 : (id == 26) = false := beq_eq_false_iff_ne.2 h26
   have e19 : (id == 19) = false := beq_eq_false_iff_ne.2 h19
   have e21 : (id == 21) = false := beq_eq_false_iff_ne.2 h21
   have e22 : (id == 22) = false := beq_eq_false_iff_ne.2 h22
   have e23 : (id == 23) = false := beq_eq_false_iff_ne.2 h23
   have e25 : (id == 25) = false := beq_eq_false_iff_ne.2 h25
   have e24 : (id == 24) = false := beq_eq_false_iff_ne.2 h24
   go_wp2_with (go_at_call 101; refine (prop_laterRow.calls id _ _ _ _ HBo.out HC5.out HL5.out h1 h2 h3 h8 h9 h11 h17 h18 h26 h19 h21 h22 h23 h25 h24).mono ?_; rintro e w9 ⟨A9, c9, rfl, hc9, hl9, hb⟩; have bk9 := blk_below BK.out hb; have hw9 := Below.trans HW.out ⟨hb.os, hb.tape, hb.output, hb.size, fun j hj => hb.block j (by have := HW.out.size; omega)⟩; have hn9 := C_ne bk9 hc9 (rowB_zero id); have HC9 := Aside0.mk hc9; have HN9 := Aside0.mk hn9; have HL9 := Aside0.mk hl9; have HW9 := Aside0.mk hw9; clear hb hc9 hn9 hl9 hw9; have BK9 := Aside0.mk bk9; have hz0 := blk_cell BK9.out 0; have hz1 := blk_cell BK9.out 1; have hf0 := blk_frozen BK9.out 0; have hf1 := blk_frozen BK9.out 1; simp at hz0 hz1; clear bk9)
   refine bodyPost_ret (results_cell_row rfl _ _ w.heap.size 115 #[.int .i64 (rowB id).1, .slice A9 (rowB id).2.length c9] (0, 0) _ rfl (blk_put (cs := #[.int .i64 (rowB id).1, .slice none 0 0]) (blk_put (cs := #[.int .i64 0, .slice none 0 0]) BK9.out 0 _ rfl) 1 _ rfl) hu rfl (by kernel_rfl)) rfl ?_
   exact IsRowOf.fin rfl (C_sets 0 1 _ _ HC9.out HN9.out) HL9.out (below_set (below_set HW9.out (Nat.le_refl _)) (Nat.le_refl _))
end Go.Proofs.YtkmkgpigmldhnaaDoor.P
namespace Go.Proofs.YtkmkgpigmldhnaaDoor.P
open Go.RowKit Go.Proofs.YtkmkgpigmldhnaaDoorW.PrintWords Go.Proofs.YtkmkgpigmldhnaaDoorW.PrintLast Go.Proofs.YtkmkgpigmldhnaaDoorW.PrintMore
attribute [local go_sem] max2_int min2_int max_two min_two max_three min_three max_four min_four
structure S60 where
  f0 : Int
  f1 : Int
  f2 : ByteArray
  f3 : ByteArray
def z60 : S60 := ⟨(0 : Int), (0 : Int), (⟨#[]⟩ : ByteArray), (⟨#[]⟩ : ByteArray)⟩
def k60 : Kd S60 := Kd.iso (Kd.pair (Kd.int .u8) (Kd.pair (Kd.int .u32) (Kd.pair Kd.string Kd.string))) (fun x : S60 => (x.f0, x.f1, x.f2, x.f3))
theorem k60_open {w : World} {x : S60} {cs : List Value} (h : k60.K w x cs) : cs = [.int .u8 x.f0, .int .u32 x.f1, .string x.f2, .string x.f3] := by
  obtain ⟨_, _, rfl, rfl, ⟨_, _, rfl, rfl, ⟨_, _, rfl, rfl, rfl⟩⟩⟩ := h
  exact rfl
theorem k60_openM {w : World} {base : Nat} {ok : Nat → Prop} {x : S60} {cs : List Value} (h : k60.M w base ok x cs) : cs = [.int .u8 x.f0, .int .u32 x.f1, .string x.f2, .string x.f3] := by
  obtain ⟨_, _, rfl, rfl, ⟨_, _, rfl, rfl, ⟨_, _, rfl, rfl, rfl⟩⟩⟩ := h
  exact rfl
theorem k60_mkM (w : World) (base : Nat) (ok : Nat → Prop) (x : S60)  : k60.M w base ok x [.int .u8 x.f0, .int .u32 x.f1, .string x.f2, .string x.f3] := ⟨[.int .u8 x.f0], [.int .u32 x.f1, .string x.f2, .string x.f3], rfl, rfl, ⟨[.int .u32 x.f1], [.string x.f2, .string x.f3], rfl, rfl, ⟨[.string x.f2], [.string x.f3], rfl, rfl, rfl⟩⟩⟩
def rd_T60 (xs : List S60) (i : Int) : S60 := xs.getD i.toNat z60
theorem at_T60 {w : World} {A : Option Addr} {n : Nat} {xs : List S60} (h : Kd.C k60 w A n xs) (i : Int) (h0 : 0 ≤ i) (h1 : i < n) : ∃ ad , A = some ad ∧ w.cell? (ad.add (i.toNat * 4)) = some (.int .u8 (rd_T60 xs i).f0) ∧ w.cell? ⟨(ad.add (i.toNat * 4)).block, (ad.add (i.toNat * 4)).off + 1, none⟩ = some (.int .u32 (rd_T60 xs i).f1) ∧ w.cell? ⟨(ad.add (i.toNat * 4)).block, (ad.add (i.toNat * 4)).off + 2, none⟩ = some (.string (rd_T60 xs i).f2) ∧ w.cell? ⟨(ad.add (i.toNat * 4)).block, (ad.add (i.toNat * 4)).off + 3, none⟩ = some (.string (rd_T60 xs i).f3) := by
  obtain ⟨ad, c, e, _, hK, hc0⟩ := Kd.C_get h z60 i h0 h1
  have hc : ∀ j u, c[j]? = some u → w.cell? (ad.add (i.toNat * 4 + j)) = some u := hc0
  obtain rfl := k60_open hK
  exact ⟨ad, e, hc 0 _ rfl, by rw [← add_field _ _ 1 (by omega)]; exact hc 1 _ rfl, by rw [← add_field _ _ 2 (by omega)]; exact hc 2 _ rfl, by rw [← add_field _ _ 3 (by omega)]; exact hc 3 _ rfl⟩
end Go.Proofs.YtkmkgpigmldhnaaDoor.P
namespace Go.Proofs.YtkmkgpigmldhnaaDoor.P
open Go.RowKit Go.Shelf Go.Lib Go.Proofs.YtkmkgpigmldhnaaDoorW.PrintWords Go.Proofs.YtkmkgpigmldhnaaDoorW.PrintLast Go.Proofs.YtkmkgpigmldhnaaDoorW.PrintMore
theorem get_eq (x : S60) (id : Int) (B : Nat) (w : World) (hc : w.cell? ⟨B, 0, none⟩ = some (.int .u8 id)) :
  Calls Tryd.prog 54 #[.agg #[.int .u8 x.f0, .int .u32 x.f1, .string x.f2, .string x.f3], .pointer (some ⟨B, 0, none⟩)] w fun e w' => e = .returned (.bool (x.f0 == id)) ∧ Below w.heap.size w w' := by
 have hu := Tryd.underlying60
 have hc' := fun o => (pw_cell_below (below_alloc (Below.refl _ w) o) hc)
 go_enter Tryd.func54, Tryd.ntmps54
 go_wp2
 go_ret
 exact ⟨rfl, below_alloc (Below.refl _ _) _⟩
def idxAt (id : Int) : List S60 → Nat → Int
 | [], _ => -1
 | p :: r, i => if p.f0 = id then (i : Int) else idxAt id r (i + 1)
theorem index_by (l : List S60) (A : Option Addr) (c : Nat) (id : Int) (B : Nat) (w : World) (hc : w.cell? ⟨B, 0, none⟩ = some (.int .u8 id)) (hr : Kd.C k60 w A l.length l) (hl : l.length ≤ c) (hz : l.length < 4611686018427387904) :
  Calls Tryd.prog 53 #[.slice A l.length c, .func (.func 54) #[] #[.pointer (some ⟨B, 0, none⟩)]] w fun e w' => e = .returned (.int .i64 (idxAt id l 0)) ∧ Below w.heap.size w w' := by
 have hu := Tryd.underlying60
 have eg := enters_of Tryd.func54 (by kernel_rfl) rfl
 have HR := Aside0.mk hr
 have HC := Aside0.mk hc
 clear hr hc
 go_enter Tryd.func53, Tryd.ntmps53
 go_wp2
 go_loopg [8] l.length (fun g v8 wr => ∃ i : Nat, v8 = .int .i64 (i : Int) ∧ i + g = l.length ∧ Aside0 (idxAt id (l.drop i) i = idxAt id l 0) ∧ Aside0 (Below w.heap.size w wr))
 case atStart => exact ⟨0, rfl, by omega, ⟨rfl⟩, ⟨Below.refl _ _⟩⟩
 case round =>
  obtain ⟨i, rfl, hg, HI, HB⟩ := hrel
  cases gk with
  | zero =>
   have hb0 : decide ((i : Int) < (l.length : Int)) = false := decide_eq_false (by omega)
   have hend := HI.out
   rw [List.drop_eq_nil_of_le (by omega)] at hend
   have HE := Aside0.mk hend
   clear hend
   go_wp2
   go_ret
   exact ⟨by rw [← HE.out]; rfl, HB.out⟩
  | succ g =>
   have hlt : i < l.length := by omega
   have hb0 : decide ((i : Int) < (l.length : Int)) = true := decide_eq_true (by omega)
   obtain ⟨ad, e, hx0, hx1, hx2, hx3⟩ := at_T60 (Kd.C_below HR.out HB.out) (i : Int) (by omega) (by omega)
   subst e
   have hstep := HI.out
   rw [List.drop_eq_getElem_cons hlt, idxAt] at hstep
   have hrd : rd_T60 l (i : Int) = l[i] := by unfold rd_T60; simp [hlt]
   rw [hrd] at hx0 hx1 hx2 hx3
   simp only [Int.toNat_natCast] at hx0 hx1 hx2 hx3
   have h0 : (0 : Int) ≤ (i : Int) := by omega
   have h1 : (i : Int) < (l.length : Int) := by omega
   have hw : IntKind.i64.wrap ((i : Int) + 1) = ((i + 1 : Nat) : Int) := by rw [show IntKind.i64.wrap ((i : Int) + 1) = wrap64 ((i : Int) + 1) from (i64_w _)]; unfold wrap64; omega
   have HC' := Aside0.mk (pw_cell_below HB.out HC.out)
   by_cases hid : (l[i]).f0 = id
   ·rw [if_pos hid] at hstep
    have hq : ((l[i]).f0 == id) = true := beq_iff_eq.2 hid
    have HS := Aside0.mk hstep
    have HQ := Aside0.mk hq
    clear hstep hrd hid hq
    go_wp2_with (fail)
    refine (get_eq l[i] id B _ HC'.out).mono ?_
    rintro e w' ⟨rfl, hb⟩
    have HB2 := Aside0.mk (below_step HB.out hb)
    clear hb
    simp only [HQ.out]
    go_wp2
    go_ret
    exact ⟨by rw [← HS.out]; rfl, HB2.out⟩
   ·rw [if_neg hid] at hstep
    have hq : ((l[i]).f0 == id) = false := beq_eq_false_iff_ne.2 hid
    have HS := Aside0.mk hstep
    have HQ := Aside0.mk hq
    clear hstep hrd hid hq
    go_wp2_with (fail)
    refine (get_eq l[i] id B _ HC'.out).mono ?_
    rintro e w' ⟨rfl, hb⟩
    have HB2 := Aside0.mk (below_step HB.out hb)
    clear hb
    simp only [HQ.out]
    go_wp2
    go_roundg g
    case measure => omega
    case rel => exact ⟨i + 1, rfl, by omega, HS, HB2⟩
def props_Get.f (l0 : List (S60)) (a1 : Int) : Option (Int × Int × ByteArray × ByteArray × Bool) :=
 if l0.length < 4611686018427387904 then some (match l0.find? (fun p => decide (p.f0 = a1)) with
  | some p => (p.f0, p.f1, p.f2, p.f3, true)
  | none => (0, 0, (⟨#[]⟩ : ByteArray), (⟨#[]⟩ : ByteArray), false)) else none
theorem idxAt_find (id : Int) : ∀ (l : List S60) (i : Nat), (idxAt id l i = -1 ∧ l.find? (fun p => decide (p.f0 = id)) = none) ∨ ∃ j : Nat, ∃ h : j < l.length, idxAt id l i = ((i + j : Nat) : Int) ∧ l.find? (fun p => decide (p.f0 = id)) = some l[j]
 | [], _ => .inl ⟨rfl, rfl⟩
 | p :: r, i => by
  rw [idxAt, List.find?_cons]
  by_cases h : p.f0 = id
  ·rw [if_pos h, decide_eq_true h]
   exact .inr ⟨0, by simp, by simp, by simp⟩
  ·rw [if_neg h, decide_eq_false h]
   rcases idxAt_find id r (i + 1) with ⟨h1, h2⟩ | ⟨j, hj, h1, h2⟩
   ·exact .inl ⟨h1, h2⟩
   ·exact .inr ⟨j + 1, by simp; omega, by rw [h1]; congr 1; omega, by rw [h2]; simp⟩
theorem props_Get.calls (A0 : Option Addr) (c0 : Nat) (l0 : List (S60)) (a1 : Int) (r1 : Int) (r2 : Int) (r3 : ByteArray) (r4 : ByteArray) (r5 : Bool) (w : World) (hr0 : Kd.C k60 w A0 l0.length l0) (hc0 : l0.length ≤ c0) (h : props_Get.f l0 a1 = some (r1, r2, r3, r4, r5)) :
  Calls Tryd.prog 27 #[.slice A0 l0.length c0, .int .u8 a1] w fun e w' => e = .returned (.tuple #[.agg #[.int .u8 r1, .int .u32 r2, .string r3, .string r4], .bool r5]) ∧ Below w.heap.size w w' := by
 have hu := Tryd.underlying60
 unfold props_Get.f at h
 split at h
 ·rename_i hz
  have h := Option.some.inj h
  have HR := Aside0.mk hr0
  have hbid := heap2_old w (.cells #[.int .u8 a1] 5) (.cells #[.int .u8 0, .int .u32 0, .string ⟨#[]⟩, .string ⟨#[]⟩] 60)
  have hcid := (blk_cell hbid 0).trans (rfl : _ = some (Value.int .u8 a1))
  have hbk := heap_alloc2_new w (.cells #[.int .u8 a1] 5) (.cells #[.int .u8 0, .int .u32 0, .string ⟨#[]⟩, .string ⟨#[]⟩] 60)
  have HID := Aside0.mk hcid
  have HBK := Aside0.mk hbk
  have HC0 := Aside0.mk hc0
  have HZ := Aside0.mk hz
  clear hr0 hbid hcid hbk hc0 hz
  go_enter Tryd.func27, Tryd.ntmps27
  rcases idxAt_find a1 l0 0 with ⟨e1, e2⟩ | ⟨j, hj, e1, e2⟩
  ·rw [e2] at h
   simp only [Prod.mk.injEq] at h
   obtain ⟨rfl, rfl, rfl, rfl, rfl⟩ := h
   have E1 := Aside0.mk e1
   clear e1 e2
   go_wp2_with (go_at_call 53; refine (index_by l0 _ _ a1 _ _ HID.out (Kd.C_below HR.out (below_alloc (below_alloc (Below.refl _ _) _) _)) HC0.out HZ.out).mono ?_; rintro e w9 ⟨rfl, hb⟩; rw [E1.out]; have bk9 := blk_below HBK.out hb; have BK9 := Aside0.mk bk9; have hw9 := Below.trans (below_alloc (below_alloc (Below.refl _ w) _) _) ⟨hb.os, hb.tape, hb.output, hb.size, fun j hj => hb.block j (by have := (below_alloc (below_alloc (Below.refl _ w) (.cells #[.int .u8 a1] 5)) (.cells #[.int .u8 0, .int .u32 0, .string ⟨#[]⟩, .string ⟨#[]⟩] 60)).size; omega)⟩; have HW9 := Aside0.mk hw9; have hz0 := blk_cell bk9 0; have hz1 := blk_cell bk9 1; have hz2 := blk_cell bk9 2; have hz3 := blk_cell bk9 3; have hf0 := blk_frozen bk9 0; have hf1 := blk_frozen bk9 1; have hf2 := blk_frozen bk9 2; have hf3 := blk_frozen bk9 3; simp at hz0 hz1 hz2 hz3; clear bk9 hb hw9)
   refine bodyPost_ret (results_ct rfl _ _ (w.heap.size + 1) 60 #[.int .u8 0, .int .u32 0, .string ⟨#[]⟩, .string ⟨#[]⟩] (0, 0) _ rfl (blk_put (cs := #[.int .u8 0, .int .u32 0, .string ⟨#[]⟩, .string ⟨#[]⟩]) (blk_put (cs := #[.int .u8 0, .int .u32 0, .string ⟨#[]⟩, .string ⟨#[]⟩]) (blk_put (cs := #[.int .u8 0, .int .u32 0, .string ⟨#[]⟩, .string ⟨#[]⟩]) (blk_put (cs := #[.int .u8 0, .int .u32 0, .string ⟨#[]⟩, .string ⟨#[]⟩]) BK9.out 0 _ rfl) 1 _ rfl) 2 _ rfl) 3 _ rfl) hu rfl (by kernel_rfl)) rfl ?_
   exact ⟨rfl, below_set (below_set (below_set (below_set HW9.out (by omega)) (by omega)) (by omega)) (by omega)⟩
  ·rw [e2] at h
   simp only [Prod.mk.injEq] at h
   obtain ⟨rfl, rfl, rfl, rfl, rfl⟩ := h
   rw [Nat.zero_add] at e1
   have E1 := Aside0.mk e1
   have hlt0 : ((j : Int) < 0) = False := eq_false (by omega)
   have hltb : decide ((j : Int) < 0) = false := decide_eq_false (by omega)
   have h0 : (0 : Int) ≤ (j : Int) := by omega
   have h1 : (j : Int) < (l0.length : Int) := by omega
   have hrd : rd_T60 l0 (j : Int) = l0[j] := by unfold rd_T60; simp [hj]
   clear e1 e2
   go_wp2_with (go_at_call 53; refine (index_by l0 _ _ a1 _ _ HID.out (Kd.C_below HR.out (below_alloc (below_alloc (Below.refl _ _) _) _)) HC0.out HZ.out).mono ?_; rintro e w9 ⟨rfl, hb⟩; rw [E1.out]; have bk9 := blk_below HBK.out hb; have BK9 := Aside0.mk bk9; have hw9 := Below.trans (below_alloc (below_alloc (Below.refl _ w) _) _) ⟨hb.os, hb.tape, hb.output, hb.size, fun j hj => hb.block j (by have := (below_alloc (below_alloc (Below.refl _ w) (.cells #[.int .u8 a1] 5)) (.cells #[.int .u8 0, .int .u32 0, .string ⟨#[]⟩, .string ⟨#[]⟩] 60)).size; omega)⟩; have HW9 := Aside0.mk hw9; have hz0 := blk_cell bk9 0; have hz1 := blk_cell bk9 1; have hz2 := blk_cell bk9 2; have hz3 := blk_cell bk9 3; have hf0 := blk_frozen bk9 0; have hf1 := blk_frozen bk9 1; have hf2 := blk_frozen bk9 2; have hf3 := blk_frozen bk9 3; simp at hz0 hz1 hz2 hz3; obtain ⟨ad, ea, hx0, hx1, hx2, hx3⟩ := at_T60 (Kd.C_below HR.out HW9.out) (j : Int) (by omega) (by omega); rw [hrd] at hx0 hx1 hx2 hx3; simp only [Int.toNat_natCast] at hx0 hx1 hx2 hx3; subst ea; clear bk9 hb hw9)
   refine bodyPost_ret (results_ct rfl _ _ (w.heap.size + 1) 60 #[.int .u8 l0[j].f0, .int .u32 l0[j].f1, .string l0[j].f2, .string l0[j].f3] (0, 0) _ rfl (blk_put (cs := #[.int .u8 l0[j].f0, .int .u32 l0[j].f1, .string l0[j].f2, .string ⟨#[]⟩]) (blk_put (cs := #[.int .u8 l0[j].f0, .int .u32 l0[j].f1, .string ⟨#[]⟩, .string ⟨#[]⟩]) (blk_put (cs := #[.int .u8 l0[j].f0, .int .u32 0, .string ⟨#[]⟩, .string ⟨#[]⟩]) (blk_put (cs := #[.int .u8 0, .int .u32 0, .string ⟨#[]⟩, .string ⟨#[]⟩]) BK9.out 0 _ rfl) 1 _ rfl) 2 _ rfl) 3 _ rfl) hu rfl (by kernel_rfl)) rfl ?_
   exact ⟨rfl, below_set (below_set (below_set (below_set HW9.out (by omega)) (by omega)) (by omega)) (by omega)⟩
 ·cases h
end Go.Proofs.YtkmkgpigmldhnaaDoor.P
namespace Go.Proofs
open Go.Shelf
def Tryd.laysIns_ren : Go.Shelf.Ren := ⟨fun | 20 => 97 | n => n, fun | 24 => 60 | 22 => 27 | 3 => 3 | 25 => 97 | 4 => 4 | 0 => 0 | n => n, fun | n => n⟩
theorem Tryd.laysIns : Go.Proofs.SlLaysF0.n20 Tryd.prog Tryd.laysIns_ren := {
  mixed := by kernel_rfl
  f20 := ⟨Tryd.f97.name, by decide, Tryd.func97.trans (congrArg some (by kernel_rfl))⟩
  t0 := Tryd.underlying0
  a0 := Tryd.isAgg0
  z0 := Tryd.sizeOf0
  v0 := Tryd.zeroValue0
  t3 := Tryd.underlying3
  a3 := Tryd.isAgg3
  z3 := Tryd.sizeOf3
  v3 := Tryd.zeroValue3
  t4 := Tryd.underlying4
  a4 := Tryd.isAgg4
  z4 := Tryd.sizeOf4
  v4 := Tryd.zeroValue4
  t22 := Tryd.underlying27
  a22 := Tryd.isAgg27
  z22 := Tryd.sizeOf27
  v22 := Tryd.zeroValue27
  t25 := Tryd.underlying97
  a25 := Tryd.isAgg97
  z25 := Tryd.sizeOf97
  v25 := Tryd.zeroValue97 }
end Go.Proofs
namespace Go.Proofs.YtkmkgpigmldhnaaDoor.Srt
open Go.Sort
variable {α : Type} (key : α → Int)
def Stb (l m : List α) : Prop := l.length = m.length ∧ ∀ k, l.filter (fun x => decide (key x = k)) = m.filter (fun x => decide (key x = k))
theorem Stb.refl (l : List α) : Stb key l l := ⟨rfl, fun _ => rfl⟩
variable {key}
theorem Stb.trans {l m n : List α} (h : Stb key l m) (k : Stb key m n) : Stb key l n := ⟨h.1.trans k.1, fun x => (h.2 x).trans (k.2 x)⟩
theorem Stb.symm {l m : List α} (h : Stb key l m) : Stb key m l := ⟨h.1.symm, fun x => (h.2 x).symm⟩
theorem Stb.append {l m l' m' : List α} (h : Stb key l m) (k : Stb key l' m') : Stb key (l ++ l') (m ++ m') := ⟨by simp [h.1, k.1], fun x => by rw [List.filter_append, List.filter_append, h.2, k.2]⟩
theorem Stb.swap {x y : α} (h : key x ≠ key y) (r : List α) : Stb key (x :: y :: r) (y :: x :: r) := ⟨rfl, fun k => by
  by_cases h1 : key x = k
  · have h2 : ¬ key y = k := fun e => h (h1.trans e.symm)
    simp [h1, h2]
  · by_cases h2 : key y = k
    · simp [h1, h2]
    · simp [h1, h2]⟩
theorem Stb.mem {l m : List α} (h : Stb key l m) (x : α) : x ∈ l ↔ x ∈ m := by
  have e := h.2 (key x)
  constructor
  · intro hx
    have : x ∈ l.filter (fun y => decide (key y = key x)) := List.mem_filter.2 ⟨hx, by simp⟩
    rw [e] at this
    exact (List.mem_filter.1 this).1
  · intro hx
    have : x ∈ m.filter (fun y => decide (key y = key x)) := List.mem_filter.2 ⟨hx, by simp⟩
    rw [← e] at this
    exact (List.mem_filter.1 this).1
theorem Stb.unique : ∀ {l m : List α}, l.Pairwise (fun x y => key x ≤ key y) → m.Pairwise (fun x y => key x ≤ key y) → Stb key l m → l = m
  | [], [], _, _, _ => rfl
  | [], _ :: _, _, _, h => by simp [Stb] at h
  | _ :: _, [], _, _, h => by simp [Stb] at h
  | a :: l, b :: m, hl, hm, h => by
    rw [List.pairwise_cons] at hl hm
    have hab : key a ≤ key b := by
      rcases List.mem_cons.1 ((h.mem b).2 (by simp)) with rfl | hb
      · exact Int.le_refl _
      · exact hl.1 b hb
    have hba : key b ≤ key a := by
      rcases List.mem_cons.1 ((h.mem a).1 (by simp)) with rfl | ha
      · exact Int.le_refl _
      · exact hm.1 a ha
    have e : key a = key b := by omega
    have h1 := h.2 (key a)
    rw [List.filter_cons_of_pos (by simp), List.filter_cons_of_pos (by simp [e])] at h1
    injection h1 with h2 h3
    subst h2
    rw [Stb.unique hl.2 hm.2 ⟨by simpa using h.1, fun k => ?_⟩]
    have h4 := h.2 k
    by_cases hk : key a = k
    · rw [List.filter_cons_of_pos (by simp [hk]), List.filter_cons_of_pos (by simp [hk])] at h4
      injection h4
    · rw [List.filter_cons_of_neg (by simp [hk]), List.filter_cons_of_neg (by simp [hk])] at h4
      exact h4
variable (key) in
def srt : List α → List α
  | [] => []
  | x :: r => insL x (srt r)
where insL (x : α) : List α → List α
  | [] => [x]
  | y :: r => if key y < key x then y :: insL x r else x :: y :: r
theorem insL_stb (x : α) : ∀ (l : List α), Stb key (x :: l) (srt.insL key x l)
  | [] => Stb.refl key _
  | y :: r => by
    rw [srt.insL]
    by_cases h : key y < key x
    · rw [if_pos h]
      exact (Stb.swap (by omega) r).trans ((Stb.refl key [y]).append (insL_stb x r))
    · rw [if_neg h]; exact Stb.refl key _
theorem insL_sorted (x : α) : ∀ (l : List α), l.Pairwise (fun x y => key x ≤ key y) → (srt.insL key x l).Pairwise (fun x y => key x ≤ key y)
  | [], _ => by rw [srt.insL]; exact List.pairwise_singleton _ _
  | y :: r, h => by
    rw [List.pairwise_cons] at h
    rw [srt.insL]
    by_cases h2 : key y < key x
    · rw [if_pos h2, List.pairwise_cons]
      refine ⟨fun z hz => ?_, insL_sorted x r h.2⟩
      rcases List.mem_cons.1 (((insL_stb (key := key) x r).mem z).2 hz) with rfl | hz
      · omega
      · exact h.1 z hz
    · rw [if_neg h2, List.pairwise_cons, List.pairwise_cons]
      refine ⟨fun z hz => ?_, h.1, h.2⟩
      rcases List.mem_cons.1 hz with rfl | hz
      · omega
      · have := h.1 z hz; omega
theorem srt_stb : ∀ (l : List α), Stb key l (srt key l)
  | [] => Stb.refl key _
  | x :: r => by rw [srt]; exact ((Stb.refl key [x]).append (srt_stb r)).trans (insL_stb x _)
theorem srt_sorted : ∀ (l : List α), (srt key l).Pairwise (fun x y => key x ≤ key y)
  | [] => List.Pairwise.nil
  | x :: r => by rw [srt]; exact insL_sorted x _ (srt_sorted r)
theorem srt_of {l m : List α} (h : Stb key l m) (hm : m.Pairwise (fun x y => key x ≤ key y)) : m = srt key l := Stb.unique hm (srt_sorted l) (h.symm.trans (srt_stb l))
theorem set2 {α : Type} : ∀ (l : List α) (j : Nat) (h : j + 1 < l.length), (l.set (j + 1) l[j]).set j l[j + 1] = l.take j ++ l[j + 1] :: l[j] :: l.drop (j + 2)
  | [], _, h => by simp at h
  | [_], _, h => by simp at h
  | x :: y :: r, 0, _ => by simp
  | x :: y :: r, j + 1, h => by
    have := set2 (y :: r) j (by simpa using h)
    simpa using this
variable [Inhabited α]
theorem swp_size (d : Array α) (i j : Nat) : (swp d i j).size = d.size := by simp [swp]
theorem swp_list (d : Array α) (j : Nat) (h : j + 1 < d.size) : (swp d (j + 1) j).toList = d.toList.take j ++ d[j + 1]! :: d[j]! :: d.toList.drop (j + 2) := by
  have h1 : d[j]! = d.toList[j]'(by simp; omega) := by simp [getElem!_pos d j (by omega)]
  have h2 : d[j + 1]! = d.toList[j + 1]'(by simp; omega) := by simp [getElem!_pos d (j + 1) h]
  unfold swp
  rw [Array.toList_setIfInBounds, Array.toList_setIfInBounds, h1, h2, set2 d.toList j (by simpa using h)]
theorem list_split (d : Array α) (j : Nat) (h : j + 1 < d.size) : d.toList = d.toList.take j ++ d[j]! :: d[j + 1]! :: d.toList.drop (j + 2) := by
  have h1 : d[j]! = d.toList[j]'(by simp; omega) := by simp [getElem!_pos d j (by omega)]
  have h2 : d[j + 1]! = d.toList[j + 1]'(by simp; omega) := by simp [getElem!_pos d (j + 1) h]
  rw [h1, h2, ← List.drop_eq_getElem_cons (by simp; omega), ← List.drop_eq_getElem_cons (by simp; omega), List.take_append_drop]
theorem swp_stb (d : Array α) (j : Nat) (h : j + 1 < d.size) (hk : key d[j + 1]! ≠ key d[j]!) : Stb key d.toList (swp d (j + 1) j).toList := by
  rw [swp_list d j h]
  conv => lhs; rw [list_split d j h]
  exact (Stb.refl key _).append (Stb.swap (Ne.symm hk) _)
theorem swp_get (d : Array α) (i j k : Nat) (hi : i < d.size) (hj : j < d.size) : (swp d i j)[k]! = if k = j then d[i]! else if k = i then d[j]! else d[k]! := by
  unfold swp
  by_cases hk : k < d.size
  · rw [getElem!_pos _ _ (by simpa using hk), Array.getElem_setIfInBounds (by simpa using hk), Array.getElem_setIfInBounds hk]
    by_cases e1 : j = k
    · rw [if_pos e1, if_pos e1.symm]
    · rw [if_neg e1, if_neg (Ne.symm e1)]
      by_cases e2 : i = k
      · rw [if_pos e2, if_pos e2.symm]
      · rw [if_neg e2, if_neg (Ne.symm e2), getElem!_pos d k hk]
  · rw [getElem!_neg ((d.setIfInBounds i d[j]!).setIfInBounds j d[i]!) k (by simpa using hk), if_neg (by omega), if_neg (by omega), getElem!_neg d k hk]
variable (key) in
def Srtd (d : Array α) (a b : Nat) : Prop := ∀ i j : Nat, a ≤ i → i < j → j < b → key d[i]! ≤ key d[j]!
theorem inner_ok (a : Nat) : ∀ (i : Nat) (d : Array α) (b : Nat), i < d.size → a ≤ i → i < b → b ≤ d.size → (∀ p q, a ≤ p → p < q → q < b → q ≠ i → p ≠ i → key d[p]! ≤ key d[q]!) → (∀ q, i < q → q < b → key d[i]! ≤ key d[q]!) →
    Stb key d.toList (insInner (fun x y => decide (key x < key y)) a i d).toList ∧ Srtd key (insInner (fun x y => decide (key x < key y)) a i d) a b ∧ ∀ k, (k < a ∨ b ≤ k) → (insInner (fun x y => decide (key x < key y)) a i d)[k]! = d[k]!
  | 0, d, b, hi, ha, hib, hb, h1, h2 => by
    rw [insInner]
    refine ⟨Stb.refl key _, fun p q hp hpq hq => ?_, fun _ _ => rfl⟩
    by_cases e : p = 0
    · subst e; exact h2 q hpq hq
    · exact h1 p q hp hpq hq (by omega) e
  | i + 1, d, b, hi, ha, hib, hb, h1, h2 => by
    rw [insInner]
    by_cases hc : (decide (i + 1 > a) && decide (key d[i + 1]! < key d[i]!)) = true
    · rw [if_pos hc]
      rw [Bool.and_eq_true, decide_eq_true_eq, decide_eq_true_eq] at hc
      obtain ⟨hgt, hlt⟩ := hc
      have g : ∀ k, (swp d (i + 1) i)[k]! = if k = i then d[i + 1]! else if k = i + 1 then d[i]! else d[k]! := fun k => swp_get d (i + 1) i k (by omega) (by omega)
      obtain ⟨r1, r2, r3⟩ := inner_ok a i (swp d (i + 1) i) b (by rw [swp_size]; omega) (by omega) (by omega) (by rw [swp_size]; omega) (fun p q hp hpq hq hqi hpi => by
        rw [g, g, if_neg hpi, if_neg hqi]
        by_cases e1 : p = i + 1
        · rw [if_pos e1, if_neg (by omega)]
          exact h1 i q (by omega) (by omega) hq (by omega) (by omega)
        · rw [if_neg e1]
          by_cases e2 : q = i + 1
          · rw [if_pos e2]; exact h1 p i hp (by omega) (by omega) (by omega) (by omega)
          · rw [if_neg e2]; exact h1 p q hp hpq hq (by omega) (by omega)) (fun q hq hqb => by
        rw [g, g, if_pos rfl, if_neg (by omega)]
        by_cases e2 : q = i + 1
        · rw [if_pos e2]; omega
        · rw [if_neg e2]; exact h2 q (by omega) hqb)
      refine ⟨(swp_stb d i hi (by omega)).trans r1, r2, fun k hk => ?_⟩
      rw [r3 k hk, g, if_neg (by omega), if_neg (by omega)]
    · rw [if_neg hc]
      rw [Bool.and_eq_true, decide_eq_true_eq, decide_eq_true_eq] at hc
      refine ⟨Stb.refl key _, fun p q hp hpq hq => ?_, fun _ _ => rfl⟩
      by_cases e : q = i + 1
      · subst e
        have hle : key d[i]! ≤ key d[i + 1]! := by
          by_cases hgt : i + 1 > a
          · have : ¬ key d[i + 1]! < key d[i]! := fun h => hc ⟨hgt, h⟩
            omega
          · omega
        by_cases e2 : p = i
        · subst e2; exact hle
        · have := h1 p i hp (by omega) (by omega) (by omega) (by omega); omega
      · by_cases e2 : p = i + 1
        · subst e2; exact h2 q hpq hq
        · exact h1 p q hp hpq hq e e2
theorem inner_size (lt : α → α → Bool) (a : Nat) : ∀ (i : Nat) (d : Array α), (insInner lt a i d).size = d.size
  | 0, d => rfl
  | i + 1, d => by rw [insInner]; split; rw [inner_size lt a i, swp_size]; rfl
theorem outer_ok (a b : Nat) : ∀ (n i : Nat) (d : Array α), b - i = n → a ≤ i → b ≤ d.size → Srtd key d a i →
    Stb key d.toList (insOuter (fun x y => decide (key x < key y)) a b i d).toList ∧ (i ≤ b → Srtd key (insOuter (fun x y => decide (key x < key y)) a b i d) a b) ∧ ∀ k, (k < a ∨ b ≤ k) → (insOuter (fun x y => decide (key x < key y)) a b i d)[k]! = d[k]!
  | 0, i, d, hn, ha, hb, hs => by
    rw [insOuter, if_neg (by omega)]
    exact ⟨Stb.refl key _, fun h => by obtain rfl : i = b := by omega
                                       exact hs, fun _ _ => rfl⟩
  | n + 1, i, d, hn, ha, hb, hs => by
    rw [insOuter, if_pos (by omega)]
    obtain ⟨r1, r2, r3⟩ := inner_ok (key := key) a i d (i + 1) (by omega) ha (by omega) (by omega) (fun p q hp hpq hq hqi hpi => hs p q hp hpq (by omega)) (fun q hq hqb => by omega)
    obtain ⟨s1, s2, s3⟩ := outer_ok a b n (i + 1) (insInner (fun x y => decide (key x < key y)) a i d) (by omega) (by omega) (by rw [inner_size]; omega) r2
    refine ⟨r1.trans s1, fun _ => s2 (by omega), fun k hk => ?_⟩
    rw [s3 k hk, r3 k (by omega)]
theorem insertion_ok (d : Array α) (a b : Nat) (hab : a ≤ b) (hb : b ≤ d.size) :
    Stb key d.toList (insertionSort (fun x y => decide (key x < key y)) d a b).toList ∧ Srtd key (insertionSort (fun x y => decide (key x < key y)) d a b) a b ∧ ∀ k, (k < a ∨ b ≤ k) → (insertionSort (fun x y => decide (key x < key y)) d a b)[k]! = d[k]! := by
  unfold insertionSort
  by_cases h : a < b
  · obtain ⟨r1, r2, r3⟩ := outer_ok (key := key) a b (b - (a + 1)) (a + 1) d rfl (by omega) hb (fun p q hp hpq hq => by omega)
    exact ⟨r1, r2 (by omega), r3⟩
  · obtain rfl : a = b := by omega
    rw [insOuter, if_neg (by omega)]
    exact ⟨Stb.refl key _, fun p q hp hpq hq => by omega, fun _ _ => rfl⟩
theorem pairwise_of (d : Array α) (h : Srtd key d 0 d.size) : d.toList.Pairwise (fun x y => key x ≤ key y) := by
  rw [List.pairwise_iff_getElem]
  intro i j hi hj hij
  have hi' : i < d.size := by simpa using hi
  have hj' : j < d.size := by simpa using hj
  have := h i j (Nat.zero_le _) hij hj'
  rw [getElem!_pos d i hi', getElem!_pos d j hj'] at this
  simpa using this
theorem insertion_srt (d : Array α) : (insertionSort (fun x y => decide (key x < key y)) d 0 d.size).toList = srt key d.toList := by
  obtain ⟨r1, r2, _⟩ := insertion_ok (key := key) d 0 d.size (Nat.zero_le _) (Nat.le_refl _)
  refine srt_of r1 (pairwise_of _ ?_)
  have hs : (insertionSort (fun x y => decide (key x < key y)) d 0 d.size).size = d.size := by simpa using r1.1.symm
  rw [hs]; exact r2
end Go.Proofs.YtkmkgpigmldhnaaDoor.Srt
namespace Go.Proofs.YtkmkgpigmldhnaaDoor.P
open Go.RowKit Go.Proofs.YtkmkgpigmldhnaaDoorW.PrintWords Go.Proofs.YtkmkgpigmldhnaaDoorW.PrintLast Go.Proofs.YtkmkgpigmldhnaaDoorW.PrintMore
attribute [local go_sem] max2_int min2_int max_two min_two max_three min_three max_four min_four
theorem y0_ {p : Prop} (h : p := by repeat (first | (with_reducible first | exact HB.out | apply below_alloc | apply pw_below_drewN | apply below_drew1) | exact HB.out)) : p := h
theorem y1_ {p : Prop} (h : p := by repeat (first | (with_reducible first | exact HB.out | apply below_alloc | apply pw_below_drewN | apply below_drew1 | refine below_set ?_ GE101.out) | exact HB.out)) : p := h
theorem y2_ {p : Prop} (h : p := by (try simp only [List.map_toArray, List.map_cons, List.map_nil]); first | done | rfl | (simp only [List.length_drop, List.length_take]; rfl)) : p := h
theorem y3_ {p : Prop} (h : p := by (with_reducible repeat (first | refine blk_drewN ?_ _ | refine blk_drew ?_ | refine blk_alloc ?_ _)); exact BK101.out) : p := h
theorem y4_ {p : Prop} (h : p := by first | rfl | (simp [errW_none, errW_some] <;> rfl) | (simp [*, errW_none, errW_some] <;> rfl)) : p := h
theorem y5_ {p : Prop} (h : p := by first | (with_reducible assumption) | assumption) : p := h
theorem y6_ {p : Prop} (h : p := by repeat (first | (with_reducible first | exact HK.out | apply KeepBut.set_ | apply keep_drewN | apply keep_drew | apply keep_alloc) | exact HK.out)) : p := h
theorem y7_ {p : Prop} (h : p := by first | rfl | (simp; done) | (simp [*]; done)) : p := h
theorem y8_ {p : Prop} (h : p := by repeat (first | (with_reducible first | exact HB.out | apply below_alloc | apply pw_below_drewN | apply below_drew1 | refine below_set ?_ GE101.out | refine below_set ?_ GE102.out) | exact HB.out)) : p := h
theorem y9_ {p : Prop} (h : p := by repeat (first | (with_reducible first | exact HB.out | apply below_alloc | apply pw_below_drewN | apply below_drew1 | refine below_set ?_ GE106.out) | exact HB.out)) : p := h
theorem y10_ {p : Prop} (h : p := by repeat (first | exact Drawn0.refl _ | apply Drawn0.step)) : p := h
theorem y11_ {p : Prop} (h : p := by (with_reducible repeat (first | refine blk_drewN ?_ _ | refine blk_drew ?_ | refine blk_alloc ?_ _)); refine blk_put (cs := #[.int .u8 t101, .int .u32 t102, .string t103, .string (⟨#[]⟩ : ByteArray)]) ?_ 3 _ rfl; (with_reducible repeat (first | refine blk_drewN ?_ _ | refine blk_drew ?_ | refine blk_alloc ?_ _)); refine blk_put (cs := #[.int .u8 t101, .int .u32 t102, .string (⟨#[]⟩ : ByteArray), .string (⟨#[]⟩ : ByteArray)]) ?_ 2 _ rfl; (with_reducible repeat (first | refine blk_drewN ?_ _ | refine blk_drew ?_ | refine blk_alloc ?_ _)); refine blk_put (cs := #[.int .u8 t101, .int .u32 0, .string (⟨#[]⟩ : ByteArray), .string (⟨#[]⟩ : ByteArray)]) ?_ 1 _ rfl; (with_reducible repeat (first | refine blk_drewN ?_ _ | refine blk_drew ?_ | refine blk_alloc ?_ _)); refine blk_put (cs := #[.int .u8 0, .int .u32 0, .string (⟨#[]⟩ : ByteArray), .string (⟨#[]⟩ : ByteArray)]) ?_ 0 _ rfl; (with_reducible repeat (first | refine blk_drewN ?_ _ | refine blk_drew ?_ | refine blk_alloc ?_ _)); exact BK106.out) : p := h
theorem y12_ {p : Prop} (h : p := by (with_reducible repeat (first | apply Kd.R_alloc | apply Kd.R_drewN | apply Kd.R_drew)); exact HO103.out) : p := h
theorem y13_ {p : Prop} (h : p := by (with_reducible repeat (first | apply Kd.R_alloc | apply Kd.R_drewN | apply Kd.R_drew)); exact HO_5.out) : p := h
theorem y14_ {p : Prop} (h : p := by (with_reducible repeat (first | apply Kd.R_alloc | apply Kd.R_drewN | apply Kd.R_drew)); exact HO104.out) : p := h
theorem y15_ {p : Prop} (h : p := by (with_reducible repeat (first | apply Kd.R_alloc | apply Kd.R_drewN | apply Kd.R_drew)); exact HO106.out) : p := h
theorem y16_ {p : Prop} (h : p := by (with_reducible repeat (first | refine blk_drewN ?_ _ | refine blk_drew ?_ | refine blk_alloc ?_ _)); exact BK106.out) : p := h
theorem y17_ {p : Prop} (h : p := by repeat (first | (with_reducible first | exact HB.out | apply below_alloc | apply pw_below_drewN | apply below_drew1 | refine below_set ?_ GE106.out | refine below_set ?_ GE112.out) | exact HB.out)) : p := h
theorem y18_ {p : Prop} (h : p := by (with_reducible repeat (first | apply Kd.R_alloc | apply Kd.R_drewN | apply Kd.R_drew)); exact HO109.out) : p := h
theorem y19_ {p : Prop} (h : p := by first | omega | exact Nat.le_refl _) : p := h
theorem y20_ {p : Prop} (h : p := by (with_reducible repeat (first | apply Kd.R_alloc | apply Kd.R_drewN | apply Kd.R_drew)); exact HO120.out) : p := h
theorem y21_ {p : Prop} (h : p := by first | exact Kd.R_nil _ _ _ _ _ | exact Kd.N_nil _ _ _ _ _ | exact Kd.V_nil _ _ _ _ _ | exact Kd.Q_nil _ _ _ _ _ | exact Kd.S_nil _ _ _ _ _) : p := h
theorem y22_ {p : Prop} (h : p := by (with_reducible repeat (first | apply Kd.R_alloc | apply Kd.R_drewN | apply Kd.R_drew)); exact HO112.out) : p := h
theorem y23_ {p : Prop} (h : p := by (with_reducible repeat (first | apply Kd.R_alloc | apply Kd.R_drewN | apply Kd.R_drew)); exact HO_3.out) : p := h
theorem y24_ {p : Prop} (h : p := by have := HK1.out; first | omega | exact Nat.le_refl _) : p := h
theorem y25_ {p : Prop} (h : p := by have := HK1.out; omega) : p := h
theorem y26_ {p : Prop} (h : p := by rw [HRT_.out]; simp) : p := h
theorem y27_ {p : Prop} (h : p := by first | rfl | (simp; done) | (simp only [← hji9] <;> (first | rfl | simp)) | (simp [*]; done)) : p := h
def cmp_isNaN_uint8.f (a0 : Int) : Option (Bool) := some (a0 != a0)
theorem cmp_isNaN_uint8.calls (a0 : Int) (r : Bool) (w : World) (h : cmp_isNaN_uint8.f a0 = some r) :
    Calls Tryd.prog 81 #[.int .u8 a0] w fun e w' => e = .returned (.bool r) ∧ Drawn0 w w' := by
  have H : (some (a0 != a0)) = some r := h
  clear h
  obtain rfl := Option.some.inj H
  go_enter Tryd.func81, Tryd.ntmps81
  go_wp2
  go_ret
  exact ⟨y7_, y10_⟩
def cmp_Compare_uint8.f (a0 : Int) (a1 : Int) : Option (Int) := (cmp_isNaN_uint8.f a0).bind fun t101 => ((cmp_isNaN_uint8.f a1).bind fun t102 => (if t101 = true then (if t102 = true then (some 0) else (some (-1))) else (if t102 = true then (some 1) else (if a0 < a1 then (some (-1)) else (if a0 > a1 then (some 1) else (some 0))))))
theorem cmp_Compare_uint8.calls (a0 : Int) (a1 : Int) (r : Int) (w : World) (h : cmp_Compare_uint8.f a0 a1 = some r) :
    Calls Tryd.prog 58 #[.int .u8 a0, .int .u8 a1] w fun e w' => e = .returned (.int .i64 r) ∧ Drawn0 w w' := by
  have H : ((cmp_isNaN_uint8.f a0).bind fun t101 => ((cmp_isNaN_uint8.f a1).bind fun t102 => (if t101 = true then (if t102 = true then (some 0) else (some (-1))) else (if t102 = true then (some 1) else (if a0 < a1 then (some (-1)) else (if a0 > a1 then (some 1) else (some 0))))))) = some r := h
  clear h
  replace H := Option.bind_eq_some_iff.mp H
  obtain ⟨t101, A30, H⟩ := H
  replace H : ((cmp_isNaN_uint8.f a1).bind fun t102 => (if t101 = true then (if t102 = true then (some 0) else (some (-1))) else (if t102 = true then (some 1) else (if a0 < a1 then (some (-1)) else (if a0 > a1 then (some 1) else (some 0)))))) = some r := H
  have A3 := Aside0.mk A30
  clear A30
  replace H := Option.bind_eq_some_iff.mp H
  obtain ⟨t102, A40, H⟩ := H
  replace H : (if t101 = true then (if t102 = true then (some 0) else (some (-1))) else (if t102 = true then (some 1) else (if a0 < a1 then (some (-1)) else (if a0 > a1 then (some 1) else (some 0))))) = some r := H
  have A4 := Aside0.mk A40
  clear A40
  by_cases c5 : t101 = true
  · subst c5
    have H1 : (if t102 = true then (some 0) else (some (-1))) = some r := by rw [if_pos rfl] at H; exact H
    clear H
    have H := H1
    clear H1
    by_cases c6 : t102 = true
    · subst c6
      have H1 : (some 0) = some r := by rw [if_pos rfl] at H; exact H
      clear H
      have H := H1
      clear H1
      obtain rfl := Option.some.inj H
      go_enter Tryd.func58, Tryd.ntmps58
      go_wp2_with (first | ((with_reducible refine gate_callee (f := 81) rfl ?_); refine goesL_ (some 8) rfl rfl Tryd.func81 (by kernel_rfl) rfl #[.int .u8 a0] rfl y2_ ?_; (with_reducible refine (cmp_isNaN_uint8.calls a0 true _ A3.out).mono ?_); rintro e w' ⟨rfl, ⟨nd, rfl⟩⟩; refine ⟨_, rfl, ?_⟩) | ((with_reducible refine gate_callee (f := 81) rfl ?_); refine goesL_ (some 10) rfl rfl Tryd.func81 (by kernel_rfl) rfl #[.int .u8 a1] rfl y2_ ?_; (with_reducible refine (cmp_isNaN_uint8.calls a1 true _ A4.out).mono ?_); rintro e w' ⟨rfl, ⟨nd, rfl⟩⟩; refine ⟨_, rfl, ?_⟩))
      go_ret
      exact ⟨y7_, y10_⟩
    · replace c6 := Bool.eq_false_iff.mpr c6
      subst c6
      have H1 : (some (-1)) = some r := by rw [if_neg (show ¬ (false = true) by decide)] at H; exact H
      clear H
      have H := H1
      clear H1
      obtain rfl := Option.some.inj H
      go_enter Tryd.func58, Tryd.ntmps58
      go_wp2_with (first | ((with_reducible refine gate_callee (f := 81) rfl ?_); refine goesL_ (some 8) rfl rfl Tryd.func81 (by kernel_rfl) rfl #[.int .u8 a0] rfl y2_ ?_; (with_reducible refine (cmp_isNaN_uint8.calls a0 true _ A3.out).mono ?_); rintro e w' ⟨rfl, ⟨nd, rfl⟩⟩; refine ⟨_, rfl, ?_⟩) | ((with_reducible refine gate_callee (f := 81) rfl ?_); refine goesL_ (some 10) rfl rfl Tryd.func81 (by kernel_rfl) rfl #[.int .u8 a1] rfl y2_ ?_; (with_reducible refine (cmp_isNaN_uint8.calls a1 false _ A4.out).mono ?_); rintro e w' ⟨rfl, ⟨nd, rfl⟩⟩; refine ⟨_, rfl, ?_⟩))
      go_ret
      exact ⟨y7_, y10_⟩
  · replace c5 := Bool.eq_false_iff.mpr c5
    subst c5
    have H1 : (if t102 = true then (some 1) else (if a0 < a1 then (some (-1)) else (if a0 > a1 then (some 1) else (some 0)))) = some r := by rw [if_neg (show ¬ (false = true) by decide)] at H; exact H
    clear H
    have H := H1
    clear H1
    by_cases c7 : t102 = true
    · subst c7
      have H1 : (some 1) = some r := by rw [if_pos rfl] at H; exact H
      clear H
      have H := H1
      clear H1
      obtain rfl := Option.some.inj H
      go_enter Tryd.func58, Tryd.ntmps58
      go_wp2_with (first | ((with_reducible refine gate_callee (f := 81) rfl ?_); refine goesL_ (some 8) rfl rfl Tryd.func81 (by kernel_rfl) rfl #[.int .u8 a0] rfl y2_ ?_; (with_reducible refine (cmp_isNaN_uint8.calls a0 false _ A3.out).mono ?_); rintro e w' ⟨rfl, ⟨nd, rfl⟩⟩; refine ⟨_, rfl, ?_⟩) | ((with_reducible refine gate_callee (f := 81) rfl ?_); refine goesL_ (some 10) rfl rfl Tryd.func81 (by kernel_rfl) rfl #[.int .u8 a1] rfl y2_ ?_; (with_reducible refine (cmp_isNaN_uint8.calls a1 true _ A4.out).mono ?_); rintro e w' ⟨rfl, ⟨nd, rfl⟩⟩; refine ⟨_, rfl, ?_⟩))
      go_ret
      exact ⟨y7_, y10_⟩
    · replace c7 := Bool.eq_false_iff.mpr c7
      subst c7
      have H1 : (if a0 < a1 then (some (-1)) else (if a0 > a1 then (some 1) else (some 0))) = some r := by rw [if_neg (show ¬ (false = true) by decide)] at H; exact H
      clear H
      have H := H1
      clear H1
      by_cases c8 : a0 < a1
      · rw [if_pos c8] at H
        have c8b0 := decide_eq_true c8
        clear c8
        obtain rfl := Option.some.inj H
        go_enter Tryd.func58, Tryd.ntmps58
        go_wp2_with (first | ((with_reducible refine gate_callee (f := 81) rfl ?_); refine goesL_ (some 8) rfl rfl Tryd.func81 (by kernel_rfl) rfl #[.int .u8 a0] rfl y2_ ?_; (with_reducible refine (cmp_isNaN_uint8.calls a0 false _ A3.out).mono ?_); rintro e w' ⟨rfl, ⟨nd, rfl⟩⟩; refine ⟨_, rfl, ?_⟩) | ((with_reducible refine gate_callee (f := 81) rfl ?_); refine goesL_ (some 10) rfl rfl Tryd.func81 (by kernel_rfl) rfl #[.int .u8 a1] rfl y2_ ?_; (with_reducible refine (cmp_isNaN_uint8.calls a1 false _ A4.out).mono ?_); rintro e w' ⟨rfl, ⟨nd, rfl⟩⟩; refine ⟨_, rfl, ?_⟩))
        go_ret
        exact ⟨y7_, y10_⟩
      · rw [if_neg c8] at H
        have c8b0 := decide_eq_false c8
        clear c8
        by_cases c9 : a0 > a1
        · rw [if_pos c9] at H
          have c9b0 := decide_eq_true c9
          clear c9
          obtain rfl := Option.some.inj H
          go_enter Tryd.func58, Tryd.ntmps58
          go_wp2_with (first | ((with_reducible refine gate_callee (f := 81) rfl ?_); refine goesL_ (some 8) rfl rfl Tryd.func81 (by kernel_rfl) rfl #[.int .u8 a0] rfl y2_ ?_; (with_reducible refine (cmp_isNaN_uint8.calls a0 false _ A3.out).mono ?_); rintro e w' ⟨rfl, ⟨nd, rfl⟩⟩; refine ⟨_, rfl, ?_⟩) | ((with_reducible refine gate_callee (f := 81) rfl ?_); refine goesL_ (some 10) rfl rfl Tryd.func81 (by kernel_rfl) rfl #[.int .u8 a1] rfl y2_ ?_; (with_reducible refine (cmp_isNaN_uint8.calls a1 false _ A4.out).mono ?_); rintro e w' ⟨rfl, ⟨nd, rfl⟩⟩; refine ⟨_, rfl, ?_⟩))
          go_ret
          exact ⟨y7_, y10_⟩
        · rw [if_neg c9] at H
          have c9b0 := decide_eq_false c9
          clear c9
          obtain rfl := Option.some.inj H
          go_enter Tryd.func58, Tryd.ntmps58
          go_wp2_with (first | ((with_reducible refine gate_callee (f := 81) rfl ?_); refine goesL_ (some 8) rfl rfl Tryd.func81 (by kernel_rfl) rfl #[.int .u8 a0] rfl y2_ ?_; (with_reducible refine (cmp_isNaN_uint8.calls a0 false _ A3.out).mono ?_); rintro e w' ⟨rfl, ⟨nd, rfl⟩⟩; refine ⟨_, rfl, ?_⟩) | ((with_reducible refine gate_callee (f := 81) rfl ?_); refine goesL_ (some 10) rfl rfl Tryd.func81 (by kernel_rfl) rfl #[.int .u8 a1] rfl y2_ ?_; (with_reducible refine (cmp_isNaN_uint8.calls a1 false _ A4.out).mono ?_); rintro e w' ⟨rfl, ⟨nd, rfl⟩⟩; refine ⟨_, rfl, ?_⟩))
          go_ret
          exact ⟨y7_, y10_⟩
end Go.Proofs.YtkmkgpigmldhnaaDoor.P
namespace Go.Proofs.YtkmkgpigmldhnaaDoor.P
open Go.RowKit Go.Shelf Go.Lib Go.Sort Go.Proofs.YtkmkgpigmldhnaaDoorW.PrintWords Go.Proofs.YtkmkgpigmldhnaaDoorW.PrintLast Go.Proofs.YtkmkgpigmldhnaaDoorW.PrintMore
instance instIP : Inhabited S60 := ⟨z60⟩
def encS (x : S60) : List Value := [.int .u8 x.f0, .int .u32 x.f1, .string x.f2, .string x.f3]
theorem encS_len (x : S60) : (encS x).length = 4 := rfl
theorem encS_one (x : S60) : ∀ v ∈ encS x, v.oneCell' = true := by
 intro v hv
 simp [encS] at hv
 rcases hv with rfl | rfl | rfl | rfl <;> rfl
theorem key_flat (l : List S60) : ∀ (j : Nat), j < l.length * 4 → (l.flatMap encS)[j]? = some ((encS (l[j / 4]!))[j % 4]!) := by
 induction l with
 | nil => intro j hj; simp at hj
 | cons x r ih =>
  intro j hj
  rw [List.flatMap_cons]
  by_cases h4 : j < 4
  ·rw [List.getElem?_append_left (by rw [encS_len]; exact h4), Nat.div_eq_of_lt h4, Nat.mod_eq_of_lt h4]
   simp only [List.getElem!_cons_zero]
   rw [List.getElem?_eq_getElem (by rw [encS_len]; exact h4), getElem!_pos (encS x) j (by rw [encS_len]; exact h4)]
  ·rw [List.getElem?_append_right (by rw [encS_len]; omega), encS_len, ih (j - 4) (by simp at hj; omega)]
   have e1 : j / 4 = (j - 4) / 4 + 1 := by omega
   have e2 : j % 4 = (j - 4) % 4 := by omega
   rw [e1, e2]; simp
theorem flat_len (l : List S60) : (l.flatMap encS).length = l.length * 4 := by
 induction l with
 | nil => rfl
 | cons x r ih => rw [List.flatMap_cons, List.length_append, ih, encS_len, List.length_cons]; omega
theorem holds_of {W : World} {g : Nat} {cur : Array Value} {t : TypeId} (hb : W.heap[g]? = some (.cells cur t (0, 0))) (d : Array S60) (h : cur.toList.take (d.size * 4) = d.toList.flatMap encS) : HoldsK encS 4 W g 0 d := by
 intro j hj
 have hj' : j < d.size * 4 := by simpa using hj
 refine ⟨?_, blk_frozen hb _⟩
 rw [Nat.zero_add, blk_cell hb j]
 have h1 : (cur.toList.take (d.size * 4))[j]? = cur[j]? := by rw [List.getElem?_take_of_lt hj']; simp
 rw [← h1, h]
 show _ = some ((flatK encS 4 d)[j]!)
 rw [get_flatK _ _ _ j hj']
 have hge : d.toList[j / 4]! = d[j / 4]! := Array.getElem!_toList
 rw [key_flat d.toList j (by simpa using hj'), hge]
theorem block_of {w : World} {g : Nat} {cur : Array Value} {t : TypeId} (hb : w.heap[g]? = some (.cells cur t (0, 0))) (n : Nat) (d : Array S60) (os : Array Obj) (hd : d.size * 4 ≤ cur.size) :
  ∃ cur' : Array Value, (sortWorldK encS 4 w g 0 n d os).heap[g]? = some (.cells cur' t (0, 0)) ∧ cur'.size = cur.size ∧ cur'.toList.take (d.size * 4) = d.toList.flatMap encS := by
 have hlt := blk_lt hb
 refine ⟨putCells id 0 (flatK encS 4 d) cur, ?_, by simp [putCells], ?_⟩
 ·show ((Sort.ahead w n).heap.modify g (onCells (putCells id 0 (flatK encS 4 d))) ++ os)[g]? = _
  rw [Array.getElem?_append_left (by simpa using hlt), Array.getElem?_modify, if_pos rfl]
  show Option.map _ (w.heap[g]?) = _
  rw [hb]; rfl
 ·apply List.ext_getElem?
  intro j
  by_cases hj : j < d.size * 4
  ·have hge : d.toList[j / 4]! = d[j / 4]! := Array.getElem!_toList
   rw [List.getElem?_take_of_lt hj, key_flat d.toList j (by simpa using hj), hge]
   have hc : j < cur.size := by omega
   simp only [Array.getElem?_toList, putCells, Array.getElem?_mapIdx, Array.getElem?_eq_getElem hc, Option.map_some]
   rw [if_pos ⟨Nat.zero_le _, by simpa using hj⟩, Nat.sub_zero, id, get_flatK _ _ _ j hj]
  ·rw [List.getElem?_eq_none (by rw [List.length_take]; omega), List.getElem?_eq_none (by rw [flat_len]; simpa using hj)]
theorem sort_grown (w : World) (g n : Nat) (d : Array S60) (os : Array Obj) : w.grownBy (sortWorldK encS 4 w g 0 n d os) (some g) := by
 refine ⟨rfl, rfl, rfl, size_sortWorldK_c encS 4 w g 0 n d os, fun k hk hne => ?_⟩
 show ((Sort.ahead w n).heap.modify g (onCells (putCells id 0 (flatK encS 4 d))) ++ os)[k]? = _
 rw [Array.getElem?_append_left (by simpa using hk), Array.getElem?_modify, if_neg (fun e => hne (by rw [e]))]
 rfl
theorem own_open {W : World} {base : Nat} {ok : Nat → Prop} {v : Value} {xs : List S60} (h : Kd.R k60 60 W base ok v xs) (hp : 0 < xs.length) :
  ∃ g cap cur, v = .slice (some ⟨g, 0, none⟩) xs.length cap ∧ base ≤ g ∧ ok g ∧ W.heap[g]? = some (.cells cur 60 (0, 0)) ∧ xs.length ≤ cap ∧ cap ≤ maxLen ∧ cur.size = cap * 4 ∧ cur.toList.take (xs.length * 4) = xs.flatMap encS := by
 obtain ⟨h0, inner, ⟨hl, ho⟩, hr⟩ := h
 rcases ho with ⟨rfl, he⟩ | ⟨g, cap, cur, rfl, hb, hh, h1, h2, h3, h4⟩
 ·omega
 ·refine ⟨g, cap, cur, rfl, hb, h0 g (by simp [Value.ownBlock]), hh, h1, h2, h3, h4.trans ?_⟩
  apply List.ext_getElem?
  intro j
  by_cases hj : j < xs.length * 4
  ·rw [key_flat xs j hj]
   have hx : j / 4 < xs.length := by omega
   have h5 := k60_openM (hr.2 (j / 4) _ (List.getElem?_eq_getElem hx))
   have h6 : inner[j]? = ((inner.drop (j / 4 * 4)).take 4)[j % 4]? := by
    rw [List.getElem?_take_of_lt (by omega), List.getElem?_drop]; congr 1; omega
   rw [h6]
   show ((inner.drop (j / 4 * k60.sz)).take k60.sz)[j % 4]? = _
   rw [h5, getElem!_pos xs (j / 4) hx]
   show (encS xs[j / 4])[j % 4]? = _
   rw [List.getElem?_eq_getElem (by rw [encS_len]; omega), getElem!_pos (encS xs[j / 4]) (j % 4) (by rw [encS_len]; omega)]
  ·rw [List.getElem?_eq_none (by rw [hl]; show _ ≤ _; have : k60.sz = 4 := rfl; rw [this]; omega), List.getElem?_eq_none (by rw [flat_len]; omega)]
theorem own_shut {W : World} {base : Nat} {ok : Nat → Prop} {g cap : Nat} {cur : Array Value} {ys : List S60} (hb : base ≤ g) (hok : ok g) (hh : W.heap[g]? = some (.cells cur 60 (0, 0))) (h1 : ys.length ≤ cap) (h2 : cap ≤ maxLen) (h3 : cur.size = cap * 4) (h4 : cur.toList.take (ys.length * 4) = ys.flatMap encS) :
  Kd.R k60 60 W base ok (.slice (some ⟨g, 0, none⟩) ys.length cap) ys := by
 refine ⟨fun k hk => ?_, ys.flatMap encS, ⟨flat_len ys, .inr ⟨g, cap, cur, rfl, hb, hh, h1, h2, h3, h4⟩⟩, flat_len ys, fun j p hp => ?_⟩
 ·have : g = k := by simpa [Value.ownBlock] using hk
  rw [← this]; exact hok
 ·have hj : j < ys.length := (List.getElem?_eq_some_iff.1 hp).1
  have e : ((ys.flatMap encS).drop (j * 4)).take 4 = encS p := by
   apply List.ext_getElem?
   intro i
   by_cases hi : i < 4
   ·rw [List.getElem?_take_of_lt hi, List.getElem?_drop, key_flat ys (j * 4 + i) (by omega)]
    have e1 : (j * 4 + i) / 4 = j := by omega
    have e2 : (j * 4 + i) % 4 = i := by omega
    rw [e1, e2, getElem!_pos ys j hj, (List.getElem?_eq_some_iff.1 hp).2, List.getElem?_eq_getElem (by rw [encS_len]; exact hi), getElem!_pos (encS p) i (by rw [encS_len]; exact hi)]
   ·rw [List.getElem?_eq_none (by rw [List.length_take]; omega), List.getElem?_eq_none (by rw [encS_len]; omega)]
  show k60.M W base _ p (((ys.flatMap encS).drop (j * 4)).take 4)
  rw [e]
  exact k60_mkM W base _ p
end Go.Proofs.YtkmkgpigmldhnaaDoor.P
namespace Go.Proofs.YtkmkgpigmldhnaaDoor.Srt
open Go.Sort
variable {α : Type} {key : α → Int}
theorem split4 (l : List α) {a m b : Nat} (ham : a ≤ m) (hmb : m ≤ b) : l = l.take a ++ ((l.drop a).take (m - a) ++ ((l.drop m).take (b - m) ++ l.drop b)) := by
 have h1 : l.drop m = (l.drop a).drop (m - a) := by rw [List.drop_drop]; congr 1; omega
 have h2 : l.drop b = (l.drop m).drop (b - m) := by rw [List.drop_drop]; congr 1; omega
 rw [h2, List.take_append_drop, h1, List.take_append_drop, List.take_append_drop]
theorem stb_swap2 {u v : List α} (h : ∀ x ∈ u, ∀ y ∈ v, key y < key x) : Stb key (u ++ v) (v ++ u) := ⟨by simp; omega, fun k => by
 rw [List.filter_append, List.filter_append]
 by_cases hu : u.filter (fun x => decide (key x = k)) = []
 ·rw [hu]; simp
 ·have hv : v.filter (fun x => decide (key x = k)) = [] := by
   rw [List.filter_eq_nil_iff]
   intro y hy e
   obtain ⟨x, hx⟩ := List.exists_mem_of_ne_nil _ hu
   rw [List.mem_filter] at hx
   have := h x hx.1 y hy
   simp at hx e
   omega
  rw [hv]; simp⟩
theorem mul_lt_le {c c' x : Nat} (h : c' < c) : c' * x + x ≤ c * x := by
 have := Nat.mul_le_mul_right x (show c' + 1 ≤ c from h)
 rwa [Nat.add_mul, Nat.one_mul] at this
theorem half_at {bs c : Nat} : 2 * c * bs = c * (2 * bs) := by rw [Nat.mul_comm 2 c, Nat.mul_assoc]
variable [Inhabited α]
def Swr (d r : Array α) (a b n : Nat) : Prop := r.size = d.size ∧ ∀ k, r[k]! = if a ≤ k ∧ k < a + n then d[b + (k - a)]! else if b ≤ k ∧ k < b + n then d[a + (k - b)]! else d[k]!
def Rot (d r : Array α) (a m b : Nat) : Prop := r.size = d.size ∧ ∀ k, r[k]! = if a ≤ k ∧ k < a + (b - m) then d[m + (k - a)]! else if a + (b - m) ≤ k ∧ k < b then d[a + (k - (a + (b - m)))]! else d[k]!
theorem Swr.zero (d : Array α) (a b : Nat) : Swr d d a b 0 := ⟨rfl, fun k => by rw [if_neg (by omega), if_neg (by omega)]⟩
theorem idx_eq {d : Array α} {i j : Nat} (h : i = j) : d[i]! = d[j]! := by rw [h]
theorem Swr.step {d r : Array α} {a b n : Nat} (h : Swr d r a b n) (hab : a + n < b) (hb : b + n < d.size) : Swr d (swp r (a + n) (b + n)) a b (n + 1) := by
 refine ⟨by rw [swp_size]; exact h.1, fun k => ?_⟩
 rw [swp_get r (a + n) (b + n) k (by rw [h.1]; omega) (by rw [h.1]; omega), h.2, h.2, h.2]
 by_cases h1 : k = b + n
 ·subst h1
  rw [if_pos rfl, if_neg (by omega), if_neg (by omega), if_neg (by omega), if_pos (by omega)]
  exact idx_eq (by omega)
 ·rw [if_neg h1]
  by_cases h2 : k = a + n
  ·subst h2
   rw [if_pos rfl, if_neg (by omega), if_neg (by omega), if_pos (by omega)]
   exact idx_eq (by omega)
  ·rw [if_neg h2]
   by_cases h3 : a ≤ k ∧ k < a + n
   ·rw [if_pos h3, if_pos (by omega)]
   ·rw [if_neg h3, if_neg (show ¬ (a ≤ k ∧ k < a + (n + 1)) by omega)]
    by_cases h4 : b ≤ k ∧ k < b + n
    ·rw [if_pos h4, if_pos (by omega)]
    ·rw [if_neg h4, if_neg (by omega)]
theorem Rot.last {d r : Array α} {m i : Nat} (h : Swr d r (m - i) m i) (hi : i ≤ m) : Rot d r (m - i) m (m + i) := by
 refine ⟨h.1, fun k => ?_⟩
 rw [h.2]
 by_cases h1 : m - i ≤ k ∧ k < m - i + i
 ·rw [if_pos h1, if_pos (by omega)]
 ·by_cases h2 : m ≤ k ∧ k < m + i
  ·rw [if_neg h1, if_pos h2, if_neg (by omega), if_pos (by omega)]; exact idx_eq (by omega)
  ·rw [if_neg h1, if_neg h2, if_neg (by omega), if_neg (by omega)]
theorem Rot.left {d d' r : Array α} {m i j : Nat} (h : Swr d d' (m - i) m j) (hi : i ≤ m) (hj : j < i) (h2 : Rot d' r (m - (i - j)) m (m + j)) : Rot d r (m - i) m (m + j) := by
 refine ⟨h2.1.trans h.1, fun k => ?_⟩
 rw [h2.2]
 by_cases h1 : m - i ≤ k ∧ k < m - i + (m + j - m)
 ·rw [if_pos h1, if_neg (by omega), if_neg (by omega), h.2, if_pos (by omega)]
 ·rw [if_neg h1]
  by_cases h3 : m - (i - j) ≤ k ∧ k < m - (i - j) + (m + j - m)
  ·rw [if_pos h3, h.2, if_neg (by omega), if_pos (by omega), if_pos (by omega)]; exact idx_eq (by omega)
  ·rw [if_neg h3]
   by_cases h4 : m - (i - j) + (m + j - m) ≤ k ∧ k < m + j
   ·rw [if_pos h4, h.2, if_neg (by omega), if_neg (by omega), if_pos (by omega)]; exact idx_eq (by omega)
   ·rw [if_neg h4, h.2, if_neg (by omega), if_neg (by omega), if_neg (by omega)]
theorem Rot.right {d d' r : Array α} {m i j : Nat} (h : Swr d d' (m - i) (m + j - i) i) (hi : i ≤ m) (hj : i < j) (h2 : Rot d' r (m - i) m (m + (j - i))) : Rot d r (m - i) m (m + j) := by
 refine ⟨h2.1.trans h.1, fun k => ?_⟩
 rw [h2.2]
 by_cases h1 : m - i ≤ k ∧ k < m - i + (m + j - m)
 ·rw [if_pos h1]
  by_cases h3 : m - i ≤ k ∧ k < m - i + (m + (j - i) - m)
  ·rw [if_pos h3, h.2, if_neg (by omega)]
   by_cases h5 : m + j - i ≤ m + (k - (m - i)) ∧ m + (k - (m - i)) < m + j - i + i
   ·omega
   ·rw [if_neg h5]
  ·rw [if_neg h3]
   by_cases h4 : m - i + (m + (j - i) - m) ≤ k ∧ k < m + (j - i)
   ·rw [if_pos h4, h.2, if_pos (by omega)]; exact idx_eq (by omega)
   ·omega
 ·rw [if_neg h1, if_neg (by omega)]
  by_cases h4 : m - i + (m + (j - i) - m) ≤ k ∧ k < m + (j - i)
  ·omega
  ·rw [if_neg h4, h.2, if_neg (by omega)]
   by_cases h5 : m + j - i ≤ k ∧ k < m + j - i + i
   ·rw [if_pos h5, if_pos (by omega)]; exact idx_eq (by omega)
   ·rw [if_neg h5, if_neg (by omega)]
theorem Rot.none {d : Array α} {a m b : Nat} (h : a ≤ m) (h2 : m ≤ b) (h3 : a = m ∨ m = b) : Rot d d a m b := by
 refine ⟨rfl, fun k => ?_⟩
 by_cases h1 : a ≤ k ∧ k < a + (b - m)
 ·rw [if_pos h1]; exact idx_eq (by omega)
 ·rw [if_neg h1]
  by_cases h4 : a + (b - m) ≤ k ∧ k < b
  ·rw [if_pos h4]; exact idx_eq (by omega)
  ·rw [if_neg h4]
theorem Rot.up {d r : Array α} {a k : Nat} (h : Rot d r a (a + 1) (k + 1)) (ha : a ≤ k) (hk : k + 1 < d.size) : Rot d (swp r k (k + 1)) a (a + 1) (k + 2) := by
 refine ⟨by rw [swp_size]; exact h.1, fun p => ?_⟩
 rw [swp_get r k (k + 1) p (by rw [h.1]; omega) (by rw [h.1]; omega), h.2, h.2, h.2]
 by_cases h1 : p = k + 1
 ·subst h1
  rw [if_pos rfl, if_neg (by omega), if_pos (by omega), if_neg (by omega), if_pos (by omega)]; exact idx_eq (by omega)
 ·rw [if_neg h1]
  by_cases h2 : p = k
  ·subst h2
   rw [if_pos rfl, if_neg (by omega), if_neg (by omega), if_pos (by omega)]; exact idx_eq (by omega)
  ·rw [if_neg h2]
   by_cases h3 : a ≤ p ∧ p < a + (k + 1 - (a + 1))
   ·rw [if_pos h3, if_pos (by omega)]
   ·rw [if_neg h3, if_neg (by omega), if_neg (by omega), if_neg (by omega)]
theorem Rot.down {d r : Array α} {k m : Nat} (h : Rot d r (k + 1) m (m + 1)) (hk : k < m) (hm : m < d.size) : Rot d (swp r (k + 1) k) k m (m + 1) := by
 refine ⟨by rw [swp_size]; exact h.1, fun p => ?_⟩
 rw [swp_get r (k + 1) k p (by rw [h.1]; omega) (by rw [h.1]; omega), h.2, h.2, h.2]
 by_cases h1 : p = k
 ·subst h1
  rw [if_pos rfl, if_pos (by omega), if_pos (by omega)]; exact idx_eq (by omega)
 ·rw [if_neg h1]
  by_cases h2 : p = k + 1
  ·subst h2
   rw [if_pos rfl, if_neg (by omega), if_neg (by omega), if_neg (by omega), if_pos (by omega)]; exact idx_eq (by omega)
  ·rw [if_neg h2, if_neg (by omega), if_neg (show ¬ (k ≤ p ∧ p < k + (m + 1 - m)) by omega)]
   by_cases h3 : k + 1 + (m + 1 - m) ≤ p ∧ p < m + 1
   ·rw [if_pos h3, if_pos (by omega)]; exact idx_eq (by omega)
   ·rw [if_neg h3, if_neg (by omega)]
theorem Rot.at1 {d r : Array α} {a m b : Nat} (h : Rot d r a m b) {k : Nat} (h1 : a ≤ k) (h2 : k < a + (b - m)) : r[k]! = d[m + (k - a)]! := by rw [h.2, if_pos ⟨h1, h2⟩]
theorem Rot.at2 {d r : Array α} {a m b : Nat} (h : Rot d r a m b) {k : Nat} (h1 : a + (b - m) ≤ k) (h2 : k < b) : r[k]! = d[a + (k - (a + (b - m)))]! := by rw [h.2, if_neg (by omega), if_pos ⟨h1, h2⟩]
theorem Rot.at3 {d r : Array α} {a m b : Nat} (h : Rot d r a m b) (ham : a ≤ m) {k : Nat} (h1 : k < a ∨ b ≤ k) (hmb : m ≤ b) : r[k]! = d[k]! := by rw [h.2, if_neg (by omega), if_neg (by omega)]
theorem get_list (d : Array α) (k : Nat) (h : k < d.size) : d.toList[k]? = some d[k]! := by
 rw [getElem!_pos d k h]; simp [h]
theorem rot_list {d r : Array α} {a m b : Nat} (h : Rot d r a m b) (ham : a ≤ m) (hmb : m ≤ b) (hb : b ≤ d.size) :
  r.toList = d.toList.take a ++ ((d.toList.drop m).take (b - m) ++ ((d.toList.drop a).take (m - a) ++ d.toList.drop b)) := by
 apply List.ext_getElem?
 intro k
 have hs := h.1
 by_cases hk : k < d.size
 ·rw [get_list r k (by omega)]
  by_cases c1 : k < a
  ·rw [h.at3 ham (.inl c1) hmb, List.getElem?_append_left (by simp; omega), List.getElem?_take_of_lt c1, get_list d k hk]
  ·rw [List.getElem?_append_right (by simp; omega)]
   have e1 : k - (d.toList.take a).length = k - a := by simp; omega
   rw [e1]
   by_cases c2 : k < a + (b - m)
   ·rw [h.at1 (by omega) c2, List.getElem?_append_left (by simp; omega), List.getElem?_take_of_lt (by omega), List.getElem?_drop, get_list d _ (by omega)]
   ·rw [List.getElem?_append_right (by simp; omega)]
    have e2 : k - a - ((d.toList.drop m).take (b - m)).length = k - (a + (b - m)) := by simp; omega
    rw [e2]
    by_cases c3 : k < b
    ·rw [h.at2 (by omega) c3, List.getElem?_append_left (by simp; omega), List.getElem?_take_of_lt (by omega), List.getElem?_drop, get_list d _ (by omega)]
    ·rw [h.at3 ham (.inr (by omega)) hmb, List.getElem?_append_right (by simp; omega)]
     have e3 : k - (a + (b - m)) - ((d.toList.drop a).take (m - a)).length = k - b := by simp; omega
     rw [e3, List.getElem?_drop, get_list d _ (by omega)]
     congr 1; exact idx_eq (by omega)
 ·rw [List.getElem?_eq_none (by simp; omega), List.getElem?_eq_none (by simp; omega)]
theorem mem_get {d : Array α} {x : α} {a n : Nat} (h : x ∈ (d.toList.drop a).take n) (hn : a + n ≤ d.size) : ∃ k, a ≤ k ∧ k < a + n ∧ x = d[k]! := by
 obtain ⟨i, hi, he⟩ := List.mem_iff_getElem.1 h
 have hi2 : i < n := by simp at hi; omega
 refine ⟨a + i, by omega, by omega, ?_⟩
 have h1 : ((d.toList.drop a).take n)[i]? = some x := by rw [← he]; exact List.getElem?_eq_getElem hi
 rw [List.getElem?_take_of_lt hi2, List.getElem?_drop, get_list d _ (by omega)] at h1
 exact (Option.some.inj h1).symm
theorem rot_stb {d r : Array α} {a m b : Nat} (h : Rot d r a m b) (ham : a ≤ m) (hmb : m ≤ b) (hb : b ≤ d.size) (hk : ∀ p q, a ≤ p → p < m → m ≤ q → q < b → key d[q]! < key d[p]!) : Stb key d.toList r.toList := by
 rw [rot_list h ham hmb hb]
 conv => lhs; rw [split4 d.toList ham hmb]
 rw [← List.append_assoc (List.take (m - a) _), ← List.append_assoc (List.take (b - m) _)]
 refine (Stb.refl key _).append ((stb_swap2 fun x hx y hy => ?_).append (Stb.refl key _))
 obtain ⟨p, p1, p2, rfl⟩ := mem_get hx (by omega)
 obtain ⟨q, q1, q2, rfl⟩ := mem_get hy (by omega)
 exact hk p q p1 (by omega) q1 (by omega)
variable (key) in
structure Done (d r : Array α) (a b : Nat) : Prop where
 stb : Stb key d.toList r.toList
 srt : Srtd key r a b
 out : ∀ k, k < a ∨ b ≤ k → r[k]! = d[k]!
 mem : ∀ k, a ≤ k → k < b → ∃ j, a ≤ j ∧ j < b ∧ r[k]! = d[j]!
theorem Done.size {d r : Array α} {a b : Nat} (h : Done key d r a b) : r.size = d.size := by simpa using h.stb.1.symm
theorem Done.none {d : Array α} {a b : Nat} (h : Srtd key d a b) : Done key d d a b := ⟨Stb.refl key _, h, fun _ _ => rfl, fun k h1 h2 => ⟨k, h1, h2, rfl⟩⟩
theorem Rot.mem {d r : Array α} {s m e a b : Nat} (h : Rot d r s m e) (hs : s ≤ m) (he : m ≤ e) (ha : a ≤ s) (hb : e ≤ b) : ∀ k, a ≤ k → k < b → ∃ j, a ≤ j ∧ j < b ∧ r[k]! = d[j]! := by
 intro k h1 h2
 by_cases c1 : k < s ∨ e ≤ k
 ·exact ⟨k, h1, h2, h.at3 hs c1 he⟩
 ·by_cases c2 : k < s + (e - m)
  ·exact ⟨m + (k - s), by omega, by omega, h.at1 (by omega) c2⟩
  ·exact ⟨s + (k - (s + (e - m))), by omega, by omega, h.at2 (by omega) (by omega)⟩
theorem one_left {d r : Array α} {a b i : Nat} (hs : Srtd key d (a + 1) b) (hi : a + 1 ≤ i) (hib : i ≤ b) (hb : b ≤ d.size) (h1 : ∀ q, a + 1 ≤ q → q < i → key d[q]! < key d[a]!) (h2 : ∀ q, i ≤ q → q < b → key d[a]! ≤ key d[q]!) (h : Rot d r a (a + 1) i) : Done key d r a b := by
 refine ⟨rot_stb h (by omega) hi (by omega) (fun p q p1 p2 q1 q2 => by rw [show p = a by omega]; exact h1 q q1 q2), fun p q hp hpq hq => ?_, fun k hk => h.at3 (by omega) (by omega) hi, h.mem (by omega) hi (Nat.le_refl _) hib⟩
 by_cases c1 : q < a + (i - (a + 1))
 ·rw [h.at1 hp (by omega), h.at1 (by omega) c1]; exact hs _ _ (by omega) (by omega) (by omega)
 ·by_cases c2 : q < i
  ·rw [h.at2 (by omega) c2]
   by_cases c3 : p < a + (i - (a + 1))
   ·rw [h.at1 hp c3]
    have e : a + (q - (a + (i - (a + 1)))) = a := by omega
    rw [e]
    have := h1 (a + 1 + (p - a)) (by omega) (by omega)
    omega
   ·omega
  ·rw [h.at3 (by omega) (k := q) (by omega) hi]
   by_cases c3 : p < a + (i - (a + 1))
   ·rw [h.at1 hp c3]; exact hs _ _ (by omega) (by omega) hq
   ·by_cases c4 : p < i
    ·rw [h.at2 (by omega) c4]
     have e : a + (p - (a + (i - (a + 1)))) = a := by omega
     rw [e]; exact h2 q (by omega) hq
    ·rw [h.at3 (by omega) (k := p) (by omega) hi]; exact hs _ _ (by omega) hpq hq
theorem one_right {d r : Array α} {a m i : Nat} (hs : Srtd key d a m) (hai : a ≤ i) (him : i ≤ m) (hm : m < d.size) (h1 : ∀ q, a ≤ q → q < i → key d[q]! ≤ key d[m]!) (h2 : ∀ q, i ≤ q → q < m → key d[m]! < key d[q]!) (h : Rot d r i m (m + 1)) : Done key d r a (m + 1) := by
 refine ⟨rot_stb h him (by omega) (by omega) (fun p q p1 p2 q1 q2 => by rw [show q = m by omega]; exact h2 p p1 p2), fun p q hp hpq hq => ?_, fun k hk => h.at3 him (by omega) (by omega), h.mem him (by omega) hai (Nat.le_refl _)⟩
 by_cases c1 : q < i
 ·rw [h.at3 him (k := p) (by omega) (by omega), h.at3 him (k := q) (by omega) (by omega)]; exact hs _ _ hp hpq (by omega)
 ·by_cases c2 : q = i
  ·subst c2
   rw [h.at3 him (k := p) (by omega) (by omega), h.at1 (Nat.le_refl _) (by omega)]
   have e : m + (q - q) = m := by omega
   rw [e]; exact h1 p hp hpq
  ·rw [h.at2 (k := q) (by omega) (by omega)]
   by_cases c3 : p < i
   ·rw [h.at3 him (k := p) (by omega) (by omega)]; exact hs _ _ hp (by omega) (by omega)
   ·by_cases c4 : p = i
    ·subst c4
     rw [h.at1 (Nat.le_refl _) (by omega)]
     have e : m + (p - p) = m := by omega
     rw [e]
     have := h2 (p + (q - (p + (m + 1 - m)))) (by omega) (by omega)
     omega
    ·rw [h.at2 (k := p) (by omega) (by omega)]; exact hs _ _ (by omega) (by omega) (by omega)
variable (key) in
structure Cut (d : Array α) (a m b s e : Nat) : Prop where
 l : Srtd key d a m
 r : Srtd key d m b
 x : ∀ p q, s ≤ p → p < m → m ≤ q → q < e → key d[q]! < key d[p]!
 y : ∀ p q, a ≤ p → p < s → e ≤ q → q < b → key d[p]! ≤ key d[q]!
variable (key) in
structure CutAt (d r : Array α) (a m b s e mid : Nat) : Prop where
 h : Rot d r s m e
 c : Cut key d a m b s e
 h1 : a ≤ s
 h2 : s ≤ m
 h3 : m ≤ e
 h4 : e ≤ b
 h5 : b ≤ d.size
 h6 : mid = s + (e - m)
variable {d r : Array α} {a m b s e mid : Nat}
theorem cut_ss (z : CutAt key d r a m b s e mid) : Srtd key r a s := fun p q hp hpq hq => by
 obtain ⟨h, c, h1, h2, h3, h4, h5, h6⟩ := z
 rw [h.at3 h2 (by omega) h3, h.at3 h2 (by omega) h3]; exact c.l _ _ hp hpq (by omega)
theorem cut_sm (z : CutAt key d r a m b s e mid) : Srtd key r s mid := fun p q hp hpq hq => by
 obtain ⟨h, c, h1, h2, h3, h4, h5, h6⟩ := z
 rw [h.at1 hp (by omega), h.at1 (by omega) (by omega)]; exact c.r _ _ (by omega) (by omega) (by omega)
theorem cut_me (z : CutAt key d r a m b s e mid) : Srtd key r mid e := fun p q hp hpq hq => by
 obtain ⟨h, c, h1, h2, h3, h4, h5, h6⟩ := z
 rw [h.at2 (by omega) (by omega), h.at2 (by omega) (by omega)]; exact c.l _ _ (by omega) (by omega) (by omega)
theorem cut_eb (z : CutAt key d r a m b s e mid) : Srtd key r e b := fun p q hp hpq hq => by
 obtain ⟨h, c, h1, h2, h3, h4, h5, h6⟩ := z
 rw [h.at3 h2 (by omega) h3, h.at3 h2 (by omega) h3]; exact c.r _ _ (by omega) (by omega) (by omega)
theorem cut_lr (z : CutAt key d r a m b s e mid) : ∀ p q, a ≤ p → p < mid → mid ≤ q → q < b → key r[p]! ≤ key r[q]! := by
 obtain ⟨h, c, h1, h2, h3, h4, h5, h6⟩ := z
 intro p q p1 p2 q1 q2
 by_cases c1 : p < s
 ·rw [h.at3 h2 (k := p) (by omega) h3]
  by_cases c2 : q < e
  ·rw [h.at2 (k := q) (by omega) c2]; exact c.l _ _ p1 (by omega) (by omega)
  ·rw [h.at3 h2 (k := q) (by omega) h3]; exact c.y _ _ p1 c1 (by omega) q2
 ·rw [h.at1 (k := p) (by omega) (by omega)]
  by_cases c2 : q < e
  ·rw [h.at2 (k := q) (by omega) c2]
   have := c.x (s + (q - (s + (e - m)))) (m + (p - s)) (by omega) (by omega) (by omega) (by omega)
   omega
  ·rw [h.at3 h2 (k := q) (by omega) h3]; exact c.r _ _ (by omega) (by omega) q2
theorem cut_done (z : CutAt key d r a m b s e mid) {r1 r2 : Array α} (k1 : Done key r r1 a mid) (k2 : Done key r1 r2 mid b) : Done key d r2 a b := by
 have hx := cut_lr z
 obtain ⟨h, c, h1, h2, h3, h4, h5, h6⟩ := z
 refine ⟨((rot_stb h h2 h3 (by omega) c.x).trans k1.stb).trans k2.stb, fun p q hp hpq hq => ?_, fun k hk => ?_, fun k hk1 hk2 => ?_⟩
 ·by_cases c1 : q < mid
  ·rw [k2.out p (by omega), k2.out q (by omega)]; exact k1.srt p q hp hpq c1
  ·by_cases c2 : mid ≤ p
   ·exact k2.srt p q c2 hpq hq
   ·rw [k2.out p (by omega)]
    obtain ⟨p', p1, p2, pe⟩ := k1.mem p hp (by omega)
    obtain ⟨q', q1, q2, qe⟩ := k2.mem q (by omega) hq
    rw [pe, qe, k1.out q' (by omega)]
    exact hx p' q' p1 p2 q1 q2
 ·rw [k2.out k (by omega), k1.out k (by omega), h.at3 h2 (by omega) h3]
 ·have hm := h.mem h2 h3 h1 h4
  by_cases c1 : k < mid
  ·rw [k2.out k (by omega)]
   obtain ⟨j, j1, j2, je⟩ := k1.mem k hk1 c1
   obtain ⟨i, i1, i2, ie⟩ := hm j j1 (by omega)
   exact ⟨i, i1, i2, je.trans ie⟩
  ·obtain ⟨j, j1, j2, je⟩ := k2.mem k (by omega) hk2
   rw [k1.out j (by omega)] at je
   obtain ⟨i, i1, i2, ie⟩ := hm j (by omega) j2
   exact ⟨i, i1, i2, je.trans ie⟩
variable (key) in
def Runs (d : Array α) (bs n : Nat) : Prop := ∀ c, Srtd key d (c * bs) (min (c * bs + bs) n)
variable (key) in
def Half (d : Array α) (bs n c : Nat) : Prop := (∀ c', c' < c → Srtd key d (c' * (2 * bs)) (min (c' * (2 * bs) + 2 * bs) n)) ∧ ∀ c', 2 * c ≤ c' → Srtd key d (c' * bs) (min (c' * bs + bs) n)
theorem Runs.half {d : Array α} {bs n : Nat} (h : Runs key d bs n) : Half key d bs n 0 := ⟨fun c' hc => by omega, fun c' _ => h c'⟩
theorem srtd_same {d r : Array α} {a b : Nat} (h : Srtd key d a b) (he : ∀ k, a ≤ k → k < b → r[k]! = d[k]!) : Srtd key r a b := fun p q hp hpq hq => by rw [he p hp (by omega), he q (by omega) hq]; exact h p q hp hpq hq
theorem Half.step {d r : Array α} {bs n c : Nat} (h : Half key d bs n c) (hn : c * (2 * bs) + 2 * bs ≤ n) (hd : Done key d r (c * (2 * bs)) (c * (2 * bs) + 2 * bs)) : Half key r bs n (c + 1) := by
 refine ⟨fun c' hc => ?_, fun c' hc => ?_⟩
 ·by_cases e : c' = c
  ·subst e; rw [Nat.min_eq_left hn]; exact hd.srt
  ·have := mul_lt_le (x := 2 * bs) (show c' < c by omega)
   exact srtd_same (h.1 c' (by omega)) (fun k _ hk => hd.out k (by omega))
 ·have h1 := Nat.mul_le_mul_right bs hc
  have e : 2 * (c + 1) * bs = c * (2 * bs) + 2 * bs := by rw [Nat.mul_comm 2 (c + 1), Nat.mul_assoc, Nat.add_mul, Nat.one_mul]
  rw [e] at h1
  exact srtd_same (h.2 c' (by omega)) (fun k hk _ => hd.out k (by omega))
theorem Half.left {d : Array α} {bs n c : Nat} (h : Half key d bs n c) (hn : c * (2 * bs) + bs ≤ n) : Srtd key d (c * (2 * bs)) (c * (2 * bs) + bs) := by
 have := h.2 (2 * c) (Nat.le_refl _)
 rw [half_at, Nat.min_eq_left hn] at this
 exact this
theorem Half.right {d : Array α} {bs n c : Nat} (h : Half key d bs n c) : Srtd key d (c * (2 * bs) + bs) (min (c * (2 * bs) + 2 * bs) n) := by
 have := h.2 (2 * c + 1) (by omega)
 rw [Nat.add_mul, Nat.one_mul, half_at, Nat.add_assoc, ← Nat.two_mul] at this
 exact this
theorem Half.last {d r : Array α} {bs n c : Nat} (h : Half key d bs n c) (h1 : n < c * (2 * bs) + 2 * bs) (hd : Done key d r (c * (2 * bs)) n) : Runs key r (2 * bs) n := by
 intro c'
 by_cases c1 : c' < c
 ·have := mul_lt_le (x := 2 * bs) c1
  exact srtd_same (h.1 c' c1) (fun k _ hk => hd.out k (by omega))
 ·by_cases c2 : c' = c
  ·subst c2; rw [Nat.min_eq_right (by omega)]; exact hd.srt
  ·have := mul_lt_le (x := 2 * bs) (show c < c' by omega)
   intro p q hp hpq hq; omega
theorem Half.short {d : Array α} {bs n c : Nat} (h : Half key d bs n c) (h2 : n ≤ c * (2 * bs) + bs) : Done key d d (c * (2 * bs)) n := by
 refine Done.none ?_
 have := h.2 (2 * c) (Nat.le_refl _)
 rwa [half_at, Nat.min_eq_right h2] at this
theorem Runs.whole {d : Array α} {bs n : Nat} (h : Runs key d bs n) (hn : n ≤ bs) : Srtd key d 0 n := by
 have := h 0
 rwa [Nat.zero_mul, Nat.zero_add, Nat.min_eq_right hn] at this
theorem runs_step {d r : Array α} {bs n c : Nat} (h : ∀ c', c' < c → Srtd key d (c' * bs) (min (c' * bs + bs) n)) (hd : Done key d r (c * bs) (c * bs + bs)) : ∀ c', c' < c + 1 → Srtd key r (c' * bs) (min (c' * bs + bs) n) := by
 intro c' hc
 by_cases e : c' = c
 ·subst e; exact fun p q hp hpq hq => hd.srt p q hp hpq (by omega)
 ·have := mul_lt_le (x := bs) (show c' < c by omega)
  exact srtd_same (h c' (by omega)) (fun k _ hk => hd.out k (by omega))
theorem runs_last {d r : Array α} {bs n c : Nat} (h : ∀ c', c' < c → Srtd key d (c' * bs) (min (c' * bs + bs) n)) (hn : n < c * bs + bs) (hd : Done key d r (c * bs) n) : Runs key r bs n := by
 intro c'
 by_cases c1 : c' < c
 ·have := mul_lt_le (x := bs) c1
  exact srtd_same (h c' c1) (fun k _ hk => hd.out k (by omega))
 ·by_cases c2 : c' = c
  ·subst c2; rw [Nat.min_eq_right (by omega)]; exact hd.srt
  ·have := mul_lt_le (x := bs) (show c < c' by omega)
   intro p q hp hpq hq; omega
theorem cut_of {d : Array α} {a m b mid n p s s0 r0 : Nat} (hl : Srtd key d a m) (hr : Srtd key d m b) (hmb : m < b) (hmid : mid = (a + b) / 2) (hn : n = mid + m) (hp : p + 1 = n) (hcase : (mid < m ∧ s0 + b = n ∧ r0 = mid) ∨ (m ≤ mid ∧ s0 = a ∧ r0 = m)) (h0 : s0 ≤ s) (h1 : s ≤ r0)
  (hx : ∀ q, s0 ≤ q → q < s → key d[q]! ≤ key d[p - q]!) (hy : ∀ q, s ≤ q → q < r0 → key d[p - q]! < key d[q]!) : Cut key d a m b s (n - s) ∧ a ≤ s ∧ s ≤ m ∧ m ≤ n - s ∧ n - s ≤ b ∧ mid = s + (n - s - m) := by
 have le : ∀ {x y : Nat} {lo hi : Nat}, Srtd key d lo hi → lo ≤ x → x ≤ y → y < hi → key d[x]! ≤ key d[y]! := fun {x y lo hi} h a1 a2 a3 => by
  by_cases e : x = y
  ·rw [e]; exact Int.le_refl _
  ·exact h x y a1 (by omega) a3
 refine ⟨⟨hl, hr, fun u v u1 u2 v1 v2 => ?_, fun u v u1 u2 v1 v2 => ?_⟩, by omega, by omega, by omega, by omega, by omega⟩
 ·have hs : s < r0 := by omega
  have k1 := hy s (Nat.le_refl _) hs
  have k2 := le hl (show a ≤ s by omega) u1 u2
  have k3 := le hr v1 (show v ≤ p - s by omega) (by omega)
  omega
 ·have hs : s0 < s := by omega
  have k1 := hx (s - 1) (by omega) (by omega)
  have k2 := le hl u1 (show u ≤ s - 1 by omega) (by omega)
  have k3 := le hr (show m ≤ p - (s - 1) by omega) (show p - (s - 1) ≤ v by omega) v2
  omega
theorem cut_le {d : Array α} {a m b p s0 r0 c : Nat} (hl : Srtd key d a m) (hr : Srtd key d m b) (ha : a ≤ s0) (hm : r0 ≤ m) (hlo : ∀ q, s0 ≤ q → q < r0 → m ≤ p - q ∧ p - q < b ∧ q ≤ p) (h1 : s0 ≤ c) (h2 : c < r0) (h : ¬ key d[p - c]! < key d[c]!) : ∀ q, s0 ≤ q → q < c + 1 → key d[q]! ≤ key d[p - q]! := fun q q1 q2 => by
 by_cases e : q = c
 ·rw [e]; omega
 ·have k1 := hl q c (by omega) (by omega) (by omega)
  have a1 := hlo q q1 (by omega)
  have a2 := hlo c h1 h2
  have k2 := hr (p - c) (p - q) (by omega) (by omega) (by omega)
  omega
theorem cut_gt {d : Array α} {a m b p s0 r0 c : Nat} (hl : Srtd key d a m) (hr : Srtd key d m b) (ha : a ≤ s0) (hm : r0 ≤ m) (hlo : ∀ q, s0 ≤ q → q < r0 → m ≤ p - q ∧ p - q < b ∧ q ≤ p) (h1 : s0 ≤ c) (h2 : c < r0) (h : key d[p - c]! < key d[c]!) : ∀ q, c ≤ q → q < r0 → key d[p - q]! < key d[q]! := fun q q1 q2 => by
 by_cases e : q = c
 ·rw [e]; exact h
 ·have k1 := hl c q (by omega) (by omega) (by omega)
  have a1 := hlo q (by omega) q2
  have a2 := hlo c h1 h2
  have k2 := hr (p - q) (p - c) (by omega) (by omega) (by omega)
  omega
theorem left_none {d r : Array α} {a m b s e mid : Nat} (z : CutAt key d r a m b s e mid) (h : ¬ (a < s ∧ s < mid)) : Done key r r a mid := by
 have q1 := cut_ss z
 have q2 := cut_sm z
 obtain ⟨_, _, h1, h2, h3, h4, h5, h6⟩ := z
 refine Done.none ?_
 by_cases c : s = a
 ·subst c; exact q2
 ·have c2 : s = mid := by omega
  rw [← c2]; exact q1
theorem right_l {d r r1 : Array α} {a m b s e mid : Nat} (z : CutAt key d r a m b s e mid) (k : Done key r r1 a mid) : Srtd key r1 mid e := srtd_same (cut_me z) (fun x h1 _ => k.out x (.inr h1))
theorem right_r {d r r1 : Array α} {a m b s e mid : Nat} (z : CutAt key d r a m b s e mid) (k : Done key r r1 a mid) : Srtd key r1 e b := srtd_same (cut_eb z) (fun x h1 _ => k.out x (.inr (by have := z.h2; have := z.h3; have := z.h6; omega)))
theorem right_none {d r r1 : Array α} {a m b s e mid : Nat} (z : CutAt key d r a m b s e mid) (k : Done key r r1 a mid) (h : ¬ (mid < e ∧ e < b)) : Done key r1 r1 mid b := by
 have q1 := right_l z k
 have q2 := right_r z k
 obtain ⟨_, _, h1, h2, h3, h4, h5, h6⟩ := z
 refine Done.none ?_
 by_cases c : e = b
 ·subst c; exact q1
 ·have c2 : e = mid := by omega
  rw [← c2]; exact q2
theorem find_lt {d : Array α} {m b h : Nat} {x : Int} (hr : Srtd key d m b) (h1 : m ≤ h) (h2 : h < b) (hc : key d[h]! < x) : ∀ q, m ≤ q → q < h + 1 → key d[q]! < x := fun q q1 q2 => by
 by_cases e : q = h
 ·rw [e]; exact hc
 ·have := hr q h q1 (by omega) h2; omega
theorem find_ge {d : Array α} {m b h : Nat} {x : Int} (hr : Srtd key d m b) (h1 : m ≤ h) (hc : x ≤ key d[h]!) : ∀ q, h ≤ q → q < b → x ≤ key d[q]! := fun q q1 q2 => by
 by_cases e : q = h
 ·rw [e]; exact hc
 ·have := hr h q h1 (by omega) q2; omega
theorem find_le {d : Array α} {m b h : Nat} {x : Int} (hr : Srtd key d m b) (h1 : m ≤ h) (h2 : h < b) (hc : key d[h]! ≤ x) : ∀ q, m ≤ q → q < h + 1 → key d[q]! ≤ x := fun q q1 q2 => by
 by_cases e : q = h
 ·rw [e]; exact hc
 ·have := hr q h q1 (by omega) h2; omega
theorem find_gt {d : Array α} {m b h : Nat} {x : Int} (hr : Srtd key d m b) (h1 : m ≤ h) (hc : x < key d[h]!) : ∀ q, h ≤ q → q < b → x < key d[q]! := fun q q1 q2 => by
 by_cases e : q = h
 ·rw [e]; exact hc
 ·have := hr h q h1 (by omega) q2; omega
theorem mem_of {d r : Array α} {a b : Nat} (h : Stb key d.toList r.toList) (ho : ∀ k, k < a ∨ b ≤ k → r[k]! = d[k]!) (hab : a ≤ b) (hb : b ≤ d.size) : ∀ k, a ≤ k → k < b → ∃ j, a ≤ j ∧ j < b ∧ r[k]! = d[j]! := by
 intro k k1 k2
 have hs : r.size = d.size := by simpa using h.1.symm
 have e1 : r.toList.take a = d.toList.take a := by
  apply List.ext_getElem?
  intro i
  by_cases hi : i < a
  ·rw [List.getElem?_take_of_lt hi, List.getElem?_take_of_lt hi, get_list r i (by omega), get_list d i (by omega), ho i (.inl hi)]
  ·rw [List.getElem?_eq_none (by simp; omega), List.getElem?_eq_none (by simp; omega)]
 have e2 : r.toList.drop b = d.toList.drop b := by
  apply List.ext_getElem?
  intro i
  rw [List.getElem?_drop, List.getElem?_drop]
  by_cases hi : b + i < d.size
  ·rw [get_list r _ (by omega), get_list d _ hi, ho (b + i) (.inr (by omega))]
  ·rw [List.getElem?_eq_none (by simp; omega), List.getElem?_eq_none (by simp; omega)]
 have hf := h.2 (key r[k]!)
 rw [split4 d.toList (a := a) (m := a) (b := b) (Nat.le_refl _) hab, split4 r.toList (a := a) (m := a) (b := b) (Nat.le_refl _) hab, e1, e2] at hf
 simp only [List.filter_append, Nat.sub_self, List.take_zero, List.filter_nil, List.nil_append] at hf
 have hf2 := List.append_cancel_right (List.append_cancel_left hf)
 have hx : r[k]! ∈ (r.toList.drop a).take (b - a) := by
  refine List.mem_of_getElem? (i := k - a) ?_
  rw [List.getElem?_take_of_lt (by omega), List.getElem?_drop, get_list r _ (by omega)]
  congr 1; exact idx_eq (by omega)
 have hx2 : r[k]! ∈ ((r.toList.drop a).take (b - a)).filter (fun x => decide (key x = key r[k]!)) := List.mem_filter.2 ⟨hx, by simp⟩
 rw [← hf2] at hx2
 obtain ⟨j, j1, j2, je⟩ := mem_get (List.mem_filter.1 hx2).1 (by omega)
 exact ⟨j, j1, by omega, je⟩
theorem insertion_done (d : Array α) (a b : Nat) (hab : a ≤ b) (hb : b ≤ d.size) : Done key d (insertionSort (fun x y => decide (key x < key y)) d a b) a b := by
 obtain ⟨h1, h2, h3⟩ := insertion_ok (key := key) d a b hab hb
 exact ⟨h1, h2, h3, mem_of h1 h3 hab hb⟩
end Go.Proofs.YtkmkgpigmldhnaaDoor.Srt
namespace Go.Proofs.YtkmkgpigmldhnaaDoor.P
open Go.RowKit Go.Shelf Go.Lib Go.Sort Go.Proofs.YtkmkgpigmldhnaaDoorW.PrintWords Go.Proofs.YtkmkgpigmldhnaaDoorW.PrintLast Go.Proofs.YtkmkgpigmldhnaaDoorW.PrintMore
open Go.Proofs.YtkmkgpigmldhnaaDoor.Srt (Swr Rot Done Cut CutAt Srtd Runs Half)
section
variable {α : Type} [Inhabited α]
set_option maxRecDepth 1000000 in
theorem swapRange_calls (k : Nat) (aE : ∀ w, (isAgg 60).run Tryd.prog w = .ok true w) (zE : ∀ w, (Go.sizeOf 60).run Tryd.prog w = .ok k w) (enc : α → List Value) (g : Nat) (cb : Array Value) (blk off cap : Nat) (a b n : Nat) (d0 d : Array α) (w0 w : World) (R : RowK enc k w0 blk off d0) (hs : d0.size = d.size) (S : SWK enc k w0 blk off d w) (hab : a + n ≤ b) (hb : b + n ≤ d.size) (hsz : d.size < 4611686018427387904) :
  Calls Tryd.prog 111 #[.slice (some ⟨blk, off, none⟩) d.size cap, .int .i64 a, .int .i64 b, .int .i64 n, .func (.func g) #[] cb] w fun e w' => e = .returned (.tuple #[]) ∧ ∃ r, Swr d r a b n ∧ SWK enc k w0 blk off r w' := by
 have mixed : Tryd.prog.follows .mixedOrders = true := by kernel_rfl
 have S0 : Aside (SWK enc k w0 blk off d w) := S
 clear S
 go_enter Tryd.func111, Tryd.ntmps111
 go_wp2
 go_loopg [10] n (fun kx s10 wr => ∃ (i : Nat) (dk : Array α), s10 = .int .i64 i ∧ i + kx = n ∧ dk.size = d.size ∧ Aside (SWK enc k w0 blk off dk wr) ∧ Aside (Swr d dk a b i))
 case atStart => exact ⟨0, d, rfl, by omega, rfl, S0, Swr.zero d a b⟩
 case round =>
  clear S0
  obtain ⟨i, dk, rfl, hik, hds, S1, HR⟩ := hrel
  cases gk with
  | zero =>
   obtain rfl : i = n := by omega
   go_wp2
   go_end0
   exact ⟨rfl, dk, HR.out, S1.out⟩
  | succ gk =>
   have hlt : (i : Int) < (n : Int) := by omega
   go_wp2_with fail
   have ea1 : ((a : Int) + (i : Int)).toNat = a + i := by omega
   have pa1 : (0 : Int) ≤ (a : Int) + (i : Int) := by omega
   have ba1 : (a : Int) + (i : Int) < (d.size : Int) := by omega
   have ra1 : IntKind.i64.wrap ((a : Int) + (i : Int)) = (a : Int) + (i : Int) := by rw [IntKind.wrap_i64]; omega
   have ec1 : ((b : Int) + (i : Int)).toNat = b + i := by omega
   have pc1 : (0 : Int) ≤ (b : Int) + (i : Int) := by omega
   have bc1 : (b : Int) + (i : Int) < (d.size : Int) := by omega
   have rc1 : IntKind.i64.wrap ((b : Int) + (i : Int)) = (b : Int) + (i : Int) := by rw [IntKind.wrap_i64]; omega
   have S2 : Aside (SWK enc k w0 blk off (swp dk (a + i) (b + i)) ((wr.drew.setCells blk (off + (a + i) * k) (enc dk[b + i]!)).setCells blk (off + (b + i) * k) (enc dk[a + i]!))) := S1.out.swapped R (a + i) (b + i) (by omega) (by omega)
   have l1a := S1.out.ld1 R (by omega) Tryd.prog (a + i) (by omega)
   have l1b := S1.out.ld1 R (by omega) Tryd.prog (b + i) (by omega)
   have s1a := S1.out.st1 R (by omega) Tryd.prog (a + i) (by omega) dk[b + i]!
   have s1b := S1.out.st2 R (by omega) Tryd.prog (a + i) (b + i) (by omega) (by omega) dk[b + i]! dk[a + i]!
   have n1a : (enc dk[a + i]!).length = k := R.hk _
   have n1b : (enc dk[b + i]!).length = k := R.hk _
   generalize enc dk[a + i]! = cI1 at S2 l1a s1b n1a
   generalize enc dk[b + i]! = cJ1 at S2 l1b s1a s1b n1b
   clear S1
   go_wp2_with fail
   go_big_region_o
   clear l1a l1b s1a s1b
   generalize (wr.drew.setCells blk (off + (a + i) * k) cJ1).setCells blk (off + (b + i) * k) cI1 = w2 at S2 ⊢
   go_wp2
   go_roundg gk
   case measure => omega
   case rel => exact ⟨i + 1, swp dk (a + i) (b + i), by go_num, by omega, by rw [Srt.swp_size]; exact hds, S2, HR.out.step (by omega) (by omega)⟩
set_option maxRecDepth 1000000 in
theorem rotate_calls (k : Nat) (aE : ∀ w, (isAgg 60).run Tryd.prog w = .ok true w) (zE : ∀ w, (Go.sizeOf 60).run Tryd.prog w = .ok k w) (enc : α → List Value) (g : Nat) (cb : Array Value) (blk off cap : Nat) (a m b : Nat) (d0 d : Array α) (w0 w : World) (R : RowK enc k w0 blk off d0) (hs : d0.size = d.size) (S : SWK enc k w0 blk off d w) (ham : a < m) (hmb : m < b) (hb : b ≤ d.size) (hsz : d.size < 4611686018427387904) :
  Calls Tryd.prog 106 #[.slice (some ⟨blk, off, none⟩) d.size cap, .int .i64 a, .int .i64 m, .int .i64 b, .func (.func g) #[] cb] w fun e w' => e = .returned (.tuple #[]) ∧ ∃ r, Rot d r a m b ∧ SWK enc k w0 blk off r w' := by
 have mixed : Tryd.prog.follows .mixedOrders = true := by kernel_rfl
 have S0 : Aside (SWK enc k w0 blk off d w) := S
 clear S
 have e1 : (m : Int) - (a : Int) = ((m - a : Nat) : Int) := by omega
 have e2 : (b : Int) - (m : Int) = ((b - m : Nat) : Int) := by omega
 have h0 : Aside (∀ r, Rot d r (m - (m - a)) m (m + (b - m)) → Rot d r a m b) := fun r h => by
  rwa [show m - (m - a) = a by omega, show m + (b - m) = b by omega] at h
 go_enter Tryd.func106, Tryd.ntmps106
 go_wp2
 go_loopg [10, 11] (b - a) (fun kx s10 s11 wr => ∃ (i j : Nat) (dk : Array α), s10 = .int .i64 i ∧ s11 = .int .i64 j ∧ i + j = kx ∧ 0 < i ∧ 0 < j ∧ i ≤ m ∧ m + j ≤ d.size ∧ dk.size = d.size ∧ Aside (SWK enc k w0 blk off dk wr) ∧ Aside (∀ r, Rot dk r (m - i) m (m + j) → Rot d r a m b))
 case atStart => exact ⟨m - a, b - m, d, by first | rfl | rw [e1], by first | rfl | rw [e2], by omega, by omega, by omega, by omega, by omega, rfl, S0, h0⟩
 case round =>
  clear S0 h0
  obtain ⟨i, j, dk, rfl, rfl, hij, hi, hj, him, hjm, hds, S1, HR⟩ := hrel
  have q1 : (m : Int) - (i : Int) = ((m - i : Nat) : Int) := by omega
  by_cases h1 : i = j
  ·subst h1
   have hcall := swapRange_calls k aE zE enc g cb blk off cap (m - i) m i d0 dk w0 wr R (by omega) S1.out (by omega) (by omega) (by omega)
   rw [hds] at hcall
   go_wp2_with (go_at_call 111; (try rw [q1]); refine hcall.mono ?_; rintro e w1 ⟨rfl, r, hr, S2⟩)
   go_end0
   exact ⟨rfl, r, HR.out r (Rot.last hr him), S2⟩
  ·by_cases h2 : j < i
   ·have b1 : ((i : Int) != (j : Int)) = true := bne_iff_ne.2 (by omega)
    have b2 : decide ((i : Int) > (j : Int)) = true := decide_eq_true (by omega)
    have b3 : (j : Int) < (i : Int) := by omega
    have hcall := swapRange_calls k aE zE enc g cb blk off cap (m - i) m j d0 dk w0 wr R (by omega) S1.out (by omega) (by omega) (by omega)
    rw [hds] at hcall
    have q2 : (i : Int) - (j : Int) = ((i - j : Nat) : Int) := by omega
    go_wp2_with (go_at_call 111; (try rw [q1]); refine hcall.mono ?_; rintro e w1 ⟨rfl, r, hr, S2⟩; have S3 : Aside (SWK enc k w0 blk off r w1) := S2; clear S2)
    go_roundg i
    case measure => omega
    case rel => exact ⟨i - j, j, r, by first | rfl | rw [q2], rfl, by omega, by omega, hj, by omega, hjm, hr.1.trans hds, S3, fun r' h' => HR.out r' (Rot.left hr him h2 h')⟩
   ·have b1 : ((i : Int) != (j : Int)) = true := bne_iff_ne.2 (by omega)
    have b2 : decide ((i : Int) > (j : Int)) = false := decide_eq_false (by omega)
    have b3 : ¬ (j : Int) < (i : Int) := by omega
    have q2 : (j : Int) - (i : Int) = ((j - i : Nat) : Int) := by omega
    have q3 : (m : Int) + (j : Int) - (i : Int) = ((m + j - i : Nat) : Int) := by omega
    have hcall := swapRange_calls k aE zE enc g cb blk off cap (m - i) (m + j - i) i d0 dk w0 wr R (by omega) S1.out (by omega) (by omega) (by omega)
    rw [hds] at hcall
    go_wp2_with (go_at_call 111; (try rw [q1]); (try rw [q3]); refine hcall.mono ?_; rintro e w1 ⟨rfl, r, hr, S2⟩; have S3 : Aside (SWK enc k w0 blk off r w1) := S2; clear S2)
    go_roundg j
    case measure => omega
    case rel => exact ⟨i, j - i, r, rfl, by first | rfl | rw [q2], by omega, hi, by omega, him, by omega, hr.1.trans hds, S3, fun r' h' => HR.out r' (Rot.right hr him (by omega) h')⟩
set_option pp.deepTerms true in
set_option pp.maxSteps 100000 in
set_option maxHeartbeats 16000000 in
set_option maxRecDepth 1000000 in
theorem symMerge_calls (k : Nat) (aE : ∀ w, (isAgg 60).run Tryd.prog w = .ok true w) (zE : ∀ w, (Go.sizeOf 60).run Tryd.prog w = .ok k w) (key : α → Int) (cf : α → α → Int) (hcf : ∀ x y, cf x y < 0 ↔ key x < key y) (enc : α → List Value) (g : Nat) (cb : Array Value) (blk off cap : Nat) (eg : ∀ args w, (callFunc g args).run Tryd.prog w = .ok (.enter g args) w) : ∀ (sz a m b : Nat) (d0 d : Array α) (w0 w : World) (hcmp : CmpLays Tryd.prog g cb enc k cf blk off d0.size w0) (R : RowK enc k w0 blk off d0) (hs : d0.size = d.size) (S : SWK enc k w0 blk off d w) (hn : b - a = sz) (ham : a < m) (hmb : m < b) (hb : b ≤ d.size) (hsz : d.size < 4611686018427387904) (hl : Srtd key d a m) (hr : Srtd key d m b),
  Calls Tryd.prog 98 #[.slice (some ⟨blk, off, none⟩) d.size cap, .int .i64 a, .int .i64 m, .int .i64 b, .func (.func g) #[] cb] w fun e w' => e = .returned (.tuple #[]) ∧ ∃ r, Done key d r a b ∧ SWK enc k w0 blk off r w' := by
 intro sz
 induction sz using Nat.strongRecOn with
 | _ sz ih =>
 intro a m b d0 d w0 w hcmp R hs S hn ham hmb hb hsz hl hr
 have mixed : Tryd.prog.follows .mixedOrders = true := by kernel_rfl
 have S0 : Aside (SWK enc k w0 blk off d w) := S
 have HC : Aside (CmpLays Tryd.prog g cb enc k cf blk off d0.size w0) := hcmp
 have HL : Aside (Srtd key d a m) := hl
 have HRR : Aside (Srtd key d m b) := hr
 have IH : Aside _ := ih
 have HCF : Aside (∀ x y, cf x y < 0 ↔ key x < key y) := hcf
 clear S hcmp hl hr ih hcf
 by_cases h1 : m = a + 1
 ·have t1 : ((m : Int) - (a : Int) == 1) = true := beq_iff_eq.2 (by omega)
  have HM : Aside (m = a + 1) := h1
  clear IH h1
  go_enter Tryd.func98, Tryd.ntmps98
  go_wp2
  go_loopg [10, 11] (b - m) (fun kx s10 s11 wr => ∃ (i j : Nat), s10 = .int .i64 i ∧ s11 = .int .i64 j ∧ j - i ≤ kx ∧ m ≤ i ∧ i ≤ j ∧ j ≤ b ∧ Aside (SWK enc k w0 blk off d wr) ∧ Aside ((∀ q, m ≤ q → q < i → key d[q]! < key d[a]!) ∧ (∀ q, j ≤ q → q < b → key d[a]! ≤ key d[q]!)))
  case atStart => exact ⟨m, b, rfl, rfl, by omega, by omega, by omega, by omega, S0, ⟨fun q q1 q2 => by omega, fun q q1 q2 => by omega⟩⟩
  case round =>
   clear S0
   obtain ⟨i, j, rfl, rfl, hkx, hi, hij, hj, S1, HF⟩ := hrel
   by_cases hlt : i < j
   ·have b1 : (i : Int) < (j : Int) := by omega
    by_cases hG : cf d[(i + j) / 2]! d[a]! < 0
    ·have ea2 : (((i : Int) + (j : Int)) / 2).toNat = (i + j) / 2 := by omega
     have pa2 : (0 : Int) ≤ ((i : Int) + (j : Int)) / 2 := by omega
     have ba2 : ((i : Int) + (j : Int)) / 2 < (d.size : Int) := by omega
     have ra2 : IntKind.i64.wrap (((i : Int) + (j : Int)) / 2) = ((i : Int) + (j : Int)) / 2 := by rw [IntKind.wrap_i64]; omega
     have ec2 : ((a : Int)).toNat = a := by omega
     have pc2 : (0 : Int) ≤ (a : Int) := by omega
     have bc2 : (a : Int) < (d.size : Int) := by omega
     have rc2 : IntKind.i64.wrap ((a : Int)) = (a : Int) := by rw [IntKind.wrap_i64]; omega
     obtain ⟨x2, hx2⟩ : ∃ x, x = d[(i + j) / 2]! := ⟨_, rfl⟩
     obtain ⟨y2, hy2⟩ : ∃ x, x = d[a]! := ⟨_, rfl⟩
     have l2a := S1.out.ld R (by omega) Tryd.prog ((i + j) / 2) (by omega)
     have l2b := S1.out.ld R (by omega) Tryd.prog (a) (by omega)
     rw [← hx2] at l2a
     rw [← hy2] at l2b
     have hc2 := S1.out.cmp HC.out (by omega) x2 y2
     have hv2 : cf x2 y2 < 0 := by rw [hx2, hy2]; exact hG
     have hd2 : decide (cf x2 y2 < 0) = true := decide_eq_true hv2
     clear hx2 hy2
     have HG : Aside (cf d[(i + j) / 2]! d[a]! < 0) := hG
     clear hG
     go_wp2_with fail
     go_quiet_grown (first | (go_at_fn g; refine Calls.grown_of (hc2 _ _)))
     have S2 : Aside (SWK enc k w0 blk off d (grow (wr.drewN nq) osq)) := S1.out.grown nq osq
     clear l2a l2b hc2 S1
     generalize grow (wr.drewN nq) osq = w2 at S2 ⊢
     clear nq osq
     go_wp2
     go_roundg (j - ((i + j) / 2 + 1))
     case measure => omega
     case rel => exact ⟨(i + j) / 2 + 1, j, by (first | rfl | (congr 1; omega)), rfl, Nat.le_refl _, by omega, by omega, hj, S2, ⟨Srt.find_lt HRR.out (by omega) (by omega) ((HCF.out _ _).1 HG.out), HF.out.2⟩⟩
    ·have ea3 : (((i : Int) + (j : Int)) / 2).toNat = (i + j) / 2 := by omega
     have pa3 : (0 : Int) ≤ ((i : Int) + (j : Int)) / 2 := by omega
     have ba3 : ((i : Int) + (j : Int)) / 2 < (d.size : Int) := by omega
     have ra3 : IntKind.i64.wrap (((i : Int) + (j : Int)) / 2) = ((i : Int) + (j : Int)) / 2 := by rw [IntKind.wrap_i64]; omega
     have ec3 : ((a : Int)).toNat = a := by omega
     have pc3 : (0 : Int) ≤ (a : Int) := by omega
     have bc3 : (a : Int) < (d.size : Int) := by omega
     have rc3 : IntKind.i64.wrap ((a : Int)) = (a : Int) := by rw [IntKind.wrap_i64]; omega
     obtain ⟨x3, hx3⟩ : ∃ x, x = d[(i + j) / 2]! := ⟨_, rfl⟩
     obtain ⟨y3, hy3⟩ : ∃ x, x = d[a]! := ⟨_, rfl⟩
     have l3a := S1.out.ld R (by omega) Tryd.prog ((i + j) / 2) (by omega)
     have l3b := S1.out.ld R (by omega) Tryd.prog (a) (by omega)
     rw [← hx3] at l3a
     rw [← hy3] at l3b
     have hc3 := S1.out.cmp HC.out (by omega) x3 y3
     have hv3 : ¬ cf x3 y3 < 0 := by rw [hx3, hy3]; exact hG
     have hd3 : decide (cf x3 y3 < 0) = false := decide_eq_false hv3
     clear hx3 hy3
     have HG : Aside (¬ cf d[(i + j) / 2]! d[a]! < 0) := hG
     clear hG
     go_wp2_with fail
     go_quiet_grown (first | (go_at_fn g; refine Calls.grown_of (hc3 _ _)))
     have S2 : Aside (SWK enc k w0 blk off d (grow (wr.drewN nq) osq)) := S1.out.grown nq osq
     clear l3a l3b hc3 S1
     generalize grow (wr.drewN nq) osq = w2 at S2 ⊢
     clear nq osq
     go_wp2
     go_roundg ((i + j) / 2 - i)
     case measure => omega
     case rel => exact ⟨i, (i + j) / 2, rfl, by (first | rfl | (congr 1; omega)), Nat.le_refl _, by omega, by omega, by omega, S2, ⟨HF.out.1, Srt.find_ge HRR.out (by omega) (by have h_ := HG.out; have e_ := HCF.out d[(i + j) / 2]! d[a]!; omega)⟩⟩
   ·obtain rfl : i = j := by omega
    have b1 : ¬ (i : Int) < (i : Int) := by omega
    go_wp2
    go_loopg [13] (i - 1 - a) (fun kx s13 wr2 => ∃ (kk : Nat) (dk : Array α), s13 = .int .i64 kk ∧ kx + kk + 1 = i ∧ a ≤ kk ∧ dk.size = d.size ∧ Aside (SWK enc k w0 blk off dk wr2) ∧ Aside (Rot d dk a m (kk + 1)))
    case atStart => exact ⟨a, d, rfl, by have := HM.out; omega, Nat.le_refl _, rfl, S1, Rot.none (by omega) (by have := HM.out; omega) (.inr HM.out)⟩
    case round =>
     clear S1
     obtain ⟨kk, dk, rfl, hki, hak, hds, S1, HR⟩ := hrel
     cases gk with
     | zero =>
      have b2 : ¬ (kk : Int) < (i : Int) - 1 := by omega
      have HK : Aside (i = kk + 1) := (by omega : i = kk + 1)
      clear hki
      go_wp2
      (try simp only [Exit.inBlock, Exit.then]); refine bodyPost_ret (results_none rfl _ _ _) rfl ?_
      have hm := HM.out
      subst hm
      obtain rfl := HK.out
      exact ⟨rfl, dk, Srt.one_left HRR.out hi hj hb HF.out.1 HF.out.2 HR.out, S1.out⟩
     | succ gk =>
      have b2 : (kk : Int) < (i : Int) - 1 := by omega
      go_wp2_with fail
      have ea4 : ((kk : Int)).toNat = kk := by omega
      have pa4 : (0 : Int) ≤ (kk : Int) := by omega
      have ba4 : (kk : Int) < (d.size : Int) := by omega
      have ra4 : IntKind.i64.wrap ((kk : Int)) = (kk : Int) := by rw [IntKind.wrap_i64]; omega
      have ec4 : ((kk : Int) + 1).toNat = kk + 1 := by omega
      have pc4 : (0 : Int) ≤ (kk : Int) + 1 := by omega
      have bc4 : (kk : Int) + 1 < (d.size : Int) := by omega
      have rc4 : IntKind.i64.wrap ((kk : Int) + 1) = (kk : Int) + 1 := by rw [IntKind.wrap_i64]; omega
      have S2 : Aside (SWK enc k w0 blk off (swp dk (kk) (kk + 1)) ((wr.drew.setCells blk (off + (kk) * k) (enc dk[kk + 1]!)).setCells blk (off + (kk + 1) * k) (enc dk[kk]!))) := S1.out.swapped R (kk) (kk + 1) (by omega) (by omega)
      have l4a := S1.out.ld1 R (by omega) Tryd.prog (kk) (by omega)
      have l4b := S1.out.ld1 R (by omega) Tryd.prog (kk + 1) (by omega)
      have s4a := S1.out.st1 R (by omega) Tryd.prog (kk) (by omega) dk[kk + 1]!
      have s4b := S1.out.st2 R (by omega) Tryd.prog (kk) (kk + 1) (by omega) (by omega) dk[kk + 1]! dk[kk]!
      have n4a : (enc dk[kk]!).length = k := R.hk _
      have n4b : (enc dk[kk + 1]!).length = k := R.hk _
      generalize enc dk[kk]! = cI4 at S2 l4a s4b n4a
      generalize enc dk[kk + 1]! = cJ4 at S2 l4b s4a s4b n4b
      clear S1
      go_wp2_with fail
      go_big_region_o
      clear l4a l4b s4a s4b
      generalize (wr.drew.setCells blk (off + (kk) * k) cJ4).setCells blk (off + (kk + 1) * k) cI4 = w2 at S2 ⊢
      go_wp2
      go_roundg gk
      case measure => omega
      case rel => exact ⟨kk + 1, swp dk kk (kk + 1), by go_num, by omega, by omega, by rw [Srt.swp_size]; exact hds, S2, (by have hr := HR.out; rw [HM.out] at hr ⊢; exact hr.up hak (by omega))⟩
 by_cases h2 : b = m + 1
 ·have t1 : ((m : Int) - (a : Int) == 1) = false := beq_eq_false_iff_ne.2 (by omega)
  have t2 : ((b : Int) - (m : Int) == 1) = true := beq_iff_eq.2 (by omega)
  have HB : Aside (b = m + 1) := h2
  clear IH HRR h2 h1
  go_enter Tryd.func98, Tryd.ntmps98
  go_wp2
  go_loopg [14, 15] (m - a) (fun kx s14 s15 wr => ∃ (i j : Nat), s14 = .int .i64 i ∧ s15 = .int .i64 j ∧ j - i ≤ kx ∧ a ≤ i ∧ i ≤ j ∧ j ≤ m ∧ Aside (SWK enc k w0 blk off d wr) ∧ Aside ((∀ q, a ≤ q → q < i → key d[q]! ≤ key d[m]!) ∧ (∀ q, j ≤ q → q < m → key d[m]! < key d[q]!)))
  case atStart => exact ⟨a, m, rfl, rfl, by omega, by omega, by omega, by omega, S0, ⟨fun q q1 q2 => by omega, fun q q1 q2 => by omega⟩⟩
  case round =>
   clear S0
   obtain ⟨i, j, rfl, rfl, hkx, hi, hij, hj, S1, HF⟩ := hrel
   by_cases hlt : i < j
   ·have b1 : (i : Int) < (j : Int) := by omega
    by_cases hG : cf d[m]! d[(i + j) / 2]! < 0
    ·have ea5 : ((m : Int)).toNat = m := by omega
     have pa5 : (0 : Int) ≤ (m : Int) := by omega
     have ba5 : (m : Int) < (d.size : Int) := by omega
     have ra5 : IntKind.i64.wrap ((m : Int)) = (m : Int) := by rw [IntKind.wrap_i64]; omega
     have ec5 : (((i : Int) + (j : Int)) / 2).toNat = (i + j) / 2 := by omega
     have pc5 : (0 : Int) ≤ ((i : Int) + (j : Int)) / 2 := by omega
     have bc5 : ((i : Int) + (j : Int)) / 2 < (d.size : Int) := by omega
     have rc5 : IntKind.i64.wrap (((i : Int) + (j : Int)) / 2) = ((i : Int) + (j : Int)) / 2 := by rw [IntKind.wrap_i64]; omega
     obtain ⟨x5, hx5⟩ : ∃ x, x = d[m]! := ⟨_, rfl⟩
     obtain ⟨y5, hy5⟩ : ∃ x, x = d[(i + j) / 2]! := ⟨_, rfl⟩
     have l5a := S1.out.ld R (by omega) Tryd.prog (m) (by omega)
     have l5b := S1.out.ld R (by omega) Tryd.prog ((i + j) / 2) (by omega)
     rw [← hx5] at l5a
     rw [← hy5] at l5b
     have hc5 := S1.out.cmp HC.out (by omega) x5 y5
     have hv5 : cf x5 y5 < 0 := by rw [hx5, hy5]; exact hG
     have hd5 : decide (cf x5 y5 < 0) = true := decide_eq_true hv5
     clear hx5 hy5
     have HG : Aside (cf d[m]! d[(i + j) / 2]! < 0) := hG
     clear hG
     go_wp2_with fail
     go_quiet_grown (first | (go_at_fn g; refine Calls.grown_of (hc5 _ _)))
     have S2 : Aside (SWK enc k w0 blk off d (grow (wr.drewN nq) osq)) := S1.out.grown nq osq
     clear l5a l5b hc5 S1
     generalize grow (wr.drewN nq) osq = w2 at S2 ⊢
     clear nq osq
     go_wp2
     go_roundg ((i + j) / 2 - i)
     case measure => omega
     case rel => exact ⟨i, (i + j) / 2, rfl, by (first | rfl | (congr 1; omega)), Nat.le_refl _, by omega, by omega, by omega, S2, ⟨HF.out.1, Srt.find_gt HL.out (by omega) ((HCF.out _ _).1 HG.out)⟩⟩
    ·have ea6 : ((m : Int)).toNat = m := by omega
     have pa6 : (0 : Int) ≤ (m : Int) := by omega
     have ba6 : (m : Int) < (d.size : Int) := by omega
     have ra6 : IntKind.i64.wrap ((m : Int)) = (m : Int) := by rw [IntKind.wrap_i64]; omega
     have ec6 : (((i : Int) + (j : Int)) / 2).toNat = (i + j) / 2 := by omega
     have pc6 : (0 : Int) ≤ ((i : Int) + (j : Int)) / 2 := by omega
     have bc6 : ((i : Int) + (j : Int)) / 2 < (d.size : Int) := by omega
     have rc6 : IntKind.i64.wrap (((i : Int) + (j : Int)) / 2) = ((i : Int) + (j : Int)) / 2 := by rw [IntKind.wrap_i64]; omega
     obtain ⟨x6, hx6⟩ : ∃ x, x = d[m]! := ⟨_, rfl⟩
     obtain ⟨y6, hy6⟩ : ∃ x, x = d[(i + j) / 2]! := ⟨_, rfl⟩
     have l6a := S1.out.ld R (by omega) Tryd.prog (m) (by omega)
     have l6b := S1.out.ld R (by omega) Tryd.prog ((i + j) / 2) (by omega)
     rw [← hx6] at l6a
     rw [← hy6] at l6b
     have hc6 := S1.out.cmp HC.out (by omega) x6 y6
     have hv6 : ¬ cf x6 y6 < 0 := by rw [hx6, hy6]; exact hG
     have hd6 : decide (cf x6 y6 < 0) = false := decide_eq_false hv6
     clear hx6 hy6
     have HG : Aside (¬ cf d[m]! d[(i + j) / 2]! < 0) := hG
     clear hG
     go_wp2_with fail
     go_quiet_grown (first | (go_at_fn g; refine Calls.grown_of (hc6 _ _)))
     have S2 : Aside (SWK enc k w0 blk off d (grow (wr.drewN nq) osq)) := S1.out.grown nq osq
     clear l6a l6b hc6 S1
     generalize grow (wr.drewN nq) osq = w2 at S2 ⊢
     clear nq osq
     go_wp2
     go_roundg (j - ((i + j) / 2 + 1))
     case measure => omega
     case rel => exact ⟨(i + j) / 2 + 1, j, by (first | rfl | (congr 1; omega)), rfl, Nat.le_refl _, by omega, by omega, hj, S2, ⟨Srt.find_le HL.out (by omega) (by omega) (by have h_ := HG.out; have e_ := HCF.out d[m]! d[(i + j) / 2]!; omega), HF.out.2⟩⟩
   ·obtain rfl : i = j := by omega
    have b1 : ¬ (i : Int) < (i : Int) := by omega
    go_wp2
    go_loopg [17] (m - i) (fun kx s17 wr2 => ∃ (kk : Nat) (dk : Array α), s17 = .int .i64 kk ∧ i + kx = kk ∧ kk ≤ m ∧ dk.size = d.size ∧ Aside (SWK enc k w0 blk off dk wr2) ∧ Aside (Rot d dk kk m b))
    case atStart => exact ⟨m, d, rfl, by omega, Nat.le_refl _, rfl, S1, Rot.none (Nat.le_refl _) (by omega) (.inl rfl)⟩
    case round =>
     clear S1
     obtain ⟨kk, dk, rfl, hki, hkm, hds, S1, HR⟩ := hrel
     cases gk with
     | zero =>
      have HK : Aside (kk = i) := (by omega : kk = i)
      have b2 : ¬ (i : Int) < (kk : Int) := by omega
      clear hki
      go_wp2
      (try simp only [Exit.inBlock, Exit.then]); refine bodyPost_ret (results_none rfl _ _ _) rfl ?_
      obtain rfl := HK.out
      have hb2 := HB.out
      subst hb2
      exact ⟨rfl, dk, Srt.one_right HL.out hi hj (by omega) HF.out.1 HF.out.2 HR.out, S1.out⟩
     | succ gk =>
      obtain ⟨kp, rfl⟩ : ∃ kp, kk = kp + 1 := ⟨kk - 1, by omega⟩
      have b2 : (i : Int) < (kp : Int) + 1 := by omega
      go_wp2_with fail
      have ea7 : ((kp : Int) + 1).toNat = kp + 1 := by omega
      have pa7 : (0 : Int) ≤ (kp : Int) + 1 := by omega
      have ba7 : (kp : Int) + 1 < (d.size : Int) := by omega
      have ra7 : IntKind.i64.wrap ((kp : Int) + 1) = (kp : Int) + 1 := by rw [IntKind.wrap_i64]; omega
      have ec7 : ((kp : Int)).toNat = kp := by omega
      have pc7 : (0 : Int) ≤ (kp : Int) := by omega
      have bc7 : (kp : Int) < (d.size : Int) := by omega
      have rc7 : IntKind.i64.wrap ((kp : Int)) = (kp : Int) := by rw [IntKind.wrap_i64]; omega
      have S2 : Aside (SWK enc k w0 blk off (swp dk (kp + 1) (kp)) ((wr.drew.setCells blk (off + (kp + 1) * k) (enc dk[kp]!)).setCells blk (off + (kp) * k) (enc dk[kp + 1]!))) := S1.out.swapped R (kp + 1) (kp) (by omega) (by omega)
      have l7a := S1.out.ld1 R (by omega) Tryd.prog (kp + 1) (by omega)
      have l7b := S1.out.ld1 R (by omega) Tryd.prog (kp) (by omega)
      have s7a := S1.out.st1 R (by omega) Tryd.prog (kp + 1) (by omega) dk[kp]!
      have s7b := S1.out.st2 R (by omega) Tryd.prog (kp + 1) (kp) (by omega) (by omega) dk[kp]! dk[kp + 1]!
      have n7a : (enc dk[kp + 1]!).length = k := R.hk _
      have n7b : (enc dk[kp]!).length = k := R.hk _
      generalize enc dk[kp + 1]! = cI7 at S2 l7a s7b n7a
      generalize enc dk[kp]! = cJ7 at S2 l7b s7a s7b n7b
      clear S1
      go_wp2_with fail
      go_big_region_o
      clear l7a l7b s7a s7b
      generalize (wr.drew.setCells blk (off + (kp + 1) * k) cJ7).setCells blk (off + (kp) * k) cI7 = w2 at S2 ⊢
      go_wp2
      go_roundg gk
      case measure => omega
      case rel => exact ⟨kp, swp dk (kp + 1) kp, by first | rfl | go_num | (congr 1; omega), by omega, by omega, by rw [Srt.swp_size]; exact hds, S2, (by have hr := HR.out; rw [HB.out] at hr ⊢; exact hr.down (by omega) (by omega))⟩
 have t1 : ((m : Int) - (a : Int) == 1) = false := beq_eq_false_iff_ne.2 (by omega)
 have t2 : ((b : Int) - (m : Int) == 1) = false := beq_eq_false_iff_ne.2 (by omega)
 obtain ⟨mid, hmid⟩ : ∃ mid, mid = (a + b) / 2 := ⟨_, rfl⟩
 obtain ⟨nn, hnn⟩ : ∃ nn, nn = mid + m := ⟨_, rfl⟩
 obtain ⟨p, hp⟩ : ∃ p, p + 1 = nn := ⟨nn - 1, by omega⟩
 obtain ⟨s0, r0, hcase⟩ : ∃ s0 r0, (mid < m ∧ s0 + b = nn ∧ r0 = mid) ∨ (m ≤ mid ∧ s0 = a ∧ r0 = m) := by
  by_cases c : mid < m
  ·exact ⟨nn - b, mid, .inl ⟨c, by omega, rfl⟩⟩
  ·exact ⟨a, m, .inr ⟨by omega, rfl, rfl⟩⟩
 have hlo : ∀ q, s0 ≤ q → q < r0 → m ≤ p - q ∧ p - q < b ∧ q ≤ p := fun q q1 q2 => by omega
 have qm : ((a : Int) + (b : Int)) / 2 = (mid : Int) := by omega
 have qn : (mid : Int) + (m : Int) = (nn : Int) := by omega
 have qp : (nn : Int) - 1 = (p : Int) := by omega
 have HX : Aside (mid = (a + b) / 2 ∧ nn = mid + m ∧ p + 1 = nn ∧ ((mid < m ∧ s0 + b = nn ∧ r0 = mid) ∨ (m ≤ mid ∧ s0 = a ∧ r0 = m))) := ⟨hmid, hnn, hp, hcase⟩
 have HLO : Aside (∀ q, s0 ≤ q → q < r0 → m ≤ p - q ∧ p - q < b ∧ q ≤ p) := hlo
 have ha0 : a ≤ s0 := by omega
 have hm0 : r0 ≤ m := by omega
 have hs0 : s0 ≤ r0 := by omega
 have hr0 : r0 ≤ mid := by omega
 have hpb : p < 2 * b := by omega
 have hma : a ≤ mid := by omega
 have hmbb : mid < b := by omega
 clear hlo
 have hs' := hs
 by_cases hbr : mid < m
 ·have t3 : (mid : Int) < (m : Int) := by omega
  have q0 : (nn : Int) - (b : Int) = (s0 : Int) := by omega
  have q1 : r0 = mid := by omega
  have HQ : Aside (r0 = mid) := q1
  clear hmid hnn hp hcase q1
  go_enter Tryd.func98, Tryd.ntmps98
  go_wp2
  go_loopg [20, 21] (r0 - s0) (fun kx s20 s21 wr => ∃ (s r : Nat), s20 = .int .i64 s ∧ s21 = .int .i64 r ∧ r - s ≤ kx ∧ s0 ≤ s ∧ s ≤ r ∧ r ≤ r0 ∧ Aside (SWK enc k w0 blk off d wr) ∧ Aside ((∀ q, s0 ≤ q → q < s → key d[q]! ≤ key d[p - q]!) ∧ (∀ q, r ≤ q → q < r0 → key d[p - q]! < key d[q]!)))
  case atStart => exact ⟨s0, r0, by (first | rfl | rw [HQ.out.1]), by (first | rfl | rw [HQ.out] | rw [HQ.out.2]), by omega, by omega, by omega, by omega, S0, ⟨fun q q1 q2 => by omega, fun q q1 q2 => by omega⟩⟩
  case round =>
   clear S0
   obtain ⟨s, r, rfl, rfl, hkx, hs, hsr, hr, S1, HF⟩ := hrel
   by_cases hlt : s < r
   ·have b1 : (s : Int) < (r : Int) := by omega
    obtain ⟨c, hc⟩ : ∃ c, c = (s + r) / 2 := ⟨_, rfl⟩
    have hlc := HLO.out c (by omega) (by omega)
    obtain ⟨pc, hpc⟩ : ∃ pc, pc = p - c := ⟨_, rfl⟩
    have qc : ((s : Int) + (r : Int)) / 2 = (c : Int) := by omega
    have qpc : (p : Int) - (c : Int) = (pc : Int) := by omega
    have hc1 : s ≤ c := by omega
    have hc2 : c < r := by omega
    have hpc1 : m ≤ pc := by omega
    have hpc2 : pc < b := by omega
    have HPC : Aside (pc = p - c) := hpc
    clear hc hpc hlc
    by_cases hG : cf d[pc]! d[c]! < 0
    ·have ea8 : ((pc : Int)).toNat = pc := by omega
     have pa8 : (0 : Int) ≤ (pc : Int) := by omega
     have ba8 : (pc : Int) < (d.size : Int) := by omega
     have ra8 : IntKind.i64.wrap ((pc : Int)) = (pc : Int) := by rw [IntKind.wrap_i64]; omega
     have ec8 : ((c : Int)).toNat = c := by omega
     have pc8 : (0 : Int) ≤ (c : Int) := by omega
     have bc8 : (c : Int) < (d.size : Int) := by omega
     have rc8 : IntKind.i64.wrap ((c : Int)) = (c : Int) := by rw [IntKind.wrap_i64]; omega
     obtain ⟨x8, hx8⟩ : ∃ x, x = d[pc]! := ⟨_, rfl⟩
     obtain ⟨y8, hy8⟩ : ∃ x, x = d[c]! := ⟨_, rfl⟩
     have l8a := S1.out.ld R (by omega) Tryd.prog (pc) (by omega)
     have l8b := S1.out.ld R (by omega) Tryd.prog (c) (by omega)
     rw [← hx8] at l8a
     rw [← hy8] at l8b
     have hc8 := S1.out.cmp HC.out (by omega) x8 y8
     have hv8 : cf x8 y8 < 0 := by rw [hx8, hy8]; exact hG
     have hd8 : decide (cf x8 y8 < 0) = true := decide_eq_true hv8
     clear hx8 hy8
     have HG : Aside (cf d[pc]! d[c]! < 0) := hG
     clear hG
     go_wp2_with fail
     go_quiet_grown (first | (go_at_fn g; refine Calls.grown_of (hc8 _ _)))
     have S2 : Aside (SWK enc k w0 blk off d (grow (wr.drewN nq) osq)) := S1.out.grown nq osq
     clear l8a l8b hc8 S1
     generalize grow (wr.drewN nq) osq = w2 at S2 ⊢
     clear nq osq
     go_wp2
     go_roundg (c - s)
     case measure => omega
     case rel => exact ⟨s, c, rfl, by (first | rfl | (congr 1; omega)), Nat.le_refl _, by omega, by omega, by omega, S2, ⟨HF.out.1, Srt.cut_gt HL.out HRR.out ha0 hm0 HLO.out (by omega) (by omega) (HPC.out ▸ (HCF.out _ _).1 HG.out)⟩⟩
    ·have ea9 : ((pc : Int)).toNat = pc := by omega
     have pa9 : (0 : Int) ≤ (pc : Int) := by omega
     have ba9 : (pc : Int) < (d.size : Int) := by omega
     have ra9 : IntKind.i64.wrap ((pc : Int)) = (pc : Int) := by rw [IntKind.wrap_i64]; omega
     have ec9 : ((c : Int)).toNat = c := by omega
     have pc9 : (0 : Int) ≤ (c : Int) := by omega
     have bc9 : (c : Int) < (d.size : Int) := by omega
     have rc9 : IntKind.i64.wrap ((c : Int)) = (c : Int) := by rw [IntKind.wrap_i64]; omega
     obtain ⟨x9, hx9⟩ : ∃ x, x = d[pc]! := ⟨_, rfl⟩
     obtain ⟨y9, hy9⟩ : ∃ x, x = d[c]! := ⟨_, rfl⟩
     have l9a := S1.out.ld R (by omega) Tryd.prog (pc) (by omega)
     have l9b := S1.out.ld R (by omega) Tryd.prog (c) (by omega)
     rw [← hx9] at l9a
     rw [← hy9] at l9b
     have hc9 := S1.out.cmp HC.out (by omega) x9 y9
     have hv9 : ¬ cf x9 y9 < 0 := by rw [hx9, hy9]; exact hG
     have hd9 : decide (cf x9 y9 < 0) = false := decide_eq_false hv9
     clear hx9 hy9
     have HG : Aside (¬ cf d[pc]! d[c]! < 0) := hG
     clear hG
     go_wp2_with fail
     go_quiet_grown (first | (go_at_fn g; refine Calls.grown_of (hc9 _ _)))
     have S2 : Aside (SWK enc k w0 blk off d (grow (wr.drewN nq) osq)) := S1.out.grown nq osq
     clear l9a l9b hc9 S1
     generalize grow (wr.drewN nq) osq = w2 at S2 ⊢
     clear nq osq
     go_wp2
     go_roundg (r - (c + 1))
     case measure => omega
     case rel => exact ⟨c + 1, r, by (first | rfl | (congr 1; omega)), rfl, Nat.le_refl _, by omega, by omega, by omega, S2, ⟨Srt.cut_le HL.out HRR.out ha0 hm0 HLO.out (by omega) (by omega) (by have h_ := HG.out; have e_ := HCF.out d[pc]! d[c]!; rw [HPC.out] at h_ e_; omega), HF.out.2⟩⟩
   ·obtain rfl : s = r := by omega
    have b1 : ¬ (s : Int) < (s : Int) := by omega
    obtain ⟨hmid, hnn, hp, hcase⟩ := HX.out
    have hcut := Srt.cut_of HL.out HRR.out hmb hmid hnn hp hcase hs hr (fun q q1 q2 => HF.out.1 q q1 q2) (fun q q1 q2 => HF.out.2 q q1 q2)
    obtain ⟨e, he⟩ : ∃ e, e = nn - s := ⟨_, rfl⟩
    rw [← he] at hcut
    obtain ⟨hC, k1, k2, k3, k4, k5⟩ := hcut
    have HCU : Aside (Cut key d a m b s e) := hC
    clear hC HF
    have HE : Aside (e = nn - s) := he
    have qe : (nn : Int) - (s : Int) = ((e : Nat) : Int) := by omega
    have K5 : Aside (mid = s + (e - m)) := k5
    clear hmid hnn hp hcase he k5
    by_cases c1 : s < m ∧ m < e
    ·have f1 : (s : Int) < (m : Int) := by omega
     have f2 : (m : Int) < (e : Int) := by omega
     have hcall0 := rotate_calls k aE zE enc g cb blk off cap s m e d0 d w0 _ R hs' S1.out (by omega) (by omega) (by omega) hsz
     go_wp2_with (go_at_call 106; (try rw [qe]); refine hcall0.mono ?_; rintro e_ w3 ⟨rfl, r, hrot, S3⟩; refine Hold.out ?_)
     refine ⟨?_⟩
     have HZ : Aside (Srt.CutAt key d r a m b s e mid) := ⟨hrot, HCU.out, k1, k2, k3, k4, hb, K5.out⟩
     have hzr := hrot.1
     have S7 : Aside (SWK enc k w0 blk off r w3) := S3
     clear hrot S3 hcall0 S1
     by_cases c2 : a < s ∧ s < mid
     ·have f3 : (a : Int) < (s : Int) := by omega
      have f4 : (s : Int) < (mid : Int) := by omega
      have hcall1 := IH.out (mid - a) (by omega) a s mid d0 r w0 _ HC.out R (by omega) S7.out rfl (by omega) (by omega) (by omega) (by omega) (Srt.cut_ss HZ.out) (Srt.cut_sm HZ.out)
      rw [show Array.size r = d.size by omega] at hcall1
      go_wp2_with (go_at_call 98; refine hcall1.mono ?_; rintro e_ w4 ⟨rfl, r1, hd1, S4⟩; refine Hold.out ?_)
      refine ⟨?_⟩
      have HD1 : Aside (Done key r r1 a mid) := hd1
      have hz1 := hd1.size
      have S6 : Aside (SWK enc k w0 blk off r1 w4) := S4
      clear hd1 S4 hcall1
      by_cases c3 : mid < e ∧ e < b
      ·have f5 : (mid : Int) < (e : Int) := by omega
       have f6 : (e : Int) < (b : Int) := by omega
       have hcall2 := IH.out (b - mid) (by omega) mid e b d0 r1 w0 _ HC.out R (by omega) S6.out rfl (by omega) (by omega) (by omega) (by omega) (Srt.right_l HZ.out HD1.out) (Srt.right_r HZ.out HD1.out)
       rw [show Array.size r1 = d.size by omega] at hcall2
       go_wp2_with (go_at_call 98; (try rw [qe]); refine hcall2.mono ?_; rintro e_ w5 ⟨rfl, r2, hd2, S5⟩)
       go_end0
       exact ⟨rfl, r2, Srt.cut_done HZ.out HD1.out hd2, S5⟩
      ·have hd2 := Srt.right_none HZ.out HD1.out c3
       by_cases c4 : mid < e
       ·have f5 : (mid : Int) < (e : Int) := by omega
        have f6 : ¬ (e : Int) < (b : Int) := by omega
        have HD2 : Aside (Done key r1 r1 mid b) := hd2
        clear hd2
        go_wp2_with fail
        go_end0
        exact ⟨rfl, r1, Srt.cut_done HZ.out HD1.out HD2.out, S6.out⟩
       ·have f5 : ¬ (mid : Int) < (e : Int) := by omega
        have HD2 : Aside (Done key r1 r1 mid b) := hd2
        clear hd2
        go_wp2_with fail
        go_end0
        exact ⟨rfl, r1, Srt.cut_done HZ.out HD1.out HD2.out, S6.out⟩
     ·have hd1 := Srt.left_none HZ.out c2
      have HD1 : Aside (Done key r r a mid) := hd1
      clear hd1
      by_cases c5 : a < s
      ·have f3 : (a : Int) < (s : Int) := by omega
       have f4 : ¬ (s : Int) < (mid : Int) := by omega
       by_cases c3 : mid < e ∧ e < b
       ·have f5 : (mid : Int) < (e : Int) := by omega
        have f6 : (e : Int) < (b : Int) := by omega
        have hcall2 := IH.out (b - mid) (by omega) mid e b d0 r w0 _ HC.out R (by omega) S7.out rfl (by omega) (by omega) (by omega) (by omega) (Srt.right_l HZ.out HD1.out) (Srt.right_r HZ.out HD1.out)
        rw [show Array.size r = d.size by omega] at hcall2
        go_wp2_with (go_at_call 98; (try rw [qe]); refine hcall2.mono ?_; rintro e_ w5 ⟨rfl, r2, hd2, S5⟩)
        go_end0
        exact ⟨rfl, r2, Srt.cut_done HZ.out HD1.out hd2, S5⟩
       ·have hd2 := Srt.right_none HZ.out HD1.out c3
        by_cases c4 : mid < e
        ·have f5 : (mid : Int) < (e : Int) := by omega
         have f6 : ¬ (e : Int) < (b : Int) := by omega
         have HD2 : Aside (Done key r r mid b) := hd2
         clear hd2
         go_wp2_with fail
         go_end0
         exact ⟨rfl, r, Srt.cut_done HZ.out HD1.out HD2.out, S7.out⟩
        ·have f5 : ¬ (mid : Int) < (e : Int) := by omega
         have HD2 : Aside (Done key r r mid b) := hd2
         clear hd2
         go_wp2_with fail
         go_end0
         exact ⟨rfl, r, Srt.cut_done HZ.out HD1.out HD2.out, S7.out⟩
      ·have f3 : ¬ (a : Int) < (s : Int) := by omega
       by_cases c3 : mid < e ∧ e < b
       ·have f5 : (mid : Int) < (e : Int) := by omega
        have f6 : (e : Int) < (b : Int) := by omega
        have hcall2 := IH.out (b - mid) (by omega) mid e b d0 r w0 _ HC.out R (by omega) S7.out rfl (by omega) (by omega) (by omega) (by omega) (Srt.right_l HZ.out HD1.out) (Srt.right_r HZ.out HD1.out)
        rw [show Array.size r = d.size by omega] at hcall2
        go_wp2_with (go_at_call 98; (try rw [qe]); refine hcall2.mono ?_; rintro e_ w5 ⟨rfl, r2, hd2, S5⟩)
        go_end0
        exact ⟨rfl, r2, Srt.cut_done HZ.out HD1.out hd2, S5⟩
       ·have hd2 := Srt.right_none HZ.out HD1.out c3
        by_cases c4 : mid < e
        ·have f5 : (mid : Int) < (e : Int) := by omega
         have f6 : ¬ (e : Int) < (b : Int) := by omega
         have HD2 : Aside (Done key r r mid b) := hd2
         clear hd2
         go_wp2_with fail
         go_end0
         exact ⟨rfl, r, Srt.cut_done HZ.out HD1.out HD2.out, S7.out⟩
        ·have f5 : ¬ (mid : Int) < (e : Int) := by omega
         have HD2 : Aside (Done key r r mid b) := hd2
         clear hd2
         go_wp2_with fail
         go_end0
         exact ⟨rfl, r, Srt.cut_done HZ.out HD1.out HD2.out, S7.out⟩
    ·have HZ : Aside (Srt.CutAt key d d a m b s e mid) := ⟨Rot.none k2 k3 (by omega), HCU.out, k1, k2, k3, k4, hb, K5.out⟩
     by_cases c6 : s < m
     ·have f1 : (s : Int) < (m : Int) := by omega
      have f2 : ¬ (m : Int) < (e : Int) := by omega
      by_cases c2 : a < s ∧ s < mid
      ·have f3 : (a : Int) < (s : Int) := by omega
       have f4 : (s : Int) < (mid : Int) := by omega
       have hcall1 := IH.out (mid - a) (by omega) a s mid d0 d w0 _ HC.out R (by omega) S1.out rfl (by omega) (by omega) (by omega) (by omega) (Srt.cut_ss HZ.out) (Srt.cut_sm HZ.out)
       rw [show Array.size d = d.size by omega] at hcall1
       go_wp2_with (go_at_call 98; refine hcall1.mono ?_; rintro e_ w4 ⟨rfl, r1, hd1, S4⟩; refine Hold.out ?_)
       refine ⟨?_⟩
       have HD1 : Aside (Done key d r1 a mid) := hd1
       have hz1 := hd1.size
       have S6 : Aside (SWK enc k w0 blk off r1 w4) := S4
       clear hd1 S4 hcall1
       by_cases c3 : mid < e ∧ e < b
       ·have f5 : (mid : Int) < (e : Int) := by omega
        have f6 : (e : Int) < (b : Int) := by omega
        have hcall2 := IH.out (b - mid) (by omega) mid e b d0 r1 w0 _ HC.out R (by omega) S6.out rfl (by omega) (by omega) (by omega) (by omega) (Srt.right_l HZ.out HD1.out) (Srt.right_r HZ.out HD1.out)
        rw [show Array.size r1 = d.size by omega] at hcall2
        go_wp2_with (go_at_call 98; (try rw [qe]); refine hcall2.mono ?_; rintro e_ w5 ⟨rfl, r2, hd2, S5⟩)
        go_end0
        exact ⟨rfl, r2, Srt.cut_done HZ.out HD1.out hd2, S5⟩
       ·have hd2 := Srt.right_none HZ.out HD1.out c3
        by_cases c4 : mid < e
        ·have f5 : (mid : Int) < (e : Int) := by omega
         have f6 : ¬ (e : Int) < (b : Int) := by omega
         have HD2 : Aside (Done key r1 r1 mid b) := hd2
         clear hd2
         go_wp2_with fail
         go_end0
         exact ⟨rfl, r1, Srt.cut_done HZ.out HD1.out HD2.out, S6.out⟩
        ·have f5 : ¬ (mid : Int) < (e : Int) := by omega
         have HD2 : Aside (Done key r1 r1 mid b) := hd2
         clear hd2
         go_wp2_with fail
         go_end0
         exact ⟨rfl, r1, Srt.cut_done HZ.out HD1.out HD2.out, S6.out⟩
      ·have hd1 := Srt.left_none HZ.out c2
       have HD1 : Aside (Done key d d a mid) := hd1
       clear hd1
       by_cases c5 : a < s
       ·have f3 : (a : Int) < (s : Int) := by omega
        have f4 : ¬ (s : Int) < (mid : Int) := by omega
        by_cases c3 : mid < e ∧ e < b
        ·have f5 : (mid : Int) < (e : Int) := by omega
         have f6 : (e : Int) < (b : Int) := by omega
         have hcall2 := IH.out (b - mid) (by omega) mid e b d0 d w0 _ HC.out R (by omega) S1.out rfl (by omega) (by omega) (by omega) (by omega) (Srt.right_l HZ.out HD1.out) (Srt.right_r HZ.out HD1.out)
         rw [show Array.size d = d.size by omega] at hcall2
         go_wp2_with (go_at_call 98; (try rw [qe]); refine hcall2.mono ?_; rintro e_ w5 ⟨rfl, r2, hd2, S5⟩)
         go_end0
         exact ⟨rfl, r2, Srt.cut_done HZ.out HD1.out hd2, S5⟩
        ·have hd2 := Srt.right_none HZ.out HD1.out c3
         by_cases c4 : mid < e
         ·have f5 : (mid : Int) < (e : Int) := by omega
          have f6 : ¬ (e : Int) < (b : Int) := by omega
          have HD2 : Aside (Done key d d mid b) := hd2
          clear hd2
          go_wp2_with fail
          go_end0
          exact ⟨rfl, d, Srt.cut_done HZ.out HD1.out HD2.out, S1.out⟩
         ·have f5 : ¬ (mid : Int) < (e : Int) := by omega
          have HD2 : Aside (Done key d d mid b) := hd2
          clear hd2
          go_wp2_with fail
          go_end0
          exact ⟨rfl, d, Srt.cut_done HZ.out HD1.out HD2.out, S1.out⟩
       ·have f3 : ¬ (a : Int) < (s : Int) := by omega
        by_cases c3 : mid < e ∧ e < b
        ·have f5 : (mid : Int) < (e : Int) := by omega
         have f6 : (e : Int) < (b : Int) := by omega
         have hcall2 := IH.out (b - mid) (by omega) mid e b d0 d w0 _ HC.out R (by omega) S1.out rfl (by omega) (by omega) (by omega) (by omega) (Srt.right_l HZ.out HD1.out) (Srt.right_r HZ.out HD1.out)
         rw [show Array.size d = d.size by omega] at hcall2
         go_wp2_with (go_at_call 98; (try rw [qe]); refine hcall2.mono ?_; rintro e_ w5 ⟨rfl, r2, hd2, S5⟩)
         go_end0
         exact ⟨rfl, r2, Srt.cut_done HZ.out HD1.out hd2, S5⟩
        ·have hd2 := Srt.right_none HZ.out HD1.out c3
         by_cases c4 : mid < e
         ·have f5 : (mid : Int) < (e : Int) := by omega
          have f6 : ¬ (e : Int) < (b : Int) := by omega
          have HD2 : Aside (Done key d d mid b) := hd2
          clear hd2
          go_wp2_with fail
          go_end0
          exact ⟨rfl, d, Srt.cut_done HZ.out HD1.out HD2.out, S1.out⟩
         ·have f5 : ¬ (mid : Int) < (e : Int) := by omega
          have HD2 : Aside (Done key d d mid b) := hd2
          clear hd2
          go_wp2_with fail
          go_end0
          exact ⟨rfl, d, Srt.cut_done HZ.out HD1.out HD2.out, S1.out⟩
     ·have f1 : ¬ (s : Int) < (m : Int) := by omega
      by_cases c2 : a < s ∧ s < mid
      ·have f3 : (a : Int) < (s : Int) := by omega
       have f4 : (s : Int) < (mid : Int) := by omega
       have hcall1 := IH.out (mid - a) (by omega) a s mid d0 d w0 _ HC.out R (by omega) S1.out rfl (by omega) (by omega) (by omega) (by omega) (Srt.cut_ss HZ.out) (Srt.cut_sm HZ.out)
       rw [show Array.size d = d.size by omega] at hcall1
       go_wp2_with (go_at_call 98; refine hcall1.mono ?_; rintro e_ w4 ⟨rfl, r1, hd1, S4⟩; refine Hold.out ?_)
       refine ⟨?_⟩
       have HD1 : Aside (Done key d r1 a mid) := hd1
       have hz1 := hd1.size
       have S6 : Aside (SWK enc k w0 blk off r1 w4) := S4
       clear hd1 S4 hcall1
       by_cases c3 : mid < e ∧ e < b
       ·have f5 : (mid : Int) < (e : Int) := by omega
        have f6 : (e : Int) < (b : Int) := by omega
        have hcall2 := IH.out (b - mid) (by omega) mid e b d0 r1 w0 _ HC.out R (by omega) S6.out rfl (by omega) (by omega) (by omega) (by omega) (Srt.right_l HZ.out HD1.out) (Srt.right_r HZ.out HD1.out)
        rw [show Array.size r1 = d.size by omega] at hcall2
        go_wp2_with (go_at_call 98; (try rw [qe]); refine hcall2.mono ?_; rintro e_ w5 ⟨rfl, r2, hd2, S5⟩)
        go_end0
        exact ⟨rfl, r2, Srt.cut_done HZ.out HD1.out hd2, S5⟩
       ·have hd2 := Srt.right_none HZ.out HD1.out c3
        by_cases c4 : mid < e
        ·have f5 : (mid : Int) < (e : Int) := by omega
         have f6 : ¬ (e : Int) < (b : Int) := by omega
         have HD2 : Aside (Done key r1 r1 mid b) := hd2
         clear hd2
         go_wp2_with fail
         go_end0
         exact ⟨rfl, r1, Srt.cut_done HZ.out HD1.out HD2.out, S6.out⟩
        ·have f5 : ¬ (mid : Int) < (e : Int) := by omega
         have HD2 : Aside (Done key r1 r1 mid b) := hd2
         clear hd2
         go_wp2_with fail
         go_end0
         exact ⟨rfl, r1, Srt.cut_done HZ.out HD1.out HD2.out, S6.out⟩
      ·have hd1 := Srt.left_none HZ.out c2
       have HD1 : Aside (Done key d d a mid) := hd1
       clear hd1
       by_cases c5 : a < s
       ·have f3 : (a : Int) < (s : Int) := by omega
        have f4 : ¬ (s : Int) < (mid : Int) := by omega
        by_cases c3 : mid < e ∧ e < b
        ·have f5 : (mid : Int) < (e : Int) := by omega
         have f6 : (e : Int) < (b : Int) := by omega
         have hcall2 := IH.out (b - mid) (by omega) mid e b d0 d w0 _ HC.out R (by omega) S1.out rfl (by omega) (by omega) (by omega) (by omega) (Srt.right_l HZ.out HD1.out) (Srt.right_r HZ.out HD1.out)
         rw [show Array.size d = d.size by omega] at hcall2
         go_wp2_with (go_at_call 98; (try rw [qe]); refine hcall2.mono ?_; rintro e_ w5 ⟨rfl, r2, hd2, S5⟩)
         go_end0
         exact ⟨rfl, r2, Srt.cut_done HZ.out HD1.out hd2, S5⟩
        ·have hd2 := Srt.right_none HZ.out HD1.out c3
         by_cases c4 : mid < e
         ·have f5 : (mid : Int) < (e : Int) := by omega
          have f6 : ¬ (e : Int) < (b : Int) := by omega
          have HD2 : Aside (Done key d d mid b) := hd2
          clear hd2
          go_wp2_with fail
          go_end0
          exact ⟨rfl, d, Srt.cut_done HZ.out HD1.out HD2.out, S1.out⟩
         ·have f5 : ¬ (mid : Int) < (e : Int) := by omega
          have HD2 : Aside (Done key d d mid b) := hd2
          clear hd2
          go_wp2_with fail
          go_end0
          exact ⟨rfl, d, Srt.cut_done HZ.out HD1.out HD2.out, S1.out⟩
       ·have f3 : ¬ (a : Int) < (s : Int) := by omega
        by_cases c3 : mid < e ∧ e < b
        ·have f5 : (mid : Int) < (e : Int) := by omega
         have f6 : (e : Int) < (b : Int) := by omega
         have hcall2 := IH.out (b - mid) (by omega) mid e b d0 d w0 _ HC.out R (by omega) S1.out rfl (by omega) (by omega) (by omega) (by omega) (Srt.right_l HZ.out HD1.out) (Srt.right_r HZ.out HD1.out)
         rw [show Array.size d = d.size by omega] at hcall2
         go_wp2_with (go_at_call 98; (try rw [qe]); refine hcall2.mono ?_; rintro e_ w5 ⟨rfl, r2, hd2, S5⟩)
         go_end0
         exact ⟨rfl, r2, Srt.cut_done HZ.out HD1.out hd2, S5⟩
        ·have hd2 := Srt.right_none HZ.out HD1.out c3
         by_cases c4 : mid < e
         ·have f5 : (mid : Int) < (e : Int) := by omega
          have f6 : ¬ (e : Int) < (b : Int) := by omega
          have HD2 : Aside (Done key d d mid b) := hd2
          clear hd2
          go_wp2_with fail
          go_end0
          exact ⟨rfl, d, Srt.cut_done HZ.out HD1.out HD2.out, S1.out⟩
         ·have f5 : ¬ (mid : Int) < (e : Int) := by omega
          have HD2 : Aside (Done key d d mid b) := hd2
          clear hd2
          go_wp2_with fail
          go_end0
          exact ⟨rfl, d, Srt.cut_done HZ.out HD1.out HD2.out, S1.out⟩
 ·have t3 : ¬ (mid : Int) < (m : Int) := by omega
  have q0 : s0 = a := by omega
  have q1 : r0 = m := by omega
  have HQ : Aside (s0 = a ∧ r0 = m) := ⟨q0, q1⟩
  clear hmid hnn hp hcase q0 q1
  go_enter Tryd.func98, Tryd.ntmps98
  go_wp2
  go_loopg [20, 21] (r0 - s0) (fun kx s20 s21 wr => ∃ (s r : Nat), s20 = .int .i64 s ∧ s21 = .int .i64 r ∧ r - s ≤ kx ∧ s0 ≤ s ∧ s ≤ r ∧ r ≤ r0 ∧ Aside (SWK enc k w0 blk off d wr) ∧ Aside ((∀ q, s0 ≤ q → q < s → key d[q]! ≤ key d[p - q]!) ∧ (∀ q, r ≤ q → q < r0 → key d[p - q]! < key d[q]!)))
  case atStart => exact ⟨s0, r0, by (first | rfl | rw [HQ.out.1]), by (first | rfl | rw [HQ.out] | rw [HQ.out.2]), by omega, by omega, by omega, by omega, S0, ⟨fun q q1 q2 => by omega, fun q q1 q2 => by omega⟩⟩
  case round =>
   clear S0
   obtain ⟨s, r, rfl, rfl, hkx, hs, hsr, hr, S1, HF⟩ := hrel
   by_cases hlt : s < r
   ·have b1 : (s : Int) < (r : Int) := by omega
    obtain ⟨c, hc⟩ : ∃ c, c = (s + r) / 2 := ⟨_, rfl⟩
    have hlc := HLO.out c (by omega) (by omega)
    obtain ⟨pc, hpc⟩ : ∃ pc, pc = p - c := ⟨_, rfl⟩
    have qc : ((s : Int) + (r : Int)) / 2 = (c : Int) := by omega
    have qpc : (p : Int) - (c : Int) = (pc : Int) := by omega
    have hc1 : s ≤ c := by omega
    have hc2 : c < r := by omega
    have hpc1 : m ≤ pc := by omega
    have hpc2 : pc < b := by omega
    have HPC : Aside (pc = p - c) := hpc
    clear hc hpc hlc
    by_cases hG : cf d[pc]! d[c]! < 0
    ·have ea10 : ((pc : Int)).toNat = pc := by omega
     have pa10 : (0 : Int) ≤ (pc : Int) := by omega
     have ba10 : (pc : Int) < (d.size : Int) := by omega
     have ra10 : IntKind.i64.wrap ((pc : Int)) = (pc : Int) := by rw [IntKind.wrap_i64]; omega
     have ec10 : ((c : Int)).toNat = c := by omega
     have pc10 : (0 : Int) ≤ (c : Int) := by omega
     have bc10 : (c : Int) < (d.size : Int) := by omega
     have rc10 : IntKind.i64.wrap ((c : Int)) = (c : Int) := by rw [IntKind.wrap_i64]; omega
     obtain ⟨x10, hx10⟩ : ∃ x, x = d[pc]! := ⟨_, rfl⟩
     obtain ⟨y10, hy10⟩ : ∃ x, x = d[c]! := ⟨_, rfl⟩
     have l10a := S1.out.ld R (by omega) Tryd.prog (pc) (by omega)
     have l10b := S1.out.ld R (by omega) Tryd.prog (c) (by omega)
     rw [← hx10] at l10a
     rw [← hy10] at l10b
     have hc10 := S1.out.cmp HC.out (by omega) x10 y10
     have hv10 : cf x10 y10 < 0 := by rw [hx10, hy10]; exact hG
     have hd10 : decide (cf x10 y10 < 0) = true := decide_eq_true hv10
     clear hx10 hy10
     have HG : Aside (cf d[pc]! d[c]! < 0) := hG
     clear hG
     go_wp2_with fail
     go_quiet_grown (first | (go_at_fn g; refine Calls.grown_of (hc10 _ _)))
     have S2 : Aside (SWK enc k w0 blk off d (grow (wr.drewN nq) osq)) := S1.out.grown nq osq
     clear l10a l10b hc10 S1
     generalize grow (wr.drewN nq) osq = w2 at S2 ⊢
     clear nq osq
     go_wp2
     go_roundg (c - s)
     case measure => omega
     case rel => exact ⟨s, c, rfl, by (first | rfl | (congr 1; omega)), Nat.le_refl _, by omega, by omega, by omega, S2, ⟨HF.out.1, Srt.cut_gt HL.out HRR.out ha0 hm0 HLO.out (by omega) (by omega) (HPC.out ▸ (HCF.out _ _).1 HG.out)⟩⟩
    ·have ea11 : ((pc : Int)).toNat = pc := by omega
     have pa11 : (0 : Int) ≤ (pc : Int) := by omega
     have ba11 : (pc : Int) < (d.size : Int) := by omega
     have ra11 : IntKind.i64.wrap ((pc : Int)) = (pc : Int) := by rw [IntKind.wrap_i64]; omega
     have ec11 : ((c : Int)).toNat = c := by omega
     have pc11 : (0 : Int) ≤ (c : Int) := by omega
     have bc11 : (c : Int) < (d.size : Int) := by omega
     have rc11 : IntKind.i64.wrap ((c : Int)) = (c : Int) := by rw [IntKind.wrap_i64]; omega
     obtain ⟨x11, hx11⟩ : ∃ x, x = d[pc]! := ⟨_, rfl⟩
     obtain ⟨y11, hy11⟩ : ∃ x, x = d[c]! := ⟨_, rfl⟩
     have l11a := S1.out.ld R (by omega) Tryd.prog (pc) (by omega)
     have l11b := S1.out.ld R (by omega) Tryd.prog (c) (by omega)
     rw [← hx11] at l11a
     rw [← hy11] at l11b
     have hc11 := S1.out.cmp HC.out (by omega) x11 y11
     have hv11 : ¬ cf x11 y11 < 0 := by rw [hx11, hy11]; exact hG
     have hd11 : decide (cf x11 y11 < 0) = false := decide_eq_false hv11
     clear hx11 hy11
     have HG : Aside (¬ cf d[pc]! d[c]! < 0) := hG
     clear hG
     go_wp2_with fail
     go_quiet_grown (first | (go_at_fn g; refine Calls.grown_of (hc11 _ _)))
     have S2 : Aside (SWK enc k w0 blk off d (grow (wr.drewN nq) osq)) := S1.out.grown nq osq
     clear l11a l11b hc11 S1
     generalize grow (wr.drewN nq) osq = w2 at S2 ⊢
     clear nq osq
     go_wp2
     go_roundg (r - (c + 1))
     case measure => omega
     case rel => exact ⟨c + 1, r, by (first | rfl | (congr 1; omega)), rfl, Nat.le_refl _, by omega, by omega, by omega, S2, ⟨Srt.cut_le HL.out HRR.out ha0 hm0 HLO.out (by omega) (by omega) (by have h_ := HG.out; have e_ := HCF.out d[pc]! d[c]!; rw [HPC.out] at h_ e_; omega), HF.out.2⟩⟩
   ·obtain rfl : s = r := by omega
    have b1 : ¬ (s : Int) < (s : Int) := by omega
    obtain ⟨hmid, hnn, hp, hcase⟩ := HX.out
    have hcut := Srt.cut_of HL.out HRR.out hmb hmid hnn hp hcase hs hr (fun q q1 q2 => HF.out.1 q q1 q2) (fun q q1 q2 => HF.out.2 q q1 q2)
    obtain ⟨e, he⟩ : ∃ e, e = nn - s := ⟨_, rfl⟩
    rw [← he] at hcut
    obtain ⟨hC, k1, k2, k3, k4, k5⟩ := hcut
    have HCU : Aside (Cut key d a m b s e) := hC
    clear hC HF
    have HE : Aside (e = nn - s) := he
    have qe : (nn : Int) - (s : Int) = ((e : Nat) : Int) := by omega
    have K5 : Aside (mid = s + (e - m)) := k5
    clear hmid hnn hp hcase he k5
    by_cases c1 : s < m ∧ m < e
    ·have f1 : (s : Int) < (m : Int) := by omega
     have f2 : (m : Int) < (e : Int) := by omega
     have hcall0 := rotate_calls k aE zE enc g cb blk off cap s m e d0 d w0 _ R hs' S1.out (by omega) (by omega) (by omega) hsz
     go_wp2_with (go_at_call 106; (try rw [qe]); refine hcall0.mono ?_; rintro e_ w3 ⟨rfl, r, hrot, S3⟩; refine Hold.out ?_)
     refine ⟨?_⟩
     have HZ : Aside (Srt.CutAt key d r a m b s e mid) := ⟨hrot, HCU.out, k1, k2, k3, k4, hb, K5.out⟩
     have hzr := hrot.1
     have S7 : Aside (SWK enc k w0 blk off r w3) := S3
     clear hrot S3 hcall0 S1
     by_cases c2 : a < s ∧ s < mid
     ·have f3 : (a : Int) < (s : Int) := by omega
      have f4 : (s : Int) < (mid : Int) := by omega
      have hcall1 := IH.out (mid - a) (by omega) a s mid d0 r w0 _ HC.out R (by omega) S7.out rfl (by omega) (by omega) (by omega) (by omega) (Srt.cut_ss HZ.out) (Srt.cut_sm HZ.out)
      rw [show Array.size r = d.size by omega] at hcall1
      go_wp2_with (go_at_call 98; refine hcall1.mono ?_; rintro e_ w4 ⟨rfl, r1, hd1, S4⟩; refine Hold.out ?_)
      refine ⟨?_⟩
      have HD1 : Aside (Done key r r1 a mid) := hd1
      have hz1 := hd1.size
      have S6 : Aside (SWK enc k w0 blk off r1 w4) := S4
      clear hd1 S4 hcall1
      by_cases c3 : mid < e ∧ e < b
      ·have f5 : (mid : Int) < (e : Int) := by omega
       have f6 : (e : Int) < (b : Int) := by omega
       have hcall2 := IH.out (b - mid) (by omega) mid e b d0 r1 w0 _ HC.out R (by omega) S6.out rfl (by omega) (by omega) (by omega) (by omega) (Srt.right_l HZ.out HD1.out) (Srt.right_r HZ.out HD1.out)
       rw [show Array.size r1 = d.size by omega] at hcall2
       go_wp2_with (go_at_call 98; (try rw [qe]); refine hcall2.mono ?_; rintro e_ w5 ⟨rfl, r2, hd2, S5⟩)
       go_end0
       exact ⟨rfl, r2, Srt.cut_done HZ.out HD1.out hd2, S5⟩
      ·have hd2 := Srt.right_none HZ.out HD1.out c3
       by_cases c4 : mid < e
       ·have f5 : (mid : Int) < (e : Int) := by omega
        have f6 : ¬ (e : Int) < (b : Int) := by omega
        have HD2 : Aside (Done key r1 r1 mid b) := hd2
        clear hd2
        go_wp2_with fail
        go_end0
        exact ⟨rfl, r1, Srt.cut_done HZ.out HD1.out HD2.out, S6.out⟩
       ·have f5 : ¬ (mid : Int) < (e : Int) := by omega
        have HD2 : Aside (Done key r1 r1 mid b) := hd2
        clear hd2
        go_wp2_with fail
        go_end0
        exact ⟨rfl, r1, Srt.cut_done HZ.out HD1.out HD2.out, S6.out⟩
     ·have hd1 := Srt.left_none HZ.out c2
      have HD1 : Aside (Done key r r a mid) := hd1
      clear hd1
      by_cases c5 : a < s
      ·have f3 : (a : Int) < (s : Int) := by omega
       have f4 : ¬ (s : Int) < (mid : Int) := by omega
       by_cases c3 : mid < e ∧ e < b
       ·have f5 : (mid : Int) < (e : Int) := by omega
        have f6 : (e : Int) < (b : Int) := by omega
        have hcall2 := IH.out (b - mid) (by omega) mid e b d0 r w0 _ HC.out R (by omega) S7.out rfl (by omega) (by omega) (by omega) (by omega) (Srt.right_l HZ.out HD1.out) (Srt.right_r HZ.out HD1.out)
        rw [show Array.size r = d.size by omega] at hcall2
        go_wp2_with (go_at_call 98; (try rw [qe]); refine hcall2.mono ?_; rintro e_ w5 ⟨rfl, r2, hd2, S5⟩)
        go_end0
        exact ⟨rfl, r2, Srt.cut_done HZ.out HD1.out hd2, S5⟩
       ·have hd2 := Srt.right_none HZ.out HD1.out c3
        by_cases c4 : mid < e
        ·have f5 : (mid : Int) < (e : Int) := by omega
         have f6 : ¬ (e : Int) < (b : Int) := by omega
         have HD2 : Aside (Done key r r mid b) := hd2
         clear hd2
         go_wp2_with fail
         go_end0
         exact ⟨rfl, r, Srt.cut_done HZ.out HD1.out HD2.out, S7.out⟩
        ·have f5 : ¬ (mid : Int) < (e : Int) := by omega
         have HD2 : Aside (Done key r r mid b) := hd2
         clear hd2
         go_wp2_with fail
         go_end0
         exact ⟨rfl, r, Srt.cut_done HZ.out HD1.out HD2.out, S7.out⟩
      ·have f3 : ¬ (a : Int) < (s : Int) := by omega
       by_cases c3 : mid < e ∧ e < b
       ·have f5 : (mid : Int) < (e : Int) := by omega
        have f6 : (e : Int) < (b : Int) := by omega
        have hcall2 := IH.out (b - mid) (by omega) mid e b d0 r w0 _ HC.out R (by omega) S7.out rfl (by omega) (by omega) (by omega) (by omega) (Srt.right_l HZ.out HD1.out) (Srt.right_r HZ.out HD1.out)
        rw [show Array.size r = d.size by omega] at hcall2
        go_wp2_with (go_at_call 98; (try rw [qe]); refine hcall2.mono ?_; rintro e_ w5 ⟨rfl, r2, hd2, S5⟩)
        go_end0
        exact ⟨rfl, r2, Srt.cut_done HZ.out HD1.out hd2, S5⟩
       ·have hd2 := Srt.right_none HZ.out HD1.out c3
        by_cases c4 : mid < e
        ·have f5 : (mid : Int) < (e : Int) := by omega
         have f6 : ¬ (e : Int) < (b : Int) := by omega
         have HD2 : Aside (Done key r r mid b) := hd2
         clear hd2
         go_wp2_with fail
         go_end0
         exact ⟨rfl, r, Srt.cut_done HZ.out HD1.out HD2.out, S7.out⟩
        ·have f5 : ¬ (mid : Int) < (e : Int) := by omega
         have HD2 : Aside (Done key r r mid b) := hd2
         clear hd2
         go_wp2_with fail
         go_end0
         exact ⟨rfl, r, Srt.cut_done HZ.out HD1.out HD2.out, S7.out⟩
    ·have HZ : Aside (Srt.CutAt key d d a m b s e mid) := ⟨Rot.none k2 k3 (by omega), HCU.out, k1, k2, k3, k4, hb, K5.out⟩
     by_cases c6 : s < m
     ·have f1 : (s : Int) < (m : Int) := by omega
      have f2 : ¬ (m : Int) < (e : Int) := by omega
      by_cases c2 : a < s ∧ s < mid
      ·have f3 : (a : Int) < (s : Int) := by omega
       have f4 : (s : Int) < (mid : Int) := by omega
       have hcall1 := IH.out (mid - a) (by omega) a s mid d0 d w0 _ HC.out R (by omega) S1.out rfl (by omega) (by omega) (by omega) (by omega) (Srt.cut_ss HZ.out) (Srt.cut_sm HZ.out)
       rw [show Array.size d = d.size by omega] at hcall1
       go_wp2_with (go_at_call 98; refine hcall1.mono ?_; rintro e_ w4 ⟨rfl, r1, hd1, S4⟩; refine Hold.out ?_)
       refine ⟨?_⟩
       have HD1 : Aside (Done key d r1 a mid) := hd1
       have hz1 := hd1.size
       have S6 : Aside (SWK enc k w0 blk off r1 w4) := S4
       clear hd1 S4 hcall1
       by_cases c3 : mid < e ∧ e < b
       ·have f5 : (mid : Int) < (e : Int) := by omega
        have f6 : (e : Int) < (b : Int) := by omega
        have hcall2 := IH.out (b - mid) (by omega) mid e b d0 r1 w0 _ HC.out R (by omega) S6.out rfl (by omega) (by omega) (by omega) (by omega) (Srt.right_l HZ.out HD1.out) (Srt.right_r HZ.out HD1.out)
        rw [show Array.size r1 = d.size by omega] at hcall2
        go_wp2_with (go_at_call 98; (try rw [qe]); refine hcall2.mono ?_; rintro e_ w5 ⟨rfl, r2, hd2, S5⟩)
        go_end0
        exact ⟨rfl, r2, Srt.cut_done HZ.out HD1.out hd2, S5⟩
       ·have hd2 := Srt.right_none HZ.out HD1.out c3
        by_cases c4 : mid < e
        ·have f5 : (mid : Int) < (e : Int) := by omega
         have f6 : ¬ (e : Int) < (b : Int) := by omega
         have HD2 : Aside (Done key r1 r1 mid b) := hd2
         clear hd2
         go_wp2_with fail
         go_end0
         exact ⟨rfl, r1, Srt.cut_done HZ.out HD1.out HD2.out, S6.out⟩
        ·have f5 : ¬ (mid : Int) < (e : Int) := by omega
         have HD2 : Aside (Done key r1 r1 mid b) := hd2
         clear hd2
         go_wp2_with fail
         go_end0
         exact ⟨rfl, r1, Srt.cut_done HZ.out HD1.out HD2.out, S6.out⟩
      ·have hd1 := Srt.left_none HZ.out c2
       have HD1 : Aside (Done key d d a mid) := hd1
       clear hd1
       by_cases c5 : a < s
       ·have f3 : (a : Int) < (s : Int) := by omega
        have f4 : ¬ (s : Int) < (mid : Int) := by omega
        by_cases c3 : mid < e ∧ e < b
        ·have f5 : (mid : Int) < (e : Int) := by omega
         have f6 : (e : Int) < (b : Int) := by omega
         have hcall2 := IH.out (b - mid) (by omega) mid e b d0 d w0 _ HC.out R (by omega) S1.out rfl (by omega) (by omega) (by omega) (by omega) (Srt.right_l HZ.out HD1.out) (Srt.right_r HZ.out HD1.out)
         rw [show Array.size d = d.size by omega] at hcall2
         go_wp2_with (go_at_call 98; (try rw [qe]); refine hcall2.mono ?_; rintro e_ w5 ⟨rfl, r2, hd2, S5⟩)
         go_end0
         exact ⟨rfl, r2, Srt.cut_done HZ.out HD1.out hd2, S5⟩
        ·have hd2 := Srt.right_none HZ.out HD1.out c3
         by_cases c4 : mid < e
         ·have f5 : (mid : Int) < (e : Int) := by omega
          have f6 : ¬ (e : Int) < (b : Int) := by omega
          have HD2 : Aside (Done key d d mid b) := hd2
          clear hd2
          go_wp2_with fail
          go_end0
          exact ⟨rfl, d, Srt.cut_done HZ.out HD1.out HD2.out, S1.out⟩
         ·have f5 : ¬ (mid : Int) < (e : Int) := by omega
          have HD2 : Aside (Done key d d mid b) := hd2
          clear hd2
          go_wp2_with fail
          go_end0
          exact ⟨rfl, d, Srt.cut_done HZ.out HD1.out HD2.out, S1.out⟩
       ·have f3 : ¬ (a : Int) < (s : Int) := by omega
        by_cases c3 : mid < e ∧ e < b
        ·have f5 : (mid : Int) < (e : Int) := by omega
         have f6 : (e : Int) < (b : Int) := by omega
         have hcall2 := IH.out (b - mid) (by omega) mid e b d0 d w0 _ HC.out R (by omega) S1.out rfl (by omega) (by omega) (by omega) (by omega) (Srt.right_l HZ.out HD1.out) (Srt.right_r HZ.out HD1.out)
         rw [show Array.size d = d.size by omega] at hcall2
         go_wp2_with (go_at_call 98; (try rw [qe]); refine hcall2.mono ?_; rintro e_ w5 ⟨rfl, r2, hd2, S5⟩)
         go_end0
         exact ⟨rfl, r2, Srt.cut_done HZ.out HD1.out hd2, S5⟩
        ·have hd2 := Srt.right_none HZ.out HD1.out c3
         by_cases c4 : mid < e
         ·have f5 : (mid : Int) < (e : Int) := by omega
          have f6 : ¬ (e : Int) < (b : Int) := by omega
          have HD2 : Aside (Done key d d mid b) := hd2
          clear hd2
          go_wp2_with fail
          go_end0
          exact ⟨rfl, d, Srt.cut_done HZ.out HD1.out HD2.out, S1.out⟩
         ·have f5 : ¬ (mid : Int) < (e : Int) := by omega
          have HD2 : Aside (Done key d d mid b) := hd2
          clear hd2
          go_wp2_with fail
          go_end0
          exact ⟨rfl, d, Srt.cut_done HZ.out HD1.out HD2.out, S1.out⟩
     ·have f1 : ¬ (s : Int) < (m : Int) := by omega
      by_cases c2 : a < s ∧ s < mid
      ·have f3 : (a : Int) < (s : Int) := by omega
       have f4 : (s : Int) < (mid : Int) := by omega
       have hcall1 := IH.out (mid - a) (by omega) a s mid d0 d w0 _ HC.out R (by omega) S1.out rfl (by omega) (by omega) (by omega) (by omega) (Srt.cut_ss HZ.out) (Srt.cut_sm HZ.out)
       rw [show Array.size d = d.size by omega] at hcall1
       go_wp2_with (go_at_call 98; refine hcall1.mono ?_; rintro e_ w4 ⟨rfl, r1, hd1, S4⟩; refine Hold.out ?_)
       refine ⟨?_⟩
       have HD1 : Aside (Done key d r1 a mid) := hd1
       have hz1 := hd1.size
       have S6 : Aside (SWK enc k w0 blk off r1 w4) := S4
       clear hd1 S4 hcall1
       by_cases c3 : mid < e ∧ e < b
       ·have f5 : (mid : Int) < (e : Int) := by omega
        have f6 : (e : Int) < (b : Int) := by omega
        have hcall2 := IH.out (b - mid) (by omega) mid e b d0 r1 w0 _ HC.out R (by omega) S6.out rfl (by omega) (by omega) (by omega) (by omega) (Srt.right_l HZ.out HD1.out) (Srt.right_r HZ.out HD1.out)
        rw [show Array.size r1 = d.size by omega] at hcall2
        go_wp2_with (go_at_call 98; (try rw [qe]); refine hcall2.mono ?_; rintro e_ w5 ⟨rfl, r2, hd2, S5⟩)
        go_end0
        exact ⟨rfl, r2, Srt.cut_done HZ.out HD1.out hd2, S5⟩
       ·have hd2 := Srt.right_none HZ.out HD1.out c3
        by_cases c4 : mid < e
        ·have f5 : (mid : Int) < (e : Int) := by omega
         have f6 : ¬ (e : Int) < (b : Int) := by omega
         have HD2 : Aside (Done key r1 r1 mid b) := hd2
         clear hd2
         go_wp2_with fail
         go_end0
         exact ⟨rfl, r1, Srt.cut_done HZ.out HD1.out HD2.out, S6.out⟩
        ·have f5 : ¬ (mid : Int) < (e : Int) := by omega
         have HD2 : Aside (Done key r1 r1 mid b) := hd2
         clear hd2
         go_wp2_with fail
         go_end0
         exact ⟨rfl, r1, Srt.cut_done HZ.out HD1.out HD2.out, S6.out⟩
      ·have hd1 := Srt.left_none HZ.out c2
       have HD1 : Aside (Done key d d a mid) := hd1
       clear hd1
       by_cases c5 : a < s
       ·have f3 : (a : Int) < (s : Int) := by omega
        have f4 : ¬ (s : Int) < (mid : Int) := by omega
        by_cases c3 : mid < e ∧ e < b
        ·have f5 : (mid : Int) < (e : Int) := by omega
         have f6 : (e : Int) < (b : Int) := by omega
         have hcall2 := IH.out (b - mid) (by omega) mid e b d0 d w0 _ HC.out R (by omega) S1.out rfl (by omega) (by omega) (by omega) (by omega) (Srt.right_l HZ.out HD1.out) (Srt.right_r HZ.out HD1.out)
         rw [show Array.size d = d.size by omega] at hcall2
         go_wp2_with (go_at_call 98; (try rw [qe]); refine hcall2.mono ?_; rintro e_ w5 ⟨rfl, r2, hd2, S5⟩)
         go_end0
         exact ⟨rfl, r2, Srt.cut_done HZ.out HD1.out hd2, S5⟩
        ·have hd2 := Srt.right_none HZ.out HD1.out c3
         by_cases c4 : mid < e
         ·have f5 : (mid : Int) < (e : Int) := by omega
          have f6 : ¬ (e : Int) < (b : Int) := by omega
          have HD2 : Aside (Done key d d mid b) := hd2
          clear hd2
          go_wp2_with fail
          go_end0
          exact ⟨rfl, d, Srt.cut_done HZ.out HD1.out HD2.out, S1.out⟩
         ·have f5 : ¬ (mid : Int) < (e : Int) := by omega
          have HD2 : Aside (Done key d d mid b) := hd2
          clear hd2
          go_wp2_with fail
          go_end0
          exact ⟨rfl, d, Srt.cut_done HZ.out HD1.out HD2.out, S1.out⟩
       ·have f3 : ¬ (a : Int) < (s : Int) := by omega
        by_cases c3 : mid < e ∧ e < b
        ·have f5 : (mid : Int) < (e : Int) := by omega
         have f6 : (e : Int) < (b : Int) := by omega
         have hcall2 := IH.out (b - mid) (by omega) mid e b d0 d w0 _ HC.out R (by omega) S1.out rfl (by omega) (by omega) (by omega) (by omega) (Srt.right_l HZ.out HD1.out) (Srt.right_r HZ.out HD1.out)
         rw [show Array.size d = d.size by omega] at hcall2
         go_wp2_with (go_at_call 98; (try rw [qe]); refine hcall2.mono ?_; rintro e_ w5 ⟨rfl, r2, hd2, S5⟩)
         go_end0
         exact ⟨rfl, r2, Srt.cut_done HZ.out HD1.out hd2, S5⟩
        ·have hd2 := Srt.right_none HZ.out HD1.out c3
         by_cases c4 : mid < e
         ·have f5 : (mid : Int) < (e : Int) := by omega
          have f6 : ¬ (e : Int) < (b : Int) := by omega
          have HD2 : Aside (Done key d d mid b) := hd2
          clear hd2
          go_wp2_with fail
          go_end0
          exact ⟨rfl, d, Srt.cut_done HZ.out HD1.out HD2.out, S1.out⟩
         ·have f5 : ¬ (mid : Int) < (e : Int) := by omega
          have HD2 : Aside (Done key d d mid b) := hd2
          clear hd2
          go_wp2_with fail
          go_end0
          exact ⟨rfl, d, Srt.cut_done HZ.out HD1.out HD2.out, S1.out⟩
end
end Go.Proofs.YtkmkgpigmldhnaaDoor.P
namespace Go.Proofs.YtkmkgpigmldhnaaDoor.P
open Go.RowKit Go.Shelf Go.Lib Go.Sort Go.Proofs.YtkmkgpigmldhnaaDoorW.PrintWords Go.Proofs.YtkmkgpigmldhnaaDoorW.PrintLast Go.Proofs.YtkmkgpigmldhnaaDoorW.PrintMore
open Go.Proofs.YtkmkgpigmldhnaaDoor.Srt (Swr Rot Done Cut CutAt Srtd Runs Half Stb)
section
variable {α : Type} [Inhabited α]
theorem insert_w (k : Nat) (aE : ∀ w, (isAgg 60).run Tryd.prog w = .ok true w) (zE : ∀ w, (Go.sizeOf 60).run Tryd.prog w = .ok k w) (key : α → Int) (cf : α → α → Int) (hcf : ∀ x y, cf x y < 0 ↔ key x < key y) (enc : α → List Value) (g : Nat) (cb : Array Value) (blk off cap : Nat) (eg : ∀ args w, (callFunc g args).run Tryd.prog w = .ok (.enter g args) w)
  (a b : Nat) (d0 d : Array α) (w0 w : World) (hcmp : CmpLays Tryd.prog g cb enc k cf blk off d0.size w0) (R : RowK enc k w0 blk off d0) (hs : d0.size = d.size) (S : SWK enc k w0 blk off d w) (hab : a ≤ b) (hb : b ≤ d.size) (hsz : d.size < 2305843009213693952) :
  Calls Tryd.prog 97 #[.slice (some ⟨blk, off, none⟩) d.size cap, .int .i64 a, .int .i64 b, .func (.func g) #[] cb] w fun e w' => e = .returned (.tuple #[]) ∧ ∃ r, Done key d r a b ∧ SWK enc k w0 blk off r w' := by
 have hlt : ltOf cf = fun x y => decide (key x < key y) := by
  funext x y
  unfold ltOf
  by_cases h : key x < key y
  ·rw [decide_eq_true h, decide_eq_true ((hcf x y).2 h)]
  ·rw [decide_eq_false h, decide_eq_false (mt (hcf x y).1 h)]
 have hd : Done key d (Sort.insertionSort (ltOf cf) d a b) a b := by rw [hlt]; exact Srt.insertion_done d a b hab hb
 have hC : CmpLays Tryd.prog g cb enc k cf blk off d.size w := fun m os dk hdk x y => by
  obtain ⟨n0, os0, rfl⟩ := S
  rw [sortWorldK_on enc k w0 blk off n0 m d dk os0 os R.hblk hdk]
  exact hcmp _ _ dk (by omega) x y
 refine (AnyQ.insertionSortCmpFunc Tryd.laysIns k aE zE enc R.hk R.h1 cf g cb blk off cap a b d w eg hC (S.holds R.hblk R.hH hs.symm) (S.lt R.hblk) hab hb (by omega)).mono ?_
 rintro e w' ⟨rfl, n, os, rfl⟩
 exact ⟨rfl, _, hd, S.on R.hblk n _ os hd.size⟩
set_option maxHeartbeats 16000000 in
set_option maxRecDepth 1000000 in
theorem stable_calls (k : Nat) (aE : ∀ w, (isAgg 60).run Tryd.prog w = .ok true w) (zE : ∀ w, (Go.sizeOf 60).run Tryd.prog w = .ok k w) (key : α → Int) (cf : α → α → Int) (hcf : ∀ x y, cf x y < 0 ↔ key x < key y) (enc : α → List Value) (g : Nat) (cb : Array Value) (blk off cap : Nat) (eg : ∀ args w, (callFunc g args).run Tryd.prog w = .ok (.enter g args) w)
  (d0 d : Array α) (w0 w : World) (hcmp : CmpLays Tryd.prog g cb enc k cf blk off d0.size w0) (R : RowK enc k w0 blk off d0) (hs : d0.size = d.size) (S : SWK enc k w0 blk off d w) (hsz : d.size < 2305843009213693952) :
  Calls Tryd.prog 80 #[.slice (some ⟨blk, off, none⟩) d.size cap, .int .i64 d.size, .func (.func g) #[] cb] w fun e w' => e = .returned (.tuple #[]) ∧ ∃ r, Stb key d.toList r.toList ∧ Srtd key r 0 d.size ∧ SWK enc k w0 blk off r w' := by
 have S0 : Aside (SWK enc k w0 blk off d w) := S
 have HC : Aside (CmpLays Tryd.prog g cb enc k cf blk off d0.size w0) := hcmp
 have HCF : Aside (∀ x y, cf x y < 0 ↔ key x < key y) := hcf
 have EG : Aside (∀ args w, (callFunc g args).run Tryd.prog w = .ok (.enter g args) w) := eg
 clear S hcmp hcf eg
 obtain ⟨n, hn⟩ : ∃ n, n = d.size := ⟨_, rfl⟩
 rw [← hn] at hs hsz ⊢
 have HN : Aside (n = d.size) := hn
 have hn2 : d.size ≤ n := by omega
 clear hn
 go_enter Tryd.func80, Tryd.ntmps80
 go_wp2
 go_loopg [7, 8] n (fun kx s7 s8 wr => ∃ (c a : Nat) (dk : Array α), s7 = .int .i64 a ∧ s8 = .int .i64 ((a + 20 : Nat) : Int) ∧ n - a ≤ kx ∧ a ≤ n ∧ Aside (dk.size = n) ∧ Aside (a = c * 20) ∧ Aside (SWK enc k w0 blk off dk wr) ∧ Aside (Stb key d.toList dk.toList) ∧ Aside (∀ c', c' < c → Srtd key dk (c' * 20) (min (c' * 20 + 20) n)))
 case atStart => exact ⟨0, 0, d, rfl, rfl, by omega, Nat.zero_le _, HN.out.symm, rfl, S0, Stb.refl key _, fun c' hc => by omega⟩
 case round =>
  clear S0
  obtain ⟨c, a, dk, rfl, rfl, hkx, han, HD, HA, S1, HB, HR⟩ := hrel
  by_cases h20 : a + 20 ≤ n
  ·have b1 : (a : Int) + 20 ≤ (n : Int) := by omega
   have hcall := insert_w k aE zE key cf HCF.out enc g cb blk off cap EG.out a (a + 20) d0 dk w0 wr HC.out R (by rw [HD.out]; exact hs) S1.out (by omega) (by rw [HD.out]; exact h20) (by rw [HD.out]; exact hsz)
   rw [HD.out, show ((a + 20 : Nat) : Int) = (a : Int) + 20 by omega] at hcall
   go_wp2_with (go_at_call 97; refine hcall.mono ?_; rintro e w1 ⟨rfl, r, hr, S2⟩; have S3 : Aside (SWK enc k w0 blk off r w1) := S2; have HE : Aside (Done key dk r a (a + 20)) := hr; clear hr S2)
   go_roundg (n - (a + 20))
   case measure => omega
   case rel =>
    refine ⟨c + 1, a + 20, r, by first | rfl | go_num, by first | rfl | go_num, Nat.le_refl _, h20, HE.out.size.trans HD.out, (by have := HA.out; omega : a + 20 = (c + 1) * 20), S3, HB.out.trans HE.out.stb, ?_⟩
    have hd := HE.out
    rw [HA.out] at hd
    exact Srt.runs_step HR.out hd
  ·have b1 : ¬ (a : Int) + 20 ≤ (n : Int) := by omega
   have hcall := insert_w k aE zE key cf HCF.out enc g cb blk off cap EG.out a n d0 dk w0 wr HC.out R (by rw [HD.out]; exact hs) S1.out han (by rw [HD.out]; exact Nat.le_refl _) (by rw [HD.out]; exact hsz)
   rw [HD.out] at hcall
   go_wp2_with (go_at_call 97; refine hcall.mono ?_; rintro e w1 ⟨rfl, r, hr, S2⟩; refine Hold.out ?_)
   refine ⟨?_⟩
   have hd := hr
   rw [HA.out] at hd
   have S3 : Aside (SWK enc k w0 blk off r w1) := S2
   have HRN : Aside (Runs key r 20 n) := Srt.runs_last HR.out (by have := HA.out; omega) hd
   have HB3 : Aside (Stb key d.toList r.toList) := HB.out.trans hr.stb
   have HD3 : Aside (r.size = n) := hr.size.trans HD.out
   clear hd hr S2 hcall S1 HR HB HD HA
   go_wp2
   go_loopg [6] n (fun kx s6 wr => ∃ (bs : Nat) (dk : Array α), s6 = .int .i64 bs ∧ 20 ≤ bs ∧ bs < 9223372036854775808 ∧ n - bs ≤ kx ∧ Aside (dk.size = n) ∧ Aside (SWK enc k w0 blk off dk wr) ∧ Aside (Stb key d.toList dk.toList) ∧ Aside (Runs key dk bs n))
   case atStart => exact ⟨20, r, rfl, Nat.le_refl _, by omega, by omega, HD3, S3, HB3, HRN⟩
   case round =>
    clear S3 HRN HB3 HD3
    obtain ⟨bs, dk, rfl, hbs, hbs2, hkx, HD, S1, HB, HR⟩ := hrel
    by_cases hlt : bs < n
    ·have b2 : (bs : Int) < (n : Int) := by omega
     obtain ⟨tb, htb⟩ : ∃ tb, tb = 2 * bs := ⟨_, rfl⟩
     have q1 : 2 * (bs : Int) = (tb : Int) := by omega
     have q2 : (bs : Int) * 2 = (tb : Int) := by omega
     have htb1 : tb ≤ 2 * bs := by omega
     have htb2 : 2 * bs ≤ tb := by omega
     have HTB : Aside (tb = 2 * bs) := htb
     clear htb
     go_wp2
     go_loopg [7, 8] n (fun kx s7 s8 wr => ∃ (c a : Nat) (dj : Array α), s7 = .int .i64 a ∧ s8 = .int .i64 ((a + tb : Nat) : Int) ∧ n - a ≤ kx ∧ a ≤ n ∧ Aside (dj.size = n) ∧ Aside (a = c * (2 * bs)) ∧ Aside (SWK enc k w0 blk off dj wr) ∧ Aside (Stb key d.toList dj.toList) ∧ Aside (Half key dj bs n c))
     case atStart => exact ⟨0, 0, dk, rfl, by first | rfl | (congr 1; omega), by omega, Nat.zero_le _, HD, (by omega : 0 = 0 * (2 * bs)), S1, HB, HR.out.half⟩
     case round =>
      clear S1 HB HR HD
      obtain ⟨c, a, dj, rfl, rfl, hkx2, han, HD, HA, S1, HB, HR⟩ := hrel
      by_cases h2 : a + tb ≤ n
      ·have b3 : (a : Int) + (tb : Int) ≤ (n : Int) := by omega
       have hl : Srtd key dj a (a + bs) := by have := HR.out.left (by rw [← HA.out]; omega); rwa [← HA.out] at this
       have hr : Srtd key dj (a + bs) (a + tb) := by have := HR.out.right; rwa [← HA.out, ← HTB.out, Nat.min_eq_left h2] at this
       have hcall := symMerge_calls k aE zE key cf HCF.out enc g cb blk off cap EG.out _ a (a + bs) (a + tb) d0 dj w0 wr HC.out R (by rw [HD.out]; exact hs) S1.out rfl (by omega) (by omega) (by rw [HD.out]; exact h2) (by rw [HD.out]; omega) hl hr
       rw [HD.out, show ((a + bs : Nat) : Int) = (a : Int) + (bs : Int) by omega, show ((a + tb : Nat) : Int) = (a : Int) + (tb : Int) by omega] at hcall
       clear hl hr
       go_wp2_with (go_at_call 98; refine hcall.mono ?_; rintro e_ w2 ⟨rfl, r2, hr2, S2⟩; have S4 : Aside (SWK enc k w0 blk off r2 w2) := S2; have HE : Aside (Done key dj r2 a (a + tb)) := hr2; clear hr2 S2)
       go_roundg (n - (a + tb))
       case measure => omega
       case rel =>
        refine ⟨c + 1, a + tb, r2, by first | rfl | go_num | (congr 1; omega), by first | rfl | go_num | (congr 1; omega), Nat.le_refl _, h2, HE.out.size.trans HD.out, ?_, S4, HB.out.trans HE.out.stb, ?_⟩
        ·show a + tb = (c + 1) * (2 * bs)
         rw [Nat.add_mul, Nat.one_mul, ← HA.out, HTB.out]
        ·have hd := HE.out
         rw [HA.out, HTB.out] at hd
         exact HR.out.step (by rw [← HA.out, ← HTB.out]; exact h2) hd
      ·have b3 : ¬ (a : Int) + (tb : Int) ≤ (n : Int) := by omega
       by_cases h3 : a + bs < n
       ·have b4 : (a : Int) + (bs : Int) < (n : Int) := by omega
        have hl : Srtd key dj a (a + bs) := by have := HR.out.left (by rw [← HA.out]; omega); rwa [← HA.out] at this
        have hr : Srtd key dj (a + bs) n := by have := HR.out.right; rwa [← HA.out, ← HTB.out, Nat.min_eq_right (by omega)] at this
        have hcall := symMerge_calls k aE zE key cf HCF.out enc g cb blk off cap EG.out _ a (a + bs) n d0 dj w0 wr HC.out R (by rw [HD.out]; exact hs) S1.out rfl (by omega) (by omega) (by rw [HD.out]; exact Nat.le_refl _) (by rw [HD.out]; omega) hl hr
        rw [HD.out, show ((a + bs : Nat) : Int) = (a : Int) + (bs : Int) by omega] at hcall
        clear hl hr
        go_wp2_with (go_at_call 98; refine hcall.mono ?_; rintro e_ w2 ⟨rfl, r2, hr2, S2⟩; have S4 : Aside (SWK enc k w0 blk off r2 w2) := S2; have HE : Aside (Done key dj r2 a n) := hr2; clear hr2 S2)
        go_roundg (n - tb)
        case measure => omega
        case rel =>
         have hd := HE.out
         rw [HA.out] at hd
         exact ⟨tb, r2, by first | rfl | (congr 1; omega), by omega, by omega, Nat.le_refl _, HE.out.size.trans HD.out, S4, HB.out.trans HE.out.stb, HTB.out ▸ HR.out.last (by rw [← HA.out, ← HTB.out]; omega) hd⟩
       ·have b4 : ¬ (a : Int) + (bs : Int) < (n : Int) := by omega
        go_wp2
        go_roundg (n - tb)
        case measure => omega
        case rel => exact ⟨tb, dj, by first | rfl | (congr 1; omega), by omega, by omega, Nat.le_refl _, HD, S1, HB, HTB.out ▸ HR.out.last (by rw [← HA.out, ← HTB.out]; omega) (HR.out.short (by rw [← HA.out]; omega))⟩
    ·have b2 : ¬ (bs : Int) < (n : Int) := by omega
     go_wp2
     go_end0
     exact ⟨rfl, dk, HB.out, HR.out.whole (by omega), S1.out⟩
end
end Go.Proofs.YtkmkgpigmldhnaaDoor.P
namespace Go.Proofs.YtkmkgpigmldhnaaDoor.P
open Go.RowKit Go.Shelf Go.Lib Go.Proofs.YtkmkgpigmldhnaaDoorW.PrintWords Go.Proofs.YtkmkgpigmldhnaaDoorW.PrintLast Go.Proofs.YtkmkgpigmldhnaaDoorW.PrintMore
def slices_Clone_byte_byte.f (l0 : List Int) : Option (List Int) := if l0.length < 140737488355328 then some l0 else none
theorem slices_Clone_byte_byte.calls (A0 : Option Addr) (c0 : Nat) (l0 : List Int) (r : List Int) (w : World) (hr0 : Kd.C (Kd.int .u8) w A0 l0.length l0) (hc0 : l0.length ≤ c0) (h : slices_Clone_byte_byte.f l0 = some r) :
  Calls Tryd.prog 35 #[.slice A0 l0.length c0] w fun e w' => ∃ v0_ : Value, e = .returned (v0_) ∧ Kd.R (Kd.int .u8) 5 w' w.heap.size (fun _ => True) v0_ r ∧ Below w.heap.size w w' := by
 unfold slices_Clone_byte_byte.f at h
 split at h
 ·obtain rfl := Option.some.inj h
  rename_i hl
  have HR := Aside0.mk hr0
  have HL := Aside0.mk hl
  cases A0 with
  | none =>
   obtain rfl : l0 = [] := by
    cases l0 with
    | nil => rfl
    | cons x l => obtain ⟨ad, e, _⟩ := hr0.2.2 (by simp); cases e
   clear hr0 hl hc0 h
   have he : ∀ w : World, (binOp BinOp.eql 25 (.slice none 0 c0) (.slice none 0 0)).run Tryd.prog w = .ok (.bool true) w := fun _ => by kernel_rfl
   go_enter Tryd.func35, Tryd.ntmps35
   go_wp2
   go_ret
   exact ⟨_, rfl, Kd.R_nil _ _ _ _ _, Below.refl _ _⟩
  | some ad =>
   clear hr0 hl h
   have he : ∀ (n : Nat) (w : World), (binOp BinOp.eql 25 (.slice (some ad) n c0) (.slice none 0 0)).run Tryd.prog w = .ok (.bool false) w := fun _ _ => by kernel_rfl
   go_enter Tryd.func35, Tryd.ntmps35
   go_wp2_with (first | ((with_reducible refine gate_dst (N := 5) rfl ?_); refine Kd.R_lit (Kd.int .u8) _ 5 ?hg (N := 5) ?hd (xs := ([] : List Int)) (inner := []) (ok := fun _ => True) (okp := fun _ => True) ?hr ?hp (fun _ hk => hk) trivial (Below.refl _ _) (Nat.le_refl _) (by simp) ?_; (case hd => rfl); (case hg => rfl); (case hr => first | (go_simp; done) | (go_simp; rfl)); (case hp => exact (Reps.none _ _)); intro v1 w1 ho hb hg_ hnew_; clear hg_ hnew_; have HO := Aside0.mk ho; have HB := Aside0.mk hb; clear ho hb) | ((with_reducible refine gate_builtin (b := .append) (xs := #[.tmp 5, .tmp 6]) rfl ?_); at_builtin; refine Kd.R_append_rows (Kd.int .u8) (w0 := w) w.heap.size rfl (.tmp 5) (.tmp 6) 25 5 (.int .u8 0) 1 rfl Tryd.underlying25 info5 rfl (by decide) (by omega) v1 [] l0 _ _ _ (fun _ => True) (fun _ => False) rfl rfl HO.out (Kd.C_below HR.out HB.out) (fun _ _ h => h) (fun _ h => h.elim) (fun _ _ => trivial) HB.out HB.out.size ?aL ?_; (case aL => have := HL.out; simp; omega); intro v2 w2 ho hb hg hat; have n0_ := Aside0.mk hb; have n1_ := Aside0.mk ho; clear HB HO; have HB := n0_; have HO := n1_; clear n0_ n1_; clear ho hb hg hat))
   go_ret
   exact ⟨_, rfl, by simpa using HO.out, HB.out⟩
 ·cases h
def slices_Clone_prop_Prop_prop_Prop.f (l0 : List (S60)) : Option (List (S60)) := if l0.length < 3518437208883 then some l0 else none
theorem slices_Clone_prop_Prop_prop_Prop.calls (A0 : Option Addr) (c0 : Nat) (l0 : List (S60)) (r : List (S60)) (w : World) (hr0 : Kd.C k60 w A0 l0.length l0) (hc0 : l0.length ≤ c0) (h : slices_Clone_prop_Prop_prop_Prop.f l0 = some r) :
  Calls Tryd.prog 55 #[.slice A0 l0.length c0] w fun e w' => ∃ v0_ : Value, e = .returned (v0_) ∧ Kd.R k60 60 w' w.heap.size (fun _ => True) v0_ r ∧ Below w.heap.size w w' := by
 unfold slices_Clone_prop_Prop_prop_Prop.f at h
 split at h
 ·obtain rfl := Option.some.inj h
  rename_i hl
  have HR := Aside0.mk hr0
  have HL := Aside0.mk hl
  cases A0 with
  | none =>
   obtain rfl : l0 = [] := by
    cases l0 with
    | nil => rfl
    | cons x l => obtain ⟨ad, e, _⟩ := hr0.2.2 (by simp); cases e
   clear hr0 hl hc0 h
   have he : ∀ w : World, (binOp BinOp.eql 27 (.slice none 0 c0) (.slice none 0 0)).run Tryd.prog w = .ok (.bool true) w := fun _ => by kernel_rfl
   go_enter Tryd.func55, Tryd.ntmps55
   go_wp2
   go_ret
   exact ⟨_, rfl, Kd.R_nil _ _ _ _ _, Below.refl _ _⟩
  | some ad =>
   clear hr0 hl h
   have he : ∀ (n : Nat) (w : World), (binOp BinOp.eql 27 (.slice (some ad) n c0) (.slice none 0 0)).run Tryd.prog w = .ok (.bool false) w := fun _ _ => by kernel_rfl
   go_enter Tryd.func55, Tryd.ntmps55
   go_wp2_with (first | ((with_reducible refine gate_dst (N := 5) rfl ?_); refine Kd.R_lit k60 _ 60 ?hg (N := 5) ?hd (xs := ([] : List (S60))) (inner := []) (ok := fun _ => True) (okp := fun _ => True) ?hr ?hp (fun _ hk => hk) trivial (Below.refl _ _) (Nat.le_refl _) (by simp) ?_; (case hd => rfl); (case hg => rfl); (case hr => first | (go_simp; done) | (go_simp; rfl)); (case hp => exact (Reps.none _ _)); intro v1 w1 ho hb hg_ hnew_; clear hg_ hnew_; have HO := Aside0.mk ho; have HB := Aside0.mk hb; clear ho hb) | ((with_reducible refine gate_builtin (b := .append) (xs := #[.tmp 5, .tmp 6]) rfl ?_); at_builtin; refine Kd.R_append_rows k60 (w0 := w) w.heap.size rfl (.tmp 5) (.tmp 6) 27 60 (.agg #[(.int .u8 0), (.int .u32 0), (.string ⟨#[]⟩), (.string ⟨#[]⟩)]) 40 rfl Tryd.underlying27 info60 rfl (by decide) (by omega) v1 [] l0 _ _ _ (fun _ => True) (fun _ => False) rfl rfl HO.out (Kd.C_below HR.out HB.out) (fun _ _ h => h) (fun _ h => h.elim) (fun _ _ => trivial) HB.out HB.out.size ?aL ?_; (case aL => have := HL.out; simp; omega); intro v2 w2 ho hb hg hat; have n0_ := Aside0.mk hb; have n1_ := Aside0.mk ho; clear HB HO; have HB := n0_; have HO := n1_; clear n0_ n1_; clear ho hb hg hat))
   go_ret
   exact ⟨_, rfl, by simpa using HO.out, HB.out⟩
 ·cases h
end Go.Proofs.YtkmkgpigmldhnaaDoor.P
namespace Go.Proofs.YtkmkgpigmldhnaaDoor.P
open Go.RowKit Go.Shelf Go.Lib Go.Sort Go.Proofs.YtkmkgpigmldhnaaDoorW.PrintWords Go.Proofs.YtkmkgpigmldhnaaDoorW.PrintLast Go.Proofs.YtkmkgpigmldhnaaDoorW.PrintMore
def cmpS (x y : S60) : Int := if x.f0 < y.f0 then -1 else if x.f0 > y.f0 then 1 else 0
def keyS (x : S60) : Int := x.f0
theorem compare_f (a b : Int) : cmp_Compare_uint8.f a b = some (if a < b then -1 else if a > b then 1 else 0) := by
 unfold cmp_Compare_uint8.f cmp_isNaN_uint8.f
 by_cases h : a < b
 ·simp [h]
 ·by_cases h2 : a > b
  ·simp [h, h2]
  ·simp [h, h2]
theorem sort_cmp (x y : S60) (W : World) : Calls Tryd.prog 57 #[.agg (encS x).toArray, .agg (encS y).toArray] W fun e w' => e = .returned (.int .i64 (cmpS x y)) ∧ ∃ q os', w' = grow (W.drewN q) os' := by
 have hu := Tryd.underlying60
 have HF := Aside0.mk (compare_f x.f0 y.f0)
 unfold cmpS
 generalize (if x.f0 < y.f0 then (-1 : Int) else if x.f0 > y.f0 then 1 else 0) = r at HF ⊢
 show Calls Tryd.prog 57 #[.agg #[.int .u8 x.f0, .int .u32 x.f1, .string x.f2, .string x.f3], .agg #[.int .u8 y.f0, .int .u32 y.f1, .string y.f2, .string y.f3]] W _
 go_enter Tryd.func57, Tryd.ntmps57
 go_wp2_with (go_at_call 58; refine (cmp_Compare_uint8.calls x.f0 y.f0 r _ HF.out).mono ?_; rintro e w' ⟨rfl, ⟨nd, rfl⟩⟩)
 go_ret
 refine ⟨rfl, nd, #[.cells #[.int .u8 x.f0, .int .u32 x.f1, .string x.f2, .string x.f3] 60, .cells #[.int .u8 y.f0, .int .u32 y.f1, .string y.f2, .string y.f3] 60], ?_⟩
 rw [alloc_eq_grow, alloc_eq_grow, grow_grow]; rfl
theorem cmpS_lt (x y : S60) : cmpS x y < 0 ↔ keyS x < keyS y := by
 unfold cmpS keyS
 by_cases h : x.f0 < y.f0
 ·rw [if_pos h]; exact ⟨fun _ => h, fun _ => by decide⟩
 ·rw [if_neg h]
  by_cases h2 : x.f0 > y.f0
  ·rw [if_pos h2]; exact ⟨fun h3 => absurd h3 (by decide), fun h3 => absurd h3 h⟩
  ·rw [if_neg h2]; exact ⟨fun h3 => absurd h3 (by decide), fun h3 => absurd h3 h⟩
theorem stable_any (g cap : Nat) (d : Array S60) (w : World) (hH : HoldsK encS 4 w g 0 d) (hg : g < w.heap.size) (hsz : d.size < 2305843009213693952) :
  Calls Tryd.prog 80 #[.slice (some ⟨g, 0, none⟩) d.size cap, .int .i64 (d.size : Int), .func (.func 57) #[] #[]] w fun e w' =>
   e = .returned (.tuple #[]) ∧ ∃ n os r, w' = sortWorldK encS 4 w g 0 n r os ∧ r.toList = Srt.srt keyS d.toList := by
 refine (stable_calls 4 Tryd.isAgg60 Tryd.sizeOf60 keyS cmpS cmpS_lt encS 57 #[] g 0 cap (enters_of Tryd.func57 (by kernel_rfl) rfl) d d w w (fun _ _ _ _ x y => sort_cmp x y _) ⟨encS_len, encS_one, hH, hg⟩ rfl (SWK.start hH) hsz).mono ?_
 rintro e w' ⟨rfl, r, hB, hS, ⟨n, os, rfl⟩⟩
 have hs : r.size = d.size := by simpa using hB.1.symm
 exact ⟨rfl, n, os, r, rfl, Srt.srt_of hB (Srt.pairwise_of r (by rw [hs]; exact hS))⟩
set_option maxRecDepth 1000000 in
theorem sortstable_any (g cap : Nat) (d : Array S60) (w : World) (hH : HoldsK encS 4 w g 0 d) (hg : g < w.heap.size) (hsz : d.size < 2305843009213693952) :
  Calls Tryd.prog 56 #[.slice (some ⟨g, 0, none⟩) d.size cap, .func (.func 57) #[] #[]] w fun e w' =>
   e = .returned (.tuple #[]) ∧ ∃ n os r, w' = sortWorldK encS 4 w g 0 n r os ∧ r.toList = Srt.srt keyS d.toList := by
 have HC := Aside0.mk (stable_any g cap d w hH hg hsz)
 clear hH hsz
 generalize Srt.srt keyS d.toList = R_ at HC ⊢
 go_enter Tryd.func56, Tryd.ntmps56
 go_wp2_with (go_at_call 80; refine HC.out.mono ?_; rintro e w1 ⟨rfl, HS⟩; have HW := Aside0.mk HS; clear HS)
 go_end0
 exact ⟨rfl, HW.out⟩
set_option maxRecDepth 1000000 in
theorem insert_none (A : Option Addr) (cap : Nat) (w : World) :
  Calls Tryd.prog 97 #[.slice A 0 cap, .int .i64 0, .int .i64 0, .func (.func 57) #[] #[]] w fun e w' => e = .returned (.tuple #[]) ∧ w' = w := by
 go_enter Tryd.func97, Tryd.ntmps97
 go_wp2
 go_loopg [8] 1 (fun _ v8 wr => v8 = .int .i64 1 ∧ wr = w)
 case atStart => exact ⟨rfl, rfl⟩
 case round =>
  obtain ⟨rfl, rfl⟩ := hrel
  go_wp2
  go_end0
  exact ⟨rfl, rfl⟩
set_option maxRecDepth 1000000 in
theorem stable_none (A : Option Addr) (cap : Nat) (w : World) :
  Calls Tryd.prog 80 #[.slice A 0 cap, .int .i64 0, .func (.func 57) #[] #[]] w fun e w' => e = .returned (.tuple #[]) ∧ w' = w := by
 go_enter Tryd.func80, Tryd.ntmps80
 go_wp2
 go_loopg [7, 8] 1 (fun _ v7 v8 wr => v7 = .int .i64 0 ∧ v8 = .int .i64 20 ∧ wr = w)
 case atStart => exact ⟨rfl, rfl, rfl⟩
 case round =>
  obtain ⟨rfl, rfl, rfl⟩ := hrel
  go_wp2_with (go_at_call 97; refine (insert_none A cap _).mono ?_; rintro e w1 ⟨rfl, rfl⟩)
  go_loopg [6] 1 (fun _ v6 wx => v6 = .int .i64 20 ∧ wx = w1)
  case atStart => exact ⟨rfl, rfl⟩
  case round =>
   obtain ⟨rfl, rfl⟩ := hrel
   go_wp2
   go_end0
   exact ⟨rfl, rfl⟩
set_option maxRecDepth 1000000 in
theorem sortstable_none (A : Option Addr) (cap : Nat) (w : World) :
  Calls Tryd.prog 56 #[.slice A 0 cap, .func (.func 57) #[] #[]] w fun e w' => e = .returned (.tuple #[]) ∧ w' = w := by
 go_enter Tryd.func56, Tryd.ntmps56
 go_wp2_with (go_at_call 80; refine (stable_none A cap _).mono ?_; rintro e w1 ⟨rfl, rfl⟩)
 go_end0
 exact ⟨rfl, rfl⟩
def props_Sort.f (l0 : List (S60)) : Option (List (S60)) := if l0.length < 3518437208832 then some (Srt.srt keyS l0) else none
theorem sortstable_own {W0 W : World} {v : Value} {xs : List S60} (hr : Kd.R k60 60 W W0.heap.size (fun _ => True) v xs) (hB : Below W0.heap.size W0 W) (hsz : xs.length < 3518437208832) :
  ∃ A c, v = .slice A xs.length c ∧ Calls Tryd.prog 56 #[.slice A xs.length c, .func (.func 57) #[] #[]] W fun e w' =>
   e = .returned (.tuple #[]) ∧ Kd.R k60 60 w' W0.heap.size (fun _ => True) (.slice A xs.length c) (Srt.srt keyS xs) ∧ Below W0.heap.size W0 w' := by
 cases xs with
 | nil =>
  obtain ⟨A, c, rfl, _, _⟩ := Kd.R_reads hr
  exact ⟨A, c, rfl, (sortstable_none A c W).mono fun e w' ⟨he, hw⟩ => by subst hw; exact ⟨he, hr, hB⟩⟩
 | cons x r =>
  obtain ⟨g, cap, cur, rfl, hb, _, hh, h1, h2, h3, h4⟩ := own_open hr (by simp)
  refine ⟨_, cap, rfl, ?_⟩
  have hs : (x :: r).toArray.size = (x :: r).length := by simp
  have h := sortstable_any g cap (x :: r).toArray W (holds_of hh _ (by simpa using h4)) (blk_lt hh) (by rw [hs]; omega)
  rw [hs] at h
  refine h.mono fun e w' ⟨he, n, os, D, hw, hl⟩ => ?_
  have hlen : (Srt.srt keyS (x :: r)).length = (x :: r).length := (Srt.srt_stb (key := keyS) (x :: r)).1.symm
  have hD : D.size = (x :: r).length := by rw [← hlen, ← hl]; simp
  obtain ⟨cur', hc1, hc2, hc3⟩ := block_of hh n D os (by rw [hD, h3]; omega)
  subst hw
  refine ⟨he, ?_, hB.grown (sort_grown W g n D os) hB.size (fun k e => by cases e; exact hb)⟩
  have := own_shut (ys := Srt.srt keyS (x :: r)) (ok := fun _ => True) hb trivial hc1 (by rw [hlen]; exact h1) h2 (by rw [hc2]; exact h3) (by rw [hlen, ← hD, hc3, hl])
  rw [hlen] at this
  exact this
set_option maxRecDepth 1000000 in
theorem props_Sort.calls (A0 : Option Addr) (c0 : Nat) (l0 : List (S60)) (r : List (S60)) (w : World) (hr0 : Kd.C k60 w A0 l0.length l0) (hc0 : l0.length ≤ c0) (h : props_Sort.f l0 = some r) :
  Calls Tryd.prog 29 #[.slice A0 l0.length c0] w fun e w' => ∃ v0_ : Value, e = .returned (v0_) ∧ Kd.R k60 60 w' w.heap.size (fun _ => True) v0_ r ∧ Below w.heap.size w w' := by
 unfold props_Sort.f at h
 split at h
 ·rename_i h20
  obtain rfl := Option.some.inj h
  have HF := Aside0.mk (show slices_Clone_prop_Prop_prop_Prop.f l0 = some l0 by unfold slices_Clone_prop_Prop_prop_Prop.f; rw [if_pos (by omega)])
  have HR := Aside0.mk hr0
  have HC := Aside0.mk hc0
  have H20 := Aside0.mk h20
  clear hr0 hc0 h20 h
  go_enter Tryd.func29, Tryd.ntmps29
  go_wp2_with (first | (go_at_call 55; refine (slices_Clone_prop_Prop_prop_Prop.calls A0 c0 l0 l0 _ HR.out HC.out HF.out).mono ?_; rintro e w1 ⟨v, rfl, ho, hb⟩; obtain ⟨A', c', rfl, hc⟩ := sortstable_own ho hb H20.out; have HS := Aside0.mk hc; clear ho hb hc) | (go_at_call 56; refine HS.out.mono ?_; rintro e w2 ⟨rfl, ho, hb⟩; have HO := Aside0.mk ho; have HB := Aside0.mk hb; clear ho hb))
  go_ret
  exact ⟨_, rfl, HO.out, HB.out⟩
 ·cases h
end Go.Proofs.YtkmkgpigmldhnaaDoor.P
namespace Go.Proofs.YtkmkgpigmldhnaaDoor.P
open Go.RowKit Go.Proofs.YtkmkgpigmldhnaaDoorW.PrintWords Go.Proofs.YtkmkgpigmldhnaaDoorW.PrintLast Go.Proofs.YtkmkgpigmldhnaaDoorW.PrintMore
attribute [local go_sem] max2_int min2_int max_two min_two max_three min_three max_four min_four
structure S58 where
  f0 : Int
  f1 : Int
  f2 : ByteArray
  f3 : ByteArray
def z58 : S58 := ⟨(0 : Int), (0 : Int), (⟨#[]⟩ : ByteArray), (⟨#[]⟩ : ByteArray)⟩
def k58 : Kd S58 := Kd.iso (Kd.pair (Kd.int .u8) (Kd.pair (Kd.int .u32) (Kd.pair Kd.string Kd.string))) (fun x : S58 => (x.f0, x.f1, x.f2, x.f3))
theorem k58_open {w : World} {x : S58} {cs : List Value} (h : k58.K w x cs) : cs = [.int .u8 x.f0, .int .u32 x.f1, .string x.f2, .string x.f3] := by
  obtain ⟨_, _, rfl, rfl, ⟨_, _, rfl, rfl, ⟨_, _, rfl, rfl, rfl⟩⟩⟩ := h
  exact rfl
theorem k58_openM {w : World} {base : Nat} {ok : Nat → Prop} {x : S58} {cs : List Value} (h : k58.M w base ok x cs) : cs = [.int .u8 x.f0, .int .u32 x.f1, .string x.f2, .string x.f3] := by
  obtain ⟨_, _, rfl, rfl, ⟨_, _, rfl, rfl, ⟨_, _, rfl, rfl, rfl⟩⟩⟩ := h
  exact rfl
theorem k58_mk (w : World) (x : S58)  : k58.K w x [.int .u8 x.f0, .int .u32 x.f1, .string x.f2, .string x.f3] := ⟨[.int .u8 x.f0], [.int .u32 x.f1, .string x.f2, .string x.f3], rfl, rfl, ⟨[.int .u32 x.f1], [.string x.f2, .string x.f3], rfl, rfl, ⟨[.string x.f2], [.string x.f3], rfl, rfl, rfl⟩⟩⟩
theorem k58_mkM (w : World) (base : Nat) (ok : Nat → Prop) (x : S58)  : k58.M w base ok x [.int .u8 x.f0, .int .u32 x.f1, .string x.f2, .string x.f3] := ⟨[.int .u8 x.f0], [.int .u32 x.f1, .string x.f2, .string x.f3], rfl, rfl, ⟨[.int .u32 x.f1], [.string x.f2, .string x.f3], rfl, rfl, ⟨[.string x.f2], [.string x.f3], rfl, rfl, rfl⟩⟩⟩
def rd_T58 (xs : List S58) (i : Int) : S58 := xs.getD i.toNat z58
theorem at_T58 {w : World} {A : Option Addr} {n : Nat} {xs : List S58} (h : Kd.C k58 w A n xs) (i : Int) (h0 : 0 ≤ i) (h1 : i < n) : ∃ ad , A = some ad ∧ w.cell? (ad.add (i.toNat * 4)) = some (.int .u8 (rd_T58 xs i).f0) ∧ w.cell? ⟨(ad.add (i.toNat * 4)).block, (ad.add (i.toNat * 4)).off + 1, none⟩ = some (.int .u32 (rd_T58 xs i).f1) ∧ w.cell? ⟨(ad.add (i.toNat * 4)).block, (ad.add (i.toNat * 4)).off + 2, none⟩ = some (.string (rd_T58 xs i).f2) ∧ w.cell? ⟨(ad.add (i.toNat * 4)).block, (ad.add (i.toNat * 4)).off + 3, none⟩ = some (.string (rd_T58 xs i).f3) := by
  obtain ⟨ad, c, e, _, hK, hc0⟩ := Kd.C_get h z58 i h0 h1
  have hc : ∀ j u, c[j]? = some u → w.cell? (ad.add (i.toNat * 4 + j)) = some u := hc0
  obtain rfl := k58_open hK
  exact ⟨ad, e, hc 0 _ rfl, by rw [← add_field _ _ 1 (by omega)]; exact hc 1 _ rfl, by rw [← add_field _ _ 2 (by omega)]; exact hc 2 _ rfl, by rw [← add_field _ _ 3 (by omega)]; exact hc 3 _ rfl⟩
end Go.Proofs.YtkmkgpigmldhnaaDoor.P
namespace Go.Proofs.YtkmkgpigmldhnaaDoor.Rg
open Go Go.RowKit
def Sp (T : Nat) (o : Obj) : Prop := o.isCells = false ∨ ∃ cs, o = .cells cs T (0, 0)
def Ab (B T : Nat) (I : World → Prop) : Prop := ∀ W W' row, I W → W.grownBy W' row → (∀ r, row = some r → B ≤ r ∧ ∃ o, W.heap[r]? = some o ∧ Sp T o) → I W'
def Kq (B T : Nat) (W W' : World) : Prop := ∀ k o, B ≤ k → W.heap[k]? = some o → Sp T o → W'.heap[k]? = some o
theorem Kq.trans {B T : Nat} {W W1 W2 : World} (h : Kq B T W W1) (k : Kq B T W1 W2) : Kq B T W W2 := fun i o hB ho hs => k i o hB (h i o hB ho hs) hs
theorem Kq.lower {B B' T : Nat} {W W1 : World} (h : Kq B T W W1) (hB : B ≤ B') : Kq B' T W W1 := fun i o hB' ho hs => h i o (by omega) ho hs
theorem Kq.refl (B T : Nat) (W : World) : Kq B T W W := fun _ _ _ h _ => h
theorem Kq.put {B T l : Nat} {W : World} (o : Obj) (hl : l < B) : Kq B T W (W.putObj l o) := fun k o' hB ho _ => (World.putObj_heap_other (by omega)).trans ho
theorem Ab.put {B T : Nat} {I : World → Prop} (h : Ab B T I) {W : World} {l : Nat} {o : Obj} (o' : Obj) (hi : I W) (hB : B ≤ l) (hl : W.heap[l]? = some o) (hs : Sp T o) : I (W.putObj l o') :=
 h W _ (some l) hi (grownBy_putObj' W l o') (fun r e => by cases e; exact ⟨hB, o, hl, hs⟩)
theorem Ab.alloc {B T : Nat} {I : World → Prop} (h : Ab B T I) {W : World} (o : Obj) (hi : I W) : I (W.alloc o) := h W _ none hi (World.grownBy_alloc W o none) (fun r e => by cases e)
theorem Ab.and {B T : Nat} {I J : World → Prop} (h : Ab B T I) (k : Ab B T J) : Ab B T (fun W => I W ∧ J W) := fun W W' row hi hg hr => ⟨h W W' row hi.1 hg hr, k W W' row hi.2 hg hr⟩
theorem Ab.block {B T l : Nat} (o : Obj) (hl : l < B) : Ab B T (fun W => W.heap[l]? = some o) := fun W W' row hi hg hr =>
 (hg.block l (Array.getElem?_eq_some_iff.1 hi).1 (fun e => by have := (hr l e.symm).1; omega)).trans hi
theorem Ab.lower {B B' T : Nat} {I : World → Prop} (h : Ab B T I) (hB : B ≤ B') : Ab B' T I := fun W W' row hi hg hr => h W W' row hi hg (fun r e => ⟨by have := (hr r e).1; omega, (hr r e).2⟩)
def Seq {α : Type} (F : Fence) (n : Nat) (P : Program) (g : Nat) (lb : Array Value) (encs : α → Array Value) (T n₀ : Nat) (L : List α) (w : World) : Prop :=
 ∀ (l : Nat) (J X : List α → World → Prop) (W : World), Below w.heap.size w W → (∀ pre, Ab W.heap.size T (J pre)) → (∀ pre, Ab W.heap.size T (X pre)) →
  (∀ pre x rest W1, L = pre ++ x :: rest → J pre W1 → YieldAt F (n - 1) P l (encs x) W1 fun e W' =>
   (e = .returned (.bool true) ∧ J (pre ++ [x]) W' ∧ Kq W.heap.size T W1 W' ∧ Below n₀ W1 W') ∨ (e = .returned (.bool false) ∧ X (pre ++ [x]) W')) →
  J [] W →
  CallsIn F n P g (#[.func (.yield l) #[] #[]] ++ lb) W fun e W' => (∃ v, e = .returned v) ∧ (J L W' ∨ ∃ pre rest, L = pre ++ rest ∧ X pre W')
def rp (B T n₀ : Nat) (I X : World → Prop) (W : World) : Exit → Act → World → Prop
 | .normal, _, W' => Kq B T W W' ∧ Below n₀ W W' ∧ I W'
 | .ret, _, W' => Kq B T W W' ∧ X W'
 | _, _, _ => False
section
variable {F : Fence} {n : Nat} {P : Program}
theorem range_law {α : Type} {g : Operand} {ps : Array Tmp} {assign body : Code} {Q : Exit → Act → World → Prop} {a : Act} {w : World} (T n₀ : Nat) (hn₀ : n₀ ≤ w.heap.size)
  (hro : F.round = none) (h1 : 1 ≤ n) {gf : Nat} {lb : Array Value} (hg : a.eval g = .func (.func gf) #[] lb) (hFg : F.fn gf) (eg : ∀ args w, (callFunc gf args).run P w = .ok (.enter gf args) w)
  {encs : α → Array Value} {L : List α} {w0 : World} (hseq : Seq F (n - 1) P gf lb encs T n₀ L w0) (hb0 : Below w0.heap.size w0 w) (hps : ∀ x, (encs x).size = ps.size)
  (I X : List α → World → Prop) (hI : ∀ pre, Ab w.heap.size T (I pre)) (hX : ∀ pre, Ab w.heap.size T (X pre)) (h0 : I [] w)
  (hround : ∀ (l : Nat) (rb : Loop) (pre : List α) (x : α) (rest : List α) (W : World), L = pre ++ x :: rest → w.heap.size ≤ l → (∃ r, W.heap[l]? = some (.loop r)) → I pre W →
   assign.wpIn (F.inRound l) (n - 1 - 1) P (Exit.then (fun a' W' => Kq w.heap.size T W W' ∧ Below n₀ W W' ∧ body.wpIn (F.inRound l) (n - 1 - 1) P (rp w.heap.size T n₀ (I (pre ++ [x])) (X (pre ++ [x])) (W'.putObj l (.loop rb))) a' (W'.putObj l (.loop rb))) (fun _ _ _ => False))
    { tmps := (ps.zip (encs x)).foldl (fun t (p, v) => t.setIfInBounds p v) a.tmps, defers := [] } W)
  (hdone : ∀ (D : Nat) (W : World), w.heap.size ≤ D → I L W → W.heap[D]? = some (.deferred (some [])) → Q .normal { a with defers := { target := .collected D, args := #[] } :: a.defers } W)
  (hstop : ∀ (D : Nat) (pre rest : List α) (W : World), w.heap.size ≤ D → L = pre ++ rest → X pre W → W.heap[D]? = some (.deferred (some [])) → Code.ret.wpIn F n P Q { a with defers := { target := .collected D, args := #[] } :: a.defers } W) :
  (Code.rangeFunc g ps assign body).wpIn F n P Q a w := by
 refine wpIn_rangeFunc fun fn hfn => ?_
 rw [hro]
 let r0 : Loop := { state := .ready, pending := none, fn, tmps := a.tmps, params := ps, assign, body, defers := w.heap.size }
 let V := (w.alloc (.deferred (some []))).alloc (.loop r0)
 have sV : V.heap.size = w.heap.size + 2 := by show ((w.alloc _).alloc _).heap.size = _; rw [World.size_alloc, World.size_alloc]
 have hl : V.heap[w.heap.size + 1]? = some (.loop r0) := by
  have := World.alloc_heap_new (w.alloc (.deferred (some []))) (.loop r0); rwa [World.size_alloc] at this
 have hd : V.heap[w.heap.size]? = some (.deferred (some [])) := (Below.heap_alloc _ _ _ (by rw [World.size_alloc]; omega)).trans (World.alloc_heap_new w _)
 have hbV : Below w0.heap.size w0 V := hb0.trans ((((Below.refl _ w).alloc (Nat.le_refl _) _).alloc (by rw [World.size_alloc]; omega) _).mono hb0.size)
 have hIV : I [] V := (hI []).alloc _ ((hI []).alloc _ h0)
 refine ⟨w.heap.size + 1, [{ target := .collected w.heap.size, args := #[] }], V, { target := .fn (.func gf) lb, args := #[.func (.yield (w.heap.size + 1)) #[] #[]] }, V, gf,
  #[.func (.yield (w.heap.size + 1)) #[] #[]] ++ lb, V, run_enterLoop_outer _ _ _ _ _, ?_, ?_, ?_, fun _ => h1, ?_⟩
 ·simp only [resolve, hg]
  simp [go_sem]
 ·intro f' hf'
  simp [Target.leads] at hf'
  subst hf'
  exact hFg
 ·simp [invoke, go_sem, eg]
 -- the iterator, at the caller's invariant beside the two blocks of the loop
 have two : ∀ o : Obj, Ab V.heap.size T (fun W => W.heap[w.heap.size + 1]? = some o ∧ W.heap[w.heap.size]? = some (.deferred (some []))) := fun o =>
  (Ab.block o (by omega)).and (Ab.block _ (by omega))
 have ends : ∀ (j : Option Code) (W : World), W.heap[w.heap.size + 1]? = some (.loop { r0 with state := .busy }) →
   (Instr.endRound (w.heap.size + 1) j).run P W = .ok (.bool j.isNone) (W.putObj (w.heap.size + 1) (.loop { r0 with state := if j.isNone then .ready else .done, pending := j })) := fun j W h => run_endRound (P := P) (r := { r0 with state := .busy }) j h
 refine (hseq (w.heap.size + 1) (fun pre W => I pre W ∧ (W.heap[w.heap.size + 1]? = some (.loop r0) ∧ W.heap[w.heap.size]? = some (.deferred (some []))))
  (fun pre W => X pre W ∧ (W.heap[w.heap.size + 1]? = some (.loop { r0 with state := .done, pending := some .ret }) ∧ W.heap[w.heap.size]? = some (.deferred (some [])))) V hbV
  (fun pre => ((hI pre).lower (by omega)).and (two _)) (fun pre => ((hX pre).lower (by omega)).and (two _)) ?_ ⟨hIV, hl, hd⟩).mono ?_
 ·rintro pre x rest W hL ⟨hi, hlW, hdW⟩
  refine ⟨fn, _, assign, body, run_yield (P := P) (args := encs x) hlW (hps x), roundIn_of_wpIn hfn (wpIn_mono (hround (w.heap.size + 1) { r0 with state := .busy } pre x rest W hL (by omega) ⟨_, hlW⟩ hi) ?_)⟩
  intro e a' W' he
  cases e with
  | normal =>
   obtain ⟨hk, hkb, hb⟩ := he
   have hl1 := hk _ _ (by omega) hlW (.inl rfl)
   have hd1 := hk _ _ (Nat.le_refl _) hdW (.inl rfl)
   have hlt : w.heap.size + 1 < W'.heap.size := (Array.getElem?_eq_some_iff.1 hl1).1
   refine ⟨_, run_beginRound hl1 rfl, wpIn_mono hb ?_⟩
   have hl2 : (W'.putObj (w.heap.size + 1) (.loop { r0 with state := .busy })).heap[w.heap.size + 1]? = some (.loop { r0 with state := .busy }) := World.putObj_heap_same hlt
   have hd2 : (W'.putObj (w.heap.size + 1) (.loop { r0 with state := .busy })).heap[w.heap.size]? = some (.deferred (some [])) := (World.putObj_heap_other (by omega)).trans hd1
   intro e2 a2 W2 h2
   cases e2 with
   | normal =>
    obtain ⟨hk2, hkb2, hi2⟩ := h2
    have hl3 := hk2 _ _ (by omega) hl2 (.inl rfl)
    have hd3 := hk2 _ _ (Nat.le_refl _) hd2 (.inl rfl)
    refine ⟨_, _, ends none W2 hl3, .inl ⟨rfl, ⟨(hI _).put _ hi2 (by omega) hl3 (.inl rfl), World.putObj_heap_same (Array.getElem?_eq_some_iff.1 hl3).1, (World.putObj_heap_other (by omega)).trans hd3⟩, ?_⟩⟩
    refine ⟨(hk.lower (by omega)).trans ((Kq.put _ (by omega)).trans ((hk2.lower (by omega)).trans (Kq.put _ (by omega)))), ?_⟩
    exact hkb.trans ((belowK_b hn₀ W' _ _ _ (by omega) hl1 rfl rfl).trans (hkb2.trans (belowK_b hn₀ W2 _ _ _ (by omega) hl3 rfl rfl)))
   | ret =>
    obtain ⟨hk2, hi2⟩ := h2
    have hl3 := hk2 _ _ (by omega) hl2 (.inl rfl)
    have hd3 := hk2 _ _ (Nat.le_refl _) hd2 (.inl rfl)
    exact ⟨_, _, ends (some .ret) W2 hl3, .inr ⟨rfl, (hX _).put _ hi2 (by omega) hl3 (.inl rfl), World.putObj_heap_same (Array.getElem?_eq_some_iff.1 hl3).1, (World.putObj_heap_other (by omega)).trans hd3⟩⟩
   | exit _ => exact h2.elim
   | goto _ => exact h2.elim
   | panic _ => exact h2.elim
   | outgrown => exact h2.elim
  | ret => exact he.elim
  | exit _ => exact he.elim
  | goto _ => exact he.elim
  | panic _ => exact he.elim
  | outgrown => exact he.elim
 ·rintro e W2 ⟨⟨v, rfl⟩, (⟨hi, hl2, hd2⟩ | ⟨pre, rest, hL, hx, hl2, hd2⟩)⟩
  ·exact ⟨none, _, run_endLoop (P := P) hl2 (by simp [r0]), hdone _ _ (Nat.le_refl _) ((hI _).put _ hi (by omega) hl2 (.inl rfl)) ((World.putObj_heap_other (by omega)).trans hd2)⟩
  ·exact ⟨some .ret, _, run_endLoop (P := P) hl2 (by simp), hstop _ pre rest _ (Nat.le_refl _) hL ((hX _).put _ hx (by omega) hl2 (.inl rfl)) ((World.putObj_heap_other (by omega)).trans hd2)⟩
end
end Go.Proofs.YtkmkgpigmldhnaaDoor.Rg
namespace Go.Proofs.YtkmkgpigmldhnaaDoor.P
open Go.RowKit Go.Proofs.YtkmkgpigmldhnaaDoorW.PrintWords Go.Proofs.YtkmkgpigmldhnaaDoorW.PrintLast Go.Proofs.YtkmkgpigmldhnaaDoorW.PrintMore
attribute [local go_sem] max2_int min2_int max_two min_two max_three min_three max_four min_four
def IsS78 (w0 W : World) (g : Nat) (f0 : ByteArray) (f1 : Int) : Prop := W.heap[g]? = some (.cells #[.string f0, .int .i64 f1] 78 (0, 0)) ∧ w0.heap.size ≤ g
theorem IsS78.grown {w0 W : World} {g : Nat} {f0 : ByteArray} {f1 : Int} {W1 : World} {row : Option Nat} (h : IsS78 w0 W g f0 f1) (hw : W.grownBy W1 row) (hne : some g ≠ row) : IsS78 w0 W1 g f0 f1 := by
  obtain ⟨hb, hg⟩ := h
  exact ⟨blk_grown hb hw hne, hg⟩
theorem IsS78.kept {w0 W : World} {g : Nat} {f0 : ByteArray} {f1 : Int} {W1 : World} {S : Nat → Prop} (h : IsS78 w0 W g f0 f1) (hk : Kept W W1 S) (hne : ¬ S g) : IsS78 w0 W1 g f0 f1 := by
  obtain ⟨hb, hg⟩ := h
  exact ⟨blk_kept hb hk hne, hg⟩
theorem IsS78.below {w0 W : World} {g : Nat} {f0 : ByteArray} {f1 : Int} {W1 : World} (h : IsS78 w0 W g f0 f1) (hw : Below W.heap.size W W1) : IsS78 w0 W1 g f0 f1 := h.grown (grown_of_below hw none) (by simp)
theorem IsS78.alloc {w0 W : World} {g : Nat} {f0 : ByteArray} {f1 : Int} (h : IsS78 w0 W g f0 f1) (o : Obj) : IsS78 w0 (W.alloc o) g f0 f1 := h.below (below_alloc (Below.refl _ _) o)
theorem IsS78.drewN {w0 W : World} {g : Nat} {f0 : ByteArray} {f1 : Int} (h : IsS78 w0 W g f0 f1) (m : Nat) : IsS78 w0 (W.drewN m) g f0 f1 := h
theorem IsS78.drew {w0 W : World} {g : Nat} {f0 : ByteArray} {f1 : Int} (h : IsS78 w0 W g f0 f1) : IsS78 w0 W.drew g f0 f1 := h
theorem IsS78.at_ {w0 W : World} {g : Nat} {f0 : ByteArray} {f1 : Int} {w' : World} {m : Nat} (hq : W.drewN m = w') (h : IsS78 w0 W g f0 f1) : IsS78 w0 w' g f0 f1 := by subst hq; exact IsS78.drewN h m
theorem IsS78.apart {w0 W : World} {g : Nat} {f0 : ByteArray} {f1 : Int} {α : Type} {d : Kd α} {e : Nat} {base : Nat} {ok : Nat → Prop} {v : Value} {xs : List α} (h : IsS78 w0 W g f0 f1) (ho : d.R e W base ok v xs) (ht : ∀ q, q ∈ e :: d.E → q ≠ 78) : d.R e W base (fun k => ok k ∧ k ≠ g) v xs := by
  obtain ⟨hb, hg⟩ := h
  exact Kd.R_types ho hb ht
theorem IsS78.own_ne {w0 W : World} {g : Nat} {f0 : ByteArray} {f1 : Int} {α : Type} {d : Kd α} {e : Nat} {base : Nat} {ok : Nat → Prop} {v : Value} {xs : List α} (h : IsS78 w0 W g f0 f1) (ho : d.R e W base ok v xs) (ht : e ≠ 78) : some g ≠ v.ownBlock := by
  obtain ⟨hb, hg⟩ := h
  exact Kd.R_ne ho hb ht
theorem IsS78.lt {w0 W : World} {g : Nat} {f0 : ByteArray} {f1 : Int} (h : IsS78 w0 W g f0 f1) : g < W.heap.size := by
  obtain ⟨hb, hg⟩ := h
  exact blk_lt hb
theorem IsS78.ge {w0 W : World} {g : Nat} {f0 : ByteArray} {f1 : Int} (h : IsS78 w0 W g f0 f1) : w0.heap.size ≤ g := by
  obtain ⟨hb, hg⟩ := h
  exact hg
theorem IsS78.ne_blk {w0 W : World} {g : Nat} {f0 : ByteArray} {f1 : Int} {a : Nat} {cs : Array Value} {t : TypeId} {fr : Nat × Nat} (h : IsS78 w0 W g f0 f1) (hb2 : W.heap[a]? = some (.cells cs t fr)) (ht : t ≠ 78) : g ≠ a := by
  obtain ⟨hb, hg⟩ := h
  rintro rfl
  rw [hb] at hb2
  injection hb2 with hb2
  injection hb2 with _ ht2
  exact ht ht2.symm
theorem IsS78.far {w0 W : World} {g : Nat} {f0 : ByteArray} {f1 : Int} {p : Addr} (h : IsS78 w0 W g f0 f1) (hne : g ≠ p.block) (u : Value) : IsS78 w0 (W.setCell p u) g f0 f1 := by
  obtain ⟨hb, hg⟩ := h
  exact ⟨blk_far hb hne u, hg⟩
theorem cellS78_0 {W : World} {g : Nat} {f0 : ByteArray} {f1 : Int} (h : W.heap[g]? = some (.cells #[.string f0, .int .i64 f1] 78 (0, 0))) : W.cell? ⟨g, 0, none⟩ = some (.string f0) := (blk_cell h 0).trans rfl
theorem IsS78.set_0 {w0 W : World} {g : Nat} {f0 : ByteArray} {f1 : Int} (h : IsS78 w0 W g f0 f1) (x : ByteArray) : IsS78 w0 (W.setCell ⟨g, 0, none⟩ (.string x)) g x f1 := by
  obtain ⟨hb, hg⟩ := h
  exact ⟨by simpa using blk_set hb 0 (.string x), hg⟩
theorem cellS78_1 {W : World} {g : Nat} {f0 : ByteArray} {f1 : Int} (h : W.heap[g]? = some (.cells #[.string f0, .int .i64 f1] 78 (0, 0))) : W.cell? ⟨g, 1, none⟩ = some (.int .i64 f1) := (blk_cell h 1).trans rfl
theorem IsS78.set_1 {w0 W : World} {g : Nat} {f0 : ByteArray} {f1 : Int} (h : IsS78 w0 W g f0 f1) (x : Int) : IsS78 w0 (W.setCell ⟨g, 1, none⟩ (.int .i64 x)) g f0 x := by
  obtain ⟨hb, hg⟩ := h
  exact ⟨by simpa using blk_set hb 1 (.int .i64 x), hg⟩
theorem IsS78.new (w0 W : World) (f0 : ByteArray) (f1 : Int) (hB : Below w0.heap.size w0 W) : IsS78 w0 (W.alloc (.cells #[.string f0, .int .i64 f1] 78)) W.heap.size f0 f1 := ⟨by simpa using heap_alloc_new W _, hB.size⟩
def wire_Read.f (l0 : List Int) : Option (ByteArray × Int) := some (strOfNums l0, 0)
theorem z15z0 {p : Prop} (h : p := by repeat (first | (with_reducible first | exact HBW.out | apply below_alloc | apply pw_below_drewN | apply below_drew1) | exact HBW.out)) : p := h
theorem wire_Read.calls (A0 : Option Addr) (c0 : Nat) (l0 : List Int) (r1 : ByteArray) (r2 : Int) (w0 w : World) (hB : Below w0.heap.size w0 w) (hr0 : Kd.C (Kd.int .u8) w0 A0 l0.length l0) (hc0 : l0.length ≤ c0) (h : wire_Read.f l0 = some (r1, r2)) :
  Calls Tryd.prog 15 #[.slice A0 l0.length c0] w fun e w' => ∃ g_ : Nat, e = .returned (.pointer (some ⟨g_, 0, none⟩)) ∧ IsS78 w0 w' g_ r1 r2 ∧ Below w0.heap.size w0 w' ∧ Below w.heap.size w w' := by
 have hu78 := Tryd.underlying78
 have HR0 := Aside0.mk hr0
 have HC0 := Aside0.mk hc0
 clear hr0 hc0
 have HBW := Aside0.mk (Below.refl w.heap.size w)
 have HW0 := Aside0.mk hB.size
 have HB := Aside0.mk hB
 clear hB
 have H : (some (strOfNums l0, 0)) = some (r1, r2) := h
 clear h
 simp only [Option.some.injEq, Prod.mk.injEq] at H
 obtain ⟨rfl, rfl⟩ := H
 have hcv2 := Kd.C_string (P := Tryd.prog) (A := A0) (c := c0) Tryd.underlying25 Tryd.underlying5 Tryd.underlying9 (Kd.C_below HR0.out HB.out)
 go_enter Tryd.func15, Tryd.ntmps15
 go_wp2_with (first | ((with_reducible refine gate_dst (N := 6) rfl ?_); refine box_event ?hg (N := 6) ?hd (cs := #[.string (strOfNums l0), .int .i64 0]) (t := 78) ?hr ?_; (case hd => rfl); (case hg => rfl); (case hr => first | (go_simp; done) | (go_simp; rfl)); intro gb101 hg w3 hbox hb; have n0_ := Aside0.mk (below_step HBW.out hb); have n1_ := Aside0.mk (below_step y0_ hb); have n2_ := Aside0.mk (hbox); have n3_ := Aside0.mk ((by rw [hg]; exact (below_size z15z0) : w.heap.size ≤ gb101)); have n4_ := Aside0.mk ((Nat.le_trans HW0.out (by rw [hg]; exact (below_size z15z0) : w.heap.size ≤ gb101) : w0.heap.size ≤ gb101)); replace HBW := n0_; replace HB := n1_; have BK101 := n2_; have GW101 := n3_; have GE101 := n4_; clear n0_ n1_ n2_ n3_ n4_; clear hb hbox hg))
 go_ret
 exact ⟨_, rfl, (show IsS78 w0 _ gb101 (strOfNums l0) 0 from ⟨y3_, GE101.out⟩), y1_, by repeat (first | (with_reducible first | exact HBW.out | apply below_alloc | apply pw_below_drewN | apply below_drew1 | refine below_set ?_ GW101.out) | exact HBW.out)⟩
theorem wire_Read.calls_at (A0 : Option Addr) (c0 : Nat) (l0 : List Int) (r1 : ByteArray) (r2 : Int) (w0 w : World) (hB : Below w0.heap.size w0 w) (hr0 : Kd.C (Kd.int .u8) w A0 l0.length l0) (hc0 : l0.length ≤ c0) (h : wire_Read.f l0 = some (r1, r2)) :
  Calls Tryd.prog 15 #[.slice A0 l0.length c0] w fun e w' => ∃ g_ : Nat, e = .returned (.pointer (some ⟨g_, 0, none⟩)) ∧ IsS78 w0 w' g_ r1 r2 ∧ Below w0.heap.size w0 w' ∧ Below w.heap.size w w' :=
 (wire_Read.calls A0 c0 l0 r1 r2 w w (Below.refl _ _) hr0 hc0 h).mono fun _ _ ⟨g, he, hi, hb, hb2⟩ => ⟨g, he, ⟨hi.1, Nat.le_trans hB.size hi.2⟩, below_step hB hb, hb2⟩
end Go.Proofs.YtkmkgpigmldhnaaDoor.P
namespace Go.Proofs.YtkmkgpigmldhnaaDoor.P
open Go.RowKit Go.Shelf Go.Lib Go.Proofs.YtkmkgpigmldhnaaDoorW.PrintWords Go.Proofs.YtkmkgpigmldhnaaDoorW.PrintLast Go.Proofs.YtkmkgpigmldhnaaDoorW.PrintMore
def wire_Reader_Err.f (s0_0 : ByteArray) (s0_1 : Int) : Option (Int × ByteArray × Int) := some (s0_1, s0_0, s0_1)
theorem wire_Reader_Err.calls (g : Nat) (s0_0 : ByteArray) (s0_1 : Int) (r1 : Int) (r2 : ByteArray) (r3 : Int) (w0 w : World) (hI : IsS78 w0 w g s0_0 s0_1) (hB : Below w0.heap.size w0 w) (h : wire_Reader_Err.f s0_0 s0_1 = some (r1, r2, r3)) :
  Calls Tryd.prog 22 #[.pointer (some ⟨g, 0, none⟩)] w fun e w' => e = .returned (.int .i64 r1) ∧ IsS78 w0 w' g r2 r3 ∧ Below w0.heap.size w0 w' ∧ KeepBut w w' g none := by
 have h2 := Option.some.inj h
 simp only [Prod.mk.injEq] at h2
 obtain ⟨rfl, rfl, rfl⟩ := h2
 have HI := Aside0.mk hI
 have HB := Aside0.mk hB
 have hc0 := cellS78_0 hI.1
 have hc1 := cellS78_1 hI.1
 have hf0 := blk_frozen hI.1 0
 have hf1 := blk_frozen hI.1 1
 have he : ∀ w : World, (binOp BinOp.eql 32 (.pointer (some ⟨g, 0, none⟩)) (.pointer none)).run Tryd.prog w = .ok (.bool false) w := fun _ => by kernel_rfl
 clear hI hB h
 go_enter Tryd.func22, Tryd.ntmps22
 go_wp2
 go_ret
 exact ⟨rfl, HI.out, HB.out, KeepBut.refl w g none⟩
end Go.Proofs.YtkmkgpigmldhnaaDoor.P
namespace Go.Proofs.YtkmkgpigmldhnaaDoor.P
open Go.RowKit Go.Proofs.YtkmkgpigmldhnaaDoorW.PrintWords Go.Proofs.YtkmkgpigmldhnaaDoorW.PrintLast Go.Proofs.YtkmkgpigmldhnaaDoorW.PrintMore
attribute [local go_sem] max2_int min2_int max_two min_two max_three min_three max_four min_four
def wire_Reader_Left.f (s0_0 : ByteArray) (s0_1 : Int) : Option (Int × ByteArray × Int) := (wire_Reader_Err.f s0_0 s0_1).bind fun bt101 => (if bt101.1 = 0 then (some ((bt101.2.1.size : Int), bt101.2.1, bt101.2.2)) else (some (0, bt101.2.1, bt101.2.2)))
theorem z21z0 {p : Prop} (h : p := by repeat (first | (with_reducible first | exact HB.out | apply below_alloc | apply pw_below_drewN | apply below_drew1 | refine below_set ?_ (IsS78.ge HI0.out)) | exact HB.out)) : p := h
theorem z21z1 {p : Prop} (h : p := by repeat (first | (with_reducible first | exact HI0.out | apply IsS78.alloc | apply IsS78.drewN | apply IsS78.drew | apply IsS78.set_0 | apply IsS78.set_1) | exact HI0.out)) : p := h
theorem wire_Reader_Left.calls (g : Nat) (s0_0 : ByteArray) (s0_1 : Int) (r1 : Int) (r2 : ByteArray) (r3 : Int) (w0 w : World) (hI : IsS78 w0 w g s0_0 s0_1) (hB : Below w0.heap.size w0 w) (h : wire_Reader_Left.f s0_0 s0_1 = some (r1, r2, r3)) :
  Calls Tryd.prog 21 #[.pointer (some ⟨g, 0, none⟩)] w fun e w' => e = .returned (.int .i64 r1) ∧ IsS78 w0 w' g r2 r3 ∧ Below w0.heap.size w0 w' ∧ KeepBut w w' g none := by
 have HI0 := Aside0.mk hI
 have HK := Aside0.mk (KeepBut.refl w g none)
 have HL := Aside0.mk hB.size
 clear hI
 have HW0 := Aside0.mk hB.size
 have HB := Aside0.mk hB
 clear hB
 have H : ((wire_Reader_Err.f s0_0 s0_1).bind fun bt101 => (if bt101.1 = 0 then (some ((bt101.2.1.size : Int), bt101.2.1, bt101.2.2)) else (some (0, bt101.2.1, bt101.2.2)))) = some (r1, r2, r3) := h
 clear h
 replace H := Option.bind_eq_some_iff.mp H
 obtain ⟨⟨t101, t102, t103⟩, A20, H⟩ := H
 replace H : (if t101 = 0 then (some ((t102.size : Int), t102, t103)) else (some (0, t102, t103))) = some (r1, r2, r3) := H
 have A2 := Aside0.mk A20
 clear A20
 by_cases c3 : t101 = 0
 rotate_left
 ·rw [if_neg c3] at H
  obtain ⟨c3b0, c3b1⟩ := eqf_ c3
  simp only [Option.some.injEq, Prod.mk.injEq] at H
  obtain ⟨rfl, rfl, rfl⟩ := H
  go_enter Tryd.func21, Tryd.ntmps21
  go_wp2_with (first | ((with_reducible refine gate_callee (f := 22) rfl ?_); refine goesL_ (some 4) rfl rfl Tryd.func22 (by kernel_rfl) rfl #[.pointer (some ⟨g, 0, none⟩)] rfl y2_ ?_; (with_reducible refine (wire_Reader_Err.calls g s0_0 s0_1 t101 t102 t103 w0 _ ?side1 ?side2 A2.out).mono ?_); (case side1 => exact z21z1); (case side2 => exact z21z0); rintro e w6 ⟨rfl, hi, hb, hk⟩; refine ⟨_, rfl, ?_⟩; have n0_ := Aside0.mk (KeepBut.trans y6_ hk (.inl rfl)); have n1_ := Aside0.mk (hb); have n2_ := Aside0.mk (hi); replace HK := n0_; replace HB := n1_; replace HI0 := n2_; clear n0_ n1_ n2_; clear hb hk hi))
  go_ret
  exact ⟨y4_, z21z1, z21z0, y6_⟩
 rw [if_pos c3] at H
 obtain ⟨c3b0, c3b1⟩ := eqt_ c3
 clear c3
 simp only [Option.some.injEq, Prod.mk.injEq] at H
 obtain ⟨rfl, rfl, rfl⟩ := H
 go_enter Tryd.func21, Tryd.ntmps21
 go_wp2_with (first | ((with_reducible refine gate_callee (f := 22) rfl ?_); refine goesL_ (some 4) rfl rfl Tryd.func22 (by kernel_rfl) rfl #[.pointer (some ⟨g, 0, none⟩)] rfl y2_ ?_; (with_reducible refine (wire_Reader_Err.calls g s0_0 s0_1 t101 t102 t103 w0 _ ?side1 ?side2 A2.out).mono ?_); (case side1 => exact z21z1); (case side2 => exact z21z0); rintro e w4 ⟨rfl, hi, hb, hk⟩; refine ⟨_, rfl, ?_⟩; have n0_ := Aside0.mk (KeepBut.trans y6_ hk (.inl rfl)); have n1_ := Aside0.mk (hb); have n2_ := Aside0.mk (hi); replace HK := n0_; replace HB := n1_; replace HI0 := n2_; clear n0_ n1_ n2_; clear hb hk hi; obtain ⟨HGz5, hgz5⟩ := HI0.out; have hcz5_0 := cellS78_0 HGz5; have hcz5_1 := cellS78_1 HGz5; have hfz5_0 := blk_frozen HGz5 0; have hfz5_1 := blk_frozen HGz5 1; clear HGz5 hgz5))
 go_ret
 exact ⟨y4_, z21z1, z21z0, y6_⟩
def slices_Index_int_int.l0 : Nat → List Int → Int → Int → Int → Option (Int)
  | 0, _, _, _, _ => none
  | k + 1, x0, x1, x7, x8 => if x8 < x7 then (if 0 ≤ x8 then (if x8 < (x0.length : Int) then (if x1 = (rd x0 x8) then (some x8) else (slices_Index_int_int.l0 k x0 x1 x7 (wrap64 (x8 + 1)))) else (none)) else (none)) else (some (-1))
def slices_Index_int_int.f (k : Nat) (l0 : List Int) (a1 : Int) : Option (Int) := slices_Index_int_int.l0 k l0 a1 (l0.length : Int) 0
theorem z100m0 {p : Prop} (h : p := by
 repeat' first
 | (with_reducible exact ih0 _ _ _ _)
 | (with_reducible exact LeO.refl _)
 | (with_reducible exact LeO.none _)
 | (with_reducible refine LeO.ite ?_ ?_)
 | (with_reducible refine LeO.bind ?_ (fun _ => ?_))
 | exact ih0 _ _ _ _
 | exact LeO.none _
 | refine LeO.ite ?_ ?_
 | refine LeO.bind ?_ (fun _ => ?_)) : p := h
theorem slices_Index_int_int.mono_l : ∀ k, (∀ y0 y1 y2 y3, LeO (slices_Index_int_int.l0 k y0 y1 y2 y3) (slices_Index_int_int.l0 (k + 1) y0 y1 y2 y3))
  | 0 => fun _ _ _ _ r h => by simp [slices_Index_int_int.l0] at h
  | k + 1 => by
    have ih0 := slices_Index_int_int.mono_l k
    · intro y0 y1 y2 y3
      unfold slices_Index_int_int.l0
      exact z100m0
theorem slices_Index_int_int.mono : ∀ a0 a1 k, LeO (slices_Index_int_int.f k a0 a1) (slices_Index_int_int.f (k + 1) a0 a1) := by
  intro a0 a1 k
  have ih0 := slices_Index_int_int.mono_l k
  unfold slices_Index_int_int.f
  exact z100m0
theorem slices_Index_int_int.calls (k : Nat) (A0 : Option Addr) (c0 : Nat) (l0 : List Int) (a1 : Int) (r : Int) (w : World) (hr0 : Kd.C (Kd.int .i64) w A0 l0.length l0) (hc0 : l0.length ≤ c0) (h : slices_Index_int_int.f k l0 a1 = some r) :
    Calls Tryd.prog 100 #[.slice A0 l0.length c0, .int .i64 a1] w fun e w' => e = .returned (.int .i64 r) ∧ Drawn0 w w' := by
  have HR0 := Aside0.mk hr0
  have HC0 := Aside0.mk hc0
  clear hr0 hc0
  have H : (slices_Index_int_int.l0 k l0 a1 (l0.length : Int) 0) = some r := h
  clear h
  have H' := Aside0.mk H
  clear H
  go_enter Tryd.func100, Tryd.ntmps100
  go_wp2
  go_loopg [8] k (fun kq v8 w' => ∃ (x8_1 : Int), v8 = .int .i64 x8_1 ∧ Aside0 (slices_Index_int_int.l0 kq l0 a1 (l0.length : Int) x8_1 = some r) ∧ Aside0 (kq ≤ k) ∧ Drawn0 w w')
  case atStart => exact ⟨(0), y7_, H', ⟨Nat.le_refl _⟩, y10_⟩
  case round =>
    clear H'
    try clear c1
    try clear p2
    obtain ⟨x8_1, rfl, HA, HK1, ⟨m1, rfl⟩⟩ := hrel
    cases gk with
    | zero => exact absurd HA.out (by simp [slices_Index_int_int.l0])
    | succ k1 =>
      have H := HA.out
      clear HA
      simp only [slices_Index_int_int.l0] at H
      by_cases c3 : x8_1 < (l0.length : Int)
      · rw [if_pos c3] at H
        have c3b0 := decide_eq_true c3
        clear c3
        by_cases c4 : 0 ≤ x8_1
        · rw [if_pos c4] at H
          have c4b0 := decide_eq_true c4
          clear c4
          by_cases c5 : x8_1 < (l0.length : Int)
          · rw [if_pos c5] at H
            have c5b0 := decide_eq_true c5
            clear c5
            by_cases c6 : a1 = (rd l0 x8_1)
            · rw [if_pos c6] at H
              obtain ⟨c6b0, c6b1⟩ := eqt_ c6
              clear c6
              obtain rfl := Option.some.inj H
              have p101 : 0 ≤ (x8_1 : Int) := of_decide_eq_true y5_
              have q101 : x8_1 < (l0.length : Int) := of_decide_eq_true y5_
              obtain ⟨ad101, e101, hx101_0⟩ := Kd.at_int HR0.out x8_1 p101 q101
              cases e101
              replace p101 := eq_true p101
              replace q101 := eq_true q101
              go_wp2
              go_ret
              exact ⟨y7_, y10_⟩
            · rw [if_neg c6] at H
              obtain ⟨c6b0, c6b1⟩ := eqf_ c6
              have H' := Aside0.mk H
              clear H
              have p101 : 0 ≤ (x8_1 : Int) := of_decide_eq_true y5_
              have q101 : x8_1 < (l0.length : Int) := of_decide_eq_true y5_
              obtain ⟨ad101, e101, hx101_0⟩ := Kd.at_int HR0.out x8_1 p101 q101
              cases e101
              replace p101 := eq_true p101
              replace q101 := eq_true q101
              go_wp2
              go_roundg k1
              case measure => have := HK1.out; omega
              case rel => exact ⟨(wrap64 (x8_1 + 1)), y7_, H', ⟨y25_⟩, y10_⟩
          · rw [if_neg c5] at H
            exact absurd H (by simp)
        · rw [if_neg c4] at H
          exact absurd H (by simp)
      · rw [if_neg c3] at H
        have c3b0 := decide_eq_false c3
        clear c3
        obtain rfl := Option.some.inj H
        go_wp2
        go_ret
        exact ⟨y7_, y10_⟩
def slices_Contains_int_int.f (k : Nat) (l0 : List Int) (a1 : Int) : Option (Bool) := (slices_Index_int_int.f k l0 a1).bind fun t101 => (some (decide (t101 ≥ 0)))
theorem slices_Contains_int_int.mono : ∀ a0 a1 k, LeO (slices_Contains_int_int.f k a0 a1) (slices_Contains_int_int.f (k + 1) a0 a1) := by
  intro a0 a1 k
  unfold slices_Contains_int_int.f
  repeat' first
      | (with_reducible exact slices_Index_int_int.mono _ _ _)
      | (with_reducible exact LeO.refl _)
      | (with_reducible exact LeO.none _)
      | (with_reducible refine LeO.ite ?_ ?_)
      | (with_reducible refine LeO.bind ?_ (fun _ => ?_))
      | exact slices_Index_int_int.mono _ _ _
      | exact LeO.none _
      | refine LeO.ite ?_ ?_
      | refine LeO.bind ?_ (fun _ => ?_)
theorem slices_Contains_int_int.calls (k : Nat) (A0 : Option Addr) (c0 : Nat) (l0 : List Int) (a1 : Int) (r : Bool) (w : World) (hr0 : Kd.C (Kd.int .i64) w A0 l0.length l0) (hc0 : l0.length ≤ c0) (h : slices_Contains_int_int.f k l0 a1 = some r) :
    Calls Tryd.prog 84 #[.slice A0 l0.length c0, .int .i64 a1] w fun e w' => e = .returned (.bool r) ∧ Drawn0 w w' := by
  have HR0 := Aside0.mk hr0
  have HC0 := Aside0.mk hc0
  clear hr0 hc0
  have H : ((slices_Index_int_int.f k l0 a1).bind fun t101 => (some (decide (t101 ≥ 0)))) = some r := h
  clear h
  replace H := Option.bind_eq_some_iff.mp H
  obtain ⟨t101, A30, H⟩ := H
  replace H : (some (decide (t101 ≥ 0))) = some r := H
  have A3 := Aside0.mk A30
  clear A30
  obtain rfl := Option.some.inj H
  go_enter Tryd.func84, Tryd.ntmps84
  go_wp2_with (first | ((with_reducible refine gate_callee (f := 100) rfl ?_); refine goesL_ (some 7) rfl rfl Tryd.func100 (by kernel_rfl) rfl #[.slice A0 l0.length c0, .int .i64 a1] rfl y2_ ?_; (with_reducible refine (slices_Index_int_int.calls k _ _ l0 a1 t101 _ ?side1 ?side2 A3.out).mono ?_); (case side1 => repeat (first | exact HR0.out | (with_reducible refine Kd.C_alloc ?_ _) | (with_reducible refine Kd.C_drewN ?_ _) | (with_reducible refine Kd.C_drew ?_))); (case side2 => exact HC0.out); rintro e w' ⟨rfl, ⟨nd, rfl⟩⟩; refine ⟨_, rfl, ?_⟩))
  go_ret
  exact ⟨y7_, y10_⟩
end Go.Proofs.YtkmkgpigmldhnaaDoor.P
namespace Go.Proofs.YtkmkgpigmldhnaaDoor.P
open Go.RowKit Go.Shelf Go.Lib Go.Proofs.YtkmkgpigmldhnaaDoorW.PrintWords Go.Proofs.YtkmkgpigmldhnaaDoorW.PrintLast Go.Proofs.YtkmkgpigmldhnaaDoorW.PrintMore
theorem wrap_nat0 (i : Nat) (h : i < 4611686018427387904) : wrap64 ((i : Int) + 1) = ((i + 1 : Nat) : Int) := by unfold wrap64; omega
theorem index_ev (L : List Int) (a : Int) (hL : L.length < 4611686018427387904) : ∀ (d i : Nat), i + d = L.length → ∃ r, Ev (fun k => slices_Index_int_int.l0 k L a (L.length : Int) (i : Int)) r ∧ decide (r ≥ 0) = (L.drop i).contains a
 | 0, i, h => by
  refine ⟨-1, Ev.step (f := fun _ => some (-1)) (fun k => by simp only [slices_Index_int_int.l0]; rw [if_neg (by omega)]) (Ev.now _), ?_⟩
  rw [List.drop_eq_nil_of_le (by omega)]; rfl
 | d + 1, i, h => by
  have hi : i < L.length := by omega
  have hr : rd L (i : Int) = L[i] := by unfold rd; simp [hi]
  rw [List.drop_eq_getElem_cons hi, List.contains_cons]
  by_cases e : a = L[i]
  ·refine ⟨(i : Int), Ev.step (f := fun _ => some (i : Int)) (fun k => by simp only [slices_Index_int_int.l0]; rw [if_pos (by omega), if_pos (by omega), if_pos (by omega), hr, if_pos e]) (Ev.now _), ?_⟩
   rw [show (a == L[i]) = true from beq_iff_eq.2 e, Bool.true_or, decide_eq_true (by omega)]
  ·obtain ⟨r, h1, h2⟩ := index_ev L a hL d (i + 1) (by omega)
   refine ⟨r, Ev.step (fun k => by simp only [slices_Index_int_int.l0]; rw [if_pos (by omega), if_pos (by omega), if_pos (by omega), hr, if_neg e, wrap_nat0 i (by omega)]) h1, ?_⟩
   rw [show (a == L[i]) = false from beq_eq_false_iff_ne.2 e, Bool.false_or, h2]
theorem contains_ev (L : List Int) (a : Int) (hL : L.length < 4611686018427387904) : Ev (fun k => slices_Contains_int_int.f k L a) (L.contains a) := by
 obtain ⟨r, h1, h2⟩ := index_ev L a hL L.length 0 (by omega)
 rw [List.drop_zero] at h2
 rw [← h2]
 exact Ev.bind h1 (Ev.now _)
def prop_Type.f (a0 : Int) : Option Int := some (rowB a0).1
theorem prop_Type.calls (a0 : Int) (r : Int) (w : World) (h : prop_Type.f a0 = some r) :
  Calls Tryd.prog 82 #[.int .u8 a0] w fun e w' => e = .returned (.int .i64 r) ∧ Below w.heap.size w w' := by
 have hfd : ∀ (k : Int) (A : Option Addr) (n c : Nat) (w : World), (Instr.field 115 (.agg #[.int .i64 k, .slice A n c]) 0).run Tryd.prog w = .ok (.int .i64 k) w := fun _ _ _ _ _ => by kernel_rfl
 obtain rfl := Option.some.inj h
 go_enter Tryd.func82, Tryd.ntmps82
 go_wp2_with (go_at_call 85; refine (prop_rowOf.calls a0 _).mono ?_; rintro e w' ⟨A9, c9, rfl, hc9, hl9, hb⟩; have HB := Aside0.mk hb; clear hb hc9 hl9)
 go_ret
 exact ⟨rfl, HB.out⟩
def prop_For.f (a0 a1 : Int) : Option Bool := some ((rowB a0).2.contains a1)
theorem prop_For.calls (a0 a1 : Int) (r : Bool) (w : World) (h : prop_For.f a0 a1 = some r) :
  Calls Tryd.prog 60 #[.int .u8 a0, .int .i64 a1] w fun e w' => e = .returned (.bool r) ∧ Below w.heap.size w w' := by
 have hfd : ∀ (k : Int) (A : Option Addr) (n c : Nat) (w : World), (Instr.field 115 (.agg #[.int .i64 k, .slice A n c]) 1).run Tryd.prog w = .ok (.slice A n c) w := fun _ _ _ _ _ => by kernel_rfl
 have h2 : (rowB a0).2.contains a1 = r := Option.some.inj h
 obtain ⟨k, hk⟩ := (contains_ev (rowB a0).2 a1 (by have := rowB_len a0; omega)).rounds
 rw [h2] at hk
 have HK := Aside0.mk hk
 clear hk h h2
 go_enter Tryd.func60, Tryd.ntmps60
 go_wp2_with (first | (go_at_call 85; refine (prop_rowOf.calls a0 _).mono ?_; rintro e w' ⟨A9, c9, rfl, hc9, hl9, hb⟩; have HB := Aside0.mk hb; have HC9 := Aside0.mk hc9; have HL9 := Aside0.mk hl9; clear hb hc9 hl9) | (go_at_call 84; refine (slices_Contains_int_int.calls k _ _ (rowB a0).2 a1 r _ HC9.out HL9.out HK.out).mono ?_; rintro e w'' ⟨rfl, hd⟩; have HD := Aside0.mk hd; clear hd))
 go_ret
 exact ⟨rfl, HB.out.trans ⟨HD.out.below.os, HD.out.below.tape, HD.out.below.output, HD.out.below.size, fun j hj => HD.out.below.block j (by have := HB.out.size; omega)⟩⟩
end Go.Proofs.YtkmkgpigmldhnaaDoor.P
