import Derived.Deep.LoopGhost
import Derived.Ground.SlsfProg
import Derived.LoopIn
import Derived.OwnWalkIn
import Derived.Shelf.Abstract
import Derived.Shelf.SlSortCmp.InsertionK
import Derived.Shelf.SlSortCmp.KitK
import Derived.Sort.Defs
import Derived.Sort.LoopGhostIn
import Derived.Sort.WalkB12
import Derived.Sort.WalkB2
import Derived.TacticsInMore
import Derived.Test.YtkmkgpigmldhnaaDoorProg
import Derived.Test.YtkmkgpigmldhnaaDoorCPropsEach0
import Derived.Test.YtkmkgpigmldhnaaDoorCPropsEach1
namespace Go.Proofs.YtkmkgpigmldhnaaDoor.P
open Go.RowKit Go.Proofs.YtkmkgpigmldhnaaDoorW.PrintWords Go.Proofs.YtkmkgpigmldhnaaDoorW.PrintLast Go.Proofs.YtkmkgpigmldhnaaDoorW.PrintMore
attribute [local go_sem] max2_int min2_int max_two min_two max_three min_three max_four min_four
set_option linter.unusedVariables false
set_option linter.unusedSimpArgs false
mutual
def props_next.j1 : Nat → ByteArray → Int → Int → Int → ByteArray → ByteArray → Option (Int × Int × ByteArray × ByteArray × Bool × ByteArray × Int)
  | 0, _, _, _, _, _, _ => none
  | k + 1, x1000, x1001, x106000, x106001, x106002, x106003 => (wire_Reader_Err.f x1000 x1001).bind fun bt128 => (if bt128.1 = 0 then ((prop_Right.f k x106000 x106001 x106002 x106003).bind fun t131 => (if t131 = true then (some (x106000, x106001, x106002, x106003, true, bt128.2.1, bt128.2.2)) else (some (0, 0, (⟨#[]⟩ : ByteArray), (⟨#[]⟩ : ByteArray), false, bt128.2.1, bt128.2.2)))) else (some (0, 0, (⟨#[]⟩ : ByteArray), (⟨#[]⟩ : ByteArray), false, bt128.2.1, bt128.2.2)))
def props_next.j0 : Nat → Int → Bool → ByteArray → Int → Int → Int → ByteArray → ByteArray → Option (Int × Int × ByteArray × ByteArray × Bool × ByteArray × Int)
  | 0, _, _, _, _, _, _, _, _ => none
  | k + 1, x10, x33, x1000, x1001, x106000, x106001, x106002, x106003 => if x33 = true then ((wire_Reader_Bin.f x1000 x1001).bind fun bt119 => (props_next.j1 k bt119.2.1 bt119.2.2 x106000 x106001 bt119.1 x106003)) else (if x10 = 7 then ((wire_Reader_Bin.f x1000 x1001).bind fun bt122 => ((wire_Reader_Bin.f bt122.2.1 bt122.2.2).bind fun bt125 => (props_next.j1 k bt125.2.1 bt125.2.2 x106000 x106001 bt122.1 bt125.1))) else (props_next.j1 k x1000 x1001 x106000 x106001 x106002 x106003))
end
def props_next.f (k : Nat) (s0_0 : ByteArray) (s0_1 : Int) : Option (Int × Int × ByteArray × ByteArray × Bool × ByteArray × Int) := (wire_Reader_Byte.f s0_0 s0_1).bind fun bt102 => ((prop_Type.f bt102.1).bind fun t106 => (if t106 = 1 then ((wire_Reader_Byte.f bt102.2.1 bt102.2.2).bind fun bt107 => (props_next.j1 k bt107.2.1 bt107.2.2 bt102.1 ((bt107.1) % 4294967296) (⟨#[]⟩ : ByteArray) (⟨#[]⟩ : ByteArray))) else (if t106 = 2 then ((wire_Reader_Two.f bt102.2.1 bt102.2.2).bind fun bt110 => (props_next.j1 k bt110.2.1 bt110.2.2 bt102.1 ((bt110.1) % 4294967296) (⟨#[]⟩ : ByteArray) (⟨#[]⟩ : ByteArray))) else (if t106 = 3 then ((wire_Reader_Four.f bt102.2.1 bt102.2.2).bind fun bt113 => (props_next.j1 k bt113.2.1 bt113.2.2 bt102.1 bt113.1 (⟨#[]⟩ : ByteArray) (⟨#[]⟩ : ByteArray))) else (if t106 = 4 then ((wire_Reader_Var.f k bt102.2.1 bt102.2.2).bind fun bt116 => (props_next.j1 k bt116.2.1 bt116.2.2 bt102.1 bt116.1 (⟨#[]⟩ : ByteArray) (⟨#[]⟩ : ByteArray))) else (if t106 = 5 then (props_next.j0 k t106 (t106 == 5) bt102.2.1 bt102.2.2 bt102.1 0 (⟨#[]⟩ : ByteArray) (⟨#[]⟩ : ByteArray)) else (props_next.j0 k t106 (t106 == 6) bt102.2.1 bt102.2.2 bt102.1 0 (⟨#[]⟩ : ByteArray) (⟨#[]⟩ : ByteArray))))))))
theorem z73m0 {p : Prop} (h : p := by
 repeat' first
 | (with_reducible exact ih0 _ _ _ _ _ _)
 | (with_reducible exact ih1 _ _ _ _ _ _ _ _)
 | (with_reducible exact prop_Right.mono _ _ _ _ _)
 | (with_reducible exact wire_Reader_Var.mono _ _ _)
 | (with_reducible exact LeO.refl _)
 | (with_reducible exact LeO.none _)
 | (with_reducible refine LeO.ite ?_ ?_)
 | (with_reducible refine LeO.bind ?_ (fun _ => ?_))
 | exact ih0 _ _ _ _ _ _
 | exact ih1 _ _ _ _ _ _ _ _
 | exact prop_Right.mono _ _ _ _ _
 | exact wire_Reader_Var.mono _ _ _
 | exact LeO.none _
 | refine LeO.ite ?_ ?_
 | refine LeO.bind ?_ (fun _ => ?_)) : p := h
theorem props_next.mono_l : ∀ k, (∀ y0 y1 y2 y3 y4 y5, LeO (props_next.j1 k y0 y1 y2 y3 y4 y5) (props_next.j1 (k + 1) y0 y1 y2 y3 y4 y5)) ∧ (∀ y0 y1 y2 y3 y4 y5 y6 y7, LeO (props_next.j0 k y0 y1 y2 y3 y4 y5 y6 y7) (props_next.j0 (k + 1) y0 y1 y2 y3 y4 y5 y6 y7))
  | 0 => ⟨fun _ _ _ _ _ _ r h => by simp [props_next.j1] at h, fun _ _ _ _ _ _ _ _ r h => by simp [props_next.j0] at h⟩
  | k + 1 => by
    obtain ⟨ih0, ih1⟩ := props_next.mono_l k
    refine ⟨?_, ?_⟩
    · intro y0 y1 y2 y3 y4 y5
      unfold props_next.j1
      exact z73m0
    · intro y0 y1 y2 y3 y4 y5 y6 y7
      unfold props_next.j0
      exact z73m0
theorem props_next.mono : ∀ a0 a1 k, LeO (props_next.f k a0 a1) (props_next.f (k + 1) a0 a1) := by
  intro a0 a1 k
  obtain ⟨ih0, ih1⟩ := props_next.mono_l k
  unfold props_next.f
  exact z73m0
theorem z73z0 {p : Prop} (h : p := by repeat (first | (with_reducible first | exact HK.out | apply KeepBut.set_ | apply keep_drewN | apply keep_drew | apply keep_alloc | refine keep_far ?_ GW101.out _ | refine keep_far ?_ GW105.out _) | exact HK.out)) : p := h
theorem z73z1 {p : Prop} (h : p := by repeat (first | (with_reducible first | exact HI0.out | apply IsS78.alloc | apply IsS78.drewN | apply IsS78.drew | apply IsS78.set_0 | apply IsS78.set_1 | refine IsS78.far ?_ NB0_101.out _ | refine IsS78.far ?_ NB0_105.out _) | exact HI0.out)) : p := h
theorem z73z2 {p : Prop} (h : p := by repeat (first | (with_reducible first | exact HB.out | apply below_alloc | apply pw_below_drewN | apply below_drew1 | refine below_set ?_ (IsS78.ge HI0.out) | refine below_set ?_ GE101.out | refine below_set ?_ GE105.out) | exact HB.out)) : p := h
theorem z73z3 {p : Prop} (h : p := by (with_reducible repeat (first | refine blk_drewN ?_ _ | refine blk_drew ?_ | refine blk_alloc ?_ _)); exact BK101.out) : p := h
theorem z73z4 {p : Prop} (h : p := by (try simp only [List.map_toArray, List.map_cons, List.map_nil]); first | done | rfl | (simp only [List.length_drop, List.length_take]; rfl)) : p := h
theorem z73z5 {p : Prop} (h : p := by (with_reducible repeat (first | refine blk_drewN ?_ _ | refine blk_drew ?_ | refine blk_alloc ?_ _)); exact BK105.out) : p := h
theorem z73z6 {p : Prop} (h : p := by (with_reducible repeat (first | refine blk_drewN ?_ _ | refine blk_drew ?_ | refine blk_alloc ?_ _)); refine blk_put (cs := #[.int .u8 0, .int .u32 0, .string (⟨#[]⟩ : ByteArray), .string (⟨#[]⟩ : ByteArray)]) ?_ 3 _ rfl; (with_reducible repeat (first | refine blk_drewN ?_ _ | refine blk_drew ?_ | refine blk_alloc ?_ _)); refine blk_put (cs := #[.int .u8 0, .int .u32 0, .string (⟨#[]⟩ : ByteArray), .string (⟨#[]⟩ : ByteArray)]) ?_ 2 _ rfl; (with_reducible repeat (first | refine blk_drewN ?_ _ | refine blk_drew ?_ | refine blk_alloc ?_ _)); refine blk_put (cs := #[.int .u8 0, .int .u32 0, .string (⟨#[]⟩ : ByteArray), .string (⟨#[]⟩ : ByteArray)]) ?_ 1 _ rfl; (with_reducible repeat (first | refine blk_drewN ?_ _ | refine blk_drew ?_ | refine blk_alloc ?_ _)); refine blk_put (cs := #[.int .u8 0, .int .u32 0, .string (⟨#[]⟩ : ByteArray), .string (⟨#[]⟩ : ByteArray)]) ?_ 0 _ rfl; (with_reducible repeat (first | refine blk_drewN ?_ _ | refine blk_drew ?_ | refine blk_alloc ?_ _)); exact BK101.out) : p := h
theorem z73z7 {p : Prop} (h : p := by repeat (first | (with_reducible first | exact HK.out | apply KeepBut.set_ | apply keep_drewN | apply keep_drew | apply keep_alloc | refine keep_far ?_ GW101.out _) | exact HK.out)) : p := h
theorem z73z8 {p : Prop} (h : p := by repeat (first | (with_reducible first | exact HK.out | apply KeepBut.set_ | apply keep_drewN | apply keep_drew | apply keep_alloc) | exact HK.out)) : p := h
set_option maxHeartbeats 8000000 in
set_option maxRecDepth 100000 in
theorem props_next.calls (k : Nat) (g : Nat) (s0_0 : ByteArray) (s0_1 : Int) (r1 : Int) (r2 : Int) (r3 : ByteArray) (r4 : ByteArray) (r5 : Bool) (r6 : ByteArray) (r7 : Int) (w0 w : World) (hI : IsS78 w0 w g s0_0 s0_1) (hB : Below w0.heap.size w0 w) (hG : GW w0) (h : props_next.f k s0_0 s0_1 = some (r1, r2, r3, r4, r5, r6, r7)) :
  Calls Tryd.prog 73 #[.pointer (some ⟨g, 0, none⟩)] w fun e w' => e = .returned (.tuple #[.agg #[.int .u8 r1, .int .u32 r2, .string r3, .string r4], .bool r5]) ∧ IsS78 w0 w' g r6 r7 ∧ Below w0.heap.size w0 w' ∧ KeepBut w w' g none := by
 have hu60 := Tryd.underlying60
 have HI0 := Aside0.mk hI
 have HK := Aside0.mk (KeepBut.refl w g none)
 have HL := Aside0.mk hB.size
 clear hI
 have HW0 := Aside0.mk hB.size
 have HB := Aside0.mk hB
 clear hB
 have HG := Aside0.mk hG
 clear hG
 have H : ((wire_Reader_Byte.f s0_0 s0_1).bind fun bt102 => ((prop_Type.f bt102.1).bind fun t106 => (if t106 = 1 then ((wire_Reader_Byte.f bt102.2.1 bt102.2.2).bind fun bt107 => (props_next.j1 k bt107.2.1 bt107.2.2 bt102.1 ((bt107.1) % 4294967296) (⟨#[]⟩ : ByteArray) (⟨#[]⟩ : ByteArray))) else (if t106 = 2 then ((wire_Reader_Two.f bt102.2.1 bt102.2.2).bind fun bt110 => (props_next.j1 k bt110.2.1 bt110.2.2 bt102.1 ((bt110.1) % 4294967296) (⟨#[]⟩ : ByteArray) (⟨#[]⟩ : ByteArray))) else (if t106 = 3 then ((wire_Reader_Four.f bt102.2.1 bt102.2.2).bind fun bt113 => (props_next.j1 k bt113.2.1 bt113.2.2 bt102.1 bt113.1 (⟨#[]⟩ : ByteArray) (⟨#[]⟩ : ByteArray))) else (if t106 = 4 then ((wire_Reader_Var.f k bt102.2.1 bt102.2.2).bind fun bt116 => (props_next.j1 k bt116.2.1 bt116.2.2 bt102.1 bt116.1 (⟨#[]⟩ : ByteArray) (⟨#[]⟩ : ByteArray))) else (if t106 = 5 then (props_next.j0 k t106 (t106 == 5) bt102.2.1 bt102.2.2 bt102.1 0 (⟨#[]⟩ : ByteArray) (⟨#[]⟩ : ByteArray)) else (props_next.j0 k t106 (t106 == 6) bt102.2.1 bt102.2.2 bt102.1 0 (⟨#[]⟩ : ByteArray) (⟨#[]⟩ : ByteArray))))))))) = some (r1, r2, r3, r4, r5, r6, r7) := h
 clear h
 replace H := Option.bind_eq_some_iff.mp H
 obtain ⟨⟨t102, t103, t104⟩, A20, H⟩ := H
 replace H : ((prop_Type.f t102).bind fun t106 => (if t106 = 1 then ((wire_Reader_Byte.f t103 t104).bind fun bt107 => (props_next.j1 k bt107.2.1 bt107.2.2 t102 ((bt107.1) % 4294967296) (⟨#[]⟩ : ByteArray) (⟨#[]⟩ : ByteArray))) else (if t106 = 2 then ((wire_Reader_Two.f t103 t104).bind fun bt110 => (props_next.j1 k bt110.2.1 bt110.2.2 t102 ((bt110.1) % 4294967296) (⟨#[]⟩ : ByteArray) (⟨#[]⟩ : ByteArray))) else (if t106 = 3 then ((wire_Reader_Four.f t103 t104).bind fun bt113 => (props_next.j1 k bt113.2.1 bt113.2.2 t102 bt113.1 (⟨#[]⟩ : ByteArray) (⟨#[]⟩ : ByteArray))) else (if t106 = 4 then ((wire_Reader_Var.f k t103 t104).bind fun bt116 => (props_next.j1 k bt116.2.1 bt116.2.2 t102 bt116.1 (⟨#[]⟩ : ByteArray) (⟨#[]⟩ : ByteArray))) else (if t106 = 5 then (props_next.j0 k t106 (t106 == 5) t103 t104 t102 0 (⟨#[]⟩ : ByteArray) (⟨#[]⟩ : ByteArray)) else (props_next.j0 k t106 (t106 == 6) t103 t104 t102 0 (⟨#[]⟩ : ByteArray) (⟨#[]⟩ : ByteArray)))))))) = some (r1, r2, r3, r4, r5, r6, r7) := H
 have A2 := Aside0.mk A20
 clear A20
 replace H := Option.bind_eq_some_iff.mp H
 obtain ⟨t106, A30, H⟩ := H
 replace H : (if t106 = 1 then ((wire_Reader_Byte.f t103 t104).bind fun bt107 => (props_next.j1 k bt107.2.1 bt107.2.2 t102 ((bt107.1) % 4294967296) (⟨#[]⟩ : ByteArray) (⟨#[]⟩ : ByteArray))) else (if t106 = 2 then ((wire_Reader_Two.f t103 t104).bind fun bt110 => (props_next.j1 k bt110.2.1 bt110.2.2 t102 ((bt110.1) % 4294967296) (⟨#[]⟩ : ByteArray) (⟨#[]⟩ : ByteArray))) else (if t106 = 3 then ((wire_Reader_Four.f t103 t104).bind fun bt113 => (props_next.j1 k bt113.2.1 bt113.2.2 t102 bt113.1 (⟨#[]⟩ : ByteArray) (⟨#[]⟩ : ByteArray))) else (if t106 = 4 then ((wire_Reader_Var.f k t103 t104).bind fun bt116 => (props_next.j1 k bt116.2.1 bt116.2.2 t102 bt116.1 (⟨#[]⟩ : ByteArray) (⟨#[]⟩ : ByteArray))) else (if t106 = 5 then (props_next.j0 k t106 (t106 == 5) t103 t104 t102 0 (⟨#[]⟩ : ByteArray) (⟨#[]⟩ : ByteArray)) else (props_next.j0 k t106 (t106 == 6) t103 t104 t102 0 (⟨#[]⟩ : ByteArray) (⟨#[]⟩ : ByteArray))))))) = some (r1, r2, r3, r4, r5, r6, r7) := H
 have A3 := Aside0.mk A30
 clear A30
 have HC4 := Aside0.mk H
 clear H
 go_enter Tryd.func73, Tryd.ntmps73
 go_upto_block 0 with (first | ((with_reducible refine gate_dst (N := 2) rfl ?_); refine box_event ?hg (N := 2) ?hd (cs := #[.int .u8 0, .int .u32 0, .string (⟨#[]⟩ : ByteArray), .string (⟨#[]⟩ : ByteArray)]) (t := 60) ?hr ?_; (case hd => rfl); (case hg => rfl); (case hr => first | (go_simp; done) | (go_simp; rfl)); intro gb101 hg w5 hbox hb; have n0_ := Aside0.mk (IsS78.below (by repeat (first | (with_reducible first | exact HI0.out | apply IsS78.alloc | apply IsS78.drewN | apply IsS78.drew | apply IsS78.set_0 | apply IsS78.set_1) | exact HI0.out)) hb); have n1_ := Aside0.mk (KeepBut.trans z73z8 (KeepBut.of_below hb g none) (.inl rfl)); have n2_ := Aside0.mk (below_step (by repeat (first | (with_reducible first | exact HB.out | apply below_alloc | apply pw_below_drewN | apply below_drew1 | refine below_set ?_ (IsS78.ge HI0.out)) | exact HB.out)) hb); have n3_ := Aside0.mk (hbox); have n4_ := Aside0.mk ((by rw [hg]; exact (keep_size (w := w) (g := g) (row := none) z73z8) : w.heap.size ≤ gb101)); have n5_ := Aside0.mk ((Nat.le_trans HW0.out (by rw [hg]; exact (keep_size (w := w) (g := g) (row := none) z73z8) : w.heap.size ≤ gb101) : w0.heap.size ≤ gb101)); have n6_ := Aside0.mk ((by rw [hg]; exact Nat.ne_of_lt (IsS78.lt (show IsS78 w0 _ g s0_0 s0_1 from by repeat (first | (with_reducible first | exact HI0.out | apply IsS78.alloc | apply IsS78.drewN | apply IsS78.drew | apply IsS78.set_0 | apply IsS78.set_1) | exact HI0.out))) : g ≠ gb101)); have n7_ := Aside0.mk ((by rw [hg]; exact Nat.ne_of_gt (IsS78.lt (show IsS78 w0 _ g s0_0 s0_1 from by repeat (first | (with_reducible first | exact HI0.out | apply IsS78.alloc | apply IsS78.drewN | apply IsS78.drew | apply IsS78.set_0 | apply IsS78.set_1) | exact HI0.out))) : gb101 ≠ g)); replace HI0 := n0_; replace HK := n1_; replace HB := n2_; have BK101 := n3_; have GW101 := n4_; have GE101 := n5_; have NB0_101 := n6_; have NB101_0 := n7_; clear n0_ n1_ n2_ n3_ n4_ n5_ n6_ n7_; clear hb hbox hg) | ((with_reducible refine gate_callee (f := 16) rfl ?_); refine goesL_ (some 6) rfl rfl Tryd.func16 (by kernel_rfl) rfl #[.pointer (some ⟨g, 0, none⟩)] rfl z73z4 ?_; (with_reducible refine (wire_Reader_Byte.calls g s0_0 s0_1 t102 t103 t104 w0 _ ?side1 ?side2 A2.out).mono ?_); (case side1 => repeat (first | (with_reducible first | exact HI0.out | apply IsS78.alloc | apply IsS78.drewN | apply IsS78.drew | apply IsS78.set_0 | apply IsS78.set_1 | refine IsS78.far ?_ NB0_101.out _) | exact HI0.out)); (case side2 => repeat (first | (with_reducible first | exact HB.out | apply below_alloc | apply pw_below_drewN | apply below_drew1 | refine below_set ?_ (IsS78.ge HI0.out) | refine below_set ?_ GE101.out) | exact HB.out)); rintro e w6 ⟨rfl, hi, hb, hk⟩; refine ⟨_, rfl, ?_⟩; have n0_ := Aside0.mk (KeepBut.blk hk (g' := gb101) (o := .cells #[.int .u8 0, .int .u32 0, .string (⟨#[]⟩ : ByteArray), .string (⟨#[]⟩ : ByteArray)] 60 (0, 0)) z73z3 NB101_0.out (by simp)); have n1_ := Aside0.mk (KeepBut.trans z73z7 hk (.inl rfl)); have n2_ := Aside0.mk (hb); have n3_ := Aside0.mk (hi); replace BK101 := n0_; replace HK := n1_; replace HB := n2_; replace HI0 := n3_; clear n0_ n1_ n2_ n3_; clear hb hk hi) | ((with_reducible refine gate_dst (N := 4) rfl ?_); refine box_event ?hg (N := 4) ?hd (cs := #[.int .u8 0, .int .u32 0, .string (⟨#[]⟩ : ByteArray), .string (⟨#[]⟩ : ByteArray)]) (t := 60) ?hr ?_; (case hd => rfl); (case hg => rfl); (case hr => first | (go_simp; done) | (go_simp; rfl)); intro gb105 hg w7 hbox hb; have n0_ := Aside0.mk (IsS78.below (by repeat (first | (with_reducible first | exact HI0.out | apply IsS78.alloc | apply IsS78.drewN | apply IsS78.drew | apply IsS78.set_0 | apply IsS78.set_1 | refine IsS78.far ?_ NB0_101.out _) | exact HI0.out)) hb); have n1_ := Aside0.mk (blk_below (g := gb101) (o := .cells #[.int .u8 0, .int .u32 0, .string (⟨#[]⟩ : ByteArray), .string (⟨#[]⟩ : ByteArray)] 60 (0, 0)) z73z3 hb); have n2_ := Aside0.mk (KeepBut.trans z73z7 (KeepBut.of_below hb g none) (.inl rfl)); have n3_ := Aside0.mk (below_step (by repeat (first | (with_reducible first | exact HB.out | apply below_alloc | apply pw_below_drewN | apply below_drew1 | refine below_set ?_ (IsS78.ge HI0.out) | refine below_set ?_ GE101.out) | exact HB.out)) hb); have n4_ := Aside0.mk (hbox); have n5_ := Aside0.mk ((by rw [hg]; exact (keep_size (w := w) (g := g) (row := none) z73z7) : w.heap.size ≤ gb105)); have n6_ := Aside0.mk ((Nat.le_trans HW0.out (by rw [hg]; exact (keep_size (w := w) (g := g) (row := none) z73z7) : w.heap.size ≤ gb105) : w0.heap.size ≤ gb105)); have n7_ := Aside0.mk ((by rw [hg]; exact Nat.ne_of_lt (blk_lt (g := gb101) (o := .cells #[.int .u8 0, .int .u32 0, .string (⟨#[]⟩ : ByteArray), .string (⟨#[]⟩ : ByteArray)] 60 (0, 0)) z73z3) : gb101 ≠ gb105)); have n8_ := Aside0.mk ((by rw [hg]; exact Nat.ne_of_gt (blk_lt (g := gb101) (o := .cells #[.int .u8 0, .int .u32 0, .string (⟨#[]⟩ : ByteArray), .string (⟨#[]⟩ : ByteArray)] 60 (0, 0)) z73z3) : gb105 ≠ gb101)); have n9_ := Aside0.mk ((by rw [hg]; exact Nat.ne_of_lt (IsS78.lt (show IsS78 w0 _ g t103 t104 from by repeat (first | (with_reducible first | exact HI0.out | apply IsS78.alloc | apply IsS78.drewN | apply IsS78.drew | apply IsS78.set_0 | apply IsS78.set_1 | refine IsS78.far ?_ NB0_101.out _) | exact HI0.out))) : g ≠ gb105)); have n10_ := Aside0.mk ((by rw [hg]; exact Nat.ne_of_gt (IsS78.lt (show IsS78 w0 _ g t103 t104 from by repeat (first | (with_reducible first | exact HI0.out | apply IsS78.alloc | apply IsS78.drewN | apply IsS78.drew | apply IsS78.set_0 | apply IsS78.set_1 | refine IsS78.far ?_ NB0_101.out _) | exact HI0.out))) : gb105 ≠ g)); replace HI0 := n0_; replace BK101 := n1_; replace HK := n2_; replace HB := n3_; have BK105 := n4_; have GW105 := n5_; have GE105 := n6_; have NB101_105 := n7_; have NB105_101 := n8_; have NB0_105 := n9_; have NB105_0 := n10_; clear n0_ n1_ n2_ n3_ n4_ n5_ n6_ n7_ n8_ n9_ n10_; clear hb hbox hg; have hnb8 := NB105_101.out; have hnc8 := NB101_105.out; have hnb9 := NB105_0.out; have hnc9 := NB0_105.out; have hcz10_0 := cc4_0 BK105.out; have hcz10_1 := cc4_1 BK105.out; have hcz10_2 := cc4_2 BK105.out; have hcz10_3 := cc4_3 BK105.out; have hfz10_0 := blk_frozen BK105.out 0; have hfz10_1 := blk_frozen BK105.out 1; have hfz10_2 := blk_frozen BK105.out 2; have hfz10_3 := blk_frozen BK105.out 3) | ((with_reducible refine gate_callee (f := 82) rfl ?_); refine goesL_ (some 10) rfl rfl Tryd.func82 (by kernel_rfl) rfl #[.int .u8 t102] rfl z73z4 ?_; (with_reducible refine (prop_Type.calls t102 t106 _ A3.out).mono ?_); rintro e w11 ⟨rfl, hb⟩; refine ⟨_, rfl, ?_⟩; have n0_ := Aside0.mk (IsS78.below (show IsS78 w0 ((((w7.setCell ⟨gb105, 0, none⟩ (.int .u8 t102)).setCell ⟨gb105, 1, none⟩ (.int .u32 0)).setCell ⟨gb105, 2, none⟩ (.string (⟨#[]⟩ : ByteArray))).setCell ⟨gb105, 3, none⟩ (.string (⟨#[]⟩ : ByteArray))) g t103 t104 from by repeat (first | (with_reducible first | exact HI0.out | apply IsS78.alloc | apply IsS78.drewN | apply IsS78.drew | apply IsS78.set_0 | apply IsS78.set_1 | refine IsS78.far ?_ NB0_101.out _ | refine IsS78.far ?_ NB0_105.out _) | exact HI0.out)) hb); have n1_ := Aside0.mk (blk_below (g := gb101) (o := .cells #[.int .u8 0, .int .u32 0, .string (⟨#[]⟩ : ByteArray), .string (⟨#[]⟩ : ByteArray)] 60 (0, 0)) (by (with_reducible repeat (first | refine blk_drewN ?_ _ | refine blk_drew ?_ | refine blk_alloc ?_ _)); refine blk_far ?_ NB101_105.out _; (with_reducible repeat (first | refine blk_drewN ?_ _ | refine blk_drew ?_ | refine blk_alloc ?_ _)); refine blk_far ?_ NB101_105.out _; (with_reducible repeat (first | refine blk_drewN ?_ _ | refine blk_drew ?_ | refine blk_alloc ?_ _)); refine blk_far ?_ NB101_105.out _; (with_reducible repeat (first | refine blk_drewN ?_ _ | refine blk_drew ?_ | refine blk_alloc ?_ _)); refine blk_far ?_ NB101_105.out _; (with_reducible repeat (first | refine blk_drewN ?_ _ | refine blk_drew ?_ | refine blk_alloc ?_ _)); exact BK101.out) hb); have n2_ := Aside0.mk (blk_below (g := gb105) (o := .cells #[.int .u8 t102, .int .u32 0, .string (⟨#[]⟩ : ByteArray), .string (⟨#[]⟩ : ByteArray)] 60 (0, 0)) (by (with_reducible repeat (first | refine blk_drewN ?_ _ | refine blk_drew ?_ | refine blk_alloc ?_ _)); refine blk_put (cs := #[.int .u8 t102, .int .u32 0, .string (⟨#[]⟩ : ByteArray), .string (⟨#[]⟩ : ByteArray)]) ?_ 3 _ rfl; (with_reducible repeat (first | refine blk_drewN ?_ _ | refine blk_drew ?_ | refine blk_alloc ?_ _)); refine blk_put (cs := #[.int .u8 t102, .int .u32 0, .string (⟨#[]⟩ : ByteArray), .string (⟨#[]⟩ : ByteArray)]) ?_ 2 _ rfl; (with_reducible repeat (first | refine blk_drewN ?_ _ | refine blk_drew ?_ | refine blk_alloc ?_ _)); refine blk_put (cs := #[.int .u8 t102, .int .u32 0, .string (⟨#[]⟩ : ByteArray), .string (⟨#[]⟩ : ByteArray)]) ?_ 1 _ rfl; (with_reducible repeat (first | refine blk_drewN ?_ _ | refine blk_drew ?_ | refine blk_alloc ?_ _)); refine blk_put (cs := #[.int .u8 0, .int .u32 0, .string (⟨#[]⟩ : ByteArray), .string (⟨#[]⟩ : ByteArray)]) ?_ 0 _ rfl; (with_reducible repeat (first | refine blk_drewN ?_ _ | refine blk_drew ?_ | refine blk_alloc ?_ _)); exact BK105.out) hb); have n3_ := Aside0.mk (KeepBut.trans z73z0 (KeepBut.of_below hb g none) (.inl rfl)); have n4_ := Aside0.mk (below_step z73z2 hb); replace HI0 := n0_; replace BK101 := n1_; replace BK105 := n2_; replace HK := n3_; replace HB := n4_; clear n0_ n1_ n2_ n3_ n4_; clear hb))
 (try simp only [Act.put, List.setIfInBounds_toArray, List.set_cons_zero, List.set_cons_succ])
 go_cut [] (fun wc => ∃ (kq : Nat) (x1000_3 : ByteArray) (x1001_3 : Int) (x106001_3 : Int) (x106002_3 : ByteArray) (x106003_3 : ByteArray), Aside0 (props_next.j1 kq x1000_3 x1001_3 t102 x106001_3 x106002_3 x106003_3 = some (r1, r2, r3, r4, r5, r6, r7)) ∧ Aside0 (kq ≤ k) ∧ Aside0 (wc.heap[gb101]? = some (.cells #[.int .u8 0, .int .u32 0, .string (⟨#[]⟩ : ByteArray), .string (⟨#[]⟩ : ByteArray)] 60 (0, 0))) ∧ Aside0 (wc.heap[gb105]? = some (.cells #[.int .u8 t102, .int .u32 x106001_3, .string x106002_3, .string x106003_3] 60 (0, 0))) ∧ Aside0 (IsS78 w0 wc g x1000_3 x1001_3) ∧ Aside0 (KeepBut w wc g none) ∧ Aside0 (Below w0.heap.size w0 wc))
 case first =>
  have H := HC4.out
  clear HC4
  by_cases c12 : t106 = 1
  ·rw [if_pos c12] at H
   have c12b0 : (t106 == 1) = true := beq_iff_eq.mpr c12
   have c12b1 : (t106 != 1) = false := bne_eq_false_iff_eq.mpr c12
   clear c12
   (first | rw [c12b0] | (simp only [i64_w, i32_w]; rw [c12b0]) | skip)
   replace H := Option.bind_eq_some_iff.mp H
   obtain ⟨⟨t107, t108, t109⟩, A130, H⟩ := H
   replace H : (props_next.j1 k t108 t109 t102 ((t107) % 4294967296) (⟨#[]⟩ : ByteArray) (⟨#[]⟩ : ByteArray)) = some (r1, r2, r3, r4, r5, r6, r7) := H
   have A13 := Aside0.mk A130
   clear A130
   have H' := Aside0.mk H
   clear H
   go_wp2_with (first | ((with_reducible refine gate_callee (f := 16) rfl ?_); refine goesL_ (some 14) rfl rfl Tryd.func16 (by kernel_rfl) rfl #[.pointer (some ⟨g, 0, none⟩)] rfl z73z4 ?_; (with_reducible refine (wire_Reader_Byte.calls g t103 t104 t107 t108 t109 w0 _ ?side1 ?side2 A13.out).mono ?_); (case side1 => exact z73z1); (case side2 => exact z73z2); rintro e w14 ⟨rfl, hi, hb, hk⟩; refine ⟨_, rfl, ?_⟩; have n0_ := Aside0.mk (KeepBut.blk hk (g' := gb101) (o := .cells #[.int .u8 0, .int .u32 0, .string (⟨#[]⟩ : ByteArray), .string (⟨#[]⟩ : ByteArray)] 60 (0, 0)) z73z3 NB101_0.out (by simp)); have n1_ := Aside0.mk (KeepBut.blk hk (g' := gb105) (o := .cells #[.int .u8 t102, .int .u32 0, .string (⟨#[]⟩ : ByteArray), .string (⟨#[]⟩ : ByteArray)] 60 (0, 0)) z73z5 NB105_0.out (by simp)); have n2_ := Aside0.mk (KeepBut.trans z73z0 hk (.inl rfl)); have n3_ := Aside0.mk (hb); have n4_ := Aside0.mk (hi); replace BK101 := n0_; replace BK105 := n1_; replace HK := n2_; replace HB := n3_; replace HI0 := n4_; clear n0_ n1_ n2_ n3_ n4_; clear hb hk hi; have hnb15 := NB105_101.out; have hnc15 := NB101_105.out; have hnb16 := NB105_0.out; have hnc16 := NB0_105.out; have hcz17_0 := cc4_0 BK105.out; have hcz17_1 := cc4_1 BK105.out; have hcz17_2 := cc4_2 BK105.out; have hcz17_3 := cc4_3 BK105.out; have hfz17_0 := blk_frozen BK105.out 0; have hfz17_1 := blk_frozen BK105.out 1; have hfz17_2 := blk_frozen BK105.out 2; have hfz17_3 := blk_frozen BK105.out 3))
   go_meet
   case rel => exact ⟨_, (t108), (t109), ((t107) % 4294967296), ((⟨#[]⟩ : ByteArray)), ((⟨#[]⟩ : ByteArray)), H', ⟨by first | omega | exact Nat.le_refl _⟩, ⟨by (with_reducible repeat (first | refine blk_drewN ?_ _ | refine blk_drew ?_ | refine blk_alloc ?_ _)); refine blk_far ?_ NB101_105.out _; (with_reducible repeat (first | refine blk_drewN ?_ _ | refine blk_drew ?_ | refine blk_alloc ?_ _)); exact BK101.out⟩, ⟨by (with_reducible repeat (first | refine blk_drewN ?_ _ | refine blk_drew ?_ | refine blk_alloc ?_ _)); refine blk_put (cs := #[.int .u8 t102, .int .u32 0, .string (⟨#[]⟩ : ByteArray), .string (⟨#[]⟩ : ByteArray)]) ?_ 1 _ rfl; (with_reducible repeat (first | refine blk_drewN ?_ _ | refine blk_drew ?_ | refine blk_alloc ?_ _)); exact BK105.out⟩, ⟨by repeat (first | (with_reducible first | exact HI0.out | apply IsS78.alloc | apply IsS78.drewN | apply IsS78.drew | apply IsS78.set_0 | apply IsS78.set_1 | refine IsS78.far ?_ NB0_101.out _ | refine IsS78.far ?_ NB0_105.out _) | exact HI0.out)⟩, ⟨by repeat (first | (with_reducible first | exact HK.out | apply KeepBut.set_ | apply keep_drewN | apply keep_drew | apply keep_alloc | refine keep_far ?_ GW101.out _ | refine keep_far ?_ GW105.out _) | exact HK.out)⟩, ⟨by repeat (first | (with_reducible first | exact HB.out | apply below_alloc | apply pw_below_drewN | apply below_drew1 | refine below_set ?_ (IsS78.ge HI0.out) | refine below_set ?_ GE101.out | refine below_set ?_ GE105.out) | exact HB.out)⟩⟩
  ·rw [if_neg c12] at H
   have c12b0 : (t106 == 1) = false := beq_eq_false_iff_ne.mpr c12
   have c12b1 : (t106 != 1) = true := bne_iff_ne.mpr c12
   (first | rw [c12b0] | (simp only [i64_w, i32_w]; rw [c12b0]) | skip)
   by_cases c18 : t106 = 2
   ·rw [if_pos c18] at H
    have c18b0 : (t106 == 2) = true := beq_iff_eq.mpr c18
    have c18b1 : (t106 != 2) = false := bne_eq_false_iff_eq.mpr c18
    clear c18
    replace H := Option.bind_eq_some_iff.mp H
    obtain ⟨⟨t110, t111, t112⟩, A190, H⟩ := H
    replace H : (props_next.j1 k t111 t112 t102 ((t110) % 4294967296) (⟨#[]⟩ : ByteArray) (⟨#[]⟩ : ByteArray)) = some (r1, r2, r3, r4, r5, r6, r7) := H
    have A19 := Aside0.mk A190
    clear A190
    have H' := Aside0.mk H
    clear H
    go_wp2_with (first | ((with_reducible refine gate_callee (f := 94) rfl ?_); refine goesL_ (some 20) rfl rfl Tryd.func94 (by kernel_rfl) rfl #[.pointer (some ⟨g, 0, none⟩)] rfl z73z4 ?_; (with_reducible refine (wire_Reader_Two.calls g t103 t104 t110 t111 t112 w0 _ ?side1 ?side2 A19.out).mono ?_); (case side1 => exact z73z1); (case side2 => exact z73z2); rintro e w20 ⟨rfl, hi, hb, hk⟩; refine ⟨_, rfl, ?_⟩; have n0_ := Aside0.mk (KeepBut.blk hk (g' := gb101) (o := .cells #[.int .u8 0, .int .u32 0, .string (⟨#[]⟩ : ByteArray), .string (⟨#[]⟩ : ByteArray)] 60 (0, 0)) z73z3 NB101_0.out (by simp)); have n1_ := Aside0.mk (KeepBut.blk hk (g' := gb105) (o := .cells #[.int .u8 t102, .int .u32 0, .string (⟨#[]⟩ : ByteArray), .string (⟨#[]⟩ : ByteArray)] 60 (0, 0)) z73z5 NB105_0.out (by simp)); have n2_ := Aside0.mk (KeepBut.trans z73z0 hk (.inl rfl)); have n3_ := Aside0.mk (hb); have n4_ := Aside0.mk (hi); replace BK101 := n0_; replace BK105 := n1_; replace HK := n2_; replace HB := n3_; replace HI0 := n4_; clear n0_ n1_ n2_ n3_ n4_; clear hb hk hi; have hnb21 := NB105_101.out; have hnc21 := NB101_105.out; have hnb22 := NB105_0.out; have hnc22 := NB0_105.out; have hcz23_0 := cc4_0 BK105.out; have hcz23_1 := cc4_1 BK105.out; have hcz23_2 := cc4_2 BK105.out; have hcz23_3 := cc4_3 BK105.out; have hfz23_0 := blk_frozen BK105.out 0; have hfz23_1 := blk_frozen BK105.out 1; have hfz23_2 := blk_frozen BK105.out 2; have hfz23_3 := blk_frozen BK105.out 3))
    go_meet
    case rel => exact ⟨_, (t111), (t112), ((t110) % 4294967296), ((⟨#[]⟩ : ByteArray)), ((⟨#[]⟩ : ByteArray)), H', ⟨by first | omega | exact Nat.le_refl _⟩, ⟨by (with_reducible repeat (first | refine blk_drewN ?_ _ | refine blk_drew ?_ | refine blk_alloc ?_ _)); refine blk_far ?_ NB101_105.out _; (with_reducible repeat (first | refine blk_drewN ?_ _ | refine blk_drew ?_ | refine blk_alloc ?_ _)); exact BK101.out⟩, ⟨by (with_reducible repeat (first | refine blk_drewN ?_ _ | refine blk_drew ?_ | refine blk_alloc ?_ _)); refine blk_put (cs := #[.int .u8 t102, .int .u32 0, .string (⟨#[]⟩ : ByteArray), .string (⟨#[]⟩ : ByteArray)]) ?_ 1 _ rfl; (with_reducible repeat (first | refine blk_drewN ?_ _ | refine blk_drew ?_ | refine blk_alloc ?_ _)); exact BK105.out⟩, ⟨by repeat (first | (with_reducible first | exact HI0.out | apply IsS78.alloc | apply IsS78.drewN | apply IsS78.drew | apply IsS78.set_0 | apply IsS78.set_1 | refine IsS78.far ?_ NB0_101.out _ | refine IsS78.far ?_ NB0_105.out _) | exact HI0.out)⟩, ⟨by repeat (first | (with_reducible first | exact HK.out | apply KeepBut.set_ | apply keep_drewN | apply keep_drew | apply keep_alloc | refine keep_far ?_ GW101.out _ | refine keep_far ?_ GW105.out _) | exact HK.out)⟩, ⟨by repeat (first | (with_reducible first | exact HB.out | apply below_alloc | apply pw_below_drewN | apply below_drew1 | refine below_set ?_ (IsS78.ge HI0.out) | refine below_set ?_ GE101.out | refine below_set ?_ GE105.out) | exact HB.out)⟩⟩
   ·rw [if_neg c18] at H
    have c18b0 : (t106 == 2) = false := beq_eq_false_iff_ne.mpr c18
    have c18b1 : (t106 != 2) = true := bne_iff_ne.mpr c18
    by_cases c24 : t106 = 3
    ·rw [if_pos c24] at H
     have c24b0 : (t106 == 3) = true := beq_iff_eq.mpr c24
     have c24b1 : (t106 != 3) = false := bne_eq_false_iff_eq.mpr c24
     clear c24
     replace H := Option.bind_eq_some_iff.mp H
     obtain ⟨⟨t113, t114, t115⟩, A250, H⟩ := H
     replace H : (props_next.j1 k t114 t115 t102 t113 (⟨#[]⟩ : ByteArray) (⟨#[]⟩ : ByteArray)) = some (r1, r2, r3, r4, r5, r6, r7) := H
     have A25 := Aside0.mk A250
     clear A250
     have H' := Aside0.mk H
     clear H
     go_wp2_with (first | ((with_reducible refine gate_callee (f := 95) rfl ?_); refine goesL_ (some 26) rfl rfl Tryd.func95 (by kernel_rfl) rfl #[.pointer (some ⟨g, 0, none⟩)] rfl z73z4 ?_; (with_reducible refine (wire_Reader_Four.calls g t103 t104 t113 t114 t115 w0 _ ?side1 ?side2 A25.out).mono ?_); (case side1 => exact z73z1); (case side2 => exact z73z2); rintro e w26 ⟨rfl, hi, hb, hk⟩; refine ⟨_, rfl, ?_⟩; have n0_ := Aside0.mk (KeepBut.blk hk (g' := gb101) (o := .cells #[.int .u8 0, .int .u32 0, .string (⟨#[]⟩ : ByteArray), .string (⟨#[]⟩ : ByteArray)] 60 (0, 0)) z73z3 NB101_0.out (by simp)); have n1_ := Aside0.mk (KeepBut.blk hk (g' := gb105) (o := .cells #[.int .u8 t102, .int .u32 0, .string (⟨#[]⟩ : ByteArray), .string (⟨#[]⟩ : ByteArray)] 60 (0, 0)) z73z5 NB105_0.out (by simp)); have n2_ := Aside0.mk (KeepBut.trans z73z0 hk (.inl rfl)); have n3_ := Aside0.mk (hb); have n4_ := Aside0.mk (hi); replace BK101 := n0_; replace BK105 := n1_; replace HK := n2_; replace HB := n3_; replace HI0 := n4_; clear n0_ n1_ n2_ n3_ n4_; clear hb hk hi; have hnb27 := NB105_101.out; have hnc27 := NB101_105.out; have hnb28 := NB105_0.out; have hnc28 := NB0_105.out; have hcz29_0 := cc4_0 BK105.out; have hcz29_1 := cc4_1 BK105.out; have hcz29_2 := cc4_2 BK105.out; have hcz29_3 := cc4_3 BK105.out; have hfz29_0 := blk_frozen BK105.out 0; have hfz29_1 := blk_frozen BK105.out 1; have hfz29_2 := blk_frozen BK105.out 2; have hfz29_3 := blk_frozen BK105.out 3))
     go_meet
     case rel => exact ⟨_, (t114), (t115), (t113), ((⟨#[]⟩ : ByteArray)), ((⟨#[]⟩ : ByteArray)), H', ⟨by first | omega | exact Nat.le_refl _⟩, ⟨by (with_reducible repeat (first | refine blk_drewN ?_ _ | refine blk_drew ?_ | refine blk_alloc ?_ _)); refine blk_far ?_ NB101_105.out _; (with_reducible repeat (first | refine blk_drewN ?_ _ | refine blk_drew ?_ | refine blk_alloc ?_ _)); exact BK101.out⟩, ⟨by (with_reducible repeat (first | refine blk_drewN ?_ _ | refine blk_drew ?_ | refine blk_alloc ?_ _)); refine blk_put (cs := #[.int .u8 t102, .int .u32 0, .string (⟨#[]⟩ : ByteArray), .string (⟨#[]⟩ : ByteArray)]) ?_ 1 _ rfl; (with_reducible repeat (first | refine blk_drewN ?_ _ | refine blk_drew ?_ | refine blk_alloc ?_ _)); exact BK105.out⟩, ⟨by repeat (first | (with_reducible first | exact HI0.out | apply IsS78.alloc | apply IsS78.drewN | apply IsS78.drew | apply IsS78.set_0 | apply IsS78.set_1 | refine IsS78.far ?_ NB0_101.out _ | refine IsS78.far ?_ NB0_105.out _) | exact HI0.out)⟩, ⟨by repeat (first | (with_reducible first | exact HK.out | apply KeepBut.set_ | apply keep_drewN | apply keep_drew | apply keep_alloc | refine keep_far ?_ GW101.out _ | refine keep_far ?_ GW105.out _) | exact HK.out)⟩, ⟨by repeat (first | (with_reducible first | exact HB.out | apply below_alloc | apply pw_below_drewN | apply below_drew1 | refine below_set ?_ (IsS78.ge HI0.out) | refine below_set ?_ GE101.out | refine below_set ?_ GE105.out) | exact HB.out)⟩⟩
    ·rw [if_neg c24] at H
     have c24b0 : (t106 == 3) = false := beq_eq_false_iff_ne.mpr c24
     have c24b1 : (t106 != 3) = true := bne_iff_ne.mpr c24
     by_cases c30 : t106 = 4
     ·rw [if_pos c30] at H
      have c30b0 : (t106 == 4) = true := beq_iff_eq.mpr c30
      have c30b1 : (t106 != 4) = false := bne_eq_false_iff_eq.mpr c30
      clear c30
      replace H := Option.bind_eq_some_iff.mp H
      obtain ⟨⟨t116, t117, t118⟩, A310, H⟩ := H
      replace H : (props_next.j1 k t117 t118 t102 t116 (⟨#[]⟩ : ByteArray) (⟨#[]⟩ : ByteArray)) = some (r1, r2, r3, r4, r5, r6, r7) := H
      have A31 := Aside0.mk A310
      clear A310
      have H' := Aside0.mk H
      clear H
      go_wp2_with (first | ((with_reducible refine gate_callee (f := 43) rfl ?_); refine goesL_ (some 31) rfl rfl Tryd.func43 (by kernel_rfl) rfl #[.pointer (some ⟨g, 0, none⟩)] rfl z73z4 ?_; (with_reducible refine (wire_Reader_Var.calls k g t103 t104 t116 t117 t118 w0 _ ?side1 ?side2 A31.out).mono ?_); (case side1 => exact z73z1); (case side2 => exact z73z2); rintro e w32 ⟨rfl, hi, hb, hk⟩; refine ⟨_, rfl, ?_⟩; have n0_ := Aside0.mk (KeepBut.blk hk (g' := gb101) (o := .cells #[.int .u8 0, .int .u32 0, .string (⟨#[]⟩ : ByteArray), .string (⟨#[]⟩ : ByteArray)] 60 (0, 0)) z73z3 NB101_0.out (by simp)); have n1_ := Aside0.mk (KeepBut.blk hk (g' := gb105) (o := .cells #[.int .u8 t102, .int .u32 0, .string (⟨#[]⟩ : ByteArray), .string (⟨#[]⟩ : ByteArray)] 60 (0, 0)) z73z5 NB105_0.out (by simp)); have n2_ := Aside0.mk (KeepBut.trans z73z0 hk (.inl rfl)); have n3_ := Aside0.mk (hb); have n4_ := Aside0.mk (hi); replace BK101 := n0_; replace BK105 := n1_; replace HK := n2_; replace HB := n3_; replace HI0 := n4_; clear n0_ n1_ n2_ n3_ n4_; clear hb hk hi; have hnb33 := NB105_101.out; have hnc33 := NB101_105.out; have hnb34 := NB105_0.out; have hnc34 := NB0_105.out; have hcz35_0 := cc4_0 BK105.out; have hcz35_1 := cc4_1 BK105.out; have hcz35_2 := cc4_2 BK105.out; have hcz35_3 := cc4_3 BK105.out; have hfz35_0 := blk_frozen BK105.out 0; have hfz35_1 := blk_frozen BK105.out 1; have hfz35_2 := blk_frozen BK105.out 2; have hfz35_3 := blk_frozen BK105.out 3))
      go_meet
      case rel => exact ⟨_, (t117), (t118), (t116), ((⟨#[]⟩ : ByteArray)), ((⟨#[]⟩ : ByteArray)), H', ⟨by first | omega | exact Nat.le_refl _⟩, ⟨by (with_reducible repeat (first | refine blk_drewN ?_ _ | refine blk_drew ?_ | refine blk_alloc ?_ _)); refine blk_far ?_ NB101_105.out _; (with_reducible repeat (first | refine blk_drewN ?_ _ | refine blk_drew ?_ | refine blk_alloc ?_ _)); exact BK101.out⟩, ⟨by (with_reducible repeat (first | refine blk_drewN ?_ _ | refine blk_drew ?_ | refine blk_alloc ?_ _)); refine blk_put (cs := #[.int .u8 t102, .int .u32 0, .string (⟨#[]⟩ : ByteArray), .string (⟨#[]⟩ : ByteArray)]) ?_ 1 _ rfl; (with_reducible repeat (first | refine blk_drewN ?_ _ | refine blk_drew ?_ | refine blk_alloc ?_ _)); exact BK105.out⟩, ⟨by repeat (first | (with_reducible first | exact HI0.out | apply IsS78.alloc | apply IsS78.drewN | apply IsS78.drew | apply IsS78.set_0 | apply IsS78.set_1 | refine IsS78.far ?_ NB0_101.out _ | refine IsS78.far ?_ NB0_105.out _) | exact HI0.out)⟩, ⟨by repeat (first | (with_reducible first | exact HK.out | apply KeepBut.set_ | apply keep_drewN | apply keep_drew | apply keep_alloc | refine keep_far ?_ GW101.out _ | refine keep_far ?_ GW105.out _) | exact HK.out)⟩, ⟨by repeat (first | (with_reducible first | exact HB.out | apply below_alloc | apply pw_below_drewN | apply below_drew1 | refine below_set ?_ (IsS78.ge HI0.out) | refine below_set ?_ GE101.out | refine below_set ?_ GE105.out) | exact HB.out)⟩⟩
     ·rw [if_neg c30] at H
      have c30b0 : (t106 == 4) = false := beq_eq_false_iff_ne.mpr c30
      have c30b1 : (t106 != 4) = true := bne_iff_ne.mpr c30
      have HC36 := Aside0.mk H
      clear H
      go_upto_if 33 with (fail)
      go_cut [33] (fun v33 wc => ∃ (kq : Nat) (x33_35 : Bool), v33 = .bool x33_35 ∧ Aside0 (props_next.j0 kq t106 x33_35 t103 t104 t102 0 (⟨#[]⟩ : ByteArray) (⟨#[]⟩ : ByteArray) = some (r1, r2, r3, r4, r5, r6, r7)) ∧ Aside0 (kq ≤ k) ∧ Aside0 (wc.heap[gb101]? = some (.cells #[.int .u8 0, .int .u32 0, .string (⟨#[]⟩ : ByteArray), .string (⟨#[]⟩ : ByteArray)] 60 (0, 0))) ∧ Aside0 (wc.heap[gb105]? = some (.cells #[.int .u8 t102, .int .u32 0, .string (⟨#[]⟩ : ByteArray), .string (⟨#[]⟩ : ByteArray)] 60 (0, 0))) ∧ Aside0 (IsS78 w0 wc g t103 t104) ∧ Aside0 (KeepBut w wc g none) ∧ Aside0 (Below w0.heap.size w0 wc))
      case first =>
       have H := HC36.out
       clear HC36
       by_cases c37 : t106 = 5
       ·rw [if_pos c37] at H
        have c37b0 : (t106 == 5) = true := beq_iff_eq.mpr c37
        have c37b1 : (t106 != 5) = false := bne_eq_false_iff_eq.mpr c37
        clear c37
        (first | rw [c37b0] | (simp only [i64_w, i32_w]; rw [c37b0]) | skip)
        have H' := Aside0.mk H
        clear H
        go_wp2
        go_meet
        case rel => exact ⟨_, ((t106 == 5)), (by first | rfl | (simp; done) | (simp [*]; done)), H', ⟨by first | omega | exact Nat.le_refl _⟩, ⟨by (with_reducible repeat (first | refine blk_drewN ?_ _ | refine blk_drew ?_ | refine blk_alloc ?_ _)); exact BK101.out⟩, ⟨by (with_reducible repeat (first | refine blk_drewN ?_ _ | refine blk_drew ?_ | refine blk_alloc ?_ _)); exact BK105.out⟩, ⟨by repeat (first | (with_reducible first | exact HI0.out | apply IsS78.alloc | apply IsS78.drewN | apply IsS78.drew | apply IsS78.set_0 | apply IsS78.set_1 | refine IsS78.far ?_ NB0_101.out _ | refine IsS78.far ?_ NB0_105.out _) | exact HI0.out)⟩, ⟨by repeat (first | (with_reducible first | exact HK.out | apply KeepBut.set_ | apply keep_drewN | apply keep_drew | apply keep_alloc | refine keep_far ?_ GW101.out _ | refine keep_far ?_ GW105.out _) | exact HK.out)⟩, ⟨by repeat (first | (with_reducible first | exact HB.out | apply below_alloc | apply pw_below_drewN | apply below_drew1 | refine below_set ?_ (IsS78.ge HI0.out) | refine below_set ?_ GE101.out | refine below_set ?_ GE105.out) | exact HB.out)⟩⟩
       ·rw [if_neg c37] at H
        have c37b0 : (t106 == 5) = false := beq_eq_false_iff_ne.mpr c37
        have c37b1 : (t106 != 5) = true := bne_iff_ne.mpr c37
        (first | rw [c37b0] | (simp only [i64_w, i32_w]; rw [c37b0]) | skip)
        have H' := Aside0.mk H
        clear H
        go_wp2
        go_meet
        case rel => exact ⟨_, ((t106 == 6)), (by first | rfl | (simp; done) | (simp [*]; done)), H', ⟨by first | omega | exact Nat.le_refl _⟩, ⟨by (with_reducible repeat (first | refine blk_drewN ?_ _ | refine blk_drew ?_ | refine blk_alloc ?_ _)); exact BK101.out⟩, ⟨by (with_reducible repeat (first | refine blk_drewN ?_ _ | refine blk_drew ?_ | refine blk_alloc ?_ _)); exact BK105.out⟩, ⟨by repeat (first | (with_reducible first | exact HI0.out | apply IsS78.alloc | apply IsS78.drewN | apply IsS78.drew | apply IsS78.set_0 | apply IsS78.set_1 | refine IsS78.far ?_ NB0_101.out _ | refine IsS78.far ?_ NB0_105.out _) | exact HI0.out)⟩, ⟨by repeat (first | (with_reducible first | exact HK.out | apply KeepBut.set_ | apply keep_drewN | apply keep_drew | apply keep_alloc | refine keep_far ?_ GW101.out _ | refine keep_far ?_ GW105.out _) | exact HK.out)⟩, ⟨by repeat (first | (with_reducible first | exact HB.out | apply below_alloc | apply pw_below_drewN | apply below_drew1 | refine below_set ?_ (IsS78.ge HI0.out) | refine below_set ?_ GE101.out | refine below_set ?_ GE105.out) | exact HB.out)⟩⟩
      case rest =>
       clear HC36
       try clear c1
       try clear c2
       try clear p2
       try clear c3
       try clear c4
       try clear c7
       try clear c8
       try clear c9
       try clear c12
       try clear c12b0
       try clear c12b1
       try clear c15
       try clear c16
       try clear c18
       try clear c18b0
       try clear c18b1
       try clear c21
       try clear c22
       try clear c24
       try clear c24b0
       try clear c24b1
       try clear c27
       try clear c28
       try clear c30
       try clear c30b0
       try clear c30b1
       try clear c33
       try clear c34
       try clear c37
       try clear c37b0
       try clear c37b1
       try clear hcz10_0
       try clear hcz10_1
       try clear hcz10_2
       try clear hcz10_3
       try clear hcz17_0
       try clear hcz17_1
       try clear hcz17_2
       try clear hcz17_3
       try clear hcz23_0
       try clear hcz23_1
       try clear hcz23_2
       try clear hcz23_3
       try clear hcz29_0
       try clear hcz29_1
       try clear hcz29_2
       try clear hcz29_3
       try clear hcz35_0
       try clear hcz35_1
       try clear hcz35_2
       try clear hcz35_3
       try clear hfz10_0
       try clear hfz10_1
       try clear hfz10_2
       try clear hfz10_3
       try clear hfz17_0
       try clear hfz17_1
       try clear hfz17_2
       try clear hfz17_3
       try clear hfz23_0
       try clear hfz23_1
       try clear hfz23_2
       try clear hfz23_3
       try clear hfz29_0
       try clear hfz29_1
       try clear hfz29_2
       try clear hfz29_3
       try clear hfz35_0
       try clear hfz35_1
       try clear hfz35_2
       try clear hfz35_3
       obtain ⟨kq, x33_35, rfl, HA, HJ35, BK101, BK105, HI0, HK, HB⟩ := hcut
       cases kq with
       | zero => exact absurd HA.out (by simp [props_next.j0])
       | succ kj35 =>
        have H := HA.out
        clear HA
        simp only [props_next.j0] at H
        by_cases c38 : x33_35 = true
        ·subst c38
         have H1 : ((wire_Reader_Bin.f t103 t104).bind fun bt119 => (props_next.j1 kj35 bt119.2.1 bt119.2.2 t102 0 bt119.1 (⟨#[]⟩ : ByteArray))) = some (r1, r2, r3, r4, r5, r6, r7) := by rw [if_pos rfl] at H; exact H
         clear H
         have H := H1
         clear H1
         replace H := Option.bind_eq_some_iff.mp H
         obtain ⟨⟨t119, t120, t121⟩, A390, H⟩ := H
         replace H : (props_next.j1 kj35 t120 t121 t102 0 t119 (⟨#[]⟩ : ByteArray)) = some (r1, r2, r3, r4, r5, r6, r7) := H
         have A39 := Aside0.mk A390
         clear A390
         have H' := Aside0.mk H
         clear H
         go_wp2_with (first | ((with_reducible refine gate_callee (f := 96) rfl ?_); refine goesL_ (some 37) rfl rfl Tryd.func96 (by kernel_rfl) rfl #[.pointer (some ⟨g, 0, none⟩)] rfl z73z4 ?_; (with_reducible refine (wire_Reader_Bin.calls g t103 t104 t119 t120 t121 w0 _ ?side1 ?side2 A39.out).mono ?_); (case side1 => exact z73z1); (case side2 => exact z73z2); rintro e w40 ⟨rfl, hi, hb, hk⟩; refine ⟨_, rfl, ?_⟩; have n0_ := Aside0.mk (KeepBut.blk hk (g' := gb101) (o := .cells #[.int .u8 0, .int .u32 0, .string (⟨#[]⟩ : ByteArray), .string (⟨#[]⟩ : ByteArray)] 60 (0, 0)) z73z3 NB101_0.out (by simp)); have n1_ := Aside0.mk (KeepBut.blk hk (g' := gb105) (o := .cells #[.int .u8 t102, .int .u32 0, .string (⟨#[]⟩ : ByteArray), .string (⟨#[]⟩ : ByteArray)] 60 (0, 0)) z73z5 NB105_0.out (by simp)); have n2_ := Aside0.mk (KeepBut.trans z73z0 hk (.inl rfl)); have n3_ := Aside0.mk (hb); have n4_ := Aside0.mk (hi); replace BK101 := n0_; replace BK105 := n1_; replace HK := n2_; replace HB := n3_; replace HI0 := n4_; clear n0_ n1_ n2_ n3_ n4_; clear hb hk hi; have hnb41 := NB105_101.out; have hnc41 := NB101_105.out; have hnb42 := NB105_0.out; have hnc42 := NB0_105.out; have hcz43_0 := cc4_0 BK105.out; have hcz43_1 := cc4_1 BK105.out; have hcz43_2 := cc4_2 BK105.out; have hcz43_3 := cc4_3 BK105.out; have hfz43_0 := blk_frozen BK105.out 0; have hfz43_1 := blk_frozen BK105.out 1; have hfz43_2 := blk_frozen BK105.out 2; have hfz43_3 := blk_frozen BK105.out 3))
         go_meet
         case rel => exact ⟨_, (t120), (t121), (0), (t119), ((⟨#[]⟩ : ByteArray)), H', ⟨by have := HJ35.out; first | omega | exact Nat.le_refl _⟩, ⟨by (with_reducible repeat (first | refine blk_drewN ?_ _ | refine blk_drew ?_ | refine blk_alloc ?_ _)); refine blk_far ?_ NB101_105.out _; (with_reducible repeat (first | refine blk_drewN ?_ _ | refine blk_drew ?_ | refine blk_alloc ?_ _)); exact BK101.out⟩, ⟨by (with_reducible repeat (first | refine blk_drewN ?_ _ | refine blk_drew ?_ | refine blk_alloc ?_ _)); refine blk_put (cs := #[.int .u8 t102, .int .u32 0, .string (⟨#[]⟩ : ByteArray), .string (⟨#[]⟩ : ByteArray)]) ?_ 2 _ rfl; (with_reducible repeat (first | refine blk_drewN ?_ _ | refine blk_drew ?_ | refine blk_alloc ?_ _)); exact BK105.out⟩, ⟨by repeat (first | (with_reducible first | exact HI0.out | apply IsS78.alloc | apply IsS78.drewN | apply IsS78.drew | apply IsS78.set_0 | apply IsS78.set_1 | refine IsS78.far ?_ NB0_101.out _ | refine IsS78.far ?_ NB0_105.out _) | exact HI0.out)⟩, ⟨by repeat (first | (with_reducible first | exact HK.out | apply KeepBut.set_ | apply keep_drewN | apply keep_drew | apply keep_alloc | refine keep_far ?_ GW101.out _ | refine keep_far ?_ GW105.out _) | exact HK.out)⟩, ⟨by repeat (first | (with_reducible first | exact HB.out | apply below_alloc | apply pw_below_drewN | apply below_drew1 | refine below_set ?_ (IsS78.ge HI0.out) | refine below_set ?_ GE101.out | refine below_set ?_ GE105.out) | exact HB.out)⟩⟩
        ·replace c38 := Bool.eq_false_iff.mpr c38
         subst c38
         have H1 : (if t106 = 7 then ((wire_Reader_Bin.f t103 t104).bind fun bt122 => ((wire_Reader_Bin.f bt122.2.1 bt122.2.2).bind fun bt125 => (props_next.j1 kj35 bt125.2.1 bt125.2.2 t102 0 bt122.1 bt125.1))) else (props_next.j1 kj35 t103 t104 t102 0 (⟨#[]⟩ : ByteArray) (⟨#[]⟩ : ByteArray))) = some (r1, r2, r3, r4, r5, r6, r7) := by rw [if_neg (show ¬ (false = true) by decide)] at H; exact H
         clear H
         have H := H1
         clear H1
         by_cases c44 : t106 = 7
         ·rw [if_pos c44] at H
          have c44b0 : (t106 == 7) = true := beq_iff_eq.mpr c44
          have c44b1 : (t106 != 7) = false := bne_eq_false_iff_eq.mpr c44
          clear c44
          replace H := Option.bind_eq_some_iff.mp H
          obtain ⟨⟨t122, t123, t124⟩, A450, H⟩ := H
          replace H : ((wire_Reader_Bin.f t123 t124).bind fun bt125 => (props_next.j1 kj35 bt125.2.1 bt125.2.2 t102 0 t122 bt125.1)) = some (r1, r2, r3, r4, r5, r6, r7) := H
          have A45 := Aside0.mk A450
          clear A450
          replace H := Option.bind_eq_some_iff.mp H
          obtain ⟨⟨t125, t126, t127⟩, A460, H⟩ := H
          replace H : (props_next.j1 kj35 t126 t127 t102 0 t122 t125) = some (r1, r2, r3, r4, r5, r6, r7) := H
          have A46 := Aside0.mk A460
          clear A460
          have H' := Aside0.mk H
          clear H
          go_wp2_with (first | ((with_reducible refine gate_callee (f := 96) rfl ?_); refine goesL_ (some 42) rfl rfl Tryd.func96 (by kernel_rfl) rfl #[.pointer (some ⟨g, 0, none⟩)] rfl z73z4 ?_; (with_reducible refine (wire_Reader_Bin.calls g t103 t104 t122 t123 t124 w0 _ ?side1 ?side2 A45.out).mono ?_); (case side1 => exact z73z1); (case side2 => exact z73z2); rintro e w47 ⟨rfl, hi, hb, hk⟩; refine ⟨_, rfl, ?_⟩; have n0_ := Aside0.mk (KeepBut.blk hk (g' := gb101) (o := .cells #[.int .u8 0, .int .u32 0, .string (⟨#[]⟩ : ByteArray), .string (⟨#[]⟩ : ByteArray)] 60 (0, 0)) z73z3 NB101_0.out (by simp)); have n1_ := Aside0.mk (KeepBut.blk hk (g' := gb105) (o := .cells #[.int .u8 t102, .int .u32 0, .string (⟨#[]⟩ : ByteArray), .string (⟨#[]⟩ : ByteArray)] 60 (0, 0)) z73z5 NB105_0.out (by simp)); have n2_ := Aside0.mk (KeepBut.trans z73z0 hk (.inl rfl)); have n3_ := Aside0.mk (hb); have n4_ := Aside0.mk (hi); replace BK101 := n0_; replace BK105 := n1_; replace HK := n2_; replace HB := n3_; replace HI0 := n4_; clear n0_ n1_ n2_ n3_ n4_; clear hb hk hi; have hnb48 := NB105_101.out; have hnc48 := NB101_105.out; have hnb49 := NB105_0.out; have hnc49 := NB0_105.out; have hcz50_0 := cc4_0 BK105.out; have hcz50_1 := cc4_1 BK105.out; have hcz50_2 := cc4_2 BK105.out; have hcz50_3 := cc4_3 BK105.out; have hfz50_0 := blk_frozen BK105.out 0; have hfz50_1 := blk_frozen BK105.out 1; have hfz50_2 := blk_frozen BK105.out 2; have hfz50_3 := blk_frozen BK105.out 3) | ((with_reducible refine gate_callee (f := 96) rfl ?_); refine goesL_ (some 45) rfl rfl Tryd.func96 (by kernel_rfl) rfl #[.pointer (some ⟨g, 0, none⟩)] rfl z73z4 ?_; (with_reducible refine (wire_Reader_Bin.calls g t123 t124 t125 t126 t127 w0 _ ?side1 ?side2 A46.out).mono ?_); (case side1 => exact z73z1); (case side2 => exact z73z2); rintro e w51 ⟨rfl, hi, hb, hk⟩; refine ⟨_, rfl, ?_⟩; have n0_ := Aside0.mk (KeepBut.blk hk (g' := gb101) (o := .cells #[.int .u8 0, .int .u32 0, .string (⟨#[]⟩ : ByteArray), .string (⟨#[]⟩ : ByteArray)] 60 (0, 0)) (by (with_reducible repeat (first | refine blk_drewN ?_ _ | refine blk_drew ?_ | refine blk_alloc ?_ _)); refine blk_far ?_ NB101_105.out _; (with_reducible repeat (first | refine blk_drewN ?_ _ | refine blk_drew ?_ | refine blk_alloc ?_ _)); exact BK101.out) NB101_0.out (by simp)); have n1_ := Aside0.mk (KeepBut.blk hk (g' := gb105) (o := .cells #[.int .u8 t102, .int .u32 0, .string t122, .string (⟨#[]⟩ : ByteArray)] 60 (0, 0)) (by (with_reducible repeat (first | refine blk_drewN ?_ _ | refine blk_drew ?_ | refine blk_alloc ?_ _)); refine blk_put (cs := #[.int .u8 t102, .int .u32 0, .string (⟨#[]⟩ : ByteArray), .string (⟨#[]⟩ : ByteArray)]) ?_ 2 _ rfl; (with_reducible repeat (first | refine blk_drewN ?_ _ | refine blk_drew ?_ | refine blk_alloc ?_ _)); exact BK105.out) NB105_0.out (by simp)); have n2_ := Aside0.mk (KeepBut.trans z73z0 hk (.inl rfl)); have n3_ := Aside0.mk (hb); have n4_ := Aside0.mk (hi); replace BK101 := n0_; replace BK105 := n1_; replace HK := n2_; replace HB := n3_; replace HI0 := n4_; clear n0_ n1_ n2_ n3_ n4_; clear hb hk hi; have hcz52_0 := cc4_0 BK105.out; have hcz52_1 := cc4_1 BK105.out; have hcz52_2 := cc4_2 BK105.out; have hcz52_3 := cc4_3 BK105.out; have hfz52_0 := blk_frozen BK105.out 0; have hfz52_1 := blk_frozen BK105.out 1; have hfz52_2 := blk_frozen BK105.out 2; have hfz52_3 := blk_frozen BK105.out 3))
          go_meet
          case rel => exact ⟨_, (t126), (t127), (0), (t122), (t125), H', ⟨by have := HJ35.out; first | omega | exact Nat.le_refl _⟩, ⟨by (with_reducible repeat (first | refine blk_drewN ?_ _ | refine blk_drew ?_ | refine blk_alloc ?_ _)); refine blk_far ?_ NB101_105.out _; (with_reducible repeat (first | refine blk_drewN ?_ _ | refine blk_drew ?_ | refine blk_alloc ?_ _)); exact BK101.out⟩, ⟨by (with_reducible repeat (first | refine blk_drewN ?_ _ | refine blk_drew ?_ | refine blk_alloc ?_ _)); refine blk_put (cs := #[.int .u8 t102, .int .u32 0, .string t122, .string (⟨#[]⟩ : ByteArray)]) ?_ 3 _ rfl; (with_reducible repeat (first | refine blk_drewN ?_ _ | refine blk_drew ?_ | refine blk_alloc ?_ _)); exact BK105.out⟩, ⟨by repeat (first | (with_reducible first | exact HI0.out | apply IsS78.alloc | apply IsS78.drewN | apply IsS78.drew | apply IsS78.set_0 | apply IsS78.set_1 | refine IsS78.far ?_ NB0_101.out _ | refine IsS78.far ?_ NB0_105.out _) | exact HI0.out)⟩, ⟨by repeat (first | (with_reducible first | exact HK.out | apply KeepBut.set_ | apply keep_drewN | apply keep_drew | apply keep_alloc | refine keep_far ?_ GW101.out _ | refine keep_far ?_ GW105.out _) | exact HK.out)⟩, ⟨by repeat (first | (with_reducible first | exact HB.out | apply below_alloc | apply pw_below_drewN | apply below_drew1 | refine below_set ?_ (IsS78.ge HI0.out) | refine below_set ?_ GE101.out | refine below_set ?_ GE105.out) | exact HB.out)⟩⟩
         ·rw [if_neg c44] at H
          have c44b0 : (t106 == 7) = false := beq_eq_false_iff_ne.mpr c44
          have c44b1 : (t106 != 7) = true := bne_iff_ne.mpr c44
          have H' := Aside0.mk H
          clear H
          go_wp2
          go_meet
          case rel => exact ⟨_, (t103), (t104), (0), ((⟨#[]⟩ : ByteArray)), ((⟨#[]⟩ : ByteArray)), H', ⟨by have := HJ35.out; first | omega | exact Nat.le_refl _⟩, ⟨by (with_reducible repeat (first | refine blk_drewN ?_ _ | refine blk_drew ?_ | refine blk_alloc ?_ _)); exact BK101.out⟩, ⟨by (with_reducible repeat (first | refine blk_drewN ?_ _ | refine blk_drew ?_ | refine blk_alloc ?_ _)); exact BK105.out⟩, ⟨by repeat (first | (with_reducible first | exact HI0.out | apply IsS78.alloc | apply IsS78.drewN | apply IsS78.drew | apply IsS78.set_0 | apply IsS78.set_1 | refine IsS78.far ?_ NB0_101.out _ | refine IsS78.far ?_ NB0_105.out _) | exact HI0.out)⟩, ⟨by repeat (first | (with_reducible first | exact HK.out | apply KeepBut.set_ | apply keep_drewN | apply keep_drew | apply keep_alloc | refine keep_far ?_ GW101.out _ | refine keep_far ?_ GW105.out _) | exact HK.out)⟩, ⟨by repeat (first | (with_reducible first | exact HB.out | apply below_alloc | apply pw_below_drewN | apply below_drew1 | refine below_set ?_ (IsS78.ge HI0.out) | refine below_set ?_ GE101.out | refine below_set ?_ GE105.out) | exact HB.out)⟩⟩
 case rest =>
  clear HC4
  try clear c1
  try clear c2
  try clear p2
  try clear c3
  try clear c4
  try clear c7
  try clear c8
  try clear c9
  try clear c12
  try clear c12b0
  try clear c12b1
  try clear c15
  try clear c16
  try clear c18
  try clear c18b0
  try clear c18b1
  try clear c21
  try clear c22
  try clear c24
  try clear c24b0
  try clear c24b1
  try clear c27
  try clear c28
  try clear c30
  try clear c30b0
  try clear c30b1
  try clear c33
  try clear c34
  try clear c37
  try clear c37b0
  try clear c37b1
  try clear c38
  try clear c41
  try clear c42
  try clear c43
  try clear c44
  try clear c44b0
  try clear c44b1
  try clear c48
  try clear c49
  try clear hcz10_0
  try clear hcz10_1
  try clear hcz10_2
  try clear hcz10_3
  try clear hcz17_0
  try clear hcz17_1
  try clear hcz17_2
  try clear hcz17_3
  try clear hcz23_0
  try clear hcz23_1
  try clear hcz23_2
  try clear hcz23_3
  try clear hcz29_0
  try clear hcz29_1
  try clear hcz29_2
  try clear hcz29_3
  try clear hcz35_0
  try clear hcz35_1
  try clear hcz35_2
  try clear hcz35_3
  try clear hcz43_0
  try clear hcz43_1
  try clear hcz43_2
  try clear hcz43_3
  try clear hcz50_0
  try clear hcz50_1
  try clear hcz50_2
  try clear hcz50_3
  try clear hcz52_0
  try clear hcz52_1
  try clear hcz52_2
  try clear hcz52_3
  try clear hfz10_0
  try clear hfz10_1
  try clear hfz10_2
  try clear hfz10_3
  try clear hfz17_0
  try clear hfz17_1
  try clear hfz17_2
  try clear hfz17_3
  try clear hfz23_0
  try clear hfz23_1
  try clear hfz23_2
  try clear hfz23_3
  try clear hfz29_0
  try clear hfz29_1
  try clear hfz29_2
  try clear hfz29_3
  try clear hfz35_0
  try clear hfz35_1
  try clear hfz35_2
  try clear hfz35_3
  try clear hfz43_0
  try clear hfz43_1
  try clear hfz43_2
  try clear hfz43_3
  try clear hfz50_0
  try clear hfz50_1
  try clear hfz50_2
  try clear hfz50_3
  try clear hfz52_0
  try clear hfz52_1
  try clear hfz52_2
  try clear hfz52_3
  try clear p2
  obtain ⟨kq, x1000_3, x1001_3, x106001_3, x106002_3, x106003_3, HA, HJ3, BK101, BK105, HI0, HK, HB⟩ := hcut
  cases kq with
  | zero => exact absurd HA.out (by simp [props_next.j1])
  | succ kj3 =>
   have H := HA.out
   clear HA
   simp only [props_next.j1] at H
   replace H := Option.bind_eq_some_iff.mp H
   obtain ⟨⟨t128, t129, t130⟩, A530, H⟩ := H
   replace H : (if t128 = 0 then ((prop_Right.f kj3 t102 x106001_3 x106002_3 x106003_3).bind fun t131 => (if t131 = true then (some (t102, x106001_3, x106002_3, x106003_3, true, t129, t130)) else (some (0, 0, (⟨#[]⟩ : ByteArray), (⟨#[]⟩ : ByteArray), false, t129, t130)))) else (some (0, 0, (⟨#[]⟩ : ByteArray), (⟨#[]⟩ : ByteArray), false, t129, t130))) = some (r1, r2, r3, r4, r5, r6, r7) := H
   have A53 := Aside0.mk A530
   clear A530
   by_cases c54 : t128 = 0
   ·rw [if_pos c54] at H
    have c54b0 : (t128 == 0) = true := beq_iff_eq.mpr c54
    have c54b1 : (t128 != 0) = false := bne_eq_false_iff_eq.mpr c54
    clear c54
    replace H := Option.bind_eq_some_iff.mp H
    obtain ⟨t131, A550, H⟩ := H
    replace H : (if t131 = true then (some (t102, x106001_3, x106002_3, x106003_3, true, t129, t130)) else (some (0, 0, (⟨#[]⟩ : ByteArray), (⟨#[]⟩ : ByteArray), false, t129, t130))) = some (r1, r2, r3, r4, r5, r6, r7) := H
    have A55 := Aside0.mk A550
    clear A550
    by_cases c56 : t131 = true
    ·subst c56
     have H1 : (some (t102, x106001_3, x106002_3, x106003_3, true, t129, t130)) = some (r1, r2, r3, r4, r5, r6, r7) := by rw [if_pos rfl] at H; exact H
     clear H
     have H := H1
     clear H1
     simp only [Option.some.injEq, Prod.mk.injEq] at H
     obtain ⟨rfl, rfl, rfl, rfl, rfl, rfl, rfl⟩ := H
     go_wp2_with (first | ((with_reducible refine gate_callee (f := 22) rfl ?_); refine goesL_ (some 48) rfl rfl Tryd.func22 (by kernel_rfl) rfl #[.pointer (some ⟨g, 0, none⟩)] rfl z73z4 ?_; (with_reducible refine (wire_Reader_Err.calls g x1000_3 x1001_3 t128 t129 t130 w0 _ ?side1 ?side2 A53.out).mono ?_); (case side1 => exact z73z1); (case side2 => exact z73z2); rintro e w57 ⟨rfl, hi, hb, hk⟩; refine ⟨_, rfl, ?_⟩; have n0_ := Aside0.mk (KeepBut.blk hk (g' := gb101) (o := .cells #[.int .u8 0, .int .u32 0, .string (⟨#[]⟩ : ByteArray), .string (⟨#[]⟩ : ByteArray)] 60 (0, 0)) z73z3 NB101_0.out (by simp)); have n1_ := Aside0.mk (KeepBut.blk hk (g' := gb105) (o := .cells #[.int .u8 t102, .int .u32 x106001_3, .string x106002_3, .string x106003_3] 60 (0, 0)) z73z5 NB105_0.out (by simp)); have n2_ := Aside0.mk (KeepBut.trans z73z0 hk (.inl rfl)); have n3_ := Aside0.mk (hb); have n4_ := Aside0.mk (hi); replace BK101 := n0_; replace BK105 := n1_; replace HK := n2_; replace HB := n3_; replace HI0 := n4_; clear n0_ n1_ n2_ n3_ n4_; clear hb hk hi; have hnb58 := NB105_101.out; have hnc58 := NB101_105.out; have hnb59 := NB105_0.out; have hnc59 := NB0_105.out; have hcz60_0 := cc4_0 BK105.out; have hcz60_1 := cc4_1 BK105.out; have hcz60_2 := cc4_2 BK105.out; have hcz60_3 := cc4_3 BK105.out; have hfz60_0 := blk_frozen BK105.out 0; have hfz60_1 := blk_frozen BK105.out 1; have hfz60_2 := blk_frozen BK105.out 2; have hfz60_3 := blk_frozen BK105.out 3) | (go_at_call 65; (with_reducible refine (prop_Right.calls kj3 t102 x106001_3 x106002_3 x106003_3 true _ ?side1 A55.out).mono ?_); (case side1 => exact GW.below HG.out z73z2); rintro e w61 ⟨rfl, hb⟩; have n0_ := Aside0.mk (blk_below (g := gb101) (o := .cells #[.int .u8 0, .int .u32 0, .string (⟨#[]⟩ : ByteArray), .string (⟨#[]⟩ : ByteArray)] 60 (0, 0)) z73z3 hb); have n1_ := Aside0.mk (blk_below (g := gb105) (o := .cells #[.int .u8 t102, .int .u32 x106001_3, .string x106002_3, .string x106003_3] 60 (0, 0)) z73z5 hb); have n2_ := Aside0.mk (IsS78.below z73z1 hb); have n3_ := Aside0.mk (KeepBut.trans z73z0 (KeepBut.of_below hb g none) (.inl rfl)); have n4_ := Aside0.mk (below_step z73z2 hb); replace BK101 := n0_; replace BK105 := n1_; replace HI0 := n2_; replace HK := n3_; replace HB := n4_; clear n0_ n1_ n2_ n3_ n4_; clear hb; have hcz62_0 := cc4_0 BK105.out; have hcz62_1 := cc4_1 BK105.out; have hcz62_2 := cc4_2 BK105.out; have hcz62_3 := cc4_3 BK105.out; have hfz62_0 := blk_frozen BK105.out 0; have hfz62_1 := blk_frozen BK105.out 1; have hfz62_2 := blk_frozen BK105.out 2; have hfz62_3 := blk_frozen BK105.out 3; have hnb63 := NB101_0.out; have hnc63 := NB0_101.out; have hcz64_0 := cc4_0 BK101.out; have hcz64_1 := cc4_1 BK101.out; have hcz64_2 := cc4_2 BK101.out; have hcz64_3 := cc4_3 BK101.out; have hfz64_0 := blk_frozen BK101.out 0; have hfz64_1 := blk_frozen BK101.out 1; have hfz64_2 := blk_frozen BK101.out 2; have hfz64_3 := blk_frozen BK101.out 3))
     refine bodyPost_ret (results_ct rfl _ _ gb101 60 #[.int .u8 t102, .int .u32 x106001_3, .string x106002_3, .string x106003_3] (0, 0) _ rfl (by (with_reducible repeat (first | refine blk_drewN ?_ _ | refine blk_drew ?_ | refine blk_alloc ?_ _)); refine blk_put (cs := #[.int .u8 t102, .int .u32 x106001_3, .string x106002_3, .string (⟨#[]⟩ : ByteArray)]) ?_ 3 _ rfl; (with_reducible repeat (first | refine blk_drewN ?_ _ | refine blk_drew ?_ | refine blk_alloc ?_ _)); refine blk_put (cs := #[.int .u8 t102, .int .u32 x106001_3, .string (⟨#[]⟩ : ByteArray), .string (⟨#[]⟩ : ByteArray)]) ?_ 2 _ rfl; (with_reducible repeat (first | refine blk_drewN ?_ _ | refine blk_drew ?_ | refine blk_alloc ?_ _)); refine blk_put (cs := #[.int .u8 t102, .int .u32 0, .string (⟨#[]⟩ : ByteArray), .string (⟨#[]⟩ : ByteArray)]) ?_ 1 _ rfl; (with_reducible repeat (first | refine blk_drewN ?_ _ | refine blk_drew ?_ | refine blk_alloc ?_ _)); refine blk_put (cs := #[.int .u8 0, .int .u32 0, .string (⟨#[]⟩ : ByteArray), .string (⟨#[]⟩ : ByteArray)]) ?_ 0 _ rfl; (with_reducible repeat (first | refine blk_drewN ?_ _ | refine blk_drew ?_ | refine blk_alloc ?_ _)); exact BK101.out) Tryd.underlying60 rfl (by kernel_rfl)) rfl ?_
     exact ⟨by first | rfl | (simp [errW_none, errW_some] <;> rfl) | (simp [*, errW_none, errW_some] <;> rfl), by repeat (first | (with_reducible first | exact HI0.out | apply IsS78.alloc | apply IsS78.drewN | apply IsS78.drew | apply IsS78.set_0 | apply IsS78.set_1 | refine IsS78.far ?_ NB0_101.out _ | refine IsS78.far ?_ NB0_105.out _) | exact HI0.out), by repeat (first | (with_reducible first | exact HB.out | apply below_alloc | apply pw_below_drewN | apply below_drew1 | refine below_set ?_ (IsS78.ge HI0.out) | refine below_set ?_ GE101.out | refine below_set ?_ GE105.out) | exact HB.out), by repeat (first | (with_reducible first | exact HK.out | apply KeepBut.set_ | apply keep_drewN | apply keep_drew | apply keep_alloc | refine keep_far ?_ GW101.out _ | refine keep_far ?_ GW105.out _) | exact HK.out)⟩
    ·replace c56 := Bool.eq_false_iff.mpr c56
     subst c56
     have H1 : (some (0, 0, (⟨#[]⟩ : ByteArray), (⟨#[]⟩ : ByteArray), false, t129, t130)) = some (r1, r2, r3, r4, r5, r6, r7) := by rw [if_neg (show ¬ (false = true) by decide)] at H; exact H
     clear H
     have H := H1
     clear H1
     simp only [Option.some.injEq, Prod.mk.injEq] at H
     obtain ⟨rfl, rfl, rfl, rfl, rfl, rfl, rfl⟩ := H
     go_wp2_with (first | ((with_reducible refine gate_callee (f := 22) rfl ?_); refine goesL_ (some 48) rfl rfl Tryd.func22 (by kernel_rfl) rfl #[.pointer (some ⟨g, 0, none⟩)] rfl z73z4 ?_; (with_reducible refine (wire_Reader_Err.calls g x1000_3 x1001_3 t128 t129 t130 w0 _ ?side1 ?side2 A53.out).mono ?_); (case side1 => exact z73z1); (case side2 => exact z73z2); rintro e w65 ⟨rfl, hi, hb, hk⟩; refine ⟨_, rfl, ?_⟩; have n0_ := Aside0.mk (KeepBut.blk hk (g' := gb101) (o := .cells #[.int .u8 0, .int .u32 0, .string (⟨#[]⟩ : ByteArray), .string (⟨#[]⟩ : ByteArray)] 60 (0, 0)) z73z3 NB101_0.out (by simp)); have n1_ := Aside0.mk (KeepBut.blk hk (g' := gb105) (o := .cells #[.int .u8 t102, .int .u32 x106001_3, .string x106002_3, .string x106003_3] 60 (0, 0)) z73z5 NB105_0.out (by simp)); have n2_ := Aside0.mk (KeepBut.trans z73z0 hk (.inl rfl)); have n3_ := Aside0.mk (hb); have n4_ := Aside0.mk (hi); replace BK101 := n0_; replace BK105 := n1_; replace HK := n2_; replace HB := n3_; replace HI0 := n4_; clear n0_ n1_ n2_ n3_ n4_; clear hb hk hi; have hnb66 := NB105_101.out; have hnc66 := NB101_105.out; have hnb67 := NB105_0.out; have hnc67 := NB0_105.out; have hcz68_0 := cc4_0 BK105.out; have hcz68_1 := cc4_1 BK105.out; have hcz68_2 := cc4_2 BK105.out; have hcz68_3 := cc4_3 BK105.out; have hfz68_0 := blk_frozen BK105.out 0; have hfz68_1 := blk_frozen BK105.out 1; have hfz68_2 := blk_frozen BK105.out 2; have hfz68_3 := blk_frozen BK105.out 3) | (go_at_call 65; (with_reducible refine (prop_Right.calls kj3 t102 x106001_3 x106002_3 x106003_3 false _ ?side1 A55.out).mono ?_); (case side1 => exact GW.below HG.out z73z2); rintro e w69 ⟨rfl, hb⟩; have n0_ := Aside0.mk (blk_below (g := gb101) (o := .cells #[.int .u8 0, .int .u32 0, .string (⟨#[]⟩ : ByteArray), .string (⟨#[]⟩ : ByteArray)] 60 (0, 0)) z73z3 hb); have n1_ := Aside0.mk (blk_below (g := gb105) (o := .cells #[.int .u8 t102, .int .u32 x106001_3, .string x106002_3, .string x106003_3] 60 (0, 0)) z73z5 hb); have n2_ := Aside0.mk (IsS78.below z73z1 hb); have n3_ := Aside0.mk (KeepBut.trans z73z0 (KeepBut.of_below hb g none) (.inl rfl)); have n4_ := Aside0.mk (below_step z73z2 hb); replace BK101 := n0_; replace BK105 := n1_; replace HI0 := n2_; replace HK := n3_; replace HB := n4_; clear n0_ n1_ n2_ n3_ n4_; clear hb; have hnb70 := NB101_0.out; have hnc70 := NB0_101.out; have hcz71_0 := cc4_0 BK101.out; have hcz71_1 := cc4_1 BK101.out; have hcz71_2 := cc4_2 BK101.out; have hcz71_3 := cc4_3 BK101.out; have hfz71_0 := blk_frozen BK101.out 0; have hfz71_1 := blk_frozen BK101.out 1; have hfz71_2 := blk_frozen BK101.out 2; have hfz71_3 := blk_frozen BK101.out 3))
     refine bodyPost_ret (results_ct rfl _ _ gb101 60 #[.int .u8 0, .int .u32 0, .string (⟨#[]⟩ : ByteArray), .string (⟨#[]⟩ : ByteArray)] (0, 0) _ rfl z73z6 Tryd.underlying60 rfl (by kernel_rfl)) rfl ?_
     exact ⟨by first | rfl | (simp [errW_none, errW_some] <;> rfl) | (simp [*, errW_none, errW_some] <;> rfl), by repeat (first | (with_reducible first | exact HI0.out | apply IsS78.alloc | apply IsS78.drewN | apply IsS78.drew | apply IsS78.set_0 | apply IsS78.set_1 | refine IsS78.far ?_ NB0_101.out _ | refine IsS78.far ?_ NB0_105.out _) | exact HI0.out), by repeat (first | (with_reducible first | exact HB.out | apply below_alloc | apply pw_below_drewN | apply below_drew1 | refine below_set ?_ (IsS78.ge HI0.out) | refine below_set ?_ GE101.out | refine below_set ?_ GE105.out) | exact HB.out), by repeat (first | (with_reducible first | exact HK.out | apply KeepBut.set_ | apply keep_drewN | apply keep_drew | apply keep_alloc | refine keep_far ?_ GW101.out _ | refine keep_far ?_ GW105.out _) | exact HK.out)⟩
   ·rw [if_neg c54] at H
    have c54b0 : (t128 == 0) = false := beq_eq_false_iff_ne.mpr c54
    have c54b1 : (t128 != 0) = true := bne_iff_ne.mpr c54
    simp only [Option.some.injEq, Prod.mk.injEq] at H
    obtain ⟨rfl, rfl, rfl, rfl, rfl, rfl, rfl⟩ := H
    go_wp2_with (first | ((with_reducible refine gate_callee (f := 22) rfl ?_); refine goesL_ (some 48) rfl rfl Tryd.func22 (by kernel_rfl) rfl #[.pointer (some ⟨g, 0, none⟩)] rfl z73z4 ?_; (with_reducible refine (wire_Reader_Err.calls g x1000_3 x1001_3 t128 t129 t130 w0 _ ?side1 ?side2 A53.out).mono ?_); (case side1 => exact z73z1); (case side2 => exact z73z2); rintro e w72 ⟨rfl, hi, hb, hk⟩; refine ⟨_, rfl, ?_⟩; have n0_ := Aside0.mk (KeepBut.blk hk (g' := gb101) (o := .cells #[.int .u8 0, .int .u32 0, .string (⟨#[]⟩ : ByteArray), .string (⟨#[]⟩ : ByteArray)] 60 (0, 0)) z73z3 NB101_0.out (by simp)); have n1_ := Aside0.mk (KeepBut.blk hk (g' := gb105) (o := .cells #[.int .u8 t102, .int .u32 x106001_3, .string x106002_3, .string x106003_3] 60 (0, 0)) z73z5 NB105_0.out (by simp)); have n2_ := Aside0.mk (KeepBut.trans z73z0 hk (.inl rfl)); have n3_ := Aside0.mk (hb); have n4_ := Aside0.mk (hi); replace BK101 := n0_; replace BK105 := n1_; replace HK := n2_; replace HB := n3_; replace HI0 := n4_; clear n0_ n1_ n2_ n3_ n4_; clear hb hk hi; have hnb73 := NB101_105.out; have hnc73 := NB105_101.out; have hnb74 := NB101_0.out; have hnc74 := NB0_101.out; have hcz75_0 := cc4_0 BK101.out; have hcz75_1 := cc4_1 BK101.out; have hcz75_2 := cc4_2 BK101.out; have hcz75_3 := cc4_3 BK101.out; have hfz75_0 := blk_frozen BK101.out 0; have hfz75_1 := blk_frozen BK101.out 1; have hfz75_2 := blk_frozen BK101.out 2; have hfz75_3 := blk_frozen BK101.out 3))
    refine bodyPost_ret (results_ct rfl _ _ gb101 60 #[.int .u8 0, .int .u32 0, .string (⟨#[]⟩ : ByteArray), .string (⟨#[]⟩ : ByteArray)] (0, 0) _ rfl z73z6 Tryd.underlying60 rfl (by kernel_rfl)) rfl ?_
    exact ⟨by first | rfl | (simp [errW_none, errW_some] <;> rfl) | (simp [*, errW_none, errW_some] <;> rfl), by repeat (first | (with_reducible first | exact HI0.out | apply IsS78.alloc | apply IsS78.drewN | apply IsS78.drew | apply IsS78.set_0 | apply IsS78.set_1 | refine IsS78.far ?_ NB0_101.out _ | refine IsS78.far ?_ NB0_105.out _) | exact HI0.out), by repeat (first | (with_reducible first | exact HB.out | apply below_alloc | apply pw_below_drewN | apply below_drew1 | refine below_set ?_ (IsS78.ge HI0.out) | refine below_set ?_ GE101.out | refine below_set ?_ GE105.out) | exact HB.out), by repeat (first | (with_reducible first | exact HK.out | apply KeepBut.set_ | apply keep_drewN | apply keep_drew | apply keep_alloc | refine keep_far ?_ GW101.out _ | refine keep_far ?_ GW105.out _) | exact HK.out)⟩
end Go.Proofs.YtkmkgpigmldhnaaDoor.P

namespace Go.Proofs.YtkmkgpigmldhnaaDoor.P
open Go.RowKit Go.Shelf Go.Lib Go.Proofs.YtkmkgpigmldhnaaDoorW.PrintWords Go.Proofs.YtkmkgpigmldhnaaDoorW.PrintLast Go.Proofs.YtkmkgpigmldhnaaDoorW.PrintMore
open Go.Proofs.YtkmkgpigmldhnaaDoor.Rg
attribute [local go_sem] Oper.semAt_some
abbrev EP := S60 × Bool
def encP (x : EP) : Array Value := #[.agg #[.int .u8 x.1.f0, .int .u32 x.1.f1, .string x.1.f2, .string x.1.f3], .bool x.2]
inductive EachL : ByteArray → List EP → Prop
  | done (s : ByteArray) : s.size = 0 → EachL s []
  | step (s : ByteArray) (k : Nat) (p : S60) (s' : ByteArray) (L : List EP) : 0 < s.size → props_next.f k s 0 = some (p.f0, p.f1, p.f2, p.f3, true, s', 0) → EachL s' L → EachL s ((p, true) :: L)
  | stop (s : ByteArray) (k : Nat) (p : S60) (s' : ByteArray) (e : Int) : 0 < s.size → props_next.f k s 0 = some (p.f0, p.f1, p.f2, p.f3, false, s', e) → EachL s [(p, false)]
theorem grown_of_keep {w0 W1 W2 : World} {g n : Nat} (h1 : Below n w0 W1) (h2 : Below n w0 W2) (hk : KeepBut W1 W2 g none) : W1.grownBy W2 (some g) :=
  ⟨h2.os.trans h1.os.symm, h2.tape.trans h1.tape.symm, h2.output.trans h1.output.symm, hk.1, fun k hk1 hk2 => hk.2 k hk1 (fun e => hk2 (by rw [e])) (by simp)⟩
theorem below_step' {n : Nat} {w0 w1 w2 : World} (h : Below n w0 w1) (k : Below n w1 w2) : Below n w0 w2 := h.trans k
theorem left_at (s : ByteArray) : wire_Reader_Left.f s 0 = some ((s.size : Int), s, 0) := rfl
theorem wire_Read.calls_ge (A0 : Option Addr) (c0 : Nat) (l0 : List Int) (r1 : ByteArray) (r2 : Int) (w0 w : World) (hB : Below w0.heap.size w0 w) (hr0 : Kd.C (Kd.int .u8) w A0 l0.length l0) (hc0 : l0.length ≤ c0) (h : wire_Read.f l0 = some (r1, r2)) :
    Calls Tryd.prog 15 #[.slice A0 l0.length c0] w fun e w' => ∃ g_ : Nat, e = .returned (.pointer (some ⟨g_, 0, none⟩)) ∧ IsS78 w0 w' g_ r1 r2 ∧ Below w0.heap.size w0 w' ∧ Below w.heap.size w w' ∧ w.heap.size ≤ g_ :=
  (wire_Read.calls A0 c0 l0 r1 r2 w w (Below.refl _ _) hr0 hc0 h).mono fun _ _ ⟨g, he, hi, hb, _⟩ => ⟨g, he, ⟨hi.1, Nat.le_trans hB.size hi.2⟩, below_step hB hb, hb, hi.2⟩
set_option maxHeartbeats 8000000 in
set_option maxRecDepth 1000000 in
theorem each_seq (n : Nat) (B : Nat) (A : Option Addr) (c : Nat) (bs : List Int) (L : List EP) (w00 w : World) (hG : GW w00) (h00 : Below w00.heap.size w00 w) (hB : w.cell? ⟨B, 0, none⟩ = some (.slice A bs.length c)) (hbs : Kd.C (Kd.int .u8) w A bs.length bs) (hc : bs.length ≤ c) (hL : EachL (strOfNums bs) L) (hn : 1 ≤ n) :
    Seq Fence.wide n Tryd.prog 72 #[.pointer (some ⟨B, 0, none⟩)] encP 78 w00.heap.size L w := by
  intro l J X W hW hJ hX hY h0
  have hu := Tryd.underlying60
  have HG := Aside0.mk hG
  have hB0 := below_step h00 hW
  have HB0 := Aside0.mk hB0
  have HW0 := Aside0.mk hB0.size
  have HBs := Aside0.mk (Kd.C_below hbs hW)
  have hBW := pw_cell_below hW hB
  have HJ0 := Aside0.mk h0
  have HL := Aside0.mk hL
  clear hG hbs hB hW h0 hL hB0 h00
  refine callsIn_of_wp Tryd.func72 rfl trivial ?_ rfl
  simp only [Tryd.ntmps72, List.size_toArray, List.length_cons, List.length_nil, Nat.reduceAdd, Nat.reduceSub, Array.replicate_succ, Array.replicate_zero, List.push_toArray, List.append_toArray, List.nil_append, List.cons_append]
  gi_wp2_with (refine ⟨trivial, ?_⟩; gi_at_call 15; refine (callsIn_wide.2 (wire_Read.calls_ge A c bs _ _ w00 W HB0.out HBs.out hc rfl)).mono ?_; rintro e w1 ⟨g, rfl, hi, hb, hb2, hg⟩; have HI := Aside0.mk hi; have HB1 := Aside0.mk hb; have HGE := Aside0.mk hg; have HJ1 := Aside0.mk ((hJ []) _ _ none HJ0.out (grown_of_below hb2 none) (fun r e => by cases e)); clear hi hb hb2 hg)
  gi_loopg [4] L.length (fun gq v4 wr => ∃ (pre rest : List EP) (s : ByteArray), Aside0 (L = pre ++ rest) ∧ rest.length = gq ∧ Aside0 (EachL s rest) ∧ Aside0 (IsS78 w00 wr g s 0) ∧ Aside0 (Below w00.heap.size w00 wr) ∧ Aside0 (J pre wr))
  case atStart => exact ⟨[], L, _, ⟨rfl⟩, rfl, HL, HI, HB1, HJ1⟩
  case round =>
    clear HJ0 HJ1 HI HB1 HL
    obtain ⟨pre, rest, s, HE, hrl, HL, HI, HB, HJ⟩ := hrel
    cases rest with
    | nil =>
      have hs0 : s.size = 0 := by cases HL.out with | done _ h => exact h
      have hb0 : decide (0 < (s.size : Int)) = false := decide_eq_false (by omega)
      gi_wp2_with (refine ⟨trivial, ?_⟩; gi_at_call 21; refine (callsIn_wide.2 (wire_Reader_Left.calls g s 0 _ _ _ w00 _ HI.out HB.out (left_at s))).mono ?_; rintro e w2 ⟨rfl, hi, hb, hk⟩; have HJ2 := Aside0.mk (hJ pre _ _ (some g) HJ.out (grown_of_keep HB.out hb hk) (fun r e => by cases e; exact ⟨HGE.out, _, HI.out.1, .inr ⟨_, rfl⟩⟩)); clear hi hb hk)
      go_end0
      exact ⟨⟨_, rfl⟩, .inl (by have := HE.out; rw [List.append_nil] at this; rw [this]; exact HJ2.out)⟩
    | cons x rest =>
      cases gk with
      | zero => simp at hrl
      | succ gk =>
      cases HL.out with
      | step _ k p s' _ hs hn hrest =>
        have HN := Aside0.mk hn
        have HL' := Aside0.mk hrest
        have hb0 : decide (0 < (s.size : Int)) = true := decide_eq_true (by omega)
        clear hn hrest HL
        gi_wp2_with (first | (refine ⟨trivial, ?_⟩; gi_at_call 21; refine (callsIn_wide.2 (wire_Reader_Left.calls g s 0 _ _ _ w00 _ HI.out HB.out (left_at s))).mono ?_; rintro e w2 ⟨rfl, hi, hb, hk⟩; have HJ2 := Aside0.mk (hJ pre _ _ (some g) HJ.out (grown_of_keep HB.out hb hk) (fun r e => by cases e; exact ⟨HGE.out, _, HI.out.1, .inr ⟨_, rfl⟩⟩)); have HI2 := Aside0.mk hi; have HB2 := Aside0.mk hb; clear hi hb hk) | (refine ⟨trivial, ?_⟩; gi_at_call 73; refine (callsIn_wide.2 (props_next.calls k g s 0 _ _ _ _ _ _ _ w00 _ HI2.out HB2.out HG.out HN.out)).mono ?_; rintro e w3 ⟨rfl, hi, hb, hk⟩; have hj3 := hJ pre _ _ (some g) HJ2.out (grown_of_keep HB2.out hb hk) (fun r e => by cases e; exact ⟨HGE.out, _, HI2.out.1, .inr ⟨_, rfl⟩⟩); have hj4 := hJ pre _ _ none hj3 (World.grownBy_alloc w3 (.cells #[.int .u8 p.f0, .int .u32 p.f1, .string p.f2, .string p.f3] 60) none) (fun r e => by cases e); obtain ⟨fn, tmps, assign, body, hy, hR⟩ := hY pre (p, true) rest _ HE.out hj4; simp only [encP] at hy; have HR := Aside0.mk hR; have HI4 := Aside0.mk (hi.alloc (.cells #[.int .u8 p.f0, .int .u32 p.f1, .string p.f2, .string p.f3] 60)); have HB4 := Aside0.mk (below_alloc hb (.cells #[.int .u8 p.f0, .int .u32 p.f1, .string p.f2, .string p.f3] 60)); clear hi hb hk hj3 hj4 hR))
        refine HR.out.mono ?_
        rintro e W3 (⟨rfl, hj5, hk5⟩ | ⟨rfl, hx5⟩)
        · have hi6 := hk5.1 g _ HGE.out HI4.out.1 (.inr ⟨_, rfl⟩)
          have HI6 := Aside0.mk hi6
          have HB6 := Aside0.mk (below_step' HB4.out hk5.2)
          have HJ5 := Aside0.mk hj5
          clear hi6 hk5 hj5
          gi_wp2
          gi_roundg gk
          case measure => omega
          case rel => exact ⟨pre ++ [(p, true)], rest, s', ⟨by rw [HE.out]; simp⟩, by simpa using hrl, HL', ⟨⟨HI6.out, HI4.out.2⟩⟩, HB6, HJ5⟩
        · have HX5 := Aside0.mk hx5
          clear hx5
          gi_wp2
          refine bodyPost_ret (results_none rfl _ _ _) rfl ?_
          exact ⟨⟨_, rfl⟩, .inr ⟨pre ++ [(p, true)], rest, by rw [HE.out]; simp, HX5.out⟩⟩
      | stop _ k p s' e' hs hn =>
        have HN := Aside0.mk hn
        have hb0 : decide (0 < (s.size : Int)) = true := decide_eq_true (by omega)
        clear hn HL
        gi_wp2_with (first | (refine ⟨trivial, ?_⟩; gi_at_call 21; refine (callsIn_wide.2 (wire_Reader_Left.calls g s 0 _ _ _ w00 _ HI.out HB.out (left_at s))).mono ?_; rintro e w2 ⟨rfl, hi, hb, hk⟩; have HJ2 := Aside0.mk (hJ pre _ _ (some g) HJ.out (grown_of_keep HB.out hb hk) (fun r e => by cases e; exact ⟨HGE.out, _, HI.out.1, .inr ⟨_, rfl⟩⟩)); have HI2 := Aside0.mk hi; have HB2 := Aside0.mk hb; clear hi hb hk) | (refine ⟨trivial, ?_⟩; gi_at_call 73; refine (callsIn_wide.2 (props_next.calls k g s 0 _ _ _ _ _ _ _ w00 _ HI2.out HB2.out HG.out HN.out)).mono ?_; rintro e w3 ⟨rfl, hi, hb, hk⟩; have hj3 := hJ pre _ _ (some g) HJ2.out (grown_of_keep HB2.out hb hk) (fun r e => by cases e; exact ⟨HGE.out, _, HI2.out.1, .inr ⟨_, rfl⟩⟩); have hj4 := hJ pre _ _ none hj3 (World.grownBy_alloc w3 (.cells #[.int .u8 p.f0, .int .u32 p.f1, .string p.f2, .string p.f3] 60) none) (fun r e => by cases e); obtain ⟨fn, tmps, assign, body, hy, hR⟩ := hY pre (p, false) [] _ HE.out hj4; simp only [encP] at hy; have HR := Aside0.mk hR; have HI4 := Aside0.mk (hi.alloc (.cells #[.int .u8 p.f0, .int .u32 p.f1, .string p.f2, .string p.f3] 60)); have HB4 := Aside0.mk (below_alloc hb (.cells #[.int .u8 p.f0, .int .u32 p.f1, .string p.f2, .string p.f3] 60)); clear hi hb hk hj3 hj4 hR))
        refine HR.out.mono ?_
        rintro e W3 (⟨rfl, hj5, hk5⟩ | ⟨rfl, hx5⟩)
        · have HJ5 := Aside0.mk hj5
          clear hk5 hj5
          gi_wp2
          refine bodyPost_ret (results_none rfl _ _ _) rfl ?_
          exact ⟨⟨_, rfl⟩, .inl (by rw [HE.out]; exact HJ5.out)⟩
        · have HX5 := Aside0.mk hx5
          clear hx5
          gi_wp2
          refine bodyPost_ret (results_none rfl _ _ _) rfl ?_
          exact ⟨⟨_, rfl⟩, .inr ⟨pre ++ [(p, false)], [], by rw [HE.out]; simp, HX5.out⟩⟩
end Go.Proofs.YtkmkgpigmldhnaaDoor.P

namespace Go.Proofs.YtkmkgpigmldhnaaDoor.P
open Go.RowKit Go.Shelf Go.Lib Go.Proofs.YtkmkgpigmldhnaaDoorW.PrintWords Go.Proofs.YtkmkgpigmldhnaaDoorW.PrintLast Go.Proofs.YtkmkgpigmldhnaaDoorW.PrintMore
def slices_Clone_byte_byte.f (l0 : List Int) : Option (List Int) := if l0.length < 140737488355328 then some l0 else none
set_option maxHeartbeats 4000000 in
set_option maxRecDepth 100000 in
theorem slices_Clone_byte_byte.calls (A0 : Option Addr) (c0 : Nat) (l0 : List Int) (r : List Int) (w : World) (hr0 : Kd.C (Kd.int .u8) w A0 l0.length l0) (hc0 : l0.length ≤ c0) (h : slices_Clone_byte_byte.f l0 = some r) :
    Calls Tryd.prog 35 #[.slice A0 l0.length c0] w fun e w' => ∃ v0_ : Value, e = .returned (v0_) ∧ Kd.R (Kd.int .u8) 5 w' w.heap.size (fun _ => True) v0_ r ∧ Below w.heap.size w w' := by
  unfold slices_Clone_byte_byte.f at h
  split at h
  · obtain rfl := Option.some.inj h
    rename_i hl
    have HR := Aside0.mk hr0
    have HL := Aside0.mk hl
    cases A0 with
    | none =>
      obtain rfl : l0 = [] := by
        cases l0 with
        | nil => rfl
        | cons x l => obtain ⟨ad, e, _⟩ := hr0.2.2 (by simp); cases e
      clear hr0 hl hc0 h
      have he : ∀ w : World, (binOp BinOp.eql 25 (.slice none 0 c0) (.slice none 0 0)).run Tryd.prog w = .ok (.bool true) w := fun _ => by kernel_rfl
      go_enter Tryd.func35, Tryd.ntmps35
      go_wp2
      go_ret
      exact ⟨_, rfl, Kd.R_nil _ _ _ _ _, Below.refl _ _⟩
    | some ad =>
      clear hr0 hl h
      have he : ∀ (n : Nat) (w : World), (binOp BinOp.eql 25 (.slice (some ad) n c0) (.slice none 0 0)).run Tryd.prog w = .ok (.bool false) w := fun _ _ => by kernel_rfl
      go_enter Tryd.func35, Tryd.ntmps35
      go_wp2_with (first | ((with_reducible refine gate_dst (N := 5) rfl ?_); refine Kd.R_lit (Kd.int .u8) _ 5 ?hg (N := 5) ?hd (xs := ([] : List Int)) (inner := []) (ok := fun _ => True) (okp := fun _ => True) ?hr ?hp (fun _ hk => hk) trivial (Below.refl _ _) (Nat.le_refl _) (by simp) ?_; (case hd => rfl); (case hg => rfl); (case hr => first | (go_simp; done) | (go_simp; rfl)); (case hp => exact (Reps.none _ _)); intro v1 w1 ho hb hg_ hnew_; clear hg_ hnew_; have HO := Aside0.mk ho; have HB := Aside0.mk hb; clear ho hb) | ((with_reducible refine gate_builtin (b := .append) (xs := #[.tmp 5, .tmp 6]) rfl ?_); at_builtin; refine Kd.R_append_rows (Kd.int .u8) (w0 := w) w.heap.size rfl (.tmp 5) (.tmp 6) 25 5 (.int .u8 0) 1 rfl Tryd.underlying25 info5 rfl (by decide) (by omega) v1 [] l0 _ _ _ (fun _ => True) (fun _ => False) rfl rfl HO.out (Kd.C_below HR.out HB.out) (fun _ _ h => h) (fun _ h => h.elim) (fun _ _ => trivial) HB.out HB.out.size ?aL ?_; (case aL => have := HL.out; simp; omega); intro v2 w2 ho hb hg hat; have n0_ := Aside0.mk hb; have n1_ := Aside0.mk ho; clear HB HO; have HB := n0_; have HO := n1_; clear n0_ n1_; clear ho hb hg hat))
      go_ret
      exact ⟨_, rfl, by simpa using HO.out, HB.out⟩
  · cases h
def slices_Clone_prop_Prop_prop_Prop.f (l0 : List (S60)) : Option (List (S60)) := if l0.length < 3518437208883 then some l0 else none
set_option maxHeartbeats 4000000 in
set_option maxRecDepth 100000 in
theorem slices_Clone_prop_Prop_prop_Prop.calls (A0 : Option Addr) (c0 : Nat) (l0 : List (S60)) (r : List (S60)) (w : World) (hr0 : Kd.C k60 w A0 l0.length l0) (hc0 : l0.length ≤ c0) (h : slices_Clone_prop_Prop_prop_Prop.f l0 = some r) :
    Calls Tryd.prog 55 #[.slice A0 l0.length c0] w fun e w' => ∃ v0_ : Value, e = .returned (v0_) ∧ Kd.R k60 60 w' w.heap.size (fun _ => True) v0_ r ∧ Below w.heap.size w w' := by
  unfold slices_Clone_prop_Prop_prop_Prop.f at h
  split at h
  · obtain rfl := Option.some.inj h
    rename_i hl
    have HR := Aside0.mk hr0
    have HL := Aside0.mk hl
    cases A0 with
    | none =>
      obtain rfl : l0 = [] := by
        cases l0 with
        | nil => rfl
        | cons x l => obtain ⟨ad, e, _⟩ := hr0.2.2 (by simp); cases e
      clear hr0 hl hc0 h
      have he : ∀ w : World, (binOp BinOp.eql 27 (.slice none 0 c0) (.slice none 0 0)).run Tryd.prog w = .ok (.bool true) w := fun _ => by kernel_rfl
      go_enter Tryd.func55, Tryd.ntmps55
      go_wp2
      go_ret
      exact ⟨_, rfl, Kd.R_nil _ _ _ _ _, Below.refl _ _⟩
    | some ad =>
      clear hr0 hl h
      have he : ∀ (n : Nat) (w : World), (binOp BinOp.eql 27 (.slice (some ad) n c0) (.slice none 0 0)).run Tryd.prog w = .ok (.bool false) w := fun _ _ => by kernel_rfl
      go_enter Tryd.func55, Tryd.ntmps55
      go_wp2_with (first | ((with_reducible refine gate_dst (N := 5) rfl ?_); refine Kd.R_lit k60 _ 60 ?hg (N := 5) ?hd (xs := ([] : List (S60))) (inner := []) (ok := fun _ => True) (okp := fun _ => True) ?hr ?hp (fun _ hk => hk) trivial (Below.refl _ _) (Nat.le_refl _) (by simp) ?_; (case hd => rfl); (case hg => rfl); (case hr => first | (go_simp; done) | (go_simp; rfl)); (case hp => exact (Reps.none _ _)); intro v1 w1 ho hb hg_ hnew_; clear hg_ hnew_; have HO := Aside0.mk ho; have HB := Aside0.mk hb; clear ho hb) | ((with_reducible refine gate_builtin (b := .append) (xs := #[.tmp 5, .tmp 6]) rfl ?_); at_builtin; refine Kd.R_append_rows k60 (w0 := w) w.heap.size rfl (.tmp 5) (.tmp 6) 27 60 (.agg #[(.int .u8 0), (.int .u32 0), (.string ⟨#[]⟩), (.string ⟨#[]⟩)]) 40 rfl Tryd.underlying27 info60 rfl (by decide) (by omega) v1 [] l0 _ _ _ (fun _ => True) (fun _ => False) rfl rfl HO.out (Kd.C_below HR.out HB.out) (fun _ _ h => h) (fun _ h => h.elim) (fun _ _ => trivial) HB.out HB.out.size ?aL ?_; (case aL => have := HL.out; simp; omega); intro v2 w2 ho hb hg hat; have n0_ := Aside0.mk hb; have n1_ := Aside0.mk ho; clear HB HO; have HB := n0_; have HO := n1_; clear n0_ n1_; clear ho hb hg hat))
      go_ret
      exact ⟨_, rfl, by simpa using HO.out, HB.out⟩
  · cases h
end Go.Proofs.YtkmkgpigmldhnaaDoor.P

namespace Go.Proofs.YtkmkgpigmldhnaaDoor.P
open Go.RowKit Go.Shelf Go.Lib Go.Proofs.YtkmkgpigmldhnaaDoorW.PrintWords Go.Proofs.YtkmkgpigmldhnaaDoorW.PrintLast Go.Proofs.YtkmkgpigmldhnaaDoorW.PrintMore
set_option maxHeartbeats 4000000 in
set_option maxRecDepth 100000 in
theorem props_Each.calls (A : Option Addr) (c : Nat) (l : List Int) (w : World) (hr : Kd.C (Kd.int .u8) w A l.length l) (hc : l.length ≤ c) (hl : l.length < 140737488355328) :
    Calls Tryd.prog 44 #[.slice A l.length c] w fun e w' => ∃ B A' c', e = .returned (.func (.func 72) #[] #[.pointer (some ⟨B, 0, none⟩)]) ∧ w'.cell? ⟨B, 0, none⟩ = some (.slice A' l.length c') ∧ Kd.C (Kd.int .u8) w' A' l.length l ∧ l.length ≤ c' ∧ Below w.heap.size w w' := by
  have HF := Aside0.mk (show slices_Clone_byte_byte.f l = some l by unfold slices_Clone_byte_byte.f; rw [if_pos hl])
  have HR := Aside0.mk hr
  have HC := Aside0.mk hc
  clear hr hc
  go_enter Tryd.func44, Tryd.ntmps44
  go_wp2_with (go_at_call 35; refine (slices_Clone_byte_byte.calls A c l l _ HR.out HC.out HF.out).mono ?_; rintro e w1 ⟨v, rfl, ho, hb⟩; obtain ⟨A', c', rfl, hl', hc'⟩ := Kd.R_reads ho; have HL' := Aside0.mk hl'; have HC' := Aside0.mk hc'; have HB := Aside0.mk hb; clear ho hb hl' hc')
  go_ret
  exact ⟨_, A', c', rfl, (blk_cell (heap_alloc_new _ _) 0).trans rfl, Kd.C_alloc HC'.out _, HL'.out, below_alloc HB.out _⟩
end Go.Proofs.YtkmkgpigmldhnaaDoor.P

namespace Go.Proofs
open Go.Shelf
def Tryd.laysIns_ren : Go.Shelf.Ren := ⟨fun | 20 => 97 | n => n, fun | 24 => 60 | 22 => 27 | 3 => 3 | 25 => 97 | 4 => 4 | 0 => 0 | n => n, fun | n => n⟩
theorem Tryd.laysIns : Go.Proofs.SlLaysF0.n20 Tryd.prog Tryd.laysIns_ren := {
  mixed := by kernel_rfl
  f20 := ⟨Tryd.f97.name, by decide, Tryd.func97.trans (congrArg some (by kernel_rfl))⟩
  t0 := Tryd.underlying0
  a0 := Tryd.isAgg0
  z0 := Tryd.sizeOf0
  v0 := Tryd.zeroValue0
  t3 := Tryd.underlying3
  a3 := Tryd.isAgg3
  z3 := Tryd.sizeOf3
  v3 := Tryd.zeroValue3
  t4 := Tryd.underlying4
  a4 := Tryd.isAgg4
  z4 := Tryd.sizeOf4
  v4 := Tryd.zeroValue4
  t22 := Tryd.underlying27
  a22 := Tryd.isAgg27
  z22 := Tryd.sizeOf27
  v22 := Tryd.zeroValue27
  t25 := Tryd.underlying97
  a25 := Tryd.isAgg97
  z25 := Tryd.sizeOf97
  v25 := Tryd.zeroValue97 }
end Go.Proofs

namespace Go.Proofs.YtkmkgpigmldhnaaDoor.Srt
open Go.Sort
variable {α : Type} (key : α → Int)
def Stb (l m : List α) : Prop := l.length = m.length ∧ ∀ k, l.filter (fun x => decide (key x = k)) = m.filter (fun x => decide (key x = k))
theorem Stb.refl (l : List α) : Stb key l l := ⟨rfl, fun _ => rfl⟩
variable {key}
theorem Stb.trans {l m n : List α} (h : Stb key l m) (k : Stb key m n) : Stb key l n := ⟨h.1.trans k.1, fun x => (h.2 x).trans (k.2 x)⟩
theorem Stb.symm {l m : List α} (h : Stb key l m) : Stb key m l := ⟨h.1.symm, fun x => (h.2 x).symm⟩
theorem Stb.append {l m l' m' : List α} (h : Stb key l m) (k : Stb key l' m') : Stb key (l ++ l') (m ++ m') := ⟨by simp [h.1, k.1], fun x => by rw [List.filter_append, List.filter_append, h.2, k.2]⟩
theorem Stb.swap {x y : α} (h : key x ≠ key y) (r : List α) : Stb key (x :: y :: r) (y :: x :: r) := ⟨rfl, fun k => by
  by_cases h1 : key x = k
  · have h2 : ¬ key y = k := fun e => h (h1.trans e.symm)
    simp [h1, h2]
  · by_cases h2 : key y = k
    · simp [h1, h2]
    · simp [h1, h2]⟩
theorem Stb.mem {l m : List α} (h : Stb key l m) (x : α) : x ∈ l ↔ x ∈ m := by
  have e := h.2 (key x)
  constructor
  · intro hx
    have : x ∈ l.filter (fun y => decide (key y = key x)) := List.mem_filter.2 ⟨hx, by simp⟩
    rw [e] at this
    exact (List.mem_filter.1 this).1
  · intro hx
    have : x ∈ m.filter (fun y => decide (key y = key x)) := List.mem_filter.2 ⟨hx, by simp⟩
    rw [← e] at this
    exact (List.mem_filter.1 this).1
theorem Stb.unique : ∀ {l m : List α}, l.Pairwise (fun x y => key x ≤ key y) → m.Pairwise (fun x y => key x ≤ key y) → Stb key l m → l = m
  | [], [], _, _, _ => rfl
  | [], _ :: _, _, _, h => by simp [Stb] at h
  | _ :: _, [], _, _, h => by simp [Stb] at h
  | a :: l, b :: m, hl, hm, h => by
    rw [List.pairwise_cons] at hl hm
    have hab : key a ≤ key b := by
      rcases List.mem_cons.1 ((h.mem b).2 (by simp)) with rfl | hb
      · exact Int.le_refl _
      · exact hl.1 b hb
    have hba : key b ≤ key a := by
      rcases List.mem_cons.1 ((h.mem a).1 (by simp)) with rfl | ha
      · exact Int.le_refl _
      · exact hm.1 a ha
    have e : key a = key b := by omega
    have h1 := h.2 (key a)
    rw [List.filter_cons_of_pos (by simp), List.filter_cons_of_pos (by simp [e])] at h1
    injection h1 with h2 h3
    subst h2
    rw [Stb.unique hl.2 hm.2 ⟨by simpa using h.1, fun k => ?_⟩]
    have h4 := h.2 k
    by_cases hk : key a = k
    · rw [List.filter_cons_of_pos (by simp [hk]), List.filter_cons_of_pos (by simp [hk])] at h4
      injection h4
    · rw [List.filter_cons_of_neg (by simp [hk]), List.filter_cons_of_neg (by simp [hk])] at h4
      exact h4
variable (key) in
def srt : List α → List α
  | [] => []
  | x :: r => insL x (srt r)
where insL (x : α) : List α → List α
  | [] => [x]
  | y :: r => if key y < key x then y :: insL x r else x :: y :: r
theorem insL_stb (x : α) : ∀ (l : List α), Stb key (x :: l) (srt.insL key x l)
  | [] => Stb.refl key _
  | y :: r => by
    rw [srt.insL]
    by_cases h : key y < key x
    · rw [if_pos h]
      exact (Stb.swap (by omega) r).trans ((Stb.refl key [y]).append (insL_stb x r))
    · rw [if_neg h]; exact Stb.refl key _
theorem insL_sorted (x : α) : ∀ (l : List α), l.Pairwise (fun x y => key x ≤ key y) → (srt.insL key x l).Pairwise (fun x y => key x ≤ key y)
  | [], _ => by rw [srt.insL]; exact List.pairwise_singleton _ _
  | y :: r, h => by
    rw [List.pairwise_cons] at h
    rw [srt.insL]
    by_cases h2 : key y < key x
    · rw [if_pos h2, List.pairwise_cons]
      refine ⟨fun z hz => ?_, insL_sorted x r h.2⟩
      rcases List.mem_cons.1 (((insL_stb (key := key) x r).mem z).2 hz) with rfl | hz
      · omega
      · exact h.1 z hz
    · rw [if_neg h2, List.pairwise_cons, List.pairwise_cons]
      refine ⟨fun z hz => ?_, h.1, h.2⟩
      rcases List.mem_cons.1 hz with rfl | hz
      · omega
      · have := h.1 z hz; omega
theorem srt_stb : ∀ (l : List α), Stb key l (srt key l)
  | [] => Stb.refl key _
  | x :: r => by rw [srt]; exact ((Stb.refl key [x]).append (srt_stb r)).trans (insL_stb x _)
theorem srt_sorted : ∀ (l : List α), (srt key l).Pairwise (fun x y => key x ≤ key y)
  | [] => List.Pairwise.nil
  | x :: r => by rw [srt]; exact insL_sorted x _ (srt_sorted r)
theorem srt_of {l m : List α} (h : Stb key l m) (hm : m.Pairwise (fun x y => key x ≤ key y)) : m = srt key l := Stb.unique hm (srt_sorted l) (h.symm.trans (srt_stb l))
theorem set2 {α : Type} : ∀ (l : List α) (j : Nat) (h : j + 1 < l.length), (l.set (j + 1) l[j]).set j l[j + 1] = l.take j ++ l[j + 1] :: l[j] :: l.drop (j + 2)
  | [], _, h => by simp at h
  | [_], _, h => by simp at h
  | x :: y :: r, 0, _ => by simp
  | x :: y :: r, j + 1, h => by
    have := set2 (y :: r) j (by simpa using h)
    simpa using this
variable [Inhabited α]
theorem swp_size (d : Array α) (i j : Nat) : (swp d i j).size = d.size := by simp [swp]
theorem swp_list (d : Array α) (j : Nat) (h : j + 1 < d.size) : (swp d (j + 1) j).toList = d.toList.take j ++ d[j + 1]! :: d[j]! :: d.toList.drop (j + 2) := by
  have h1 : d[j]! = d.toList[j]'(by simp; omega) := by simp [getElem!_pos d j (by omega)]
  have h2 : d[j + 1]! = d.toList[j + 1]'(by simp; omega) := by simp [getElem!_pos d (j + 1) h]
  unfold swp
  rw [Array.toList_setIfInBounds, Array.toList_setIfInBounds, h1, h2, set2 d.toList j (by simpa using h)]
theorem list_split (d : Array α) (j : Nat) (h : j + 1 < d.size) : d.toList = d.toList.take j ++ d[j]! :: d[j + 1]! :: d.toList.drop (j + 2) := by
  have h1 : d[j]! = d.toList[j]'(by simp; omega) := by simp [getElem!_pos d j (by omega)]
  have h2 : d[j + 1]! = d.toList[j + 1]'(by simp; omega) := by simp [getElem!_pos d (j + 1) h]
  rw [h1, h2, ← List.drop_eq_getElem_cons (by simp; omega), ← List.drop_eq_getElem_cons (by simp; omega), List.take_append_drop]
theorem swp_stb (d : Array α) (j : Nat) (h : j + 1 < d.size) (hk : key d[j + 1]! ≠ key d[j]!) : Stb key d.toList (swp d (j + 1) j).toList := by
  rw [swp_list d j h]
  conv => lhs; rw [list_split d j h]
  exact (Stb.refl key _).append (Stb.swap (Ne.symm hk) _)
theorem swp_get (d : Array α) (i j k : Nat) (hi : i < d.size) (hj : j < d.size) : (swp d i j)[k]! = if k = j then d[i]! else if k = i then d[j]! else d[k]! := by
  unfold swp
  by_cases hk : k < d.size
  · rw [getElem!_pos _ _ (by simpa using hk), Array.getElem_setIfInBounds (by simpa using hk), Array.getElem_setIfInBounds hk]
    by_cases e1 : j = k
    · rw [if_pos e1, if_pos e1.symm]
    · rw [if_neg e1, if_neg (Ne.symm e1)]
      by_cases e2 : i = k
      · rw [if_pos e2, if_pos e2.symm]
      · rw [if_neg e2, if_neg (Ne.symm e2), getElem!_pos d k hk]
  · rw [getElem!_neg ((d.setIfInBounds i d[j]!).setIfInBounds j d[i]!) k (by simpa using hk), if_neg (by omega), if_neg (by omega), getElem!_neg d k hk]
variable (key) in
def Srtd (d : Array α) (a b : Nat) : Prop := ∀ i j : Nat, a ≤ i → i < j → j < b → key d[i]! ≤ key d[j]!
theorem inner_ok (a : Nat) : ∀ (i : Nat) (d : Array α) (b : Nat), i < d.size → a ≤ i → i < b → b ≤ d.size → (∀ p q, a ≤ p → p < q → q < b → q ≠ i → p ≠ i → key d[p]! ≤ key d[q]!) → (∀ q, i < q → q < b → key d[i]! ≤ key d[q]!) →
    Stb key d.toList (insInner (fun x y => decide (key x < key y)) a i d).toList ∧ Srtd key (insInner (fun x y => decide (key x < key y)) a i d) a b ∧ ∀ k, (k < a ∨ b ≤ k) → (insInner (fun x y => decide (key x < key y)) a i d)[k]! = d[k]!
  | 0, d, b, hi, ha, hib, hb, h1, h2 => by
    rw [insInner]
    refine ⟨Stb.refl key _, fun p q hp hpq hq => ?_, fun _ _ => rfl⟩
    by_cases e : p = 0
    · subst e; exact h2 q hpq hq
    · exact h1 p q hp hpq hq (by omega) e
  | i + 1, d, b, hi, ha, hib, hb, h1, h2 => by
    rw [insInner]
    by_cases hc : (decide (i + 1 > a) && decide (key d[i + 1]! < key d[i]!)) = true
    · rw [if_pos hc]
      rw [Bool.and_eq_true, decide_eq_true_eq, decide_eq_true_eq] at hc
      obtain ⟨hgt, hlt⟩ := hc
      have g : ∀ k, (swp d (i + 1) i)[k]! = if k = i then d[i + 1]! else if k = i + 1 then d[i]! else d[k]! := fun k => swp_get d (i + 1) i k (by omega) (by omega)
      obtain ⟨r1, r2, r3⟩ := inner_ok a i (swp d (i + 1) i) b (by rw [swp_size]; omega) (by omega) (by omega) (by rw [swp_size]; omega) (fun p q hp hpq hq hqi hpi => by
        rw [g, g, if_neg hpi, if_neg hqi]
        by_cases e1 : p = i + 1
        · rw [if_pos e1, if_neg (by omega)]
          exact h1 i q (by omega) (by omega) hq (by omega) (by omega)
        · rw [if_neg e1]
          by_cases e2 : q = i + 1
          · rw [if_pos e2]; exact h1 p i hp (by omega) (by omega) (by omega) (by omega)
          · rw [if_neg e2]; exact h1 p q hp hpq hq (by omega) (by omega)) (fun q hq hqb => by
        rw [g, g, if_pos rfl, if_neg (by omega)]
        by_cases e2 : q = i + 1
        · rw [if_pos e2]; omega
        · rw [if_neg e2]; exact h2 q (by omega) hqb)
      refine ⟨(swp_stb d i hi (by omega)).trans r1, r2, fun k hk => ?_⟩
      rw [r3 k hk, g, if_neg (by omega), if_neg (by omega)]
    · rw [if_neg hc]
      rw [Bool.and_eq_true, decide_eq_true_eq, decide_eq_true_eq] at hc
      refine ⟨Stb.refl key _, fun p q hp hpq hq => ?_, fun _ _ => rfl⟩
      by_cases e : q = i + 1
      · subst e
        have hle : key d[i]! ≤ key d[i + 1]! := by
          by_cases hgt : i + 1 > a
          · have : ¬ key d[i + 1]! < key d[i]! := fun h => hc ⟨hgt, h⟩
            omega
          · omega
        by_cases e2 : p = i
        · subst e2; exact hle
        · have := h1 p i hp (by omega) (by omega) (by omega) (by omega); omega
      · by_cases e2 : p = i + 1
        · subst e2; exact h2 q hpq hq
        · exact h1 p q hp hpq hq e e2
theorem inner_size (lt : α → α → Bool) (a : Nat) : ∀ (i : Nat) (d : Array α), (insInner lt a i d).size = d.size
  | 0, d => rfl
  | i + 1, d => by rw [insInner]; split; rw [inner_size lt a i, swp_size]; rfl
theorem outer_ok (a b : Nat) : ∀ (n i : Nat) (d : Array α), b - i = n → a ≤ i → b ≤ d.size → Srtd key d a i →
    Stb key d.toList (insOuter (fun x y => decide (key x < key y)) a b i d).toList ∧ (i ≤ b → Srtd key (insOuter (fun x y => decide (key x < key y)) a b i d) a b) ∧ ∀ k, (k < a ∨ b ≤ k) → (insOuter (fun x y => decide (key x < key y)) a b i d)[k]! = d[k]!
  | 0, i, d, hn, ha, hb, hs => by
    rw [insOuter, if_neg (by omega)]
    exact ⟨Stb.refl key _, fun h => by obtain rfl : i = b := by omega
                                       exact hs, fun _ _ => rfl⟩
  | n + 1, i, d, hn, ha, hb, hs => by
    rw [insOuter, if_pos (by omega)]
    obtain ⟨r1, r2, r3⟩ := inner_ok (key := key) a i d (i + 1) (by omega) ha (by omega) (by omega) (fun p q hp hpq hq hqi hpi => hs p q hp hpq (by omega)) (fun q hq hqb => by omega)
    obtain ⟨s1, s2, s3⟩ := outer_ok a b n (i + 1) (insInner (fun x y => decide (key x < key y)) a i d) (by omega) (by omega) (by rw [inner_size]; omega) r2
    refine ⟨r1.trans s1, fun _ => s2 (by omega), fun k hk => ?_⟩
    rw [s3 k hk, r3 k (by omega)]
theorem insertion_ok (d : Array α) (a b : Nat) (hab : a ≤ b) (hb : b ≤ d.size) :
    Stb key d.toList (insertionSort (fun x y => decide (key x < key y)) d a b).toList ∧ Srtd key (insertionSort (fun x y => decide (key x < key y)) d a b) a b ∧ ∀ k, (k < a ∨ b ≤ k) → (insertionSort (fun x y => decide (key x < key y)) d a b)[k]! = d[k]! := by
  unfold insertionSort
  by_cases h : a < b
  · obtain ⟨r1, r2, r3⟩ := outer_ok (key := key) a b (b - (a + 1)) (a + 1) d rfl (by omega) hb (fun p q hp hpq hq => by omega)
    exact ⟨r1, r2 (by omega), r3⟩
  · obtain rfl : a = b := by omega
    rw [insOuter, if_neg (by omega)]
    exact ⟨Stb.refl key _, fun p q hp hpq hq => by omega, fun _ _ => rfl⟩
theorem pairwise_of (d : Array α) (h : Srtd key d 0 d.size) : d.toList.Pairwise (fun x y => key x ≤ key y) := by
  rw [List.pairwise_iff_getElem]
  intro i j hi hj hij
  have hi' : i < d.size := by simpa using hi
  have hj' : j < d.size := by simpa using hj
  have := h i j (Nat.zero_le _) hij hj'
  rw [getElem!_pos d i hi', getElem!_pos d j hj'] at this
  simpa using this
end Go.Proofs.YtkmkgpigmldhnaaDoor.Srt

namespace Go.Proofs.YtkmkgpigmldhnaaDoor.P
open Go.RowKit Go.Proofs.YtkmkgpigmldhnaaDoorW.PrintWords Go.Proofs.YtkmkgpigmldhnaaDoorW.PrintLast Go.Proofs.YtkmkgpigmldhnaaDoorW.PrintMore
attribute [local go_sem] max2_int min2_int max_two min_two max_three min_three max_four min_four
set_option linter.unusedVariables false
set_option linter.unusedSimpArgs false
def cmp_isNaN_uint8.f (a0 : Int) : Option (Bool) := some (a0 != a0)
set_option maxHeartbeats 8000000 in
set_option maxRecDepth 100000 in
theorem cmp_isNaN_uint8.calls (a0 : Int) (r : Bool) (w : World) (h : cmp_isNaN_uint8.f a0 = some r) :
    Calls Tryd.prog 81 #[.int .u8 a0] w fun e w' => e = .returned (.bool r) ∧ Drawn0 w w' := by
  have H : (some (a0 != a0)) = some r := h
  clear h
  obtain rfl := Option.some.inj H
  go_enter Tryd.func81, Tryd.ntmps81
  go_wp2
  go_ret
  exact ⟨by first | rfl | (simp; done) | (simp [*]; done), by repeat (first | exact Drawn0.refl _ | apply Drawn0.step)⟩
end Go.Proofs.YtkmkgpigmldhnaaDoor.P

namespace Go.Proofs.YtkmkgpigmldhnaaDoor.P
open Go.RowKit Go.Proofs.YtkmkgpigmldhnaaDoorW.PrintWords Go.Proofs.YtkmkgpigmldhnaaDoorW.PrintLast Go.Proofs.YtkmkgpigmldhnaaDoorW.PrintMore
attribute [local go_sem] max2_int min2_int max_two min_two max_three min_three max_four min_four
set_option linter.unusedVariables false
set_option linter.unusedSimpArgs false
def cmp_Compare_uint8.f (a0 : Int) (a1 : Int) : Option (Int) := (cmp_isNaN_uint8.f a0).bind fun t101 => ((cmp_isNaN_uint8.f a1).bind fun t102 => (if t101 = true then (if t102 = true then (some 0) else (some (-1))) else (if t102 = true then (some 1) else (if a0 < a1 then (some (-1)) else (if a0 > a1 then (some 1) else (some 0))))))
theorem z58z0 {p : Prop} (h : p := by (try simp only [List.map_toArray, List.map_cons, List.map_nil]); first | done | rfl | (simp only [List.length_drop, List.length_take]; rfl)) : p := h
set_option maxHeartbeats 8000000 in
set_option maxRecDepth 100000 in
theorem cmp_Compare_uint8.calls (a0 : Int) (a1 : Int) (r : Int) (w : World) (h : cmp_Compare_uint8.f a0 a1 = some r) :
  Calls Tryd.prog 58 #[.int .u8 a0, .int .u8 a1] w fun e w' => e = .returned (.int .i64 r) ∧ Drawn0 w w' := by
 have H : ((cmp_isNaN_uint8.f a0).bind fun t101 => ((cmp_isNaN_uint8.f a1).bind fun t102 => (if t101 = true then (if t102 = true then (some 0) else (some (-1))) else (if t102 = true then (some 1) else (if a0 < a1 then (some (-1)) else (if a0 > a1 then (some 1) else (some 0))))))) = some r := h
 clear h
 replace H := Option.bind_eq_some_iff.mp H
 obtain ⟨t101, A30, H⟩ := H
 replace H : ((cmp_isNaN_uint8.f a1).bind fun t102 => (if t101 = true then (if t102 = true then (some 0) else (some (-1))) else (if t102 = true then (some 1) else (if a0 < a1 then (some (-1)) else (if a0 > a1 then (some 1) else (some 0)))))) = some r := H
 have A3 := Aside0.mk A30
 clear A30
 replace H := Option.bind_eq_some_iff.mp H
 obtain ⟨t102, A40, H⟩ := H
 replace H : (if t101 = true then (if t102 = true then (some 0) else (some (-1))) else (if t102 = true then (some 1) else (if a0 < a1 then (some (-1)) else (if a0 > a1 then (some 1) else (some 0))))) = some r := H
 have A4 := Aside0.mk A40
 clear A40
 by_cases c5 : t101 = true
 ·subst c5
  have H1 : (if t102 = true then (some 0) else (some (-1))) = some r := by rw [if_pos rfl] at H; exact H
  clear H
  have H := H1
  clear H1
  by_cases c6 : t102 = true
  ·subst c6
   have H1 : (some 0) = some r := by rw [if_pos rfl] at H; exact H
   clear H
   have H := H1
   clear H1
   obtain rfl := Option.some.inj H
   go_enter Tryd.func58, Tryd.ntmps58
   go_wp2_with (first | ((with_reducible refine gate_callee (f := 81) rfl ?_); refine goesL_ (some 8) rfl rfl Tryd.func81 (by kernel_rfl) rfl #[.int .u8 a0] rfl z58z0 ?_; (with_reducible refine (cmp_isNaN_uint8.calls a0 true _ A3.out).mono ?_); rintro e w' ⟨rfl, ⟨nd, rfl⟩⟩; refine ⟨_, rfl, ?_⟩) | ((with_reducible refine gate_callee (f := 81) rfl ?_); refine goesL_ (some 10) rfl rfl Tryd.func81 (by kernel_rfl) rfl #[.int .u8 a1] rfl z58z0 ?_; (with_reducible refine (cmp_isNaN_uint8.calls a1 true _ A4.out).mono ?_); rintro e w' ⟨rfl, ⟨nd, rfl⟩⟩; refine ⟨_, rfl, ?_⟩))
   go_ret
   exact ⟨by first | rfl | (simp; done) | (simp [*]; done), by repeat (first | exact Drawn0.refl _ | apply Drawn0.step)⟩
  ·replace c6 := Bool.eq_false_iff.mpr c6
   subst c6
   have H1 : (some (-1)) = some r := by rw [if_neg (show ¬ (false = true) by decide)] at H; exact H
   clear H
   have H := H1
   clear H1
   obtain rfl := Option.some.inj H
   go_enter Tryd.func58, Tryd.ntmps58
   go_wp2_with (first | ((with_reducible refine gate_callee (f := 81) rfl ?_); refine goesL_ (some 8) rfl rfl Tryd.func81 (by kernel_rfl) rfl #[.int .u8 a0] rfl z58z0 ?_; (with_reducible refine (cmp_isNaN_uint8.calls a0 true _ A3.out).mono ?_); rintro e w' ⟨rfl, ⟨nd, rfl⟩⟩; refine ⟨_, rfl, ?_⟩) | ((with_reducible refine gate_callee (f := 81) rfl ?_); refine goesL_ (some 10) rfl rfl Tryd.func81 (by kernel_rfl) rfl #[.int .u8 a1] rfl z58z0 ?_; (with_reducible refine (cmp_isNaN_uint8.calls a1 false _ A4.out).mono ?_); rintro e w' ⟨rfl, ⟨nd, rfl⟩⟩; refine ⟨_, rfl, ?_⟩))
   go_ret
   exact ⟨by first | rfl | (simp; done) | (simp [*]; done), by repeat (first | exact Drawn0.refl _ | apply Drawn0.step)⟩
 ·replace c5 := Bool.eq_false_iff.mpr c5
  subst c5
  have H1 : (if t102 = true then (some 1) else (if a0 < a1 then (some (-1)) else (if a0 > a1 then (some 1) else (some 0)))) = some r := by rw [if_neg (show ¬ (false = true) by decide)] at H; exact H
  clear H
  have H := H1
  clear H1
  by_cases c7 : t102 = true
  ·subst c7
   have H1 : (some 1) = some r := by rw [if_pos rfl] at H; exact H
   clear H
   have H := H1
   clear H1
   obtain rfl := Option.some.inj H
   go_enter Tryd.func58, Tryd.ntmps58
   go_wp2_with (first | ((with_reducible refine gate_callee (f := 81) rfl ?_); refine goesL_ (some 8) rfl rfl Tryd.func81 (by kernel_rfl) rfl #[.int .u8 a0] rfl z58z0 ?_; (with_reducible refine (cmp_isNaN_uint8.calls a0 false _ A3.out).mono ?_); rintro e w' ⟨rfl, ⟨nd, rfl⟩⟩; refine ⟨_, rfl, ?_⟩) | ((with_reducible refine gate_callee (f := 81) rfl ?_); refine goesL_ (some 10) rfl rfl Tryd.func81 (by kernel_rfl) rfl #[.int .u8 a1] rfl z58z0 ?_; (with_reducible refine (cmp_isNaN_uint8.calls a1 true _ A4.out).mono ?_); rintro e w' ⟨rfl, ⟨nd, rfl⟩⟩; refine ⟨_, rfl, ?_⟩))
   go_ret
   exact ⟨by first | rfl | (simp; done) | (simp [*]; done), by repeat (first | exact Drawn0.refl _ | apply Drawn0.step)⟩
  ·replace c7 := Bool.eq_false_iff.mpr c7
   subst c7
   have H1 : (if a0 < a1 then (some (-1)) else (if a0 > a1 then (some 1) else (some 0))) = some r := by rw [if_neg (show ¬ (false = true) by decide)] at H; exact H
   clear H
   have H := H1
   clear H1
   by_cases c8 : a0 < a1
   ·rw [if_pos c8] at H
    have c8b0 : decide (a0 < a1) = true := decide_eq_true c8
    clear c8
    obtain rfl := Option.some.inj H
    go_enter Tryd.func58, Tryd.ntmps58
    go_wp2_with (first | ((with_reducible refine gate_callee (f := 81) rfl ?_); refine goesL_ (some 8) rfl rfl Tryd.func81 (by kernel_rfl) rfl #[.int .u8 a0] rfl z58z0 ?_; (with_reducible refine (cmp_isNaN_uint8.calls a0 false _ A3.out).mono ?_); rintro e w' ⟨rfl, ⟨nd, rfl⟩⟩; refine ⟨_, rfl, ?_⟩) | ((with_reducible refine gate_callee (f := 81) rfl ?_); refine goesL_ (some 10) rfl rfl Tryd.func81 (by kernel_rfl) rfl #[.int .u8 a1] rfl z58z0 ?_; (with_reducible refine (cmp_isNaN_uint8.calls a1 false _ A4.out).mono ?_); rintro e w' ⟨rfl, ⟨nd, rfl⟩⟩; refine ⟨_, rfl, ?_⟩))
    go_ret
    exact ⟨by first | rfl | (simp; done) | (simp [*]; done), by repeat (first | exact Drawn0.refl _ | apply Drawn0.step)⟩
   ·rw [if_neg c8] at H
    have c8b0 : decide (a0 < a1) = false := decide_eq_false c8
    clear c8
    by_cases c9 : a0 > a1
    ·rw [if_pos c9] at H
     have c9b0 : decide (a1 < a0) = true := decide_eq_true c9
     clear c9
     obtain rfl := Option.some.inj H
     go_enter Tryd.func58, Tryd.ntmps58
     go_wp2_with (first | ((with_reducible refine gate_callee (f := 81) rfl ?_); refine goesL_ (some 8) rfl rfl Tryd.func81 (by kernel_rfl) rfl #[.int .u8 a0] rfl z58z0 ?_; (with_reducible refine (cmp_isNaN_uint8.calls a0 false _ A3.out).mono ?_); rintro e w' ⟨rfl, ⟨nd, rfl⟩⟩; refine ⟨_, rfl, ?_⟩) | ((with_reducible refine gate_callee (f := 81) rfl ?_); refine goesL_ (some 10) rfl rfl Tryd.func81 (by kernel_rfl) rfl #[.int .u8 a1] rfl z58z0 ?_; (with_reducible refine (cmp_isNaN_uint8.calls a1 false _ A4.out).mono ?_); rintro e w' ⟨rfl, ⟨nd, rfl⟩⟩; refine ⟨_, rfl, ?_⟩))
     go_ret
     exact ⟨by first | rfl | (simp; done) | (simp [*]; done), by repeat (first | exact Drawn0.refl _ | apply Drawn0.step)⟩
    ·rw [if_neg c9] at H
     have c9b0 : decide (a1 < a0) = false := decide_eq_false c9
     clear c9
     obtain rfl := Option.some.inj H
     go_enter Tryd.func58, Tryd.ntmps58
     go_wp2_with (first | ((with_reducible refine gate_callee (f := 81) rfl ?_); refine goesL_ (some 8) rfl rfl Tryd.func81 (by kernel_rfl) rfl #[.int .u8 a0] rfl z58z0 ?_; (with_reducible refine (cmp_isNaN_uint8.calls a0 false _ A3.out).mono ?_); rintro e w' ⟨rfl, ⟨nd, rfl⟩⟩; refine ⟨_, rfl, ?_⟩) | ((with_reducible refine gate_callee (f := 81) rfl ?_); refine goesL_ (some 10) rfl rfl Tryd.func81 (by kernel_rfl) rfl #[.int .u8 a1] rfl z58z0 ?_; (with_reducible refine (cmp_isNaN_uint8.calls a1 false _ A4.out).mono ?_); rintro e w' ⟨rfl, ⟨nd, rfl⟩⟩; refine ⟨_, rfl, ?_⟩))
     go_ret
     exact ⟨by first | rfl | (simp; done) | (simp [*]; done), by repeat (first | exact Drawn0.refl _ | apply Drawn0.step)⟩
end Go.Proofs.YtkmkgpigmldhnaaDoor.P

namespace Go.Proofs.YtkmkgpigmldhnaaDoor.P
open Go.RowKit Go.Shelf Go.Lib Go.Sort Go.Proofs.YtkmkgpigmldhnaaDoorW.PrintWords Go.Proofs.YtkmkgpigmldhnaaDoorW.PrintLast Go.Proofs.YtkmkgpigmldhnaaDoorW.PrintMore
instance instIP : Inhabited S60 := ⟨z60⟩
def encS (x : S60) : List Value := [.int .u8 x.f0, .int .u32 x.f1, .string x.f2, .string x.f3]
theorem encS_len (x : S60) : (encS x).length = 4 := rfl
theorem encS_one (x : S60) : ∀ v ∈ encS x, v.oneCell' = true := by
  intro v hv
  simp [encS] at hv
  rcases hv with rfl | rfl | rfl | rfl <;> rfl
theorem key_flat (l : List S60) : ∀ (j : Nat), j < l.length * 4 → (l.flatMap encS)[j]? = some ((encS (l[j / 4]!))[j % 4]!) := by
  induction l with
  | nil => intro j hj; simp at hj
  | cons x r ih =>
    intro j hj
    rw [List.flatMap_cons]
    by_cases h4 : j < 4
    · rw [List.getElem?_append_left (by rw [encS_len]; exact h4), Nat.div_eq_of_lt h4, Nat.mod_eq_of_lt h4]
      simp only [List.getElem!_cons_zero]
      rw [List.getElem?_eq_getElem (by rw [encS_len]; exact h4), getElem!_pos (encS x) j (by rw [encS_len]; exact h4)]
    · rw [List.getElem?_append_right (by rw [encS_len]; omega), encS_len, ih (j - 4) (by simp at hj; omega)]
      have e1 : j / 4 = (j - 4) / 4 + 1 := by omega
      have e2 : j % 4 = (j - 4) % 4 := by omega
      rw [e1, e2]; simp
theorem flat_len (l : List S60) : (l.flatMap encS).length = l.length * 4 := by
  induction l with
  | nil => rfl
  | cons x r ih => rw [List.flatMap_cons, List.length_append, ih, encS_len, List.length_cons]; omega
theorem holds_of {W : World} {g : Nat} {cur : Array Value} {t : TypeId} (hb : W.heap[g]? = some (.cells cur t (0, 0))) (d : Array S60) (h : cur.toList.take (d.size * 4) = d.toList.flatMap encS) : HoldsK encS 4 W g 0 d := by
  intro j hj
  have hj' : j < d.size * 4 := by simpa using hj
  refine ⟨?_, blk_frozen hb _⟩
  rw [Nat.zero_add, blk_cell hb j]
  have h1 : (cur.toList.take (d.size * 4))[j]? = cur[j]? := by rw [List.getElem?_take_of_lt hj']; simp
  rw [← h1, h]
  show _ = some ((flatK encS 4 d)[j]!)
  rw [get_flatK _ _ _ j hj']
  have hge : d.toList[j / 4]! = d[j / 4]! := Array.getElem!_toList
  rw [key_flat d.toList j (by simpa using hj'), hge]
theorem block_of {w : World} {g : Nat} {cur : Array Value} {t : TypeId} (hb : w.heap[g]? = some (.cells cur t (0, 0))) (n : Nat) (d : Array S60) (os : Array Obj) (hd : d.size * 4 ≤ cur.size) :
    ∃ cur' : Array Value, (sortWorldK encS 4 w g 0 n d os).heap[g]? = some (.cells cur' t (0, 0)) ∧ cur'.size = cur.size ∧ cur'.toList.take (d.size * 4) = d.toList.flatMap encS := by
  have hlt := blk_lt hb
  refine ⟨putCells id 0 (flatK encS 4 d) cur, ?_, by simp [putCells], ?_⟩
  · show ((Sort.ahead w n).heap.modify g (onCells (putCells id 0 (flatK encS 4 d))) ++ os)[g]? = _
    rw [Array.getElem?_append_left (by simpa using hlt), Array.getElem?_modify, if_pos rfl]
    show Option.map _ (w.heap[g]?) = _
    rw [hb]; rfl
  · apply List.ext_getElem?
    intro j
    by_cases hj : j < d.size * 4
    · have hge : d.toList[j / 4]! = d[j / 4]! := Array.getElem!_toList
      rw [List.getElem?_take_of_lt hj, key_flat d.toList j (by simpa using hj), hge]
      have hc : j < cur.size := by omega
      simp only [Array.getElem?_toList, putCells, Array.getElem?_mapIdx, Array.getElem?_eq_getElem hc, Option.map_some]
      rw [if_pos ⟨Nat.zero_le _, by simpa using hj⟩, Nat.sub_zero, id, get_flatK _ _ _ j hj]
    · rw [List.getElem?_eq_none (by rw [List.length_take]; omega), List.getElem?_eq_none (by rw [flat_len]; simpa using hj)]
theorem sort_grown (w : World) (g n : Nat) (d : Array S60) (os : Array Obj) : w.grownBy (sortWorldK encS 4 w g 0 n d os) (some g) := by
  refine ⟨rfl, rfl, rfl, size_sortWorldK_c encS 4 w g 0 n d os, fun k hk hne => ?_⟩
  show ((Sort.ahead w n).heap.modify g (onCells (putCells id 0 (flatK encS 4 d))) ++ os)[k]? = _
  rw [Array.getElem?_append_left (by simpa using hk), Array.getElem?_modify, if_neg (fun e => hne (by rw [e]))]
  rfl
theorem own_open {W : World} {base : Nat} {ok : Nat → Prop} {v : Value} {xs : List S60} (h : Kd.R k60 60 W base ok v xs) (hp : 0 < xs.length) :
    ∃ g cap cur, v = .slice (some ⟨g, 0, none⟩) xs.length cap ∧ base ≤ g ∧ ok g ∧ W.heap[g]? = some (.cells cur 60 (0, 0)) ∧ xs.length ≤ cap ∧ cap ≤ maxLen ∧ cur.size = cap * 4 ∧ cur.toList.take (xs.length * 4) = xs.flatMap encS := by
  obtain ⟨h0, inner, ⟨hl, ho⟩, hr⟩ := h
  rcases ho with ⟨rfl, he⟩ | ⟨g, cap, cur, rfl, hb, hh, h1, h2, h3, h4⟩
  · omega
  · refine ⟨g, cap, cur, rfl, hb, h0 g (by simp [Value.ownBlock]), hh, h1, h2, h3, h4.trans ?_⟩
    apply List.ext_getElem?
    intro j
    by_cases hj : j < xs.length * 4
    · rw [key_flat xs j hj]
      have hx : j / 4 < xs.length := by omega
      have h5 := k60_openM (hr.2 (j / 4) _ (List.getElem?_eq_getElem hx))
      have h6 : inner[j]? = ((inner.drop (j / 4 * 4)).take 4)[j % 4]? := by
        rw [List.getElem?_take_of_lt (by omega), List.getElem?_drop]; congr 1; omega
      rw [h6]
      show ((inner.drop (j / 4 * k60.sz)).take k60.sz)[j % 4]? = _
      rw [h5, getElem!_pos xs (j / 4) hx]
      show (encS xs[j / 4])[j % 4]? = _
      rw [List.getElem?_eq_getElem (by rw [encS_len]; omega), getElem!_pos (encS xs[j / 4]) (j % 4) (by rw [encS_len]; omega)]
    · rw [List.getElem?_eq_none (by rw [hl]; show _ ≤ _; have : k60.sz = 4 := rfl; rw [this]; omega), List.getElem?_eq_none (by rw [flat_len]; omega)]
theorem own_shut {W : World} {base : Nat} {ok : Nat → Prop} {g cap : Nat} {cur : Array Value} {ys : List S60} (hb : base ≤ g) (hok : ok g) (hh : W.heap[g]? = some (.cells cur 60 (0, 0))) (h1 : ys.length ≤ cap) (h2 : cap ≤ maxLen) (h3 : cur.size = cap * 4) (h4 : cur.toList.take (ys.length * 4) = ys.flatMap encS) :
    Kd.R k60 60 W base ok (.slice (some ⟨g, 0, none⟩) ys.length cap) ys := by
  refine ⟨fun k hk => ?_, ys.flatMap encS, ⟨flat_len ys, .inr ⟨g, cap, cur, rfl, hb, hh, h1, h2, h3, h4⟩⟩, flat_len ys, fun j p hp => ?_⟩
  · have : g = k := by simpa [Value.ownBlock] using hk
    rw [← this]; exact hok
  · have hj : j < ys.length := (List.getElem?_eq_some_iff.1 hp).1
    have e : ((ys.flatMap encS).drop (j * 4)).take 4 = encS p := by
      apply List.ext_getElem?
      intro i
      by_cases hi : i < 4
      · rw [List.getElem?_take_of_lt hi, List.getElem?_drop, key_flat ys (j * 4 + i) (by omega)]
        have e1 : (j * 4 + i) / 4 = j := by omega
        have e2 : (j * 4 + i) % 4 = i := by omega
        rw [e1, e2, getElem!_pos ys j hj, (List.getElem?_eq_some_iff.1 hp).2, List.getElem?_eq_getElem (by rw [encS_len]; exact hi), getElem!_pos (encS p) i (by rw [encS_len]; exact hi)]
      · rw [List.getElem?_eq_none (by rw [List.length_take]; omega), List.getElem?_eq_none (by rw [encS_len]; omega)]
    show k60.M W base _ p (((ys.flatMap encS).drop (j * 4)).take 4)
    rw [e]
    exact k60_mkM W base _ p
end Go.Proofs.YtkmkgpigmldhnaaDoor.P

namespace Go.Proofs.YtkmkgpigmldhnaaDoor.Srt
open Go.Sort
variable {α : Type} {key : α → Int}
theorem split4 (l : List α) {a m b : Nat} (ham : a ≤ m) (hmb : m ≤ b) : l = l.take a ++ ((l.drop a).take (m - a) ++ ((l.drop m).take (b - m) ++ l.drop b)) := by
  have h1 : l.drop m = (l.drop a).drop (m - a) := by rw [List.drop_drop]; congr 1; omega
  have h2 : l.drop b = (l.drop m).drop (b - m) := by rw [List.drop_drop]; congr 1; omega
  rw [h2, List.take_append_drop, h1, List.take_append_drop, List.take_append_drop]
theorem stb_swap2 {u v : List α} (h : ∀ x ∈ u, ∀ y ∈ v, key y < key x) : Stb key (u ++ v) (v ++ u) := ⟨by simp; omega, fun k => by
  rw [List.filter_append, List.filter_append]
  by_cases hu : u.filter (fun x => decide (key x = k)) = []
  · rw [hu]; simp
  · have hv : v.filter (fun x => decide (key x = k)) = [] := by
      rw [List.filter_eq_nil_iff]
      intro y hy e
      obtain ⟨x, hx⟩ := List.exists_mem_of_ne_nil _ hu
      rw [List.mem_filter] at hx
      have := h x hx.1 y hy
      simp at hx e
      omega
    rw [hv]; simp⟩
theorem mul_lt_le {c c' x : Nat} (h : c' < c) : c' * x + x ≤ c * x := by
  have := Nat.mul_le_mul_right x (show c' + 1 ≤ c from h)
  rwa [Nat.add_mul, Nat.one_mul] at this
theorem half_at {bs c : Nat} : 2 * c * bs = c * (2 * bs) := by rw [Nat.mul_comm 2 c, Nat.mul_assoc]
variable [Inhabited α]
def Swr (d r : Array α) (a b n : Nat) : Prop := r.size = d.size ∧ ∀ k, r[k]! = if a ≤ k ∧ k < a + n then d[b + (k - a)]! else if b ≤ k ∧ k < b + n then d[a + (k - b)]! else d[k]!
def Rot (d r : Array α) (a m b : Nat) : Prop := r.size = d.size ∧ ∀ k, r[k]! = if a ≤ k ∧ k < a + (b - m) then d[m + (k - a)]! else if a + (b - m) ≤ k ∧ k < b then d[a + (k - (a + (b - m)))]! else d[k]!
theorem Swr.zero (d : Array α) (a b : Nat) : Swr d d a b 0 := ⟨rfl, fun k => by rw [if_neg (by omega), if_neg (by omega)]⟩
theorem idx_eq {d : Array α} {i j : Nat} (h : i = j) : d[i]! = d[j]! := by rw [h]
theorem Swr.step {d r : Array α} {a b n : Nat} (h : Swr d r a b n) (hab : a + n < b) (hb : b + n < d.size) : Swr d (swp r (a + n) (b + n)) a b (n + 1) := by
  refine ⟨by rw [swp_size]; exact h.1, fun k => ?_⟩
  rw [swp_get r (a + n) (b + n) k (by rw [h.1]; omega) (by rw [h.1]; omega), h.2, h.2, h.2]
  by_cases h1 : k = b + n
  · subst h1
    rw [if_pos rfl, if_neg (by omega), if_neg (by omega), if_neg (by omega), if_pos (by omega)]
    exact idx_eq (by omega)
  · rw [if_neg h1]
    by_cases h2 : k = a + n
    · subst h2
      rw [if_pos rfl, if_neg (by omega), if_neg (by omega), if_pos (by omega)]
      exact idx_eq (by omega)
    · rw [if_neg h2]
      by_cases h3 : a ≤ k ∧ k < a + n
      · rw [if_pos h3, if_pos (by omega)]
      · rw [if_neg h3, if_neg (show ¬ (a ≤ k ∧ k < a + (n + 1)) by omega)]
        by_cases h4 : b ≤ k ∧ k < b + n
        · rw [if_pos h4, if_pos (by omega)]
        · rw [if_neg h4, if_neg (by omega)]
theorem Rot.last {d r : Array α} {m i : Nat} (h : Swr d r (m - i) m i) (hi : i ≤ m) : Rot d r (m - i) m (m + i) := by
  refine ⟨h.1, fun k => ?_⟩
  rw [h.2]
  by_cases h1 : m - i ≤ k ∧ k < m - i + i
  · rw [if_pos h1, if_pos (by omega)]
  · by_cases h2 : m ≤ k ∧ k < m + i
    · rw [if_neg h1, if_pos h2, if_neg (by omega), if_pos (by omega)]; exact idx_eq (by omega)
    · rw [if_neg h1, if_neg h2, if_neg (by omega), if_neg (by omega)]
theorem Rot.left {d d' r : Array α} {m i j : Nat} (h : Swr d d' (m - i) m j) (hi : i ≤ m) (hj : j < i) (h2 : Rot d' r (m - (i - j)) m (m + j)) : Rot d r (m - i) m (m + j) := by
  refine ⟨h2.1.trans h.1, fun k => ?_⟩
  rw [h2.2]
  by_cases h1 : m - i ≤ k ∧ k < m - i + (m + j - m)
  · rw [if_pos h1, if_neg (by omega), if_neg (by omega), h.2, if_pos (by omega)]
  · rw [if_neg h1]
    by_cases h3 : m - (i - j) ≤ k ∧ k < m - (i - j) + (m + j - m)
    · rw [if_pos h3, h.2, if_neg (by omega), if_pos (by omega), if_pos (by omega)]; exact idx_eq (by omega)
    · rw [if_neg h3]
      by_cases h4 : m - (i - j) + (m + j - m) ≤ k ∧ k < m + j
      · rw [if_pos h4, h.2, if_neg (by omega), if_neg (by omega), if_pos (by omega)]; exact idx_eq (by omega)
      · rw [if_neg h4, h.2, if_neg (by omega), if_neg (by omega), if_neg (by omega)]
theorem Rot.right {d d' r : Array α} {m i j : Nat} (h : Swr d d' (m - i) (m + j - i) i) (hi : i ≤ m) (hj : i < j) (h2 : Rot d' r (m - i) m (m + (j - i))) : Rot d r (m - i) m (m + j) := by
  refine ⟨h2.1.trans h.1, fun k => ?_⟩
  rw [h2.2]
  by_cases h1 : m - i ≤ k ∧ k < m - i + (m + j - m)
  · rw [if_pos h1]
    by_cases h3 : m - i ≤ k ∧ k < m - i + (m + (j - i) - m)
    · rw [if_pos h3, h.2, if_neg (by omega)]
      by_cases h5 : m + j - i ≤ m + (k - (m - i)) ∧ m + (k - (m - i)) < m + j - i + i
      · omega
      · rw [if_neg h5]
    · rw [if_neg h3]
      by_cases h4 : m - i + (m + (j - i) - m) ≤ k ∧ k < m + (j - i)
      · rw [if_pos h4, h.2, if_pos (by omega)]; exact idx_eq (by omega)
      · omega
  · rw [if_neg h1, if_neg (by omega)]
    by_cases h4 : m - i + (m + (j - i) - m) ≤ k ∧ k < m + (j - i)
    · omega
    · rw [if_neg h4, h.2, if_neg (by omega)]
      by_cases h5 : m + j - i ≤ k ∧ k < m + j - i + i
      · rw [if_pos h5, if_pos (by omega)]; exact idx_eq (by omega)
      · rw [if_neg h5, if_neg (by omega)]
theorem Rot.none {d : Array α} {a m b : Nat} (h : a ≤ m) (h2 : m ≤ b) (h3 : a = m ∨ m = b) : Rot d d a m b := by
  refine ⟨rfl, fun k => ?_⟩
  by_cases h1 : a ≤ k ∧ k < a + (b - m)
  · rw [if_pos h1]; exact idx_eq (by omega)
  · rw [if_neg h1]
    by_cases h4 : a + (b - m) ≤ k ∧ k < b
    · rw [if_pos h4]; exact idx_eq (by omega)
    · rw [if_neg h4]
theorem Rot.up {d r : Array α} {a k : Nat} (h : Rot d r a (a + 1) (k + 1)) (ha : a ≤ k) (hk : k + 1 < d.size) : Rot d (swp r k (k + 1)) a (a + 1) (k + 2) := by
  refine ⟨by rw [swp_size]; exact h.1, fun p => ?_⟩
  rw [swp_get r k (k + 1) p (by rw [h.1]; omega) (by rw [h.1]; omega), h.2, h.2, h.2]
  by_cases h1 : p = k + 1
  · subst h1
    rw [if_pos rfl, if_neg (by omega), if_pos (by omega), if_neg (by omega), if_pos (by omega)]; exact idx_eq (by omega)
  · rw [if_neg h1]
    by_cases h2 : p = k
    · subst h2
      rw [if_pos rfl, if_neg (by omega), if_neg (by omega), if_pos (by omega)]; exact idx_eq (by omega)
    · rw [if_neg h2]
      by_cases h3 : a ≤ p ∧ p < a + (k + 1 - (a + 1))
      · rw [if_pos h3, if_pos (by omega)]
      · rw [if_neg h3, if_neg (by omega), if_neg (by omega), if_neg (by omega)]
theorem Rot.down {d r : Array α} {k m : Nat} (h : Rot d r (k + 1) m (m + 1)) (hk : k < m) (hm : m < d.size) : Rot d (swp r (k + 1) k) k m (m + 1) := by
  refine ⟨by rw [swp_size]; exact h.1, fun p => ?_⟩
  rw [swp_get r (k + 1) k p (by rw [h.1]; omega) (by rw [h.1]; omega), h.2, h.2, h.2]
  by_cases h1 : p = k
  · subst h1
    rw [if_pos rfl, if_pos (by omega), if_pos (by omega)]; exact idx_eq (by omega)
  · rw [if_neg h1]
    by_cases h2 : p = k + 1
    · subst h2
      rw [if_pos rfl, if_neg (by omega), if_neg (by omega), if_neg (by omega), if_pos (by omega)]; exact idx_eq (by omega)
    · rw [if_neg h2, if_neg (by omega), if_neg (show ¬ (k ≤ p ∧ p < k + (m + 1 - m)) by omega)]
      by_cases h3 : k + 1 + (m + 1 - m) ≤ p ∧ p < m + 1
      · rw [if_pos h3, if_pos (by omega)]; exact idx_eq (by omega)
      · rw [if_neg h3, if_neg (by omega)]
theorem Rot.at1 {d r : Array α} {a m b : Nat} (h : Rot d r a m b) {k : Nat} (h1 : a ≤ k) (h2 : k < a + (b - m)) : r[k]! = d[m + (k - a)]! := by rw [h.2, if_pos ⟨h1, h2⟩]
theorem Rot.at2 {d r : Array α} {a m b : Nat} (h : Rot d r a m b) {k : Nat} (h1 : a + (b - m) ≤ k) (h2 : k < b) : r[k]! = d[a + (k - (a + (b - m)))]! := by rw [h.2, if_neg (by omega), if_pos ⟨h1, h2⟩]
theorem Rot.at3 {d r : Array α} {a m b : Nat} (h : Rot d r a m b) (ham : a ≤ m) {k : Nat} (h1 : k < a ∨ b ≤ k) (hmb : m ≤ b) : r[k]! = d[k]! := by rw [h.2, if_neg (by omega), if_neg (by omega)]
theorem get_list (d : Array α) (k : Nat) (h : k < d.size) : d.toList[k]? = some d[k]! := by
  rw [getElem!_pos d k h]; simp [h]
theorem rot_list {d r : Array α} {a m b : Nat} (h : Rot d r a m b) (ham : a ≤ m) (hmb : m ≤ b) (hb : b ≤ d.size) :
    r.toList = d.toList.take a ++ ((d.toList.drop m).take (b - m) ++ ((d.toList.drop a).take (m - a) ++ d.toList.drop b)) := by
  apply List.ext_getElem?
  intro k
  have hs := h.1
  by_cases hk : k < d.size
  · rw [get_list r k (by omega)]
    by_cases c1 : k < a
    · rw [h.at3 ham (.inl c1) hmb, List.getElem?_append_left (by simp; omega), List.getElem?_take_of_lt c1, get_list d k hk]
    · rw [List.getElem?_append_right (by simp; omega)]
      have e1 : k - (d.toList.take a).length = k - a := by simp; omega
      rw [e1]
      by_cases c2 : k < a + (b - m)
      · rw [h.at1 (by omega) c2, List.getElem?_append_left (by simp; omega), List.getElem?_take_of_lt (by omega), List.getElem?_drop, get_list d _ (by omega)]
      · rw [List.getElem?_append_right (by simp; omega)]
        have e2 : k - a - ((d.toList.drop m).take (b - m)).length = k - (a + (b - m)) := by simp; omega
        rw [e2]
        by_cases c3 : k < b
        · rw [h.at2 (by omega) c3, List.getElem?_append_left (by simp; omega), List.getElem?_take_of_lt (by omega), List.getElem?_drop, get_list d _ (by omega)]
        · rw [h.at3 ham (.inr (by omega)) hmb, List.getElem?_append_right (by simp; omega)]
          have e3 : k - (a + (b - m)) - ((d.toList.drop a).take (m - a)).length = k - b := by simp; omega
          rw [e3, List.getElem?_drop, get_list d _ (by omega)]
          congr 1; exact idx_eq (by omega)
  · rw [List.getElem?_eq_none (by simp; omega), List.getElem?_eq_none (by simp; omega)]
theorem mem_get {d : Array α} {x : α} {a n : Nat} (h : x ∈ (d.toList.drop a).take n) (hn : a + n ≤ d.size) : ∃ k, a ≤ k ∧ k < a + n ∧ x = d[k]! := by
  obtain ⟨i, hi, he⟩ := List.mem_iff_getElem.1 h
  have hi2 : i < n := by simp at hi; omega
  refine ⟨a + i, by omega, by omega, ?_⟩
  have h1 : ((d.toList.drop a).take n)[i]? = some x := by rw [← he]; exact List.getElem?_eq_getElem hi
  rw [List.getElem?_take_of_lt hi2, List.getElem?_drop, get_list d _ (by omega)] at h1
  exact (Option.some.inj h1).symm
theorem rot_stb {d r : Array α} {a m b : Nat} (h : Rot d r a m b) (ham : a ≤ m) (hmb : m ≤ b) (hb : b ≤ d.size) (hk : ∀ p q, a ≤ p → p < m → m ≤ q → q < b → key d[q]! < key d[p]!) : Stb key d.toList r.toList := by
  rw [rot_list h ham hmb hb]
  conv => lhs; rw [split4 d.toList ham hmb]
  rw [← List.append_assoc (List.take (m - a) _), ← List.append_assoc (List.take (b - m) _)]
  refine (Stb.refl key _).append ((stb_swap2 fun x hx y hy => ?_).append (Stb.refl key _))
  obtain ⟨p, p1, p2, rfl⟩ := mem_get hx (by omega)
  obtain ⟨q, q1, q2, rfl⟩ := mem_get hy (by omega)
  exact hk p q p1 (by omega) q1 (by omega)
variable (key) in
structure Done (d r : Array α) (a b : Nat) : Prop where
  stb : Stb key d.toList r.toList
  srt : Srtd key r a b
  out : ∀ k, k < a ∨ b ≤ k → r[k]! = d[k]!
  mem : ∀ k, a ≤ k → k < b → ∃ j, a ≤ j ∧ j < b ∧ r[k]! = d[j]!
theorem Done.size {d r : Array α} {a b : Nat} (h : Done key d r a b) : r.size = d.size := by simpa using h.stb.1.symm
theorem Done.none {d : Array α} {a b : Nat} (h : Srtd key d a b) : Done key d d a b := ⟨Stb.refl key _, h, fun _ _ => rfl, fun k h1 h2 => ⟨k, h1, h2, rfl⟩⟩
theorem Rot.mem {d r : Array α} {s m e a b : Nat} (h : Rot d r s m e) (hs : s ≤ m) (he : m ≤ e) (ha : a ≤ s) (hb : e ≤ b) : ∀ k, a ≤ k → k < b → ∃ j, a ≤ j ∧ j < b ∧ r[k]! = d[j]! := by
  intro k h1 h2
  by_cases c1 : k < s ∨ e ≤ k
  · exact ⟨k, h1, h2, h.at3 hs c1 he⟩
  · by_cases c2 : k < s + (e - m)
    · exact ⟨m + (k - s), by omega, by omega, h.at1 (by omega) c2⟩
    · exact ⟨s + (k - (s + (e - m))), by omega, by omega, h.at2 (by omega) (by omega)⟩
theorem one_left {d r : Array α} {a b i : Nat} (hs : Srtd key d (a + 1) b) (hi : a + 1 ≤ i) (hib : i ≤ b) (hb : b ≤ d.size) (h1 : ∀ q, a + 1 ≤ q → q < i → key d[q]! < key d[a]!) (h2 : ∀ q, i ≤ q → q < b → key d[a]! ≤ key d[q]!) (h : Rot d r a (a + 1) i) : Done key d r a b := by
  refine ⟨rot_stb h (by omega) hi (by omega) (fun p q p1 p2 q1 q2 => by rw [show p = a by omega]; exact h1 q q1 q2), fun p q hp hpq hq => ?_, fun k hk => h.at3 (by omega) (by omega) hi, h.mem (by omega) hi (Nat.le_refl _) hib⟩
  by_cases c1 : q < a + (i - (a + 1))
  · rw [h.at1 hp (by omega), h.at1 (by omega) c1]; exact hs _ _ (by omega) (by omega) (by omega)
  · by_cases c2 : q < i
    · rw [h.at2 (by omega) c2]
      by_cases c3 : p < a + (i - (a + 1))
      · rw [h.at1 hp c3]
        have e : a + (q - (a + (i - (a + 1)))) = a := by omega
        rw [e]
        have := h1 (a + 1 + (p - a)) (by omega) (by omega)
        omega
      · omega
    · rw [h.at3 (by omega) (k := q) (by omega) hi]
      by_cases c3 : p < a + (i - (a + 1))
      · rw [h.at1 hp c3]; exact hs _ _ (by omega) (by omega) hq
      · by_cases c4 : p < i
        · rw [h.at2 (by omega) c4]
          have e : a + (p - (a + (i - (a + 1)))) = a := by omega
          rw [e]; exact h2 q (by omega) hq
        · rw [h.at3 (by omega) (k := p) (by omega) hi]; exact hs _ _ (by omega) hpq hq
theorem one_right {d r : Array α} {a m i : Nat} (hs : Srtd key d a m) (hai : a ≤ i) (him : i ≤ m) (hm : m < d.size) (h1 : ∀ q, a ≤ q → q < i → key d[q]! ≤ key d[m]!) (h2 : ∀ q, i ≤ q → q < m → key d[m]! < key d[q]!) (h : Rot d r i m (m + 1)) : Done key d r a (m + 1) := by
  refine ⟨rot_stb h him (by omega) (by omega) (fun p q p1 p2 q1 q2 => by rw [show q = m by omega]; exact h2 p p1 p2), fun p q hp hpq hq => ?_, fun k hk => h.at3 him (by omega) (by omega), h.mem him (by omega) hai (Nat.le_refl _)⟩
  by_cases c1 : q < i
  · rw [h.at3 him (k := p) (by omega) (by omega), h.at3 him (k := q) (by omega) (by omega)]; exact hs _ _ hp hpq (by omega)
  · by_cases c2 : q = i
    · subst c2
      rw [h.at3 him (k := p) (by omega) (by omega), h.at1 (Nat.le_refl _) (by omega)]
      have e : m + (q - q) = m := by omega
      rw [e]; exact h1 p hp hpq
    · rw [h.at2 (k := q) (by omega) (by omega)]
      by_cases c3 : p < i
      · rw [h.at3 him (k := p) (by omega) (by omega)]; exact hs _ _ hp (by omega) (by omega)
      · by_cases c4 : p = i
        · subst c4
          rw [h.at1 (Nat.le_refl _) (by omega)]
          have e : m + (p - p) = m := by omega
          rw [e]
          have := h2 (p + (q - (p + (m + 1 - m)))) (by omega) (by omega)
          omega
        · rw [h.at2 (k := p) (by omega) (by omega)]; exact hs _ _ (by omega) (by omega) (by omega)
variable (key) in
structure Cut (d : Array α) (a m b s e : Nat) : Prop where
  l : Srtd key d a m
  r : Srtd key d m b
  x : ∀ p q, s ≤ p → p < m → m ≤ q → q < e → key d[q]! < key d[p]!
  y : ∀ p q, a ≤ p → p < s → e ≤ q → q < b → key d[p]! ≤ key d[q]!
variable (key) in
structure CutAt (d r : Array α) (a m b s e mid : Nat) : Prop where
  h : Rot d r s m e
  c : Cut key d a m b s e
  h1 : a ≤ s
  h2 : s ≤ m
  h3 : m ≤ e
  h4 : e ≤ b
  h5 : b ≤ d.size
  h6 : mid = s + (e - m)
variable {d r : Array α} {a m b s e mid : Nat}
theorem cut_ss (z : CutAt key d r a m b s e mid) : Srtd key r a s := fun p q hp hpq hq => by
  obtain ⟨h, c, h1, h2, h3, h4, h5, h6⟩ := z
  rw [h.at3 h2 (by omega) h3, h.at3 h2 (by omega) h3]; exact c.l _ _ hp hpq (by omega)
theorem cut_sm (z : CutAt key d r a m b s e mid) : Srtd key r s mid := fun p q hp hpq hq => by
  obtain ⟨h, c, h1, h2, h3, h4, h5, h6⟩ := z
  rw [h.at1 hp (by omega), h.at1 (by omega) (by omega)]; exact c.r _ _ (by omega) (by omega) (by omega)
theorem cut_me (z : CutAt key d r a m b s e mid) : Srtd key r mid e := fun p q hp hpq hq => by
  obtain ⟨h, c, h1, h2, h3, h4, h5, h6⟩ := z
  rw [h.at2 (by omega) (by omega), h.at2 (by omega) (by omega)]; exact c.l _ _ (by omega) (by omega) (by omega)
theorem cut_eb (z : CutAt key d r a m b s e mid) : Srtd key r e b := fun p q hp hpq hq => by
  obtain ⟨h, c, h1, h2, h3, h4, h5, h6⟩ := z
  rw [h.at3 h2 (by omega) h3, h.at3 h2 (by omega) h3]; exact c.r _ _ (by omega) (by omega) (by omega)
theorem cut_lr (z : CutAt key d r a m b s e mid) : ∀ p q, a ≤ p → p < mid → mid ≤ q → q < b → key r[p]! ≤ key r[q]! := by
  obtain ⟨h, c, h1, h2, h3, h4, h5, h6⟩ := z
  intro p q p1 p2 q1 q2
  by_cases c1 : p < s
  · rw [h.at3 h2 (k := p) (by omega) h3]
    by_cases c2 : q < e
    · rw [h.at2 (k := q) (by omega) c2]; exact c.l _ _ p1 (by omega) (by omega)
    · rw [h.at3 h2 (k := q) (by omega) h3]; exact c.y _ _ p1 c1 (by omega) q2
  · rw [h.at1 (k := p) (by omega) (by omega)]
    by_cases c2 : q < e
    · rw [h.at2 (k := q) (by omega) c2]
      have := c.x (s + (q - (s + (e - m)))) (m + (p - s)) (by omega) (by omega) (by omega) (by omega)
      omega
    · rw [h.at3 h2 (k := q) (by omega) h3]; exact c.r _ _ (by omega) (by omega) q2
theorem cut_done (z : CutAt key d r a m b s e mid) {r1 r2 : Array α} (k1 : Done key r r1 a mid) (k2 : Done key r1 r2 mid b) : Done key d r2 a b := by
  have hx := cut_lr z
  obtain ⟨h, c, h1, h2, h3, h4, h5, h6⟩ := z
  refine ⟨((rot_stb h h2 h3 (by omega) c.x).trans k1.stb).trans k2.stb, fun p q hp hpq hq => ?_, fun k hk => ?_, fun k hk1 hk2 => ?_⟩
  · by_cases c1 : q < mid
    · rw [k2.out p (by omega), k2.out q (by omega)]; exact k1.srt p q hp hpq c1
    · by_cases c2 : mid ≤ p
      · exact k2.srt p q c2 hpq hq
      · rw [k2.out p (by omega)]
        obtain ⟨p', p1, p2, pe⟩ := k1.mem p hp (by omega)
        obtain ⟨q', q1, q2, qe⟩ := k2.mem q (by omega) hq
        rw [pe, qe, k1.out q' (by omega)]
        exact hx p' q' p1 p2 q1 q2
  · rw [k2.out k (by omega), k1.out k (by omega), h.at3 h2 (by omega) h3]
  · have hm := h.mem h2 h3 h1 h4
    by_cases c1 : k < mid
    · rw [k2.out k (by omega)]
      obtain ⟨j, j1, j2, je⟩ := k1.mem k hk1 c1
      obtain ⟨i, i1, i2, ie⟩ := hm j j1 (by omega)
      exact ⟨i, i1, i2, je.trans ie⟩
    · obtain ⟨j, j1, j2, je⟩ := k2.mem k (by omega) hk2
      rw [k1.out j (by omega)] at je
      obtain ⟨i, i1, i2, ie⟩ := hm j (by omega) j2
      exact ⟨i, i1, i2, je.trans ie⟩
variable (key) in
def Runs (d : Array α) (bs n : Nat) : Prop := ∀ c, Srtd key d (c * bs) (min (c * bs + bs) n)
variable (key) in
def Half (d : Array α) (bs n c : Nat) : Prop := (∀ c', c' < c → Srtd key d (c' * (2 * bs)) (min (c' * (2 * bs) + 2 * bs) n)) ∧ ∀ c', 2 * c ≤ c' → Srtd key d (c' * bs) (min (c' * bs + bs) n)
theorem Runs.half {d : Array α} {bs n : Nat} (h : Runs key d bs n) : Half key d bs n 0 := ⟨fun c' hc => by omega, fun c' _ => h c'⟩
theorem srtd_same {d r : Array α} {a b : Nat} (h : Srtd key d a b) (he : ∀ k, a ≤ k → k < b → r[k]! = d[k]!) : Srtd key r a b := fun p q hp hpq hq => by rw [he p hp (by omega), he q (by omega) hq]; exact h p q hp hpq hq
theorem Half.step {d r : Array α} {bs n c : Nat} (h : Half key d bs n c) (hn : c * (2 * bs) + 2 * bs ≤ n) (hd : Done key d r (c * (2 * bs)) (c * (2 * bs) + 2 * bs)) : Half key r bs n (c + 1) := by
  refine ⟨fun c' hc => ?_, fun c' hc => ?_⟩
  · by_cases e : c' = c
    · subst e; rw [Nat.min_eq_left hn]; exact hd.srt
    · have := mul_lt_le (x := 2 * bs) (show c' < c by omega)
      exact srtd_same (h.1 c' (by omega)) (fun k _ hk => hd.out k (by omega))
  · have h1 := Nat.mul_le_mul_right bs hc
    have e : 2 * (c + 1) * bs = c * (2 * bs) + 2 * bs := by rw [Nat.mul_comm 2 (c + 1), Nat.mul_assoc, Nat.add_mul, Nat.one_mul]
    rw [e] at h1
    exact srtd_same (h.2 c' (by omega)) (fun k hk _ => hd.out k (by omega))
theorem Half.left {d : Array α} {bs n c : Nat} (h : Half key d bs n c) (hn : c * (2 * bs) + bs ≤ n) : Srtd key d (c * (2 * bs)) (c * (2 * bs) + bs) := by
  have := h.2 (2 * c) (Nat.le_refl _)
  rw [half_at, Nat.min_eq_left hn] at this
  exact this
theorem Half.right {d : Array α} {bs n c : Nat} (h : Half key d bs n c) : Srtd key d (c * (2 * bs) + bs) (min (c * (2 * bs) + 2 * bs) n) := by
  have := h.2 (2 * c + 1) (by omega)
  rw [Nat.add_mul, Nat.one_mul, half_at, Nat.add_assoc, ← Nat.two_mul] at this
  exact this
theorem Half.last {d r : Array α} {bs n c : Nat} (h : Half key d bs n c) (h1 : n < c * (2 * bs) + 2 * bs) (hd : Done key d r (c * (2 * bs)) n) : Runs key r (2 * bs) n := by
  intro c'
  by_cases c1 : c' < c
  · have := mul_lt_le (x := 2 * bs) c1
    exact srtd_same (h.1 c' c1) (fun k _ hk => hd.out k (by omega))
  · by_cases c2 : c' = c
    · subst c2; rw [Nat.min_eq_right (by omega)]; exact hd.srt
    · have := mul_lt_le (x := 2 * bs) (show c < c' by omega)
      intro p q hp hpq hq; omega
theorem Half.short {d : Array α} {bs n c : Nat} (h : Half key d bs n c) (h2 : n ≤ c * (2 * bs) + bs) : Done key d d (c * (2 * bs)) n := by
  refine Done.none ?_
  have := h.2 (2 * c) (Nat.le_refl _)
  rwa [half_at, Nat.min_eq_right h2] at this
theorem Runs.whole {d : Array α} {bs n : Nat} (h : Runs key d bs n) (hn : n ≤ bs) : Srtd key d 0 n := by
  have := h 0
  rwa [Nat.zero_mul, Nat.zero_add, Nat.min_eq_right hn] at this
theorem runs_step {d r : Array α} {bs n c : Nat} (h : ∀ c', c' < c → Srtd key d (c' * bs) (min (c' * bs + bs) n)) (hd : Done key d r (c * bs) (c * bs + bs)) : ∀ c', c' < c + 1 → Srtd key r (c' * bs) (min (c' * bs + bs) n) := by
  intro c' hc
  by_cases e : c' = c
  · subst e; exact fun p q hp hpq hq => hd.srt p q hp hpq (by omega)
  · have := mul_lt_le (x := bs) (show c' < c by omega)
    exact srtd_same (h c' (by omega)) (fun k _ hk => hd.out k (by omega))
theorem runs_last {d r : Array α} {bs n c : Nat} (h : ∀ c', c' < c → Srtd key d (c' * bs) (min (c' * bs + bs) n)) (hn : n < c * bs + bs) (hd : Done key d r (c * bs) n) : Runs key r bs n := by
  intro c'
  by_cases c1 : c' < c
  · have := mul_lt_le (x := bs) c1
    exact srtd_same (h c' c1) (fun k _ hk => hd.out k (by omega))
  · by_cases c2 : c' = c
    · subst c2; rw [Nat.min_eq_right (by omega)]; exact hd.srt
    · have := mul_lt_le (x := bs) (show c < c' by omega)
      intro p q hp hpq hq; omega
theorem cut_of {d : Array α} {a m b mid n p s s0 r0 : Nat} (hl : Srtd key d a m) (hr : Srtd key d m b) (hmb : m < b) (hmid : mid = (a + b) / 2) (hn : n = mid + m) (hp : p + 1 = n) (hcase : (mid < m ∧ s0 + b = n ∧ r0 = mid) ∨ (m ≤ mid ∧ s0 = a ∧ r0 = m)) (h0 : s0 ≤ s) (h1 : s ≤ r0)
    (hx : ∀ q, s0 ≤ q → q < s → key d[q]! ≤ key d[p - q]!) (hy : ∀ q, s ≤ q → q < r0 → key d[p - q]! < key d[q]!) : Cut key d a m b s (n - s) ∧ a ≤ s ∧ s ≤ m ∧ m ≤ n - s ∧ n - s ≤ b ∧ mid = s + (n - s - m) := by
  have le : ∀ {x y : Nat} {lo hi : Nat}, Srtd key d lo hi → lo ≤ x → x ≤ y → y < hi → key d[x]! ≤ key d[y]! := fun {x y lo hi} h a1 a2 a3 => by
    by_cases e : x = y
    · rw [e]; exact Int.le_refl _
    · exact h x y a1 (by omega) a3
  refine ⟨⟨hl, hr, fun u v u1 u2 v1 v2 => ?_, fun u v u1 u2 v1 v2 => ?_⟩, by omega, by omega, by omega, by omega, by omega⟩
  · have hs : s < r0 := by omega
    have k1 := hy s (Nat.le_refl _) hs
    have k2 := le hl (show a ≤ s by omega) u1 u2
    have k3 := le hr v1 (show v ≤ p - s by omega) (by omega)
    omega
  · have hs : s0 < s := by omega
    have k1 := hx (s - 1) (by omega) (by omega)
    have k2 := le hl u1 (show u ≤ s - 1 by omega) (by omega)
    have k3 := le hr (show m ≤ p - (s - 1) by omega) (show p - (s - 1) ≤ v by omega) v2
    omega
theorem cut_le {d : Array α} {a m b p s0 r0 c : Nat} (hl : Srtd key d a m) (hr : Srtd key d m b) (ha : a ≤ s0) (hm : r0 ≤ m) (hlo : ∀ q, s0 ≤ q → q < r0 → m ≤ p - q ∧ p - q < b ∧ q ≤ p) (h1 : s0 ≤ c) (h2 : c < r0) (h : ¬ key d[p - c]! < key d[c]!) : ∀ q, s0 ≤ q → q < c + 1 → key d[q]! ≤ key d[p - q]! := fun q q1 q2 => by
  by_cases e : q = c
  · rw [e]; omega
  · have k1 := hl q c (by omega) (by omega) (by omega)
    have a1 := hlo q q1 (by omega)
    have a2 := hlo c h1 h2
    have k2 := hr (p - c) (p - q) (by omega) (by omega) (by omega)
    omega
theorem cut_gt {d : Array α} {a m b p s0 r0 c : Nat} (hl : Srtd key d a m) (hr : Srtd key d m b) (ha : a ≤ s0) (hm : r0 ≤ m) (hlo : ∀ q, s0 ≤ q → q < r0 → m ≤ p - q ∧ p - q < b ∧ q ≤ p) (h1 : s0 ≤ c) (h2 : c < r0) (h : key d[p - c]! < key d[c]!) : ∀ q, c ≤ q → q < r0 → key d[p - q]! < key d[q]! := fun q q1 q2 => by
  by_cases e : q = c
  · rw [e]; exact h
  · have k1 := hl c q (by omega) (by omega) (by omega)
    have a1 := hlo q (by omega) q2
    have a2 := hlo c h1 h2
    have k2 := hr (p - q) (p - c) (by omega) (by omega) (by omega)
    omega
theorem left_none {d r : Array α} {a m b s e mid : Nat} (z : CutAt key d r a m b s e mid) (h : ¬ (a < s ∧ s < mid)) : Done key r r a mid := by
  have q1 := cut_ss z
  have q2 := cut_sm z
  obtain ⟨_, _, h1, h2, h3, h4, h5, h6⟩ := z
  refine Done.none ?_
  by_cases c : s = a
  · subst c; exact q2
  · have c2 : s = mid := by omega
    rw [← c2]; exact q1
theorem right_l {d r r1 : Array α} {a m b s e mid : Nat} (z : CutAt key d r a m b s e mid) (k : Done key r r1 a mid) : Srtd key r1 mid e := srtd_same (cut_me z) (fun x h1 _ => k.out x (.inr h1))
theorem right_r {d r r1 : Array α} {a m b s e mid : Nat} (z : CutAt key d r a m b s e mid) (k : Done key r r1 a mid) : Srtd key r1 e b := srtd_same (cut_eb z) (fun x h1 _ => k.out x (.inr (by have := z.h2; have := z.h3; have := z.h6; omega)))
theorem right_none {d r r1 : Array α} {a m b s e mid : Nat} (z : CutAt key d r a m b s e mid) (k : Done key r r1 a mid) (h : ¬ (mid < e ∧ e < b)) : Done key r1 r1 mid b := by
  have q1 := right_l z k
  have q2 := right_r z k
  obtain ⟨_, _, h1, h2, h3, h4, h5, h6⟩ := z
  refine Done.none ?_
  by_cases c : e = b
  · subst c; exact q1
  · have c2 : e = mid := by omega
    rw [← c2]; exact q2
theorem find_lt {d : Array α} {m b h : Nat} {x : Int} (hr : Srtd key d m b) (h1 : m ≤ h) (h2 : h < b) (hc : key d[h]! < x) : ∀ q, m ≤ q → q < h + 1 → key d[q]! < x := fun q q1 q2 => by
  by_cases e : q = h
  · rw [e]; exact hc
  · have := hr q h q1 (by omega) h2; omega
theorem find_ge {d : Array α} {m b h : Nat} {x : Int} (hr : Srtd key d m b) (h1 : m ≤ h) (hc : x ≤ key d[h]!) : ∀ q, h ≤ q → q < b → x ≤ key d[q]! := fun q q1 q2 => by
  by_cases e : q = h
  · rw [e]; exact hc
  · have := hr h q h1 (by omega) q2; omega
theorem find_le {d : Array α} {m b h : Nat} {x : Int} (hr : Srtd key d m b) (h1 : m ≤ h) (h2 : h < b) (hc : key d[h]! ≤ x) : ∀ q, m ≤ q → q < h + 1 → key d[q]! ≤ x := fun q q1 q2 => by
  by_cases e : q = h
  · rw [e]; exact hc
  · have := hr q h q1 (by omega) h2; omega
theorem find_gt {d : Array α} {m b h : Nat} {x : Int} (hr : Srtd key d m b) (h1 : m ≤ h) (hc : x < key d[h]!) : ∀ q, h ≤ q → q < b → x < key d[q]! := fun q q1 q2 => by
  by_cases e : q = h
  · rw [e]; exact hc
  · have := hr h q h1 (by omega) q2; omega
theorem mem_of {d r : Array α} {a b : Nat} (h : Stb key d.toList r.toList) (ho : ∀ k, k < a ∨ b ≤ k → r[k]! = d[k]!) (hab : a ≤ b) (hb : b ≤ d.size) : ∀ k, a ≤ k → k < b → ∃ j, a ≤ j ∧ j < b ∧ r[k]! = d[j]! := by
  intro k k1 k2
  have hs : r.size = d.size := by simpa using h.1.symm
  have e1 : r.toList.take a = d.toList.take a := by
    apply List.ext_getElem?
    intro i
    by_cases hi : i < a
    · rw [List.getElem?_take_of_lt hi, List.getElem?_take_of_lt hi, get_list r i (by omega), get_list d i (by omega), ho i (.inl hi)]
    · rw [List.getElem?_eq_none (by simp; omega), List.getElem?_eq_none (by simp; omega)]
  have e2 : r.toList.drop b = d.toList.drop b := by
    apply List.ext_getElem?
    intro i
    rw [List.getElem?_drop, List.getElem?_drop]
    by_cases hi : b + i < d.size
    · rw [get_list r _ (by omega), get_list d _ hi, ho (b + i) (.inr (by omega))]
    · rw [List.getElem?_eq_none (by simp; omega), List.getElem?_eq_none (by simp; omega)]
  have hf := h.2 (key r[k]!)
  rw [split4 d.toList (a := a) (m := a) (b := b) (Nat.le_refl _) hab, split4 r.toList (a := a) (m := a) (b := b) (Nat.le_refl _) hab, e1, e2] at hf
  simp only [List.filter_append, Nat.sub_self, List.take_zero, List.filter_nil, List.nil_append] at hf
  have hf2 := List.append_cancel_right (List.append_cancel_left hf)
  have hx : r[k]! ∈ (r.toList.drop a).take (b - a) := by
    refine List.mem_of_getElem? (i := k - a) ?_
    rw [List.getElem?_take_of_lt (by omega), List.getElem?_drop, get_list r _ (by omega)]
    congr 1; exact idx_eq (by omega)
  have hx2 : r[k]! ∈ ((r.toList.drop a).take (b - a)).filter (fun x => decide (key x = key r[k]!)) := List.mem_filter.2 ⟨hx, by simp⟩
  rw [← hf2] at hx2
  obtain ⟨j, j1, j2, je⟩ := mem_get (List.mem_filter.1 hx2).1 (by omega)
  exact ⟨j, j1, by omega, je⟩
theorem insertion_done (d : Array α) (a b : Nat) (hab : a ≤ b) (hb : b ≤ d.size) : Done key d (insertionSort (fun x y => decide (key x < key y)) d a b) a b := by
  obtain ⟨h1, h2, h3⟩ := insertion_ok (key := key) d a b hab hb
  exact ⟨h1, h2, h3, mem_of h1 h3 hab hb⟩
end Go.Proofs.YtkmkgpigmldhnaaDoor.Srt

namespace Go.Proofs.YtkmkgpigmldhnaaDoor.P
open Go.RowKit Go.Shelf Go.Lib Go.Sort Go.Proofs.YtkmkgpigmldhnaaDoorW.PrintWords Go.Proofs.YtkmkgpigmldhnaaDoorW.PrintLast Go.Proofs.YtkmkgpigmldhnaaDoorW.PrintMore
open Go.Proofs.YtkmkgpigmldhnaaDoor.Srt (Swr Rot Done Cut CutAt Srtd Runs Half)
section
variable {α : Type} [Inhabited α]
set_option maxHeartbeats 4000000 in
set_option maxRecDepth 1000000 in
theorem swapRange_calls (k : Nat) (aE : ∀ w, (isAgg 60).run Tryd.prog w = .ok true w) (zE : ∀ w, (Go.sizeOf 60).run Tryd.prog w = .ok k w) (enc : α → List Value) (g : Nat) (cb : Array Value) (blk off cap : Nat) (a b n : Nat) (d0 d : Array α) (w0 w : World) (R : RowK enc k w0 blk off d0) (hs : d0.size = d.size) (S : SWK enc k w0 blk off d w) (hab : a + n ≤ b) (hb : b + n ≤ d.size) (hsz : d.size < 4611686018427387904) :
    Calls Tryd.prog 111 #[.slice (some ⟨blk, off, none⟩) d.size cap, .int .i64 a, .int .i64 b, .int .i64 n, .func (.func g) #[] cb] w fun e w' => e = .returned (.tuple #[]) ∧ ∃ r, Swr d r a b n ∧ SWK enc k w0 blk off r w' := by
  have mixed : Tryd.prog.follows .mixedOrders = true := by kernel_rfl
  have S0 : Aside (SWK enc k w0 blk off d w) := S
  clear S
  go_enter Tryd.func111, Tryd.ntmps111
  go_wp2
  go_loopg [10] n (fun kx s10 wr => ∃ (i : Nat) (dk : Array α), s10 = .int .i64 i ∧ i + kx = n ∧ dk.size = d.size ∧ Aside (SWK enc k w0 blk off dk wr) ∧ Aside (Swr d dk a b i))
  case atStart => exact ⟨0, d, rfl, by omega, rfl, S0, Swr.zero d a b⟩
  case round =>
    clear S0
    obtain ⟨i, dk, rfl, hik, hds, S1, HR⟩ := hrel
    cases gk with
    | zero =>
      obtain rfl : i = n := by omega
      go_wp2
      go_end0
      exact ⟨rfl, dk, HR.out, S1.out⟩
    | succ gk =>
      have hlt : (i : Int) < (n : Int) := by omega
      go_wp2_with fail
      have ea1 : ((a : Int) + (i : Int)).toNat = a + i := by omega
      have pa1 : (0 : Int) ≤ (a : Int) + (i : Int) := by omega
      have ba1 : (a : Int) + (i : Int) < (d.size : Int) := by omega
      have ra1 : IntKind.i64.wrap ((a : Int) + (i : Int)) = (a : Int) + (i : Int) := by rw [IntKind.wrap_i64]; omega
      have ec1 : ((b : Int) + (i : Int)).toNat = b + i := by omega
      have pc1 : (0 : Int) ≤ (b : Int) + (i : Int) := by omega
      have bc1 : (b : Int) + (i : Int) < (d.size : Int) := by omega
      have rc1 : IntKind.i64.wrap ((b : Int) + (i : Int)) = (b : Int) + (i : Int) := by rw [IntKind.wrap_i64]; omega
      have S2 : Aside (SWK enc k w0 blk off (swp dk (a + i) (b + i)) ((wr.drew.setCells blk (off + (a + i) * k) (enc dk[b + i]!)).setCells blk (off + (b + i) * k) (enc dk[a + i]!))) := S1.out.swapped R (a + i) (b + i) (by omega) (by omega)
      have l1a := S1.out.ld1 R (by omega) Tryd.prog (a + i) (by omega)
      have l1b := S1.out.ld1 R (by omega) Tryd.prog (b + i) (by omega)
      have s1a := S1.out.st1 R (by omega) Tryd.prog (a + i) (by omega) dk[b + i]!
      have s1b := S1.out.st2 R (by omega) Tryd.prog (a + i) (b + i) (by omega) (by omega) dk[b + i]! dk[a + i]!
      have n1a : (enc dk[a + i]!).length = k := R.hk _
      have n1b : (enc dk[b + i]!).length = k := R.hk _
      generalize enc dk[a + i]! = cI1 at S2 l1a s1b n1a
      generalize enc dk[b + i]! = cJ1 at S2 l1b s1a s1b n1b
      clear S1
      go_wp2_with fail
      go_big_region_o
      clear l1a l1b s1a s1b
      generalize (wr.drew.setCells blk (off + (a + i) * k) cJ1).setCells blk (off + (b + i) * k) cI1 = w2 at S2 ⊢
      go_wp2
      go_roundg gk
      case measure => omega
      case rel => exact ⟨i + 1, swp dk (a + i) (b + i), by go_num, by omega, by rw [Srt.swp_size]; exact hds, S2, HR.out.step (by omega) (by omega)⟩
set_option maxHeartbeats 4000000 in
set_option maxRecDepth 1000000 in
theorem rotate_calls (k : Nat) (aE : ∀ w, (isAgg 60).run Tryd.prog w = .ok true w) (zE : ∀ w, (Go.sizeOf 60).run Tryd.prog w = .ok k w) (enc : α → List Value) (g : Nat) (cb : Array Value) (blk off cap : Nat) (a m b : Nat) (d0 d : Array α) (w0 w : World) (R : RowK enc k w0 blk off d0) (hs : d0.size = d.size) (S : SWK enc k w0 blk off d w) (ham : a < m) (hmb : m < b) (hb : b ≤ d.size) (hsz : d.size < 4611686018427387904) :
    Calls Tryd.prog 106 #[.slice (some ⟨blk, off, none⟩) d.size cap, .int .i64 a, .int .i64 m, .int .i64 b, .func (.func g) #[] cb] w fun e w' => e = .returned (.tuple #[]) ∧ ∃ r, Rot d r a m b ∧ SWK enc k w0 blk off r w' := by
  have mixed : Tryd.prog.follows .mixedOrders = true := by kernel_rfl
  have S0 : Aside (SWK enc k w0 blk off d w) := S
  clear S
  have e1 : (m : Int) - (a : Int) = ((m - a : Nat) : Int) := by omega
  have e2 : (b : Int) - (m : Int) = ((b - m : Nat) : Int) := by omega
  have h0 : Aside (∀ r, Rot d r (m - (m - a)) m (m + (b - m)) → Rot d r a m b) := fun r h => by
    rwa [show m - (m - a) = a by omega, show m + (b - m) = b by omega] at h
  go_enter Tryd.func106, Tryd.ntmps106
  go_wp2
  go_loopg [10, 11] (b - a) (fun kx s10 s11 wr => ∃ (i j : Nat) (dk : Array α), s10 = .int .i64 i ∧ s11 = .int .i64 j ∧ i + j = kx ∧ 0 < i ∧ 0 < j ∧ i ≤ m ∧ m + j ≤ d.size ∧ dk.size = d.size ∧ Aside (SWK enc k w0 blk off dk wr) ∧ Aside (∀ r, Rot dk r (m - i) m (m + j) → Rot d r a m b))
  case atStart => exact ⟨m - a, b - m, d, by first | rfl | rw [e1], by first | rfl | rw [e2], by omega, by omega, by omega, by omega, by omega, rfl, S0, h0⟩
  case round =>
    clear S0 h0
    obtain ⟨i, j, dk, rfl, rfl, hij, hi, hj, him, hjm, hds, S1, HR⟩ := hrel
    have q1 : (m : Int) - (i : Int) = ((m - i : Nat) : Int) := by omega
    by_cases h1 : i = j
    · subst h1
      have hcall := swapRange_calls k aE zE enc g cb blk off cap (m - i) m i d0 dk w0 wr R (by omega) S1.out (by omega) (by omega) (by omega)
      rw [hds] at hcall
      go_wp2_with (go_at_call 111; (try rw [q1]); refine hcall.mono ?_; rintro e w1 ⟨rfl, r, hr, S2⟩)
      go_end0
      exact ⟨rfl, r, HR.out r (Rot.last hr him), S2⟩
    · by_cases h2 : j < i
      · have b1 : ((i : Int) != (j : Int)) = true := bne_iff_ne.2 (by omega)
        have b2 : decide ((i : Int) > (j : Int)) = true := decide_eq_true (by omega)
        have b3 : (j : Int) < (i : Int) := by omega
        have hcall := swapRange_calls k aE zE enc g cb blk off cap (m - i) m j d0 dk w0 wr R (by omega) S1.out (by omega) (by omega) (by omega)
        rw [hds] at hcall
        have q2 : (i : Int) - (j : Int) = ((i - j : Nat) : Int) := by omega
        go_wp2_with (go_at_call 111; (try rw [q1]); refine hcall.mono ?_; rintro e w1 ⟨rfl, r, hr, S2⟩; have S3 : Aside (SWK enc k w0 blk off r w1) := S2; clear S2)
        go_roundg i
        case measure => omega
        case rel => exact ⟨i - j, j, r, by first | rfl | rw [q2], rfl, by omega, by omega, hj, by omega, hjm, hr.1.trans hds, S3, fun r' h' => HR.out r' (Rot.left hr him h2 h')⟩
      · have b1 : ((i : Int) != (j : Int)) = true := bne_iff_ne.2 (by omega)
        have b2 : decide ((i : Int) > (j : Int)) = false := decide_eq_false (by omega)
        have b3 : ¬ (j : Int) < (i : Int) := by omega
        have q2 : (j : Int) - (i : Int) = ((j - i : Nat) : Int) := by omega
        have q3 : (m : Int) + (j : Int) - (i : Int) = ((m + j - i : Nat) : Int) := by omega
        have hcall := swapRange_calls k aE zE enc g cb blk off cap (m - i) (m + j - i) i d0 dk w0 wr R (by omega) S1.out (by omega) (by omega) (by omega)
        rw [hds] at hcall
        go_wp2_with (go_at_call 111; (try rw [q1]); (try rw [q3]); refine hcall.mono ?_; rintro e w1 ⟨rfl, r, hr, S2⟩; have S3 : Aside (SWK enc k w0 blk off r w1) := S2; clear S2)
        go_roundg j
        case measure => omega
        case rel => exact ⟨i, j - i, r, rfl, by first | rfl | rw [q2], by omega, hi, by omega, him, by omega, hr.1.trans hds, S3, fun r' h' => HR.out r' (Rot.right hr him (by omega) h')⟩
set_option pp.deepTerms true in
set_option pp.maxSteps 100000 in
set_option maxHeartbeats 16000000 in
set_option maxRecDepth 1000000 in
theorem symMerge_calls (k : Nat) (aE : ∀ w, (isAgg 60).run Tryd.prog w = .ok true w) (zE : ∀ w, (Go.sizeOf 60).run Tryd.prog w = .ok k w) (key : α → Int) (cf : α → α → Int) (hcf : ∀ x y, cf x y < 0 ↔ key x < key y) (enc : α → List Value) (g : Nat) (cb : Array Value) (blk off cap : Nat) (eg : ∀ args w, (callFunc g args).run Tryd.prog w = .ok (.enter g args) w) : ∀ (sz a m b : Nat) (d0 d : Array α) (w0 w : World) (hcmp : CmpLays Tryd.prog g cb enc k cf blk off d0.size w0) (R : RowK enc k w0 blk off d0) (hs : d0.size = d.size) (S : SWK enc k w0 blk off d w) (hn : b - a = sz) (ham : a < m) (hmb : m < b) (hb : b ≤ d.size) (hsz : d.size < 4611686018427387904) (hl : Srtd key d a m) (hr : Srtd key d m b),
    Calls Tryd.prog 98 #[.slice (some ⟨blk, off, none⟩) d.size cap, .int .i64 a, .int .i64 m, .int .i64 b, .func (.func g) #[] cb] w fun e w' => e = .returned (.tuple #[]) ∧ ∃ r, Done key d r a b ∧ SWK enc k w0 blk off r w' := by
  intro sz
  induction sz using Nat.strongRecOn with
  | _ sz ih =>
  intro a m b d0 d w0 w hcmp R hs S hn ham hmb hb hsz hl hr
  have mixed : Tryd.prog.follows .mixedOrders = true := by kernel_rfl
  have S0 : Aside (SWK enc k w0 blk off d w) := S
  have HC : Aside (CmpLays Tryd.prog g cb enc k cf blk off d0.size w0) := hcmp
  have HL : Aside (Srtd key d a m) := hl
  have HRR : Aside (Srtd key d m b) := hr
  have IH : Aside _ := ih
  have HCF : Aside (∀ x y, cf x y < 0 ↔ key x < key y) := hcf
  clear S hcmp hl hr ih hcf
  by_cases h1 : m = a + 1
  · have t1 : ((m : Int) - (a : Int) == 1) = true := beq_iff_eq.2 (by omega)
    have HM : Aside (m = a + 1) := h1
    clear IH h1
    go_enter Tryd.func98, Tryd.ntmps98
    go_wp2
    go_loopg [10, 11] (b - m) (fun kx s10 s11 wr => ∃ (i j : Nat), s10 = .int .i64 i ∧ s11 = .int .i64 j ∧ j - i ≤ kx ∧ m ≤ i ∧ i ≤ j ∧ j ≤ b ∧ Aside (SWK enc k w0 blk off d wr) ∧ Aside ((∀ q, m ≤ q → q < i → key d[q]! < key d[a]!) ∧ (∀ q, j ≤ q → q < b → key d[a]! ≤ key d[q]!)))
    case atStart => exact ⟨m, b, rfl, rfl, by omega, by omega, by omega, by omega, S0, ⟨fun q q1 q2 => by omega, fun q q1 q2 => by omega⟩⟩
    case round =>
      clear S0
      obtain ⟨i, j, rfl, rfl, hkx, hi, hij, hj, S1, HF⟩ := hrel
      by_cases hlt : i < j
      · have b1 : (i : Int) < (j : Int) := by omega
        by_cases hG : cf d[(i + j) / 2]! d[a]! < 0
        · have ea2 : (((i : Int) + (j : Int)) / 2).toNat = (i + j) / 2 := by omega
          have pa2 : (0 : Int) ≤ ((i : Int) + (j : Int)) / 2 := by omega
          have ba2 : ((i : Int) + (j : Int)) / 2 < (d.size : Int) := by omega
          have ra2 : IntKind.i64.wrap (((i : Int) + (j : Int)) / 2) = ((i : Int) + (j : Int)) / 2 := by rw [IntKind.wrap_i64]; omega
          have ec2 : ((a : Int)).toNat = a := by omega
          have pc2 : (0 : Int) ≤ (a : Int) := by omega
          have bc2 : (a : Int) < (d.size : Int) := by omega
          have rc2 : IntKind.i64.wrap ((a : Int)) = (a : Int) := by rw [IntKind.wrap_i64]; omega
          obtain ⟨x2, hx2⟩ : ∃ x, x = d[(i + j) / 2]! := ⟨_, rfl⟩
          obtain ⟨y2, hy2⟩ : ∃ x, x = d[a]! := ⟨_, rfl⟩
          have l2a := S1.out.ld R (by omega) Tryd.prog ((i + j) / 2) (by omega)
          have l2b := S1.out.ld R (by omega) Tryd.prog (a) (by omega)
          rw [← hx2] at l2a
          rw [← hy2] at l2b
          have hc2 := S1.out.cmp HC.out (by omega) x2 y2
          have hv2 : cf x2 y2 < 0 := by rw [hx2, hy2]; exact hG
          have hd2 : decide (cf x2 y2 < 0) = true := decide_eq_true hv2
          clear hx2 hy2
          have HG : Aside (cf d[(i + j) / 2]! d[a]! < 0) := hG
          clear hG
          go_wp2_with fail
          go_quiet_grown (first | (go_at_fn g; refine Calls.grown_of (hc2 _ _)))
          have S2 : Aside (SWK enc k w0 blk off d (grow (wr.drewN nq) osq)) := S1.out.grown nq osq
          clear l2a l2b hc2 S1
          generalize grow (wr.drewN nq) osq = w2 at S2 ⊢
          clear nq osq
          go_wp2
          go_roundg (j - ((i + j) / 2 + 1))
          case measure => omega
          case rel => exact ⟨(i + j) / 2 + 1, j, by (first | rfl | (congr 1; omega)), rfl, Nat.le_refl _, by omega, by omega, hj, S2, ⟨Srt.find_lt HRR.out (by omega) (by omega) ((HCF.out _ _).1 HG.out), HF.out.2⟩⟩
        · have ea3 : (((i : Int) + (j : Int)) / 2).toNat = (i + j) / 2 := by omega
          have pa3 : (0 : Int) ≤ ((i : Int) + (j : Int)) / 2 := by omega
          have ba3 : ((i : Int) + (j : Int)) / 2 < (d.size : Int) := by omega
          have ra3 : IntKind.i64.wrap (((i : Int) + (j : Int)) / 2) = ((i : Int) + (j : Int)) / 2 := by rw [IntKind.wrap_i64]; omega
          have ec3 : ((a : Int)).toNat = a := by omega
          have pc3 : (0 : Int) ≤ (a : Int) := by omega
          have bc3 : (a : Int) < (d.size : Int) := by omega
          have rc3 : IntKind.i64.wrap ((a : Int)) = (a : Int) := by rw [IntKind.wrap_i64]; omega
          obtain ⟨x3, hx3⟩ : ∃ x, x = d[(i + j) / 2]! := ⟨_, rfl⟩
          obtain ⟨y3, hy3⟩ : ∃ x, x = d[a]! := ⟨_, rfl⟩
          have l3a := S1.out.ld R (by omega) Tryd.prog ((i + j) / 2) (by omega)
          have l3b := S1.out.ld R (by omega) Tryd.prog (a) (by omega)
          rw [← hx3] at l3a
          rw [← hy3] at l3b
          have hc3 := S1.out.cmp HC.out (by omega) x3 y3
          have hv3 : ¬ cf x3 y3 < 0 := by rw [hx3, hy3]; exact hG
          have hd3 : decide (cf x3 y3 < 0) = false := decide_eq_false hv3
          clear hx3 hy3
          have HG : Aside (¬ cf d[(i + j) / 2]! d[a]! < 0) := hG
          clear hG
          go_wp2_with fail
          go_quiet_grown (first | (go_at_fn g; refine Calls.grown_of (hc3 _ _)))
          have S2 : Aside (SWK enc k w0 blk off d (grow (wr.drewN nq) osq)) := S1.out.grown nq osq
          clear l3a l3b hc3 S1
          generalize grow (wr.drewN nq) osq = w2 at S2 ⊢
          clear nq osq
          go_wp2
          go_roundg ((i + j) / 2 - i)
          case measure => omega
          case rel => exact ⟨i, (i + j) / 2, rfl, by (first | rfl | (congr 1; omega)), Nat.le_refl _, by omega, by omega, by omega, S2, ⟨HF.out.1, Srt.find_ge HRR.out (by omega) (by have h_ := HG.out; have e_ := HCF.out d[(i + j) / 2]! d[a]!; omega)⟩⟩
      · obtain rfl : i = j := by omega
        have b1 : ¬ (i : Int) < (i : Int) := by omega
        go_wp2
        go_loopg [13] (i - 1 - a) (fun kx s13 wr2 => ∃ (kk : Nat) (dk : Array α), s13 = .int .i64 kk ∧ kx + kk + 1 = i ∧ a ≤ kk ∧ dk.size = d.size ∧ Aside (SWK enc k w0 blk off dk wr2) ∧ Aside (Rot d dk a m (kk + 1)))
        case atStart => exact ⟨a, d, rfl, by have := HM.out; omega, Nat.le_refl _, rfl, S1, Rot.none (by omega) (by have := HM.out; omega) (.inr HM.out)⟩
        case round =>
          clear S1
          obtain ⟨kk, dk, rfl, hki, hak, hds, S1, HR⟩ := hrel
          cases gk with
          | zero =>
            have b2 : ¬ (kk : Int) < (i : Int) - 1 := by omega
            have HK : Aside (i = kk + 1) := (by omega : i = kk + 1)
            clear hki
            go_wp2
            (try simp only [Exit.inBlock, Exit.then]); refine bodyPost_ret (results_none rfl _ _ _) rfl ?_
            have hm := HM.out
            subst hm
            obtain rfl := HK.out
            exact ⟨rfl, dk, Srt.one_left HRR.out hi hj hb HF.out.1 HF.out.2 HR.out, S1.out⟩
          | succ gk =>
            have b2 : (kk : Int) < (i : Int) - 1 := by omega
            go_wp2_with fail
            have ea4 : ((kk : Int)).toNat = kk := by omega
            have pa4 : (0 : Int) ≤ (kk : Int) := by omega
            have ba4 : (kk : Int) < (d.size : Int) := by omega
            have ra4 : IntKind.i64.wrap ((kk : Int)) = (kk : Int) := by rw [IntKind.wrap_i64]; omega
            have ec4 : ((kk : Int) + 1).toNat = kk + 1 := by omega
            have pc4 : (0 : Int) ≤ (kk : Int) + 1 := by omega
            have bc4 : (kk : Int) + 1 < (d.size : Int) := by omega
            have rc4 : IntKind.i64.wrap ((kk : Int) + 1) = (kk : Int) + 1 := by rw [IntKind.wrap_i64]; omega
            have S2 : Aside (SWK enc k w0 blk off (swp dk (kk) (kk + 1)) ((wr.drew.setCells blk (off + (kk) * k) (enc dk[kk + 1]!)).setCells blk (off + (kk + 1) * k) (enc dk[kk]!))) := S1.out.swapped R (kk) (kk + 1) (by omega) (by omega)
            have l4a := S1.out.ld1 R (by omega) Tryd.prog (kk) (by omega)
            have l4b := S1.out.ld1 R (by omega) Tryd.prog (kk + 1) (by omega)
            have s4a := S1.out.st1 R (by omega) Tryd.prog (kk) (by omega) dk[kk + 1]!
            have s4b := S1.out.st2 R (by omega) Tryd.prog (kk) (kk + 1) (by omega) (by omega) dk[kk + 1]! dk[kk]!
            have n4a : (enc dk[kk]!).length = k := R.hk _
            have n4b : (enc dk[kk + 1]!).length = k := R.hk _
            generalize enc dk[kk]! = cI4 at S2 l4a s4b n4a
            generalize enc dk[kk + 1]! = cJ4 at S2 l4b s4a s4b n4b
            clear S1
            go_wp2_with fail
            go_big_region_o
            clear l4a l4b s4a s4b
            generalize (wr.drew.setCells blk (off + (kk) * k) cJ4).setCells blk (off + (kk + 1) * k) cI4 = w2 at S2 ⊢
            go_wp2
            go_roundg gk
            case measure => omega
            case rel => exact ⟨kk + 1, swp dk kk (kk + 1), by go_num, by omega, by omega, by rw [Srt.swp_size]; exact hds, S2, (by have hr := HR.out; rw [HM.out] at hr ⊢; exact hr.up hak (by omega))⟩
  by_cases h2 : b = m + 1
  · have t1 : ((m : Int) - (a : Int) == 1) = false := beq_eq_false_iff_ne.2 (by omega)
    have t2 : ((b : Int) - (m : Int) == 1) = true := beq_iff_eq.2 (by omega)
    have HB : Aside (b = m + 1) := h2
    clear IH HRR h2 h1
    go_enter Tryd.func98, Tryd.ntmps98
    go_wp2
    go_loopg [14, 15] (m - a) (fun kx s14 s15 wr => ∃ (i j : Nat), s14 = .int .i64 i ∧ s15 = .int .i64 j ∧ j - i ≤ kx ∧ a ≤ i ∧ i ≤ j ∧ j ≤ m ∧ Aside (SWK enc k w0 blk off d wr) ∧ Aside ((∀ q, a ≤ q → q < i → key d[q]! ≤ key d[m]!) ∧ (∀ q, j ≤ q → q < m → key d[m]! < key d[q]!)))
    case atStart => exact ⟨a, m, rfl, rfl, by omega, by omega, by omega, by omega, S0, ⟨fun q q1 q2 => by omega, fun q q1 q2 => by omega⟩⟩
    case round =>
      clear S0
      obtain ⟨i, j, rfl, rfl, hkx, hi, hij, hj, S1, HF⟩ := hrel
      by_cases hlt : i < j
      · have b1 : (i : Int) < (j : Int) := by omega
        by_cases hG : cf d[m]! d[(i + j) / 2]! < 0
        · have ea5 : ((m : Int)).toNat = m := by omega
          have pa5 : (0 : Int) ≤ (m : Int) := by omega
          have ba5 : (m : Int) < (d.size : Int) := by omega
          have ra5 : IntKind.i64.wrap ((m : Int)) = (m : Int) := by rw [IntKind.wrap_i64]; omega
          have ec5 : (((i : Int) + (j : Int)) / 2).toNat = (i + j) / 2 := by omega
          have pc5 : (0 : Int) ≤ ((i : Int) + (j : Int)) / 2 := by omega
          have bc5 : ((i : Int) + (j : Int)) / 2 < (d.size : Int) := by omega
          have rc5 : IntKind.i64.wrap (((i : Int) + (j : Int)) / 2) = ((i : Int) + (j : Int)) / 2 := by rw [IntKind.wrap_i64]; omega
          obtain ⟨x5, hx5⟩ : ∃ x, x = d[m]! := ⟨_, rfl⟩
          obtain ⟨y5, hy5⟩ : ∃ x, x = d[(i + j) / 2]! := ⟨_, rfl⟩
          have l5a := S1.out.ld R (by omega) Tryd.prog (m) (by omega)
          have l5b := S1.out.ld R (by omega) Tryd.prog ((i + j) / 2) (by omega)
          rw [← hx5] at l5a
          rw [← hy5] at l5b
          have hc5 := S1.out.cmp HC.out (by omega) x5 y5
          have hv5 : cf x5 y5 < 0 := by rw [hx5, hy5]; exact hG
          have hd5 : decide (cf x5 y5 < 0) = true := decide_eq_true hv5
          clear hx5 hy5
          have HG : Aside (cf d[m]! d[(i + j) / 2]! < 0) := hG
          clear hG
          go_wp2_with fail
          go_quiet_grown (first | (go_at_fn g; refine Calls.grown_of (hc5 _ _)))
          have S2 : Aside (SWK enc k w0 blk off d (grow (wr.drewN nq) osq)) := S1.out.grown nq osq
          clear l5a l5b hc5 S1
          generalize grow (wr.drewN nq) osq = w2 at S2 ⊢
          clear nq osq
          go_wp2
          go_roundg ((i + j) / 2 - i)
          case measure => omega
          case rel => exact ⟨i, (i + j) / 2, rfl, by (first | rfl | (congr 1; omega)), Nat.le_refl _, by omega, by omega, by omega, S2, ⟨HF.out.1, Srt.find_gt HL.out (by omega) ((HCF.out _ _).1 HG.out)⟩⟩
        · have ea6 : ((m : Int)).toNat = m := by omega
          have pa6 : (0 : Int) ≤ (m : Int) := by omega
          have ba6 : (m : Int) < (d.size : Int) := by omega
          have ra6 : IntKind.i64.wrap ((m : Int)) = (m : Int) := by rw [IntKind.wrap_i64]; omega
          have ec6 : (((i : Int) + (j : Int)) / 2).toNat = (i + j) / 2 := by omega
          have pc6 : (0 : Int) ≤ ((i : Int) + (j : Int)) / 2 := by omega
          have bc6 : ((i : Int) + (j : Int)) / 2 < (d.size : Int) := by omega
          have rc6 : IntKind.i64.wrap (((i : Int) + (j : Int)) / 2) = ((i : Int) + (j : Int)) / 2 := by rw [IntKind.wrap_i64]; omega
          obtain ⟨x6, hx6⟩ : ∃ x, x = d[m]! := ⟨_, rfl⟩
          obtain ⟨y6, hy6⟩ : ∃ x, x = d[(i + j) / 2]! := ⟨_, rfl⟩
          have l6a := S1.out.ld R (by omega) Tryd.prog (m) (by omega)
          have l6b := S1.out.ld R (by omega) Tryd.prog ((i + j) / 2) (by omega)
          rw [← hx6] at l6a
          rw [← hy6] at l6b
          have hc6 := S1.out.cmp HC.out (by omega) x6 y6
          have hv6 : ¬ cf x6 y6 < 0 := by rw [hx6, hy6]; exact hG
          have hd6 : decide (cf x6 y6 < 0) = false := decide_eq_false hv6
          clear hx6 hy6
          have HG : Aside (¬ cf d[m]! d[(i + j) / 2]! < 0) := hG
          clear hG
          go_wp2_with fail
          go_quiet_grown (first | (go_at_fn g; refine Calls.grown_of (hc6 _ _)))
          have S2 : Aside (SWK enc k w0 blk off d (grow (wr.drewN nq) osq)) := S1.out.grown nq osq
          clear l6a l6b hc6 S1
          generalize grow (wr.drewN nq) osq = w2 at S2 ⊢
          clear nq osq
          go_wp2
          go_roundg (j - ((i + j) / 2 + 1))
          case measure => omega
          case rel => exact ⟨(i + j) / 2 + 1, j, by (first | rfl | (congr 1; omega)), rfl, Nat.le_refl _, by omega, by omega, hj, S2, ⟨Srt.find_le HL.out (by omega) (by omega) (by have h_ := HG.out; have e_ := HCF.out d[m]! d[(i + j) / 2]!; omega), HF.out.2⟩⟩
      · obtain rfl : i = j := by omega
        have b1 : ¬ (i : Int) < (i : Int) := by omega
        go_wp2
        go_loopg [17] (m - i) (fun kx s17 wr2 => ∃ (kk : Nat) (dk : Array α), s17 = .int .i64 kk ∧ i + kx = kk ∧ kk ≤ m ∧ dk.size = d.size ∧ Aside (SWK enc k w0 blk off dk wr2) ∧ Aside (Rot d dk kk m b))
        case atStart => exact ⟨m, d, rfl, by omega, Nat.le_refl _, rfl, S1, Rot.none (Nat.le_refl _) (by omega) (.inl rfl)⟩
        case round =>
          clear S1
          obtain ⟨kk, dk, rfl, hki, hkm, hds, S1, HR⟩ := hrel
          cases gk with
          | zero =>
            have HK : Aside (kk = i) := (by omega : kk = i)
            have b2 : ¬ (i : Int) < (kk : Int) := by omega
            clear hki
            go_wp2
            (try simp only [Exit.inBlock, Exit.then]); refine bodyPost_ret (results_none rfl _ _ _) rfl ?_
            obtain rfl := HK.out
            have hb2 := HB.out
            subst hb2
            exact ⟨rfl, dk, Srt.one_right HL.out hi hj (by omega) HF.out.1 HF.out.2 HR.out, S1.out⟩
          | succ gk =>
            obtain ⟨kp, rfl⟩ : ∃ kp, kk = kp + 1 := ⟨kk - 1, by omega⟩
            have b2 : (i : Int) < (kp : Int) + 1 := by omega
            go_wp2_with fail
            have ea7 : ((kp : Int) + 1).toNat = kp + 1 := by omega
            have pa7 : (0 : Int) ≤ (kp : Int) + 1 := by omega
            have ba7 : (kp : Int) + 1 < (d.size : Int) := by omega
            have ra7 : IntKind.i64.wrap ((kp : Int) + 1) = (kp : Int) + 1 := by rw [IntKind.wrap_i64]; omega
            have ec7 : ((kp : Int)).toNat = kp := by omega
            have pc7 : (0 : Int) ≤ (kp : Int) := by omega
            have bc7 : (kp : Int) < (d.size : Int) := by omega
            have rc7 : IntKind.i64.wrap ((kp : Int)) = (kp : Int) := by rw [IntKind.wrap_i64]; omega
            have S2 : Aside (SWK enc k w0 blk off (swp dk (kp + 1) (kp)) ((wr.drew.setCells blk (off + (kp + 1) * k) (enc dk[kp]!)).setCells blk (off + (kp) * k) (enc dk[kp + 1]!))) := S1.out.swapped R (kp + 1) (kp) (by omega) (by omega)
            have l7a := S1.out.ld1 R (by omega) Tryd.prog (kp + 1) (by omega)
            have l7b := S1.out.ld1 R (by omega) Tryd.prog (kp) (by omega)
            have s7a := S1.out.st1 R (by omega) Tryd.prog (kp + 1) (by omega) dk[kp]!
            have s7b := S1.out.st2 R (by omega) Tryd.prog (kp + 1) (kp) (by omega) (by omega) dk[kp]! dk[kp + 1]!
            have n7a : (enc dk[kp + 1]!).length = k := R.hk _
            have n7b : (enc dk[kp]!).length = k := R.hk _
            generalize enc dk[kp + 1]! = cI7 at S2 l7a s7b n7a
            generalize enc dk[kp]! = cJ7 at S2 l7b s7a s7b n7b
            clear S1
            go_wp2_with fail
            go_big_region_o
            clear l7a l7b s7a s7b
            generalize (wr.drew.setCells blk (off + (kp + 1) * k) cJ7).setCells blk (off + (kp) * k) cI7 = w2 at S2 ⊢
            go_wp2
            go_roundg gk
            case measure => omega
            case rel => exact ⟨kp, swp dk (kp + 1) kp, by first | rfl | go_num | (congr 1; omega), by omega, by omega, by rw [Srt.swp_size]; exact hds, S2, (by have hr := HR.out; rw [HB.out] at hr ⊢; exact hr.down (by omega) (by omega))⟩
  have t1 : ((m : Int) - (a : Int) == 1) = false := beq_eq_false_iff_ne.2 (by omega)
  have t2 : ((b : Int) - (m : Int) == 1) = false := beq_eq_false_iff_ne.2 (by omega)
  obtain ⟨mid, hmid⟩ : ∃ mid, mid = (a + b) / 2 := ⟨_, rfl⟩
  obtain ⟨nn, hnn⟩ : ∃ nn, nn = mid + m := ⟨_, rfl⟩
  obtain ⟨p, hp⟩ : ∃ p, p + 1 = nn := ⟨nn - 1, by omega⟩
  obtain ⟨s0, r0, hcase⟩ : ∃ s0 r0, (mid < m ∧ s0 + b = nn ∧ r0 = mid) ∨ (m ≤ mid ∧ s0 = a ∧ r0 = m) := by
    by_cases c : mid < m
    · exact ⟨nn - b, mid, .inl ⟨c, by omega, rfl⟩⟩
    · exact ⟨a, m, .inr ⟨by omega, rfl, rfl⟩⟩
  have hlo : ∀ q, s0 ≤ q → q < r0 → m ≤ p - q ∧ p - q < b ∧ q ≤ p := fun q q1 q2 => by omega
  have qm : ((a : Int) + (b : Int)) / 2 = (mid : Int) := by omega
  have qn : (mid : Int) + (m : Int) = (nn : Int) := by omega
  have qp : (nn : Int) - 1 = (p : Int) := by omega
  have HX : Aside (mid = (a + b) / 2 ∧ nn = mid + m ∧ p + 1 = nn ∧ ((mid < m ∧ s0 + b = nn ∧ r0 = mid) ∨ (m ≤ mid ∧ s0 = a ∧ r0 = m))) := ⟨hmid, hnn, hp, hcase⟩
  have HLO : Aside (∀ q, s0 ≤ q → q < r0 → m ≤ p - q ∧ p - q < b ∧ q ≤ p) := hlo
  have ha0 : a ≤ s0 := by omega
  have hm0 : r0 ≤ m := by omega
  have hs0 : s0 ≤ r0 := by omega
  have hr0 : r0 ≤ mid := by omega
  have hpb : p < 2 * b := by omega
  have hma : a ≤ mid := by omega
  have hmbb : mid < b := by omega
  clear hlo
  have hs' := hs
  by_cases hbr : mid < m
  · have t3 : (mid : Int) < (m : Int) := by omega
    have q0 : (nn : Int) - (b : Int) = (s0 : Int) := by omega
    have q1 : r0 = mid := by omega
    have HQ : Aside (r0 = mid) := q1
    clear hmid hnn hp hcase q1
    go_enter Tryd.func98, Tryd.ntmps98
    go_wp2
    go_loopg [20, 21] (r0 - s0) (fun kx s20 s21 wr => ∃ (s r : Nat), s20 = .int .i64 s ∧ s21 = .int .i64 r ∧ r - s ≤ kx ∧ s0 ≤ s ∧ s ≤ r ∧ r ≤ r0 ∧ Aside (SWK enc k w0 blk off d wr) ∧ Aside ((∀ q, s0 ≤ q → q < s → key d[q]! ≤ key d[p - q]!) ∧ (∀ q, r ≤ q → q < r0 → key d[p - q]! < key d[q]!)))
    case atStart => exact ⟨s0, r0, by (first | rfl | rw [HQ.out.1]), by (first | rfl | rw [HQ.out] | rw [HQ.out.2]), by omega, by omega, by omega, by omega, S0, ⟨fun q q1 q2 => by omega, fun q q1 q2 => by omega⟩⟩
    case round =>
      clear S0
      obtain ⟨s, r, rfl, rfl, hkx, hs, hsr, hr, S1, HF⟩ := hrel
      by_cases hlt : s < r
      · have b1 : (s : Int) < (r : Int) := by omega
        obtain ⟨c, hc⟩ : ∃ c, c = (s + r) / 2 := ⟨_, rfl⟩
        have hlc := HLO.out c (by omega) (by omega)
        obtain ⟨pc, hpc⟩ : ∃ pc, pc = p - c := ⟨_, rfl⟩
        have qc : ((s : Int) + (r : Int)) / 2 = (c : Int) := by omega
        have qpc : (p : Int) - (c : Int) = (pc : Int) := by omega
        have hc1 : s ≤ c := by omega
        have hc2 : c < r := by omega
        have hpc1 : m ≤ pc := by omega
        have hpc2 : pc < b := by omega
        have HPC : Aside (pc = p - c) := hpc
        clear hc hpc hlc
        by_cases hG : cf d[pc]! d[c]! < 0
        · have ea8 : ((pc : Int)).toNat = pc := by omega
          have pa8 : (0 : Int) ≤ (pc : Int) := by omega
          have ba8 : (pc : Int) < (d.size : Int) := by omega
          have ra8 : IntKind.i64.wrap ((pc : Int)) = (pc : Int) := by rw [IntKind.wrap_i64]; omega
          have ec8 : ((c : Int)).toNat = c := by omega
          have pc8 : (0 : Int) ≤ (c : Int) := by omega
          have bc8 : (c : Int) < (d.size : Int) := by omega
          have rc8 : IntKind.i64.wrap ((c : Int)) = (c : Int) := by rw [IntKind.wrap_i64]; omega
          obtain ⟨x8, hx8⟩ : ∃ x, x = d[pc]! := ⟨_, rfl⟩
          obtain ⟨y8, hy8⟩ : ∃ x, x = d[c]! := ⟨_, rfl⟩
          have l8a := S1.out.ld R (by omega) Tryd.prog (pc) (by omega)
          have l8b := S1.out.ld R (by omega) Tryd.prog (c) (by omega)
          rw [← hx8] at l8a
          rw [← hy8] at l8b
          have hc8 := S1.out.cmp HC.out (by omega) x8 y8
          have hv8 : cf x8 y8 < 0 := by rw [hx8, hy8]; exact hG
          have hd8 : decide (cf x8 y8 < 0) = true := decide_eq_true hv8
          clear hx8 hy8
          have HG : Aside (cf d[pc]! d[c]! < 0) := hG
          clear hG
          go_wp2_with fail
          go_quiet_grown (first | (go_at_fn g; refine Calls.grown_of (hc8 _ _)))
          have S2 : Aside (SWK enc k w0 blk off d (grow (wr.drewN nq) osq)) := S1.out.grown nq osq
          clear l8a l8b hc8 S1
          generalize grow (wr.drewN nq) osq = w2 at S2 ⊢
          clear nq osq
          go_wp2
          go_roundg (c - s)
          case measure => omega
          case rel => exact ⟨s, c, rfl, by (first | rfl | (congr 1; omega)), Nat.le_refl _, by omega, by omega, by omega, S2, ⟨HF.out.1, Srt.cut_gt HL.out HRR.out ha0 hm0 HLO.out (by omega) (by omega) (HPC.out ▸ (HCF.out _ _).1 HG.out)⟩⟩
        · have ea9 : ((pc : Int)).toNat = pc := by omega
          have pa9 : (0 : Int) ≤ (pc : Int) := by omega
          have ba9 : (pc : Int) < (d.size : Int) := by omega
          have ra9 : IntKind.i64.wrap ((pc : Int)) = (pc : Int) := by rw [IntKind.wrap_i64]; omega
          have ec9 : ((c : Int)).toNat = c := by omega
          have pc9 : (0 : Int) ≤ (c : Int) := by omega
          have bc9 : (c : Int) < (d.size : Int) := by omega
          have rc9 : IntKind.i64.wrap ((c : Int)) = (c : Int) := by rw [IntKind.wrap_i64]; omega
          obtain ⟨x9, hx9⟩ : ∃ x, x = d[pc]! := ⟨_, rfl⟩
          obtain ⟨y9, hy9⟩ : ∃ x, x = d[c]! := ⟨_, rfl⟩
          have l9a := S1.out.ld R (by omega) Tryd.prog (pc) (by omega)
          have l9b := S1.out.ld R (by omega) Tryd.prog (c) (by omega)
          rw [← hx9] at l9a
          rw [← hy9] at l9b
          have hc9 := S1.out.cmp HC.out (by omega) x9 y9
          have hv9 : ¬ cf x9 y9 < 0 := by rw [hx9, hy9]; exact hG
          have hd9 : decide (cf x9 y9 < 0) = false := decide_eq_false hv9
          clear hx9 hy9
          have HG : Aside (¬ cf d[pc]! d[c]! < 0) := hG
          clear hG
          go_wp2_with fail
          go_quiet_grown (first | (go_at_fn g; refine Calls.grown_of (hc9 _ _)))
          have S2 : Aside (SWK enc k w0 blk off d (grow (wr.drewN nq) osq)) := S1.out.grown nq osq
          clear l9a l9b hc9 S1
          generalize grow (wr.drewN nq) osq = w2 at S2 ⊢
          clear nq osq
          go_wp2
          go_roundg (r - (c + 1))
          case measure => omega
          case rel => exact ⟨c + 1, r, by (first | rfl | (congr 1; omega)), rfl, Nat.le_refl _, by omega, by omega, by omega, S2, ⟨Srt.cut_le HL.out HRR.out ha0 hm0 HLO.out (by omega) (by omega) (by have h_ := HG.out; have e_ := HCF.out d[pc]! d[c]!; rw [HPC.out] at h_ e_; omega), HF.out.2⟩⟩
      · obtain rfl : s = r := by omega
        have b1 : ¬ (s : Int) < (s : Int) := by omega
        obtain ⟨hmid, hnn, hp, hcase⟩ := HX.out
        have hcut := Srt.cut_of HL.out HRR.out hmb hmid hnn hp hcase hs hr (fun q q1 q2 => HF.out.1 q q1 q2) (fun q q1 q2 => HF.out.2 q q1 q2)
        obtain ⟨e, he⟩ : ∃ e, e = nn - s := ⟨_, rfl⟩
        rw [← he] at hcut
        obtain ⟨hC, k1, k2, k3, k4, k5⟩ := hcut
        have HCU : Aside (Cut key d a m b s e) := hC
        clear hC HF
        have HE : Aside (e = nn - s) := he
        have qe : (nn : Int) - (s : Int) = ((e : Nat) : Int) := by omega
        have K5 : Aside (mid = s + (e - m)) := k5
        clear hmid hnn hp hcase he k5
        by_cases c1 : s < m ∧ m < e
        · have f1 : (s : Int) < (m : Int) := by omega
          have f2 : (m : Int) < (e : Int) := by omega
          have hcall0 := rotate_calls k aE zE enc g cb blk off cap s m e d0 d w0 _ R hs' S1.out (by omega) (by omega) (by omega) hsz
          go_wp2_with (go_at_call 106; (try rw [qe]); refine hcall0.mono ?_; rintro e_ w3 ⟨rfl, r, hrot, S3⟩; refine Hold.out ?_)
          refine ⟨?_⟩
          have HZ : Aside (Srt.CutAt key d r a m b s e mid) := ⟨hrot, HCU.out, k1, k2, k3, k4, hb, K5.out⟩
          have hzr := hrot.1
          have S7 : Aside (SWK enc k w0 blk off r w3) := S3
          clear hrot S3 hcall0 S1
          by_cases c2 : a < s ∧ s < mid
          · have f3 : (a : Int) < (s : Int) := by omega
            have f4 : (s : Int) < (mid : Int) := by omega
            have hcall1 := IH.out (mid - a) (by omega) a s mid d0 r w0 _ HC.out R (by omega) S7.out rfl (by omega) (by omega) (by omega) (by omega) (Srt.cut_ss HZ.out) (Srt.cut_sm HZ.out)
            rw [show Array.size r = d.size by omega] at hcall1
            go_wp2_with (go_at_call 98; refine hcall1.mono ?_; rintro e_ w4 ⟨rfl, r1, hd1, S4⟩; refine Hold.out ?_)
            refine ⟨?_⟩
            have HD1 : Aside (Done key r r1 a mid) := hd1
            have hz1 := hd1.size
            have S6 : Aside (SWK enc k w0 blk off r1 w4) := S4
            clear hd1 S4 hcall1
            by_cases c3 : mid < e ∧ e < b
            · have f5 : (mid : Int) < (e : Int) := by omega
              have f6 : (e : Int) < (b : Int) := by omega
              have hcall2 := IH.out (b - mid) (by omega) mid e b d0 r1 w0 _ HC.out R (by omega) S6.out rfl (by omega) (by omega) (by omega) (by omega) (Srt.right_l HZ.out HD1.out) (Srt.right_r HZ.out HD1.out)
              rw [show Array.size r1 = d.size by omega] at hcall2
              go_wp2_with (go_at_call 98; (try rw [qe]); refine hcall2.mono ?_; rintro e_ w5 ⟨rfl, r2, hd2, S5⟩)
              go_end0
              exact ⟨rfl, r2, Srt.cut_done HZ.out HD1.out hd2, S5⟩
            · have hd2 := Srt.right_none HZ.out HD1.out c3
              by_cases c4 : mid < e
              · have f5 : (mid : Int) < (e : Int) := by omega
                have f6 : ¬ (e : Int) < (b : Int) := by omega
                have HD2 : Aside (Done key r1 r1 mid b) := hd2
                clear hd2
                go_wp2_with fail
                go_end0
                exact ⟨rfl, r1, Srt.cut_done HZ.out HD1.out HD2.out, S6.out⟩
              · have f5 : ¬ (mid : Int) < (e : Int) := by omega
                have HD2 : Aside (Done key r1 r1 mid b) := hd2
                clear hd2
                go_wp2_with fail
                go_end0
                exact ⟨rfl, r1, Srt.cut_done HZ.out HD1.out HD2.out, S6.out⟩
          · have hd1 := Srt.left_none HZ.out c2
            have HD1 : Aside (Done key r r a mid) := hd1
            clear hd1
            by_cases c5 : a < s
            · have f3 : (a : Int) < (s : Int) := by omega
              have f4 : ¬ (s : Int) < (mid : Int) := by omega
              by_cases c3 : mid < e ∧ e < b
              · have f5 : (mid : Int) < (e : Int) := by omega
                have f6 : (e : Int) < (b : Int) := by omega
                have hcall2 := IH.out (b - mid) (by omega) mid e b d0 r w0 _ HC.out R (by omega) S7.out rfl (by omega) (by omega) (by omega) (by omega) (Srt.right_l HZ.out HD1.out) (Srt.right_r HZ.out HD1.out)
                rw [show Array.size r = d.size by omega] at hcall2
                go_wp2_with (go_at_call 98; (try rw [qe]); refine hcall2.mono ?_; rintro e_ w5 ⟨rfl, r2, hd2, S5⟩)
                go_end0
                exact ⟨rfl, r2, Srt.cut_done HZ.out HD1.out hd2, S5⟩
              · have hd2 := Srt.right_none HZ.out HD1.out c3
                by_cases c4 : mid < e
                · have f5 : (mid : Int) < (e : Int) := by omega
                  have f6 : ¬ (e : Int) < (b : Int) := by omega
                  have HD2 : Aside (Done key r r mid b) := hd2
                  clear hd2
                  go_wp2_with fail
                  go_end0
                  exact ⟨rfl, r, Srt.cut_done HZ.out HD1.out HD2.out, S7.out⟩
                · have f5 : ¬ (mid : Int) < (e : Int) := by omega
                  have HD2 : Aside (Done key r r mid b) := hd2
                  clear hd2
                  go_wp2_with fail
                  go_end0
                  exact ⟨rfl, r, Srt.cut_done HZ.out HD1.out HD2.out, S7.out⟩
            · have f3 : ¬ (a : Int) < (s : Int) := by omega
              by_cases c3 : mid < e ∧ e < b
              · have f5 : (mid : Int) < (e : Int) := by omega
                have f6 : (e : Int) < (b : Int) := by omega
                have hcall2 := IH.out (b - mid) (by omega) mid e b d0 r w0 _ HC.out R (by omega) S7.out rfl (by omega) (by omega) (by omega) (by omega) (Srt.right_l HZ.out HD1.out) (Srt.right_r HZ.out HD1.out)
                rw [show Array.size r = d.size by omega] at hcall2
                go_wp2_with (go_at_call 98; (try rw [qe]); refine hcall2.mono ?_; rintro e_ w5 ⟨rfl, r2, hd2, S5⟩)
                go_end0
                exact ⟨rfl, r2, Srt.cut_done HZ.out HD1.out hd2, S5⟩
              · have hd2 := Srt.right_none HZ.out HD1.out c3
                by_cases c4 : mid < e
                · have f5 : (mid : Int) < (e : Int) := by omega
                  have f6 : ¬ (e : Int) < (b : Int) := by omega
                  have HD2 : Aside (Done key r r mid b) := hd2
                  clear hd2
                  go_wp2_with fail
                  go_end0
                  exact ⟨rfl, r, Srt.cut_done HZ.out HD1.out HD2.out, S7.out⟩
                · have f5 : ¬ (mid : Int) < (e : Int) := by omega
                  have HD2 : Aside (Done key r r mid b) := hd2
                  clear hd2
                  go_wp2_with fail
                  go_end0
                  exact ⟨rfl, r, Srt.cut_done HZ.out HD1.out HD2.out, S7.out⟩
        · have HZ : Aside (Srt.CutAt key d d a m b s e mid) := ⟨Rot.none k2 k3 (by omega), HCU.out, k1, k2, k3, k4, hb, K5.out⟩
          by_cases c6 : s < m
          · have f1 : (s : Int) < (m : Int) := by omega
            have f2 : ¬ (m : Int) < (e : Int) := by omega
            by_cases c2 : a < s ∧ s < mid
            · have f3 : (a : Int) < (s : Int) := by omega
              have f4 : (s : Int) < (mid : Int) := by omega
              have hcall1 := IH.out (mid - a) (by omega) a s mid d0 d w0 _ HC.out R (by omega) S1.out rfl (by omega) (by omega) (by omega) (by omega) (Srt.cut_ss HZ.out) (Srt.cut_sm HZ.out)
              rw [show Array.size d = d.size by omega] at hcall1
              go_wp2_with (go_at_call 98; refine hcall1.mono ?_; rintro e_ w4 ⟨rfl, r1, hd1, S4⟩; refine Hold.out ?_)
              refine ⟨?_⟩
              have HD1 : Aside (Done key d r1 a mid) := hd1
              have hz1 := hd1.size
              have S6 : Aside (SWK enc k w0 blk off r1 w4) := S4
              clear hd1 S4 hcall1
              by_cases c3 : mid < e ∧ e < b
              · have f5 : (mid : Int) < (e : Int) := by omega
                have f6 : (e : Int) < (b : Int) := by omega
                have hcall2 := IH.out (b - mid) (by omega) mid e b d0 r1 w0 _ HC.out R (by omega) S6.out rfl (by omega) (by omega) (by omega) (by omega) (Srt.right_l HZ.out HD1.out) (Srt.right_r HZ.out HD1.out)
                rw [show Array.size r1 = d.size by omega] at hcall2
                go_wp2_with (go_at_call 98; (try rw [qe]); refine hcall2.mono ?_; rintro e_ w5 ⟨rfl, r2, hd2, S5⟩)
                go_end0
                exact ⟨rfl, r2, Srt.cut_done HZ.out HD1.out hd2, S5⟩
              · have hd2 := Srt.right_none HZ.out HD1.out c3
                by_cases c4 : mid < e
                · have f5 : (mid : Int) < (e : Int) := by omega
                  have f6 : ¬ (e : Int) < (b : Int) := by omega
                  have HD2 : Aside (Done key r1 r1 mid b) := hd2
                  clear hd2
                  go_wp2_with fail
                  go_end0
                  exact ⟨rfl, r1, Srt.cut_done HZ.out HD1.out HD2.out, S6.out⟩
                · have f5 : ¬ (mid : Int) < (e : Int) := by omega
                  have HD2 : Aside (Done key r1 r1 mid b) := hd2
                  clear hd2
                  go_wp2_with fail
                  go_end0
                  exact ⟨rfl, r1, Srt.cut_done HZ.out HD1.out HD2.out, S6.out⟩
            · have hd1 := Srt.left_none HZ.out c2
              have HD1 : Aside (Done key d d a mid) := hd1
              clear hd1
              by_cases c5 : a < s
              · have f3 : (a : Int) < (s : Int) := by omega
                have f4 : ¬ (s : Int) < (mid : Int) := by omega
                by_cases c3 : mid < e ∧ e < b
                · have f5 : (mid : Int) < (e : Int) := by omega
                  have f6 : (e : Int) < (b : Int) := by omega
                  have hcall2 := IH.out (b - mid) (by omega) mid e b d0 d w0 _ HC.out R (by omega) S1.out rfl (by omega) (by omega) (by omega) (by omega) (Srt.right_l HZ.out HD1.out) (Srt.right_r HZ.out HD1.out)
                  rw [show Array.size d = d.size by omega] at hcall2
                  go_wp2_with (go_at_call 98; (try rw [qe]); refine hcall2.mono ?_; rintro e_ w5 ⟨rfl, r2, hd2, S5⟩)
                  go_end0
                  exact ⟨rfl, r2, Srt.cut_done HZ.out HD1.out hd2, S5⟩
                · have hd2 := Srt.right_none HZ.out HD1.out c3
                  by_cases c4 : mid < e
                  · have f5 : (mid : Int) < (e : Int) := by omega
                    have f6 : ¬ (e : Int) < (b : Int) := by omega
                    have HD2 : Aside (Done key d d mid b) := hd2
                    clear hd2
                    go_wp2_with fail
                    go_end0
                    exact ⟨rfl, d, Srt.cut_done HZ.out HD1.out HD2.out, S1.out⟩
                  · have f5 : ¬ (mid : Int) < (e : Int) := by omega
                    have HD2 : Aside (Done key d d mid b) := hd2
                    clear hd2
                    go_wp2_with fail
                    go_end0
                    exact ⟨rfl, d, Srt.cut_done HZ.out HD1.out HD2.out, S1.out⟩
              · have f3 : ¬ (a : Int) < (s : Int) := by omega
                by_cases c3 : mid < e ∧ e < b
                · have f5 : (mid : Int) < (e : Int) := by omega
                  have f6 : (e : Int) < (b : Int) := by omega
                  have hcall2 := IH.out (b - mid) (by omega) mid e b d0 d w0 _ HC.out R (by omega) S1.out rfl (by omega) (by omega) (by omega) (by omega) (Srt.right_l HZ.out HD1.out) (Srt.right_r HZ.out HD1.out)
                  rw [show Array.size d = d.size by omega] at hcall2
                  go_wp2_with (go_at_call 98; (try rw [qe]); refine hcall2.mono ?_; rintro e_ w5 ⟨rfl, r2, hd2, S5⟩)
                  go_end0
                  exact ⟨rfl, r2, Srt.cut_done HZ.out HD1.out hd2, S5⟩
                · have hd2 := Srt.right_none HZ.out HD1.out c3
                  by_cases c4 : mid < e
                  · have f5 : (mid : Int) < (e : Int) := by omega
                    have f6 : ¬ (e : Int) < (b : Int) := by omega
                    have HD2 : Aside (Done key d d mid b) := hd2
                    clear hd2
                    go_wp2_with fail
                    go_end0
                    exact ⟨rfl, d, Srt.cut_done HZ.out HD1.out HD2.out, S1.out⟩
                  · have f5 : ¬ (mid : Int) < (e : Int) := by omega
                    have HD2 : Aside (Done key d d mid b) := hd2
                    clear hd2
                    go_wp2_with fail
                    go_end0
                    exact ⟨rfl, d, Srt.cut_done HZ.out HD1.out HD2.out, S1.out⟩
          · have f1 : ¬ (s : Int) < (m : Int) := by omega
            by_cases c2 : a < s ∧ s < mid
            · have f3 : (a : Int) < (s : Int) := by omega
              have f4 : (s : Int) < (mid : Int) := by omega
              have hcall1 := IH.out (mid - a) (by omega) a s mid d0 d w0 _ HC.out R (by omega) S1.out rfl (by omega) (by omega) (by omega) (by omega) (Srt.cut_ss HZ.out) (Srt.cut_sm HZ.out)
              rw [show Array.size d = d.size by omega] at hcall1
              go_wp2_with (go_at_call 98; refine hcall1.mono ?_; rintro e_ w4 ⟨rfl, r1, hd1, S4⟩; refine Hold.out ?_)
              refine ⟨?_⟩
              have HD1 : Aside (Done key d r1 a mid) := hd1
              have hz1 := hd1.size
              have S6 : Aside (SWK enc k w0 blk off r1 w4) := S4
              clear hd1 S4 hcall1
              by_cases c3 : mid < e ∧ e < b
              · have f5 : (mid : Int) < (e : Int) := by omega
                have f6 : (e : Int) < (b : Int) := by omega
                have hcall2 := IH.out (b - mid) (by omega) mid e b d0 r1 w0 _ HC.out R (by omega) S6.out rfl (by omega) (by omega) (by omega) (by omega) (Srt.right_l HZ.out HD1.out) (Srt.right_r HZ.out HD1.out)
                rw [show Array.size r1 = d.size by omega] at hcall2
                go_wp2_with (go_at_call 98; (try rw [qe]); refine hcall2.mono ?_; rintro e_ w5 ⟨rfl, r2, hd2, S5⟩)
                go_end0
                exact ⟨rfl, r2, Srt.cut_done HZ.out HD1.out hd2, S5⟩
              · have hd2 := Srt.right_none HZ.out HD1.out c3
                by_cases c4 : mid < e
                · have f5 : (mid : Int) < (e : Int) := by omega
                  have f6 : ¬ (e : Int) < (b : Int) := by omega
                  have HD2 : Aside (Done key r1 r1 mid b) := hd2
                  clear hd2
                  go_wp2_with fail
                  go_end0
                  exact ⟨rfl, r1, Srt.cut_done HZ.out HD1.out HD2.out, S6.out⟩
                · have f5 : ¬ (mid : Int) < (e : Int) := by omega
                  have HD2 : Aside (Done key r1 r1 mid b) := hd2
                  clear hd2
                  go_wp2_with fail
                  go_end0
                  exact ⟨rfl, r1, Srt.cut_done HZ.out HD1.out HD2.out, S6.out⟩
            · have hd1 := Srt.left_none HZ.out c2
              have HD1 : Aside (Done key d d a mid) := hd1
              clear hd1
              by_cases c5 : a < s
              · have f3 : (a : Int) < (s : Int) := by omega
                have f4 : ¬ (s : Int) < (mid : Int) := by omega
                by_cases c3 : mid < e ∧ e < b
                · have f5 : (mid : Int) < (e : Int) := by omega
                  have f6 : (e : Int) < (b : Int) := by omega
                  have hcall2 := IH.out (b - mid) (by omega) mid e b d0 d w0 _ HC.out R (by omega) S1.out rfl (by omega) (by omega) (by omega) (by omega) (Srt.right_l HZ.out HD1.out) (Srt.right_r HZ.out HD1.out)
                  rw [show Array.size d = d.size by omega] at hcall2
                  go_wp2_with (go_at_call 98; (try rw [qe]); refine hcall2.mono ?_; rintro e_ w5 ⟨rfl, r2, hd2, S5⟩)
                  go_end0
                  exact ⟨rfl, r2, Srt.cut_done HZ.out HD1.out hd2, S5⟩
                · have hd2 := Srt.right_none HZ.out HD1.out c3
                  by_cases c4 : mid < e
                  · have f5 : (mid : Int) < (e : Int) := by omega
                    have f6 : ¬ (e : Int) < (b : Int) := by omega
                    have HD2 : Aside (Done key d d mid b) := hd2
                    clear hd2
                    go_wp2_with fail
                    go_end0
                    exact ⟨rfl, d, Srt.cut_done HZ.out HD1.out HD2.out, S1.out⟩
                  · have f5 : ¬ (mid : Int) < (e : Int) := by omega
                    have HD2 : Aside (Done key d d mid b) := hd2
                    clear hd2
                    go_wp2_with fail
                    go_end0
                    exact ⟨rfl, d, Srt.cut_done HZ.out HD1.out HD2.out, S1.out⟩
              · have f3 : ¬ (a : Int) < (s : Int) := by omega
                by_cases c3 : mid < e ∧ e < b
                · have f5 : (mid : Int) < (e : Int) := by omega
                  have f6 : (e : Int) < (b : Int) := by omega
                  have hcall2 := IH.out (b - mid) (by omega) mid e b d0 d w0 _ HC.out R (by omega) S1.out rfl (by omega) (by omega) (by omega) (by omega) (Srt.right_l HZ.out HD1.out) (Srt.right_r HZ.out HD1.out)
                  rw [show Array.size d = d.size by omega] at hcall2
                  go_wp2_with (go_at_call 98; (try rw [qe]); refine hcall2.mono ?_; rintro e_ w5 ⟨rfl, r2, hd2, S5⟩)
                  go_end0
                  exact ⟨rfl, r2, Srt.cut_done HZ.out HD1.out hd2, S5⟩
                · have hd2 := Srt.right_none HZ.out HD1.out c3
                  by_cases c4 : mid < e
                  · have f5 : (mid : Int) < (e : Int) := by omega
                    have f6 : ¬ (e : Int) < (b : Int) := by omega
                    have HD2 : Aside (Done key d d mid b) := hd2
                    clear hd2
                    go_wp2_with fail
                    go_end0
                    exact ⟨rfl, d, Srt.cut_done HZ.out HD1.out HD2.out, S1.out⟩
                  · have f5 : ¬ (mid : Int) < (e : Int) := by omega
                    have HD2 : Aside (Done key d d mid b) := hd2
                    clear hd2
                    go_wp2_with fail
                    go_end0
                    exact ⟨rfl, d, Srt.cut_done HZ.out HD1.out HD2.out, S1.out⟩
  · have t3 : ¬ (mid : Int) < (m : Int) := by omega
    have q0 : s0 = a := by omega
    have q1 : r0 = m := by omega
    have HQ : Aside (s0 = a ∧ r0 = m) := ⟨q0, q1⟩
    clear hmid hnn hp hcase q0 q1
    go_enter Tryd.func98, Tryd.ntmps98
    go_wp2
    go_loopg [20, 21] (r0 - s0) (fun kx s20 s21 wr => ∃ (s r : Nat), s20 = .int .i64 s ∧ s21 = .int .i64 r ∧ r - s ≤ kx ∧ s0 ≤ s ∧ s ≤ r ∧ r ≤ r0 ∧ Aside (SWK enc k w0 blk off d wr) ∧ Aside ((∀ q, s0 ≤ q → q < s → key d[q]! ≤ key d[p - q]!) ∧ (∀ q, r ≤ q → q < r0 → key d[p - q]! < key d[q]!)))
    case atStart => exact ⟨s0, r0, by (first | rfl | rw [HQ.out.1]), by (first | rfl | rw [HQ.out] | rw [HQ.out.2]), by omega, by omega, by omega, by omega, S0, ⟨fun q q1 q2 => by omega, fun q q1 q2 => by omega⟩⟩
    case round =>
      clear S0
      obtain ⟨s, r, rfl, rfl, hkx, hs, hsr, hr, S1, HF⟩ := hrel
      by_cases hlt : s < r
      · have b1 : (s : Int) < (r : Int) := by omega
        obtain ⟨c, hc⟩ : ∃ c, c = (s + r) / 2 := ⟨_, rfl⟩
        have hlc := HLO.out c (by omega) (by omega)
        obtain ⟨pc, hpc⟩ : ∃ pc, pc = p - c := ⟨_, rfl⟩
        have qc : ((s : Int) + (r : Int)) / 2 = (c : Int) := by omega
        have qpc : (p : Int) - (c : Int) = (pc : Int) := by omega
        have hc1 : s ≤ c := by omega
        have hc2 : c < r := by omega
        have hpc1 : m ≤ pc := by omega
        have hpc2 : pc < b := by omega
        have HPC : Aside (pc = p - c) := hpc
        clear hc hpc hlc
        by_cases hG : cf d[pc]! d[c]! < 0
        · have ea10 : ((pc : Int)).toNat = pc := by omega
          have pa10 : (0 : Int) ≤ (pc : Int) := by omega
          have ba10 : (pc : Int) < (d.size : Int) := by omega
          have ra10 : IntKind.i64.wrap ((pc : Int)) = (pc : Int) := by rw [IntKind.wrap_i64]; omega
          have ec10 : ((c : Int)).toNat = c := by omega
          have pc10 : (0 : Int) ≤ (c : Int) := by omega
          have bc10 : (c : Int) < (d.size : Int) := by omega
          have rc10 : IntKind.i64.wrap ((c : Int)) = (c : Int) := by rw [IntKind.wrap_i64]; omega
          obtain ⟨x10, hx10⟩ : ∃ x, x = d[pc]! := ⟨_, rfl⟩
          obtain ⟨y10, hy10⟩ : ∃ x, x = d[c]! := ⟨_, rfl⟩
          have l10a := S1.out.ld R (by omega) Tryd.prog (pc) (by omega)
          have l10b := S1.out.ld R (by omega) Tryd.prog (c) (by omega)
          rw [← hx10] at l10a
          rw [← hy10] at l10b
          have hc10 := S1.out.cmp HC.out (by omega) x10 y10
          have hv10 : cf x10 y10 < 0 := by rw [hx10, hy10]; exact hG
          have hd10 : decide (cf x10 y10 < 0) = true := decide_eq_true hv10
          clear hx10 hy10
          have HG : Aside (cf d[pc]! d[c]! < 0) := hG
          clear hG
          go_wp2_with fail
          go_quiet_grown (first | (go_at_fn g; refine Calls.grown_of (hc10 _ _)))
          have S2 : Aside (SWK enc k w0 blk off d (grow (wr.drewN nq) osq)) := S1.out.grown nq osq
          clear l10a l10b hc10 S1
          generalize grow (wr.drewN nq) osq = w2 at S2 ⊢
          clear nq osq
          go_wp2
          go_roundg (c - s)
          case measure => omega
          case rel => exact ⟨s, c, rfl, by (first | rfl | (congr 1; omega)), Nat.le_refl _, by omega, by omega, by omega, S2, ⟨HF.out.1, Srt.cut_gt HL.out HRR.out ha0 hm0 HLO.out (by omega) (by omega) (HPC.out ▸ (HCF.out _ _).1 HG.out)⟩⟩
        · have ea11 : ((pc : Int)).toNat = pc := by omega
          have pa11 : (0 : Int) ≤ (pc : Int) := by omega
          have ba11 : (pc : Int) < (d.size : Int) := by omega
          have ra11 : IntKind.i64.wrap ((pc : Int)) = (pc : Int) := by rw [IntKind.wrap_i64]; omega
          have ec11 : ((c : Int)).toNat = c := by omega
          have pc11 : (0 : Int) ≤ (c : Int) := by omega
          have bc11 : (c : Int) < (d.size : Int) := by omega
          have rc11 : IntKind.i64.wrap ((c : Int)) = (c : Int) := by rw [IntKind.wrap_i64]; omega
          obtain ⟨x11, hx11⟩ : ∃ x, x = d[pc]! := ⟨_, rfl⟩
          obtain ⟨y11, hy11⟩ : ∃ x, x = d[c]! := ⟨_, rfl⟩
          have l11a := S1.out.ld R (by omega) Tryd.prog (pc) (by omega)
          have l11b := S1.out.ld R (by omega) Tryd.prog (c) (by omega)
          rw [← hx11] at l11a
          rw [← hy11] at l11b
          have hc11 := S1.out.cmp HC.out (by omega) x11 y11
          have hv11 : ¬ cf x11 y11 < 0 := by rw [hx11, hy11]; exact hG
          have hd11 : decide (cf x11 y11 < 0) = false := decide_eq_false hv11
          clear hx11 hy11
          have HG : Aside (¬ cf d[pc]! d[c]! < 0) := hG
          clear hG
          go_wp2_with fail
          go_quiet_grown (first | (go_at_fn g; refine Calls.grown_of (hc11 _ _)))
          have S2 : Aside (SWK enc k w0 blk off d (grow (wr.drewN nq) osq)) := S1.out.grown nq osq
          clear l11a l11b hc11 S1
          generalize grow (wr.drewN nq) osq = w2 at S2 ⊢
          clear nq osq
          go_wp2
          go_roundg (r - (c + 1))
          case measure => omega
          case rel => exact ⟨c + 1, r, by (first | rfl | (congr 1; omega)), rfl, Nat.le_refl _, by omega, by omega, by omega, S2, ⟨Srt.cut_le HL.out HRR.out ha0 hm0 HLO.out (by omega) (by omega) (by have h_ := HG.out; have e_ := HCF.out d[pc]! d[c]!; rw [HPC.out] at h_ e_; omega), HF.out.2⟩⟩
      · obtain rfl : s = r := by omega
        have b1 : ¬ (s : Int) < (s : Int) := by omega
        obtain ⟨hmid, hnn, hp, hcase⟩ := HX.out
        have hcut := Srt.cut_of HL.out HRR.out hmb hmid hnn hp hcase hs hr (fun q q1 q2 => HF.out.1 q q1 q2) (fun q q1 q2 => HF.out.2 q q1 q2)
        obtain ⟨e, he⟩ : ∃ e, e = nn - s := ⟨_, rfl⟩
        rw [← he] at hcut
        obtain ⟨hC, k1, k2, k3, k4, k5⟩ := hcut
        have HCU : Aside (Cut key d a m b s e) := hC
        clear hC HF
        have HE : Aside (e = nn - s) := he
        have qe : (nn : Int) - (s : Int) = ((e : Nat) : Int) := by omega
        have K5 : Aside (mid = s + (e - m)) := k5
        clear hmid hnn hp hcase he k5
        by_cases c1 : s < m ∧ m < e
        · have f1 : (s : Int) < (m : Int) := by omega
          have f2 : (m : Int) < (e : Int) := by omega
          have hcall0 := rotate_calls k aE zE enc g cb blk off cap s m e d0 d w0 _ R hs' S1.out (by omega) (by omega) (by omega) hsz
          go_wp2_with (go_at_call 106; (try rw [qe]); refine hcall0.mono ?_; rintro e_ w3 ⟨rfl, r, hrot, S3⟩; refine Hold.out ?_)
          refine ⟨?_⟩
          have HZ : Aside (Srt.CutAt key d r a m b s e mid) := ⟨hrot, HCU.out, k1, k2, k3, k4, hb, K5.out⟩
          have hzr := hrot.1
          have S7 : Aside (SWK enc k w0 blk off r w3) := S3
          clear hrot S3 hcall0 S1
          by_cases c2 : a < s ∧ s < mid
          · have f3 : (a : Int) < (s : Int) := by omega
            have f4 : (s : Int) < (mid : Int) := by omega
            have hcall1 := IH.out (mid - a) (by omega) a s mid d0 r w0 _ HC.out R (by omega) S7.out rfl (by omega) (by omega) (by omega) (by omega) (Srt.cut_ss HZ.out) (Srt.cut_sm HZ.out)
            rw [show Array.size r = d.size by omega] at hcall1
            go_wp2_with (go_at_call 98; refine hcall1.mono ?_; rintro e_ w4 ⟨rfl, r1, hd1, S4⟩; refine Hold.out ?_)
            refine ⟨?_⟩
            have HD1 : Aside (Done key r r1 a mid) := hd1
            have hz1 := hd1.size
            have S6 : Aside (SWK enc k w0 blk off r1 w4) := S4
            clear hd1 S4 hcall1
            by_cases c3 : mid < e ∧ e < b
            · have f5 : (mid : Int) < (e : Int) := by omega
              have f6 : (e : Int) < (b : Int) := by omega
              have hcall2 := IH.out (b - mid) (by omega) mid e b d0 r1 w0 _ HC.out R (by omega) S6.out rfl (by omega) (by omega) (by omega) (by omega) (Srt.right_l HZ.out HD1.out) (Srt.right_r HZ.out HD1.out)
              rw [show Array.size r1 = d.size by omega] at hcall2
              go_wp2_with (go_at_call 98; (try rw [qe]); refine hcall2.mono ?_; rintro e_ w5 ⟨rfl, r2, hd2, S5⟩)
              go_end0
              exact ⟨rfl, r2, Srt.cut_done HZ.out HD1.out hd2, S5⟩
            · have hd2 := Srt.right_none HZ.out HD1.out c3
              by_cases c4 : mid < e
              · have f5 : (mid : Int) < (e : Int) := by omega
                have f6 : ¬ (e : Int) < (b : Int) := by omega
                have HD2 : Aside (Done key r1 r1 mid b) := hd2
                clear hd2
                go_wp2_with fail
                go_end0
                exact ⟨rfl, r1, Srt.cut_done HZ.out HD1.out HD2.out, S6.out⟩
              · have f5 : ¬ (mid : Int) < (e : Int) := by omega
                have HD2 : Aside (Done key r1 r1 mid b) := hd2
                clear hd2
                go_wp2_with fail
                go_end0
                exact ⟨rfl, r1, Srt.cut_done HZ.out HD1.out HD2.out, S6.out⟩
          · have hd1 := Srt.left_none HZ.out c2
            have HD1 : Aside (Done key r r a mid) := hd1
            clear hd1
            by_cases c5 : a < s
            · have f3 : (a : Int) < (s : Int) := by omega
              have f4 : ¬ (s : Int) < (mid : Int) := by omega
              by_cases c3 : mid < e ∧ e < b
              · have f5 : (mid : Int) < (e : Int) := by omega
                have f6 : (e : Int) < (b : Int) := by omega
                have hcall2 := IH.out (b - mid) (by omega) mid e b d0 r w0 _ HC.out R (by omega) S7.out rfl (by omega) (by omega) (by omega) (by omega) (Srt.right_l HZ.out HD1.out) (Srt.right_r HZ.out HD1.out)
                rw [show Array.size r = d.size by omega] at hcall2
                go_wp2_with (go_at_call 98; (try rw [qe]); refine hcall2.mono ?_; rintro e_ w5 ⟨rfl, r2, hd2, S5⟩)
                go_end0
                exact ⟨rfl, r2, Srt.cut_done HZ.out HD1.out hd2, S5⟩
              · have hd2 := Srt.right_none HZ.out HD1.out c3
                by_cases c4 : mid < e
                · have f5 : (mid : Int) < (e : Int) := by omega
                  have f6 : ¬ (e : Int) < (b : Int) := by omega
                  have HD2 : Aside (Done key r r mid b) := hd2
                  clear hd2
                  go_wp2_with fail
                  go_end0
                  exact ⟨rfl, r, Srt.cut_done HZ.out HD1.out HD2.out, S7.out⟩
                · have f5 : ¬ (mid : Int) < (e : Int) := by omega
                  have HD2 : Aside (Done key r r mid b) := hd2
                  clear hd2
                  go_wp2_with fail
                  go_end0
                  exact ⟨rfl, r, Srt.cut_done HZ.out HD1.out HD2.out, S7.out⟩
            · have f3 : ¬ (a : Int) < (s : Int) := by omega
              by_cases c3 : mid < e ∧ e < b
              · have f5 : (mid : Int) < (e : Int) := by omega
                have f6 : (e : Int) < (b : Int) := by omega
                have hcall2 := IH.out (b - mid) (by omega) mid e b d0 r w0 _ HC.out R (by omega) S7.out rfl (by omega) (by omega) (by omega) (by omega) (Srt.right_l HZ.out HD1.out) (Srt.right_r HZ.out HD1.out)
                rw [show Array.size r = d.size by omega] at hcall2
                go_wp2_with (go_at_call 98; (try rw [qe]); refine hcall2.mono ?_; rintro e_ w5 ⟨rfl, r2, hd2, S5⟩)
                go_end0
                exact ⟨rfl, r2, Srt.cut_done HZ.out HD1.out hd2, S5⟩
              · have hd2 := Srt.right_none HZ.out HD1.out c3
                by_cases c4 : mid < e
                · have f5 : (mid : Int) < (e : Int) := by omega
                  have f6 : ¬ (e : Int) < (b : Int) := by omega
                  have HD2 : Aside (Done key r r mid b) := hd2
                  clear hd2
                  go_wp2_with fail
                  go_end0
                  exact ⟨rfl, r, Srt.cut_done HZ.out HD1.out HD2.out, S7.out⟩
                · have f5 : ¬ (mid : Int) < (e : Int) := by omega
                  have HD2 : Aside (Done key r r mid b) := hd2
                  clear hd2
                  go_wp2_with fail
                  go_end0
                  exact ⟨rfl, r, Srt.cut_done HZ.out HD1.out HD2.out, S7.out⟩
        · have HZ : Aside (Srt.CutAt key d d a m b s e mid) := ⟨Rot.none k2 k3 (by omega), HCU.out, k1, k2, k3, k4, hb, K5.out⟩
          by_cases c6 : s < m
          · have f1 : (s : Int) < (m : Int) := by omega
            have f2 : ¬ (m : Int) < (e : Int) := by omega
            by_cases c2 : a < s ∧ s < mid
            · have f3 : (a : Int) < (s : Int) := by omega
              have f4 : (s : Int) < (mid : Int) := by omega
              have hcall1 := IH.out (mid - a) (by omega) a s mid d0 d w0 _ HC.out R (by omega) S1.out rfl (by omega) (by omega) (by omega) (by omega) (Srt.cut_ss HZ.out) (Srt.cut_sm HZ.out)
              rw [show Array.size d = d.size by omega] at hcall1
              go_wp2_with (go_at_call 98; refine hcall1.mono ?_; rintro e_ w4 ⟨rfl, r1, hd1, S4⟩; refine Hold.out ?_)
              refine ⟨?_⟩
              have HD1 : Aside (Done key d r1 a mid) := hd1
              have hz1 := hd1.size
              have S6 : Aside (SWK enc k w0 blk off r1 w4) := S4
              clear hd1 S4 hcall1
              by_cases c3 : mid < e ∧ e < b
              · have f5 : (mid : Int) < (e : Int) := by omega
                have f6 : (e : Int) < (b : Int) := by omega
                have hcall2 := IH.out (b - mid) (by omega) mid e b d0 r1 w0 _ HC.out R (by omega) S6.out rfl (by omega) (by omega) (by omega) (by omega) (Srt.right_l HZ.out HD1.out) (Srt.right_r HZ.out HD1.out)
                rw [show Array.size r1 = d.size by omega] at hcall2
                go_wp2_with (go_at_call 98; (try rw [qe]); refine hcall2.mono ?_; rintro e_ w5 ⟨rfl, r2, hd2, S5⟩)
                go_end0
                exact ⟨rfl, r2, Srt.cut_done HZ.out HD1.out hd2, S5⟩
              · have hd2 := Srt.right_none HZ.out HD1.out c3
                by_cases c4 : mid < e
                · have f5 : (mid : Int) < (e : Int) := by omega
                  have f6 : ¬ (e : Int) < (b : Int) := by omega
                  have HD2 : Aside (Done key r1 r1 mid b) := hd2
                  clear hd2
                  go_wp2_with fail
                  go_end0
                  exact ⟨rfl, r1, Srt.cut_done HZ.out HD1.out HD2.out, S6.out⟩
                · have f5 : ¬ (mid : Int) < (e : Int) := by omega
                  have HD2 : Aside (Done key r1 r1 mid b) := hd2
                  clear hd2
                  go_wp2_with fail
                  go_end0
                  exact ⟨rfl, r1, Srt.cut_done HZ.out HD1.out HD2.out, S6.out⟩
            · have hd1 := Srt.left_none HZ.out c2
              have HD1 : Aside (Done key d d a mid) := hd1
              clear hd1
              by_cases c5 : a < s
              · have f3 : (a : Int) < (s : Int) := by omega
                have f4 : ¬ (s : Int) < (mid : Int) := by omega
                by_cases c3 : mid < e ∧ e < b
                · have f5 : (mid : Int) < (e : Int) := by omega
                  have f6 : (e : Int) < (b : Int) := by omega
                  have hcall2 := IH.out (b - mid) (by omega) mid e b d0 d w0 _ HC.out R (by omega) S1.out rfl (by omega) (by omega) (by omega) (by omega) (Srt.right_l HZ.out HD1.out) (Srt.right_r HZ.out HD1.out)
                  rw [show Array.size d = d.size by omega] at hcall2
                  go_wp2_with (go_at_call 98; (try rw [qe]); refine hcall2.mono ?_; rintro e_ w5 ⟨rfl, r2, hd2, S5⟩)
                  go_end0
                  exact ⟨rfl, r2, Srt.cut_done HZ.out HD1.out hd2, S5⟩
                · have hd2 := Srt.right_none HZ.out HD1.out c3
                  by_cases c4 : mid < e
                  · have f5 : (mid : Int) < (e : Int) := by omega
                    have f6 : ¬ (e : Int) < (b : Int) := by omega
                    have HD2 : Aside (Done key d d mid b) := hd2
                    clear hd2
                    go_wp2_with fail
                    go_end0
                    exact ⟨rfl, d, Srt.cut_done HZ.out HD1.out HD2.out, S1.out⟩
                  · have f5 : ¬ (mid : Int) < (e : Int) := by omega
                    have HD2 : Aside (Done key d d mid b) := hd2
                    clear hd2
                    go_wp2_with fail
                    go_end0
                    exact ⟨rfl, d, Srt.cut_done HZ.out HD1.out HD2.out, S1.out⟩
              · have f3 : ¬ (a : Int) < (s : Int) := by omega
                by_cases c3 : mid < e ∧ e < b
                · have f5 : (mid : Int) < (e : Int) := by omega
                  have f6 : (e : Int) < (b : Int) := by omega
                  have hcall2 := IH.out (b - mid) (by omega) mid e b d0 d w0 _ HC.out R (by omega) S1.out rfl (by omega) (by omega) (by omega) (by omega) (Srt.right_l HZ.out HD1.out) (Srt.right_r HZ.out HD1.out)
                  rw [show Array.size d = d.size by omega] at hcall2
                  go_wp2_with (go_at_call 98; (try rw [qe]); refine hcall2.mono ?_; rintro e_ w5 ⟨rfl, r2, hd2, S5⟩)
                  go_end0
                  exact ⟨rfl, r2, Srt.cut_done HZ.out HD1.out hd2, S5⟩
                · have hd2 := Srt.right_none HZ.out HD1.out c3
                  by_cases c4 : mid < e
                  · have f5 : (mid : Int) < (e : Int) := by omega
                    have f6 : ¬ (e : Int) < (b : Int) := by omega
                    have HD2 : Aside (Done key d d mid b) := hd2
                    clear hd2
                    go_wp2_with fail
                    go_end0
                    exact ⟨rfl, d, Srt.cut_done HZ.out HD1.out HD2.out, S1.out⟩
                  · have f5 : ¬ (mid : Int) < (e : Int) := by omega
                    have HD2 : Aside (Done key d d mid b) := hd2
                    clear hd2
                    go_wp2_with fail
                    go_end0
                    exact ⟨rfl, d, Srt.cut_done HZ.out HD1.out HD2.out, S1.out⟩
          · have f1 : ¬ (s : Int) < (m : Int) := by omega
            by_cases c2 : a < s ∧ s < mid
            · have f3 : (a : Int) < (s : Int) := by omega
              have f4 : (s : Int) < (mid : Int) := by omega
              have hcall1 := IH.out (mid - a) (by omega) a s mid d0 d w0 _ HC.out R (by omega) S1.out rfl (by omega) (by omega) (by omega) (by omega) (Srt.cut_ss HZ.out) (Srt.cut_sm HZ.out)
              rw [show Array.size d = d.size by omega] at hcall1
              go_wp2_with (go_at_call 98; refine hcall1.mono ?_; rintro e_ w4 ⟨rfl, r1, hd1, S4⟩; refine Hold.out ?_)
              refine ⟨?_⟩
              have HD1 : Aside (Done key d r1 a mid) := hd1
              have hz1 := hd1.size
              have S6 : Aside (SWK enc k w0 blk off r1 w4) := S4
              clear hd1 S4 hcall1
              by_cases c3 : mid < e ∧ e < b
              · have f5 : (mid : Int) < (e : Int) := by omega
                have f6 : (e : Int) < (b : Int) := by omega
                have hcall2 := IH.out (b - mid) (by omega) mid e b d0 r1 w0 _ HC.out R (by omega) S6.out rfl (by omega) (by omega) (by omega) (by omega) (Srt.right_l HZ.out HD1.out) (Srt.right_r HZ.out HD1.out)
                rw [show Array.size r1 = d.size by omega] at hcall2
                go_wp2_with (go_at_call 98; (try rw [qe]); refine hcall2.mono ?_; rintro e_ w5 ⟨rfl, r2, hd2, S5⟩)
                go_end0
                exact ⟨rfl, r2, Srt.cut_done HZ.out HD1.out hd2, S5⟩
              · have hd2 := Srt.right_none HZ.out HD1.out c3
                by_cases c4 : mid < e
                · have f5 : (mid : Int) < (e : Int) := by omega
                  have f6 : ¬ (e : Int) < (b : Int) := by omega
                  have HD2 : Aside (Done key r1 r1 mid b) := hd2
                  clear hd2
                  go_wp2_with fail
                  go_end0
                  exact ⟨rfl, r1, Srt.cut_done HZ.out HD1.out HD2.out, S6.out⟩
                · have f5 : ¬ (mid : Int) < (e : Int) := by omega
                  have HD2 : Aside (Done key r1 r1 mid b) := hd2
                  clear hd2
                  go_wp2_with fail
                  go_end0
                  exact ⟨rfl, r1, Srt.cut_done HZ.out HD1.out HD2.out, S6.out⟩
            · have hd1 := Srt.left_none HZ.out c2
              have HD1 : Aside (Done key d d a mid) := hd1
              clear hd1
              by_cases c5 : a < s
              · have f3 : (a : Int) < (s : Int) := by omega
                have f4 : ¬ (s : Int) < (mid : Int) := by omega
                by_cases c3 : mid < e ∧ e < b
                · have f5 : (mid : Int) < (e : Int) := by omega
                  have f6 : (e : Int) < (b : Int) := by omega
                  have hcall2 := IH.out (b - mid) (by omega) mid e b d0 d w0 _ HC.out R (by omega) S1.out rfl (by omega) (by omega) (by omega) (by omega) (Srt.right_l HZ.out HD1.out) (Srt.right_r HZ.out HD1.out)
                  rw [show Array.size d = d.size by omega] at hcall2
                  go_wp2_with (go_at_call 98; (try rw [qe]); refine hcall2.mono ?_; rintro e_ w5 ⟨rfl, r2, hd2, S5⟩)
                  go_end0
                  exact ⟨rfl, r2, Srt.cut_done HZ.out HD1.out hd2, S5⟩
                · have hd2 := Srt.right_none HZ.out HD1.out c3
                  by_cases c4 : mid < e
                  · have f5 : (mid : Int) < (e : Int) := by omega
                    have f6 : ¬ (e : Int) < (b : Int) := by omega
                    have HD2 : Aside (Done key d d mid b) := hd2
                    clear hd2
                    go_wp2_with fail
                    go_end0
                    exact ⟨rfl, d, Srt.cut_done HZ.out HD1.out HD2.out, S1.out⟩
                  · have f5 : ¬ (mid : Int) < (e : Int) := by omega
                    have HD2 : Aside (Done key d d mid b) := hd2
                    clear hd2
                    go_wp2_with fail
                    go_end0
                    exact ⟨rfl, d, Srt.cut_done HZ.out HD1.out HD2.out, S1.out⟩
              · have f3 : ¬ (a : Int) < (s : Int) := by omega
                by_cases c3 : mid < e ∧ e < b
                · have f5 : (mid : Int) < (e : Int) := by omega
                  have f6 : (e : Int) < (b : Int) := by omega
                  have hcall2 := IH.out (b - mid) (by omega) mid e b d0 d w0 _ HC.out R (by omega) S1.out rfl (by omega) (by omega) (by omega) (by omega) (Srt.right_l HZ.out HD1.out) (Srt.right_r HZ.out HD1.out)
                  rw [show Array.size d = d.size by omega] at hcall2
                  go_wp2_with (go_at_call 98; (try rw [qe]); refine hcall2.mono ?_; rintro e_ w5 ⟨rfl, r2, hd2, S5⟩)
                  go_end0
                  exact ⟨rfl, r2, Srt.cut_done HZ.out HD1.out hd2, S5⟩
                · have hd2 := Srt.right_none HZ.out HD1.out c3
                  by_cases c4 : mid < e
                  · have f5 : (mid : Int) < (e : Int) := by omega
                    have f6 : ¬ (e : Int) < (b : Int) := by omega
                    have HD2 : Aside (Done key d d mid b) := hd2
                    clear hd2
                    go_wp2_with fail
                    go_end0
                    exact ⟨rfl, d, Srt.cut_done HZ.out HD1.out HD2.out, S1.out⟩
                  · have f5 : ¬ (mid : Int) < (e : Int) := by omega
                    have HD2 : Aside (Done key d d mid b) := hd2
                    clear hd2
                    go_wp2_with fail
                    go_end0
                    exact ⟨rfl, d, Srt.cut_done HZ.out HD1.out HD2.out, S1.out⟩
end
end Go.Proofs.YtkmkgpigmldhnaaDoor.P

namespace Go.Proofs.YtkmkgpigmldhnaaDoor.P
open Go.RowKit Go.Shelf Go.Lib Go.Sort Go.Proofs.YtkmkgpigmldhnaaDoorW.PrintWords Go.Proofs.YtkmkgpigmldhnaaDoorW.PrintLast Go.Proofs.YtkmkgpigmldhnaaDoorW.PrintMore
open Go.Proofs.YtkmkgpigmldhnaaDoor.Srt (Swr Rot Done Cut CutAt Srtd Runs Half Stb)
section
variable {α : Type} [Inhabited α]
theorem insert_w (k : Nat) (aE : ∀ w, (isAgg 60).run Tryd.prog w = .ok true w) (zE : ∀ w, (Go.sizeOf 60).run Tryd.prog w = .ok k w) (key : α → Int) (cf : α → α → Int) (hcf : ∀ x y, cf x y < 0 ↔ key x < key y) (enc : α → List Value) (g : Nat) (cb : Array Value) (blk off cap : Nat) (eg : ∀ args w, (callFunc g args).run Tryd.prog w = .ok (.enter g args) w)
    (a b : Nat) (d0 d : Array α) (w0 w : World) (hcmp : CmpLays Tryd.prog g cb enc k cf blk off d0.size w0) (R : RowK enc k w0 blk off d0) (hs : d0.size = d.size) (S : SWK enc k w0 blk off d w) (hab : a ≤ b) (hb : b ≤ d.size) (hsz : d.size < 2305843009213693952) :
    Calls Tryd.prog 97 #[.slice (some ⟨blk, off, none⟩) d.size cap, .int .i64 a, .int .i64 b, .func (.func g) #[] cb] w fun e w' => e = .returned (.tuple #[]) ∧ ∃ r, Done key d r a b ∧ SWK enc k w0 blk off r w' := by
  have hlt : ltOf cf = fun x y => decide (key x < key y) := by
    funext x y
    unfold ltOf
    by_cases h : key x < key y
    · rw [decide_eq_true h, decide_eq_true ((hcf x y).2 h)]
    · rw [decide_eq_false h, decide_eq_false (mt (hcf x y).1 h)]
  have hd : Done key d (Sort.insertionSort (ltOf cf) d a b) a b := by rw [hlt]; exact Srt.insertion_done d a b hab hb
  have hC : CmpLays Tryd.prog g cb enc k cf blk off d.size w := fun m os dk hdk x y => by
    obtain ⟨n0, os0, rfl⟩ := S
    rw [sortWorldK_on enc k w0 blk off n0 m d dk os0 os R.hblk hdk]
    exact hcmp _ _ dk (by omega) x y
  refine (AnyQ.insertionSortCmpFunc Tryd.laysIns k aE zE enc R.hk R.h1 cf g cb blk off cap a b d w eg hC (S.holds R.hblk R.hH hs.symm) (S.lt R.hblk) hab hb (by omega)).mono ?_
  rintro e w' ⟨rfl, n, os, rfl⟩
  exact ⟨rfl, _, hd, S.on R.hblk n _ os hd.size⟩
set_option maxHeartbeats 16000000 in
set_option maxRecDepth 1000000 in
theorem stable_calls (k : Nat) (aE : ∀ w, (isAgg 60).run Tryd.prog w = .ok true w) (zE : ∀ w, (Go.sizeOf 60).run Tryd.prog w = .ok k w) (key : α → Int) (cf : α → α → Int) (hcf : ∀ x y, cf x y < 0 ↔ key x < key y) (enc : α → List Value) (g : Nat) (cb : Array Value) (blk off cap : Nat) (eg : ∀ args w, (callFunc g args).run Tryd.prog w = .ok (.enter g args) w)
    (d0 d : Array α) (w0 w : World) (hcmp : CmpLays Tryd.prog g cb enc k cf blk off d0.size w0) (R : RowK enc k w0 blk off d0) (hs : d0.size = d.size) (S : SWK enc k w0 blk off d w) (hsz : d.size < 2305843009213693952) :
    Calls Tryd.prog 80 #[.slice (some ⟨blk, off, none⟩) d.size cap, .int .i64 d.size, .func (.func g) #[] cb] w fun e w' => e = .returned (.tuple #[]) ∧ ∃ r, Stb key d.toList r.toList ∧ Srtd key r 0 d.size ∧ SWK enc k w0 blk off r w' := by
  have S0 : Aside (SWK enc k w0 blk off d w) := S
  have HC : Aside (CmpLays Tryd.prog g cb enc k cf blk off d0.size w0) := hcmp
  have HCF : Aside (∀ x y, cf x y < 0 ↔ key x < key y) := hcf
  have EG : Aside (∀ args w, (callFunc g args).run Tryd.prog w = .ok (.enter g args) w) := eg
  clear S hcmp hcf eg
  obtain ⟨n, hn⟩ : ∃ n, n = d.size := ⟨_, rfl⟩
  rw [← hn] at hs hsz ⊢
  have HN : Aside (n = d.size) := hn
  have hn2 : d.size ≤ n := by omega
  clear hn
  go_enter Tryd.func80, Tryd.ntmps80
  go_wp2
  go_loopg [7, 8] n (fun kx s7 s8 wr => ∃ (c a : Nat) (dk : Array α), s7 = .int .i64 a ∧ s8 = .int .i64 ((a + 20 : Nat) : Int) ∧ n - a ≤ kx ∧ a ≤ n ∧ Aside (dk.size = n) ∧ Aside (a = c * 20) ∧ Aside (SWK enc k w0 blk off dk wr) ∧ Aside (Stb key d.toList dk.toList) ∧ Aside (∀ c', c' < c → Srtd key dk (c' * 20) (min (c' * 20 + 20) n)))
  case atStart => exact ⟨0, 0, d, rfl, rfl, by omega, Nat.zero_le _, HN.out.symm, rfl, S0, Stb.refl key _, fun c' hc => by omega⟩
  case round =>
    clear S0
    obtain ⟨c, a, dk, rfl, rfl, hkx, han, HD, HA, S1, HB, HR⟩ := hrel
    by_cases h20 : a + 20 ≤ n
    · have b1 : (a : Int) + 20 ≤ (n : Int) := by omega
      have hcall := insert_w k aE zE key cf HCF.out enc g cb blk off cap EG.out a (a + 20) d0 dk w0 wr HC.out R (by rw [HD.out]; exact hs) S1.out (by omega) (by rw [HD.out]; exact h20) (by rw [HD.out]; exact hsz)
      rw [HD.out, show ((a + 20 : Nat) : Int) = (a : Int) + 20 by omega] at hcall
      go_wp2_with (go_at_call 97; refine hcall.mono ?_; rintro e w1 ⟨rfl, r, hr, S2⟩; have S3 : Aside (SWK enc k w0 blk off r w1) := S2; have HE : Aside (Done key dk r a (a + 20)) := hr; clear hr S2)
      go_roundg (n - (a + 20))
      case measure => omega
      case rel =>
        refine ⟨c + 1, a + 20, r, by first | rfl | go_num, by first | rfl | go_num, Nat.le_refl _, h20, HE.out.size.trans HD.out, (by have := HA.out; omega : a + 20 = (c + 1) * 20), S3, HB.out.trans HE.out.stb, ?_⟩
        have hd := HE.out
        rw [HA.out] at hd
        exact Srt.runs_step HR.out hd
    · have b1 : ¬ (a : Int) + 20 ≤ (n : Int) := by omega
      have hcall := insert_w k aE zE key cf HCF.out enc g cb blk off cap EG.out a n d0 dk w0 wr HC.out R (by rw [HD.out]; exact hs) S1.out han (by rw [HD.out]; exact Nat.le_refl _) (by rw [HD.out]; exact hsz)
      rw [HD.out] at hcall
      go_wp2_with (go_at_call 97; refine hcall.mono ?_; rintro e w1 ⟨rfl, r, hr, S2⟩; refine Hold.out ?_)
      refine ⟨?_⟩
      have hd := hr
      rw [HA.out] at hd
      have S3 : Aside (SWK enc k w0 blk off r w1) := S2
      have HRN : Aside (Runs key r 20 n) := Srt.runs_last HR.out (by have := HA.out; omega) hd
      have HB3 : Aside (Stb key d.toList r.toList) := HB.out.trans hr.stb
      have HD3 : Aside (r.size = n) := hr.size.trans HD.out
      clear hd hr S2 hcall S1 HR HB HD HA
      go_wp2
      go_loopg [6] n (fun kx s6 wr => ∃ (bs : Nat) (dk : Array α), s6 = .int .i64 bs ∧ 20 ≤ bs ∧ bs < 9223372036854775808 ∧ n - bs ≤ kx ∧ Aside (dk.size = n) ∧ Aside (SWK enc k w0 blk off dk wr) ∧ Aside (Stb key d.toList dk.toList) ∧ Aside (Runs key dk bs n))
      case atStart => exact ⟨20, r, rfl, Nat.le_refl _, by omega, by omega, HD3, S3, HB3, HRN⟩
      case round =>
        clear S3 HRN HB3 HD3
        obtain ⟨bs, dk, rfl, hbs, hbs2, hkx, HD, S1, HB, HR⟩ := hrel
        by_cases hlt : bs < n
        · have b2 : (bs : Int) < (n : Int) := by omega
          obtain ⟨tb, htb⟩ : ∃ tb, tb = 2 * bs := ⟨_, rfl⟩
          have q1 : 2 * (bs : Int) = (tb : Int) := by omega
          have q2 : (bs : Int) * 2 = (tb : Int) := by omega
          have htb1 : tb ≤ 2 * bs := by omega
          have htb2 : 2 * bs ≤ tb := by omega
          have HTB : Aside (tb = 2 * bs) := htb
          clear htb
          go_wp2
          go_loopg [7, 8] n (fun kx s7 s8 wr => ∃ (c a : Nat) (dj : Array α), s7 = .int .i64 a ∧ s8 = .int .i64 ((a + tb : Nat) : Int) ∧ n - a ≤ kx ∧ a ≤ n ∧ Aside (dj.size = n) ∧ Aside (a = c * (2 * bs)) ∧ Aside (SWK enc k w0 blk off dj wr) ∧ Aside (Stb key d.toList dj.toList) ∧ Aside (Half key dj bs n c))
          case atStart => exact ⟨0, 0, dk, rfl, by first | rfl | (congr 1; omega), by omega, Nat.zero_le _, HD, (by omega : 0 = 0 * (2 * bs)), S1, HB, HR.out.half⟩
          case round =>
            clear S1 HB HR HD
            obtain ⟨c, a, dj, rfl, rfl, hkx2, han, HD, HA, S1, HB, HR⟩ := hrel
            by_cases h2 : a + tb ≤ n
            · have b3 : (a : Int) + (tb : Int) ≤ (n : Int) := by omega
              have hl : Srtd key dj a (a + bs) := by have := HR.out.left (by rw [← HA.out]; omega); rwa [← HA.out] at this
              have hr : Srtd key dj (a + bs) (a + tb) := by have := HR.out.right; rwa [← HA.out, ← HTB.out, Nat.min_eq_left h2] at this
              have hcall := symMerge_calls k aE zE key cf HCF.out enc g cb blk off cap EG.out _ a (a + bs) (a + tb) d0 dj w0 wr HC.out R (by rw [HD.out]; exact hs) S1.out rfl (by omega) (by omega) (by rw [HD.out]; exact h2) (by rw [HD.out]; omega) hl hr
              rw [HD.out, show ((a + bs : Nat) : Int) = (a : Int) + (bs : Int) by omega, show ((a + tb : Nat) : Int) = (a : Int) + (tb : Int) by omega] at hcall
              clear hl hr
              go_wp2_with (go_at_call 98; refine hcall.mono ?_; rintro e_ w2 ⟨rfl, r2, hr2, S2⟩; have S4 : Aside (SWK enc k w0 blk off r2 w2) := S2; have HE : Aside (Done key dj r2 a (a + tb)) := hr2; clear hr2 S2)
              go_roundg (n - (a + tb))
              case measure => omega
              case rel =>
                refine ⟨c + 1, a + tb, r2, by first | rfl | go_num | (congr 1; omega), by first | rfl | go_num | (congr 1; omega), Nat.le_refl _, h2, HE.out.size.trans HD.out, ?_, S4, HB.out.trans HE.out.stb, ?_⟩
                · show a + tb = (c + 1) * (2 * bs)
                  rw [Nat.add_mul, Nat.one_mul, ← HA.out, HTB.out]
                · have hd := HE.out
                  rw [HA.out, HTB.out] at hd
                  exact HR.out.step (by rw [← HA.out, ← HTB.out]; exact h2) hd
            · have b3 : ¬ (a : Int) + (tb : Int) ≤ (n : Int) := by omega
              by_cases h3 : a + bs < n
              · have b4 : (a : Int) + (bs : Int) < (n : Int) := by omega
                have hl : Srtd key dj a (a + bs) := by have := HR.out.left (by rw [← HA.out]; omega); rwa [← HA.out] at this
                have hr : Srtd key dj (a + bs) n := by have := HR.out.right; rwa [← HA.out, ← HTB.out, Nat.min_eq_right (by omega)] at this
                have hcall := symMerge_calls k aE zE key cf HCF.out enc g cb blk off cap EG.out _ a (a + bs) n d0 dj w0 wr HC.out R (by rw [HD.out]; exact hs) S1.out rfl (by omega) (by omega) (by rw [HD.out]; exact Nat.le_refl _) (by rw [HD.out]; omega) hl hr
                rw [HD.out, show ((a + bs : Nat) : Int) = (a : Int) + (bs : Int) by omega] at hcall
                clear hl hr
                go_wp2_with (go_at_call 98; refine hcall.mono ?_; rintro e_ w2 ⟨rfl, r2, hr2, S2⟩; have S4 : Aside (SWK enc k w0 blk off r2 w2) := S2; have HE : Aside (Done key dj r2 a n) := hr2; clear hr2 S2)
                go_roundg (n - tb)
                case measure => omega
                case rel =>
                  have hd := HE.out
                  rw [HA.out] at hd
                  exact ⟨tb, r2, by first | rfl | (congr 1; omega), by omega, by omega, Nat.le_refl _, HE.out.size.trans HD.out, S4, HB.out.trans HE.out.stb, HTB.out ▸ HR.out.last (by rw [← HA.out, ← HTB.out]; omega) hd⟩
              · have b4 : ¬ (a : Int) + (bs : Int) < (n : Int) := by omega
                go_wp2
                go_roundg (n - tb)
                case measure => omega
                case rel => exact ⟨tb, dj, by first | rfl | (congr 1; omega), by omega, by omega, Nat.le_refl _, HD, S1, HB, HTB.out ▸ HR.out.last (by rw [← HA.out, ← HTB.out]; omega) (HR.out.short (by rw [← HA.out]; omega))⟩
        · have b2 : ¬ (bs : Int) < (n : Int) := by omega
          go_wp2
          go_end0
          exact ⟨rfl, dk, HB.out, HR.out.whole (by omega), S1.out⟩
end
end Go.Proofs.YtkmkgpigmldhnaaDoor.P

namespace Go.Proofs.YtkmkgpigmldhnaaDoor.P
open Go.RowKit Go.Shelf Go.Lib Go.Sort Go.Proofs.YtkmkgpigmldhnaaDoorW.PrintWords Go.Proofs.YtkmkgpigmldhnaaDoorW.PrintLast Go.Proofs.YtkmkgpigmldhnaaDoorW.PrintMore
def cmpS (x y : S60) : Int := if x.f0 < y.f0 then -1 else if x.f0 > y.f0 then 1 else 0
def keyS (x : S60) : Int := x.f0
theorem compare_f (a b : Int) : cmp_Compare_uint8.f a b = some (if a < b then -1 else if a > b then 1 else 0) := by
  unfold cmp_Compare_uint8.f cmp_isNaN_uint8.f
  by_cases h : a < b
  · simp [h]
  · by_cases h2 : a > b
    · simp [h, h2]
    · simp [h, h2]
set_option maxHeartbeats 4000000 in
set_option maxRecDepth 100000 in
theorem sort_cmp (x y : S60) (W : World) : Calls Tryd.prog 57 #[.agg (encS x).toArray, .agg (encS y).toArray] W fun e w' => e = .returned (.int .i64 (cmpS x y)) ∧ ∃ q os', w' = grow (W.drewN q) os' := by
  have hu := Tryd.underlying60
  have HF := Aside0.mk (compare_f x.f0 y.f0)
  unfold cmpS
  generalize (if x.f0 < y.f0 then (-1 : Int) else if x.f0 > y.f0 then 1 else 0) = r at HF ⊢
  show Calls Tryd.prog 57 #[.agg #[.int .u8 x.f0, .int .u32 x.f1, .string x.f2, .string x.f3], .agg #[.int .u8 y.f0, .int .u32 y.f1, .string y.f2, .string y.f3]] W _
  go_enter Tryd.func57, Tryd.ntmps57
  go_wp2_with (go_at_call 58; refine (cmp_Compare_uint8.calls x.f0 y.f0 r _ HF.out).mono ?_; rintro e w' ⟨rfl, ⟨nd, rfl⟩⟩)
  go_ret
  refine ⟨rfl, nd, #[.cells #[.int .u8 x.f0, .int .u32 x.f1, .string x.f2, .string x.f3] 60, .cells #[.int .u8 y.f0, .int .u32 y.f1, .string y.f2, .string y.f3] 60], ?_⟩
  rw [alloc_eq_grow, alloc_eq_grow, grow_grow]; rfl
theorem cmpS_lt (x y : S60) : cmpS x y < 0 ↔ keyS x < keyS y := by
  unfold cmpS keyS
  by_cases h : x.f0 < y.f0
  · rw [if_pos h]; exact ⟨fun _ => h, fun _ => by decide⟩
  · rw [if_neg h]
    by_cases h2 : x.f0 > y.f0
    · rw [if_pos h2]; exact ⟨fun h3 => absurd h3 (by decide), fun h3 => absurd h3 h⟩
    · rw [if_neg h2]; exact ⟨fun h3 => absurd h3 (by decide), fun h3 => absurd h3 h⟩
theorem stable_any (g cap : Nat) (d : Array S60) (w : World) (hH : HoldsK encS 4 w g 0 d) (hg : g < w.heap.size) (hsz : d.size < 2305843009213693952) :
    Calls Tryd.prog 80 #[.slice (some ⟨g, 0, none⟩) d.size cap, .int .i64 (d.size : Int), .func (.func 57) #[] #[]] w fun e w' =>
      e = .returned (.tuple #[]) ∧ ∃ n os r, w' = sortWorldK encS 4 w g 0 n r os ∧ r.toList = Srt.srt keyS d.toList := by
  refine (stable_calls 4 Tryd.isAgg60 Tryd.sizeOf60 keyS cmpS cmpS_lt encS 57 #[] g 0 cap (enters_of Tryd.func57 (by kernel_rfl) rfl) d d w w (fun _ _ _ _ x y => sort_cmp x y _) ⟨encS_len, encS_one, hH, hg⟩ rfl (SWK.start hH) hsz).mono ?_
  rintro e w' ⟨rfl, r, hB, hS, ⟨n, os, rfl⟩⟩
  have hs : r.size = d.size := by simpa using hB.1.symm
  exact ⟨rfl, n, os, r, rfl, Srt.srt_of hB (Srt.pairwise_of r (by rw [hs]; exact hS))⟩
set_option maxHeartbeats 4000000 in
set_option maxRecDepth 1000000 in
theorem sortstable_any (g cap : Nat) (d : Array S60) (w : World) (hH : HoldsK encS 4 w g 0 d) (hg : g < w.heap.size) (hsz : d.size < 2305843009213693952) :
    Calls Tryd.prog 56 #[.slice (some ⟨g, 0, none⟩) d.size cap, .func (.func 57) #[] #[]] w fun e w' =>
      e = .returned (.tuple #[]) ∧ ∃ n os r, w' = sortWorldK encS 4 w g 0 n r os ∧ r.toList = Srt.srt keyS d.toList := by
  have HC := Aside0.mk (stable_any g cap d w hH hg hsz)
  clear hH hsz
  generalize Srt.srt keyS d.toList = R_ at HC ⊢
  go_enter Tryd.func56, Tryd.ntmps56
  go_wp2_with (go_at_call 80; refine HC.out.mono ?_; rintro e w1 ⟨rfl, HS⟩; have HW := Aside0.mk HS; clear HS)
  go_end0
  exact ⟨rfl, HW.out⟩
set_option maxHeartbeats 4000000 in
set_option maxRecDepth 1000000 in
theorem insert_none (A : Option Addr) (cap : Nat) (w : World) :
    Calls Tryd.prog 97 #[.slice A 0 cap, .int .i64 0, .int .i64 0, .func (.func 57) #[] #[]] w fun e w' => e = .returned (.tuple #[]) ∧ w' = w := by
  go_enter Tryd.func97, Tryd.ntmps97
  go_wp2
  go_loopg [8] 1 (fun _ v8 wr => v8 = .int .i64 1 ∧ wr = w)
  case atStart => exact ⟨rfl, rfl⟩
  case round =>
    obtain ⟨rfl, rfl⟩ := hrel
    go_wp2
    go_end0
    exact ⟨rfl, rfl⟩
set_option maxHeartbeats 4000000 in
set_option maxRecDepth 1000000 in
theorem stable_none (A : Option Addr) (cap : Nat) (w : World) :
    Calls Tryd.prog 80 #[.slice A 0 cap, .int .i64 0, .func (.func 57) #[] #[]] w fun e w' => e = .returned (.tuple #[]) ∧ w' = w := by
  go_enter Tryd.func80, Tryd.ntmps80
  go_wp2
  go_loopg [7, 8] 1 (fun _ v7 v8 wr => v7 = .int .i64 0 ∧ v8 = .int .i64 20 ∧ wr = w)
  case atStart => exact ⟨rfl, rfl, rfl⟩
  case round =>
    obtain ⟨rfl, rfl, rfl⟩ := hrel
    go_wp2_with (go_at_call 97; refine (insert_none A cap _).mono ?_; rintro e w1 ⟨rfl, rfl⟩)
    go_loopg [6] 1 (fun _ v6 wx => v6 = .int .i64 20 ∧ wx = w1)
    case atStart => exact ⟨rfl, rfl⟩
    case round =>
      obtain ⟨rfl, rfl⟩ := hrel
      go_wp2
      go_end0
      exact ⟨rfl, rfl⟩
set_option maxHeartbeats 4000000 in
set_option maxRecDepth 1000000 in
theorem sortstable_none (A : Option Addr) (cap : Nat) (w : World) :
    Calls Tryd.prog 56 #[.slice A 0 cap, .func (.func 57) #[] #[]] w fun e w' => e = .returned (.tuple #[]) ∧ w' = w := by
  go_enter Tryd.func56, Tryd.ntmps56
  go_wp2_with (go_at_call 80; refine (stable_none A cap _).mono ?_; rintro e w1 ⟨rfl, rfl⟩)
  go_end0
  exact ⟨rfl, rfl⟩
def props_Sort.f (l0 : List (S60)) : Option (List (S60)) := if l0.length < 3518437208832 then some (Srt.srt keyS l0) else none
theorem sortstable_own {W0 W : World} {v : Value} {xs : List S60} (hr : Kd.R k60 60 W W0.heap.size (fun _ => True) v xs) (hB : Below W0.heap.size W0 W) (hsz : xs.length < 3518437208832) :
    ∃ A c, v = .slice A xs.length c ∧ Calls Tryd.prog 56 #[.slice A xs.length c, .func (.func 57) #[] #[]] W fun e w' =>
      e = .returned (.tuple #[]) ∧ Kd.R k60 60 w' W0.heap.size (fun _ => True) (.slice A xs.length c) (Srt.srt keyS xs) ∧ Below W0.heap.size W0 w' := by
  cases xs with
  | nil =>
    obtain ⟨A, c, rfl, _, _⟩ := Kd.R_reads hr
    exact ⟨A, c, rfl, (sortstable_none A c W).mono fun e w' ⟨he, hw⟩ => by subst hw; exact ⟨he, hr, hB⟩⟩
  | cons x r =>
    obtain ⟨g, cap, cur, rfl, hb, _, hh, h1, h2, h3, h4⟩ := own_open hr (by simp)
    refine ⟨_, cap, rfl, ?_⟩
    have hs : (x :: r).toArray.size = (x :: r).length := by simp
    have h := sortstable_any g cap (x :: r).toArray W (holds_of hh _ (by simpa using h4)) (blk_lt hh) (by rw [hs]; omega)
    rw [hs] at h
    refine h.mono fun e w' ⟨he, n, os, D, hw, hl⟩ => ?_
    have hlen : (Srt.srt keyS (x :: r)).length = (x :: r).length := (Srt.srt_stb (key := keyS) (x :: r)).1.symm
    have hD : D.size = (x :: r).length := by rw [← hlen, ← hl]; simp
    obtain ⟨cur', hc1, hc2, hc3⟩ := block_of hh n D os (by rw [hD, h3]; omega)
    subst hw
    refine ⟨he, ?_, hB.grown (sort_grown W g n D os) hB.size (fun k e => by cases e; exact hb)⟩
    have := own_shut (ys := Srt.srt keyS (x :: r)) (ok := fun _ => True) hb trivial hc1 (by rw [hlen]; exact h1) h2 (by rw [hc2]; exact h3) (by rw [hlen, ← hD, hc3, hl])
    rw [hlen] at this
    exact this
set_option maxHeartbeats 4000000 in
set_option maxRecDepth 1000000 in
theorem props_Sort.calls (A0 : Option Addr) (c0 : Nat) (l0 : List (S60)) (r : List (S60)) (w : World) (hr0 : Kd.C k60 w A0 l0.length l0) (hc0 : l0.length ≤ c0) (h : props_Sort.f l0 = some r) :
    Calls Tryd.prog 29 #[.slice A0 l0.length c0] w fun e w' => ∃ v0_ : Value, e = .returned (v0_) ∧ Kd.R k60 60 w' w.heap.size (fun _ => True) v0_ r ∧ Below w.heap.size w w' := by
  unfold props_Sort.f at h
  split at h
  · rename_i h20
    obtain rfl := Option.some.inj h
    have HF := Aside0.mk (show slices_Clone_prop_Prop_prop_Prop.f l0 = some l0 by unfold slices_Clone_prop_Prop_prop_Prop.f; rw [if_pos (by omega)])
    have HR := Aside0.mk hr0
    have HC := Aside0.mk hc0
    have H20 := Aside0.mk h20
    clear hr0 hc0 h20 h
    go_enter Tryd.func29, Tryd.ntmps29
    go_wp2_with (first | (go_at_call 55; refine (slices_Clone_prop_Prop_prop_Prop.calls A0 c0 l0 l0 _ HR.out HC.out HF.out).mono ?_; rintro e w1 ⟨v, rfl, ho, hb⟩; obtain ⟨A', c', rfl, hc⟩ := sortstable_own ho hb H20.out; have HS := Aside0.mk hc; clear ho hb hc) | (go_at_call 56; refine HS.out.mono ?_; rintro e w2 ⟨rfl, ho, hb⟩; have HO := Aside0.mk ho; have HB := Aside0.mk hb; clear ho hb))
    go_ret
    exact ⟨_, rfl, HO.out, HB.out⟩
  · cases h
end Go.Proofs.YtkmkgpigmldhnaaDoor.P

namespace Go.Proofs.YtkmkgpigmldhnaaDoor.P
open Go.RowKit Go.Proofs.YtkmkgpigmldhnaaDoorW.PrintWords Go.Proofs.YtkmkgpigmldhnaaDoorW.PrintLast Go.Proofs.YtkmkgpigmldhnaaDoorW.PrintMore
attribute [local go_sem] max2_int min2_int max_two min_two max_three min_three max_four min_four
set_option linter.unusedVariables false
set_option linter.unusedSimpArgs false
def IsS45 (w0 W : World) (g : Nat) (f0 : ByteArray) (f1 : Int) (f2 : Int) : Prop := W.heap[g]? = some (.cells #[.string f0, .int .i64 f1, .int .i64 f2] 45 (0, 0)) ∧ w0.heap.size ≤ g
theorem IsS45.grown {w0 W : World} {g : Nat} {f0 : ByteArray} {f1 : Int} {f2 : Int} {W1 : World} {row : Option Nat} (h : IsS45 w0 W g f0 f1 f2) (hw : W.grownBy W1 row) (hne : some g ≠ row) : IsS45 w0 W1 g f0 f1 f2 := by
  obtain ⟨hb, hg⟩ := h
  exact ⟨blk_grown hb hw hne, hg⟩
theorem IsS45.kept {w0 W : World} {g : Nat} {f0 : ByteArray} {f1 : Int} {f2 : Int} {W1 : World} {S : Nat → Prop} (h : IsS45 w0 W g f0 f1 f2) (hk : Kept W W1 S) (hne : ¬ S g) : IsS45 w0 W1 g f0 f1 f2 := by
  obtain ⟨hb, hg⟩ := h
  exact ⟨blk_kept hb hk hne, hg⟩
theorem IsS45.below {w0 W : World} {g : Nat} {f0 : ByteArray} {f1 : Int} {f2 : Int} {W1 : World} (h : IsS45 w0 W g f0 f1 f2) (hw : Below W.heap.size W W1) : IsS45 w0 W1 g f0 f1 f2 := h.grown (grown_of_below hw none) (by simp)
theorem IsS45.alloc {w0 W : World} {g : Nat} {f0 : ByteArray} {f1 : Int} {f2 : Int} (h : IsS45 w0 W g f0 f1 f2) (o : Obj) : IsS45 w0 (W.alloc o) g f0 f1 f2 := h.below (below_alloc (Below.refl _ _) o)
theorem IsS45.drewN {w0 W : World} {g : Nat} {f0 : ByteArray} {f1 : Int} {f2 : Int} (h : IsS45 w0 W g f0 f1 f2) (m : Nat) : IsS45 w0 (W.drewN m) g f0 f1 f2 := h
theorem IsS45.drew {w0 W : World} {g : Nat} {f0 : ByteArray} {f1 : Int} {f2 : Int} (h : IsS45 w0 W g f0 f1 f2) : IsS45 w0 W.drew g f0 f1 f2 := h
theorem IsS45.at_ {w0 W : World} {g : Nat} {f0 : ByteArray} {f1 : Int} {f2 : Int} {w' : World} {m : Nat} (hq : W.drewN m = w') (h : IsS45 w0 W g f0 f1 f2) : IsS45 w0 w' g f0 f1 f2 := by subst hq; exact IsS45.drewN h m
theorem IsS45.apart {w0 W : World} {g : Nat} {f0 : ByteArray} {f1 : Int} {f2 : Int} {α : Type} {d : Kd α} {e : Nat} {base : Nat} {ok : Nat → Prop} {v : Value} {xs : List α} (h : IsS45 w0 W g f0 f1 f2) (ho : d.R e W base ok v xs) (ht : ∀ q, q ∈ e :: d.E → q ≠ 45) : d.R e W base (fun k => ok k ∧ k ≠ g) v xs := by
  obtain ⟨hb, hg⟩ := h
  exact Kd.R_types ho hb ht
theorem IsS45.own_ne {w0 W : World} {g : Nat} {f0 : ByteArray} {f1 : Int} {f2 : Int} {α : Type} {d : Kd α} {e : Nat} {base : Nat} {ok : Nat → Prop} {v : Value} {xs : List α} (h : IsS45 w0 W g f0 f1 f2) (ho : d.R e W base ok v xs) (ht : e ≠ 45) : some g ≠ v.ownBlock := by
  obtain ⟨hb, hg⟩ := h
  exact Kd.R_ne ho hb ht
theorem IsS45.lt {w0 W : World} {g : Nat} {f0 : ByteArray} {f1 : Int} {f2 : Int} (h : IsS45 w0 W g f0 f1 f2) : g < W.heap.size := by
  obtain ⟨hb, hg⟩ := h
  exact blk_lt hb
theorem IsS45.ge {w0 W : World} {g : Nat} {f0 : ByteArray} {f1 : Int} {f2 : Int} (h : IsS45 w0 W g f0 f1 f2) : w0.heap.size ≤ g := by
  obtain ⟨hb, hg⟩ := h
  exact hg
theorem IsS45.ne_blk {w0 W : World} {g : Nat} {f0 : ByteArray} {f1 : Int} {f2 : Int} {a : Nat} {cs : Array Value} {t : TypeId} {fr : Nat × Nat} (h : IsS45 w0 W g f0 f1 f2) (hb2 : W.heap[a]? = some (.cells cs t fr)) (ht : t ≠ 45) : g ≠ a := by
  obtain ⟨hb, hg⟩ := h
  rintro rfl
  rw [hb] at hb2
  injection hb2 with hb2
  injection hb2 with _ ht2
  exact ht ht2.symm
theorem IsS45.far {w0 W : World} {g : Nat} {f0 : ByteArray} {f1 : Int} {f2 : Int} {p : Addr} (h : IsS45 w0 W g f0 f1 f2) (hne : g ≠ p.block) (u : Value) : IsS45 w0 (W.setCell p u) g f0 f1 f2 := by
  obtain ⟨hb, hg⟩ := h
  exact ⟨blk_far hb hne u, hg⟩
theorem cellS45_0 {W : World} {g : Nat} {f0 : ByteArray} {f1 : Int} {f2 : Int} (h : W.heap[g]? = some (.cells #[.string f0, .int .i64 f1, .int .i64 f2] 45 (0, 0))) : W.cell? ⟨g, 0, none⟩ = some (.string f0) := (blk_cell h 0).trans rfl
theorem IsS45.set_0 {w0 W : World} {g : Nat} {f0 : ByteArray} {f1 : Int} {f2 : Int} (h : IsS45 w0 W g f0 f1 f2) (x : ByteArray) : IsS45 w0 (W.setCell ⟨g, 0, none⟩ (.string x)) g x f1 f2 := by
  obtain ⟨hb, hg⟩ := h
  exact ⟨by simpa using blk_set hb 0 (.string x), hg⟩
theorem cellS45_1 {W : World} {g : Nat} {f0 : ByteArray} {f1 : Int} {f2 : Int} (h : W.heap[g]? = some (.cells #[.string f0, .int .i64 f1, .int .i64 f2] 45 (0, 0))) : W.cell? ⟨g, 1, none⟩ = some (.int .i64 f1) := (blk_cell h 1).trans rfl
theorem IsS45.set_1 {w0 W : World} {g : Nat} {f0 : ByteArray} {f1 : Int} {f2 : Int} (h : IsS45 w0 W g f0 f1 f2) (x : Int) : IsS45 w0 (W.setCell ⟨g, 1, none⟩ (.int .i64 x)) g f0 x f2 := by
  obtain ⟨hb, hg⟩ := h
  exact ⟨by simpa using blk_set hb 1 (.int .i64 x), hg⟩
theorem cellS45_2 {W : World} {g : Nat} {f0 : ByteArray} {f1 : Int} {f2 : Int} (h : W.heap[g]? = some (.cells #[.string f0, .int .i64 f1, .int .i64 f2] 45 (0, 0))) : W.cell? ⟨g, 2, none⟩ = some (.int .i64 f2) := (blk_cell h 2).trans rfl
theorem IsS45.set_2 {w0 W : World} {g : Nat} {f0 : ByteArray} {f1 : Int} {f2 : Int} (h : IsS45 w0 W g f0 f1 f2) (x : Int) : IsS45 w0 (W.setCell ⟨g, 2, none⟩ (.int .i64 x)) g f0 f1 x := by
  obtain ⟨hb, hg⟩ := h
  exact ⟨by simpa using blk_set hb 2 (.int .i64 x), hg⟩
theorem IsS45.new (w0 W : World) (f0 : ByteArray) (f1 : Int) (f2 : Int) (hB : Below w0.heap.size w0 W) : IsS45 w0 (W.alloc (.cells #[.string f0, .int .i64 f1, .int .i64 f2] 45)) W.heap.size f0 f1 f2 := ⟨by simpa using heap_alloc_new W _, hB.size⟩
end Go.Proofs.YtkmkgpigmldhnaaDoor.P

namespace Go.Proofs.YtkmkgpigmldhnaaDoor.P
open Go.RowKit Go.Proofs.YtkmkgpigmldhnaaDoorW.PrintWords Go.Proofs.YtkmkgpigmldhnaaDoorW.PrintLast Go.Proofs.YtkmkgpigmldhnaaDoorW.PrintMore
attribute [local go_sem] max2_int min2_int max_two min_two max_three min_three max_four min_four
set_option linter.unusedVariables false
set_option linter.unusedSimpArgs false
def pouchref01_Reader_take.f (s0_0 : ByteArray) (s0_1 : Int) (s0_2 : Int) (a1 : Int) : Option (ByteArray × Bool × ByteArray × Int × Int) := if s0_2 = 0 then (if a1 < 0 then (some ((⟨#[]⟩ : ByteArray), false, s0_0, s0_1, 2)) else (if a1 > (wrap64 ((s0_0.size : Int) - s0_1)) then (some ((⟨#[]⟩ : ByteArray), false, s0_0, s0_1, 2)) else (if 0 ≤ s0_1 then (if s0_1 ≤ (wrap64 (s0_1 + a1)) then (if (wrap64 (s0_1 + a1)) ≤ (s0_0.size : Int) then (some (s0_0.extract (s0_1 : Int).toNat ((wrap64 (s0_1 + a1)) : Int).toNat, true, s0_0, wrap64 (s0_1 + a1), s0_2)) else (none)) else (none)) else (none)))) else (some ((⟨#[]⟩ : ByteArray), false, s0_0, s0_1, s0_2))
set_option maxHeartbeats 8000000 in
set_option maxRecDepth 100000 in
theorem pouchref01_Reader_take.calls (g : Nat) (s0_0 : ByteArray) (s0_1 : Int) (s0_2 : Int) (a1 : Int) (r1 : ByteArray) (r2 : Bool) (r3 : ByteArray) (r4 : Int) (r5 : Int) (w0 w : World) (hI : IsS45 w0 w g s0_0 s0_1 s0_2) (hB : Below w0.heap.size w0 w) (h : pouchref01_Reader_take.f s0_0 s0_1 s0_2 a1 = some (r1, r2, r3, r4, r5)) :
    Calls Tryd.prog 74 #[.pointer (some ⟨g, 0, none⟩), .int .i64 a1] w fun e w' => e = .returned (.tuple #[.string r1, .bool r2]) ∧ IsS45 w0 w' g r3 r4 r5 ∧ Below w0.heap.size w0 w' ∧ KeepBut w w' g none := by
  have HI0 := Aside0.mk hI
  have HK := Aside0.mk (KeepBut.refl w g none)
  have HL := Aside0.mk hB.size
  clear hI
  have HW0 := Aside0.mk hB.size
  have HB := Aside0.mk hB
  clear hB
  have H : (if s0_2 = 0 then (if a1 < 0 then (some ((⟨#[]⟩ : ByteArray), false, s0_0, s0_1, 2)) else (if a1 > (wrap64 ((s0_0.size : Int) - s0_1)) then (some ((⟨#[]⟩ : ByteArray), false, s0_0, s0_1, 2)) else (if 0 ≤ s0_1 then (if s0_1 ≤ (wrap64 (s0_1 + a1)) then (if (wrap64 (s0_1 + a1)) ≤ (s0_0.size : Int) then (some (s0_0.extract (s0_1 : Int).toNat ((wrap64 (s0_1 + a1)) : Int).toNat, true, s0_0, wrap64 (s0_1 + a1), s0_2)) else (none)) else (none)) else (none)))) else (some ((⟨#[]⟩ : ByteArray), false, s0_0, s0_1, s0_2))) = some (r1, r2, r3, r4, r5) := h
  clear h
  by_cases c3 : s0_2 = 0
  · rw [if_pos c3] at H
    have c3b0 : (s0_2 == 0) = true := beq_iff_eq.mpr c3
    have c3b1 : (s0_2 != 0) = false := bne_eq_false_iff_eq.mpr c3
    clear c3
    by_cases c4 : a1 < 0
    · rw [if_pos c4] at H
      have c4b0 : decide (a1 < 0) = true := decide_eq_true c4
      clear c4
      simp only [Option.some.injEq, Prod.mk.injEq] at H
      obtain ⟨rfl, rfl, rfl, rfl, rfl⟩ := H
      obtain ⟨HGz5, hgz5⟩ := HI0.out
      have hcz5_0 := cellS45_0 HGz5
      have hcz5_1 := cellS45_1 HGz5
      have hcz5_2 := cellS45_2 HGz5
      have hfz5_0 := blk_frozen HGz5 0
      have hfz5_1 := blk_frozen HGz5 1
      have hfz5_2 := blk_frozen HGz5 2
      clear HGz5 hgz5
      go_enter Tryd.func74, Tryd.ntmps74
      go_wp2
      repeat (go_quiet (fail); try go_wp2)
      go_ret2
      exact ⟨by first | rfl | (simp [errW_none, errW_some] <;> rfl) | (simp [*, errW_none, errW_some] <;> rfl), by repeat (first | (with_reducible first | exact HI0.out | apply IsS45.alloc | apply IsS45.drewN | apply IsS45.drew | apply IsS45.set_0 | apply IsS45.set_1 | apply IsS45.set_2) | exact HI0.out), by repeat (first | (with_reducible first | exact HB.out | apply below_alloc | apply pw_below_drewN | apply below_drew1 | refine below_set ?_ (IsS45.ge HI0.out)) | exact HB.out), by repeat (first | (with_reducible first | exact HK.out | apply KeepBut.set_ | apply keep_drewN | apply keep_drew | apply keep_alloc) | exact HK.out)⟩
    · rw [if_neg c4] at H
      have c4b0 : decide (a1 < 0) = false := decide_eq_false c4
      clear c4
      by_cases c6 : a1 > (wrap64 ((s0_0.size : Int) - s0_1))
      · rw [if_pos c6] at H
        have c6b0 : decide ((wrap64 ((s0_0.size : Int) - s0_1)) < a1) = true := decide_eq_true c6
        clear c6
        simp only [Option.some.injEq, Prod.mk.injEq] at H
        obtain ⟨rfl, rfl, rfl, rfl, rfl⟩ := H
        obtain ⟨HGz7, hgz7⟩ := HI0.out
        have hcz7_0 := cellS45_0 HGz7
        have hcz7_1 := cellS45_1 HGz7
        have hcz7_2 := cellS45_2 HGz7
        have hfz7_0 := blk_frozen HGz7 0
        have hfz7_1 := blk_frozen HGz7 1
        have hfz7_2 := blk_frozen HGz7 2
        clear HGz7 hgz7
        go_enter Tryd.func74, Tryd.ntmps74
        go_wp2
        repeat (go_quiet (fail); try go_wp2)
        go_ret2
        exact ⟨by first | rfl | (simp [errW_none, errW_some] <;> rfl) | (simp [*, errW_none, errW_some] <;> rfl), by repeat (first | (with_reducible first | exact HI0.out | apply IsS45.alloc | apply IsS45.drewN | apply IsS45.drew | apply IsS45.set_0 | apply IsS45.set_1 | apply IsS45.set_2) | exact HI0.out), by repeat (first | (with_reducible first | exact HB.out | apply below_alloc | apply pw_below_drewN | apply below_drew1 | refine below_set ?_ (IsS45.ge HI0.out)) | exact HB.out), by repeat (first | (with_reducible first | exact HK.out | apply KeepBut.set_ | apply keep_drewN | apply keep_drew | apply keep_alloc) | exact HK.out)⟩
      · rw [if_neg c6] at H
        have c6b0 : decide ((wrap64 ((s0_0.size : Int) - s0_1)) < a1) = false := decide_eq_false c6
        clear c6
        by_cases c8 : 0 ≤ s0_1
        · rw [if_pos c8] at H
          have c8b0 := eq_true c8
          have c8b1 : decide (0 ≤ s0_1) = true := decide_eq_true c8
          clear c8
          by_cases c9 : s0_1 ≤ (wrap64 (s0_1 + a1))
          · rw [if_pos c9] at H
            have c9b0 := eq_true c9
            have c9b1 : decide (s0_1 ≤ (wrap64 (s0_1 + a1))) = true := decide_eq_true c9
            by_cases c10 : (wrap64 (s0_1 + a1)) ≤ (s0_0.size : Int)
            · rw [if_pos c10] at H
              have c10b0 := eq_true c10
              have c10b1 : decide ((wrap64 (s0_1 + a1)) ≤ (s0_0.size : Int)) = true := decide_eq_true c10
              simp only [Option.some.injEq, Prod.mk.injEq] at H
              obtain ⟨rfl, rfl, rfl, rfl, rfl⟩ := H
              obtain ⟨HGz11, hgz11⟩ := HI0.out
              have hcz11_0 := cellS45_0 HGz11
              have hcz11_1 := cellS45_1 HGz11
              have hcz11_2 := cellS45_2 HGz11
              have hfz11_0 := blk_frozen HGz11 0
              have hfz11_1 := blk_frozen HGz11 1
              have hfz11_2 := blk_frozen HGz11 2
              clear HGz11 hgz11
              go_enter Tryd.func74, Tryd.ntmps74
              go_wp2
              repeat (go_quiet (fail); try go_wp2)
              go_ret2
              exact ⟨by first | rfl | (simp [errW_none, errW_some] <;> rfl) | (simp [*, errW_none, errW_some] <;> rfl), by repeat (first | (with_reducible first | exact HI0.out | apply IsS45.alloc | apply IsS45.drewN | apply IsS45.drew | apply IsS45.set_0 | apply IsS45.set_1 | apply IsS45.set_2) | exact HI0.out), by repeat (first | (with_reducible first | exact HB.out | apply below_alloc | apply pw_below_drewN | apply below_drew1 | refine below_set ?_ (IsS45.ge HI0.out)) | exact HB.out), by repeat (first | (with_reducible first | exact HK.out | apply KeepBut.set_ | apply keep_drewN | apply keep_drew | apply keep_alloc) | exact HK.out)⟩
            · rw [if_neg c10] at H
              exact absurd H (by simp)
          · rw [if_neg c9] at H
            exact absurd H (by simp)
        · rw [if_neg c8] at H
          exact absurd H (by simp)
  · rw [if_neg c3] at H
    have c3b0 : (s0_2 == 0) = false := beq_eq_false_iff_ne.mpr c3
    have c3b1 : (s0_2 != 0) = true := bne_iff_ne.mpr c3
    simp only [Option.some.injEq, Prod.mk.injEq] at H
    obtain ⟨rfl, rfl, rfl, rfl, rfl⟩ := H
    obtain ⟨HGz12, hgz12⟩ := HI0.out
    have hcz12_0 := cellS45_0 HGz12
    have hcz12_1 := cellS45_1 HGz12
    have hcz12_2 := cellS45_2 HGz12
    have hfz12_0 := blk_frozen HGz12 0
    have hfz12_1 := blk_frozen HGz12 1
    have hfz12_2 := blk_frozen HGz12 2
    clear HGz12 hgz12
    go_enter Tryd.func74, Tryd.ntmps74
    go_wp2
    repeat (go_quiet (fail); try go_wp2)
    go_ret2
    exact ⟨by first | rfl | (simp [errW_none, errW_some] <;> rfl) | (simp [*, errW_none, errW_some] <;> rfl), by repeat (first | (with_reducible first | exact HI0.out | apply IsS45.alloc | apply IsS45.drewN | apply IsS45.drew | apply IsS45.set_0 | apply IsS45.set_1 | apply IsS45.set_2) | exact HI0.out), by repeat (first | (with_reducible first | exact HB.out | apply below_alloc | apply pw_below_drewN | apply below_drew1 | refine below_set ?_ (IsS45.ge HI0.out)) | exact HB.out), by repeat (first | (with_reducible first | exact HK.out | apply KeepBut.set_ | apply keep_drewN | apply keep_drew | apply keep_alloc) | exact HK.out)⟩
end Go.Proofs.YtkmkgpigmldhnaaDoor.P

namespace Go.Proofs.YtkmkgpigmldhnaaDoor.P
open Go.RowKit Go.Shelf Go.Lib Go.Proofs.YtkmkgpigmldhnaaDoorW.PrintWords Go.Proofs.YtkmkgpigmldhnaaDoorW.PrintLast Go.Proofs.YtkmkgpigmldhnaaDoorW.PrintMore
set_option maxHeartbeats 4000000 in
set_option maxRecDepth 100000 in
theorem wire_Reader_Sub.calls (g : Nat) (s0 : ByteArray) (s1 n : Int) (t : ByteArray) (ok : Bool) (r0 : ByteArray) (r1 : Int) (w0 w : World) (hI : IsS78 w0 w g s0 s1) (hB : Below w0.heap.size w0 w) (h : wire_Reader_take.f s0 s1 n = some (t, ok, r0, r1)) :
    Calls Tryd.prog 42 #[.pointer (some ⟨g, 0, none⟩), .int .i64 n] w fun e w' => ∃ g2, e = .returned (.pointer (some ⟨g2, 0, none⟩)) ∧ IsS78 w0 w' g r0 r1 ∧ IsS78 w0 w' g2 t r1 ∧ w.heap.size ≤ g2 ∧ Below w0.heap.size w0 w' ∧ KeepBut w w' g none := by
  have hu := Tryd.underlying78
  have HI := Aside0.mk hI
  have HB := Aside0.mk hB
  have HH := Aside0.mk h
  have he : ∀ w : World, (binOp BinOp.eql 32 (.pointer (some ⟨g, 0, none⟩)) (.pointer none)).run Tryd.prog w = .ok (.bool false) w := fun _ => by kernel_rfl
  clear hI hB h
  go_enter Tryd.func42, Tryd.ntmps42
  go_wp2_with (go_at_call 41; refine (wire_Reader_take.calls g s0 s1 n t ok r0 r1 w0 _ HI.out HB.out HH.out).mono ?_; rintro e w1 ⟨rfl, hi, hb, hk⟩; have HI1 := Aside0.mk hi; have HB1 := Aside0.mk hb; have HK1 := Aside0.mk hk; have hc1 := cellS78_1 hi.1; have hf1 := blk_frozen hi.1 1; clear hi hb hk)
  go_ret
  exact ⟨_, rfl, HI1.out.alloc _, IsS78.new w0 w1 t r1 HB1.out, HK1.out.1, below_alloc HB1.out _, keep_alloc HK1.out _⟩
set_option maxHeartbeats 4000000 in
set_option maxRecDepth 100000 in
theorem pouchref01_Reader_Sub.calls (g : Nat) (s0 : ByteArray) (s1 s2 n : Int) (t : ByteArray) (ok : Bool) (r0 : ByteArray) (r1 r2 : Int) (w0 w : World) (hI : IsS45 w0 w g s0 s1 s2) (hB : Below w0.heap.size w0 w) (h : pouchref01_Reader_take.f s0 s1 s2 n = some (t, ok, r0, r1, r2)) :
    Calls Tryd.prog 47 #[.pointer (some ⟨g, 0, none⟩), .int .i64 n] w fun e w' => ∃ g2, e = .returned (.pointer (some ⟨g2, 0, none⟩)) ∧ IsS45 w0 w' g r0 r1 r2 ∧ IsS45 w0 w' g2 (if ok = true then t else (⟨#[]⟩ : ByteArray)) 0 (if ok = true then 0 else r2) ∧ w.heap.size ≤ g2 ∧ Below w0.heap.size w0 w' ∧ KeepBut w w' g none := by
  have hu := Tryd.underlying45
  have HI := Aside0.mk hI
  have HB := Aside0.mk hB
  have HH := Aside0.mk h
  clear hI hB h
  go_enter Tryd.func47, Tryd.ntmps47
  cases ok with
  | true =>
    go_wp2_with (go_at_call 74; refine (pouchref01_Reader_take.calls g s0 s1 s2 n t true r0 r1 r2 w0 _ HI.out HB.out HH.out).mono ?_; rintro e w1 ⟨rfl, hi, hb, hk⟩; have HI1 := Aside0.mk hi; have HB1 := Aside0.mk hb; have HK1 := Aside0.mk hk; have hc2 := cellS45_2 hi.1; have hf2 := blk_frozen hi.1 2; clear hi hb hk)
    go_ret
    exact ⟨_, rfl, HI1.out.alloc _, IsS45.new w0 w1 t 0 0 HB1.out, HK1.out.1, below_alloc HB1.out _, keep_alloc HK1.out _⟩
  | false =>
    go_wp2_with (go_at_call 74; refine (pouchref01_Reader_take.calls g s0 s1 s2 n t false r0 r1 r2 w0 _ HI.out HB.out HH.out).mono ?_; rintro e w1 ⟨rfl, hi, hb, hk⟩; have HI1 := Aside0.mk hi; have HB1 := Aside0.mk hb; have HK1 := Aside0.mk hk; have hc2 := cellS45_2 hi.1; have hf2 := blk_frozen hi.1 2; clear hi hb hk)
    go_ret
    exact ⟨_, rfl, HI1.out.alloc _, IsS45.new w0 w1 ⟨#[]⟩ 0 r2 HB1.out, HK1.out.1, below_alloc HB1.out _, keep_alloc HK1.out _⟩
end Go.Proofs.YtkmkgpigmldhnaaDoor.P

namespace Go.Proofs.YtkmkgpigmldhnaaDoor.P
open Go.RowKit Go.Proofs.YtkmkgpigmldhnaaDoorW.PrintWords Go.Proofs.YtkmkgpigmldhnaaDoorW.PrintLast Go.Proofs.YtkmkgpigmldhnaaDoorW.PrintMore
attribute [local go_sem] max2_int min2_int max_two min_two max_three min_three max_four min_four
set_option linter.unusedVariables false
set_option linter.unusedSimpArgs false
def wire_Reader_Rest.f (s0_0 : ByteArray) (s0_1 : Int) : Option (ByteArray × ByteArray × Int) := (wire_Reader_Left.f s0_0 s0_1).bind fun bt101 => ((wire_Reader_take.f bt101.2.1 bt101.2.2 bt101.1).bind fun bt104 => (some (bt104.1, bt104.2.2.1, bt104.2.2.2)))
theorem z45z0 {p : Prop} (h : p := by repeat (first | (with_reducible first | exact HB.out | apply below_alloc | apply pw_below_drewN | apply below_drew1 | refine below_set ?_ (IsS78.ge HI0.out)) | exact HB.out)) : p := h
theorem z45z1 {p : Prop} (h : p := by repeat (first | (with_reducible first | exact HI0.out | apply IsS78.alloc | apply IsS78.drewN | apply IsS78.drew | apply IsS78.set_0 | apply IsS78.set_1) | exact HI0.out)) : p := h
theorem z45z2 {p : Prop} (h : p := by repeat (first | (with_reducible first | exact HK.out | apply KeepBut.set_ | apply keep_drewN | apply keep_drew | apply keep_alloc) | exact HK.out)) : p := h
theorem z45z3 {p : Prop} (h : p := by (try simp only [List.map_toArray, List.map_cons, List.map_nil]); first | done | rfl | (simp only [List.length_drop, List.length_take]; rfl)) : p := h
set_option maxHeartbeats 8000000 in
set_option maxRecDepth 100000 in
theorem wire_Reader_Rest.calls (g : Nat) (s0_0 : ByteArray) (s0_1 : Int) (r1 : ByteArray) (r2 : ByteArray) (r3 : Int) (w0 w : World) (hI : IsS78 w0 w g s0_0 s0_1) (hB : Below w0.heap.size w0 w) (h : wire_Reader_Rest.f s0_0 s0_1 = some (r1, r2, r3)) :
  Calls Tryd.prog 45 #[.pointer (some ⟨g, 0, none⟩)] w fun e w' => e = .returned (.string r1) ∧ IsS78 w0 w' g r2 r3 ∧ Below w0.heap.size w0 w' ∧ KeepBut w w' g none := by
 have HI0 := Aside0.mk hI
 have HK := Aside0.mk (KeepBut.refl w g none)
 have HL := Aside0.mk hB.size
 clear hI
 have HW0 := Aside0.mk hB.size
 have HB := Aside0.mk hB
 clear hB
 have H : ((wire_Reader_Left.f s0_0 s0_1).bind fun bt101 => ((wire_Reader_take.f bt101.2.1 bt101.2.2 bt101.1).bind fun bt104 => (some (bt104.1, bt104.2.2.1, bt104.2.2.2)))) = some (r1, r2, r3) := h
 clear h
 replace H := Option.bind_eq_some_iff.mp H
 obtain ⟨⟨t101, t102, t103⟩, A20, H⟩ := H
 replace H : ((wire_Reader_take.f t102 t103 t101).bind fun bt104 => (some (bt104.1, bt104.2.2.1, bt104.2.2.2))) = some (r1, r2, r3) := H
 have A2 := Aside0.mk A20
 clear A20
 replace H := Option.bind_eq_some_iff.mp H
 obtain ⟨⟨t104, t105, t106, t107⟩, A30, H⟩ := H
 replace H : (some (t104, t106, t107)) = some (r1, r2, r3) := H
 have A3 := Aside0.mk A30
 clear A30
 simp only [Option.some.injEq, Prod.mk.injEq] at H
 obtain ⟨rfl, rfl, rfl⟩ := H
 go_enter Tryd.func45, Tryd.ntmps45
 go_wp2_with (first | ((with_reducible refine gate_callee (f := 21) rfl ?_); refine goesL_ (some 8) rfl rfl Tryd.func21 (by kernel_rfl) rfl #[.pointer (some ⟨g, 0, none⟩)] rfl z45z3 ?_; (with_reducible refine (wire_Reader_Left.calls g s0_0 s0_1 t101 t102 t103 w0 _ ?side1 ?side2 A2.out).mono ?_); (case side1 => exact z45z1); (case side2 => exact z45z0); rintro e w4 ⟨rfl, hi, hb, hk⟩; refine ⟨_, rfl, ?_⟩; have n0_ := Aside0.mk (KeepBut.trans z45z2 hk (.inl rfl)); have n1_ := Aside0.mk (hb); have n2_ := Aside0.mk (hi); replace HK := n0_; replace HB := n1_; replace HI0 := n2_; clear n0_ n1_ n2_; clear hb hk hi) | ((with_reducible refine gate_callee (f := 41) rfl ?_); refine goesL_ (some 9) rfl rfl Tryd.func41 (by kernel_rfl) rfl #[.pointer (some ⟨g, 0, none⟩), .int .i64 t101] rfl z45z3 ?_; (with_reducible refine (wire_Reader_take.calls g t102 t103 t101 t104 t105 t106 t107 w0 _ ?side1 ?side2 A3.out).mono ?_); (case side1 => exact z45z1); (case side2 => exact z45z0); rintro e w5 ⟨rfl, hi, hb, hk⟩; refine ⟨_, rfl, ?_⟩; have n0_ := Aside0.mk (KeepBut.trans z45z2 hk (.inl rfl)); have n1_ := Aside0.mk (hb); have n2_ := Aside0.mk (hi); replace HK := n0_; replace HB := n1_; replace HI0 := n2_; clear n0_ n1_ n2_; clear hb hk hi))
 go_ret
 exact ⟨by first | rfl | (simp [errW_none, errW_some] <;> rfl) | (simp [*, errW_none, errW_some] <;> rfl), by repeat (first | (with_reducible first | exact HI0.out | apply IsS78.alloc | apply IsS78.drewN | apply IsS78.drew | apply IsS78.set_0 | apply IsS78.set_1) | exact HI0.out), by repeat (first | (with_reducible first | exact HB.out | apply below_alloc | apply pw_below_drewN | apply below_drew1 | refine below_set ?_ (IsS78.ge HI0.out)) | exact HB.out), by repeat (first | (with_reducible first | exact HK.out | apply KeepBut.set_ | apply keep_drewN | apply keep_drew | apply keep_alloc) | exact HK.out)⟩
end Go.Proofs.YtkmkgpigmldhnaaDoor.P
