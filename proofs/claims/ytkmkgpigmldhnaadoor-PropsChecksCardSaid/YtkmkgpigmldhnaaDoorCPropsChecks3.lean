import Derived.BigQuiet
import Derived.Deep.QuietTactic
import Derived.Laws.RangeAny
import Derived.Laws.Runes
import Derived.Lib.OthersKept
import Derived.Test.YtkmkgpigmldhnaaDoorCPropsChecks0
import Derived.Test.YtkmkgpigmldhnaaDoorCPropsChecks1
import Derived.Test.YtkmkgpigmldhnaaDoorCPropsChecks2
set_option linter.unusedVariables false
set_option linter.unusedSimpArgs false
set_option maxHeartbeats 8000000
set_option maxRecDepth 100000
namespace Go.Proofs.YtkmkgpigmldhnaaDoor.P
open Go.RowKit Go.Proofs.YtkmkgpigmldhnaaDoorW.PrintWords Go.Proofs.YtkmkgpigmldhnaaDoorW.PrintLast Go.Proofs.YtkmkgpigmldhnaaDoorW.PrintMore
attribute [local go_sem] max2_int min2_int max_two min_two max_three min_three max_four min_four
def props_one.f (k : Nat) (l0 : List Int) (a1_0 : Int) (a1_1 : Int) (a1_2 : ByteArray) (a1_3 : ByteArray) : Option (List Int) := if l0.length < 140737488355328 then ((some (l0 ++ [a1_0] : List Int)).bind fun y102 => ((prop_Type.f a1_0).bind fun t105 => (if t105 = 1 then ((wire_Byte.f y102 ((a1_1) % 256)).bind fun t106 => (some t106)) else (if t105 = 2 then ((wire_Two.f y102 (IntKind.u16.wrap (a1_1))).bind fun t109 => (some t109)) else (if t105 = 3 then ((wire_Four.f y102 a1_1).bind fun t112 => (some t112)) else (if t105 = 4 then ((wire_Var.f k y102 a1_1).bind fun t115 => (some t115)) else (if t105 = 7 then ((wire_Bin.f y102 a1_2).bind fun t118 => ((wire_Bin.f t118 a1_3).bind fun t121 => (some t121))) else ((wire_Bin.f y102 a1_2).bind fun t124 => (some t124))))))))) else (none)
theorem props_one.mono : ∀ a0 a1 a2 a3 a4 k, LeO (props_one.f k a0 a1 a2 a3 a4) (props_one.f (k + 1) a0 a1 a2 a3 a4) := by
  intro a0 a1 a2 a3 a4 k
  unfold props_one.f
  repeat' first
      | (with_reducible exact wire_Var.mono _ _ _)
      | (with_reducible exact LeO.refl _)
      | (with_reducible exact LeO.none _)
      | (with_reducible refine LeO.ite ?_ ?_)
      | (with_reducible refine LeO.bind ?_ (fun _ => ?_))
      | exact wire_Var.mono _ _ _
      | exact LeO.none _
      | refine LeO.ite ?_ ?_
      | refine LeO.bind ?_ (fun _ => ?_)
def props_one.T12 : Bool × List (List Nat × List Nat) := (true, [([], []), ([], []), ([1], [1]), ([0, 2], [0, 2]), ([], []), ([4], [4]), ([3, 5, 3], [3, 5]), ([6, 6, 0, 1, 2, 3, 4, 5, 6], [6])])
def props_one.B12 : List Nat := [0, 0, 2, 7, 0, 16, 63, 127]
theorem props_one.tab12 : rtab .any (opsOf Tryd.f66 12) = props_one.T12 := by kernel_rfl
theorem props_one.bits12 : waitsOk props_one.T12.2 props_one.B12 = true := by kernel_rfl
theorem z66z0 {p : Prop} (h : p := by repeat (first | (with_reducible first | exact HK.out | apply Kept.alloc | apply Kept.drewN | apply Kept.drew | refine Kept.setCell ?_ (.inr GW101.out) _) | exact HK.out)) : p := h
theorem z66z1 {p : Prop} (h : p := by first | exact HK.out.1 | exact (show Kept w _ (fun k_ => P0_ k_) from by repeat (first | (with_reducible first | exact HK.out | apply Kept.alloc | apply Kept.drewN | apply Kept.drew | refine Kept.setCell ?_ (.inr GW101.out) _) | exact HK.out)).1) : p := h
theorem z66z2 {p : Prop} (h : p := by (with_reducible repeat (first | apply Kd.R_alloc | apply Kd.R_drewN | apply Kd.R_drew)); exact HO0.out) : p := h
theorem z66z3 {p : Prop} (h : p := by first | exact HK.out.1 | exact (show Kept w _ (fun k_ => P0_ k_) from by repeat (first | (with_reducible first | exact HK.out | apply Kept.alloc | apply Kept.drewN | apply Kept.drew) | exact HK.out)).1) : p := h
theorem z66z4 {p : Prop} (h : p := by repeat (first | exact (Kd.R_reads' HO104.out).2.2 | (with_reducible refine Kd.C_alloc ?_ _) | (with_reducible refine Kd.C_drewN ?_ _) | (with_reducible refine Kd.C_drew ?_))) : p := h
theorem z66z5 {p : Prop} (h : p := by repeat (first | (with_reducible first | exact HK.out | apply Kept.alloc | apply Kept.drewN | apply Kept.drew) | exact HK.out)) : p := h
theorem z66z6 {p : Prop} (h : p := by first | (go_simp; done) | (go_simp; rfl)) : p := h
theorem z66z7 {p : Prop} (h : p := by exact (Kd.R_reads' HO104.out).2.1) : p := h
theorem z66z8 {p : Prop} (h : p := by exact Or.inl ⟨by rfl, by rintro w' ⟨s0, s1, s2, s3⟩; go_simp; with_reducible rfl⟩) : p := h
theorem props_one.calls (k : Nat) (P0_ : Nat → Prop) (u9000_ : Value) (l0 : List Int) (a1_0 : Int) (a1_1 : Int) (a1_2 : ByteArray) (a1_3 : ByteArray) (r : List Int) (w0 w : World) (hB : Below w0.heap.size w0 w) (ho0 : Kd.R (Kd.int .u8) 5 w w0.heap.size P0_ u9000_ l0) (h : props_one.f k l0 a1_0 a1_1 a1_2 a1_3 = some r) :
  Calls Tryd.prog 66 #[u9000_, .agg #[.int .u8 a1_0, .int .u32 a1_1, .string a1_2, .string a1_3]] w fun e w' => ∃ v0_ : Value, e = .returned (v0_) ∧ Kd.R (Kd.int .u8) 5 w' w0.heap.size (fun k_ => (P0_ k_ ∨ w.heap.size ≤ k_)) v0_ r ∧ Below w0.heap.size w0 w' ∧ Kept w w' (fun k_ => P0_ k_) := by
 have hu60 := Tryd.underlying60
 have HO0 := Aside0.mk (show Kd.R (Kd.int .u8) 5 w w0.heap.size (fun k_ => (P0_ k_ ∨ w.heap.size ≤ k_)) u9000_ l0 from Kd.R_mono ho0 (fun k_ hk => (.inl hk)))
 have HK := Aside0.mk (Kept.refl w (fun k_ => P0_ k_))
 have HW0 := Aside0.mk hB.size
 have HB := Aside0.mk hB
 clear hB
 have H : (if l0.length < 140737488355328 then ((some (l0 ++ [a1_0] : List Int)).bind fun y102 => ((prop_Type.f a1_0).bind fun t105 => (if t105 = 1 then ((wire_Byte.f y102 ((a1_1) % 256)).bind fun t106 => (some t106)) else (if t105 = 2 then ((wire_Two.f y102 (IntKind.u16.wrap (a1_1))).bind fun t109 => (some t109)) else (if t105 = 3 then ((wire_Four.f y102 a1_1).bind fun t112 => (some t112)) else (if t105 = 4 then ((wire_Var.f k y102 a1_1).bind fun t115 => (some t115)) else (if t105 = 7 then ((wire_Bin.f y102 a1_2).bind fun t118 => ((wire_Bin.f t118 a1_3).bind fun t121 => (some t121))) else ((wire_Bin.f y102 a1_2).bind fun t124 => (some t124))))))))) else (none)) = some r := h
 clear h
 by_cases c3 : l0.length < 140737488355328
 rotate_left
 ·rw [if_neg c3] at H
  exact absurd H (by simp)
 rw [if_pos c3] at H
 have LMc3 := Aside0.mk c3
 clear c3
 obtain ⟨y102, hy102⟩ : ∃ y_ : List Int, y_ = (l0 ++ [a1_0]) := ⟨_, rfl⟩
 replace H : ((prop_Type.f a1_0).bind fun t105 => (if t105 = 1 then ((wire_Byte.f y102 ((a1_1) % 256)).bind fun t106 => (some t106)) else (if t105 = 2 then ((wire_Two.f y102 (IntKind.u16.wrap (a1_1))).bind fun t109 => (some t109)) else (if t105 = 3 then ((wire_Four.f y102 a1_1).bind fun t112 => (some t112)) else (if t105 = 4 then ((wire_Var.f k y102 a1_1).bind fun t115 => (some t115)) else (if t105 = 7 then ((wire_Bin.f y102 a1_2).bind fun t118 => ((wire_Bin.f t118 a1_3).bind fun t121 => (some t121))) else ((wire_Bin.f y102 a1_2).bind fun t124 => (some t124)))))))) = some r := by first | (rw [hy102]; with_reducible exact H) | (have H2_ := (Option.bind_some _ _).symm.trans H; rw [hy102]; with_reducible exact H2_) | (have H2_ := (Option.bind_some _ _).symm.trans H; with_reducible exact H2_) | with_reducible exact H | (rw [hy102]; exact H) | exact H
 have Ny102 := Aside0.mk hy102
 clear hy102
 replace H := Option.bind_eq_some_iff.mp H
 obtain ⟨t105, A40, H⟩ := H
 try dsimp -simprocs only at H
 have A4 := Aside0.mk A40
 clear A40
 by_cases c5 : t105 = 1
 ·rw [if_pos c5] at H
  obtain ⟨c5b0, c5b1⟩ := eqt_ c5
  clear c5
  replace H := Option.bind_eq_some_iff.mp H
  obtain ⟨t106, A60, H⟩ := H
  replace H : (some t106) = some r := H
  have A6 := Aside0.mk A60
  clear A60
  obtain rfl := Option.some.inj H
  go_enter Tryd.func66, Tryd.ntmps66
  go_wp2_with (first | ((with_reducible refine gate_dst (N := 3) rfl ?_); refine box_event ?hg (N := 3) ?hd (cs := #[.int .u8 a1_0, .int .u32 a1_1, .string a1_2, .string a1_3]) (t := 60) ?hr ?_; (case hd => rfl); (case hg => rfl); (case hr => exact z66z6); intro gb101 hg w7 hbox hb; have n0_ := Aside0.mk (Kd.R_below z66z2 hb); have n1_ := Aside0.mk (Kept.below (S := (fun k_ => P0_ k_)) z66z5 hb); have n2_ := Aside0.mk (below_step y0_ hb); have n3_ := Aside0.mk (hbox); have n4_ := Aside0.mk ((by rw [hg]; exact z66z3 : w.heap.size ≤ gb101)); have n5_ := Aside0.mk ((by rw [hg]; exact (below_size y0_) : w0.heap.size ≤ gb101)); replace HO0 := n0_; replace HK := n1_; replace HB := n2_; have BK101 := n3_; have GW101 := n4_; have GE101 := n5_; clear n0_ n1_ n2_ n3_ n4_ n5_; clear hb hbox hg; obtain ⟨hcz8_0, hcz8_1, hcz8_2, hcz8_3⟩ := ccs4_ BK101.out) | ((with_reducible refine gate_builtin (b := .append) (xs := #[.tmp 5, .tmp 8]) rfl ?_); at_builtin; refine Kd.R_append (Kd.int .u8) (w0 := w0) w0.heap.size rfl (.tmp 5) (.tmp 8) 25 5 (.int .u8 0) 1 rfl Tryd.underlying25 info5 rfl (by decide) (by omega) u9000_ l0 a1_0 [.int .u8 a1_0] (fun k_ => (P0_ k_ ∨ w.heap.size ≤ k_)) (fun _ => False) rfl rfl ?aP (fun _ hk => hk.elim) ?aF ?aO ?aB ?aS ?aL ?_; (case aP => exact rfl); (case aB => exact y1_); (case aF => exact (fun k_ hk => (.inr (Nat.le_trans z66z1 hk)))); (case aO => exact z66z2); (case aS => exact (below_size y1_)); (case aL => have := LMc3.out; omega); intro v103 w9 ho hb hg hat; rw [← Ny102.out] at ho; have n0_ := Aside0.mk (blk_grown (g := gb101) (o := .cells #[.int .u8 a1_0, .int .u32 a1_1, .string a1_2, .string a1_3] 60 (0, 0)) y3_ hg (Kd.R_ne HO0.out BK101.out (by decide))); have n1_ := Aside0.mk (hb); have n2_ := Aside0.mk (Kept.of_grown (S := (fun k_ => P0_ k_)) hg z66z0 (fun k_ e_ => (HO0.out.1 k_ e_))); have n3_ := Aside0.mk (ho); replace BK101 := n0_; replace HB := n1_; replace HK := n2_; have HO104 := n3_; clear HO0; clear n0_ n1_ n2_ n3_; clear ho hb hg hat; obtain ⟨hcz10_0, hcz10_1, hcz10_2, hcz10_3⟩ := ccs4_ BK101.out) | ((with_reducible refine gate_callee (f := 82) rfl ?_); refine goesL_ (some 12) rfl rfl Tryd.func82 (by kernel_rfl) rfl #[.int .u8 a1_0] rfl y2_ ?_; (with_reducible refine (prop_Type.calls a1_0 t105 _ A4.out).mono ?_); rintro e w11 ⟨rfl, hb⟩; refine ⟨_, rfl, ?_⟩; have n0_ := Aside0.mk (Kd.R_below y14_ hb); have n1_ := Aside0.mk (blk_below (g := gb101) (o := .cells #[.int .u8 a1_0, .int .u32 a1_1, .string a1_2, .string a1_3] 60 (0, 0)) y3_ hb); have n2_ := Aside0.mk (Kept.below (S := (fun k_ => P0_ k_)) z66z0 hb); have n3_ := Aside0.mk (below_step y1_ hb); replace HO104 := n0_; replace BK101 := n1_; replace HK := n2_; replace HB := n3_; clear n0_ n1_ n2_ n3_; clear hb; obtain ⟨hcz12_0, hcz12_1, hcz12_2, hcz12_3⟩ := ccs4_ BK101.out; obtain ⟨Ao13, co13, eo13⟩ := Kd.R_slice HO104.out; subst eo13) | ((with_reducible refine gate_callee (f := 89) rfl ?_); refine goesL_ (some 19) rfl rfl Tryd.func89 (by kernel_rfl) rfl #[.slice Ao13 y102.length co13, .int .u8 ((a1_1) % 256)] rfl y2_ ?_; (with_reducible refine (wire_Byte.calls _ _ y102 ((a1_1) % 256) t106 _ ?side1 ?side2 A6.out).mono ?_); (case side1 => exact z66z4); (case side2 => exact z66z7); rintro e w14 ⟨v107, rfl, ho0, hb⟩; refine ⟨_, rfl, ?_⟩; have n0_ := Aside0.mk (Kd.R_elder' y14_ (Kd.R_base ho0) hb); have n1_ := Aside0.mk (Kd.R_lower (Kd.R_new' (Kd.R_newM (M := fun k_ => (P0_ k_ ∨ w.heap.size ≤ k_)) ho0 z66z1 (fun k_ h_ => .inr h_)) (Kd.R_lt y14_)) (below_size y1_)); have n2_ := Aside0.mk (blk_below (g := gb101) (o := .cells #[.int .u8 a1_0, .int .u32 a1_1, .string a1_2, .string a1_3] 60 (0, 0)) y3_ hb); have n3_ := Aside0.mk (Kept.below (S := (fun k_ => P0_ k_)) z66z0 hb); have n4_ := Aside0.mk (below_step y1_ hb); replace HO104 := n0_; have HO108 := n1_; replace BK101 := n2_; replace HK := n3_; replace HB := n4_; clear n0_ n1_ n2_ n3_ n4_; clear hb ho0))
  go_ret
  exact ⟨_, y4_, by (with_reducible repeat (first | apply Kd.R_alloc | apply Kd.R_drewN | apply Kd.R_drew)); exact Kd.R_mono HO108.out (fun _ hk => hk.1.1), y1_, z66z0⟩
 rw [if_neg c5] at H
 obtain ⟨c5b0, c5b1⟩ := eqf_ c5
 by_cases c15 : t105 = 2
 ·rw [if_pos c15] at H
  obtain ⟨c15b0, c15b1⟩ := eqt_ c15
  clear c15
  replace H := Option.bind_eq_some_iff.mp H
  obtain ⟨t109, A160, H⟩ := H
  replace H : (some t109) = some r := H
  have A16 := Aside0.mk A160
  clear A160
  obtain rfl := Option.some.inj H
  go_enter Tryd.func66, Tryd.ntmps66
  go_wp2_with (first | ((with_reducible refine gate_dst (N := 3) rfl ?_); refine box_event ?hg (N := 3) ?hd (cs := #[.int .u8 a1_0, .int .u32 a1_1, .string a1_2, .string a1_3]) (t := 60) ?hr ?_; (case hd => rfl); (case hg => rfl); (case hr => exact z66z6); intro gb101 hg w17 hbox hb; have n0_ := Aside0.mk (Kd.R_below z66z2 hb); have n1_ := Aside0.mk (Kept.below (S := (fun k_ => P0_ k_)) z66z5 hb); have n2_ := Aside0.mk (below_step y0_ hb); have n3_ := Aside0.mk (hbox); have n4_ := Aside0.mk ((by rw [hg]; exact z66z3 : w.heap.size ≤ gb101)); have n5_ := Aside0.mk ((by rw [hg]; exact (below_size y0_) : w0.heap.size ≤ gb101)); replace HO0 := n0_; replace HK := n1_; replace HB := n2_; have BK101 := n3_; have GW101 := n4_; have GE101 := n5_; clear n0_ n1_ n2_ n3_ n4_ n5_; clear hb hbox hg; obtain ⟨hcz18_0, hcz18_1, hcz18_2, hcz18_3⟩ := ccs4_ BK101.out) | ((with_reducible refine gate_builtin (b := .append) (xs := #[.tmp 5, .tmp 8]) rfl ?_); at_builtin; refine Kd.R_append (Kd.int .u8) (w0 := w0) w0.heap.size rfl (.tmp 5) (.tmp 8) 25 5 (.int .u8 0) 1 rfl Tryd.underlying25 info5 rfl (by decide) (by omega) u9000_ l0 a1_0 [.int .u8 a1_0] (fun k_ => (P0_ k_ ∨ w.heap.size ≤ k_)) (fun _ => False) rfl rfl ?aP (fun _ hk => hk.elim) ?aF ?aO ?aB ?aS ?aL ?_; (case aP => exact rfl); (case aB => exact y1_); (case aF => exact (fun k_ hk => (.inr (Nat.le_trans z66z1 hk)))); (case aO => exact z66z2); (case aS => exact (below_size y1_)); (case aL => have := LMc3.out; omega); intro v103 w19 ho hb hg hat; rw [← Ny102.out] at ho; have n0_ := Aside0.mk (blk_grown (g := gb101) (o := .cells #[.int .u8 a1_0, .int .u32 a1_1, .string a1_2, .string a1_3] 60 (0, 0)) y3_ hg (Kd.R_ne HO0.out BK101.out (by decide))); have n1_ := Aside0.mk (hb); have n2_ := Aside0.mk (Kept.of_grown (S := (fun k_ => P0_ k_)) hg z66z0 (fun k_ e_ => (HO0.out.1 k_ e_))); have n3_ := Aside0.mk (ho); replace BK101 := n0_; replace HB := n1_; replace HK := n2_; have HO104 := n3_; clear HO0; clear n0_ n1_ n2_ n3_; clear ho hb hg hat; obtain ⟨hcz20_0, hcz20_1, hcz20_2, hcz20_3⟩ := ccs4_ BK101.out) | ((with_reducible refine gate_callee (f := 82) rfl ?_); refine goesL_ (some 12) rfl rfl Tryd.func82 (by kernel_rfl) rfl #[.int .u8 a1_0] rfl y2_ ?_; (with_reducible refine (prop_Type.calls a1_0 t105 _ A4.out).mono ?_); rintro e w21 ⟨rfl, hb⟩; refine ⟨_, rfl, ?_⟩; have n0_ := Aside0.mk (Kd.R_below y14_ hb); have n1_ := Aside0.mk (blk_below (g := gb101) (o := .cells #[.int .u8 a1_0, .int .u32 a1_1, .string a1_2, .string a1_3] 60 (0, 0)) y3_ hb); have n2_ := Aside0.mk (Kept.below (S := (fun k_ => P0_ k_)) z66z0 hb); have n3_ := Aside0.mk (below_step y1_ hb); replace HO104 := n0_; replace BK101 := n1_; replace HK := n2_; replace HB := n3_; clear n0_ n1_ n2_ n3_; clear hb; obtain ⟨hcz22_0, hcz22_1, hcz22_2, hcz22_3⟩ := ccs4_ BK101.out; obtain ⟨Ao23, co23, eo23⟩ := Kd.R_slice HO104.out; subst eo23) | ((with_reducible refine gate_callee (f := 90) rfl ?_); refine goesL_ (some 26) rfl rfl Tryd.func90 (by kernel_rfl) rfl #[.slice Ao23 y102.length co23, .int .u16 (IntKind.u16.wrap (a1_1))] rfl y2_ ?_; (with_reducible refine (wire_Two.calls _ _ y102 (IntKind.u16.wrap (a1_1)) t109 _ ?side1 ?side2 A16.out).mono ?_); (case side1 => exact z66z4); (case side2 => exact z66z7); rintro e w24 ⟨v110, rfl, ho0, hb⟩; refine ⟨_, rfl, ?_⟩; have n0_ := Aside0.mk (Kd.R_elder' y14_ (Kd.R_base ho0) hb); have n1_ := Aside0.mk (Kd.R_lower (Kd.R_new' (Kd.R_newM (M := fun k_ => (P0_ k_ ∨ w.heap.size ≤ k_)) ho0 z66z1 (fun k_ h_ => .inr h_)) (Kd.R_lt y14_)) (below_size y1_)); have n2_ := Aside0.mk (blk_below (g := gb101) (o := .cells #[.int .u8 a1_0, .int .u32 a1_1, .string a1_2, .string a1_3] 60 (0, 0)) y3_ hb); have n3_ := Aside0.mk (Kept.below (S := (fun k_ => P0_ k_)) z66z0 hb); have n4_ := Aside0.mk (below_step y1_ hb); replace HO104 := n0_; have HO111 := n1_; replace BK101 := n2_; replace HK := n3_; replace HB := n4_; clear n0_ n1_ n2_ n3_ n4_; clear hb ho0))
  go_ret
  exact ⟨_, y4_, by (with_reducible repeat (first | apply Kd.R_alloc | apply Kd.R_drewN | apply Kd.R_drew)); exact Kd.R_mono HO111.out (fun _ hk => hk.1.1), y1_, z66z0⟩
 rw [if_neg c15] at H
 obtain ⟨c15b0, c15b1⟩ := eqf_ c15
 by_cases c25 : t105 = 3
 ·rw [if_pos c25] at H
  obtain ⟨c25b0, c25b1⟩ := eqt_ c25
  clear c25
  replace H := Option.bind_eq_some_iff.mp H
  obtain ⟨t112, A260, H⟩ := H
  replace H : (some t112) = some r := H
  have A26 := Aside0.mk A260
  clear A260
  obtain rfl := Option.some.inj H
  go_enter Tryd.func66, Tryd.ntmps66
  go_wp2_with (first | ((with_reducible refine gate_dst (N := 3) rfl ?_); refine box_event ?hg (N := 3) ?hd (cs := #[.int .u8 a1_0, .int .u32 a1_1, .string a1_2, .string a1_3]) (t := 60) ?hr ?_; (case hd => rfl); (case hg => rfl); (case hr => exact z66z6); intro gb101 hg w27 hbox hb; have n0_ := Aside0.mk (Kd.R_below z66z2 hb); have n1_ := Aside0.mk (Kept.below (S := (fun k_ => P0_ k_)) z66z5 hb); have n2_ := Aside0.mk (below_step y0_ hb); have n3_ := Aside0.mk (hbox); have n4_ := Aside0.mk ((by rw [hg]; exact z66z3 : w.heap.size ≤ gb101)); have n5_ := Aside0.mk ((by rw [hg]; exact (below_size y0_) : w0.heap.size ≤ gb101)); replace HO0 := n0_; replace HK := n1_; replace HB := n2_; have BK101 := n3_; have GW101 := n4_; have GE101 := n5_; clear n0_ n1_ n2_ n3_ n4_ n5_; clear hb hbox hg; obtain ⟨hcz28_0, hcz28_1, hcz28_2, hcz28_3⟩ := ccs4_ BK101.out) | ((with_reducible refine gate_builtin (b := .append) (xs := #[.tmp 5, .tmp 8]) rfl ?_); at_builtin; refine Kd.R_append (Kd.int .u8) (w0 := w0) w0.heap.size rfl (.tmp 5) (.tmp 8) 25 5 (.int .u8 0) 1 rfl Tryd.underlying25 info5 rfl (by decide) (by omega) u9000_ l0 a1_0 [.int .u8 a1_0] (fun k_ => (P0_ k_ ∨ w.heap.size ≤ k_)) (fun _ => False) rfl rfl ?aP (fun _ hk => hk.elim) ?aF ?aO ?aB ?aS ?aL ?_; (case aP => exact rfl); (case aB => exact y1_); (case aF => exact (fun k_ hk => (.inr (Nat.le_trans z66z1 hk)))); (case aO => exact z66z2); (case aS => exact (below_size y1_)); (case aL => have := LMc3.out; omega); intro v103 w29 ho hb hg hat; rw [← Ny102.out] at ho; have n0_ := Aside0.mk (blk_grown (g := gb101) (o := .cells #[.int .u8 a1_0, .int .u32 a1_1, .string a1_2, .string a1_3] 60 (0, 0)) y3_ hg (Kd.R_ne HO0.out BK101.out (by decide))); have n1_ := Aside0.mk (hb); have n2_ := Aside0.mk (Kept.of_grown (S := (fun k_ => P0_ k_)) hg z66z0 (fun k_ e_ => (HO0.out.1 k_ e_))); have n3_ := Aside0.mk (ho); replace BK101 := n0_; replace HB := n1_; replace HK := n2_; have HO104 := n3_; clear HO0; clear n0_ n1_ n2_ n3_; clear ho hb hg hat; obtain ⟨hcz30_0, hcz30_1, hcz30_2, hcz30_3⟩ := ccs4_ BK101.out) | ((with_reducible refine gate_callee (f := 82) rfl ?_); refine goesL_ (some 12) rfl rfl Tryd.func82 (by kernel_rfl) rfl #[.int .u8 a1_0] rfl y2_ ?_; (with_reducible refine (prop_Type.calls a1_0 t105 _ A4.out).mono ?_); rintro e w31 ⟨rfl, hb⟩; refine ⟨_, rfl, ?_⟩; have n0_ := Aside0.mk (Kd.R_below y14_ hb); have n1_ := Aside0.mk (blk_below (g := gb101) (o := .cells #[.int .u8 a1_0, .int .u32 a1_1, .string a1_2, .string a1_3] 60 (0, 0)) y3_ hb); have n2_ := Aside0.mk (Kept.below (S := (fun k_ => P0_ k_)) z66z0 hb); have n3_ := Aside0.mk (below_step y1_ hb); replace HO104 := n0_; replace BK101 := n1_; replace HK := n2_; replace HB := n3_; clear n0_ n1_ n2_ n3_; clear hb; obtain ⟨hcz32_0, hcz32_1, hcz32_2, hcz32_3⟩ := ccs4_ BK101.out; obtain ⟨Ao33, co33, eo33⟩ := Kd.R_slice HO104.out; subst eo33) | ((with_reducible refine gate_callee (f := 91) rfl ?_); refine goesL_ (some 32) rfl rfl Tryd.func91 (by kernel_rfl) rfl #[.slice Ao33 y102.length co33, .int .u32 a1_1] rfl y2_ ?_; (with_reducible refine (wire_Four.calls _ _ y102 a1_1 t112 _ ?side1 ?side2 A26.out).mono ?_); (case side1 => exact z66z4); (case side2 => exact z66z7); rintro e w34 ⟨v113, rfl, ho0, hb⟩; refine ⟨_, rfl, ?_⟩; have n0_ := Aside0.mk (Kd.R_elder' y14_ (Kd.R_base ho0) hb); have n1_ := Aside0.mk (Kd.R_lower (Kd.R_new' (Kd.R_newM (M := fun k_ => (P0_ k_ ∨ w.heap.size ≤ k_)) ho0 z66z1 (fun k_ h_ => .inr h_)) (Kd.R_lt y14_)) (below_size y1_)); have n2_ := Aside0.mk (blk_below (g := gb101) (o := .cells #[.int .u8 a1_0, .int .u32 a1_1, .string a1_2, .string a1_3] 60 (0, 0)) y3_ hb); have n3_ := Aside0.mk (Kept.below (S := (fun k_ => P0_ k_)) z66z0 hb); have n4_ := Aside0.mk (below_step y1_ hb); replace HO104 := n0_; have HO114 := n1_; replace BK101 := n2_; replace HK := n3_; replace HB := n4_; clear n0_ n1_ n2_ n3_ n4_; clear hb ho0))
  go_ret
  exact ⟨_, y4_, by (with_reducible repeat (first | apply Kd.R_alloc | apply Kd.R_drewN | apply Kd.R_drew)); exact Kd.R_mono HO114.out (fun _ hk => hk.1.1), y1_, z66z0⟩
 rw [if_neg c25] at H
 obtain ⟨c25b0, c25b1⟩ := eqf_ c25
 by_cases c35 : t105 = 4
 ·rw [if_pos c35] at H
  obtain ⟨c35b0, c35b1⟩ := eqt_ c35
  clear c35
  replace H := Option.bind_eq_some_iff.mp H
  obtain ⟨t115, A360, H⟩ := H
  replace H : (some t115) = some r := H
  have A36 := Aside0.mk A360
  clear A360
  obtain rfl := Option.some.inj H
  go_enter Tryd.func66, Tryd.ntmps66
  go_wp2_with (first | ((with_reducible refine gate_dst (N := 3) rfl ?_); refine box_event ?hg (N := 3) ?hd (cs := #[.int .u8 a1_0, .int .u32 a1_1, .string a1_2, .string a1_3]) (t := 60) ?hr ?_; (case hd => rfl); (case hg => rfl); (case hr => exact z66z6); intro gb101 hg w37 hbox hb; have n0_ := Aside0.mk (Kd.R_below z66z2 hb); have n1_ := Aside0.mk (Kept.below (S := (fun k_ => P0_ k_)) z66z5 hb); have n2_ := Aside0.mk (below_step y0_ hb); have n3_ := Aside0.mk (hbox); have n4_ := Aside0.mk ((by rw [hg]; exact z66z3 : w.heap.size ≤ gb101)); have n5_ := Aside0.mk ((by rw [hg]; exact (below_size y0_) : w0.heap.size ≤ gb101)); replace HO0 := n0_; replace HK := n1_; replace HB := n2_; have BK101 := n3_; have GW101 := n4_; have GE101 := n5_; clear n0_ n1_ n2_ n3_ n4_ n5_; clear hb hbox hg; obtain ⟨hcz38_0, hcz38_1, hcz38_2, hcz38_3⟩ := ccs4_ BK101.out) | ((with_reducible refine gate_builtin (b := .append) (xs := #[.tmp 5, .tmp 8]) rfl ?_); at_builtin; refine Kd.R_append (Kd.int .u8) (w0 := w0) w0.heap.size rfl (.tmp 5) (.tmp 8) 25 5 (.int .u8 0) 1 rfl Tryd.underlying25 info5 rfl (by decide) (by omega) u9000_ l0 a1_0 [.int .u8 a1_0] (fun k_ => (P0_ k_ ∨ w.heap.size ≤ k_)) (fun _ => False) rfl rfl ?aP (fun _ hk => hk.elim) ?aF ?aO ?aB ?aS ?aL ?_; (case aP => exact rfl); (case aB => exact y1_); (case aF => exact (fun k_ hk => (.inr (Nat.le_trans z66z1 hk)))); (case aO => exact z66z2); (case aS => exact (below_size y1_)); (case aL => have := LMc3.out; omega); intro v103 w39 ho hb hg hat; rw [← Ny102.out] at ho; have n0_ := Aside0.mk (blk_grown (g := gb101) (o := .cells #[.int .u8 a1_0, .int .u32 a1_1, .string a1_2, .string a1_3] 60 (0, 0)) y3_ hg (Kd.R_ne HO0.out BK101.out (by decide))); have n1_ := Aside0.mk (hb); have n2_ := Aside0.mk (Kept.of_grown (S := (fun k_ => P0_ k_)) hg z66z0 (fun k_ e_ => (HO0.out.1 k_ e_))); have n3_ := Aside0.mk (ho); replace BK101 := n0_; replace HB := n1_; replace HK := n2_; have HO104 := n3_; clear HO0; clear n0_ n1_ n2_ n3_; clear ho hb hg hat; obtain ⟨hcz40_0, hcz40_1, hcz40_2, hcz40_3⟩ := ccs4_ BK101.out) | ((with_reducible refine gate_callee (f := 82) rfl ?_); refine goesL_ (some 12) rfl rfl Tryd.func82 (by kernel_rfl) rfl #[.int .u8 a1_0] rfl y2_ ?_; (with_reducible refine (prop_Type.calls a1_0 t105 _ A4.out).mono ?_); rintro e w41 ⟨rfl, hb⟩; refine ⟨_, rfl, ?_⟩; have n0_ := Aside0.mk (Kd.R_below y14_ hb); have n1_ := Aside0.mk (blk_below (g := gb101) (o := .cells #[.int .u8 a1_0, .int .u32 a1_1, .string a1_2, .string a1_3] 60 (0, 0)) y3_ hb); have n2_ := Aside0.mk (Kept.below (S := (fun k_ => P0_ k_)) z66z0 hb); have n3_ := Aside0.mk (below_step y1_ hb); replace HO104 := n0_; replace BK101 := n1_; replace HK := n2_; replace HB := n3_; clear n0_ n1_ n2_ n3_; clear hb; obtain ⟨hcz42_0, hcz42_1, hcz42_2, hcz42_3⟩ := ccs4_ BK101.out; obtain ⟨Ao43, co43, eo43⟩ := Kd.R_slice HO104.out; subst eo43) | ((with_reducible refine gate_callee (f := 36) rfl ?_); refine goesL_ (some 38) rfl rfl Tryd.func36 (by kernel_rfl) rfl #[.slice Ao43 y102.length co43, .int .u32 a1_1] rfl y2_ ?_; (with_reducible refine (wire_Var.calls k _ _ y102 a1_1 t115 _ ?side1 ?side2 A36.out).mono ?_); (case side1 => exact z66z4); (case side2 => exact z66z7); rintro e w44 ⟨v116, rfl, ho0, hb⟩; refine ⟨_, rfl, ?_⟩; have n0_ := Aside0.mk (Kd.R_elder' y14_ (Kd.R_base ho0) hb); have n1_ := Aside0.mk (Kd.R_lower (Kd.R_new' (Kd.R_newM (M := fun k_ => (P0_ k_ ∨ w.heap.size ≤ k_)) ho0 z66z1 (fun k_ h_ => .inr h_)) (Kd.R_lt y14_)) (below_size y1_)); have n2_ := Aside0.mk (blk_below (g := gb101) (o := .cells #[.int .u8 a1_0, .int .u32 a1_1, .string a1_2, .string a1_3] 60 (0, 0)) y3_ hb); have n3_ := Aside0.mk (Kept.below (S := (fun k_ => P0_ k_)) z66z0 hb); have n4_ := Aside0.mk (below_step y1_ hb); replace HO104 := n0_; have HO117 := n1_; replace BK101 := n2_; replace HK := n3_; replace HB := n4_; clear n0_ n1_ n2_ n3_ n4_; clear hb ho0))
  go_ret
  exact ⟨_, y4_, by (with_reducible repeat (first | apply Kd.R_alloc | apply Kd.R_drewN | apply Kd.R_drew)); exact Kd.R_mono HO117.out (fun _ hk => hk.1.1), y1_, z66z0⟩
 rw [if_neg c35] at H
 obtain ⟨c35b0, c35b1⟩ := eqf_ c35
 by_cases c45 : t105 = 7
 rotate_left
 ·rw [if_neg c45] at H
  obtain ⟨c45b0, c45b1⟩ := eqf_ c45
  replace H := Option.bind_eq_some_iff.mp H
  obtain ⟨t124, A580, H⟩ := H
  replace H : (some t124) = some r := H
  have A58 := Aside0.mk A580
  clear A580
  obtain rfl := Option.some.inj H
  go_enter Tryd.func66, Tryd.ntmps66
  go_wp2_with (first | ((with_reducible refine gate_dst (N := 3) rfl ?_); refine box_event ?hg (N := 3) ?hd (cs := #[.int .u8 a1_0, .int .u32 a1_1, .string a1_2, .string a1_3]) (t := 60) ?hr ?_; (case hd => rfl); (case hg => rfl); (case hr => exact z66z6); intro gb101 hg w59 hbox hb; have n0_ := Aside0.mk (Kd.R_below z66z2 hb); have n1_ := Aside0.mk (Kept.below (S := (fun k_ => P0_ k_)) z66z5 hb); have n2_ := Aside0.mk (below_step y0_ hb); have n3_ := Aside0.mk (hbox); have n4_ := Aside0.mk ((by rw [hg]; exact z66z3 : w.heap.size ≤ gb101)); have n5_ := Aside0.mk ((by rw [hg]; exact (below_size y0_) : w0.heap.size ≤ gb101)); replace HO0 := n0_; replace HK := n1_; replace HB := n2_; have BK101 := n3_; have GW101 := n4_; have GE101 := n5_; clear n0_ n1_ n2_ n3_ n4_ n5_; clear hb hbox hg; obtain ⟨hcz60_0, hcz60_1, hcz60_2, hcz60_3⟩ := ccs4_ BK101.out) | ((with_reducible refine gate_builtin (b := .append) (xs := #[.tmp 5, .tmp 8]) rfl ?_); at_builtin; refine Kd.R_append (Kd.int .u8) (w0 := w0) w0.heap.size rfl (.tmp 5) (.tmp 8) 25 5 (.int .u8 0) 1 rfl Tryd.underlying25 info5 rfl (by decide) (by omega) u9000_ l0 a1_0 [.int .u8 a1_0] (fun k_ => (P0_ k_ ∨ w.heap.size ≤ k_)) (fun _ => False) rfl rfl ?aP (fun _ hk => hk.elim) ?aF ?aO ?aB ?aS ?aL ?_; (case aP => exact rfl); (case aB => exact y1_); (case aF => exact (fun k_ hk => (.inr (Nat.le_trans z66z1 hk)))); (case aO => exact z66z2); (case aS => exact (below_size y1_)); (case aL => have := LMc3.out; omega); intro v103 w61 ho hb hg hat; rw [← Ny102.out] at ho; have n0_ := Aside0.mk (blk_grown (g := gb101) (o := .cells #[.int .u8 a1_0, .int .u32 a1_1, .string a1_2, .string a1_3] 60 (0, 0)) y3_ hg (Kd.R_ne HO0.out BK101.out (by decide))); have n1_ := Aside0.mk (hb); have n2_ := Aside0.mk (Kept.of_grown (S := (fun k_ => P0_ k_)) hg z66z0 (fun k_ e_ => (HO0.out.1 k_ e_))); have n3_ := Aside0.mk (ho); replace BK101 := n0_; replace HB := n1_; replace HK := n2_; have HO104 := n3_; clear HO0; clear n0_ n1_ n2_ n3_; clear ho hb hg hat; obtain ⟨hcz62_0, hcz62_1, hcz62_2, hcz62_3⟩ := ccs4_ BK101.out) | ((with_reducible refine gate_callee (f := 82) rfl ?_); refine goesL_ (some 12) rfl rfl Tryd.func82 (by kernel_rfl) rfl #[.int .u8 a1_0] rfl y2_ ?_; (with_reducible refine (prop_Type.calls a1_0 t105 _ A4.out).mono ?_); rintro e w63 ⟨rfl, hb⟩; refine ⟨_, rfl, ?_⟩; have n0_ := Aside0.mk (Kd.R_below y14_ hb); have n1_ := Aside0.mk (blk_below (g := gb101) (o := .cells #[.int .u8 a1_0, .int .u32 a1_1, .string a1_2, .string a1_3] 60 (0, 0)) y3_ hb); have n2_ := Aside0.mk (Kept.below (S := (fun k_ => P0_ k_)) z66z0 hb); have n3_ := Aside0.mk (below_step y1_ hb); replace HO104 := n0_; replace BK101 := n1_; replace HK := n2_; replace HB := n3_; clear n0_ n1_ n2_ n3_; clear hb; obtain ⟨hcz64_0, hcz64_1, hcz64_2, hcz64_3⟩ := ccs4_ BK101.out; obtain ⟨Ao65, co65, eo65⟩ := Kd.R_slice HO104.out; subst eo65) | ((with_reducible refine gate_callee (f := 92) rfl ?_); refine goesL_ (some 51) rfl rfl Tryd.func92 (by kernel_rfl) rfl #[.slice Ao65 y102.length co65, .string a1_2] rfl y2_ ?_; (with_reducible refine (wire_Bin.calls _ _ y102 a1_2 t124 _ ?side1 ?side2 A58.out).mono ?_); (case side1 => exact z66z4); (case side2 => exact z66z7); rintro e w66 ⟨v125, rfl, ho0, hb⟩; refine ⟨_, rfl, ?_⟩; have n0_ := Aside0.mk (Kd.R_elder' y14_ (Kd.R_base ho0) hb); have n1_ := Aside0.mk (Kd.R_lower (Kd.R_new' (Kd.R_newM (M := fun k_ => (P0_ k_ ∨ w.heap.size ≤ k_)) ho0 z66z1 (fun k_ h_ => .inr h_)) (Kd.R_lt y14_)) (below_size y1_)); have n2_ := Aside0.mk (blk_below (g := gb101) (o := .cells #[.int .u8 a1_0, .int .u32 a1_1, .string a1_2, .string a1_3] 60 (0, 0)) y3_ hb); have n3_ := Aside0.mk (Kept.below (S := (fun k_ => P0_ k_)) z66z0 hb); have n4_ := Aside0.mk (below_step y1_ hb); replace HO104 := n0_; have HO126 := n1_; replace BK101 := n2_; replace HK := n3_; replace HB := n4_; clear n0_ n1_ n2_ n3_ n4_; clear hb ho0))
  go_ret
  exact ⟨_, y4_, by (with_reducible repeat (first | apply Kd.R_alloc | apply Kd.R_drewN | apply Kd.R_drew)); exact Kd.R_mono HO126.out (fun _ hk => hk.1.1), y1_, z66z0⟩
 rw [if_pos c45] at H
 obtain ⟨c45b0, c45b1⟩ := eqt_ c45
 clear c45
 replace H := Option.bind_eq_some_iff.mp H
 obtain ⟨t118, A460, H⟩ := H
 replace H : ((wire_Bin.f t118 a1_3).bind fun t121 => (some t121)) = some r := H
 have A46 := Aside0.mk A460
 clear A460
 replace H := Option.bind_eq_some_iff.mp H
 obtain ⟨t121, A470, H⟩ := H
 replace H : (some t121) = some r := H
 have A47 := Aside0.mk A470
 clear A470
 obtain rfl := Option.some.inj H
 go_enter Tryd.func66, Tryd.ntmps66
 try go_wp2_with (first | ((with_reducible refine gate_dst (N := 3) rfl ?_); refine box_event ?hg (N := 3) ?hd (cs := #[.int .u8 a1_0, .int .u32 a1_1, .string a1_2, .string a1_3]) (t := 60) ?hr ?_; (case hd => rfl); (case hg => rfl); (case hr => exact z66z6); intro gb101 hg w48 hbox hb; have n0_ := Aside0.mk (Kd.R_below z66z2 hb); have n1_ := Aside0.mk (Kept.below (S := (fun k_ => P0_ k_)) z66z5 hb); have n2_ := Aside0.mk (below_step y0_ hb); have n3_ := Aside0.mk (hbox); have n4_ := Aside0.mk ((by rw [hg]; exact z66z3 : w.heap.size ≤ gb101)); have n5_ := Aside0.mk ((by rw [hg]; exact (below_size y0_) : w0.heap.size ≤ gb101)); replace HO0 := n0_; replace HK := n1_; replace HB := n2_; have BK101 := n3_; have GW101 := n4_; have GE101 := n5_; clear n0_ n1_ n2_ n3_ n4_ n5_; clear hb hbox hg; obtain ⟨hcz49_0, hcz49_1, hcz49_2, hcz49_3⟩ := ccs4_ BK101.out) | ((with_reducible refine gate_builtin (b := .append) (xs := #[.tmp 5, .tmp 8]) rfl ?_); at_builtin; refine Kd.R_append (Kd.int .u8) (w0 := w0) w0.heap.size rfl (.tmp 5) (.tmp 8) 25 5 (.int .u8 0) 1 rfl Tryd.underlying25 info5 rfl (by decide) (by omega) u9000_ l0 a1_0 [.int .u8 a1_0] (fun k_ => (P0_ k_ ∨ w.heap.size ≤ k_)) (fun _ => False) rfl rfl ?aP (fun _ hk => hk.elim) ?aF ?aO ?aB ?aS ?aL ?_; (case aP => exact rfl); (case aB => exact y1_); (case aF => exact (fun k_ hk => (.inr (Nat.le_trans z66z1 hk)))); (case aO => exact z66z2); (case aS => exact (below_size y1_)); (case aL => have := LMc3.out; omega); intro v103 w50 ho hb hg hat; rw [← Ny102.out] at ho; have n0_ := Aside0.mk (blk_grown (g := gb101) (o := .cells #[.int .u8 a1_0, .int .u32 a1_1, .string a1_2, .string a1_3] 60 (0, 0)) y3_ hg (Kd.R_ne HO0.out BK101.out (by decide))); have n1_ := Aside0.mk (hb); have n2_ := Aside0.mk (Kept.of_grown (S := (fun k_ => P0_ k_)) hg z66z0 (fun k_ e_ => (HO0.out.1 k_ e_))); have n3_ := Aside0.mk (ho); replace BK101 := n0_; replace HB := n1_; replace HK := n2_; have HO104 := n3_; clear HO0; clear n0_ n1_ n2_ n3_; clear ho hb hg hat; obtain ⟨hcz51_0, hcz51_1, hcz51_2, hcz51_3⟩ := ccs4_ BK101.out) | ((with_reducible refine gate_callee (f := 82) rfl ?_); refine goesL_ (some 12) rfl rfl Tryd.func82 (by kernel_rfl) rfl #[.int .u8 a1_0] rfl y2_ ?_; (with_reducible refine (prop_Type.calls a1_0 t105 _ A4.out).mono ?_); rintro e w52 ⟨rfl, hb⟩; refine ⟨_, rfl, ?_⟩; have n0_ := Aside0.mk (Kd.R_below y14_ hb); have n1_ := Aside0.mk (blk_below (g := gb101) (o := .cells #[.int .u8 a1_0, .int .u32 a1_1, .string a1_2, .string a1_3] 60 (0, 0)) y3_ hb); have n2_ := Aside0.mk (Kept.below (S := (fun k_ => P0_ k_)) z66z0 hb); have n3_ := Aside0.mk (below_step y1_ hb); replace HO104 := n0_; replace BK101 := n1_; replace HK := n2_; replace HB := n3_; clear n0_ n1_ n2_ n3_; clear hb))
 have n0_ := Aside0.mk (Kd.R_drew HO104.out)
 have n1_ := Aside0.mk (blk_drew BK101.out)
 have n2_ := Aside0.mk (Kept.drew HK.out)
 have n3_ := Aside0.mk (below_drew1 HB.out)
 clear HO104
 clear BK101
 clear HK
 clear HB
 have HO104 := n0_
 have BK101 := n1_
 have HK := n2_
 have HB := n3_
 clear n0_ n1_ n2_ n3_
 obtain ⟨Ao54, co54, eo54⟩ := Kd.R_slice HO104.out
 (first | subst eo54 | (injection eo54 with f1_ f2_ f3_; have f4_ := f1_.symm; have f5_ := f3_.symm; clear f1_ f2_ f3_; subst f4_; subst f5_))
 refine start_ (n := 8) (S := fun w' => w'.cell? ⟨gb101, 0, none⟩ = some (.int .u8 a1_0) ∧ w'.cell? ⟨gb101, 1, none⟩ = some (.int .u32 a1_1) ∧ w'.cell? ⟨gb101, 2, none⟩ = some (.string a1_2) ∧ w'.cell? ⟨gb101, 3, none⟩ = some (.string a1_3)) (ds := []) (ba 8 0) (by kernel_rfl) rfl rfl ⟨(blk_cell BK101.out 0).trans rfl, (blk_cell BK101.out 1).trans rfl, (blk_cell BK101.out 2).trans rfl, (blk_cell BK101.out 3).trans rfl⟩ (fun hHeld => ?_); refine with_tabW props_one.tab12 props_one.bits12 (fun HT_ HW_ => ?_)
 generalize w52.drew = w53 at HO104 BK101 HK HB hHeld ⊢
 refine pq_ 0 41 1 ?_
 refine pq_ 1 42 3 ?_
 refine pq_ 4 45 19 ?_
 refine tr_ 2 43 23 ?_ (hy := z66z8)
 refine tr_ 5 46 55 ?_ (hy := z66z8)
 refine one_ (i := 3) (N := some 44) (ba 8 63) rfl rfl (one_of HT_.out (by kernel_rfl)) (by decide) (fun K hK => ?_)
 refine goes_ Tryd.func92 (by kernel_rfl) rfl #[.slice Ao54 y102.length co54, .string a1_2] (by rfl) rfl rfl y2_ ?_
 with_reducible refine (wire_Bin.calls _ _ y102 a1_2 t118 _ ?side1 ?side2 A46.out).mono ?_
 (case side1 => exact z66z4)
 (case side2 => exact z66z7)
 rintro e w55 ⟨v119, rfl, ho0, hb⟩
 refine ⟨_, rfl, ?_⟩
 have n0_ := Aside0.mk (Kd.R_elder' y14_ (Kd.R_base ho0) hb)
 have n1_ := Aside0.mk (Kd.R_lower (Kd.R_new' (Kd.R_newM (M := fun k_ => (P0_ k_ ∨ w.heap.size ≤ k_)) ho0 z66z1 (fun k_ h_ => .inr h_)) (Kd.R_lt y14_)) (below_size y1_))
 have n2_ := Aside0.mk (blk_below (g := gb101) (o := .cells #[.int .u8 a1_0, .int .u32 a1_1, .string a1_2, .string a1_3] 60 (0, 0)) y3_ hb)
 have n3_ := Aside0.mk (Kept.below (S := (fun k_ => P0_ k_)) z66z0 hb)
 have n4_ := Aside0.mk (below_step y1_ hb)
 clear HO104
 clear BK101
 clear HK
 clear HB
 have HO104 := n0_
 have HO120 := n1_
 have BK101 := n2_
 have HK := n3_
 have HB := n4_
 clear n0_ n1_ n2_ n3_ n4_
 (try clear hb)
 (try clear hb2)
 (try clear hk)
 (try clear hi)
 (try clear ho0)
 obtain ⟨Ao56, co56, eo56⟩ := Kd.R_slice HO120.out
 (first | subst eo56 | (injection eo56 with f1_ f2_ f3_; have f4_ := f1_.symm; have f5_ := f3_.symm; clear f1_ f2_ f3_; subst f4_; subst f5_))
 refine hK.out _ _ ⟨(blk_cell BK101.out 0).trans rfl, (blk_cell BK101.out 1).trans rfl, (blk_cell BK101.out 2).trans rfl, (blk_cell BK101.out 3).trans rfl⟩ (fun hHeld => ?_)
 clear hK K
 refine norm_ (a' := ?_) ?_ ?_
 rotate_left
 ·show Act.put _ (some 44) _ = _
  simp only [Act.put, List.setIfInBounds_toArray, List.set_cons_zero, List.set_cons_succ, i64_w, i32_w]
  rfl
 refine one_ (i := 6) (N := some 47) (ba 8 127) rfl rfl (one_of HT_.out (by kernel_rfl)) (by decide) (fun K hK => ?_)
 refine goes_ Tryd.func92 (by kernel_rfl) rfl #[.slice Ao56 t118.length co56, .string a1_3] (by rfl) rfl rfl y2_ ?_
 with_reducible refine (wire_Bin.calls _ _ t118 a1_3 t121 _ ?side1 ?side2 A47.out).mono ?_
 (case side1 => repeat (first | exact (Kd.R_reads' HO120.out).2.2 | (with_reducible refine Kd.C_alloc ?_ _) | (with_reducible refine Kd.C_drewN ?_ _) | (with_reducible refine Kd.C_drew ?_)))
 (case side2 => exact (Kd.R_reads' HO120.out).2.1)
 rintro e w57 ⟨v122, rfl, ho0, hb⟩
 refine ⟨_, rfl, ?_⟩
 have n0_ := Aside0.mk (Kd.R_elder' y14_ (Kd.R_base ho0) hb)
 have n1_ := Aside0.mk (Kd.R_elder' y20_ (Kd.R_base ho0) hb)
 have n2_ := Aside0.mk (Kd.R_lower (Kd.R_new' (Kd.R_new' (Kd.R_newM (M := fun k_ => (P0_ k_ ∨ w.heap.size ≤ k_)) ho0 z66z1 (fun k_ h_ => .inr h_)) (Kd.R_lt y14_)) (Kd.R_lt y20_)) (below_size y1_))
 have n3_ := Aside0.mk (blk_below (g := gb101) (o := .cells #[.int .u8 a1_0, .int .u32 a1_1, .string a1_2, .string a1_3] 60 (0, 0)) y3_ hb)
 have n4_ := Aside0.mk (Kept.below (S := (fun k_ => P0_ k_)) z66z0 hb)
 have n5_ := Aside0.mk (below_step y1_ hb)
 clear HO104
 clear HO120
 clear BK101
 clear HK
 clear HB
 have HO104 := n0_
 have HO120 := n1_
 have HO123 := n2_
 have BK101 := n3_
 have HK := n4_
 have HB := n5_
 clear n0_ n1_ n2_ n3_ n4_ n5_
 (try clear hb)
 (try clear hb2)
 (try clear hk)
 (try clear hi)
 (try clear ho0)
 refine hK.out _ _ ⟨(blk_cell BK101.out 0).trans rfl, (blk_cell BK101.out 1).trans rfl, (blk_cell BK101.out 2).trans rfl, (blk_cell BK101.out 3).trans rfl⟩ (fun hHeld => ?_)
 clear hK K
 refine norm_ (a' := ?_) ?_ ?_
 rotate_left
 ·show Act.put _ (some 47) _ = _
  simp only [Act.put, List.setIfInBounds_toArray, List.set_cons_zero, List.set_cons_succ, i64_w, i32_w]
  rfl
 refine pq_ 7 4 255 ?_
 refine done_ (done_of HT_.out (by kernel_rfl)) ?_
 try go_wp2
 go_ret
 exact ⟨_, y4_, by (with_reducible repeat (first | apply Kd.R_alloc | apply Kd.R_drewN | apply Kd.R_drew)); exact Kd.R_mono HO123.out (fun _ hk => hk.1.1.1), y1_, z66z0⟩
def props_section.l0 : Nat → List Int → List (S60) → Int → Int → Option (List Int × Bool)
  | 0, _, _, _, _ => none
  | k + 1, x4, x7, x8, x9 => if x9 < x8 then (if 0 ≤ x9 then (if x9 < (x7.length : Int) then ((prop_Right.f k ((rd_T60 x7 x9).f0) ((rd_T60 x7 x9).f1) ((rd_T60 x7 x9).f2) ((rd_T60 x7 x9).f3)).bind fun t103 => (if t103 = true then ((props_one.f k x4 ((rd_T60 x7 x9).f0) ((rd_T60 x7 x9).f1) ((rd_T60 x7 x9).f2) ((rd_T60 x7 x9).f3)).bind fun t104 => (props_section.l0 k t104 x7 x8 (wrap64 (x9 + 1)))) else (some (([] : List Int), false)))) else (none)) else (none)) else (some (x4, decide ((x4.length : Int) ≤ 268435455)))
def props_section.f (k : Nat) (l0 : List (S60)) : Option (List Int × Bool) := props_section.l0 k ([] : List Int) l0 (l0.length : Int) 0
theorem z34m0 {p : Prop} (h : p := by
 repeat' first
 | (with_reducible exact ih0 _ _ _ _)
 | (with_reducible exact prop_Right.mono _ _ _ _ _)
 | (with_reducible exact props_one.mono _ _ _ _ _ _)
 | (with_reducible exact LeO.refl _)
 | (with_reducible exact LeO.none _)
 | (with_reducible refine LeO.ite ?_ ?_)
 | (with_reducible refine LeO.bind ?_ (fun _ => ?_))
 | exact ih0 _ _ _ _
 | exact prop_Right.mono _ _ _ _ _
 | exact props_one.mono _ _ _ _ _ _
 | exact LeO.none _
 | refine LeO.ite ?_ ?_
 | refine LeO.bind ?_ (fun _ => ?_)) : p := h
theorem props_section.mono_l : ∀ k, (∀ y0 y1 y2 y3, LeO (props_section.l0 k y0 y1 y2 y3) (props_section.l0 (k + 1) y0 y1 y2 y3))
  | 0 => fun _ _ _ _ r h => by simp [props_section.l0] at h
  | k + 1 => by
    have ih0 := props_section.mono_l k
    · intro y0 y1 y2 y3
      unfold props_section.l0
      exact z34m0
theorem props_section.mono : ∀ a0 k, LeO (props_section.f k a0) (props_section.f (k + 1) a0) := by
  intro a0 k
  have ih0 := props_section.mono_l k
  unfold props_section.f
  exact z34m0
theorem z34z0 {p : Prop} (h : p := by (with_reducible repeat (first | refine blk_drewN ?_ _ | refine blk_drew ?_ | refine blk_alloc ?_ _)); refine blk_put (cs := #[.int .u8 ((rd_T60 l0 x9_1).f0), .int .u32 ((rd_T60 l0 x9_1).f1), .string ((rd_T60 l0 x9_1).f2), .string (⟨#[]⟩ : ByteArray)]) ?_ 3 _ rfl; (with_reducible repeat (first | refine blk_drewN ?_ _ | refine blk_drew ?_ | refine blk_alloc ?_ _)); refine blk_put (cs := #[.int .u8 ((rd_T60 l0 x9_1).f0), .int .u32 ((rd_T60 l0 x9_1).f1), .string (⟨#[]⟩ : ByteArray), .string (⟨#[]⟩ : ByteArray)]) ?_ 2 _ rfl; (with_reducible repeat (first | refine blk_drewN ?_ _ | refine blk_drew ?_ | refine blk_alloc ?_ _)); refine blk_put (cs := #[.int .u8 ((rd_T60 l0 x9_1).f0), .int .u32 0, .string (⟨#[]⟩ : ByteArray), .string (⟨#[]⟩ : ByteArray)]) ?_ 1 _ rfl; (with_reducible repeat (first | refine blk_drewN ?_ _ | refine blk_drew ?_ | refine blk_alloc ?_ _)); refine blk_put (cs := #[.int .u8 0, .int .u32 0, .string (⟨#[]⟩ : ByteArray), .string (⟨#[]⟩ : ByteArray)]) ?_ 0 _ rfl; (with_reducible repeat (first | refine blk_drewN ?_ _ | refine blk_drew ?_ | refine blk_alloc ?_ _)); exact BK102.out) : p := h
theorem z34z1 {p : Prop} (h : p := by repeat (first | (with_reducible first | exact HB.out | apply below_alloc | apply pw_below_drewN | apply below_drew1 | refine below_set ?_ GE102.out) | exact HB.out)) : p := h
theorem z34z2 {p : Prop} (h : p := by (with_reducible repeat (first | apply Kd.R_alloc | apply Kd.R_drewN | apply Kd.R_drew)); exact (Kd.R_mono (Kd.R_far (p := ⟨gb102, 3, none⟩) (Kd.R_far (p := ⟨gb102, 2, none⟩) (Kd.R_far (p := ⟨gb102, 1, none⟩) (Kd.R_far (p := ⟨gb102, 0, none⟩) (Kd.R_types HO_4.out BK102.out (by decide)) (fun _ hk => hk.2) (.int .u8 ((rd_T60 l0 x9_1).f0))) (fun _ hk => hk.2) (.int .u32 ((rd_T60 l0 x9_1).f1))) (fun _ hk => hk.2) (.string ((rd_T60 l0 x9_1).f2))) (fun _ hk => hk.2) (.string ((rd_T60 l0 x9_1).f3))) (fun _ h_ => h_.1))) : p := h
theorem z34z3 {p : Prop} (h : p := by (with_reducible repeat (first | apply Kd.R_alloc | apply Kd.R_drewN | apply Kd.R_drew)); exact HO_4.out) : p := h
theorem props_section.calls (k : Nat) (A0 : Option Addr) (c0 : Nat) (l0 : List (S60)) (r1 : List Int) (r2 : Bool) (w : World) (hr0 : Kd.C k60 w A0 l0.length l0) (hc0 : l0.length ≤ c0) (hG : GW w) (h : props_section.f k l0 = some (r1, r2)) :
  Calls Tryd.prog 34 #[.slice A0 l0.length c0] w fun e w' => ∃ v0_ : Value, e = .returned (.tuple #[v0_, .bool r2]) ∧ Kd.R (Kd.int .u8) 5 w' w.heap.size (fun _ => True) v0_ r1 ∧ Below w.heap.size w w' := by
 have hu60 := Tryd.underlying60
 have HR0 := Aside0.mk hr0
 have HC0 := Aside0.mk hc0
 clear hr0 hc0
 have HB := Aside0.mk (Below.refl w.heap.size w)
 have HG := Aside0.mk hG
 clear hG
 have H : (props_section.l0 k ([] : List Int) l0 (l0.length : Int) 0) = some (r1, r2) := h
 clear h
 have H' := Aside0.mk H
 clear H
 go_enter Tryd.func34, Tryd.ntmps34
 go_wp2
 go_loopg [4, 9] k (fun kq v4 v9 w' => ∃ (x4_1 : List Int) (x9_1 : Int), v9 = .int .i64 x9_1 ∧ Aside0 (props_section.l0 kq x4_1 l0 (l0.length : Int) x9_1 = some (r1, r2)) ∧ Aside0 (kq ≤ k) ∧ Aside0 (Kd.R (Kd.int .u8) 5 w' w.heap.size (fun _ => True) v4 x4_1) ∧ Aside0 (Below w.heap.size w w'))
 case atStart => exact ⟨(([] : List Int)), (0), y7_, H', ⟨Nat.le_refl _⟩, ⟨y21_⟩, ⟨y0_⟩⟩
 case round =>
  clear H'
  obtain ⟨x4_1, x9_1, rfl, HA, HK1, HO_4, HB⟩ := hrel
  cases gk with
  | zero => exact absurd HA.out (by simp [props_section.l0])
  | succ k1 =>
   have H := HA.out
   clear HA
   simp only [props_section.l0] at H
   by_cases c2 : x9_1 < (l0.length : Int)
   ·rw [if_pos c2] at H
    have c2b0 := decide_eq_true c2
    clear c2
    by_cases c3 : 0 ≤ x9_1
    ·rw [if_pos c3] at H
     have c3b0 := decide_eq_true c3
     clear c3
     by_cases c4 : x9_1 < (l0.length : Int)
     ·rw [if_pos c4] at H
      have c4b0 := decide_eq_true c4
      clear c4
      replace H := Option.bind_eq_some_iff.mp H
      obtain ⟨t103, A50, H⟩ := H
      try dsimp -simprocs only at H
      have A5 := Aside0.mk A50
      clear A50
      by_cases c6 : t103 = true
      ·subst c6
       have H1 : ((props_one.f k1 x4_1 ((rd_T60 l0 x9_1).f0) ((rd_T60 l0 x9_1).f1) ((rd_T60 l0 x9_1).f2) ((rd_T60 l0 x9_1).f3)).bind fun t104 => (props_section.l0 k1 t104 l0 (l0.length : Int) (wrap64 (x9_1 + 1)))) = some (r1, r2) := by rw [if_pos rfl] at H; exact H
       clear H
       have H := H1
       clear H1
       replace H := Option.bind_eq_some_iff.mp H
       obtain ⟨t104, A70, H⟩ := H
       replace H : (props_section.l0 k1 t104 l0 (l0.length : Int) (wrap64 (x9_1 + 1))) = some (r1, r2) := H
       have A7 := Aside0.mk A70
       clear A70
       have H' := Aside0.mk H
       clear H
       have p101 : 0 ≤ (x9_1 : Int) := of_decide_eq_true y5_
       have q101 : x9_1 < (l0.length : Int) := of_decide_eq_true y5_
       obtain ⟨ad101, e101, hx101_0, hx101_1, hx101_2, hx101_3⟩ := at_T60 HR0.out x9_1 p101 q101
       cases e101
       replace hx101_0 := (HB.out.cell (World.block_lt_of_cell? w _ hx101_0)).trans hx101_0
       replace hx101_1 := (HB.out.cell (World.block_lt_of_cell? w _ hx101_1)).trans hx101_1
       replace hx101_2 := (HB.out.cell (World.block_lt_of_cell? w _ hx101_2)).trans hx101_2
       replace hx101_3 := (HB.out.cell (World.block_lt_of_cell? w _ hx101_3)).trans hx101_3
       replace p101 := eq_true p101
       replace q101 := eq_true q101
       go_wp2_with (first | ((with_reducible refine gate_dst (N := 6) rfl ?_); refine box_event ?hg (N := 6) ?hd (cs := #[.int .u8 0, .int .u32 0, .string (⟨#[]⟩ : ByteArray), .string (⟨#[]⟩ : ByteArray)]) (t := 60) ?hr ?_; (case hd => rfl); (case hg => rfl); (case hr => first | (go_simp; done) | (go_simp; rfl)); intro gb102 hg w8 hbox hb; have n0_ := Aside0.mk (Kd.R_below z34z3 hb); have n1_ := Aside0.mk (below_step y0_ hb); have n2_ := Aside0.mk (hbox); have n3_ := Aside0.mk ((by rw [hg]; exact (below_size y0_) : w.heap.size ≤ gb102)); have n4_ := Aside0.mk ((by rw [hg]; exact (below_size y0_) : w.heap.size ≤ gb102)); replace HO_4 := n0_; replace HB := n1_; have BK102 := n2_; have GW102 := n3_; have GE102 := n4_; clear n0_ n1_ n2_ n3_ n4_; clear hb hbox hg; obtain ⟨hcz9_0, hcz9_1, hcz9_2, hcz9_3⟩ := ccs4_ BK102.out; obtain ⟨hfz9_0, hfz9_1, hfz9_2, hfz9_3⟩ := fzs4_ BK102.out) | ((with_reducible refine gate_callee (f := 65) rfl ?_); refine goesL_ (some 14) rfl rfl Tryd.func65 (by kernel_rfl) rfl #[.agg #[.int .u8 ((rd_T60 l0 x9_1).f0), .int .u32 ((rd_T60 l0 x9_1).f1), .string ((rd_T60 l0 x9_1).f2), .string ((rd_T60 l0 x9_1).f3)]] rfl y2_ ?_; (with_reducible refine (prop_Right.calls k1 ((rd_T60 l0 x9_1).f0) ((rd_T60 l0 x9_1).f1) ((rd_T60 l0 x9_1).f2) ((rd_T60 l0 x9_1).f3) true _ ?side1 A5.out).mono ?_); (case side1 => exact GW.below HG.out z34z1); rintro e w10 ⟨rfl, hb⟩; refine ⟨_, rfl, ?_⟩; have n0_ := Aside0.mk (Kd.R_below z34z2 hb); have n1_ := Aside0.mk (blk_below (g := gb102) (o := .cells #[.int .u8 ((rd_T60 l0 x9_1).f0), .int .u32 ((rd_T60 l0 x9_1).f1), .string ((rd_T60 l0 x9_1).f2), .string ((rd_T60 l0 x9_1).f3)] 60 (0, 0)) z34z0 hb); have n2_ := Aside0.mk (below_step z34z1 hb); replace HO_4 := n0_; replace BK102 := n1_; replace HB := n2_; clear n0_ n1_ n2_; clear hb; obtain ⟨hcz11_0, hcz11_1, hcz11_2, hcz11_3⟩ := ccs4_ BK102.out; obtain ⟨hfz11_0, hfz11_1, hfz11_2, hfz11_3⟩ := fzs4_ BK102.out; obtain ⟨Ao12, co12, eo12⟩ := Kd.R_slice HO_4.out; subst eo12) | ((with_reducible refine gate_callee (f := 66) rfl ?_); refine goesL_ (some 18) rfl rfl Tryd.func66 (by kernel_rfl) rfl #[.slice Ao12 x4_1.length co12, .agg #[.int .u8 ((rd_T60 l0 x9_1).f0), .int .u32 ((rd_T60 l0 x9_1).f1), .string ((rd_T60 l0 x9_1).f2), .string ((rd_T60 l0 x9_1).f3)]] rfl y2_ ?_; (with_reducible refine (props_one.calls k1 (fun k_ => some k_ = (.slice Ao12 x4_1.length co12 : Value).ownBlock) (.slice Ao12 x4_1.length co12) x4_1 ((rd_T60 l0 x9_1).f0) ((rd_T60 l0 x9_1).f1) ((rd_T60 l0 x9_1).f2) ((rd_T60 l0 x9_1).f3) t104 w _ ?side1 ?side2 A7.out).mono ?_); (case side1 => exact z34z1); (case side2 => exact Kd.R_tight rfl HO_4.out); rintro e w13 ⟨v105, rfl, ho0, hb, hkp⟩; refine ⟨_, rfl, ?_⟩; have n0_ := Aside0.mk (blk_kept (by (with_reducible repeat (first | refine blk_drewN ?_ _ | refine blk_drew ?_ | refine blk_alloc ?_ _)); exact BK102.out) hkp (fun hs_ => (fun e_ => (Kd.R_ne HO_4.out BK102.out (by decide)) e_) hs_)); have n1_ := Aside0.mk (Kd.R_mono (ok' := fun k_ => True) ho0 (fun k_ hk_ => trivial)); have n2_ := Aside0.mk (hb); replace BK102 := n0_; have HO106 := n1_; replace HB := n2_; clear HO_4; clear n0_ n1_ n2_; clear hb hkp ho0))
       go_roundg k1
       case measure => have := HK1.out; omega
       case rel => exact ⟨(t104), (wrap64 (x9_1 + 1)), y7_, H', ⟨y25_⟩, ⟨y15_⟩, ⟨z34z1⟩⟩
      ·replace c6 := Bool.eq_false_iff.mpr c6
       subst c6
       replace H : (some (([] : List Int), false)) = some (r1, r2) := by rw [if_neg (show ¬ (false = true) by decide)] at H; exact H
       simp only [Option.some.injEq, Prod.mk.injEq] at H
       obtain ⟨rfl, rfl⟩ := H
       have p101 : 0 ≤ (x9_1 : Int) := of_decide_eq_true y5_
       have q101 : x9_1 < (l0.length : Int) := of_decide_eq_true y5_
       obtain ⟨ad101, e101, hx101_0, hx101_1, hx101_2, hx101_3⟩ := at_T60 HR0.out x9_1 p101 q101
       cases e101
       replace hx101_0 := (HB.out.cell (World.block_lt_of_cell? w _ hx101_0)).trans hx101_0
       replace hx101_1 := (HB.out.cell (World.block_lt_of_cell? w _ hx101_1)).trans hx101_1
       replace hx101_2 := (HB.out.cell (World.block_lt_of_cell? w _ hx101_2)).trans hx101_2
       replace hx101_3 := (HB.out.cell (World.block_lt_of_cell? w _ hx101_3)).trans hx101_3
       replace p101 := eq_true p101
       replace q101 := eq_true q101
       go_wp2_with (first | ((with_reducible refine gate_dst (N := 6) rfl ?_); refine box_event ?hg (N := 6) ?hd (cs := #[.int .u8 0, .int .u32 0, .string (⟨#[]⟩ : ByteArray), .string (⟨#[]⟩ : ByteArray)]) (t := 60) ?hr ?_; (case hd => rfl); (case hg => rfl); (case hr => first | (go_simp; done) | (go_simp; rfl)); intro gb102 hg w14 hbox hb; have n0_ := Aside0.mk (Kd.R_below z34z3 hb); have n1_ := Aside0.mk (below_step y0_ hb); have n2_ := Aside0.mk (hbox); have n3_ := Aside0.mk ((by rw [hg]; exact (below_size y0_) : w.heap.size ≤ gb102)); have n4_ := Aside0.mk ((by rw [hg]; exact (below_size y0_) : w.heap.size ≤ gb102)); replace HO_4 := n0_; replace HB := n1_; have BK102 := n2_; have GW102 := n3_; have GE102 := n4_; clear n0_ n1_ n2_ n3_ n4_; clear hb hbox hg; obtain ⟨hcz15_0, hcz15_1, hcz15_2, hcz15_3⟩ := ccs4_ BK102.out; obtain ⟨hfz15_0, hfz15_1, hfz15_2, hfz15_3⟩ := fzs4_ BK102.out) | ((with_reducible refine gate_callee (f := 65) rfl ?_); refine goesL_ (some 14) rfl rfl Tryd.func65 (by kernel_rfl) rfl #[.agg #[.int .u8 ((rd_T60 l0 x9_1).f0), .int .u32 ((rd_T60 l0 x9_1).f1), .string ((rd_T60 l0 x9_1).f2), .string ((rd_T60 l0 x9_1).f3)]] rfl y2_ ?_; (with_reducible refine (prop_Right.calls k1 ((rd_T60 l0 x9_1).f0) ((rd_T60 l0 x9_1).f1) ((rd_T60 l0 x9_1).f2) ((rd_T60 l0 x9_1).f3) false _ ?side1 A5.out).mono ?_); (case side1 => exact GW.below HG.out z34z1); rintro e w16 ⟨rfl, hb⟩; refine ⟨_, rfl, ?_⟩; have n0_ := Aside0.mk (Kd.R_below z34z2 hb); have n1_ := Aside0.mk (blk_below (g := gb102) (o := .cells #[.int .u8 ((rd_T60 l0 x9_1).f0), .int .u32 ((rd_T60 l0 x9_1).f1), .string ((rd_T60 l0 x9_1).f2), .string ((rd_T60 l0 x9_1).f3)] 60 (0, 0)) z34z0 hb); have n2_ := Aside0.mk (below_step z34z1 hb); replace HO_4 := n0_; replace BK102 := n1_; replace HB := n2_; clear n0_ n1_ n2_; clear hb))
       go_ret2
       exact ⟨_, y4_, y21_, z34z1⟩
     ·rw [if_neg c4] at H
      exact absurd H (by simp)
    ·rw [if_neg c3] at H
     exact absurd H (by simp)
   ·rw [if_neg c2] at H
    have c2b0 := decide_eq_false c2
    clear c2
    simp only [Option.some.injEq, Prod.mk.injEq] at H
    obtain ⟨rfl, rfl⟩ := H
    obtain ⟨Ao17, co17, eo17⟩ := Kd.R_slice HO_4.out
    subst eo17
    go_wp2
    go_ret2
    exact ⟨_, y4_, z34z3, y0_⟩
def props_Put.f (k : Nat) (l0 : List Int) (l1 : List (S60)) : Option (List Int) := (props_section.f k l1).bind fun bt101 => (if bt101.2 = true then ((wire_Var.f k l0 (((bt101.1.length : Int)) % 4294967296)).bind fun t105 => (if t105.length + bt101.1.length < 140737488355328 then (some (t105 ++ bt101.1)) else (none))) else ((slices_Clone_byte_byte.f l0).bind fun t111 => (some t111)))
theorem props_Put.mono : ∀ a0 a1 k, LeO (props_Put.f k a0 a1) (props_Put.f (k + 1) a0 a1) := by
  intro a0 a1 k
  unfold props_Put.f
  repeat' first
      | (with_reducible exact props_section.mono _ _)
      | (with_reducible exact wire_Var.mono _ _ _)
      | (with_reducible exact LeO.refl _)
      | (with_reducible exact LeO.none _)
      | (with_reducible refine LeO.ite ?_ ?_)
      | (with_reducible refine LeO.bind ?_ (fun _ => ?_))
      | exact props_section.mono _ _
      | exact wire_Var.mono _ _ _
      | exact LeO.none _
      | refine LeO.ite ?_ ?_
      | refine LeO.bind ?_ (fun _ => ?_)
theorem z11z0 {p : Prop} (h : p := by repeat (first | exact (Kd.C_below HR0.out HB.out) | (with_reducible refine Kd.C_alloc ?_ _) | (with_reducible refine Kd.C_drewN ?_ _) | (with_reducible refine Kd.C_drew ?_))) : p := h
theorem z11z1 {p : Prop} (h : p := by repeat (first | exact HR1.out | (with_reducible refine Kd.C_alloc ?_ _) | (with_reducible refine Kd.C_drewN ?_ _) | (with_reducible refine Kd.C_drew ?_))) : p := h
theorem props_Put.calls (k : Nat) (A0 : Option Addr) (c0 : Nat) (l0 : List Int) (A1 : Option Addr) (c1 : Nat) (l1 : List (S60)) (r : List Int) (w : World) (hr0 : Kd.C (Kd.int .u8) w A0 l0.length l0) (hc0 : l0.length ≤ c0) (hr1 : Kd.C k60 w A1 l1.length l1) (hc1 : l1.length ≤ c1) (hG : GW w) (h : props_Put.f k l0 l1 = some r) :
  Calls Tryd.prog 11 #[.slice A0 l0.length c0, .slice A1 l1.length c1] w fun e w' => ∃ v0_ : Value, e = .returned (v0_) ∧ Kd.R (Kd.int .u8) 5 w' w.heap.size (fun _ => True) v0_ r ∧ Below w.heap.size w w' := by
 have HR0 := Aside0.mk hr0
 have HC0 := Aside0.mk hc0
 clear hr0 hc0
 have HR1 := Aside0.mk hr1
 have HC1 := Aside0.mk hc1
 clear hr1 hc1
 have HB := Aside0.mk (Below.refl w.heap.size w)
 have HG := Aside0.mk hG
 clear hG
 have H : ((props_section.f k l1).bind fun bt101 => (if bt101.2 = true then ((wire_Var.f k l0 (((bt101.1.length : Int)) % 4294967296)).bind fun t105 => (if t105.length + bt101.1.length < 140737488355328 then (some (t105 ++ bt101.1)) else (none))) else ((slices_Clone_byte_byte.f l0).bind fun t111 => (some t111)))) = some r := h
 clear h
 replace H := Option.bind_eq_some_iff.mp H
 obtain ⟨⟨t101, t102⟩, A30, H⟩ := H
 try dsimp -simprocs only at H
 have A3 := Aside0.mk A30
 clear A30
 by_cases c4 : t102 = true
 rotate_left
 ·replace c4 := Bool.eq_false_iff.mpr c4
  subst c4
  replace H : ((slices_Clone_byte_byte.f l0).bind fun t111 => (some t111)) = some r := by rw [if_neg (show ¬ (false = true) by decide)] at H; exact H
  replace H := Option.bind_eq_some_iff.mp H
  obtain ⟨t111, A110, H⟩ := H
  replace H : (some t111) = some r := H
  have A11 := Aside0.mk A110
  clear A110
  obtain rfl := Option.some.inj H
  go_enter Tryd.func11, Tryd.ntmps11
  go_wp2_with (first | ((with_reducible refine gate_callee (f := 34) rfl ?_); refine goesL_ (some 9) rfl rfl Tryd.func34 (by kernel_rfl) rfl #[.slice A1 l1.length c1] rfl y2_ ?_; (with_reducible refine (props_section.calls k _ _ l1 t101 false _ ?side1 ?side2 ?side3 A3.out).mono ?_); (case side1 => exact z11z1); (case side2 => exact HC1.out); (case side3 => exact GW.below HG.out y0_); rintro e w12 ⟨v103, rfl, ho0, hb⟩; refine ⟨_, rfl, ?_⟩; have n0_ := Aside0.mk (Kd.R_lower ho0 (below_size y0_)); have n1_ := Aside0.mk (below_step y0_ hb); have HO104 := n0_; replace HB := n1_; clear n0_ n1_; clear hb ho0) | ((with_reducible refine gate_callee (f := 35) rfl ?_); refine goesL_ (some 15) rfl rfl Tryd.func35 (by kernel_rfl) rfl #[.slice A0 l0.length c0] rfl y2_ ?_; (with_reducible refine (slices_Clone_byte_byte.calls _ _ l0 t111 _ ?side1 ?side2 A11.out).mono ?_); (case side1 => exact z11z0); (case side2 => exact HC0.out); rintro e w13 ⟨v112, rfl, ho0, hb⟩; refine ⟨_, rfl, ?_⟩; have n0_ := Aside0.mk (Kd.R_elder' y14_ (Kd.R_base ho0) hb); have n1_ := Aside0.mk (Kd.R_lower (Kd.R_new' ho0 (Kd.R_lt y14_)) (below_size y0_)); have n2_ := Aside0.mk (below_step y0_ hb); replace HO104 := n0_; have HO113 := n1_; replace HB := n2_; clear n0_ n1_ n2_; clear hb ho0))
  go_ret
  exact ⟨_, y4_, by (with_reducible repeat (first | apply Kd.R_alloc | apply Kd.R_drewN | apply Kd.R_drew)); exact Kd.R_mono HO113.out (fun _ hk => trivial), y0_⟩
 subst c4
 have H1 : ((wire_Var.f k l0 (((t101.length : Int)) % 4294967296)).bind fun t105 => (if t105.length + t101.length < 140737488355328 then (some (t105 ++ t101)) else (none))) = some r := by rw [if_pos rfl] at H; exact H
 clear H
 have H := H1
 clear H1
 replace H := Option.bind_eq_some_iff.mp H
 obtain ⟨t105, A50, H⟩ := H
 replace H : (if t105.length + t101.length < 140737488355328 then (some (t105 ++ t101)) else (none)) = some r := H
 have A5 := Aside0.mk A50
 clear A50
 by_cases c6 : t105.length + t101.length < 140737488355328
 rotate_left
 ·rw [if_neg c6] at H
  exact absurd H (by simp)
 rw [if_pos c6] at H
 have LMc6 := Aside0.mk c6
 clear c6
 obtain ⟨y108, hy108⟩ : ∃ y_ : List Int, y_ = (t105 ++ t101) := ⟨_, rfl⟩
 replace H : (some y108) = some r := by first | (rw [hy108]; with_reducible exact H) | (have H2_ := (Option.bind_some _ _).symm.trans H; rw [hy108]; with_reducible exact H2_) | (have H2_ := (Option.bind_some _ _).symm.trans H; with_reducible exact H2_) | with_reducible exact H | (rw [hy108]; exact H) | exact H
 have Ny108 := Aside0.mk hy108
 clear hy108
 obtain rfl := Option.some.inj H
 go_enter Tryd.func11, Tryd.ntmps11
 go_wp2_with (first | ((with_reducible refine gate_callee (f := 34) rfl ?_); refine goesL_ (some 9) rfl rfl Tryd.func34 (by kernel_rfl) rfl #[.slice A1 l1.length c1] rfl y2_ ?_; (with_reducible refine (props_section.calls k _ _ l1 t101 true _ ?side1 ?side2 ?side3 A3.out).mono ?_); (case side1 => exact z11z1); (case side2 => exact HC1.out); (case side3 => exact GW.below HG.out y0_); rintro e w7 ⟨v103, rfl, ho0, hb⟩; refine ⟨_, rfl, ?_⟩; have n0_ := Aside0.mk (Kd.R_lower ho0 (below_size y0_)); have n1_ := Aside0.mk (below_step y0_ hb); have HO104 := n0_; replace HB := n1_; clear n0_ n1_; clear hb ho0; obtain ⟨Ao8, co8, eo8⟩ := Kd.R_slice HO104.out; subst eo8) | ((with_reducible refine gate_callee (f := 36) rfl ?_); refine goesL_ (some 20) rfl rfl Tryd.func36 (by kernel_rfl) rfl #[.slice A0 l0.length c0, .int .u32 (((t101.length : Int)) % 4294967296)] rfl y2_ ?_; (with_reducible refine (wire_Var.calls k _ _ l0 (((t101.length : Int)) % 4294967296) t105 _ ?side1 ?side2 A5.out).mono ?_); (case side1 => exact z11z0); (case side2 => exact HC0.out); rintro e w9 ⟨v106, rfl, ho0, hb⟩; refine ⟨_, rfl, ?_⟩; have n0_ := Aside0.mk (Kd.R_elder' y14_ (Kd.R_base ho0) hb); have n1_ := Aside0.mk (Kd.R_lower (Kd.R_new' ho0 (Kd.R_lt y14_)) (below_size y0_)); have n2_ := Aside0.mk (below_step y0_ hb); replace HO104 := n0_; have HO107 := n1_; replace HB := n2_; clear n0_ n1_ n2_; clear hb ho0) | ((with_reducible refine gate_builtin (b := .append) (xs := #[.tmp 20, .tmp 21]) rfl ?_); at_builtin; refine Kd.R_append_rows (Kd.int .u8) (w0 := w) w.heap.size rfl (.tmp 20) (.tmp 21) 25 5 (.int .u8 0) 1 rfl Tryd.underlying25 info5 rfl (by decide) (by omega) v106 t105 t101 _ _ _ (fun k_ => some k_ ≠ (.slice Ao8 t101.length co8 : Value).ownBlock) (fun _ => False) rfl rfl ?aO ?aR (fun _ _ h => h) (fun _ h => h.elim) ?aF ?aB ?aS ?aL ?_; (case aR => repeat (first | exact (Kd.R_reads' HO104.out).2.2 | (with_reducible refine Kd.C_alloc ?_ _) | (with_reducible refine Kd.C_drewN ?_ _) | (with_reducible refine Kd.C_drew ?_))); (case aB => exact y0_); (case aF => exact (fun k_ hk => Kd.fresh' (Kd.R_lt y14_) k_ hk)); (case aO => exact (by (with_reducible repeat (first | apply Kd.R_alloc | apply Kd.R_drewN | apply Kd.R_drew)); exact Kd.R_mono HO107.out (fun _ hk => hk.2))); (case aS => exact (below_size y0_)); (case aL => have := LMc6.out; omega); intro v109 w10 ho hb hg hat; rw [← Ny108.out] at ho; have n0_ := Aside0.mk (Kd.R_after (ok := (fun _ => True)) y14_ hg hat); have n1_ := Aside0.mk (hb); have n2_ := Aside0.mk (ho); replace HO104 := n0_; replace HB := n1_; have HO110 := n2_; clear HO107; clear n0_ n1_ n2_; clear ho hb hg hat))
 go_ret
 exact ⟨_, y4_, by (with_reducible repeat (first | apply Kd.R_alloc | apply Kd.R_drewN | apply Kd.R_drew)); exact Kd.R_mono HO110.out (fun _ hk => trivial), y0_⟩
def props_Size.f (k : Nat) (l0 : List (S60)) : Option (Int) := (props_Put.f k ([] : List Int) l0).bind fun t101 => (some (t101.length : Int))
theorem props_Size.mono : ∀ a0 k, LeO (props_Size.f k a0) (props_Size.f (k + 1) a0) := by
  intro a0 k
  unfold props_Size.f
  repeat' first
      | (with_reducible exact props_Put.mono _ _ _)
      | (with_reducible exact LeO.refl _)
      | (with_reducible exact LeO.none _)
      | (with_reducible refine LeO.ite ?_ ?_)
      | (with_reducible refine LeO.bind ?_ (fun _ => ?_))
      | exact props_Put.mono _ _ _
      | exact LeO.none _
      | refine LeO.ite ?_ ?_
      | refine LeO.bind ?_ (fun _ => ?_)
theorem props_Size.calls (k : Nat) (A0 : Option Addr) (c0 : Nat) (l0 : List (S60)) (r : Int) (w : World) (hr0 : Kd.C k60 w A0 l0.length l0) (hc0 : l0.length ≤ c0) (hG : GW w) (h : props_Size.f k l0 = some r) :
    Calls Tryd.prog 14 #[.slice A0 l0.length c0] w fun e w' => e = .returned (.int .i64 r) ∧ Below w.heap.size w w' := by
  have HR0 := Aside0.mk hr0
  have HC0 := Aside0.mk hc0
  clear hr0 hc0
  have HB := Aside0.mk (Below.refl w.heap.size w)
  have HG := Aside0.mk hG
  clear hG
  have H : ((props_Put.f k ([] : List Int) l0).bind fun t101 => (some (t101.length : Int))) = some r := h
  clear h
  replace H := Option.bind_eq_some_iff.mp H
  obtain ⟨t101, A20, H⟩ := H
  replace H : (some (t101.length : Int)) = some r := H
  have A2 := Aside0.mk A20
  clear A20
  obtain rfl := Option.some.inj H
  go_enter Tryd.func14, Tryd.ntmps14
  go_wp2_with (first | ((with_reducible refine gate_callee (f := 11) rfl ?_); refine goesL_ (some 4) rfl rfl Tryd.func11 (by kernel_rfl) rfl #[.slice none 0 0, .slice A0 l0.length c0] rfl y2_ ?_; (refine (props_Put.calls k _ _ ([] : List Int) _ _ l0 t101 _ ?side1 ?side2 ?side3 ?side4 ?side5 A2.out).mono ?_); (case side1 => exact Kd.C_nil _ _); (case side2 => exact Nat.le_refl _); (case side3 => repeat (first | exact HR0.out | (with_reducible refine Kd.C_alloc ?_ _) | (with_reducible refine Kd.C_drewN ?_ _) | (with_reducible refine Kd.C_drew ?_))); (case side4 => exact HC0.out); (case side5 => exact GW.below HG.out y0_); rintro e w3 ⟨v102, rfl, ho0, hb⟩; refine ⟨_, rfl, ?_⟩; have n0_ := Aside0.mk (Kd.R_lower ho0 (below_size y0_)); have n1_ := Aside0.mk (below_step y0_ hb); clear HB; have HO103 := n0_; have HB := n1_; clear n0_ n1_; (try clear hb); (try clear hb2); (try clear hk); (try clear hi); (try clear ho0); obtain ⟨Ao4, co4, eo4⟩ := Kd.R_slice HO103.out; subst eo4))
  go_ret
  exact ⟨y4_, y0_⟩
end Go.Proofs.YtkmkgpigmldhnaaDoor.P
namespace Go.Proofs.YtkmkgpigmldhnaaDoor.P
open Go.RowKit Go.Shelf Go.Lib Go.Proofs.YtkmkgpigmldhnaaDoorW.PrintWords
def two : ByteArray := ⟨#[43, 35]⟩
theorem two_size : two.size = 2 := rfl
theorem two_list : two.data.toList = [43, 35] := rfl
theorem decode_tail (s : ByteArray) (pos : Nat) (h : pos < s.size) :
  pos + (Utf8.decode s pos).2 ≤ s.size ∧ 1 ≤ (Utf8.decode s pos).2 ∧ ∀ j, 1 ≤ j → j < (Utf8.decode s pos).2 → 128 ≤ (s.get! (pos + j)).toNat := by
 have hd : ∀ a : Nat, a / 64 = 2 → 128 ≤ a := fun a ha => by omega
 simp only [Utf8.decode, get_at s pos h]
 repeat' split
 all_goals simp_all
 all_goals try omega
 all_goals (refine ⟨by omega, fun j h1 h2 => ?_⟩)
 all_goals (have h3 : j = 1 ∨ j = 2 ∨ j = 3 := by omega)
 all_goals (rcases h3 with rfl | rfl | rfl <;> omega)
theorem get_list (s : ByteArray) (i : Nat) (h : i < s.size) : s.data.toList[i]? = some (s.get! i) := by
 rw [Lib.data_getElem? s i h, ← get_at s i h]; rfl
theorem noAny_high (s : ByteArray) (i n : Nat) (hn : NoAny s.data.toList [43, 35] i) (hle : i + n ≤ s.size) (h : ∀ j, j < n → 128 ≤ (s.get! (i + j)).toNat) : NoAny s.data.toList [43, 35] (i + n) := fun j b hj hb => by
 by_cases e : j < i
 ·exact hn j b e hb
 ·have hg := get_list s j (by omega)
  rw [hb] at hg
  have h1 := h (j - i) (by omega)
  rw [show i + (j - i) = j by omega] at h1
  obtain rfl := Option.some.inj hg
  have h2 : s.get! j ≠ 43 := fun e2 => by rw [e2] at h1; exact absurd h1 (by decide)
  have h3 : s.get! j ≠ 35 := fun e2 => by rw [e2] at h1; exact absurd h1 (by decide)
  simp [h2, h3]
theorem quiet_add_same {P : Program} {f : FuncId} {args : Array Value} {w : World} {a n : Nat} {v : Value}
  (h : Calls P f args (w.drewN (a + n)) fun e w' => e = .returned v ∧ w' = w.drewN (a + n)) :
  Calls P f args (w.drewN (a + n)) fun e w'' => e = .returned v ∧ ∃ m, w'' = w.drewN (a + m) :=
 h.mono fun _ _ ⟨he, hm⟩ => ⟨he, n, hm⟩
theorem iter_below (w : World) (s : ByteArray) (i : Nat) : Below w.heap.size w (w.iter s i) := (Below.refl _ w).alloc (Nat.le_refl _) _
set_option maxRecDepth 1000000 in
theorem indexRune_high1 (w : World) :
  Calls Tryd.prog 114 #[.string two, .int .i32 65533] w fun e w' => e = .returned (.int .i64 (-1)) ∧ Below w.heap.size w w' := by
 have hs2 : two.size = 2 := rfl
 go_enter Tryd.func114, Tryd.ntmps114
 go_wp2
 go_loopg [5] 2 (fun g _ wx => ∃ i : Nat, i + g = 2 ∧ wx = w.iter two i)
 case atStart => exact ⟨0, rfl, rfl⟩
 case round =>
  obtain ⟨i, hi, rfl⟩ := hrel
  cases gk with
  | zero =>
   obtain rfl : i = 2 := by omega
   have hnx := run_next_end (P := Tryd.prog) w two 2
   go_wp2
   go_ret
   exact ⟨rfl, iter_below _ _ _⟩
  | succ g =>
   have hlt : i < two.size := by rw [two_size]; omega
   obtain ⟨x, hx⟩ : ∃ x : UInt8, two[i]'hlt = x := ⟨_, rfl⟩
   have hx128 : x.toNat < 128 := by
    subst hx
    have b0 : ∀ h : 0 < two.size, (two[0]'h).toNat = 43 := fun _ => rfl
    have b1 : ∀ h : 1 < two.size, (two[1]'h).toNat = 35 := fun _ => rfl
    rcases (by omega : i = 0 ∨ i = 1) with rfl | rfl
    ·rw [b0]; decide
    ·rw [b1]; decide
   have hnx := fun ty => run_next_ascii (P := Tryd.prog) w two i ty hlt (by rw [hx]; exact hx128)
   rw [hx] at hnx
   go_wp2
   go_roundg g
   case measure => omega
   case rel => exact ⟨i + 1, by omega, rfl⟩
set_option maxRecDepth 1000000 in
theorem indexRune_valid (r : Int) (w : World) (h0 : 128 ≤ r) (h1 : r ≤ 2147483647) (hr1 : (r == 65533) = false) (hv : r < 55296 ∨ 57343 < r ∧ r ≤ 1114111)
  (E : ByteArray) (hE : Utf8.encode r = E) (z2 : 2 ≤ E.size) (z4 : E.size ≤ 4) (hx : ∀ h : E.size - 1 < E.size, 128 ≤ (E[E.size - 1]'h).toNat) :
  Calls Tryd.prog 114 #[.string two, .int .i32 r] w fun e w' => e = .returned (.int .i64 (-1)) ∧ Below w.heap.size w w' := by
 have hs2 : two.size = 2 := rfl
 have hr2 : ¬ r < 128 := by omega
 have hr3 : 0 ≤ r := by omega
 have b1 : ∀ h : 1 < two.size, (two[1]'h).toNat = 35 := fun _ => rfl
 have hib : ∀ c, Lib.indexByte (two.extract 2 2).data.toList c = -1 := fun _ => rfl
 by_cases hs3 : 3 ≤ E.size
 ·rcases hv with hv | ⟨hv, hv2⟩
  all_goals
   clear hx
   go_enter Tryd.func114, Tryd.ntmps114
   go_wp2
   go_step3
   go_wp2
   go_loopg [9] 1 (fun g v9 wx => v9 = .int .i64 ((E.size : Int) - 1) ∧ wx = w)
   case atStart => exact ⟨rfl, rfl⟩
   case round =>
    obtain ⟨rfl, rfl⟩ := hrel
    go_wp2
    rw [Exit.noGoto_ret]
    go_ret
    exact ⟨rfl, Below.refl _ _⟩
 ·have hs : E.size = 2 := by omega
  obtain ⟨x, hx2⟩ : ∃ x : UInt8, E[1]'(hs ▸ by decide) = x := ⟨_, rfl⟩
  have hx3 : 128 ≤ x.toNat := by
   have := hx (by omega)
   subst hx2
   simpa [hs] using this
  have q1 : (two[1]'(by decide)).toNat = 35 := rfl
  have q2 : ((35 : Int) != (x.toNat : Int)) = true := by rw [bne_iff_ne]; omega
  clear hx z2 z4 hs3 b1
  rcases hv with hv | ⟨hv, hv2⟩
  all_goals
   go_enter Tryd.func114, Tryd.ntmps114
   go_wp2
   go_step3
   go_wp2
   go_loopg [9] 1 (fun g v9 wx => v9 = .int .i64 1 ∧ wx = w)
   case atStart => exact ⟨rfl, rfl⟩
   case round =>
    obtain ⟨rfl, rfl⟩ := hrel
    go_wp2
    go_step3
    go_wp2_with (fail)
    go_quiet (fail)
    go_wp2_with (fail)
    have hw1 : IntKind.i64.wrap (1 + 1) = 2 := by decide
    have hw2 : IntKind.i64.wrap 2 = 2 := by decide
    have hw3 : (2 : Int) ≤ (two.size : Int) := by decide
    go_quiet ((go_at_call 122; exact quiet_add_same (Tryd.strings_IndexByte _ _ _)))
    go_wp2
    simp only [Exit.noGoto_ret, Exit.inBlock, Exit.then]
    go_ret
    exact ⟨rfl, pw_below_drewN (Below.refl _ _) _⟩
set_option maxRecDepth 1000000 in
theorem indexRune_high (r : Int) (w : World) (h0 : 128 ≤ r) (h1 : r ≤ 2147483647) :
  Calls Tryd.prog 114 #[.string two, .int .i32 r] w fun e w' => e = .returned (.int .i64 (-1)) ∧ Below w.heap.size w w' := by
 by_cases hne : r = 65533
 ·subst hne; exact indexRune_high1 w
 have hs2 : two.size = 2 := rfl
 have hr1 : (r == 65533) = false := beq_eq_false_iff_ne.2 hne
 have hr2 : ¬ r < 128 := by omega
 have hr3 : 0 ≤ r := by omega
 by_cases hv : r < 55296 ∨ 57343 < r ∧ r ≤ 1114111
 ·have hva : Utf8.valid r = true := by rw [validRune_eq]; unfold validRune; exact decide_eq_true (by omega)
  obtain ⟨z2, z4, zl⟩ := encode_facts r hva h0
  exact indexRune_valid r w h0 h1 hr1 hv (Utf8.encode r) rfl z2 z4 zl
 ·have e1 : ¬ r < 55296 := by omega
  by_cases e2 : 57343 < r
  ·have e3 : ¬ r ≤ 1114111 := by omega
   go_enter Tryd.func114, Tryd.ntmps114
   go_wp2
   go_ret
   exact ⟨rfl, Below.refl _ _⟩
  ·go_enter Tryd.func114, Tryd.ntmps114
   go_wp2
   go_ret
   exact ⟨rfl, Below.refl _ _⟩
set_option maxRecDepth 1000000 in
theorem indexAny_short (s : ByteArray) (w : World) (h8 : s.size ≤ 8) :
  Calls Tryd.prog 112 #[.string s, .string two] w fun e w' => e = .returned (.int .i64 (Lib.indexAny s.data.toList [43, 35])) ∧ Below w.heap.size w w' := by
 have hs2 : two.size = 2 := rfl
 have hemp : two.toList.isEmpty = false := by rw [Lib.toList_data]; rfl
 have h8z : decide ((8 : Int) < (s.size : Int)) = false := decide_eq_false (by omega)
 go_enter Tryd.func112, Tryd.ntmps112
 go_wp2_with (go_at_call 115; refine (Tryd.strings_shouldUseASCIISet _ _).mono ?_; rintro e w' ⟨rfl, hw⟩; rw [hw, h8z])
 go_loopg [9, 10] s.size (fun g _ _ wx => ∃ W : World, ∃ i : Nat, i ≤ s.size ∧ s.size - i ≤ g ∧ wx.heap[w.heap.size]? = some (.stringIter s i) ∧ Below w.heap.size w wx ∧ Aside0 (Lib.NoAny s.data.toList [43, 35] i) ∧ W = wx)
 case atStart => exact ⟨_, 0, Nat.zero_le _, by omega, World.iter_heap _ _ _, iter_below _ _ _, ⟨Lib.NoAny.zero _ _⟩, rfl⟩
 case round =>
  obtain ⟨W, i, hle, hig, hit, hbw, hno, rfl⟩ := hrel
  by_cases hlt : i < s.size
  ·obtain ⟨x, hx⟩ : ∃ x : UInt8, s[i]'hlt = x := ⟨_, rfl⟩
   have hxl : s.data.toList[i]? = some x := by rw [← hx]; exact Lib.data_getElem? s i hlt
   cases gk with
   | zero => omega
   | succ g =>
    by_cases h128 : x.toNat < 128
    ·have hnx := fun ty => run_next_ascii_at (P := Tryd.prog) W w.heap.size s i ty hit hlt (by rw [hx]; exact h128)
     rw [hx] at hnx
     have hit2 := iterAt_heap W w.heap.size s i (i + 1) hit
     have hb2 := below_iterAt hbw (Nat.le_refl w.heap.size) s (i + 1)
     have HI := Aside0.mk hit2
     have HX := Aside0.mk hxl
     have HB := Aside0.mk hb2
     clear hit2 hxl hb2 hx hit hbw
     have hback : ((x.toNat : Int)).toNat.toUInt8 = x := by simp
     cases hin : ([43, 35] : List UInt8).contains x
     ·have hib : Lib.indexByte two.data.toList x = -1 := by
       have := Lib.contains_iff_indexByte two.data.toList x
       rw [two_list, hin] at this
       have h2 := Lib.indexByte_ge two.data.toList x
       rw [two_list] at h2 ⊢
       have h3 := of_decide_eq_false this.symm
       omega
      have HN := Aside0.mk hin
      clear hin
      go_wp2_with (go_at_call 114; refine (Tryd.strings_IndexRune_ascii _ _ _ (by omega) (by omega)).mono ?_; rintro e w' ⟨rfl, hw⟩; rw [hw, hback, hib])
      go_roundg g
      case measure => omega
      case rel => exact ⟨_, i + 1, by omega, by omega, HI.out, HB.out, ⟨Lib.NoAny.succ hno.out HX.out HN.out⟩, rfl⟩
     ·have hib : (0 : Int) ≤ Lib.indexByte two.data.toList x := by
       have := Lib.contains_iff_indexByte two.data.toList x
       rw [two_list, hin] at this
       exact of_decide_eq_true this.symm
      have HN := Aside0.mk hin
      clear hin
      go_wp2_with (go_at_call 114; refine (Tryd.strings_IndexRune_ascii _ _ _ (by omega) (by omega)).mono ?_; rintro e w' ⟨rfl, hw⟩; rw [hw, hback])
      go_ret
      exact ⟨by rw [Lib.indexAny_hit hno.out HX.out HN.out]; rfl, HB.out⟩
    ·have hd := decode_tail s i hlt
     have hh := decode_high s i hlt (by rw [hx]; omega)
     have hb := decode_le s i
     have hnx := fun ty => run_next_any_at (P := Tryd.prog) W w.heap.size s i ty hit hlt
     obtain ⟨c, hc⟩ : ∃ c, (Utf8.decode s i).1 = c := ⟨_, rfl⟩
     obtain ⟨n, hn⟩ : ∃ n, (Utf8.decode s i).2 = n := ⟨_, rfl⟩
     rw [hc, hn] at hnx
     rw [hn] at hd hh
     rw [hc] at hh hb
     have hit2 := iterAt_heap W w.heap.size s i (i + n) hit
     have hb2 := below_iterAt hbw (Nat.le_refl w.heap.size) s (i + n)
     have hno2 : Lib.NoAny s.data.toList [43, 35] (i + n) := noAny_high s i n hno.out hd.1 (fun j hj => by
      by_cases e : j = 0
      ·subst e
       have hg := get_list s i hlt
       rw [hxl] at hg
       have := Option.some.inj hg
       rw [Nat.add_zero, ← this]; omega
      ·exact hd.2.2 j (by omega) hj)
     have hsz : w.heap.size < (W.iterAt w.heap.size s (i + n)).heap.size := (Array.getElem?_eq_some_iff.1 hit2).1
     have HI := Aside0.mk hit2
     have HB := Aside0.mk hb2
     have HN := Aside0.mk hno2
     have HD := Aside0.mk hd
     have HS := Aside0.mk hsz
     have hc1 : (128 : Int) ≤ (c : Int) := by omega
     have hc2 : (c : Int) ≤ 2147483647 := by omega
     clear hit2 hb2 hno2 hd hsz hxl hx hit hbw hc hn hno
     go_wp2_with (go_at_call 114; refine (indexRune_high _ _ hc1 hc2).mono ?_; rintro e w' ⟨rfl, hbr⟩; have HR := Aside0.mk hbr; clear hbr)
     go_roundg g
     case measure => omega
     case rel =>
      have hr := HR.out
      refine ⟨_, i + n, HD.out.1, by have := HD.out.2.1; omega, ?_, HB.out.trans ⟨hr.os, hr.tape, hr.output, hr.size, fun j hj => hr.block j (by have := HB.out.size; omega)⟩, HN, rfl⟩
      rw [hr.block _ HS.out]; exact HI.out
  ·obtain rfl : i = s.size := by omega
   have hnx := fun ty => run_next_end_at (P := Tryd.prog) W w.heap.size s s.size ty hit (Nat.lt_irrefl _)
   have HB := Aside0.mk hbw
   clear hit hbw
   go_wp2
   go_ret
   exact ⟨by rw [Lib.indexAny_none (by rw [← Lib.size_eq]; exact hno.out)]; rfl, HB.out⟩
def strings_IndexAny.f (a0 a1 : ByteArray) : Option Int := if a1.data.toList = [43, 35] then (if a0.size < 4294967281 then some (Go.Lib.indexAny a0.data.toList [43, 35]) else none) else none
theorem strings_IndexAny.calls (a0 : ByteArray) (a1 : ByteArray) (r : Int) (w : World) (h : strings_IndexAny.f a0 a1 = some r) :
  Calls Tryd.prog 112 #[.string a0, .string a1] w fun e w' => e = .returned (.int .i64 r) ∧ Below w.heap.size w w' := by
 unfold strings_IndexAny.f at h
 split at h
 ·split at h
  ·rename_i h1 h2
   obtain rfl := Option.some.inj h
   obtain rfl : a1 = two := by
    cases a1 with
    | mk d => have h1 : d.toList = [43, 35] := h1; unfold two; congr; exact Array.toList_inj.1 h1
   by_cases h8 : a0.size ≤ 8
   ·exact indexAny_short a0 w h8
   ·refine (Tryd.strings_IndexAny_long (zero_of_info (n := 256) (by kernel_rfl)).1 a0 two w (by decide) (by omega) h2 (by decide) (fun j b hb => ?_)).mono fun e w' ⟨he, hw⟩ => ⟨he, hw ▸ below_alloc (below_alloc (Below.refl _ _) _) _⟩
    match j, hb with
    | 0, hb => cases hb; decide
    | 1, hb => cases hb; decide
    | j + 2, hb => cases hb
  ·cases h
 ·cases h
end Go.Proofs.YtkmkgpigmldhnaaDoor.P
namespace Go.Proofs.YtkmkgpigmldhnaaDoor.P
open Go.RowKit Go.Proofs.YtkmkgpigmldhnaaDoorW.PrintWords Go.Proofs.YtkmkgpigmldhnaaDoorW.PrintLast Go.Proofs.YtkmkgpigmldhnaaDoorW.PrintMore
attribute [local go_sem] max2_int min2_int max_two min_two max_three min_three max_four min_four
def strings_ContainsAny.f (a0 : ByteArray) (a1 : ByteArray) : Option (Bool) := (strings_IndexAny.f a0 a1).bind fun t101 => (some (decide (t101 ≥ 0)))
theorem strings_ContainsAny.calls (a0 : ByteArray) (a1 : ByteArray) (r : Bool) (w : World) (h : strings_ContainsAny.f a0 a1 = some r) :
    Calls Tryd.prog 107 #[.string a0, .string a1] w fun e w' => e = .returned (.bool r) ∧ Below w.heap.size w w' := by
  have HB := Aside0.mk (Below.refl w.heap.size w)
  have H : ((strings_IndexAny.f a0 a1).bind fun t101 => (some (decide (t101 ≥ 0)))) = some r := h
  clear h
  replace H := Option.bind_eq_some_iff.mp H
  obtain ⟨t101, A30, H⟩ := H
  replace H : (some (decide (t101 ≥ 0))) = some r := H
  have A3 := Aside0.mk A30
  clear A30
  obtain rfl := Option.some.inj H
  go_enter Tryd.func107, Tryd.ntmps107
  go_wp2_with (first | ((with_reducible refine gate_callee (f := 112) rfl ?_); refine goesL_ (some 7) rfl rfl Tryd.func112 (by kernel_rfl) rfl #[.string a0, .string a1] rfl y2_ ?_; (with_reducible refine (strings_IndexAny.calls a0 a1 t101 _ A3.out).mono ?_); rintro e w4 ⟨rfl, hb⟩; refine ⟨_, rfl, ?_⟩; have n0_ := Aside0.mk (below_step y0_ hb); clear HB; have HB := n0_; clear n0_; (try clear hb); (try clear hb2); (try clear hk); (try clear hi)))
  go_ret
  exact ⟨y4_, y0_⟩
def topic_Wild.f (a0 : ByteArray) : Option (Bool) := (strings_ContainsAny.f a0 (⟨#[43, 35]⟩ : ByteArray)).bind fun t101 => (some t101)
theorem topic_Wild.calls (a0 : ByteArray) (r : Bool) (w : World) (h : topic_Wild.f a0 = some r) :
    Calls Tryd.prog 99 #[.string a0] w fun e w' => e = .returned (.bool r) ∧ Below w.heap.size w w' := by
  have HB := Aside0.mk (Below.refl w.heap.size w)
  have H : ((strings_ContainsAny.f a0 (⟨#[43, 35]⟩ : ByteArray)).bind fun t101 => (some t101)) = some r := h
  clear h
  replace H := Option.bind_eq_some_iff.mp H
  obtain ⟨t101, A20, H⟩ := H
  replace H : (some t101) = some r := H
  have A2 := Aside0.mk A20
  clear A20
  obtain rfl := Option.some.inj H
  go_enter Tryd.func99, Tryd.ntmps99
  go_wp2_with (first | ((with_reducible refine gate_callee (f := 107) rfl ?_); refine goesL_ (some 4) rfl rfl Tryd.func107 (by kernel_rfl) rfl #[.string a0, .string (⟨#[43, 35]⟩ : ByteArray)] rfl y2_ ?_; (with_reducible refine (strings_ContainsAny.calls a0 (⟨#[43, 35]⟩ : ByteArray) t101 _ A2.out).mono ?_); rintro e w3 ⟨rfl, hb⟩; refine ⟨_, rfl, ?_⟩; have n0_ := Aside0.mk (below_step y0_ hb); clear HB; have HB := n0_; clear n0_; (try clear hb); (try clear hb2); (try clear hk); (try clear hi)))
  go_ret
  exact ⟨y4_, y0_⟩
def topic_Name.f (a0 : ByteArray) : Option (Bool) := if a0.toList = ([] : List UInt8) then (some false) else ((text_Right.f a0).bind fun t101 => (if t101 = true then ((topic_Wild.f a0).bind fun t102 => (some (!t102))) else (some false)))
theorem topic_Name.calls (a0 : ByteArray) (r : Bool) (w : World) (hG : GW w) (h : topic_Name.f a0 = some r) :
    Calls Tryd.prog 83 #[.string a0] w fun e w' => e = .returned (.bool r) ∧ Below w.heap.size w w' := by
  have HB := Aside0.mk (Below.refl w.heap.size w)
  have HG := Aside0.mk hG
  clear hG
  have H : (if a0.toList = ([] : List UInt8) then (some false) else ((text_Right.f a0).bind fun t101 => (if t101 = true then ((topic_Wild.f a0).bind fun t102 => (some (!t102))) else (some false)))) = some r := h
  clear h
  by_cases c2 : a0.toList = ([] : List UInt8)
  · rw [if_pos c2] at H
    obtain ⟨c2b0, c2b1⟩ := eqt_ c2
    clear c2
    obtain rfl := Option.some.inj H
    go_enter Tryd.func83, Tryd.ntmps83
    go_wp2
    go_ret
    exact ⟨y4_, y0_⟩
  · rw [if_neg c2] at H
    obtain ⟨c2b0, c2b1⟩ := eqf_ c2
    replace H := Option.bind_eq_some_iff.mp H
    obtain ⟨t101, A30, H⟩ := H
    replace H : (if t101 = true then ((topic_Wild.f a0).bind fun t102 => (some (!t102))) else (some false)) = some r := H
    have A3 := Aside0.mk A30
    clear A30
    by_cases c4 : t101 = true
    · subst c4
      have H1 : ((topic_Wild.f a0).bind fun t102 => (some (!t102))) = some r := by rw [if_pos rfl] at H; exact H
      clear H
      have H := H1
      clear H1
      replace H := Option.bind_eq_some_iff.mp H
      obtain ⟨t102, A50, H⟩ := H
      replace H : (some (!t102)) = some r := H
      have A5 := Aside0.mk A50
      clear A50
      obtain rfl := Option.some.inj H
      go_enter Tryd.func83, Tryd.ntmps83
      go_wp2_with (first | (go_at_call 88; (with_reducible refine (text_Right.calls a0 true _ ?side1 A3.out).mono ?_); (case side1 => exact GW.below HG.out y0_); rintro e w6 ⟨rfl, hb⟩; have n0_ := Aside0.mk (below_step y0_ hb); clear HB; have HB := n0_; clear n0_; (try clear hb); (try clear hb2); (try clear hk); (try clear hi)) | (go_at_call 99; (with_reducible refine (topic_Wild.calls a0 t102 _ A5.out).mono ?_); rintro e w7 ⟨rfl, hb⟩; have n0_ := Aside0.mk (below_step y0_ hb); clear HB; have HB := n0_; clear n0_; (try clear hb); (try clear hb2); (try clear hk); (try clear hi)))
      go_ret
      exact ⟨y4_, y0_⟩
    · replace c4 := Bool.eq_false_iff.mpr c4
      subst c4
      have H1 : (some false) = some r := by rw [if_neg (show ¬ (false = true) by decide)] at H; exact H
      clear H
      have H := H1
      clear H1
      obtain rfl := Option.some.inj H
      go_enter Tryd.func83, Tryd.ntmps83
      go_wp2_with (first | (go_at_call 88; (with_reducible refine (text_Right.calls a0 false _ ?side1 A3.out).mono ?_); (case side1 => exact GW.below HG.out y0_); rintro e w8 ⟨rfl, hb⟩; have n0_ := Aside0.mk (below_step y0_ hb); clear HB; have HB := n0_; clear n0_; (try clear hb); (try clear hb2); (try clear hk); (try clear hi)))
      go_ret
      exact ⟨y4_, y0_⟩
def prop_Value.j0 : Nat → Bool → Int → Int → ByteArray → ByteArray → Option (Bool)
  | 0, _, _, _, _, _ => none
  | k + 1, x15, x102000, x102001, x102002, x102003 => if x15 = true then (some (x102001 != 0)) else (if x102000 = 8 then ((topic_Name.f x102002).bind fun t104 => (some t104)) else (some true))
def prop_Value.f (k : Nat) (a0_0 : Int) (a0_1 : Int) (a0_2 : ByteArray) (a0_3 : ByteArray) : Option (Bool) := (prop_Right.f k a0_0 a0_1 a0_2 a0_3).bind fun t102 => (if t102 = true then ((prop_Type.f a0_0).bind fun t103 => (if t103 = 1 then (some (decide (a0_1 ≤ 1))) else (if a0_0 = 11 then (prop_Value.j0 k (a0_0 == 11) a0_0 a0_1 a0_2 a0_3) else (if a0_0 = 33 then (prop_Value.j0 k (a0_0 == 33) a0_0 a0_1 a0_2 a0_3) else (if a0_0 = 35 then (prop_Value.j0 k (a0_0 == 35) a0_0 a0_1 a0_2 a0_3) else (prop_Value.j0 k (a0_0 == 39) a0_0 a0_1 a0_2 a0_3)))))) else (some false))
theorem z59m0 {p : Prop} (h : p := by
 repeat' first
 | (with_reducible exact ih0 _ _ _ _ _)
 | (with_reducible exact prop_Right.mono _ _ _ _ _)
 | (with_reducible exact LeO.refl _)
 | (with_reducible exact LeO.none _)
 | (with_reducible refine LeO.ite ?_ ?_)
 | (with_reducible refine LeO.bind ?_ (fun _ => ?_))
 | exact ih0 _ _ _ _ _
 | exact prop_Right.mono _ _ _ _ _
 | exact LeO.none _
 | refine LeO.ite ?_ ?_
 | refine LeO.bind ?_ (fun _ => ?_)) : p := h
theorem prop_Value.mono_l : ∀ k, (∀ y0 y1 y2 y3 y4, LeO (prop_Value.j0 k y0 y1 y2 y3 y4) (prop_Value.j0 (k + 1) y0 y1 y2 y3 y4))
  | 0 => fun _ _ _ _ _ r h => by simp [prop_Value.j0] at h
  | k + 1 => by
    have ih0 := prop_Value.mono_l k
    · intro y0 y1 y2 y3 y4
      unfold prop_Value.j0
      exact z59m0
theorem prop_Value.mono : ∀ a0 a1 a2 a3 k, LeO (prop_Value.f k a0 a1 a2 a3) (prop_Value.f (k + 1) a0 a1 a2 a3) := by
  intro a0 a1 a2 a3 k
  have ih0 := prop_Value.mono_l k
  unfold prop_Value.f
  exact z59m0
theorem z59z0 {p : Prop} (h : p := by first | (go_simp; done) | (go_simp; rfl)) : p := h
theorem prop_Value.calls (k : Nat) (a0_0 : Int) (a0_1 : Int) (a0_2 : ByteArray) (a0_3 : ByteArray) (r : Bool) (w : World) (hG : GW w) (h : prop_Value.f k a0_0 a0_1 a0_2 a0_3 = some r) :
  Calls Tryd.prog 59 #[.agg #[.int .u8 a0_0, .int .u32 a0_1, .string a0_2, .string a0_3]] w fun e w' => e = .returned (.bool r) ∧ Below w.heap.size w w' := by
 have hu60 := Tryd.underlying60
 have HB := Aside0.mk (Below.refl w.heap.size w)
 have HG := Aside0.mk hG
 clear hG
 have H : ((prop_Right.f k a0_0 a0_1 a0_2 a0_3).bind fun t102 => (if t102 = true then ((prop_Type.f a0_0).bind fun t103 => (if t103 = 1 then (some (decide (a0_1 ≤ 1))) else (if a0_0 = 11 then (prop_Value.j0 k (a0_0 == 11) a0_0 a0_1 a0_2 a0_3) else (if a0_0 = 33 then (prop_Value.j0 k (a0_0 == 33) a0_0 a0_1 a0_2 a0_3) else (if a0_0 = 35 then (prop_Value.j0 k (a0_0 == 35) a0_0 a0_1 a0_2 a0_3) else (prop_Value.j0 k (a0_0 == 39) a0_0 a0_1 a0_2 a0_3)))))) else (some false))) = some r := h
 clear h
 replace H := Option.bind_eq_some_iff.mp H
 obtain ⟨t102, A20, H⟩ := H
 try dsimp -simprocs only at H
 have A2 := Aside0.mk A20
 clear A20
 by_cases c3 : t102 = true
 rotate_left
 ·replace c3 := Bool.eq_false_iff.mpr c3
  subst c3
  replace H : (some false) = some r := by rw [if_neg (show ¬ (false = true) by decide)] at H; exact H
  obtain rfl := Option.some.inj H
  go_enter Tryd.func59, Tryd.ntmps59
  go_wp2_with (first | ((with_reducible refine gate_dst (N := 1) rfl ?_); refine box_event ?hg (N := 1) ?hd (cs := #[.int .u8 a0_0, .int .u32 a0_1, .string a0_2, .string a0_3]) (t := 60) ?hr ?_; (case hd => rfl); (case hg => rfl); (case hr => exact z59z0); intro gb101 hg w32 hbox hb; have n0_ := Aside0.mk (below_step y0_ hb); have n1_ := Aside0.mk (hbox); have n2_ := Aside0.mk ((by rw [hg]; exact (below_size y0_) : w.heap.size ≤ gb101)); have n3_ := Aside0.mk ((by rw [hg]; exact (below_size y0_) : w.heap.size ≤ gb101)); replace HB := n0_; have BK101 := n1_; have GW101 := n2_; have GE101 := n3_; clear n0_ n1_ n2_ n3_; clear hb hbox hg; obtain ⟨hcz33_0, hcz33_1, hcz33_2, hcz33_3⟩ := ccs4_ BK101.out) | ((with_reducible refine gate_callee (f := 65) rfl ?_); refine goesL_ (some 5) rfl rfl Tryd.func65 (by kernel_rfl) rfl #[.agg #[.int .u8 a0_0, .int .u32 a0_1, .string a0_2, .string a0_3]] rfl y2_ ?_; (with_reducible refine (prop_Right.calls k a0_0 a0_1 a0_2 a0_3 false _ ?side1 A2.out).mono ?_); (case side1 => exact GW.below HG.out y1_); rintro e w34 ⟨rfl, hb⟩; refine ⟨_, rfl, ?_⟩; have n0_ := Aside0.mk (blk_below (g := gb101) (o := .cells #[.int .u8 a0_0, .int .u32 a0_1, .string a0_2, .string a0_3] 60 (0, 0)) y3_ hb); have n1_ := Aside0.mk (below_step y1_ hb); replace BK101 := n0_; replace HB := n1_; clear n0_ n1_; clear hb))
  go_ret
  exact ⟨y4_, y1_⟩
 subst c3
 have H1 : ((prop_Type.f a0_0).bind fun t103 => (if t103 = 1 then (some (decide (a0_1 ≤ 1))) else (if a0_0 = 11 then (prop_Value.j0 k (a0_0 == 11) a0_0 a0_1 a0_2 a0_3) else (if a0_0 = 33 then (prop_Value.j0 k (a0_0 == 33) a0_0 a0_1 a0_2 a0_3) else (if a0_0 = 35 then (prop_Value.j0 k (a0_0 == 35) a0_0 a0_1 a0_2 a0_3) else (prop_Value.j0 k (a0_0 == 39) a0_0 a0_1 a0_2 a0_3)))))) = some r := by rw [if_pos rfl] at H; exact H
 clear H
 have H := H1
 clear H1
 replace H := Option.bind_eq_some_iff.mp H
 obtain ⟨t103, A40, H⟩ := H
 try dsimp -simprocs only at H
 have A4 := Aside0.mk A40
 clear A40
 by_cases c5 : t103 = 1
 ·rw [if_pos c5] at H
  obtain ⟨c5b0, c5b1⟩ := eqt_ c5
  clear c5
  obtain rfl := Option.some.inj H
  go_enter Tryd.func59, Tryd.ntmps59
  go_wp2_with (first | ((with_reducible refine gate_dst (N := 1) rfl ?_); refine box_event ?hg (N := 1) ?hd (cs := #[.int .u8 a0_0, .int .u32 a0_1, .string a0_2, .string a0_3]) (t := 60) ?hr ?_; (case hd => rfl); (case hg => rfl); (case hr => exact z59z0); intro gb101 hg w6 hbox hb; have n0_ := Aside0.mk (below_step y0_ hb); have n1_ := Aside0.mk (hbox); have n2_ := Aside0.mk ((by rw [hg]; exact (below_size y0_) : w.heap.size ≤ gb101)); have n3_ := Aside0.mk ((by rw [hg]; exact (below_size y0_) : w.heap.size ≤ gb101)); replace HB := n0_; have BK101 := n1_; have GW101 := n2_; have GE101 := n3_; clear n0_ n1_ n2_ n3_; clear hb hbox hg; obtain ⟨hcz7_0, hcz7_1, hcz7_2, hcz7_3⟩ := ccs4_ BK101.out) | ((with_reducible refine gate_callee (f := 65) rfl ?_); refine goesL_ (some 5) rfl rfl Tryd.func65 (by kernel_rfl) rfl #[.agg #[.int .u8 a0_0, .int .u32 a0_1, .string a0_2, .string a0_3]] rfl y2_ ?_; (with_reducible refine (prop_Right.calls k a0_0 a0_1 a0_2 a0_3 true _ ?side1 A2.out).mono ?_); (case side1 => exact GW.below HG.out y1_); rintro e w8 ⟨rfl, hb⟩; refine ⟨_, rfl, ?_⟩; have n0_ := Aside0.mk (blk_below (g := gb101) (o := .cells #[.int .u8 a0_0, .int .u32 a0_1, .string a0_2, .string a0_3] 60 (0, 0)) y3_ hb); have n1_ := Aside0.mk (below_step y1_ hb); replace BK101 := n0_; replace HB := n1_; clear n0_ n1_; clear hb; obtain ⟨hcz9_0, hcz9_1, hcz9_2, hcz9_3⟩ := ccs4_ BK101.out) | ((with_reducible refine gate_callee (f := 82) rfl ?_); refine goesL_ (some 10) rfl rfl Tryd.func82 (by kernel_rfl) rfl #[.int .u8 a0_0] rfl y2_ ?_; (with_reducible refine (prop_Type.calls a0_0 t103 _ A4.out).mono ?_); rintro e w10 ⟨rfl, hb⟩; refine ⟨_, rfl, ?_⟩; have n0_ := Aside0.mk (blk_below (g := gb101) (o := .cells #[.int .u8 a0_0, .int .u32 a0_1, .string a0_2, .string a0_3] 60 (0, 0)) y3_ hb); have n1_ := Aside0.mk (below_step y1_ hb); replace BK101 := n0_; replace HB := n1_; clear n0_ n1_; clear hb; obtain ⟨hcz11_0, hcz11_1, hcz11_2, hcz11_3⟩ := ccs4_ BK101.out))
  go_ret
  exact ⟨y4_, y1_⟩
 rw [if_neg c5] at H
 obtain ⟨c5b0, c5b1⟩ := eqf_ c5
 have HC12 := Aside0.mk H
 clear H
 go_enter Tryd.func59, Tryd.ntmps59
 go_upto_if 15 with (first | ((with_reducible refine gate_dst (N := 1) rfl ?_); refine box_event ?hg (N := 1) ?hd (cs := #[.int .u8 a0_0, .int .u32 a0_1, .string a0_2, .string a0_3]) (t := 60) ?hr ?_; (case hd => rfl); (case hg => rfl); (case hr => exact z59z0); intro gb101 hg w13 hbox hb; have n0_ := Aside0.mk (below_step y0_ hb); have n1_ := Aside0.mk (hbox); have n2_ := Aside0.mk ((by rw [hg]; exact (below_size y0_) : w.heap.size ≤ gb101)); have n3_ := Aside0.mk ((by rw [hg]; exact (below_size y0_) : w.heap.size ≤ gb101)); replace HB := n0_; have BK101 := n1_; have GW101 := n2_; have GE101 := n3_; clear n0_ n1_ n2_ n3_; clear hb hbox hg; obtain ⟨hcz14_0, hcz14_1, hcz14_2, hcz14_3⟩ := ccs4_ BK101.out) | ((with_reducible refine gate_callee (f := 65) rfl ?_); refine goesL_ (some 5) rfl rfl Tryd.func65 (by kernel_rfl) rfl #[.agg #[.int .u8 a0_0, .int .u32 a0_1, .string a0_2, .string a0_3]] rfl y2_ ?_; (with_reducible refine (prop_Right.calls k a0_0 a0_1 a0_2 a0_3 true _ ?side1 A2.out).mono ?_); (case side1 => exact GW.below HG.out y1_); rintro e w15 ⟨rfl, hb⟩; refine ⟨_, rfl, ?_⟩; have n0_ := Aside0.mk (blk_below (g := gb101) (o := .cells #[.int .u8 a0_0, .int .u32 a0_1, .string a0_2, .string a0_3] 60 (0, 0)) y3_ hb); have n1_ := Aside0.mk (below_step y1_ hb); replace BK101 := n0_; replace HB := n1_; clear n0_ n1_; clear hb; obtain ⟨hcz16_0, hcz16_1, hcz16_2, hcz16_3⟩ := ccs4_ BK101.out) | ((with_reducible refine gate_callee (f := 82) rfl ?_); refine goesL_ (some 10) rfl rfl Tryd.func82 (by kernel_rfl) rfl #[.int .u8 a0_0] rfl y2_ ?_; (with_reducible refine (prop_Type.calls a0_0 t103 _ A4.out).mono ?_); rintro e w17 ⟨rfl, hb⟩; refine ⟨_, rfl, ?_⟩; have n0_ := Aside0.mk (blk_below (g := gb101) (o := .cells #[.int .u8 a0_0, .int .u32 a0_1, .string a0_2, .string a0_3] 60 (0, 0)) y3_ hb); have n1_ := Aside0.mk (below_step y1_ hb); replace BK101 := n0_; replace HB := n1_; clear n0_ n1_; clear hb; obtain ⟨hcz18_0, hcz18_1, hcz18_2, hcz18_3⟩ := ccs4_ BK101.out))
 (try simp only [Act.put, List.setIfInBounds_toArray, List.set_cons_zero, List.set_cons_succ])
 go_cut [15] (fun v15 wc => ∃ (kq : Nat) (x15_11 : Bool), v15 = .bool x15_11 ∧ Aside0 (prop_Value.j0 kq x15_11 a0_0 a0_1 a0_2 a0_3 = some r) ∧ Aside0 (kq ≤ k) ∧ Aside0 (wc.heap[gb101]? = some (.cells #[.int .u8 a0_0, .int .u32 a0_1, .string a0_2, .string a0_3] 60 (0, 0))) ∧ Aside0 (Below w.heap.size w wc))
 case first =>
  have H := HC12.out
  clear HC12
  by_cases c19 : a0_0 = 11
  ·rw [if_pos c19] at H
   obtain ⟨c19b0, c19b1⟩ := eqt_ c19
   clear c19
   (first | rw [c19b0] | (simp only [i64_w, i32_w]; rw [c19b0]) | skip)
   have H' := Aside0.mk H
   clear H
   go_wp2
   go_meet
   case rel => exact ⟨_, ((a0_0 == 11)), y7_, H', ⟨y19_⟩, ⟨y3_⟩, ⟨y1_⟩⟩
  ·rw [if_neg c19] at H
   obtain ⟨c19b0, c19b1⟩ := eqf_ c19
   (first | rw [c19b0] | (simp only [i64_w, i32_w]; rw [c19b0]) | skip)
   by_cases c20 : a0_0 = 33
   ·rw [if_pos c20] at H
    obtain ⟨c20b0, c20b1⟩ := eqt_ c20
    clear c20
    have H' := Aside0.mk H
    clear H
    have hcz21_0 : w17.cell? ⟨gb101, 0, none⟩ = some (.int .u8 a0_0) := (blk_cell BK101.out 0).trans rfl
    have hcz21_1 : w17.cell? ⟨gb101, 1, none⟩ = some (.int .u32 a0_1) := (blk_cell BK101.out 1).trans rfl
    have hcz21_2 : w17.cell? ⟨gb101, 2, none⟩ = some (.string a0_2) := (blk_cell BK101.out 2).trans rfl
    have hcz21_3 : w17.cell? ⟨gb101, 3, none⟩ = some (.string a0_3) := (blk_cell BK101.out 3).trans rfl
    obtain ⟨hfz21_0, hfz21_1, hfz21_2, hfz21_3⟩ := fzs4_ BK101.out
    go_wp2
    go_meet
    case rel => exact ⟨_, ((a0_0 == 33)), y7_, H', ⟨y19_⟩, ⟨y3_⟩, ⟨y1_⟩⟩
   ·rw [if_neg c20] at H
    obtain ⟨c20b0, c20b1⟩ := eqf_ c20
    by_cases c22 : a0_0 = 35
    ·rw [if_pos c22] at H
     obtain ⟨c22b0, c22b1⟩ := eqt_ c22
     clear c22
     have H' := Aside0.mk H
     clear H
     have hcz23_0 : w17.cell? ⟨gb101, 0, none⟩ = some (.int .u8 a0_0) := (blk_cell BK101.out 0).trans rfl
     have hcz23_1 : w17.cell? ⟨gb101, 1, none⟩ = some (.int .u32 a0_1) := (blk_cell BK101.out 1).trans rfl
     have hcz23_2 : w17.cell? ⟨gb101, 2, none⟩ = some (.string a0_2) := (blk_cell BK101.out 2).trans rfl
     have hcz23_3 : w17.cell? ⟨gb101, 3, none⟩ = some (.string a0_3) := (blk_cell BK101.out 3).trans rfl
     obtain ⟨hfz23_0, hfz23_1, hfz23_2, hfz23_3⟩ := fzs4_ BK101.out
     go_wp2
     go_meet
     case rel => exact ⟨_, ((a0_0 == 35)), y7_, H', ⟨y19_⟩, ⟨y3_⟩, ⟨y1_⟩⟩
    ·rw [if_neg c22] at H
     obtain ⟨c22b0, c22b1⟩ := eqf_ c22
     have H' := Aside0.mk H
     clear H
     have hcz24_0 : w17.cell? ⟨gb101, 0, none⟩ = some (.int .u8 a0_0) := (blk_cell BK101.out 0).trans rfl
     have hcz24_1 : w17.cell? ⟨gb101, 1, none⟩ = some (.int .u32 a0_1) := (blk_cell BK101.out 1).trans rfl
     have hcz24_2 : w17.cell? ⟨gb101, 2, none⟩ = some (.string a0_2) := (blk_cell BK101.out 2).trans rfl
     have hcz24_3 : w17.cell? ⟨gb101, 3, none⟩ = some (.string a0_3) := (blk_cell BK101.out 3).trans rfl
     obtain ⟨hfz24_0, hfz24_1, hfz24_2, hfz24_3⟩ := fzs4_ BK101.out
     go_wp2
     go_meet
     case rel => exact ⟨_, ((a0_0 == 39)), y7_, H', ⟨y19_⟩, ⟨y3_⟩, ⟨y1_⟩⟩
 case rest =>
  clear HC12
  try clear c1
  try clear c2
  try clear p2
  try clear c3
  try clear c5
  try clear c5b0
  try clear c5b1
  try clear c6
  try clear c8
  try clear c19
  try clear c19b0
  try clear c19b1
  try clear c20
  try clear c20b0
  try clear c20b1
  try clear c22
  try clear c22b0
  try clear c22b1
  try clear hcz11_0
  try clear hcz11_1
  try clear hcz11_2
  try clear hcz11_3
  try clear hcz14_0
  try clear hcz14_1
  try clear hcz14_2
  try clear hcz14_3
  try clear hcz16_0
  try clear hcz16_1
  try clear hcz16_2
  try clear hcz16_3
  try clear hcz18_0
  try clear hcz18_1
  try clear hcz18_2
  try clear hcz18_3
  try clear hcz21_0
  try clear hcz21_1
  try clear hcz21_2
  try clear hcz21_3
  try clear hcz23_0
  try clear hcz23_1
  try clear hcz23_2
  try clear hcz23_3
  try clear hcz24_0
  try clear hcz24_1
  try clear hcz24_2
  try clear hcz24_3
  try clear hcz7_0
  try clear hcz7_1
  try clear hcz7_2
  try clear hcz7_3
  try clear hcz9_0
  try clear hcz9_1
  try clear hcz9_2
  try clear hcz9_3
  try clear hfz11_0
  try clear hfz11_1
  try clear hfz11_2
  try clear hfz11_3
  try clear hfz14_0
  try clear hfz14_1
  try clear hfz14_2
  try clear hfz14_3
  try clear hfz16_0
  try clear hfz16_1
  try clear hfz16_2
  try clear hfz16_3
  try clear hfz18_0
  try clear hfz18_1
  try clear hfz18_2
  try clear hfz18_3
  try clear hfz21_0
  try clear hfz21_1
  try clear hfz21_2
  try clear hfz21_3
  try clear hfz23_0
  try clear hfz23_1
  try clear hfz23_2
  try clear hfz23_3
  try clear hfz24_0
  try clear hfz24_1
  try clear hfz24_2
  try clear hfz24_3
  try clear hfz7_0
  try clear hfz7_1
  try clear hfz7_2
  try clear hfz7_3
  try clear hfz9_0
  try clear hfz9_1
  try clear hfz9_2
  try clear hfz9_3
  obtain ⟨kq, x15_11, rfl, HA, HJ11, BK101, HB⟩ := hcut
  cases kq with
  | zero => exact absurd HA.out (by simp [prop_Value.j0])
  | succ kj11 =>
   have H := HA.out
   clear HA
   simp only [prop_Value.j0] at H
   by_cases c25 : x15_11 = true
   ·subst c25
    have H1 : (some (a0_1 != 0)) = some r := by rw [if_pos rfl] at H; exact H
    clear H
    have H := H1
    clear H1
    obtain rfl := Option.some.inj H
    have hcz26_0 : wc.cell? ⟨gb101, 0, none⟩ = some (.int .u8 a0_0) := (blk_cell BK101.out 0).trans rfl
    have hcz26_1 : wc.cell? ⟨gb101, 1, none⟩ = some (.int .u32 a0_1) := (blk_cell BK101.out 1).trans rfl
    have hcz26_2 : wc.cell? ⟨gb101, 2, none⟩ = some (.string a0_2) := (blk_cell BK101.out 2).trans rfl
    have hcz26_3 : wc.cell? ⟨gb101, 3, none⟩ = some (.string a0_3) := (blk_cell BK101.out 3).trans rfl
    obtain ⟨hfz26_0, hfz26_1, hfz26_2, hfz26_3⟩ := fzs4_ BK101.out
    go_wp2
    go_ret
    exact ⟨y4_, y1_⟩
   ·replace c25 := Bool.eq_false_iff.mpr c25
    subst c25
    replace H : (if a0_0 = 8 then ((topic_Name.f a0_2).bind fun t104 => (some t104)) else (some true)) = some r := by rw [if_neg (show ¬ (false = true) by decide)] at H; exact H
    by_cases c27 : a0_0 = 8
    ·rw [if_pos c27] at H
     obtain ⟨c27b0, c27b1⟩ := eqt_ c27
     clear c27
     replace H := Option.bind_eq_some_iff.mp H
     obtain ⟨t104, A280, H⟩ := H
     replace H : (some t104) = some r := H
     have A28 := Aside0.mk A280
     clear A280
     obtain rfl := Option.some.inj H
     have hcz29_0 : wc.cell? ⟨gb101, 0, none⟩ = some (.int .u8 a0_0) := (blk_cell BK101.out 0).trans rfl
     have hcz29_1 : wc.cell? ⟨gb101, 1, none⟩ = some (.int .u32 a0_1) := (blk_cell BK101.out 1).trans rfl
     have hcz29_2 : wc.cell? ⟨gb101, 2, none⟩ = some (.string a0_2) := (blk_cell BK101.out 2).trans rfl
     have hcz29_3 : wc.cell? ⟨gb101, 3, none⟩ = some (.string a0_3) := (blk_cell BK101.out 3).trans rfl
     obtain ⟨hfz29_0, hfz29_1, hfz29_2, hfz29_3⟩ := fzs4_ BK101.out
     go_wp2_with (first | ((with_reducible refine gate_callee (f := 83) rfl ?_); refine goesL_ (some 37) rfl rfl Tryd.func83 (by kernel_rfl) rfl #[.string a0_2] rfl y2_ ?_; (with_reducible refine (topic_Name.calls a0_2 t104 _ ?side1 A28.out).mono ?_); (case side1 => exact GW.below HG.out y1_); rintro e w30 ⟨rfl, hb⟩; refine ⟨_, rfl, ?_⟩; have n0_ := Aside0.mk (blk_below (g := gb101) (o := .cells #[.int .u8 a0_0, .int .u32 a0_1, .string a0_2, .string a0_3] 60 (0, 0)) y3_ hb); have n1_ := Aside0.mk (below_step y1_ hb); replace BK101 := n0_; replace HB := n1_; clear n0_ n1_; clear hb))
     go_ret
     exact ⟨y4_, y1_⟩
    ·rw [if_neg c27] at H
     obtain ⟨c27b0, c27b1⟩ := eqf_ c27
     obtain rfl := Option.some.inj H
     have hcz31_0 : wc.cell? ⟨gb101, 0, none⟩ = some (.int .u8 a0_0) := (blk_cell BK101.out 0).trans rfl
     have hcz31_1 : wc.cell? ⟨gb101, 1, none⟩ = some (.int .u32 a0_1) := (blk_cell BK101.out 1).trans rfl
     have hcz31_2 : wc.cell? ⟨gb101, 2, none⟩ = some (.string a0_2) := (blk_cell BK101.out 2).trans rfl
     have hcz31_3 : wc.cell? ⟨gb101, 3, none⟩ = some (.string a0_3) := (blk_cell BK101.out 3).trans rfl
     obtain ⟨hfz31_0, hfz31_1, hfz31_2, hfz31_3⟩ := fzs4_ BK101.out
     go_wp2
     go_ret
     exact ⟨y4_, y1_⟩
def prop_Often.f (a0 : Int) (a1 : Int) : Option (Bool) := (prop_For.f a0 a1).bind fun t101 => (if t101 = true then (if a0 = 38 then (some true) else (if a0 = 11 then (some (a1 == 3)) else (some false))) else (some false))
theorem prop_Often.calls (a0 : Int) (a1 : Int) (r : Bool) (w : World) (h : prop_Often.f a0 a1 = some r) :
    Calls Tryd.prog 61 #[.int .u8 a0, .int .i64 a1] w fun e w' => e = .returned (.bool r) ∧ Below w.heap.size w w' := by
  have HB := Aside0.mk (Below.refl w.heap.size w)
  have H : ((prop_For.f a0 a1).bind fun t101 => (if t101 = true then (if a0 = 38 then (some true) else (if a0 = 11 then (some (a1 == 3)) else (some false))) else (some false))) = some r := h
  clear h
  replace H := Option.bind_eq_some_iff.mp H
  obtain ⟨t101, A30, H⟩ := H
  replace H : (if t101 = true then (if a0 = 38 then (some true) else (if a0 = 11 then (some (a1 == 3)) else (some false))) else (some false)) = some r := H
  have A3 := Aside0.mk A30
  clear A30
  by_cases c4 : t101 = true
  · subst c4
    have H1 : (if a0 = 38 then (some true) else (if a0 = 11 then (some (a1 == 3)) else (some false))) = some r := by rw [if_pos rfl] at H; exact H
    clear H
    have H := H1
    clear H1
    by_cases c5 : a0 = 38
    · rw [if_pos c5] at H
      obtain ⟨c5b0, c5b1⟩ := eqt_ c5
      clear c5
      obtain rfl := Option.some.inj H
      go_enter Tryd.func61, Tryd.ntmps61
      go_wp2_with (first | ((with_reducible refine gate_callee (f := 60) rfl ?_); refine goesL_ (some 7) rfl rfl Tryd.func60 (by kernel_rfl) rfl #[.int .u8 a0, .int .i64 a1] rfl y2_ ?_; (with_reducible refine (prop_For.calls a0 a1 true _ A3.out).mono ?_); rintro e w6 ⟨rfl, hb⟩; refine ⟨_, rfl, ?_⟩; have n0_ := Aside0.mk (below_step y0_ hb); clear HB; have HB := n0_; clear n0_; (try clear hb); (try clear hb2); (try clear hk); (try clear hi)))
      go_ret
      exact ⟨y4_, y0_⟩
    · rw [if_neg c5] at H
      obtain ⟨c5b0, c5b1⟩ := eqf_ c5
      by_cases c7 : a0 = 11
      · rw [if_pos c7] at H
        obtain ⟨c7b0, c7b1⟩ := eqt_ c7
        clear c7
        obtain rfl := Option.some.inj H
        go_enter Tryd.func61, Tryd.ntmps61
        go_wp2_with (first | ((with_reducible refine gate_callee (f := 60) rfl ?_); refine goesL_ (some 7) rfl rfl Tryd.func60 (by kernel_rfl) rfl #[.int .u8 a0, .int .i64 a1] rfl y2_ ?_; (with_reducible refine (prop_For.calls a0 a1 true _ A3.out).mono ?_); rintro e w8 ⟨rfl, hb⟩; refine ⟨_, rfl, ?_⟩; have n0_ := Aside0.mk (below_step y0_ hb); clear HB; have HB := n0_; clear n0_; (try clear hb); (try clear hb2); (try clear hk); (try clear hi)))
        go_ret
        exact ⟨y4_, y0_⟩
      · rw [if_neg c7] at H
        obtain ⟨c7b0, c7b1⟩ := eqf_ c7
        obtain rfl := Option.some.inj H
        go_enter Tryd.func61, Tryd.ntmps61
        go_wp2_with (first | ((with_reducible refine gate_callee (f := 60) rfl ?_); refine goesL_ (some 7) rfl rfl Tryd.func60 (by kernel_rfl) rfl #[.int .u8 a0, .int .i64 a1] rfl y2_ ?_; (with_reducible refine (prop_For.calls a0 a1 true _ A3.out).mono ?_); rintro e w9 ⟨rfl, hb⟩; refine ⟨_, rfl, ?_⟩; have n0_ := Aside0.mk (below_step y0_ hb); clear HB; have HB := n0_; clear n0_; (try clear hb); (try clear hb2); (try clear hk); (try clear hi)))
        go_ret
        exact ⟨y4_, y0_⟩
  · replace c4 := Bool.eq_false_iff.mpr c4
    subst c4
    have H1 : (some false) = some r := by rw [if_neg (show ¬ (false = true) by decide)] at H; exact H
    clear H
    have H := H1
    clear H1
    obtain rfl := Option.some.inj H
    go_enter Tryd.func61, Tryd.ntmps61
    go_wp2_with (first | ((with_reducible refine gate_callee (f := 60) rfl ?_); refine goesL_ (some 7) rfl rfl Tryd.func60 (by kernel_rfl) rfl #[.int .u8 a0, .int .i64 a1] rfl y2_ ?_; (with_reducible refine (prop_For.calls a0 a1 false _ A3.out).mono ?_); rintro e w10 ⟨rfl, hb⟩; refine ⟨_, rfl, ?_⟩; have n0_ := Aside0.mk (below_step y0_ hb); clear HB; have HB := n0_; clear n0_; (try clear hb); (try clear hb2); (try clear hk); (try clear hi)))
    go_ret
    exact ⟨y4_, y0_⟩
mutual
def props_Check.l0 : Nat → Int → List (S60) → List (S60) → Int → Int → Option (Bool)
  | 0, _, _, _, _, _ => none
  | k + 1, x0, x1, x15, x16, x17 => if x17 < x16 then (if 0 ≤ x17 then (if x17 < (x15.length : Int) then ((prop_Value.f k ((rd_T60 x15 x17).f0) ((rd_T60 x15 x17).f1) ((rd_T60 x15 x17).f2) ((rd_T60 x15 x17).f3)).bind fun t115 => (if t115 = true then ((prop_For.f ((rd_T60 x15 x17).f0) x0).bind fun t116 => (props_Check.j1 k x0 x1 x17 x15 x16 x17 (!t116) ((rd_T60 x15 x17).f0) ((rd_T60 x15 x17).f1) ((rd_T60 x15 x17).f2) ((rd_T60 x15 x17).f3))) else (props_Check.j1 k x0 x1 x17 x15 x16 x17 true ((rd_T60 x15 x17).f0) ((rd_T60 x15 x17).f1) ((rd_T60 x15 x17).f2) ((rd_T60 x15 x17).f3)))) else (none)) else (none)) else ((props_Get.f x1 22).bind fun bt101 => ((props_Get.f x1 21).bind fun bt107 => (if bt107.2.2.2.2 = true then (some true) else (some (!bt101.2.2.2.2)))))
def props_Check.j1 : Nat → Int → List (S60) → Int → List (S60) → Int → Int → Bool → Int → Int → ByteArray → ByteArray → Option (Bool)
  | 0, _, _, _, _, _, _, _, _, _, _, _ => none
  | k + 1, x0, x1, x5, x15, x16, x17, x31, x115000, x115001, x115002, x115003 => if x31 = true then (some false) else (if x5 = 0 then (props_Check.l0 k x0 x1 x15 x16 (wrap64 (x17 + 1))) else (if 0 ≤ (wrap64 (x5 - 1)) then (if (wrap64 (x5 - 1)) < (x1.length : Int) then (if ((rd_T60 x1 (wrap64 (x5 - 1))).f0) > x115000 then (some false) else (if ((rd_T60 x1 (wrap64 (x5 - 1))).f0) = x115000 then ((prop_Often.f x115000 x0).bind fun t118 => (if t118 = true then (props_Check.l0 k x0 x1 x15 x16 (wrap64 (x17 + 1))) else (some false))) else (props_Check.l0 k x0 x1 x15 x16 (wrap64 (x17 + 1))))) else (none)) else (none)))
end
def props_Check.f (k : Nat) (a0 : Int) (l1 : List (S60)) : Option (Bool) := if (l1.length : Int) > 1024 then (some false) else (props_Check.l0 k a0 l1 l1 (l1.length : Int) 0)
theorem z30m0 {p : Prop} (h : p := by
 repeat' first
 | (with_reducible exact ih0 _ _ _ _ _)
 | (with_reducible exact ih1 _ _ _ _ _ _ _ _ _ _ _)
 | (with_reducible exact prop_Value.mono _ _ _ _ _)
 | (with_reducible exact LeO.refl _)
 | (with_reducible exact LeO.none _)
 | (with_reducible refine LeO.ite ?_ ?_)
 | (with_reducible refine LeO.bind ?_ (fun _ => ?_))
 | exact ih0 _ _ _ _ _
 | exact ih1 _ _ _ _ _ _ _ _ _ _ _
 | exact prop_Value.mono _ _ _ _ _
 | exact LeO.none _
 | refine LeO.ite ?_ ?_
 | refine LeO.bind ?_ (fun _ => ?_)) : p := h
theorem props_Check.mono_l : ∀ k, (∀ y0 y1 y2 y3 y4, LeO (props_Check.l0 k y0 y1 y2 y3 y4) (props_Check.l0 (k + 1) y0 y1 y2 y3 y4)) ∧ (∀ y0 y1 y2 y3 y4 y5 y6 y7 y8 y9 y10, LeO (props_Check.j1 k y0 y1 y2 y3 y4 y5 y6 y7 y8 y9 y10) (props_Check.j1 (k + 1) y0 y1 y2 y3 y4 y5 y6 y7 y8 y9 y10))
  | 0 => ⟨fun _ _ _ _ _ r h => by simp [props_Check.l0] at h, fun _ _ _ _ _ _ _ _ _ _ _ r h => by simp [props_Check.j1] at h⟩
  | k + 1 => by
    obtain ⟨ih0, ih1⟩ := props_Check.mono_l k
    refine ⟨?_, ?_⟩
    · intro y0 y1 y2 y3 y4
      unfold props_Check.l0
      exact z30m0
    · intro y0 y1 y2 y3 y4 y5 y6 y7 y8 y9 y10
      unfold props_Check.j1
      exact z30m0
theorem props_Check.mono : ∀ a0 a1 k, LeO (props_Check.f k a0 a1) (props_Check.f (k + 1) a0 a1) := by
  intro a0 a1 k
  obtain ⟨ih0, ih1⟩ := props_Check.mono_l k
  unfold props_Check.f
  exact z30m0
theorem z30z0 {p : Prop} (h : p := by repeat (first | (with_reducible first | exact HB.out | apply below_alloc | apply pw_below_drewN | apply below_drew1 | refine below_set ?_ GE114.out) | exact HB.out)) : p := h
theorem z30z1 {p : Prop} (h : p := by (with_reducible repeat (first | refine blk_drewN ?_ _ | refine blk_drew ?_ | refine blk_alloc ?_ _)); refine blk_put (cs := #[.int .u8 ((rd_T60 l1 x17_1).f0), .int .u32 ((rd_T60 l1 x17_1).f1), .string ((rd_T60 l1 x17_1).f2), .string (⟨#[]⟩ : ByteArray)]) ?_ 3 _ rfl; (with_reducible repeat (first | refine blk_drewN ?_ _ | refine blk_drew ?_ | refine blk_alloc ?_ _)); refine blk_put (cs := #[.int .u8 ((rd_T60 l1 x17_1).f0), .int .u32 ((rd_T60 l1 x17_1).f1), .string (⟨#[]⟩ : ByteArray), .string (⟨#[]⟩ : ByteArray)]) ?_ 2 _ rfl; (with_reducible repeat (first | refine blk_drewN ?_ _ | refine blk_drew ?_ | refine blk_alloc ?_ _)); refine blk_put (cs := #[.int .u8 ((rd_T60 l1 x17_1).f0), .int .u32 0, .string (⟨#[]⟩ : ByteArray), .string (⟨#[]⟩ : ByteArray)]) ?_ 1 _ rfl; (with_reducible repeat (first | refine blk_drewN ?_ _ | refine blk_drew ?_ | refine blk_alloc ?_ _)); refine blk_put (cs := #[.int .u8 0, .int .u32 0, .string (⟨#[]⟩ : ByteArray), .string (⟨#[]⟩ : ByteArray)]) ?_ 0 _ rfl; (with_reducible repeat (first | refine blk_drewN ?_ _ | refine blk_drew ?_ | refine blk_alloc ?_ _)); exact BK114.out) : p := h
theorem z30z2 {p : Prop} (h : p := by (with_reducible repeat (first | refine blk_drewN ?_ _ | refine blk_drew ?_ | refine blk_alloc ?_ _)); exact BK114.out) : p := h
theorem z30z3 {p : Prop} (h : p := by repeat (first | exact (Kd.C_below HR1.out HB.out) | (with_reducible refine Kd.C_alloc ?_ _) | (with_reducible refine Kd.C_drewN ?_ _) | (with_reducible refine Kd.C_drew ?_))) : p := h
theorem z30z4 {p : Prop} (h : p := by first | rfl | (simp [errW_none, errW_some] <;> rfl) | (simp only [← hji21]; first | rfl | (simp [errW_none, errW_some] <;> rfl)) | (simp [*, errW_none, errW_some] <;> rfl)) : p := h
theorem z30z5 {p : Prop} (h : p := by first | (go_simp; done) | (go_simp; rfl)) : p := h
theorem z30z6 {p : Prop} (h : p := by have := HK1.out; have := HJ6.out; omega) : p := h
theorem props_Check.calls (k : Nat) (a0 : Int) (A1 : Option Addr) (c1 : Nat) (l1 : List (S60)) (r : Bool) (w : World) (hr1 : Kd.C k60 w A1 l1.length l1) (hc1 : l1.length ≤ c1) (hG : GW w) (h : props_Check.f k a0 l1 = some r) :
  Calls Tryd.prog 30 #[.int .i64 a0, .slice A1 l1.length c1] w fun e w' => e = .returned (.bool r) ∧ Below w.heap.size w w' := by
 have hu60 := Tryd.underlying60
 have HR1 := Aside0.mk hr1
 have HC1 := Aside0.mk hc1
 clear hr1 hc1
 have HB := Aside0.mk (Below.refl w.heap.size w)
 have HG := Aside0.mk hG
 clear hG
 have H : (if (l1.length : Int) > 1024 then (some false) else (props_Check.l0 k a0 l1 l1 (l1.length : Int) 0)) = some r := h
 clear h
 by_cases c3 : (l1.length : Int) > 1024
 ·rw [if_pos c3] at H
  have c3b0 := decide_eq_true c3
  have c3b1 : decide (1024 < l1.length) = true := decide_eq_true (by omega)
  clear c3
  obtain rfl := Option.some.inj H
  go_enter Tryd.func30, Tryd.ntmps30
  go_wp2
  go_ret
  exact ⟨y4_, y0_⟩
 rw [if_neg c3] at H
 have c3b0 := decide_eq_false c3
 have c3b1 : decide (1024 < l1.length) = false := decide_eq_false (by omega)
 clear c3
 have H' := Aside0.mk H
 clear H
 go_enter Tryd.func30, Tryd.ntmps30
 go_wp2
 go_loopg [17] k (fun kq v17 w' => ∃ (x17_1 : Int), v17 = .int .i64 x17_1 ∧ Aside0 (props_Check.l0 kq a0 l1 l1 (l1.length : Int) x17_1 = some r) ∧ Aside0 (kq ≤ k) ∧ Aside0 (Below w.heap.size w w'))
 case atStart => exact ⟨(0), y7_, H', ⟨Nat.le_refl _⟩, ⟨y0_⟩⟩
 case round =>
  clear H'
  try clear c1
  try clear p2
  try clear c3
  try clear c3b0
  try clear c3b1
  obtain ⟨x17_1, rfl, HA, HK1, HB⟩ := hrel
  cases gk with
  | zero => exact absurd HA.out (by simp [props_Check.l0])
  | succ k1 =>
   have H := HA.out
   clear HA
   simp only [props_Check.l0] at H
   by_cases c4 : x17_1 < (l1.length : Int)
   ·rw [if_pos c4] at H
    have c4b0 := decide_eq_true c4
    clear c4
    by_cases c5 : 0 ≤ x17_1
    ·rw [if_pos c5] at H
     have c5b0 := decide_eq_true c5
     clear c5
     by_cases c6 : x17_1 < (l1.length : Int)
     ·rw [if_pos c6] at H
      have c6b0 := decide_eq_true c6
      clear c6
      have HC7 := Aside0.mk H
      clear H
      have p113 : 0 ≤ (x17_1 : Int) := of_decide_eq_true y5_
      have q113 : x17_1 < (l1.length : Int) := of_decide_eq_true y5_
      obtain ⟨ad113, e113, hx113_0, hx113_1, hx113_2, hx113_3⟩ := at_T60 HR1.out x17_1 p113 q113
      cases e113
      replace hx113_0 := (HB.out.cell (World.block_lt_of_cell? w _ hx113_0)).trans hx113_0
      replace hx113_1 := (HB.out.cell (World.block_lt_of_cell? w _ hx113_1)).trans hx113_1
      replace hx113_2 := (HB.out.cell (World.block_lt_of_cell? w _ hx113_2)).trans hx113_2
      replace hx113_3 := (HB.out.cell (World.block_lt_of_cell? w _ hx113_3)).trans hx113_3
      replace p113 := eq_true p113
      replace q113 := eq_true q113
      go_upto_region 6 with (first | ((with_reducible refine gate_dst (N := 6) rfl ?_); refine box_event ?hg (N := 6) ?hd (cs := #[.int .u8 0, .int .u32 0, .string (⟨#[]⟩ : ByteArray), .string (⟨#[]⟩ : ByteArray)]) (t := 60) ?hr ?_; (case hd => rfl); (case hg => rfl); (case hr => exact z30z5); intro gb114 hg w8 hbox hb; have n0_ := Aside0.mk (below_step y0_ hb); have n1_ := Aside0.mk (hbox); have n2_ := Aside0.mk ((by rw [hg]; exact (below_size y0_) : w.heap.size ≤ gb114)); have n3_ := Aside0.mk ((by rw [hg]; exact (below_size y0_) : w.heap.size ≤ gb114)); replace HB := n0_; have BK114 := n1_; have GW114 := n2_; have GE114 := n3_; clear n0_ n1_ n2_ n3_; clear hb hbox hg; obtain ⟨hcz9_0, hcz9_1, hcz9_2, hcz9_3⟩ := ccs4_ BK114.out; obtain ⟨hfz9_0, hfz9_1, hfz9_2, hfz9_3⟩ := fzs4_ BK114.out))
      (try simp only [Act.put, List.setIfInBounds_toArray, List.set_cons_zero, List.set_cons_succ])
      go_cut [31] (fun v31 wc => ∃ (kq : Nat) (x31_6 : Bool), v31 = .bool x31_6 ∧ Aside0 (props_Check.j1 kq a0 l1 x17_1 l1 (l1.length : Int) x17_1 x31_6 ((rd_T60 l1 x17_1).f0) ((rd_T60 l1 x17_1).f1) ((rd_T60 l1 x17_1).f2) ((rd_T60 l1 x17_1).f3) = some r) ∧ Aside0 (kq ≤ k1) ∧ Aside0 (wc.heap[gb114]? = some (.cells #[.int .u8 ((rd_T60 l1 x17_1).f0), .int .u32 ((rd_T60 l1 x17_1).f1), .string ((rd_T60 l1 x17_1).f2), .string ((rd_T60 l1 x17_1).f3)] 60 (0, 0))) ∧ Aside0 (Below w.heap.size w wc))
      case first =>
       have H := HC7.out
       clear HC7
       replace H := Option.bind_eq_some_iff.mp H
       obtain ⟨t115, A100, H⟩ := H
       try dsimp -simprocs only at H
       have A10 := Aside0.mk A100
       clear A100
       by_cases c11 : t115 = true
       ·subst c11
        have H1 : ((prop_For.f ((rd_T60 l1 x17_1).f0) a0).bind fun t116 => (props_Check.j1 k1 a0 l1 x17_1 l1 (l1.length : Int) x17_1 (!t116) ((rd_T60 l1 x17_1).f0) ((rd_T60 l1 x17_1).f1) ((rd_T60 l1 x17_1).f2) ((rd_T60 l1 x17_1).f3))) = some r := by rw [if_pos rfl] at H; exact H
        clear H
        have H := H1
        clear H1
        replace H := Option.bind_eq_some_iff.mp H
        obtain ⟨t116, A120, H⟩ := H
        try dsimp -simprocs only at H
        have A12 := Aside0.mk A120
        clear A120
        have H' := Aside0.mk H
        clear H
        have hcz13_0 : w8.cell? ⟨gb114, 0, none⟩ = some (.int .u8 0) := (blk_cell BK114.out 0).trans rfl
        have hcz13_1 : w8.cell? ⟨gb114, 1, none⟩ = some (.int .u32 0) := (blk_cell BK114.out 1).trans rfl
        have hcz13_2 : w8.cell? ⟨gb114, 2, none⟩ = some (.string (⟨#[]⟩ : ByteArray)) := (blk_cell BK114.out 2).trans rfl
        have hcz13_3 : w8.cell? ⟨gb114, 3, none⟩ = some (.string (⟨#[]⟩ : ByteArray)) := (blk_cell BK114.out 3).trans rfl
        obtain ⟨hfz13_0, hfz13_1, hfz13_2, hfz13_3⟩ := fzs4_ BK114.out
        go_wp2_with (first | ((with_reducible refine gate_callee (f := 59) rfl ?_); refine goesL_ (some 23) rfl rfl Tryd.func59 (by kernel_rfl) rfl #[.agg #[.int .u8 ((rd_T60 l1 x17_1).f0), .int .u32 ((rd_T60 l1 x17_1).f1), .string ((rd_T60 l1 x17_1).f2), .string ((rd_T60 l1 x17_1).f3)]] rfl y2_ ?_; (with_reducible refine (prop_Value.calls k1 ((rd_T60 l1 x17_1).f0) ((rd_T60 l1 x17_1).f1) ((rd_T60 l1 x17_1).f2) ((rd_T60 l1 x17_1).f3) true _ ?side1 A10.out).mono ?_); (case side1 => exact GW.below HG.out z30z0); rintro e w14 ⟨rfl, hb⟩; refine ⟨_, rfl, ?_⟩; have n0_ := Aside0.mk (blk_below (g := gb114) (o := .cells #[.int .u8 ((rd_T60 l1 x17_1).f0), .int .u32 ((rd_T60 l1 x17_1).f1), .string ((rd_T60 l1 x17_1).f2), .string ((rd_T60 l1 x17_1).f3)] 60 (0, 0)) z30z1 hb); have n1_ := Aside0.mk (below_step z30z0 hb); replace BK114 := n0_; replace HB := n1_; clear n0_ n1_; clear hb; obtain ⟨hcz15_0, hcz15_1, hcz15_2, hcz15_3⟩ := ccs4_ BK114.out; obtain ⟨hfz15_0, hfz15_1, hfz15_2, hfz15_3⟩ := fzs4_ BK114.out) | (go_at_call 60; (with_reducible refine (prop_For.calls ((rd_T60 l1 x17_1).f0) a0 t116 _ A12.out).mono ?_); rintro e w16 ⟨rfl, hb⟩; have n0_ := Aside0.mk (blk_below (g := gb114) (o := .cells #[.int .u8 ((rd_T60 l1 x17_1).f0), .int .u32 ((rd_T60 l1 x17_1).f1), .string ((rd_T60 l1 x17_1).f2), .string ((rd_T60 l1 x17_1).f3)] 60 (0, 0)) z30z2 hb); have n1_ := Aside0.mk (below_step z30z0 hb); replace BK114 := n0_; replace HB := n1_; clear n0_ n1_; clear hb))
        go_meet
        case rel => exact ⟨_, (!t116), y7_, H', ⟨y24_⟩, ⟨z30z2⟩, ⟨z30z0⟩⟩
       ·replace c11 := Bool.eq_false_iff.mpr c11
        subst c11
        replace H : (props_Check.j1 k1 a0 l1 x17_1 l1 (l1.length : Int) x17_1 true ((rd_T60 l1 x17_1).f0) ((rd_T60 l1 x17_1).f1) ((rd_T60 l1 x17_1).f2) ((rd_T60 l1 x17_1).f3)) = some r := by rw [if_neg (show ¬ (false = true) by decide)] at H; exact H
        have H' := Aside0.mk H
        clear H
        have hcz17_0 : w8.cell? ⟨gb114, 0, none⟩ = some (.int .u8 0) := (blk_cell BK114.out 0).trans rfl
        have hcz17_1 : w8.cell? ⟨gb114, 1, none⟩ = some (.int .u32 0) := (blk_cell BK114.out 1).trans rfl
        have hcz17_2 : w8.cell? ⟨gb114, 2, none⟩ = some (.string (⟨#[]⟩ : ByteArray)) := (blk_cell BK114.out 2).trans rfl
        have hcz17_3 : w8.cell? ⟨gb114, 3, none⟩ = some (.string (⟨#[]⟩ : ByteArray)) := (blk_cell BK114.out 3).trans rfl
        obtain ⟨hfz17_0, hfz17_1, hfz17_2, hfz17_3⟩ := fzs4_ BK114.out
        go_wp2_with (first | ((with_reducible refine gate_callee (f := 59) rfl ?_); refine goesL_ (some 23) rfl rfl Tryd.func59 (by kernel_rfl) rfl #[.agg #[.int .u8 ((rd_T60 l1 x17_1).f0), .int .u32 ((rd_T60 l1 x17_1).f1), .string ((rd_T60 l1 x17_1).f2), .string ((rd_T60 l1 x17_1).f3)]] rfl y2_ ?_; (with_reducible refine (prop_Value.calls k1 ((rd_T60 l1 x17_1).f0) ((rd_T60 l1 x17_1).f1) ((rd_T60 l1 x17_1).f2) ((rd_T60 l1 x17_1).f3) false _ ?side1 A10.out).mono ?_); (case side1 => exact GW.below HG.out z30z0); rintro e w18 ⟨rfl, hb⟩; refine ⟨_, rfl, ?_⟩; have n0_ := Aside0.mk (blk_below (g := gb114) (o := .cells #[.int .u8 ((rd_T60 l1 x17_1).f0), .int .u32 ((rd_T60 l1 x17_1).f1), .string ((rd_T60 l1 x17_1).f2), .string ((rd_T60 l1 x17_1).f3)] 60 (0, 0)) z30z1 hb); have n1_ := Aside0.mk (below_step z30z0 hb); replace BK114 := n0_; replace HB := n1_; clear n0_ n1_; clear hb))
        go_meet
        case rel => exact ⟨_, (true), y7_, H', ⟨y24_⟩, ⟨z30z2⟩, ⟨z30z0⟩⟩
      case rest =>
       clear HC7
       try clear c1
       try clear p1
       try clear q1
       try clear hx1
       try clear p2
       try clear c3
       try clear c3b0
       try clear c3b1
       try clear c4
       try clear c4b0
       try clear c5
       try clear c5b0
       try clear c6
       try clear c6b0
       try clear c11
       try clear p11
       try clear q11
       try clear hx11
       try clear hcz13_0
       try clear hcz13_1
       try clear hcz13_2
       try clear hcz13_3
       try clear hcz15_0
       try clear hcz15_1
       try clear hcz15_2
       try clear hcz15_3
       try clear hcz17_0
       try clear hcz17_1
       try clear hcz17_2
       try clear hcz17_3
       try clear hcz9_0
       try clear hcz9_1
       try clear hcz9_2
       try clear hcz9_3
       try clear hfz13_0
       try clear hfz13_1
       try clear hfz13_2
       try clear hfz13_3
       try clear hfz15_0
       try clear hfz15_1
       try clear hfz15_2
       try clear hfz15_3
       try clear hfz17_0
       try clear hfz17_1
       try clear hfz17_2
       try clear hfz17_3
       try clear hfz9_0
       try clear hfz9_1
       try clear hfz9_2
       try clear hfz9_3
       try clear hx113_0
       try clear hx113_1
       try clear hx113_2
       try clear hx113_3
       try clear p113
       try clear p2
       try clear q113
       obtain ⟨kq, x31_6, rfl, HA, HJ6, BK114, HB⟩ := hcut
       cases kq with
       | zero => exact absurd HA.out (by simp [props_Check.j1])
       | succ kj6 =>
        have H := HA.out
        clear HA
        simp only [props_Check.j1] at H
        by_cases c19 : x31_6 = true
        ·subst c19
         have H1 : (some false) = some r := by rw [if_pos rfl] at H; exact H
         clear H
         have H := H1
         clear H1
         obtain rfl := Option.some.inj H
         go_wp2
         go_ret
         exact ⟨y4_, z30z0⟩
        ·replace c19 := Bool.eq_false_iff.mpr c19
         subst c19
         replace H : (if x17_1 = 0 then (props_Check.l0 kj6 a0 l1 l1 (l1.length : Int) (wrap64 (x17_1 + 1))) else (if 0 ≤ (wrap64 (x17_1 - 1)) then (if (wrap64 (x17_1 - 1)) < (l1.length : Int) then (if ((rd_T60 l1 (wrap64 (x17_1 - 1))).f0) > ((rd_T60 l1 x17_1).f0) then (some false) else (if ((rd_T60 l1 (wrap64 (x17_1 - 1))).f0) = ((rd_T60 l1 x17_1).f0) then ((prop_Often.f ((rd_T60 l1 x17_1).f0) a0).bind fun t118 => (if t118 = true then (props_Check.l0 kj6 a0 l1 l1 (l1.length : Int) (wrap64 (x17_1 + 1))) else (some false))) else (props_Check.l0 kj6 a0 l1 l1 (l1.length : Int) (wrap64 (x17_1 + 1))))) else (none)) else (none))) = some r := by rw [if_neg (show ¬ (false = true) by decide)] at H; exact H
         by_cases c20 : x17_1 = 0
         ·rw [if_pos c20] at H
          obtain ⟨c20b0, c20b1⟩ := eqt_ c20
          clear c20
          have H' := Aside0.mk H
          clear H
          go_wp2
          go_roundg kj6
          case measure => have := HK1.out; have := HJ6.out; omega
          case rel => exact ⟨(wrap64 (x17_1 + 1)), y7_, H', ⟨z30z6⟩, ⟨z30z0⟩⟩
         ·rw [if_neg c20] at H
          obtain ⟨c20b0, c20b1⟩ := eqf_ c20
          obtain ⟨ji21, hji21⟩ : ∃ j_ : Int, (wrap64 (x17_1 - 1)) = j_ := ⟨_, rfl⟩
          replace H : (if 0 ≤ (ji21) then (if (ji21) < (l1.length : Int) then (if ((rd_T60 l1 (ji21)).f0) > ((rd_T60 l1 x17_1).f0) then (some false) else (if ((rd_T60 l1 (ji21)).f0) = ((rd_T60 l1 x17_1).f0) then ((prop_Often.f ((rd_T60 l1 x17_1).f0) a0).bind fun t118 => (if t118 = true then (props_Check.l0 kj6 a0 l1 l1 (l1.length : Int) (wrap64 (x17_1 + 1))) else (some false))) else (props_Check.l0 kj6 a0 l1 l1 (l1.length : Int) (wrap64 (x17_1 + 1))))) else (none)) else (none)) = some r := by first | (rw [hji21] at H; exact H) | (simp only [hji21] at H ⊢; exact H)
          have hji21w : (IntKind.i64.wrap (x17_1 - 1)) = ji21 := (i64_w _).trans hji21
          by_cases c22 : 0 ≤ (ji21)
          ·rw [if_pos c22] at H
           have c22b0 := decide_eq_true c22
           clear c22
           by_cases c23 : (ji21) < (l1.length : Int)
           ·rw [if_pos c23] at H
            have c23b0 := decide_eq_true c23
            clear c23
            by_cases c24 : ((rd_T60 l1 (ji21)).f0) > ((rd_T60 l1 x17_1).f0)
            ·rw [if_pos c24] at H
             have c24b0 := decide_eq_true c24
             clear c24
             obtain rfl := Option.some.inj H
             have p117 : 0 ≤ ((ji21) : Int) := of_decide_eq_true y5_
             have q117 : (ji21) < (l1.length : Int) := of_decide_eq_true y5_
             obtain ⟨ad117, e117, hx117_0, hx117_1, hx117_2, hx117_3⟩ := at_T60 HR1.out (ji21) p117 q117
             obtain rfl : ad113 = ad117 := (by injection e117)
             replace hx117_0 := (HB.out.cell (World.block_lt_of_cell? w _ hx117_0)).trans hx117_0
             replace hx117_1 := (HB.out.cell (World.block_lt_of_cell? w _ hx117_1)).trans hx117_1
             replace hx117_2 := (HB.out.cell (World.block_lt_of_cell? w _ hx117_2)).trans hx117_2
             replace hx117_3 := (HB.out.cell (World.block_lt_of_cell? w _ hx117_3)).trans hx117_3
             replace p117 := eq_true p117
             replace q117 := eq_true q117
             have hcz25_0 : wc.cell? ⟨gb114, 0, none⟩ = some (.int .u8 ((rd_T60 l1 x17_1).f0)) := (blk_cell BK114.out 0).trans rfl
             have hcz25_1 : wc.cell? ⟨gb114, 1, none⟩ = some (.int .u32 ((rd_T60 l1 x17_1).f1)) := (blk_cell BK114.out 1).trans rfl
             have hcz25_2 : wc.cell? ⟨gb114, 2, none⟩ = some (.string ((rd_T60 l1 x17_1).f2)) := (blk_cell BK114.out 2).trans rfl
             have hcz25_3 : wc.cell? ⟨gb114, 3, none⟩ = some (.string ((rd_T60 l1 x17_1).f3)) := (blk_cell BK114.out 3).trans rfl
             obtain ⟨hfz25_0, hfz25_1, hfz25_2, hfz25_3⟩ := fzs4_ BK114.out
             go_wp2
             go_ret
             exact ⟨z30z4, z30z0⟩
            ·rw [if_neg c24] at H
             have c24b0 := decide_eq_false c24
             clear c24
             by_cases c26 : ((rd_T60 l1 (ji21)).f0) = ((rd_T60 l1 x17_1).f0)
             ·rw [if_pos c26] at H
              obtain ⟨c26b0, c26b1⟩ := eqt_ c26
              clear c26
              replace H := Option.bind_eq_some_iff.mp H
              obtain ⟨t118, A270, H⟩ := H
              replace H : (if t118 = true then (props_Check.l0 kj6 a0 l1 l1 (l1.length : Int) (wrap64 (x17_1 + 1))) else (some false)) = some r := H
              have A27 := Aside0.mk A270
              clear A270
              by_cases c28 : t118 = true
              ·subst c28
               have H1 : (props_Check.l0 kj6 a0 l1 l1 (l1.length : Int) (wrap64 (x17_1 + 1))) = some r := by rw [if_pos rfl] at H; exact H
               clear H
               have H := H1
               clear H1
               have H' := Aside0.mk H
               clear H
               have p117 : 0 ≤ ((ji21) : Int) := of_decide_eq_true y5_
               have q117 : (ji21) < (l1.length : Int) := of_decide_eq_true y5_
               obtain ⟨ad117, e117, hx117_0, hx117_1, hx117_2, hx117_3⟩ := at_T60 HR1.out (ji21) p117 q117
               obtain rfl : ad113 = ad117 := (by injection e117)
               replace hx117_0 := (HB.out.cell (World.block_lt_of_cell? w _ hx117_0)).trans hx117_0
               replace hx117_1 := (HB.out.cell (World.block_lt_of_cell? w _ hx117_1)).trans hx117_1
               replace hx117_2 := (HB.out.cell (World.block_lt_of_cell? w _ hx117_2)).trans hx117_2
               replace hx117_3 := (HB.out.cell (World.block_lt_of_cell? w _ hx117_3)).trans hx117_3
               replace p117 := eq_true p117
               replace q117 := eq_true q117
               have hcz29_0 : wc.cell? ⟨gb114, 0, none⟩ = some (.int .u8 ((rd_T60 l1 x17_1).f0)) := (blk_cell BK114.out 0).trans rfl
               have hcz29_1 : wc.cell? ⟨gb114, 1, none⟩ = some (.int .u32 ((rd_T60 l1 x17_1).f1)) := (blk_cell BK114.out 1).trans rfl
               have hcz29_2 : wc.cell? ⟨gb114, 2, none⟩ = some (.string ((rd_T60 l1 x17_1).f2)) := (blk_cell BK114.out 2).trans rfl
               have hcz29_3 : wc.cell? ⟨gb114, 3, none⟩ = some (.string ((rd_T60 l1 x17_1).f3)) := (blk_cell BK114.out 3).trans rfl
               obtain ⟨hfz29_0, hfz29_1, hfz29_2, hfz29_3⟩ := fzs4_ BK114.out
               go_wp2_with (first | (go_at_call 61; (with_reducible refine (prop_Often.calls ((rd_T60 l1 x17_1).f0) a0 true _ A27.out).mono ?_); rintro e w30 ⟨rfl, hb⟩; have n0_ := Aside0.mk (blk_below (g := gb114) (o := .cells #[.int .u8 ((rd_T60 l1 x17_1).f0), .int .u32 ((rd_T60 l1 x17_1).f1), .string ((rd_T60 l1 x17_1).f2), .string ((rd_T60 l1 x17_1).f3)] 60 (0, 0)) z30z2 hb); have n1_ := Aside0.mk (below_step z30z0 hb); replace BK114 := n0_; replace HB := n1_; clear n0_ n1_; clear hb))
               go_roundg kj6
               case measure => have := HK1.out; have := HJ6.out; omega
               case rel => exact ⟨(wrap64 (x17_1 + 1)), y7_, H', ⟨z30z6⟩, ⟨z30z0⟩⟩
              ·replace c28 := Bool.eq_false_iff.mpr c28
               subst c28
               replace H : (some false) = some r := by rw [if_neg (show ¬ (false = true) by decide)] at H; exact H
               obtain rfl := Option.some.inj H
               have p117 : 0 ≤ ((ji21) : Int) := of_decide_eq_true y5_
               have q117 : (ji21) < (l1.length : Int) := of_decide_eq_true y5_
               obtain ⟨ad117, e117, hx117_0, hx117_1, hx117_2, hx117_3⟩ := at_T60 HR1.out (ji21) p117 q117
               obtain rfl : ad113 = ad117 := (by injection e117)
               replace hx117_0 := (HB.out.cell (World.block_lt_of_cell? w _ hx117_0)).trans hx117_0
               replace hx117_1 := (HB.out.cell (World.block_lt_of_cell? w _ hx117_1)).trans hx117_1
               replace hx117_2 := (HB.out.cell (World.block_lt_of_cell? w _ hx117_2)).trans hx117_2
               replace hx117_3 := (HB.out.cell (World.block_lt_of_cell? w _ hx117_3)).trans hx117_3
               replace p117 := eq_true p117
               replace q117 := eq_true q117
               have hcz31_0 : wc.cell? ⟨gb114, 0, none⟩ = some (.int .u8 ((rd_T60 l1 x17_1).f0)) := (blk_cell BK114.out 0).trans rfl
               have hcz31_1 : wc.cell? ⟨gb114, 1, none⟩ = some (.int .u32 ((rd_T60 l1 x17_1).f1)) := (blk_cell BK114.out 1).trans rfl
               have hcz31_2 : wc.cell? ⟨gb114, 2, none⟩ = some (.string ((rd_T60 l1 x17_1).f2)) := (blk_cell BK114.out 2).trans rfl
               have hcz31_3 : wc.cell? ⟨gb114, 3, none⟩ = some (.string ((rd_T60 l1 x17_1).f3)) := (blk_cell BK114.out 3).trans rfl
               obtain ⟨hfz31_0, hfz31_1, hfz31_2, hfz31_3⟩ := fzs4_ BK114.out
               go_wp2_with (first | (go_at_call 61; (with_reducible refine (prop_Often.calls ((rd_T60 l1 x17_1).f0) a0 false _ A27.out).mono ?_); rintro e w32 ⟨rfl, hb⟩; have n0_ := Aside0.mk (blk_below (g := gb114) (o := .cells #[.int .u8 ((rd_T60 l1 x17_1).f0), .int .u32 ((rd_T60 l1 x17_1).f1), .string ((rd_T60 l1 x17_1).f2), .string ((rd_T60 l1 x17_1).f3)] 60 (0, 0)) z30z2 hb); have n1_ := Aside0.mk (below_step z30z0 hb); replace BK114 := n0_; replace HB := n1_; clear n0_ n1_; clear hb))
               go_ret
               exact ⟨z30z4, z30z0⟩
             ·rw [if_neg c26] at H
              obtain ⟨c26b0, c26b1⟩ := eqf_ c26
              have H' := Aside0.mk H
              clear H
              have p117 : 0 ≤ ((ji21) : Int) := of_decide_eq_true y5_
              have q117 : (ji21) < (l1.length : Int) := of_decide_eq_true y5_
              obtain ⟨ad117, e117, hx117_0, hx117_1, hx117_2, hx117_3⟩ := at_T60 HR1.out (ji21) p117 q117
              obtain rfl : ad113 = ad117 := (by injection e117)
              replace hx117_0 := (HB.out.cell (World.block_lt_of_cell? w _ hx117_0)).trans hx117_0
              replace hx117_1 := (HB.out.cell (World.block_lt_of_cell? w _ hx117_1)).trans hx117_1
              replace hx117_2 := (HB.out.cell (World.block_lt_of_cell? w _ hx117_2)).trans hx117_2
              replace hx117_3 := (HB.out.cell (World.block_lt_of_cell? w _ hx117_3)).trans hx117_3
              replace p117 := eq_true p117
              replace q117 := eq_true q117
              have hcz33_0 : wc.cell? ⟨gb114, 0, none⟩ = some (.int .u8 ((rd_T60 l1 x17_1).f0)) := (blk_cell BK114.out 0).trans rfl
              have hcz33_1 : wc.cell? ⟨gb114, 1, none⟩ = some (.int .u32 ((rd_T60 l1 x17_1).f1)) := (blk_cell BK114.out 1).trans rfl
              have hcz33_2 : wc.cell? ⟨gb114, 2, none⟩ = some (.string ((rd_T60 l1 x17_1).f2)) := (blk_cell BK114.out 2).trans rfl
              have hcz33_3 : wc.cell? ⟨gb114, 3, none⟩ = some (.string ((rd_T60 l1 x17_1).f3)) := (blk_cell BK114.out 3).trans rfl
              obtain ⟨hfz33_0, hfz33_1, hfz33_2, hfz33_3⟩ := fzs4_ BK114.out
              go_wp2
              go_roundg kj6
              case measure => have := HK1.out; have := HJ6.out; omega
              case rel => exact ⟨(wrap64 (x17_1 + 1)), y7_, H', ⟨z30z6⟩, ⟨z30z0⟩⟩
           ·rw [if_neg c23] at H
            exact absurd H (by simp)
          ·rw [if_neg c22] at H
           exact absurd H (by simp)
     ·rw [if_neg c6] at H
      exact absurd H (by simp)
    ·rw [if_neg c5] at H
     exact absurd H (by simp)
   ·rw [if_neg c4] at H
    have c4b0 := decide_eq_false c4
    clear c4
    replace H := Option.bind_eq_some_iff.mp H
    obtain ⟨⟨t101, t102, t103, t104, t105⟩, A340, H⟩ := H
    replace H : ((props_Get.f l1 21).bind fun bt107 => (if bt107.2.2.2.2 = true then (some true) else (some (!t105)))) = some r := H
    have A34 := Aside0.mk A340
    clear A340
    replace H := Option.bind_eq_some_iff.mp H
    obtain ⟨⟨t107, t108, t109, t110, t111⟩, A350, H⟩ := H
    replace H : (if t111 = true then (some true) else (some (!t105))) = some r := H
    have A35 := Aside0.mk A350
    clear A350
    by_cases c36 : t111 = true
    ·subst c36
     have H1 : (some true) = some r := by rw [if_pos rfl] at H; exact H
     clear H
     have H := H1
     clear H1
     obtain rfl := Option.some.inj H
     go_wp2_with (first | ((with_reducible refine gate_callee (f := 27) rfl ?_); refine goesL_ (some 60) rfl rfl Tryd.func27 (by kernel_rfl) rfl #[.slice A1 l1.length c1, .int .u8 22] rfl y2_ ?_; (with_reducible refine (props_Get.calls _ _ l1 22 t101 t102 t103 t104 t105 _ ?side1 ?side2 A34.out).mono ?_); (case side1 => exact z30z3); (case side2 => exact HC1.out); rintro e w37 ⟨rfl, hb⟩; refine ⟨_, rfl, ?_⟩; replace HB := Aside0.mk (below_step y0_ hb); clear hb) | ((with_reducible refine gate_dst (N := 8) rfl ?_); refine box_event ?hg (N := 8) ?hd (cs := #[.int .u8 0, .int .u32 0, .string (⟨#[]⟩ : ByteArray), .string (⟨#[]⟩ : ByteArray)]) (t := 60) ?hr ?_; (case hd => rfl); (case hg => rfl); (case hr => exact z30z5); intro gb106 hg w38 hbox hb; have n0_ := Aside0.mk (below_step y0_ hb); have n1_ := Aside0.mk (hbox); have n2_ := Aside0.mk ((by rw [hg]; exact (below_size y0_) : w.heap.size ≤ gb106)); have n3_ := Aside0.mk ((by rw [hg]; exact (below_size y0_) : w.heap.size ≤ gb106)); replace HB := n0_; have BK106 := n1_; have GW106 := n2_; have GE106 := n3_; clear n0_ n1_ n2_ n3_; clear hb hbox hg; obtain ⟨hcz39_0, hcz39_1, hcz39_2, hcz39_3⟩ := ccs4_ BK106.out; obtain ⟨hfz39_0, hfz39_1, hfz39_2, hfz39_3⟩ := fzs4_ BK106.out) | ((with_reducible refine gate_callee (f := 27) rfl ?_); refine goesL_ (some 65) rfl rfl Tryd.func27 (by kernel_rfl) rfl #[.slice A1 l1.length c1, .int .u8 21] rfl y2_ ?_; (with_reducible refine (props_Get.calls _ _ l1 21 t107 t108 t109 t110 true _ ?side1 ?side2 A35.out).mono ?_); (case side1 => exact Kd.C_below HR1.out y9_); (case side2 => exact HC1.out); rintro e w40 ⟨rfl, hb⟩; refine ⟨_, rfl, ?_⟩; have n0_ := Aside0.mk (blk_below (g := gb106) (o := .cells #[.int .u8 t101, .int .u32 t102, .string t103, .string t104] 60 (0, 0)) y11_ hb); have n1_ := Aside0.mk (below_step y9_ hb); replace BK106 := n0_; replace HB := n1_; clear n0_ n1_; clear hb) | ((with_reducible refine gate_dst (N := 10) rfl ?_); refine box_event ?hg (N := 10) ?hd (cs := #[.int .u8 0, .int .u32 0, .string (⟨#[]⟩ : ByteArray), .string (⟨#[]⟩ : ByteArray)]) (t := 60) ?hr ?_; (case hd => rfl); (case hg => rfl); (case hr => exact z30z5); intro gb112 hg w41 hbox hb; have n0_ := Aside0.mk (blk_below (g := gb106) (o := .cells #[.int .u8 t101, .int .u32 t102, .string t103, .string t104] 60 (0, 0)) y16_ hb); have n1_ := Aside0.mk (below_step y9_ hb); have n2_ := Aside0.mk (hbox); have n3_ := Aside0.mk ((by rw [hg]; exact (below_size y9_) : w.heap.size ≤ gb112)); have n4_ := Aside0.mk ((by rw [hg]; exact (below_size y9_) : w.heap.size ≤ gb112)); have n5_ := Aside0.mk ((by rw [hg]; exact Nat.ne_of_lt (blk_lt (g := gb106) (o := .cells #[.int .u8 t101, .int .u32 t102, .string t103, .string t104] 60 (0, 0)) y16_) : gb106 ≠ gb112)); have n6_ := Aside0.mk ((by rw [hg]; exact Nat.ne_of_gt (blk_lt (g := gb106) (o := .cells #[.int .u8 t101, .int .u32 t102, .string t103, .string t104] 60 (0, 0)) y16_) : gb112 ≠ gb106)); replace BK106 := n0_; replace HB := n1_; have BK112 := n2_; have GW112 := n3_; have GE112 := n4_; have NB106_112 := n5_; have NB112_106 := n6_; clear n0_ n1_ n2_ n3_ n4_ n5_ n6_; clear hb hbox hg; have hnb42 := NB112_106.out; have hnc42 := NB106_112.out; obtain ⟨hcz43_0, hcz43_1, hcz43_2, hcz43_3⟩ := ccs4_ BK112.out; obtain ⟨hfz43_0, hfz43_1, hfz43_2, hfz43_3⟩ := fzs4_ BK112.out))
     go_ret
     exact ⟨y4_, y17_⟩
    ·replace c36 := Bool.eq_false_iff.mpr c36
     subst c36
     replace H : (some (!t105)) = some r := by rw [if_neg (show ¬ (false = true) by decide)] at H; exact H
     obtain rfl := Option.some.inj H
     go_wp2_with (first | ((with_reducible refine gate_callee (f := 27) rfl ?_); refine goesL_ (some 60) rfl rfl Tryd.func27 (by kernel_rfl) rfl #[.slice A1 l1.length c1, .int .u8 22] rfl y2_ ?_; (with_reducible refine (props_Get.calls _ _ l1 22 t101 t102 t103 t104 t105 _ ?side1 ?side2 A34.out).mono ?_); (case side1 => exact z30z3); (case side2 => exact HC1.out); rintro e w44 ⟨rfl, hb⟩; refine ⟨_, rfl, ?_⟩; replace HB := Aside0.mk (below_step y0_ hb); clear hb) | ((with_reducible refine gate_dst (N := 8) rfl ?_); refine box_event ?hg (N := 8) ?hd (cs := #[.int .u8 0, .int .u32 0, .string (⟨#[]⟩ : ByteArray), .string (⟨#[]⟩ : ByteArray)]) (t := 60) ?hr ?_; (case hd => rfl); (case hg => rfl); (case hr => exact z30z5); intro gb106 hg w45 hbox hb; have n0_ := Aside0.mk (below_step y0_ hb); have n1_ := Aside0.mk (hbox); have n2_ := Aside0.mk ((by rw [hg]; exact (below_size y0_) : w.heap.size ≤ gb106)); have n3_ := Aside0.mk ((by rw [hg]; exact (below_size y0_) : w.heap.size ≤ gb106)); replace HB := n0_; have BK106 := n1_; have GW106 := n2_; have GE106 := n3_; clear n0_ n1_ n2_ n3_; clear hb hbox hg; obtain ⟨hcz46_0, hcz46_1, hcz46_2, hcz46_3⟩ := ccs4_ BK106.out; obtain ⟨hfz46_0, hfz46_1, hfz46_2, hfz46_3⟩ := fzs4_ BK106.out) | ((with_reducible refine gate_callee (f := 27) rfl ?_); refine goesL_ (some 65) rfl rfl Tryd.func27 (by kernel_rfl) rfl #[.slice A1 l1.length c1, .int .u8 21] rfl y2_ ?_; (with_reducible refine (props_Get.calls _ _ l1 21 t107 t108 t109 t110 false _ ?side1 ?side2 A35.out).mono ?_); (case side1 => exact Kd.C_below HR1.out y9_); (case side2 => exact HC1.out); rintro e w47 ⟨rfl, hb⟩; refine ⟨_, rfl, ?_⟩; have n0_ := Aside0.mk (blk_below (g := gb106) (o := .cells #[.int .u8 t101, .int .u32 t102, .string t103, .string t104] 60 (0, 0)) y11_ hb); have n1_ := Aside0.mk (below_step y9_ hb); replace BK106 := n0_; replace HB := n1_; clear n0_ n1_; clear hb) | ((with_reducible refine gate_dst (N := 10) rfl ?_); refine box_event ?hg (N := 10) ?hd (cs := #[.int .u8 0, .int .u32 0, .string (⟨#[]⟩ : ByteArray), .string (⟨#[]⟩ : ByteArray)]) (t := 60) ?hr ?_; (case hd => rfl); (case hg => rfl); (case hr => exact z30z5); intro gb112 hg w48 hbox hb; have n0_ := Aside0.mk (blk_below (g := gb106) (o := .cells #[.int .u8 t101, .int .u32 t102, .string t103, .string t104] 60 (0, 0)) y16_ hb); have n1_ := Aside0.mk (below_step y9_ hb); have n2_ := Aside0.mk (hbox); have n3_ := Aside0.mk ((by rw [hg]; exact (below_size y9_) : w.heap.size ≤ gb112)); have n4_ := Aside0.mk ((by rw [hg]; exact (below_size y9_) : w.heap.size ≤ gb112)); have n5_ := Aside0.mk ((by rw [hg]; exact Nat.ne_of_lt (blk_lt (g := gb106) (o := .cells #[.int .u8 t101, .int .u32 t102, .string t103, .string t104] 60 (0, 0)) y16_) : gb106 ≠ gb112)); have n6_ := Aside0.mk ((by rw [hg]; exact Nat.ne_of_gt (blk_lt (g := gb106) (o := .cells #[.int .u8 t101, .int .u32 t102, .string t103, .string t104] 60 (0, 0)) y16_) : gb112 ≠ gb106)); replace BK106 := n0_; replace HB := n1_; have BK112 := n2_; have GW112 := n3_; have GE112 := n4_; have NB106_112 := n5_; have NB112_106 := n6_; clear n0_ n1_ n2_ n3_ n4_ n5_ n6_; clear hb hbox hg; have hnb49 := NB112_106.out; have hnc49 := NB106_112.out; obtain ⟨hcz50_0, hcz50_1, hcz50_2, hcz50_3⟩ := ccs4_ BK112.out; obtain ⟨hfz50_0, hfz50_1, hfz50_2, hfz50_3⟩ := fzs4_ BK112.out))
     go_ret
     exact ⟨y4_, y17_⟩
end Go.Proofs.YtkmkgpigmldhnaaDoor.P
namespace Go.Proofs.YtkmkgpigmldhnaaDoor.P
open Go.RowKit Go.Proofs.YtkmkgpigmldhnaaDoorW.PrintWords Go.Proofs.YtkmkgpigmldhnaaDoorW.PrintLast Go.Proofs.YtkmkgpigmldhnaaDoorW.PrintMore
attribute [local go_sem] max2_int min2_int max_two min_two max_three min_three max_four min_four
def pouchlaw06_told.f0 (k : Nat)  : Option (Bool) := (props_Put.f k ([] : List Int) (([(⟨33, 7, (⟨#[]⟩ : ByteArray), (⟨#[]⟩ : ByteArray)⟩ : S60)] : List (S60)))).bind fun t104 => ((wire_Read.f t104).bind fun bt107 => ((props_Take.f k bt107.1 bt107.2).bind fun bt110 => (if (strOfNums t104).toList = ([3, 33, 0, 7] : List UInt8) then (if bt110.2.1 = true then (if (bt110.1.length : Int) = 1 then (if 0 < (bt110.1.length : Int) then (if ((rd_T60 bt110.1 0).f1) = 7 then ((props_Size.f k bt110.1).bind fun t117 => (if t117 = 4 then ((props_Put.f k ([] : List Int) ([] : List (S60))).bind fun t118 => (if (strOfNums t118).toList = ([0] : List UInt8) then ((props_Check.f k 1 bt110.1).bind fun t121 => (if t121 = true then ((props_Check.f k 3 bt110.1).bind fun t122 => (some (!t122))) else (some false))) else (some false))) else (some false))) else (some false)) else (none)) else (some false)) else (some false)) else (some false))))
theorem pouchlaw06_told.mono0 : ∀ k, LeO (pouchlaw06_told.f0 k ) (pouchlaw06_told.f0 (k + 1) ) := by
  intro  k
  unfold pouchlaw06_told.f0
  repeat' first
      | (with_reducible exact props_Check.mono _ _ _)
      | (with_reducible exact props_Put.mono _ _ _)
      | (with_reducible exact props_Size.mono _ _)
      | (with_reducible exact props_Take.mono _ _ _)
      | (with_reducible exact LeO.refl _)
      | (with_reducible exact LeO.none _)
      | (with_reducible refine LeO.ite ?_ ?_)
      | (with_reducible refine LeO.bind ?_ (fun _ => ?_))
      | exact props_Check.mono _ _ _
      | exact props_Put.mono _ _ _
      | exact props_Size.mono _ _
      | exact props_Take.mono _ _ _
      | exact LeO.none _
      | refine LeO.ite ?_ ?_
      | refine LeO.bind ?_ (fun _ => ?_)
theorem z10z0 {p : Prop} (h : p := by repeat (first | (with_reducible first | exact HB.out | apply below_alloc | apply pw_below_drewN | apply below_drew1 | refine below_set ?_ (IsS78.ge HI109.out)) | exact HB.out)) : p := h
theorem z10z1 {p : Prop} (h : p := by repeat (first | (with_reducible first | exact HI109.out | apply IsS78.alloc | apply IsS78.drewN | apply IsS78.drew | apply IsS78.set_0 | apply IsS78.set_1) | exact HI109.out)) : p := h
theorem z10z2 {p : Prop} (h : p := by repeat (first | exact (Kd.R_reads' HO112.out).2.2 | (with_reducible refine Kd.C_alloc ?_ _) | (with_reducible refine Kd.C_drewN ?_ _) | (with_reducible refine Kd.C_drew ?_))) : p := h
theorem z10z3 {p : Prop} (h : p := by exact (Reps.c4 (show Kd.M k60 _ _ _ (⟨33, 7, (⟨#[]⟩ : ByteArray), (⟨#[]⟩ : ByteArray)⟩ : S60) [.int .u8 33, .int .u32 7, .string (⟨#[]⟩ : ByteArray), .string (⟨#[]⟩ : ByteArray)] from (k60_mkM _ _ _ (⟨33, 7, (⟨#[]⟩ : ByteArray), (⟨#[]⟩ : ByteArray)⟩ : S60) )) (Reps.none _ _))) : p := h
theorem z10z4 {p : Prop} (h : p := by repeat (first | exact (Kd.R_reads' HO103.out).2.2 | (with_reducible refine Kd.C_alloc ?_ _) | (with_reducible refine Kd.C_drewN ?_ _) | (with_reducible refine Kd.C_drew ?_))) : p := h
theorem z10z5 {p : Prop} (h : p := by repeat (first | exact (Kd.R_reads' HO106.out).2.2 | (with_reducible refine Kd.C_alloc ?_ _) | (with_reducible refine Kd.C_drewN ?_ _) | (with_reducible refine Kd.C_drew ?_))) : p := h
theorem z10z6 {p : Prop} (h : p := by repeat (first | (with_reducible first | exact HB.out | apply below_alloc | apply pw_below_drewN | apply below_drew1) | exact HB.out)) : p := h
theorem z10z7 {p : Prop} (h : p := by exact GW.below HG.out z10z0) : p := h
theorem z10z8 {p : Prop} (h : p := by exact (Kd.R_reads' HO112.out).2.1) : p := h
theorem z10z9 {p : Prop} (h : p := by first | (go_simp; done) | (go_simp; rfl)) : p := h
theorem pouchlaw06_told.calls0 (k : Nat) (r : Bool) (hrt : r = true) (w : World) (hG : GW w) (h : pouchlaw06_told.f0 k = some r) :
  Calls Tryd.prog 10 #[] w fun e w' => e = .returned (.bool r) ∧ Below w.heap.size w w' := by
 have HRT_ := Aside0.mk hrt
 clear hrt
 have hu60 := Tryd.underlying60
 have HB := Aside0.mk (Below.refl w.heap.size w)
 have HG := Aside0.mk hG
 clear hG
 have H : ((props_Put.f k ([] : List Int) (([(⟨33, 7, (⟨#[]⟩ : ByteArray), (⟨#[]⟩ : ByteArray)⟩ : S60)] : List (S60)))).bind fun t104 => ((wire_Read.f t104).bind fun bt107 => ((props_Take.f k bt107.1 bt107.2).bind fun bt110 => (if (strOfNums t104).toList = ([3, 33, 0, 7] : List UInt8) then (if bt110.2.1 = true then (if (bt110.1.length : Int) = 1 then (if 0 < (bt110.1.length : Int) then (if ((rd_T60 bt110.1 0).f1) = 7 then ((props_Size.f k bt110.1).bind fun t117 => (if t117 = 4 then ((props_Put.f k ([] : List Int) ([] : List (S60))).bind fun t118 => (if (strOfNums t118).toList = ([0] : List UInt8) then ((props_Check.f k 1 bt110.1).bind fun t121 => (if t121 = true then ((props_Check.f k 3 bt110.1).bind fun t122 => (some (!t122))) else (some false))) else (some false))) else (some false))) else (some false)) else (none)) else (some false)) else (some false)) else (some false))))) = some r := h
 clear h
 obtain ⟨y101, hy101⟩ : ∃ y_ : List (S60), y_ = (([(⟨33, 7, (⟨#[]⟩ : ByteArray), (⟨#[]⟩ : ByteArray)⟩ : S60)] : List (S60))) := ⟨_, rfl⟩
 replace H : ((props_Put.f k ([] : List Int) y101).bind fun t104 => ((wire_Read.f t104).bind fun bt107 => ((props_Take.f k bt107.1 bt107.2).bind fun bt110 => (if (strOfNums t104).toList = ([3, 33, 0, 7] : List UInt8) then (if bt110.2.1 = true then (if (bt110.1.length : Int) = 1 then (if 0 < (bt110.1.length : Int) then (if ((rd_T60 bt110.1 0).f1) = 7 then ((props_Size.f k bt110.1).bind fun t117 => (if t117 = 4 then ((props_Put.f k ([] : List Int) ([] : List (S60))).bind fun t118 => (if (strOfNums t118).toList = ([0] : List UInt8) then ((props_Check.f k 1 bt110.1).bind fun t121 => (if t121 = true then ((props_Check.f k 3 bt110.1).bind fun t122 => (some (!t122))) else (some false))) else (some false))) else (some false))) else (some false)) else (none)) else (some false)) else (some false)) else (some false))))) = some r := by first | (rw [hy101]; with_reducible exact H) | (have H2_ := (Option.bind_some _ _).symm.trans H; rw [hy101]; with_reducible exact H2_) | (have H2_ := (Option.bind_some _ _).symm.trans H; with_reducible exact H2_) | with_reducible exact H | (rw [hy101]; exact H) | exact H
 have Ny101 := Aside0.mk hy101
 clear hy101
 replace H := Option.bind_eq_some_iff.mp H
 obtain ⟨t104, A10, H⟩ := H
 try dsimp -simprocs only at H
 have A1 := Aside0.mk A10
 clear A10
 replace H := Option.bind_eq_some_iff.mp H
 obtain ⟨⟨t107, t108⟩, A20, H⟩ := H
 try dsimp -simprocs only at H
 have A2 := Aside0.mk A20
 clear A20
 replace H := Option.bind_eq_some_iff.mp H
 obtain ⟨⟨t110, t113, t114, t115⟩, A30, H⟩ := H
 try dsimp -simprocs only at H
 have A3 := Aside0.mk A30
 clear A30
 by_cases c4 : (strOfNums t104).toList = ([3, 33, 0, 7] : List UInt8)
 rotate_left
 ·rw [if_neg c4] at H
  exact absurd H y26_
 rw [if_pos c4] at H
 obtain ⟨c4b0, c4b1⟩ := eqt_ c4
 clear c4
 by_cases c5 : t113 = true
 rotate_left
 ·replace c5 := Bool.eq_false_iff.mpr c5
  subst c5
  replace H : (some false) = some r := by rw [if_neg (show ¬ (false = true) by decide)] at H; exact H
  obtain rfl := Option.some.inj H
  go_enter Tryd.func10, Tryd.ntmps10
  go_wp2_with (first | ((with_reducible refine gate_dst (N := 5) rfl ?_); refine Kd.R_lit k60 _ 60 ?hg (N := 5) ?hd (xs := ([(⟨33, 7, (⟨#[]⟩ : ByteArray), (⟨#[]⟩ : ByteArray)⟩ : S60)] : List (S60))) (inner := [.int .u8 33, .int .u32 7, .string (⟨#[]⟩ : ByteArray), .string (⟨#[]⟩ : ByteArray)]) (ok := fun _ => True) (okp := fun _ => True) ?hr ?hp (fun _ hk => hk) trivial (Below.refl _ _) (Nat.le_refl _) (by simp) ?_; (case hd => rfl); (case hg => rfl); (case hr => exact z10z9); (case hp => exact z10z3); intro v102 w83 ho84 hb hg_ hnew_; clear hg_ hnew_; (first | rw [← Ny101.out] at ho84 | (simp only [Int.reduceToNat] at ho84; rw [← Ny101.out] at ho84)); have n0_ := Aside0.mk (Kd.R_lower ho84 (below_size y0_)); have n1_ := Aside0.mk (below_step y0_ hb); have HO103 := n0_; replace HB := n1_; clear n0_ n1_; clear hb ho84; obtain ⟨Ao85, co85, eo85⟩ := Kd.R_slice HO103.out; subst eo85) | ((with_reducible refine gate_callee (f := 11) rfl ?_); refine goesL_ (some 6) rfl rfl Tryd.func11 (by kernel_rfl) rfl #[.slice none 0 0, .slice Ao85 y101.length co85] rfl y2_ ?_; (refine (props_Put.calls k _ _ ([] : List Int) _ _ y101 t104 _ ?side1 ?side2 ?side3 ?side4 ?side5 A1.out).mono ?_); (case side1 => exact Kd.C_nil _ _); (case side2 => exact Nat.le_refl _); (case side3 => exact z10z4); (case side4 => exact (Kd.R_reads' HO103.out).2.1); (case side5 => exact GW.below HG.out y0_); rintro e w86 ⟨v105, rfl, ho0, hb⟩; refine ⟨_, rfl, ?_⟩; have n0_ := Aside0.mk (Kd.R_below y12_ hb); have n1_ := Aside0.mk (Kd.R_lower ho0 (below_size y0_)); have n2_ := Aside0.mk (below_step y0_ hb); replace HO103 := n0_; have HO106 := n1_; replace HB := n2_; clear n0_ n1_ n2_; clear hb ho0; obtain ⟨Ao87, co87, eo87⟩ := Kd.R_slice HO106.out; subst eo87) | ((with_reducible refine gate_callee (f := 15) rfl ?_); refine goesL_ (some 9) rfl rfl Tryd.func15 (by kernel_rfl) rfl #[.slice Ao87 t104.length co87] rfl y2_ ?_; (with_reducible refine (wire_Read.calls_at _ _ t104 t107 t108 w _ ?side1 ?side2 ?side3 A2.out).mono ?_); (case side1 => exact z10z6); (case side2 => exact z10z5); (case side3 => exact (Kd.R_reads' HO106.out).2.1); rintro e w88 ⟨g109, rfl, hi, hb, hb2⟩; refine ⟨_, rfl, ?_⟩; have n0_ := Aside0.mk (Kd.R_below y12_ hb2); have n1_ := Aside0.mk (Kd.R_below y15_ hb2); have n2_ := Aside0.mk (hb); have n3_ := Aside0.mk (hi); replace HO103 := n0_; replace HO106 := n1_; replace HB := n2_; have HI109 := n3_; clear n0_ n1_ n2_ n3_; clear hb hb2 hi) | ((with_reducible refine gate_callee (f := 17) rfl ?_); refine goesL_ (some 10) rfl rfl Tryd.func17 (by kernel_rfl) rfl #[.pointer (some ⟨g109, 0, none⟩)] rfl y2_ ?_; (with_reducible refine (props_Take.calls k g109 t107 t108 t110 false t114 t115 w _ ?side1 ?side2 ?side3 A3.out).mono ?_); (case side1 => exact z10z1); (case side2 => exact z10z0); (case side3 => exact HG.out); rintro e w89 ⟨v111, rfl, ho0, hi, hb, hk⟩; refine ⟨_, rfl, ?_⟩; have n0_ := Aside0.mk (Kd.R_mono (Kd.R_told (Kd.R_oldK (IsS78.apart (show IsS78 w _ g109 t107 t108 from by repeat (first | (with_reducible first | exact HI109.out | apply IsS78.alloc | apply IsS78.drewN | apply IsS78.drew | apply IsS78.set_0 | apply IsS78.set_1) | exact HI109.out)) y12_ (by decide)) hk) (Kd.R_base ho0)) (fun _ h_ => h_.1)); have n1_ := Aside0.mk (Kd.R_mono (Kd.R_keep (IsS78.apart (show IsS78 w _ g109 t107 t108 from by repeat (first | (with_reducible first | exact HI109.out | apply IsS78.alloc | apply IsS78.drewN | apply IsS78.drew | apply IsS78.set_0 | apply IsS78.set_1) | exact HI109.out)) y15_ (by decide)) hk (fun _ h => h.2)) (fun _ h => h.1)); have n2_ := Aside0.mk (Kd.R_lower (Kd.R_new' ho0 (Kd.R_lt y12_)) (below_size z10z0)); have n3_ := Aside0.mk (hb); have n4_ := Aside0.mk (hi); replace HO103 := n0_; replace HO106 := n1_; have HO112 := n2_; replace HB := n3_; replace HI109 := n4_; clear n0_ n1_ n2_ n3_ n4_; clear hb hk hi ho0; have hcv90 := own_string (P := Tryd.prog) Tryd.underlying25 Tryd.underlying5 Tryd.underlying9 (Kd.own_of_R HO106.out)))
  go_ret
  exact ⟨y4_, z10z0⟩
 subst c5
 have H1 : (if (t110.length : Int) = 1 then (if 0 < (t110.length : Int) then (if ((rd_T60 t110 0).f1) = 7 then ((props_Size.f k t110).bind fun t117 => (if t117 = 4 then ((props_Put.f k ([] : List Int) ([] : List (S60))).bind fun t118 => (if (strOfNums t118).toList = ([0] : List UInt8) then ((props_Check.f k 1 t110).bind fun t121 => (if t121 = true then ((props_Check.f k 3 t110).bind fun t122 => (some (!t122))) else (some false))) else (some false))) else (some false))) else (some false)) else (none)) else (some false)) = some r := by rw [if_pos rfl] at H; exact H
 clear H
 have H := H1
 clear H1
 by_cases c6 : (t110.length : Int) = 1
 rotate_left
 ·rw [if_neg c6] at H
  exact absurd H y26_
 rw [if_pos c6] at H
 obtain ⟨c6b0, c6b1⟩ := eqt_ c6
 clear c6
 by_cases c7 : 0 < (t110.length : Int)
 rotate_left
 ·rw [if_neg c7] at H
  exact absurd H (by simp)
 rw [if_pos c7] at H
 have c7b0 := decide_eq_true c7
 have c7b1 : decide (0 < t110.length) = true := decide_eq_true (by omega)
 clear c7
 by_cases c8 : ((rd_T60 t110 0).f1) = 7
 rotate_left
 ·rw [if_neg c8] at H
  exact absurd H y26_
 rw [if_pos c8] at H
 obtain ⟨c8b0, c8b1⟩ := eqt_ c8
 clear c8
 replace H := Option.bind_eq_some_iff.mp H
 obtain ⟨t117, A90, H⟩ := H
 try dsimp -simprocs only at H
 have A9 := Aside0.mk A90
 clear A90
 by_cases c10 : t117 = 4
 rotate_left
 ·rw [if_neg c10] at H
  exact absurd H y26_
 rw [if_pos c10] at H
 obtain ⟨c10b0, c10b1⟩ := eqt_ c10
 clear c10
 replace H := Option.bind_eq_some_iff.mp H
 obtain ⟨t118, A110, H⟩ := H
 try dsimp -simprocs only at H
 have A11 := Aside0.mk A110
 clear A110
 by_cases c12 : (strOfNums t118).toList = ([0] : List UInt8)
 rotate_left
 ·rw [if_neg c12] at H
  exact absurd H y26_
 rw [if_pos c12] at H
 obtain ⟨c12b0, c12b1⟩ := eqt_ c12
 clear c12
 replace H := Option.bind_eq_some_iff.mp H
 obtain ⟨t121, A130, H⟩ := H
 replace H : (if t121 = true then ((props_Check.f k 3 t110).bind fun t122 => (some (!t122))) else (some false)) = some r := H
 have A13 := Aside0.mk A130
 clear A130
 by_cases c14 : t121 = true
 rotate_left
 ·replace c14 := Bool.eq_false_iff.mpr c14
  subst c14
  replace H : (some false) = some r := by rw [if_neg (show ¬ (false = true) by decide)] at H; exact H
  obtain rfl := Option.some.inj H
  go_enter Tryd.func10, Tryd.ntmps10
  go_wp2_with (first | ((with_reducible refine gate_dst (N := 5) rfl ?_); refine Kd.R_lit k60 _ 60 ?hg (N := 5) ?hd (xs := ([(⟨33, 7, (⟨#[]⟩ : ByteArray), (⟨#[]⟩ : ByteArray)⟩ : S60)] : List (S60))) (inner := [.int .u8 33, .int .u32 7, .string (⟨#[]⟩ : ByteArray), .string (⟨#[]⟩ : ByteArray)]) (ok := fun _ => True) (okp := fun _ => True) ?hr ?hp (fun _ hk => hk) trivial (Below.refl _ _) (Nat.le_refl _) (by simp) ?_; (case hd => rfl); (case hg => rfl); (case hr => exact z10z9); (case hp => exact z10z3); intro v102 w30 ho31 hb hg_ hnew_; clear hg_ hnew_; (first | rw [← Ny101.out] at ho31 | (simp only [Int.reduceToNat] at ho31; rw [← Ny101.out] at ho31)); have n0_ := Aside0.mk (Kd.R_lower ho31 (below_size y0_)); have n1_ := Aside0.mk (below_step y0_ hb); have HO103 := n0_; replace HB := n1_; clear n0_ n1_; clear hb ho31; obtain ⟨Ao32, co32, eo32⟩ := Kd.R_slice HO103.out; subst eo32) | ((with_reducible refine gate_callee (f := 11) rfl ?_); refine goesL_ (some 6) rfl rfl Tryd.func11 (by kernel_rfl) rfl #[.slice none 0 0, .slice Ao32 y101.length co32] rfl y2_ ?_; (refine (props_Put.calls k _ _ ([] : List Int) _ _ y101 t104 _ ?side1 ?side2 ?side3 ?side4 ?side5 A1.out).mono ?_); (case side1 => exact Kd.C_nil _ _); (case side2 => exact Nat.le_refl _); (case side3 => exact z10z4); (case side4 => exact (Kd.R_reads' HO103.out).2.1); (case side5 => exact GW.below HG.out y0_); rintro e w33 ⟨v105, rfl, ho0, hb⟩; refine ⟨_, rfl, ?_⟩; have n0_ := Aside0.mk (Kd.R_below y12_ hb); have n1_ := Aside0.mk (Kd.R_lower ho0 (below_size y0_)); have n2_ := Aside0.mk (below_step y0_ hb); replace HO103 := n0_; have HO106 := n1_; replace HB := n2_; clear n0_ n1_ n2_; clear hb ho0; obtain ⟨Ao34, co34, eo34⟩ := Kd.R_slice HO106.out; subst eo34) | ((with_reducible refine gate_callee (f := 15) rfl ?_); refine goesL_ (some 9) rfl rfl Tryd.func15 (by kernel_rfl) rfl #[.slice Ao34 t104.length co34] rfl y2_ ?_; (with_reducible refine (wire_Read.calls_at _ _ t104 t107 t108 w _ ?side1 ?side2 ?side3 A2.out).mono ?_); (case side1 => exact z10z6); (case side2 => exact z10z5); (case side3 => exact (Kd.R_reads' HO106.out).2.1); rintro e w35 ⟨g109, rfl, hi, hb, hb2⟩; refine ⟨_, rfl, ?_⟩; have n0_ := Aside0.mk (Kd.R_below y12_ hb2); have n1_ := Aside0.mk (Kd.R_below y15_ hb2); have n2_ := Aside0.mk (hb); have n3_ := Aside0.mk (hi); replace HO103 := n0_; replace HO106 := n1_; replace HB := n2_; have HI109 := n3_; clear n0_ n1_ n2_ n3_; clear hb hb2 hi) | ((with_reducible refine gate_callee (f := 17) rfl ?_); refine goesL_ (some 10) rfl rfl Tryd.func17 (by kernel_rfl) rfl #[.pointer (some ⟨g109, 0, none⟩)] rfl y2_ ?_; (with_reducible refine (props_Take.calls k g109 t107 t108 t110 true t114 t115 w _ ?side1 ?side2 ?side3 A3.out).mono ?_); (case side1 => exact z10z1); (case side2 => exact z10z0); (case side3 => exact HG.out); rintro e w36 ⟨v111, rfl, ho0, hi, hb, hk⟩; refine ⟨_, rfl, ?_⟩; have n0_ := Aside0.mk (Kd.R_mono (Kd.R_told (Kd.R_oldK (IsS78.apart (show IsS78 w _ g109 t107 t108 from by repeat (first | (with_reducible first | exact HI109.out | apply IsS78.alloc | apply IsS78.drewN | apply IsS78.drew | apply IsS78.set_0 | apply IsS78.set_1) | exact HI109.out)) y12_ (by decide)) hk) (Kd.R_base ho0)) (fun _ h_ => h_.1)); have n1_ := Aside0.mk (Kd.R_mono (Kd.R_keep (IsS78.apart (show IsS78 w _ g109 t107 t108 from by repeat (first | (with_reducible first | exact HI109.out | apply IsS78.alloc | apply IsS78.drewN | apply IsS78.drew | apply IsS78.set_0 | apply IsS78.set_1) | exact HI109.out)) y15_ (by decide)) hk (fun _ h => h.2)) (fun _ h => h.1)); have n2_ := Aside0.mk (Kd.R_lower (Kd.R_new' ho0 (Kd.R_lt y12_)) (below_size z10z0)); have n3_ := Aside0.mk (hb); have n4_ := Aside0.mk (hi); replace HO103 := n0_; replace HO106 := n1_; have HO112 := n2_; replace HB := n3_; replace HI109 := n4_; clear n0_ n1_ n2_ n3_ n4_; clear hb hk hi ho0; have hcv37 := own_string (P := Tryd.prog) Tryd.underlying25 Tryd.underlying5 Tryd.underlying9 (Kd.own_of_R HO106.out); obtain ⟨Ao38, co38, eo38⟩ := Kd.R_slice HO112.out; subst eo38; have p116 : 0 ≤ (0 : Int) := (by omega); have q116 : 0 < (t110.length : Int) := of_decide_eq_true y5_; obtain ⟨ad116, e116, hx116_0, hx116_1, hx116_2, hx116_3⟩ := at_T60 (Kd.R_reads' HO112.out).2.2 0 p116 q116; cases e116; have qi116 : (0 < t110.length) = True := eq_true (by omega); (try rw [show ((0 : Int)).toNat = 0 from rfl] at hx116_0); (try rw [show 0 * 4 = 0 from rfl] at hx116_0); (try rw [Addr.add_zero'] at hx116_0); (try rw [show ((0 : Int)).toNat = 0 from rfl] at hx116_1); (try rw [show 0 * 4 = 0 from rfl] at hx116_1); (try rw [Addr.add_zero'] at hx116_1); (try rw [show ((0 : Int)).toNat = 0 from rfl] at hx116_2); (try rw [show 0 * 4 = 0 from rfl] at hx116_2); (try rw [Addr.add_zero'] at hx116_2); (try rw [show ((0 : Int)).toNat = 0 from rfl] at hx116_3); (try rw [show 0 * 4 = 0 from rfl] at hx116_3); (try rw [Addr.add_zero'] at hx116_3); replace p116 := eq_true p116; replace q116 := eq_true q116) | (go_at_call 14; (with_reducible refine (props_Size.calls k _ _ t110 t117 _ ?side1 ?side2 ?side3 A9.out).mono ?_); (case side1 => exact z10z2); (case side2 => exact z10z8); (case side3 => exact z10z7); rintro e w39 ⟨rfl, hb⟩; have n0_ := Aside0.mk (Kd.R_below y12_ hb); have n1_ := Aside0.mk (Kd.R_below y15_ hb); have n2_ := Aside0.mk (Kd.R_below y22_ hb); have n3_ := Aside0.mk (IsS78.below z10z1 hb); have n4_ := Aside0.mk (below_step z10z0 hb); replace HO103 := n0_; replace HO106 := n1_; replace HO112 := n2_; replace HI109 := n3_; replace HB := n4_; clear n0_ n1_ n2_ n3_ n4_; clear hb) | (go_at_call 11; (refine (props_Put.calls k _ _ ([] : List Int) _ _ ([] : List (S60)) t118 _ ?side1 ?side2 ?side3 ?side4 ?side5 A11.out).mono ?_); (case side1 => exact Kd.C_nil _ _); (case side2 => exact Nat.le_refl _); (case side3 => exact Kd.C_nil _ _); (case side4 => exact Nat.le_refl _); (case side5 => exact z10z7); rintro e w40 ⟨v119, rfl, ho0, hb⟩; have n0_ := Aside0.mk (Kd.R_below y12_ hb); have n1_ := Aside0.mk (Kd.R_elder' y15_ (Kd.R_base ho0) hb); have n2_ := Aside0.mk (Kd.R_below y22_ hb); have n3_ := Aside0.mk (Kd.R_lower (Kd.R_new' ho0 (Kd.R_lt y15_)) (below_size z10z0)); have n4_ := Aside0.mk (IsS78.below z10z1 hb); have n5_ := Aside0.mk (below_step z10z0 hb); replace HO103 := n0_; replace HO106 := n1_; replace HO112 := n2_; have HO120 := n3_; replace HI109 := n4_; replace HB := n5_; clear n0_ n1_ n2_ n3_ n4_ n5_; clear hb ho0; have hcv41 := own_string (P := Tryd.prog) Tryd.underlying25 Tryd.underlying5 Tryd.underlying9 (Kd.own_of_R HO120.out)) | (go_at_call 30; (with_reducible refine (props_Check.calls k 1 _ _ t110 false _ ?side1 ?side2 ?side3 A13.out).mono ?_); (case side1 => exact z10z2); (case side2 => exact z10z8); (case side3 => exact z10z7); rintro e w42 ⟨rfl, hb⟩; have n0_ := Aside0.mk (Kd.R_below y12_ hb); have n1_ := Aside0.mk (Kd.R_below y15_ hb); have n2_ := Aside0.mk (Kd.R_below y22_ hb); have n3_ := Aside0.mk (Kd.R_below y20_ hb); have n4_ := Aside0.mk (IsS78.below z10z1 hb); have n5_ := Aside0.mk (below_step z10z0 hb); replace HO103 := n0_; replace HO106 := n1_; replace HO112 := n2_; replace HO120 := n3_; replace HI109 := n4_; replace HB := n5_; clear n0_ n1_ n2_ n3_ n4_ n5_; clear hb))
  go_ret
  exact ⟨y4_, z10z0⟩
 subst c14
 have H1 : ((props_Check.f k 3 t110).bind fun t122 => (some (!t122))) = some r := by rw [if_pos rfl] at H; exact H
 clear H
 have H := H1
 clear H1
 replace H := Option.bind_eq_some_iff.mp H
 obtain ⟨t122, A150, H⟩ := H
 replace H : (some (!t122)) = some r := H
 have A15 := Aside0.mk A150
 clear A150
 obtain rfl := Option.some.inj H
 go_enter Tryd.func10, Tryd.ntmps10
 go_wp2_with (first | ((with_reducible refine gate_dst (N := 5) rfl ?_); refine Kd.R_lit k60 _ 60 ?hg (N := 5) ?hd (xs := ([(⟨33, 7, (⟨#[]⟩ : ByteArray), (⟨#[]⟩ : ByteArray)⟩ : S60)] : List (S60))) (inner := [.int .u8 33, .int .u32 7, .string (⟨#[]⟩ : ByteArray), .string (⟨#[]⟩ : ByteArray)]) (ok := fun _ => True) (okp := fun _ => True) ?hr ?hp (fun _ hk => hk) trivial (Below.refl _ _) (Nat.le_refl _) (by simp) ?_; (case hd => rfl); (case hg => rfl); (case hr => exact z10z9); (case hp => exact z10z3); intro v102 w16 ho17 hb hg_ hnew_; clear hg_ hnew_; (first | rw [← Ny101.out] at ho17 | (simp only [Int.reduceToNat] at ho17; rw [← Ny101.out] at ho17)); have n0_ := Aside0.mk (Kd.R_lower ho17 (below_size y0_)); have n1_ := Aside0.mk (below_step y0_ hb); have HO103 := n0_; replace HB := n1_; clear n0_ n1_; clear hb ho17; obtain ⟨Ao18, co18, eo18⟩ := Kd.R_slice HO103.out; subst eo18) | ((with_reducible refine gate_callee (f := 11) rfl ?_); refine goesL_ (some 6) rfl rfl Tryd.func11 (by kernel_rfl) rfl #[.slice none 0 0, .slice Ao18 y101.length co18] rfl y2_ ?_; (refine (props_Put.calls k _ _ ([] : List Int) _ _ y101 t104 _ ?side1 ?side2 ?side3 ?side4 ?side5 A1.out).mono ?_); (case side1 => exact Kd.C_nil _ _); (case side2 => exact Nat.le_refl _); (case side3 => exact z10z4); (case side4 => exact (Kd.R_reads' HO103.out).2.1); (case side5 => exact GW.below HG.out y0_); rintro e w19 ⟨v105, rfl, ho0, hb⟩; refine ⟨_, rfl, ?_⟩; have n0_ := Aside0.mk (Kd.R_below y12_ hb); have n1_ := Aside0.mk (Kd.R_lower ho0 (below_size y0_)); have n2_ := Aside0.mk (below_step y0_ hb); replace HO103 := n0_; have HO106 := n1_; replace HB := n2_; clear n0_ n1_ n2_; clear hb ho0; obtain ⟨Ao20, co20, eo20⟩ := Kd.R_slice HO106.out; subst eo20) | ((with_reducible refine gate_callee (f := 15) rfl ?_); refine goesL_ (some 9) rfl rfl Tryd.func15 (by kernel_rfl) rfl #[.slice Ao20 t104.length co20] rfl y2_ ?_; (with_reducible refine (wire_Read.calls_at _ _ t104 t107 t108 w _ ?side1 ?side2 ?side3 A2.out).mono ?_); (case side1 => exact z10z6); (case side2 => exact z10z5); (case side3 => exact (Kd.R_reads' HO106.out).2.1); rintro e w21 ⟨g109, rfl, hi, hb, hb2⟩; refine ⟨_, rfl, ?_⟩; have n0_ := Aside0.mk (Kd.R_below y12_ hb2); have n1_ := Aside0.mk (Kd.R_below y15_ hb2); have n2_ := Aside0.mk (hb); have n3_ := Aside0.mk (hi); replace HO103 := n0_; replace HO106 := n1_; replace HB := n2_; have HI109 := n3_; clear n0_ n1_ n2_ n3_; clear hb hb2 hi) | ((with_reducible refine gate_callee (f := 17) rfl ?_); refine goesL_ (some 10) rfl rfl Tryd.func17 (by kernel_rfl) rfl #[.pointer (some ⟨g109, 0, none⟩)] rfl y2_ ?_; (with_reducible refine (props_Take.calls k g109 t107 t108 t110 true t114 t115 w _ ?side1 ?side2 ?side3 A3.out).mono ?_); (case side1 => exact z10z1); (case side2 => exact z10z0); (case side3 => exact HG.out); rintro e w22 ⟨v111, rfl, ho0, hi, hb, hk⟩; refine ⟨_, rfl, ?_⟩; have n0_ := Aside0.mk (Kd.R_mono (Kd.R_told (Kd.R_oldK (IsS78.apart (show IsS78 w _ g109 t107 t108 from by repeat (first | (with_reducible first | exact HI109.out | apply IsS78.alloc | apply IsS78.drewN | apply IsS78.drew | apply IsS78.set_0 | apply IsS78.set_1) | exact HI109.out)) y12_ (by decide)) hk) (Kd.R_base ho0)) (fun _ h_ => h_.1)); have n1_ := Aside0.mk (Kd.R_mono (Kd.R_keep (IsS78.apart (show IsS78 w _ g109 t107 t108 from by repeat (first | (with_reducible first | exact HI109.out | apply IsS78.alloc | apply IsS78.drewN | apply IsS78.drew | apply IsS78.set_0 | apply IsS78.set_1) | exact HI109.out)) y15_ (by decide)) hk (fun _ h => h.2)) (fun _ h => h.1)); have n2_ := Aside0.mk (Kd.R_lower (Kd.R_new' ho0 (Kd.R_lt y12_)) (below_size z10z0)); have n3_ := Aside0.mk (hb); have n4_ := Aside0.mk (hi); replace HO103 := n0_; replace HO106 := n1_; have HO112 := n2_; replace HB := n3_; replace HI109 := n4_; clear n0_ n1_ n2_ n3_ n4_; clear hb hk hi ho0; have hcv23 := own_string (P := Tryd.prog) Tryd.underlying25 Tryd.underlying5 Tryd.underlying9 (Kd.own_of_R HO106.out); obtain ⟨Ao24, co24, eo24⟩ := Kd.R_slice HO112.out; subst eo24; have p116 : 0 ≤ (0 : Int) := (by omega); have q116 : 0 < (t110.length : Int) := of_decide_eq_true y5_; obtain ⟨ad116, e116, hx116_0, hx116_1, hx116_2, hx116_3⟩ := at_T60 (Kd.R_reads' HO112.out).2.2 0 p116 q116; cases e116; have qi116 : (0 < t110.length) = True := eq_true (by omega); (try rw [show ((0 : Int)).toNat = 0 from rfl] at hx116_0); (try rw [show 0 * 4 = 0 from rfl] at hx116_0); (try rw [Addr.add_zero'] at hx116_0); (try rw [show ((0 : Int)).toNat = 0 from rfl] at hx116_1); (try rw [show 0 * 4 = 0 from rfl] at hx116_1); (try rw [Addr.add_zero'] at hx116_1); (try rw [show ((0 : Int)).toNat = 0 from rfl] at hx116_2); (try rw [show 0 * 4 = 0 from rfl] at hx116_2); (try rw [Addr.add_zero'] at hx116_2); (try rw [show ((0 : Int)).toNat = 0 from rfl] at hx116_3); (try rw [show 0 * 4 = 0 from rfl] at hx116_3); (try rw [Addr.add_zero'] at hx116_3); replace p116 := eq_true p116; replace q116 := eq_true q116) | (go_at_call 14; (with_reducible refine (props_Size.calls k _ _ t110 t117 _ ?side1 ?side2 ?side3 A9.out).mono ?_); (case side1 => exact z10z2); (case side2 => exact z10z8); (case side3 => exact z10z7); rintro e w25 ⟨rfl, hb⟩; have n0_ := Aside0.mk (Kd.R_below y12_ hb); have n1_ := Aside0.mk (Kd.R_below y15_ hb); have n2_ := Aside0.mk (Kd.R_below y22_ hb); have n3_ := Aside0.mk (IsS78.below z10z1 hb); have n4_ := Aside0.mk (below_step z10z0 hb); replace HO103 := n0_; replace HO106 := n1_; replace HO112 := n2_; replace HI109 := n3_; replace HB := n4_; clear n0_ n1_ n2_ n3_ n4_; clear hb) | (go_at_call 11; (refine (props_Put.calls k _ _ ([] : List Int) _ _ ([] : List (S60)) t118 _ ?side1 ?side2 ?side3 ?side4 ?side5 A11.out).mono ?_); (case side1 => exact Kd.C_nil _ _); (case side2 => exact Nat.le_refl _); (case side3 => exact Kd.C_nil _ _); (case side4 => exact Nat.le_refl _); (case side5 => exact z10z7); rintro e w26 ⟨v119, rfl, ho0, hb⟩; have n0_ := Aside0.mk (Kd.R_below y12_ hb); have n1_ := Aside0.mk (Kd.R_elder' y15_ (Kd.R_base ho0) hb); have n2_ := Aside0.mk (Kd.R_below y22_ hb); have n3_ := Aside0.mk (Kd.R_lower (Kd.R_new' ho0 (Kd.R_lt y15_)) (below_size z10z0)); have n4_ := Aside0.mk (IsS78.below z10z1 hb); have n5_ := Aside0.mk (below_step z10z0 hb); replace HO103 := n0_; replace HO106 := n1_; replace HO112 := n2_; have HO120 := n3_; replace HI109 := n4_; replace HB := n5_; clear n0_ n1_ n2_ n3_ n4_ n5_; clear hb ho0; have hcv27 := own_string (P := Tryd.prog) Tryd.underlying25 Tryd.underlying5 Tryd.underlying9 (Kd.own_of_R HO120.out)) | (go_at_call 30; (with_reducible refine (props_Check.calls k 1 _ _ t110 true _ ?side1 ?side2 ?side3 A13.out).mono ?_); (case side1 => exact z10z2); (case side2 => exact z10z8); (case side3 => exact z10z7); rintro e w28 ⟨rfl, hb⟩; have n0_ := Aside0.mk (Kd.R_below y12_ hb); have n1_ := Aside0.mk (Kd.R_below y15_ hb); have n2_ := Aside0.mk (Kd.R_below y22_ hb); have n3_ := Aside0.mk (Kd.R_below y20_ hb); have n4_ := Aside0.mk (IsS78.below z10z1 hb); have n5_ := Aside0.mk (below_step z10z0 hb); replace HO103 := n0_; replace HO106 := n1_; replace HO112 := n2_; replace HO120 := n3_; replace HI109 := n4_; replace HB := n5_; clear n0_ n1_ n2_ n3_ n4_ n5_; clear hb) | (go_at_call 30; (with_reducible refine (props_Check.calls k 3 _ _ t110 t122 _ ?side1 ?side2 ?side3 A15.out).mono ?_); (case side1 => exact z10z2); (case side2 => exact z10z8); (case side3 => exact z10z7); rintro e w29 ⟨rfl, hb⟩; have n0_ := Aside0.mk (Kd.R_below y12_ hb); have n1_ := Aside0.mk (Kd.R_below y15_ hb); have n2_ := Aside0.mk (Kd.R_below y22_ hb); have n3_ := Aside0.mk (Kd.R_below y20_ hb); have n4_ := Aside0.mk (IsS78.below z10z1 hb); have n5_ := Aside0.mk (below_step z10z0 hb); replace HO103 := n0_; replace HO106 := n1_; replace HO112 := n2_; replace HO120 := n3_; replace HI109 := n4_; replace HB := n5_; clear n0_ n1_ n2_ n3_ n4_ n5_; clear hb))
 go_ret
 exact ⟨y4_, z10z0⟩
def pouchlaw06_told.f (k : Nat) : Option Bool := if pouchlaw06_told.f0 k = some true then some true else none
theorem pouchlaw06_told.mono : ∀ k, LeO (pouchlaw06_told.f k) (pouchlaw06_told.f (k + 1)) := by
 intro k r h
 unfold pouchlaw06_told.f at h ⊢
 by_cases h1 : pouchlaw06_told.f0 k = some true
 rotate_left
 ·rw [if_neg h1] at h; cases h
 rw [if_pos h1] at h; rw [if_pos (pouchlaw06_told.mono0 k _ h1)]; exact h
theorem pouchlaw06_told.calls (k : Nat) (r : Bool) (w : World) (hG : GW w) (h : pouchlaw06_told.f k = some r) :
  Calls Tryd.prog 10 #[] w fun e w' => e = .returned (.bool r) ∧ Below w.heap.size w w' := by
 unfold pouchlaw06_told.f at h
 by_cases h1 : pouchlaw06_told.f0 k = some true
 rotate_left
 ·rw [if_neg h1] at h; cases h
 rw [if_pos h1] at h
 obtain rfl := Option.some.inj h
 exact pouchlaw06_told.calls0 k true rfl w hG h1
def pouchlaw05_To.f (a0_0 : Int) (a0_1 : Int) (a0_2 : ByteArray) (a0_3 : ByteArray) : Option (Int × Int × ByteArray × ByteArray) := some (a0_0, a0_1, a0_2, a0_3)
theorem pouchlaw05_To.calls (a0_0 : Int) (a0_1 : Int) (a0_2 : ByteArray) (a0_3 : ByteArray) (r1 : Int) (r2 : Int) (r3 : ByteArray) (r4 : ByteArray) (w : World) (h : pouchlaw05_To.f a0_0 a0_1 a0_2 a0_3 = some (r1, r2, r3, r4)) :
    Calls Tryd.prog 37 #[.agg #[.int .u8 a0_0, .int .u32 a0_1, .string a0_2, .string a0_3]] w fun e w' => e = .returned (.agg #[.int .u8 r1, .int .u32 r2, .string r3, .string r4]) ∧ Below w.heap.size w w' := by
  have hu58 := Tryd.underlying58
  have hu60 := Tryd.underlying60
  have HB := Aside0.mk (Below.refl w.heap.size w)
  have H : (some (a0_0, a0_1, a0_2, a0_3)) = some (r1, r2, r3, r4) := h
  clear h
  simp only [Option.some.injEq, Prod.mk.injEq] at H
  obtain ⟨rfl, rfl, rfl, rfl⟩ := H
  go_enter Tryd.func37, Tryd.ntmps37
  go_wp2_with (first | ((with_reducible refine gate_dst (N := 1) rfl ?_); refine box_event ?hg (N := 1) ?hd (cs := #[.int .u8 a0_0, .int .u32 a0_1, .string a0_2, .string a0_3]) (t := 58) ?hr ?_; (case hd => rfl); (case hg => rfl); (case hr => first | (go_simp; done) | (go_simp; rfl)); intro gb101 hg w2 hbox hb; have n0_ := Aside0.mk (below_step y0_ hb); have n1_ := Aside0.mk (hbox); have n2_ := Aside0.mk ((by rw [hg]; exact (below_size y0_) : w.heap.size ≤ gb101)); have n3_ := Aside0.mk ((by rw [hg]; exact (below_size y0_) : w.heap.size ≤ gb101)); clear HB; have HB := n0_; have BK101 := n1_; have GW101 := n2_; have GE101 := n3_; clear n0_ n1_ n2_ n3_; clear hb hbox hg) | ((with_reducible refine gate_dst (N := 2) rfl ?_); refine box_event ?hg (N := 2) ?hd (cs := #[.int .u8 0, .int .u32 0, .string (⟨#[]⟩ : ByteArray), .string (⟨#[]⟩ : ByteArray)]) (t := 60) ?hr ?_; (case hd => rfl); (case hg => rfl); (case hr => first | (go_simp; done) | (go_simp; rfl)); intro gb102 hg w3 hbox hb; have n0_ := Aside0.mk (blk_below (g := gb101) (o := .cells #[.int .u8 a0_0, .int .u32 a0_1, .string a0_2, .string a0_3] 58 (0, 0)) y3_ hb); have n1_ := Aside0.mk (below_step y1_ hb); have n2_ := Aside0.mk (hbox); have n3_ := Aside0.mk ((by rw [hg]; exact (below_size y1_) : w.heap.size ≤ gb102)); have n4_ := Aside0.mk ((by rw [hg]; exact (below_size y1_) : w.heap.size ≤ gb102)); have n5_ := Aside0.mk ((by rw [hg]; exact Nat.ne_of_lt (blk_lt (g := gb101) (o := .cells #[.int .u8 a0_0, .int .u32 a0_1, .string a0_2, .string a0_3] 58 (0, 0)) y3_) : gb101 ≠ gb102)); have n6_ := Aside0.mk ((by rw [hg]; exact Nat.ne_of_gt (blk_lt (g := gb101) (o := .cells #[.int .u8 a0_0, .int .u32 a0_1, .string a0_2, .string a0_3] 58 (0, 0)) y3_) : gb102 ≠ gb101)); clear BK101; clear HB; have BK101 := n0_; have HB := n1_; have BK102 := n2_; have GW102 := n3_; have GE102 := n4_; have NB101_102 := n5_; have NB102_101 := n6_; clear n0_ n1_ n2_ n3_ n4_ n5_ n6_; clear hb hbox hg; have hnb4 := NB101_102.out; have hnc4 := NB102_101.out; have hcz5_0 : w3.cell? ⟨gb101, 0, none⟩ = some (.int .u8 a0_0) := (blk_cell BK101.out 0).trans rfl; have hcz5_1 : w3.cell? ⟨gb101, 1, none⟩ = some (.int .u32 a0_1) := (blk_cell BK101.out 1).trans rfl; have hcz5_2 : w3.cell? ⟨gb101, 2, none⟩ = some (.string a0_2) := (blk_cell BK101.out 2).trans rfl; have hcz5_3 : w3.cell? ⟨gb101, 3, none⟩ = some (.string a0_3) := (blk_cell BK101.out 3).trans rfl; have hfz5_0 := blk_frozen BK101.out 0; have hfz5_1 := blk_frozen BK101.out 1; have hfz5_2 := blk_frozen BK101.out 2; have hfz5_3 := blk_frozen BK101.out 3; have hcz6_0 : w3.cell? ⟨gb102, 0, none⟩ = some (.int .u8 0) := (blk_cell BK102.out 0).trans rfl; have hcz6_1 : w3.cell? ⟨gb102, 1, none⟩ = some (.int .u32 0) := (blk_cell BK102.out 1).trans rfl; have hcz6_2 : w3.cell? ⟨gb102, 2, none⟩ = some (.string (⟨#[]⟩ : ByteArray)) := (blk_cell BK102.out 2).trans rfl; have hcz6_3 : w3.cell? ⟨gb102, 3, none⟩ = some (.string (⟨#[]⟩ : ByteArray)) := (blk_cell BK102.out 3).trans rfl; have hfz6_0 := blk_frozen BK102.out 0; have hfz6_1 := blk_frozen BK102.out 1; have hfz6_2 := blk_frozen BK102.out 2; have hfz6_3 := blk_frozen BK102.out 3))
  refine bodyPost_ret (results_cell_row rfl _ _ gb102 60 #[.int .u8 a0_0, .int .u32 a0_1, .string a0_2, .string a0_3] (0, 0) _ rfl (by (with_reducible repeat (first | refine blk_drewN ?_ _ | refine blk_drew ?_ | refine blk_alloc ?_ _)); refine blk_put (cs := #[.int .u8 a0_0, .int .u32 a0_1, .string a0_2, .string (⟨#[]⟩ : ByteArray)]) ?_ 3 _ rfl; (with_reducible repeat (first | refine blk_drewN ?_ _ | refine blk_drew ?_ | refine blk_alloc ?_ _)); refine blk_put (cs := #[.int .u8 a0_0, .int .u32 a0_1, .string (⟨#[]⟩ : ByteArray), .string (⟨#[]⟩ : ByteArray)]) ?_ 2 _ rfl; (with_reducible repeat (first | refine blk_drewN ?_ _ | refine blk_drew ?_ | refine blk_alloc ?_ _)); refine blk_put (cs := #[.int .u8 a0_0, .int .u32 0, .string (⟨#[]⟩ : ByteArray), .string (⟨#[]⟩ : ByteArray)]) ?_ 1 _ rfl; (with_reducible repeat (first | refine blk_drewN ?_ _ | refine blk_drew ?_ | refine blk_alloc ?_ _)); refine blk_put (cs := #[.int .u8 0, .int .u32 0, .string (⟨#[]⟩ : ByteArray), .string (⟨#[]⟩ : ByteArray)]) ?_ 0 _ rfl; (with_reducible repeat (first | refine blk_drewN ?_ _ | refine blk_drew ?_ | refine blk_alloc ?_ _)); exact BK102.out) Tryd.underlying60 rfl (by kernel_rfl)) rfl ?_
  exact ⟨y4_, y8_⟩
def pouchlaw06_To.l0 : Nat → List (S58) → List (S60) → Int → Option ((List (S60)))
  | 0, _, _, _ => none
  | k + 1, x0, x3, x4 => if x4 < (x0.length : Int) then (if 0 ≤ x4 then ((pouchlaw05_To.f ((rd_T58 x0 x4).f0) ((rd_T58 x0 x4).f1) ((rd_T58 x0 x4).f2) ((rd_T58 x0 x4).f3)).bind fun bt102 => (if x3.length < 3518437208883 then (pouchlaw06_To.l0 k x0 (x3 ++ [(⟨bt102.1, bt102.2.1, bt102.2.2.1, bt102.2.2.2⟩ : S60)]) (wrap64 (x4 + 1))) else (none))) else (none)) else (some x3)
def pouchlaw06_To.f (k : Nat) (l0 : List (S58)) : Option ((List (S60))) := pouchlaw06_To.l0 k l0 ([] : List (S60)) 0
theorem z12m0 {p : Prop} (h : p := by
 repeat' first
 | (with_reducible exact ih0 _ _ _)
 | (with_reducible exact LeO.refl _)
 | (with_reducible exact LeO.none _)
 | (with_reducible refine LeO.ite ?_ ?_)
 | (with_reducible refine LeO.bind ?_ (fun _ => ?_))
 | exact ih0 _ _ _
 | exact LeO.none _
 | refine LeO.ite ?_ ?_
 | refine LeO.bind ?_ (fun _ => ?_)) : p := h
theorem pouchlaw06_To.mono_l : ∀ k, (∀ y0 y1 y2, LeO (pouchlaw06_To.l0 k y0 y1 y2) (pouchlaw06_To.l0 (k + 1) y0 y1 y2))
  | 0 => fun _ _ _ r h => by simp [pouchlaw06_To.l0] at h
  | k + 1 => by
    have ih0 := pouchlaw06_To.mono_l k
    · intro y0 y1 y2
      unfold pouchlaw06_To.l0
      exact z12m0
theorem pouchlaw06_To.mono : ∀ a0 k, LeO (pouchlaw06_To.f k a0) (pouchlaw06_To.f (k + 1) a0) := by
  intro a0 k
  have ih0 := pouchlaw06_To.mono_l k
  unfold pouchlaw06_To.f
  exact z12m0
theorem pouchlaw06_To.calls (k : Nat) (A0 : Option Addr) (c0 : Nat) (l0 : List (S58)) (r : List (S60)) (w : World) (hr0 : Kd.C k58 w A0 l0.length l0) (hc0 : l0.length ≤ c0) (h : pouchlaw06_To.f k l0 = some r) :
    Calls Tryd.prog 12 #[.slice A0 l0.length c0] w fun e w' => ∃ v0_ : Value, e = .returned (v0_) ∧ Kd.R k60 60 w' w.heap.size (fun _ => True) v0_ r ∧ Below w.heap.size w w' := by
  have hu58 := Tryd.underlying58
  have HR0 := Aside0.mk hr0
  have HC0 := Aside0.mk hc0
  clear hr0 hc0
  have HB := Aside0.mk (Below.refl w.heap.size w)
  have H : (pouchlaw06_To.l0 k l0 ([] : List (S60)) 0) = some r := h
  clear h
  have H' := Aside0.mk H
  clear H
  go_enter Tryd.func12, Tryd.ntmps12
  go_wp2
  go_loopg [3, 4] k (fun kq v3 v4 w' => ∃ (x3_1 : List (S60)) (x4_1 : Int), v4 = .int .i64 x4_1 ∧ Aside0 (pouchlaw06_To.l0 kq l0 x3_1 x4_1 = some r) ∧ Aside0 (kq ≤ k) ∧ Aside0 (Kd.R k60 60 w' w.heap.size (fun _ => True) v3 x3_1) ∧ Aside0 (Below w.heap.size w w'))
  case atStart => exact ⟨(([] : List (S60))), (0), y7_, H', ⟨Nat.le_refl _⟩, ⟨y21_⟩, ⟨y0_⟩⟩
  case round =>
    clear H'
    try clear c1
    obtain ⟨x3_1, x4_1, rfl, HA, HK1, HO_3, HB⟩ := hrel
    cases gk with
    | zero => exact absurd HA.out (by simp [pouchlaw06_To.l0])
    | succ k1 =>
      have H := HA.out
      clear HA
      simp only [pouchlaw06_To.l0] at H
      by_cases c2 : x4_1 < (l0.length : Int)
      · rw [if_pos c2] at H
        have c2b0 := decide_eq_true c2
        clear c2
        by_cases c3 : 0 ≤ x4_1
        · rw [if_pos c3] at H
          have c3b0 := decide_eq_true c3
          clear c3
          replace H := Option.bind_eq_some_iff.mp H
          obtain ⟨⟨t102, t103, t104, t105⟩, A40, H⟩ := H
          replace H : (if x3_1.length < 3518437208883 then (pouchlaw06_To.l0 k1 l0 (x3_1 ++ [(⟨t102, t103, t104, t105⟩ : S60)]) (wrap64 (x4_1 + 1))) else (none)) = some r := H
          have A4 := Aside0.mk A40
          clear A40
          by_cases c5 : x3_1.length < 3518437208883
          · rw [if_pos c5] at H
            have LMc5 := Aside0.mk c5
            clear c5
            obtain ⟨y106, hy106⟩ : ∃ y_ : List (S60), y_ = (x3_1 ++ [(⟨t102, t103, t104, t105⟩ : S60)]) := ⟨_, rfl⟩
            replace H : (pouchlaw06_To.l0 k1 l0 y106 (wrap64 (x4_1 + 1))) = some r := by first | (rw [hy106]; with_reducible exact H) | (have H2_ := (Option.bind_some _ _).symm.trans H; rw [hy106]; with_reducible exact H2_) | (have H2_ := (Option.bind_some _ _).symm.trans H; with_reducible exact H2_) | with_reducible exact H | (rw [hy106]; exact H) | exact H
            have Ny106 := Aside0.mk hy106
            clear hy106
            have H' := Aside0.mk H
            clear H
            have p101 : 0 ≤ (x4_1 : Int) := of_decide_eq_true y5_
            have q101 : x4_1 < (l0.length : Int) := of_decide_eq_true y5_
            obtain ⟨ad101, e101, hx101_0, hx101_1, hx101_2, hx101_3⟩ := at_T58 HR0.out x4_1 p101 q101
            cases e101
            replace hx101_0 := (HB.out.cell (World.block_lt_of_cell? w _ hx101_0)).trans hx101_0
            replace hx101_1 := (HB.out.cell (World.block_lt_of_cell? w _ hx101_1)).trans hx101_1
            replace hx101_2 := (HB.out.cell (World.block_lt_of_cell? w _ hx101_2)).trans hx101_2
            replace hx101_3 := (HB.out.cell (World.block_lt_of_cell? w _ hx101_3)).trans hx101_3
            replace p101 := eq_true p101
            replace q101 := eq_true q101
            go_wp2_with (first | ((with_reducible refine gate_callee (f := 37) rfl ?_); refine goesL_ (some 16) rfl rfl Tryd.func37 (by kernel_rfl) rfl #[.agg #[.int .u8 ((rd_T58 l0 x4_1).f0), .int .u32 ((rd_T58 l0 x4_1).f1), .string ((rd_T58 l0 x4_1).f2), .string ((rd_T58 l0 x4_1).f3)]] rfl y2_ ?_; (with_reducible refine (pouchlaw05_To.calls ((rd_T58 l0 x4_1).f0) ((rd_T58 l0 x4_1).f1) ((rd_T58 l0 x4_1).f2) ((rd_T58 l0 x4_1).f3) t102 t103 t104 t105 _ A4.out).mono ?_); rintro e w6 ⟨rfl, hb⟩; refine ⟨_, rfl, ?_⟩; have n0_ := Aside0.mk (Kd.R_below y23_ hb); have n1_ := Aside0.mk (below_step y0_ hb); clear HO_3; clear HB; have HO_3 := n0_; have HB := n1_; clear n0_ n1_; (try clear hb); (try clear hb2); (try clear hk); (try clear hi)) | ((with_reducible refine gate_builtin (b := .append) (xs := #[.tmp 11, .tmp 17]) rfl ?_); at_builtin; refine Kd.R_append k60 (w0 := w) w.heap.size rfl (.tmp 11) (.tmp 17) 27 60 (.agg #[(.int .u8 0), (.int .u32 0), (.string ⟨#[]⟩), (.string ⟨#[]⟩)]) 40 rfl Tryd.underlying27 info60 rfl (by decide) (by omega) u3 x3_1 (⟨t102, t103, t104, t105⟩ : S60) [.int .u8 t102, .int .u32 t103, .string t104, .string t105] (fun _ => True) (fun _ => False) rfl rfl ?aP (fun _ hk => hk.elim) ?aF ?aO ?aB ?aS ?aL ?_; (case aP => exact k60_mkM _ _ _ (⟨t102, t103, t104, t105⟩ : S60)); (case aB => exact y0_); (case aF => exact (fun _ _ => trivial)); (case aO => exact y23_); (case aS => exact (below_size y0_)); (case aL => have := LMc5.out; omega); intro v107 w7 ho hb hg hat; rw [← Ny106.out] at ho; have n0_ := Aside0.mk (hb); have n1_ := Aside0.mk (ho); clear HB; clear HO_3; have HB := n0_; have HO108 := n1_; clear n0_ n1_; clear ho hb hg hat))
            go_roundg k1
            case measure => have := HK1.out; omega
            case rel => exact ⟨(y106), (wrap64 (x4_1 + 1)), y7_, H', ⟨y25_⟩, ⟨by (with_reducible repeat (first | apply Kd.R_alloc | apply Kd.R_drewN | apply Kd.R_drew)); exact HO108.out⟩, ⟨y0_⟩⟩
          · rw [if_neg c5] at H
            exact absurd H (by simp)
        · rw [if_neg c3] at H
          exact absurd H (by simp)
      · rw [if_neg c2] at H
        have c2b0 := decide_eq_false c2
        clear c2
        obtain rfl := Option.some.inj H
        go_wp2
        go_ret
        exact ⟨_, y4_, y23_, y0_⟩
end Go.Proofs.YtkmkgpigmldhnaaDoor.P
namespace Go.Proofs.YtkmkgpigmldhnaaDoor.P
open Go.RowKit Go.Proofs.YtkmkgpigmldhnaaDoorW.PrintWords Go.Proofs.YtkmkgpigmldhnaaDoorW.PrintLast Go.Proofs.YtkmkgpigmldhnaaDoorW.PrintMore
attribute [local go_sem] max2_int min2_int max_two min_two max_three min_three max_four min_four
attribute [local go_sem high] eqA58
def pouchref06_Same.l0 : Nat → List (S58) → List (S58) → Int → Option (Bool)
  | 0, _, _, _ => none
  | k + 1, x0, x1, x5 => if x5 < (x0.length : Int) then (if 0 ≤ x5 then (if x5 < (x1.length : Int) then (if (!(((rd_T58 x0 x5).f0) == ((rd_T58 x1 x5).f0)) || (!(((rd_T58 x0 x5).f1) == ((rd_T58 x1 x5).f1)) || (!((((rd_T58 x0 x5).f2).toList) == (((rd_T58 x1 x5).f2).toList)) || (!((((rd_T58 x0 x5).f3).toList) == (((rd_T58 x1 x5).f3).toList)))))) = true then (some false) else (pouchref06_Same.l0 k x0 x1 (wrap64 (x5 + 1)))) else (none)) else (none)) else (some true)
def pouchref06_Same.f (k : Nat) (l0 : List (S58)) (l1 : List (S58)) : Option (Bool) := if (l0.length : Int) = (l1.length : Int) then (pouchref06_Same.l0 k l0 l1 0) else (some false)
theorem z18m0 {p : Prop} (h : p := by
 repeat' first
 | (with_reducible exact ih0 _ _ _)
 | (with_reducible exact LeO.refl _)
 | (with_reducible exact LeO.none _)
 | (with_reducible refine LeO.ite ?_ ?_)
 | (with_reducible refine LeO.bind ?_ (fun _ => ?_))
 | exact ih0 _ _ _
 | exact LeO.none _
 | refine LeO.ite ?_ ?_
 | refine LeO.bind ?_ (fun _ => ?_)) : p := h
theorem pouchref06_Same.mono_l : ∀ k, (∀ y0 y1 y2, LeO (pouchref06_Same.l0 k y0 y1 y2) (pouchref06_Same.l0 (k + 1) y0 y1 y2))
  | 0 => fun _ _ _ r h => by simp [pouchref06_Same.l0] at h
  | k + 1 => by
    have ih0 := pouchref06_Same.mono_l k
    · intro y0 y1 y2
      unfold pouchref06_Same.l0
      exact z18m0
theorem pouchref06_Same.mono : ∀ a0 a1 k, LeO (pouchref06_Same.f k a0 a1) (pouchref06_Same.f (k + 1) a0 a1) := by
  intro a0 a1 k
  have ih0 := pouchref06_Same.mono_l k
  unfold pouchref06_Same.f
  exact z18m0
theorem pouchref06_Same.calls (k : Nat) (A0 : Option Addr) (c0 : Nat) (l0 : List (S58)) (A1 : Option Addr) (c1 : Nat) (l1 : List (S58)) (r : Bool) (w : World) (hr0 : Kd.C k58 w A0 l0.length l0) (hc0 : l0.length ≤ c0) (hr1 : Kd.C k58 w A1 l1.length l1) (hc1 : l1.length ≤ c1) (h : pouchref06_Same.f k l0 l1 = some r) :
    Calls Tryd.prog 18 #[.slice A0 l0.length c0, .slice A1 l1.length c1] w fun e w' => e = .returned (.bool r) ∧ Drawn0 w w' := by
  have hu58 := Tryd.underlying58
  have HR0 := Aside0.mk hr0
  have HC0 := Aside0.mk hc0
  clear hr0 hc0
  have HR1 := Aside0.mk hr1
  have HC1 := Aside0.mk hc1
  clear hr1 hc1
  have H : (if (l0.length : Int) = (l1.length : Int) then (pouchref06_Same.l0 k l0 l1 0) else (some false)) = some r := h
  clear h
  by_cases c3 : (l0.length : Int) = (l1.length : Int)
  · rw [if_pos c3] at H
    obtain ⟨c3b0, c3b1⟩ := eqt_ c3
    have c3b2 : (l0.length == l1.length) = true := by first | simpa using c3 | (simp at c3 ⊢; omega)
    clear c3
    have H' := Aside0.mk H
    clear H
    go_enter Tryd.func18, Tryd.ntmps18
    go_wp2
    repeat (go_quiet (fail); try go_wp2)
    go_loopg [5] k (fun kq v5 w' => ∃ (x5_1 : Int), v5 = .int .i64 x5_1 ∧ Aside0 (pouchref06_Same.l0 kq l0 l1 x5_1 = some r) ∧ Aside0 (kq ≤ k) ∧ Drawn0 w w')
    case atStart => exact ⟨(0), y7_, H', ⟨Nat.le_refl _⟩, y10_⟩
    case round =>
      clear H'
      try clear c1
      try clear p2
      try clear c3
      try clear c3b0
      try clear c3b1
      try clear c3b2
      obtain ⟨x5_1, rfl, HA, HK1, ⟨m1, rfl⟩⟩ := hrel
      cases gk with
      | zero => exact absurd HA.out (by simp [pouchref06_Same.l0])
      | succ k1 =>
        have H := HA.out
        clear HA
        simp only [pouchref06_Same.l0] at H
        by_cases c4 : x5_1 < (l0.length : Int)
        · rw [if_pos c4] at H
          have c4b0 := decide_eq_true c4
          clear c4
          by_cases c5 : 0 ≤ x5_1
          · rw [if_pos c5] at H
            have c5b0 := decide_eq_true c5
            clear c5
            by_cases c6 : x5_1 < (l1.length : Int)
            · rw [if_pos c6] at H
              have c6b0 := decide_eq_true c6
              clear c6
              by_cases c7 : (!(((rd_T58 l0 x5_1).f0) == ((rd_T58 l1 x5_1).f0)) || (!(((rd_T58 l0 x5_1).f1) == ((rd_T58 l1 x5_1).f1)) || (!((((rd_T58 l0 x5_1).f2).toList) == (((rd_T58 l1 x5_1).f2).toList)) || (!((((rd_T58 l0 x5_1).f3).toList) == (((rd_T58 l1 x5_1).f3).toList)))))) = true
              · rw [if_pos c7] at H
                have c7b0 : (!(((rd_T58 l0 x5_1).f0) == ((rd_T58 l1 x5_1).f0)) || (!(((rd_T58 l0 x5_1).f1) == ((rd_T58 l1 x5_1).f1)) || (!((((rd_T58 l0 x5_1).f2).toList) == (((rd_T58 l1 x5_1).f2).toList)) || (!((((rd_T58 l0 x5_1).f3).toList) == (((rd_T58 l1 x5_1).f3).toList)))))) = true := c7
                clear c7
                obtain rfl := Option.some.inj H
                have p101 : 0 ≤ (x5_1 : Int) := of_decide_eq_true y5_
                have q101 : x5_1 < (l0.length : Int) := of_decide_eq_true y5_
                obtain ⟨ad101, e101, hx101_0, hx101_1, hx101_2, hx101_3⟩ := at_T58 HR0.out x5_1 p101 q101
                cases e101
                replace p101 := eq_true p101
                replace q101 := eq_true q101
                have p102 : 0 ≤ (x5_1 : Int) := of_decide_eq_true y5_
                have q102 : x5_1 < (l1.length : Int) := of_decide_eq_true y5_
                obtain ⟨ad102, e102, hx102_0, hx102_1, hx102_2, hx102_3⟩ := at_T58 HR1.out x5_1 p102 q102
                cases e102
                replace p102 := eq_true p102
                replace q102 := eq_true q102
                go_wp2
                repeat (go_quiet (fail); try go_wp2)
                go_ret
                exact ⟨y7_, y10_⟩
              · rw [if_neg c7] at H
                have c7b0 : (!(((rd_T58 l0 x5_1).f0) == ((rd_T58 l1 x5_1).f0)) || (!(((rd_T58 l0 x5_1).f1) == ((rd_T58 l1 x5_1).f1)) || (!((((rd_T58 l0 x5_1).f2).toList) == (((rd_T58 l1 x5_1).f2).toList)) || (!((((rd_T58 l0 x5_1).f3).toList) == (((rd_T58 l1 x5_1).f3).toList)))))) = false := by simpa using c7
                clear c7
                have H' := Aside0.mk H
                clear H
                have p101 : 0 ≤ (x5_1 : Int) := of_decide_eq_true y5_
                have q101 : x5_1 < (l0.length : Int) := of_decide_eq_true y5_
                obtain ⟨ad101, e101, hx101_0, hx101_1, hx101_2, hx101_3⟩ := at_T58 HR0.out x5_1 p101 q101
                cases e101
                replace p101 := eq_true p101
                replace q101 := eq_true q101
                have p102 : 0 ≤ (x5_1 : Int) := of_decide_eq_true y5_
                have q102 : x5_1 < (l1.length : Int) := of_decide_eq_true y5_
                obtain ⟨ad102, e102, hx102_0, hx102_1, hx102_2, hx102_3⟩ := at_T58 HR1.out x5_1 p102 q102
                cases e102
                replace p102 := eq_true p102
                replace q102 := eq_true q102
                go_wp2
                repeat (go_quiet (fail); try go_wp2)
                go_roundg k1
                case measure => have := HK1.out; omega
                case rel => exact ⟨(wrap64 (x5_1 + 1)), y7_, H', ⟨y25_⟩, y10_⟩
            · rw [if_neg c6] at H
              exact absurd H (by simp)
          · rw [if_neg c5] at H
            exact absurd H (by simp)
        · rw [if_neg c4] at H
          have c4b0 := decide_eq_false c4
          clear c4
          obtain rfl := Option.some.inj H
          go_wp2
          repeat (go_quiet (fail); try go_wp2)
          go_ret
          exact ⟨y7_, y10_⟩
  · rw [if_neg c3] at H
    obtain ⟨c3b0, c3b1⟩ := eqf_ c3
    have c3b2 : (l0.length == l1.length) = false := by first | simpa using c3 | (simp at c3 ⊢; omega)
    obtain rfl := Option.some.inj H
    go_enter Tryd.func18, Tryd.ntmps18
    go_wp2
    repeat (go_quiet (fail); try go_wp2)
    go_ret
    exact ⟨y7_, y10_⟩
end Go.Proofs.YtkmkgpigmldhnaaDoor.P
namespace Go.Proofs.YtkmkgpigmldhnaaDoor.P
open Go.RowKit Go.Proofs.YtkmkgpigmldhnaaDoorW.PrintWords Go.Proofs.YtkmkgpigmldhnaaDoorW.PrintLast Go.Proofs.YtkmkgpigmldhnaaDoorW.PrintMore
attribute [local go_sem] max2_int min2_int max_two min_two max_three min_three max_four min_four
def pouchlaw05_From.f (a0_0 : Int) (a0_1 : Int) (a0_2 : ByteArray) (a0_3 : ByteArray) : Option (Int × Int × ByteArray × ByteArray) := some (a0_0, a0_1, a0_2, a0_3)
theorem pouchlaw05_From.calls (a0_0 : Int) (a0_1 : Int) (a0_2 : ByteArray) (a0_3 : ByteArray) (r1 : Int) (r2 : Int) (r3 : ByteArray) (r4 : ByteArray) (w : World) (h : pouchlaw05_From.f a0_0 a0_1 a0_2 a0_3 = some (r1, r2, r3, r4)) :
    Calls Tryd.prog 32 #[.agg #[.int .u8 a0_0, .int .u32 a0_1, .string a0_2, .string a0_3]] w fun e w' => e = .returned (.agg #[.int .u8 r1, .int .u32 r2, .string r3, .string r4]) ∧ Below w.heap.size w w' := by
  have hu60 := Tryd.underlying60
  have hu58 := Tryd.underlying58
  have HB := Aside0.mk (Below.refl w.heap.size w)
  have H : (some (a0_0, a0_1, a0_2, a0_3)) = some (r1, r2, r3, r4) := h
  clear h
  simp only [Option.some.injEq, Prod.mk.injEq] at H
  obtain ⟨rfl, rfl, rfl, rfl⟩ := H
  go_enter Tryd.func32, Tryd.ntmps32
  go_wp2_with (first | ((with_reducible refine gate_dst (N := 1) rfl ?_); refine box_event ?hg (N := 1) ?hd (cs := #[.int .u8 a0_0, .int .u32 a0_1, .string a0_2, .string a0_3]) (t := 60) ?hr ?_; (case hd => rfl); (case hg => rfl); (case hr => first | (go_simp; done) | (go_simp; rfl)); intro gb101 hg w2 hbox hb; have n0_ := Aside0.mk (below_step y0_ hb); have n1_ := Aside0.mk (hbox); have n2_ := Aside0.mk ((by rw [hg]; exact (below_size y0_) : w.heap.size ≤ gb101)); have n3_ := Aside0.mk ((by rw [hg]; exact (below_size y0_) : w.heap.size ≤ gb101)); clear HB; have HB := n0_; have BK101 := n1_; have GW101 := n2_; have GE101 := n3_; clear n0_ n1_ n2_ n3_; clear hb hbox hg) | ((with_reducible refine gate_dst (N := 2) rfl ?_); refine box_event ?hg (N := 2) ?hd (cs := #[.int .u8 0, .int .u32 0, .string (⟨#[]⟩ : ByteArray), .string (⟨#[]⟩ : ByteArray)]) (t := 58) ?hr ?_; (case hd => rfl); (case hg => rfl); (case hr => first | (go_simp; done) | (go_simp; rfl)); intro gb102 hg w3 hbox hb; have n0_ := Aside0.mk (blk_below (g := gb101) (o := .cells #[.int .u8 a0_0, .int .u32 a0_1, .string a0_2, .string a0_3] 60 (0, 0)) y3_ hb); have n1_ := Aside0.mk (below_step y1_ hb); have n2_ := Aside0.mk (hbox); have n3_ := Aside0.mk ((by rw [hg]; exact (below_size y1_) : w.heap.size ≤ gb102)); have n4_ := Aside0.mk ((by rw [hg]; exact (below_size y1_) : w.heap.size ≤ gb102)); have n5_ := Aside0.mk ((by rw [hg]; exact Nat.ne_of_lt (blk_lt (g := gb101) (o := .cells #[.int .u8 a0_0, .int .u32 a0_1, .string a0_2, .string a0_3] 60 (0, 0)) y3_) : gb101 ≠ gb102)); have n6_ := Aside0.mk ((by rw [hg]; exact Nat.ne_of_gt (blk_lt (g := gb101) (o := .cells #[.int .u8 a0_0, .int .u32 a0_1, .string a0_2, .string a0_3] 60 (0, 0)) y3_) : gb102 ≠ gb101)); clear BK101; clear HB; have BK101 := n0_; have HB := n1_; have BK102 := n2_; have GW102 := n3_; have GE102 := n4_; have NB101_102 := n5_; have NB102_101 := n6_; clear n0_ n1_ n2_ n3_ n4_ n5_ n6_; clear hb hbox hg; have hnb4 := NB101_102.out; have hnc4 := NB102_101.out; have hcz5_0 : w3.cell? ⟨gb101, 0, none⟩ = some (.int .u8 a0_0) := (blk_cell BK101.out 0).trans rfl; have hcz5_1 : w3.cell? ⟨gb101, 1, none⟩ = some (.int .u32 a0_1) := (blk_cell BK101.out 1).trans rfl; have hcz5_2 : w3.cell? ⟨gb101, 2, none⟩ = some (.string a0_2) := (blk_cell BK101.out 2).trans rfl; have hcz5_3 : w3.cell? ⟨gb101, 3, none⟩ = some (.string a0_3) := (blk_cell BK101.out 3).trans rfl; have hfz5_0 := blk_frozen BK101.out 0; have hfz5_1 := blk_frozen BK101.out 1; have hfz5_2 := blk_frozen BK101.out 2; have hfz5_3 := blk_frozen BK101.out 3; have hcz6_0 : w3.cell? ⟨gb102, 0, none⟩ = some (.int .u8 0) := (blk_cell BK102.out 0).trans rfl; have hcz6_1 : w3.cell? ⟨gb102, 1, none⟩ = some (.int .u32 0) := (blk_cell BK102.out 1).trans rfl; have hcz6_2 : w3.cell? ⟨gb102, 2, none⟩ = some (.string (⟨#[]⟩ : ByteArray)) := (blk_cell BK102.out 2).trans rfl; have hcz6_3 : w3.cell? ⟨gb102, 3, none⟩ = some (.string (⟨#[]⟩ : ByteArray)) := (blk_cell BK102.out 3).trans rfl; have hfz6_0 := blk_frozen BK102.out 0; have hfz6_1 := blk_frozen BK102.out 1; have hfz6_2 := blk_frozen BK102.out 2; have hfz6_3 := blk_frozen BK102.out 3))
  refine bodyPost_ret (results_cell_row rfl _ _ gb102 58 #[.int .u8 a0_0, .int .u32 a0_1, .string a0_2, .string a0_3] (0, 0) _ rfl (by (with_reducible repeat (first | refine blk_drewN ?_ _ | refine blk_drew ?_ | refine blk_alloc ?_ _)); refine blk_put (cs := #[.int .u8 a0_0, .int .u32 a0_1, .string a0_2, .string (⟨#[]⟩ : ByteArray)]) ?_ 3 _ rfl; (with_reducible repeat (first | refine blk_drewN ?_ _ | refine blk_drew ?_ | refine blk_alloc ?_ _)); refine blk_put (cs := #[.int .u8 a0_0, .int .u32 a0_1, .string (⟨#[]⟩ : ByteArray), .string (⟨#[]⟩ : ByteArray)]) ?_ 2 _ rfl; (with_reducible repeat (first | refine blk_drewN ?_ _ | refine blk_drew ?_ | refine blk_alloc ?_ _)); refine blk_put (cs := #[.int .u8 a0_0, .int .u32 0, .string (⟨#[]⟩ : ByteArray), .string (⟨#[]⟩ : ByteArray)]) ?_ 1 _ rfl; (with_reducible repeat (first | refine blk_drewN ?_ _ | refine blk_drew ?_ | refine blk_alloc ?_ _)); refine blk_put (cs := #[.int .u8 0, .int .u32 0, .string (⟨#[]⟩ : ByteArray), .string (⟨#[]⟩ : ByteArray)]) ?_ 0 _ rfl; (with_reducible repeat (first | refine blk_drewN ?_ _ | refine blk_drew ?_ | refine blk_alloc ?_ _)); exact BK102.out) Tryd.underlying58 rfl (by kernel_rfl)) rfl ?_
  exact ⟨y4_, y8_⟩
def pouchlaw06_From.l0 : Nat → List (S60) → List (S58) → Int → Option ((List (S58)))
  | 0, _, _, _ => none
  | k + 1, x0, x3, x4 => if x4 < (x0.length : Int) then (if 0 ≤ x4 then ((pouchlaw05_From.f ((rd_T60 x0 x4).f0) ((rd_T60 x0 x4).f1) ((rd_T60 x0 x4).f2) ((rd_T60 x0 x4).f3)).bind fun bt102 => (if x3.length < 3518437208883 then (pouchlaw06_From.l0 k x0 (x3 ++ [(⟨bt102.1, bt102.2.1, bt102.2.2.1, bt102.2.2.2⟩ : S58)]) (wrap64 (x4 + 1))) else (none))) else (none)) else (some x3)
def pouchlaw06_From.f (k : Nat) (l0 : List (S60)) : Option ((List (S58))) := pouchlaw06_From.l0 k l0 ([] : List (S58)) 0
theorem z19m0 {p : Prop} (h : p := by
 repeat' first
 | (with_reducible exact ih0 _ _ _)
 | (with_reducible exact LeO.refl _)
 | (with_reducible exact LeO.none _)
 | (with_reducible refine LeO.ite ?_ ?_)
 | (with_reducible refine LeO.bind ?_ (fun _ => ?_))
 | exact ih0 _ _ _
 | exact LeO.none _
 | refine LeO.ite ?_ ?_
 | refine LeO.bind ?_ (fun _ => ?_)) : p := h
theorem pouchlaw06_From.mono_l : ∀ k, (∀ y0 y1 y2, LeO (pouchlaw06_From.l0 k y0 y1 y2) (pouchlaw06_From.l0 (k + 1) y0 y1 y2))
  | 0 => fun _ _ _ r h => by simp [pouchlaw06_From.l0] at h
  | k + 1 => by
    have ih0 := pouchlaw06_From.mono_l k
    · intro y0 y1 y2
      unfold pouchlaw06_From.l0
      exact z19m0
theorem pouchlaw06_From.mono : ∀ a0 k, LeO (pouchlaw06_From.f k a0) (pouchlaw06_From.f (k + 1) a0) := by
  intro a0 k
  have ih0 := pouchlaw06_From.mono_l k
  unfold pouchlaw06_From.f
  exact z19m0
theorem pouchlaw06_From.calls (k : Nat) (A0 : Option Addr) (c0 : Nat) (l0 : List (S60)) (r : List (S58)) (w : World) (hr0 : Kd.C k60 w A0 l0.length l0) (hc0 : l0.length ≤ c0) (h : pouchlaw06_From.f k l0 = some r) :
    Calls Tryd.prog 19 #[.slice A0 l0.length c0] w fun e w' => ∃ v0_ : Value, e = .returned (v0_) ∧ Kd.R k58 58 w' w.heap.size (fun _ => True) v0_ r ∧ Below w.heap.size w w' := by
  have hu60 := Tryd.underlying60
  have HR0 := Aside0.mk hr0
  have HC0 := Aside0.mk hc0
  clear hr0 hc0
  have HB := Aside0.mk (Below.refl w.heap.size w)
  have H : (pouchlaw06_From.l0 k l0 ([] : List (S58)) 0) = some r := h
  clear h
  have H' := Aside0.mk H
  clear H
  go_enter Tryd.func19, Tryd.ntmps19
  go_wp2
  go_loopg [3, 4] k (fun kq v3 v4 w' => ∃ (x3_1 : List (S58)) (x4_1 : Int), v4 = .int .i64 x4_1 ∧ Aside0 (pouchlaw06_From.l0 kq l0 x3_1 x4_1 = some r) ∧ Aside0 (kq ≤ k) ∧ Aside0 (Kd.R k58 58 w' w.heap.size (fun _ => True) v3 x3_1) ∧ Aside0 (Below w.heap.size w w'))
  case atStart => exact ⟨(([] : List (S58))), (0), y7_, H', ⟨Nat.le_refl _⟩, ⟨y21_⟩, ⟨y0_⟩⟩
  case round =>
    clear H'
    try clear c1
    obtain ⟨x3_1, x4_1, rfl, HA, HK1, HO_3, HB⟩ := hrel
    cases gk with
    | zero => exact absurd HA.out (by simp [pouchlaw06_From.l0])
    | succ k1 =>
      have H := HA.out
      clear HA
      simp only [pouchlaw06_From.l0] at H
      by_cases c2 : x4_1 < (l0.length : Int)
      · rw [if_pos c2] at H
        have c2b0 := decide_eq_true c2
        clear c2
        by_cases c3 : 0 ≤ x4_1
        · rw [if_pos c3] at H
          have c3b0 := decide_eq_true c3
          clear c3
          replace H := Option.bind_eq_some_iff.mp H
          obtain ⟨⟨t102, t103, t104, t105⟩, A40, H⟩ := H
          replace H : (if x3_1.length < 3518437208883 then (pouchlaw06_From.l0 k1 l0 (x3_1 ++ [(⟨t102, t103, t104, t105⟩ : S58)]) (wrap64 (x4_1 + 1))) else (none)) = some r := H
          have A4 := Aside0.mk A40
          clear A40
          by_cases c5 : x3_1.length < 3518437208883
          · rw [if_pos c5] at H
            have LMc5 := Aside0.mk c5
            clear c5
            obtain ⟨y106, hy106⟩ : ∃ y_ : List (S58), y_ = (x3_1 ++ [(⟨t102, t103, t104, t105⟩ : S58)]) := ⟨_, rfl⟩
            replace H : (pouchlaw06_From.l0 k1 l0 y106 (wrap64 (x4_1 + 1))) = some r := by first | (rw [hy106]; with_reducible exact H) | (have H2_ := (Option.bind_some _ _).symm.trans H; rw [hy106]; with_reducible exact H2_) | (have H2_ := (Option.bind_some _ _).symm.trans H; with_reducible exact H2_) | with_reducible exact H | (rw [hy106]; exact H) | exact H
            have Ny106 := Aside0.mk hy106
            clear hy106
            have H' := Aside0.mk H
            clear H
            have p101 : 0 ≤ (x4_1 : Int) := of_decide_eq_true y5_
            have q101 : x4_1 < (l0.length : Int) := of_decide_eq_true y5_
            obtain ⟨ad101, e101, hx101_0, hx101_1, hx101_2, hx101_3⟩ := at_T60 HR0.out x4_1 p101 q101
            cases e101
            replace hx101_0 := (HB.out.cell (World.block_lt_of_cell? w _ hx101_0)).trans hx101_0
            replace hx101_1 := (HB.out.cell (World.block_lt_of_cell? w _ hx101_1)).trans hx101_1
            replace hx101_2 := (HB.out.cell (World.block_lt_of_cell? w _ hx101_2)).trans hx101_2
            replace hx101_3 := (HB.out.cell (World.block_lt_of_cell? w _ hx101_3)).trans hx101_3
            replace p101 := eq_true p101
            replace q101 := eq_true q101
            go_wp2_with (first | ((with_reducible refine gate_callee (f := 32) rfl ?_); refine goesL_ (some 16) rfl rfl Tryd.func32 (by kernel_rfl) rfl #[.agg #[.int .u8 ((rd_T60 l0 x4_1).f0), .int .u32 ((rd_T60 l0 x4_1).f1), .string ((rd_T60 l0 x4_1).f2), .string ((rd_T60 l0 x4_1).f3)]] rfl y2_ ?_; (with_reducible refine (pouchlaw05_From.calls ((rd_T60 l0 x4_1).f0) ((rd_T60 l0 x4_1).f1) ((rd_T60 l0 x4_1).f2) ((rd_T60 l0 x4_1).f3) t102 t103 t104 t105 _ A4.out).mono ?_); rintro e w6 ⟨rfl, hb⟩; refine ⟨_, rfl, ?_⟩; have n0_ := Aside0.mk (Kd.R_below y23_ hb); have n1_ := Aside0.mk (below_step y0_ hb); clear HO_3; clear HB; have HO_3 := n0_; have HB := n1_; clear n0_ n1_; (try clear hb); (try clear hb2); (try clear hk); (try clear hi)) | ((with_reducible refine gate_builtin (b := .append) (xs := #[.tmp 11, .tmp 17]) rfl ?_); at_builtin; refine Kd.R_append k58 (w0 := w) w.heap.size rfl (.tmp 11) (.tmp 17) 22 58 (.agg #[(.int .u8 0), (.int .u32 0), (.string ⟨#[]⟩), (.string ⟨#[]⟩)]) 40 rfl Tryd.underlying22 info58 rfl (by decide) (by omega) u3 x3_1 (⟨t102, t103, t104, t105⟩ : S58) [.int .u8 t102, .int .u32 t103, .string t104, .string t105] (fun _ => True) (fun _ => False) rfl rfl ?aP (fun _ hk => hk.elim) ?aF ?aO ?aB ?aS ?aL ?_; (case aP => exact k58_mkM _ _ _ (⟨t102, t103, t104, t105⟩ : S58)); (case aB => exact y0_); (case aF => exact (fun _ _ => trivial)); (case aO => exact y23_); (case aS => exact (below_size y0_)); (case aL => have := LMc5.out; omega); intro v107 w7 ho hb hg hat; rw [← Ny106.out] at ho; have n0_ := Aside0.mk (hb); have n1_ := Aside0.mk (ho); clear HB; clear HO_3; have HB := n0_; have HO108 := n1_; clear n0_ n1_; clear ho hb hg hat))
            go_roundg k1
            case measure => have := HK1.out; omega
            case rel => exact ⟨(y106), (wrap64 (x4_1 + 1)), y7_, H', ⟨y25_⟩, ⟨by (with_reducible repeat (first | apply Kd.R_alloc | apply Kd.R_drewN | apply Kd.R_drew)); exact HO108.out⟩, ⟨y0_⟩⟩
          · rw [if_neg c5] at H
            exact absurd H (by simp)
        · rw [if_neg c3] at H
          exact absurd H (by simp)
      · rw [if_neg c2] at H
        have c2b0 := decide_eq_false c2
        clear c2
        obtain rfl := Option.some.inj H
        go_wp2
        go_ret
        exact ⟨_, y4_, y23_, y0_⟩
mutual
def pouchref06_Sort.l0 : Nat → List (S58) → Int → Option ((List (S58)))
  | 0, _, _ => none
  | k + 1, x3, x4 => if x4 < (x3.length : Int) then (pouchref06_Sort.l1 k x3 x4 x4) else (some x3)
def pouchref06_Sort.l1 : Nat → List (S58) → Int → Int → Option ((List (S58)))
  | 0, _, _, _ => none
  | k + 1, x3, x4, x5 => if x5 > 0 then (if 0 ≤ (wrap64 (x5 - 1)) then (if (wrap64 (x5 - 1)) < (x3.length : Int) then (if 0 ≤ x5 then (if x5 < (x3.length : Int) then (if ((rd_T58 x3 (wrap64 (x5 - 1))).f0) > ((rd_T58 x3 x5).f0) then (pouchref06_Sort.l1 k ((x3.set ((wrap64 (x5 - 1)) : Int).toNat (⟨(rd_T58 x3 x5).f0, (rd_T58 x3 x5).f1, (rd_T58 x3 x5).f2, (rd_T58 x3 x5).f3⟩ : S58)).set (x5 : Int).toNat (⟨(rd_T58 x3 (wrap64 (x5 - 1))).f0, (rd_T58 x3 (wrap64 (x5 - 1))).f1, (rd_T58 x3 (wrap64 (x5 - 1))).f2, (rd_T58 x3 (wrap64 (x5 - 1))).f3⟩ : S58)) x4 (wrap64 (x5 - 1))) else (pouchref06_Sort.l0 k x3 (wrap64 (x4 + 1)))) else (none)) else (none)) else (none)) else (none)) else (pouchref06_Sort.l0 k x3 (wrap64 (x4 + 1)))
end
def pouchref06_Sort.f (k : Nat) (l0 : List (S58)) : Option ((List (S58))) := (some (([] : List (S58)) : List (S58))).bind fun y101 => (if y101.length + l0.length < 3518437208883 then (pouchref06_Sort.l0 k (y101 ++ l0) 1) else (none))
theorem z20m0 {p : Prop} (h : p := by
 repeat' first
 | (with_reducible exact ih0 _ _)
 | (with_reducible exact ih1 _ _ _)
 | (with_reducible exact LeO.refl _)
 | (with_reducible exact LeO.none _)
 | (with_reducible refine LeO.ite ?_ ?_)
 | (with_reducible refine LeO.bind ?_ (fun _ => ?_))
 | exact ih0 _ _
 | exact ih1 _ _ _
 | exact LeO.none _
 | refine LeO.ite ?_ ?_
 | refine LeO.bind ?_ (fun _ => ?_)) : p := h
theorem pouchref06_Sort.mono_l : ∀ k, (∀ y0 y1, LeO (pouchref06_Sort.l0 k y0 y1) (pouchref06_Sort.l0 (k + 1) y0 y1)) ∧ (∀ y0 y1 y2, LeO (pouchref06_Sort.l1 k y0 y1 y2) (pouchref06_Sort.l1 (k + 1) y0 y1 y2))
  | 0 => ⟨fun _ _ r h => by simp [pouchref06_Sort.l0] at h, fun _ _ _ r h => by simp [pouchref06_Sort.l1] at h⟩
  | k + 1 => by
    obtain ⟨ih0, ih1⟩ := pouchref06_Sort.mono_l k
    refine ⟨?_, ?_⟩
    · intro y0 y1
      unfold pouchref06_Sort.l0
      exact z20m0
    · intro y0 y1 y2
      unfold pouchref06_Sort.l1
      exact z20m0
theorem pouchref06_Sort.mono : ∀ a0 k, LeO (pouchref06_Sort.f k a0) (pouchref06_Sort.f (k + 1) a0) := by
  intro a0 k
  obtain ⟨ih0, ih1⟩ := pouchref06_Sort.mono_l k
  unfold pouchref06_Sort.f
  exact z20m0
def pouchref06_Sort.T6 : Bool × List (List Nat × List Nat) := (true, [([], []), ([0], [0]), ([1], [1]), ([2], [2]), ([2], [2]), ([4, 2], [2, 4]), ([3, 5, 2], [2, 3, 5]), ([6, 2], [2, 6]), ([7, 2], [2, 7]), ([2], [2]), ([2], [2]), ([9, 10, 2], [2, 9, 10]), ([11, 2], [2, 11]), ([12, 2], [2, 12]), ([8, 13, 2], [2, 8, 13]), ([2, 14], [2, 14])])
def pouchref06_Sort.B6 : List Nat := [0, 1, 3, 7, 7, 23, 63, 127, 255, 7, 7, 1543, 3591, 7687, 16383, 32767]
theorem pouchref06_Sort.tab6 : rtab .any (opsOf Tryd.f20 6) = pouchref06_Sort.T6 := by kernel_rfl
theorem pouchref06_Sort.bits6 : waitsOk pouchref06_Sort.T6.2 pouchref06_Sort.B6 = true := by kernel_rfl
def pouchref06_Sort.T8 : Bool × List (List Nat × List Nat) := (true, [([], []), ([], []), ([1], [1]), ([], []), ([], []), ([], []), ([], []), ([5, 6], [5, 6]), ([7], [7]), ([], []), ([], []), ([10], [10]), ([9, 11], [9, 11]), ([12], [12]), ([0, 2, 0, 1, 2, 5, 6, 7, 8, 13], [0, 2]), ([14, 8, 0, 1, 2, 5, 6, 7, 8, 13], [8, 14]), ([3, 4, 0, 1, 2, 3, 4, 5, 6, 7, 8, 9, 10, 11, 12, 13, 14, 15], [3, 4]), ([16, 13, 15, 0, 1, 2, 3, 4, 5, 6, 7, 8, 9, 10, 11, 12, 13, 14, 15], [13, 16])])
def pouchref06_Sort.B8 : List Nat := [0, 0, 2, 0, 0, 0, 0, 96, 224, 0, 0, 1024, 3584, 7680, 16359, 32743, 65535, 131071]
theorem pouchref06_Sort.tab8 : rtab .any (opsOf Tryd.f20 8) = pouchref06_Sort.T8 := by kernel_rfl
theorem pouchref06_Sort.bits8 : waitsOk pouchref06_Sort.T8.2 pouchref06_Sort.B8 = true := by kernel_rfl
theorem z20z0 {p : Prop} (h : p := by exact Or.inl ⟨by rfl, by rintro w' ⟨s0, s1, s2, s3, s4, s5, s6, s7⟩; go_simp; with_reducible rfl⟩) : p := h
theorem z20z1 {p : Prop} (h : p := by intro e_; injection e_ with e1_ e2_ e3_; omega) : p := h
theorem z20z2 {p : Prop} (h : p := by (try simp only [hl3_2]); (with_reducible repeat (first | apply Kd.R_alloc | apply Kd.R_drewN | apply Kd.R_drew)); exact HO_3.out) : p := h
theorem z20z3 {p : Prop} (h : p := by have := HK1.out; have := HK2.out; omega) : p := h
theorem pouchref06_Sort.calls (k : Nat) (A0 : Option Addr) (c0 : Nat) (l0 : List (S58)) (r : List (S58)) (w : World) (hr0 : Kd.C k58 w A0 l0.length l0) (hc0 : l0.length ≤ c0) (h : pouchref06_Sort.f k l0 = some r) :
  Calls Tryd.prog 20 #[.slice A0 l0.length c0] w fun e w' => ∃ v0_ : Value, e = .returned (v0_) ∧ Kd.R k58 58 w' w.heap.size (fun _ => True) v0_ r ∧ Below w.heap.size w w' := by
 have hu58 := Tryd.underlying58
 have HR0 := Aside0.mk hr0
 have HC0 := Aside0.mk hc0
 clear hr0 hc0
 have HB := Aside0.mk (Below.refl w.heap.size w)
 have H : ((some (([] : List (S58)) : List (S58))).bind fun y101 => (if y101.length + l0.length < 3518437208883 then (pouchref06_Sort.l0 k (y101 ++ l0) 1) else (none))) = some r := h
 clear h
 obtain ⟨y101, hy101⟩ : ∃ y_ : List (S58), y_ = (([] : List (S58))) := ⟨_, rfl⟩
 replace H : (if y101.length + l0.length < 3518437208883 then (pouchref06_Sort.l0 k (y101 ++ l0) 1) else (none)) = some r := by first | (rw [hy101]; with_reducible exact H) | (have H2_ := (Option.bind_some _ _).symm.trans H; rw [hy101]; with_reducible exact H2_) | (have H2_ := (Option.bind_some _ _).symm.trans H; with_reducible exact H2_) | with_reducible exact H | (rw [hy101]; exact H) | exact H
 have Ny101 := Aside0.mk hy101
 clear hy101
 by_cases c2 : y101.length + l0.length < 3518437208883
 rotate_left
 ·rw [if_neg c2] at H
  exact absurd H (by simp)
 rw [if_pos c2] at H
 have LMc2 := Aside0.mk c2
 clear c2
 obtain ⟨y104, hy104⟩ : ∃ y_ : List (S58), y_ = (y101 ++ l0) := ⟨_, rfl⟩
 replace H : (pouchref06_Sort.l0 k y104 1) = some r := by first | (rw [hy104]; with_reducible exact H) | (have H2_ := (Option.bind_some _ _).symm.trans H; rw [hy104]; with_reducible exact H2_) | (have H2_ := (Option.bind_some _ _).symm.trans H; with_reducible exact H2_) | with_reducible exact H | (rw [hy104]; exact H) | exact H
 have Ny104 := Aside0.mk hy104
 clear hy104
 have H' := Aside0.mk H
 clear H
 go_enter Tryd.func20, Tryd.ntmps20
 go_wp2_with (first | ((with_reducible refine gate_dst (N := 6) rfl ?_); refine Kd.R_lit k58 _ 58 ?hg (N := 6) ?hd (xs := ([] : List (S58))) (inner := []) (ok := fun _ => True) (okp := fun _ => True) ?hr ?hp (fun _ hk => hk) trivial (Below.refl _ _) (Nat.le_refl _) (by simp) ?_; (case hd => rfl); (case hg => rfl); (case hr => first | (go_simp; done) | (go_simp; rfl)); (case hp => exact (Reps.none _ _)); intro v102 w3 ho4 hb hg_ hnew_; clear hg_ hnew_; (first | rw [← Ny101.out] at ho4 | (simp only [Int.reduceToNat] at ho4; rw [← Ny101.out] at ho4)); have n0_ := Aside0.mk (Kd.R_lower ho4 (below_size y0_)); have n1_ := Aside0.mk (below_step y0_ hb); have HO103 := n0_; replace HB := n1_; clear n0_ n1_; clear hb ho4) | ((with_reducible refine gate_builtin (b := .append) (xs := #[.tmp 6, .tmp 7]) rfl ?_); at_builtin; refine Kd.R_append_rows k58 (w0 := w) w.heap.size rfl (.tmp 6) (.tmp 7) 22 58 (.agg #[(.int .u8 0), (.int .u32 0), (.string ⟨#[]⟩), (.string ⟨#[]⟩)]) 40 rfl Tryd.underlying22 info58 rfl (by decide) (by omega) v102 y101 l0 _ _ _ (fun _ => True) (fun _ => False) rfl rfl ?aO ?aR (fun _ _ h => h) (fun _ h => h.elim) ?aF ?aB ?aS ?aL ?_; (case aR => repeat (first | exact (Kd.C_below HR0.out HB.out) | (with_reducible refine Kd.C_alloc ?_ _) | (with_reducible refine Kd.C_drewN ?_ _) | (with_reducible refine Kd.C_drew ?_))); (case aB => exact y0_); (case aF => exact (fun _ _ => trivial)); (case aO => exact y12_); (case aS => exact (below_size y0_)); (case aL => have := LMc2.out; omega); intro v105 w5 ho hb hg hat; rw [← Ny104.out] at ho; have n0_ := Aside0.mk (hb); have n1_ := Aside0.mk (ho); replace HB := n0_; have HO106 := n1_; clear HO103; clear n0_ n1_; clear ho hb hg hat))
 go_loopg [4] k (fun kq v4 w' => ∃ (x3_1 : List (S58)) (x4_1 : Int), v4 = .int .i64 x4_1 ∧ Aside0 (pouchref06_Sort.l0 kq x3_1 x4_1 = some r) ∧ Aside0 (kq ≤ k) ∧ Aside0 (Kd.R k58 58 w' w.heap.size (fun _ => True) v105 x3_1) ∧ Aside0 (Below w.heap.size w w'))
 case atStart => exact ⟨(y104), (1), y7_, H', ⟨Nat.le_refl _⟩, ⟨y15_⟩, ⟨y0_⟩⟩
 case round =>
  clear H'
  try clear c2
  try clear p2
  obtain ⟨x3_1, x4_1, rfl, HA, HK1, HO_3, HB⟩ := hrel
  cases gk with
  | zero => exact absurd HA.out (by simp [pouchref06_Sort.l0])
  | succ k1 =>
   have H := HA.out
   clear HA
   simp only [pouchref06_Sort.l0] at H
   by_cases c6 : x4_1 < (x3_1.length : Int)
   ·rw [if_pos c6] at H
    have c6b0 := decide_eq_true c6
    clear c6
    have H' := Aside0.mk H
    clear H
    obtain ⟨Ao7, co7, eo7⟩ := Kd.R_slice HO_3.out
    subst eo7
    go_wp2
    go_loopg [5] k1 (fun kq v5 w' => ∃ (x3_2 : List (S58)) (x5_2 : Int), v5 = .int .i64 x5_2 ∧ Aside0 (pouchref06_Sort.l1 kq x3_2 x4_1 x5_2 = some r) ∧ Aside0 (kq ≤ k1) ∧ Aside0 (Kd.R k58 58 w' w.heap.size (fun _ => True) (.slice Ao7 x3_1.length co7) x3_2) ∧ Aside0 (Below w.heap.size w w'))
    case atStart => exact ⟨(x3_1), (x4_1), y7_, H', ⟨Nat.le_refl _⟩, ⟨y23_⟩, ⟨y0_⟩⟩
    case round =>
     clear H'
     try clear c2
     try clear p2
     try clear c6
     try clear c6b0
     try clear p2
     obtain ⟨x3_2, x5_2, rfl, HA, HK2, HO_3, HB⟩ := hrel
     have hl3_2 := (Kd.R_reads' HO_3.out).1
     rw [hl3_2] at HO_3
     (try simp only [hl3_2])
     cases gk with
     | zero => exact absurd HA.out (by simp [pouchref06_Sort.l1])
     | succ k2 =>
      have H := HA.out
      clear HA
      simp only [pouchref06_Sort.l1] at H
      by_cases c8 : x5_2 > 0
      ·rw [if_pos c8] at H
       have c8b0 := decide_eq_true c8
       clear c8
       obtain ⟨ji9, hji9⟩ : ∃ j_ : Int, (wrap64 (x5_2 - 1)) = j_ := ⟨_, rfl⟩
       replace H : (if 0 ≤ (ji9) then (if (ji9) < (x3_2.length : Int) then (if 0 ≤ x5_2 then (if x5_2 < (x3_2.length : Int) then (if ((rd_T58 x3_2 (ji9)).f0) > ((rd_T58 x3_2 x5_2).f0) then (pouchref06_Sort.l1 k2 ((x3_2.set ((ji9) : Int).toNat (⟨(rd_T58 x3_2 x5_2).f0, (rd_T58 x3_2 x5_2).f1, (rd_T58 x3_2 x5_2).f2, (rd_T58 x3_2 x5_2).f3⟩ : S58)).set (x5_2 : Int).toNat (⟨(rd_T58 x3_2 (ji9)).f0, (rd_T58 x3_2 (ji9)).f1, (rd_T58 x3_2 (ji9)).f2, (rd_T58 x3_2 (ji9)).f3⟩ : S58)) x4_1 ji9) else (pouchref06_Sort.l0 k2 x3_2 (wrap64 (x4_1 + 1)))) else (none)) else (none)) else (none)) else (none)) = some r := by first | (rw [hji9] at H; exact H) | (simp only [hji9] at H ⊢; exact H)
       have hji9w : (IntKind.i64.wrap (x5_2 - 1)) = ji9 := (i64_w _).trans hji9
       by_cases c10 : 0 ≤ (ji9)
       ·rw [if_pos c10] at H
        have c10b0 := decide_eq_true c10
        clear c10
        by_cases c11 : (ji9) < (x3_2.length : Int)
        ·rw [if_pos c11] at H
         have c11b0 := decide_eq_true c11
         clear c11
         by_cases c12 : 0 ≤ x5_2
         ·rw [if_pos c12] at H
          have c12b0 := decide_eq_true c12
          clear c12
          by_cases c13 : x5_2 < (x3_2.length : Int)
          ·rw [if_pos c13] at H
           have c13b0 := decide_eq_true c13
           clear c13
           by_cases c14 : ((rd_T58 x3_2 (ji9)).f0) > ((rd_T58 x3_2 x5_2).f0)
           ·rw [if_pos c14] at H
            have c14b0 := decide_eq_true c14
            clear c14
            obtain ⟨y111, hy111⟩ : ∃ y_ : List (S58), y_ = (x3_2.set ((ji9) : Int).toNat (⟨(rd_T58 x3_2 x5_2).f0, (rd_T58 x3_2 x5_2).f1, (rd_T58 x3_2 x5_2).f2, (rd_T58 x3_2 x5_2).f3⟩ : S58)) := ⟨_, rfl⟩
            replace H : (pouchref06_Sort.l1 k2 (y111.set (x5_2 : Int).toNat (⟨(rd_T58 x3_2 (ji9)).f0, (rd_T58 x3_2 (ji9)).f1, (rd_T58 x3_2 (ji9)).f2, (rd_T58 x3_2 (ji9)).f3⟩ : S58)) x4_1 ji9) = some r := by first | (rw [hy111]; with_reducible exact H) | (have H2_ := (Option.bind_some _ _).symm.trans H; rw [hy111]; with_reducible exact H2_) | (have H2_ := (Option.bind_some _ _).symm.trans H; with_reducible exact H2_) | with_reducible exact H | (rw [hy111]; exact H) | exact H
            have Ny111 := Aside0.mk hy111
            clear hy111
            obtain ⟨y112, hy112⟩ : ∃ y_ : List (S58), y_ = (y111.set (x5_2 : Int).toNat (⟨(rd_T58 x3_2 (ji9)).f0, (rd_T58 x3_2 (ji9)).f1, (rd_T58 x3_2 (ji9)).f2, (rd_T58 x3_2 (ji9)).f3⟩ : S58)) := ⟨_, rfl⟩
            replace H : (pouchref06_Sort.l1 k2 y112 x4_1 ji9) = some r := by first | (rw [hy112]; with_reducible exact H) | (have H2_ := (Option.bind_some _ _).symm.trans H; rw [hy112]; with_reducible exact H2_) | (have H2_ := (Option.bind_some _ _).symm.trans H; with_reducible exact H2_) | with_reducible exact H | (rw [hy112]; exact H) | exact H
            have Ny112 := Aside0.mk hy112
            clear hy112
            have H' := Aside0.mk H
            clear H
            try go_wp2
            have n0_ := Aside0.mk (Kd.R_drew HO_3.out)
            have n1_ := Aside0.mk (below_drew1 HB.out)
            clear HO_3
            clear HB
            have HO_3 := n0_
            have HB := n1_
            clear n0_ n1_
            have p107 : 0 ≤ ((ji9) : Int) := of_decide_eq_true y5_
            have q107 : (ji9) < (x3_2.length : Int) := of_decide_eq_true y5_
            obtain ⟨ad107, e107, hx107_0, hx107_1, hx107_2, hx107_3⟩ := at_T58 (Kd.R_reads' HO_3.out).2.2 (ji9) p107 q107
            cases e107
            replace p107 := eq_true p107
            replace q107 := eq_true q107
            have p108 : 0 ≤ (x5_2 : Int) := of_decide_eq_true y5_
            have q108 : x5_2 < (x3_2.length : Int) := of_decide_eq_true y5_
            obtain ⟨ad108, e108, hx108_0, hx108_1, hx108_2, hx108_3⟩ := at_T58 (Kd.R_reads' HO_3.out).2.2 x5_2 p108 q108
            obtain rfl : ad107 = ad108 := (by injection e108)
            replace p108 := eq_true p108
            replace q108 := eq_true q108
            refine start_ (n := 16) (S := fun w' => w'.cell? (ad107.add (((ji9)).toNat * 4)) = some (.int .u8 ((rd_T58 x3_2 (ji9)).f0)) ∧ w'.cell? ⟨(ad107.add (((ji9)).toNat * 4)).block, (ad107.add (((ji9)).toNat * 4)).off + 1, none⟩ = some (.int .u32 ((rd_T58 x3_2 (ji9)).f1)) ∧ w'.cell? ⟨(ad107.add (((ji9)).toNat * 4)).block, (ad107.add (((ji9)).toNat * 4)).off + 2, none⟩ = some (.string ((rd_T58 x3_2 (ji9)).f2)) ∧ w'.cell? ⟨(ad107.add (((ji9)).toNat * 4)).block, (ad107.add (((ji9)).toNat * 4)).off + 3, none⟩ = some (.string ((rd_T58 x3_2 (ji9)).f3)) ∧ w'.cell? (ad107.add ((x5_2).toNat * 4)) = some (.int .u8 ((rd_T58 x3_2 x5_2).f0)) ∧ w'.cell? ⟨(ad107.add ((x5_2).toNat * 4)).block, (ad107.add ((x5_2).toNat * 4)).off + 1, none⟩ = some (.int .u32 ((rd_T58 x3_2 x5_2).f1)) ∧ w'.cell? ⟨(ad107.add ((x5_2).toNat * 4)).block, (ad107.add ((x5_2).toNat * 4)).off + 2, none⟩ = some (.string ((rd_T58 x3_2 x5_2).f2)) ∧ w'.cell? ⟨(ad107.add ((x5_2).toNat * 4)).block, (ad107.add ((x5_2).toNat * 4)).off + 3, none⟩ = some (.string ((rd_T58 x3_2 x5_2).f3))) (ds := []) (ba 16 0) (by kernel_rfl) rfl rfl ⟨hx107_0, hx107_1, hx107_2, hx107_3, hx108_0, hx108_1, hx108_2, hx108_3⟩ (fun hHeld => ?_); refine with_tabW pouchref06_Sort.tab6 pouchref06_Sort.bits6 (fun HT_ HW_ => ?_)
            generalize wr.drew = w17 at HO_3 HB hx107_0 hx107_1 hx107_2 hx107_3 hx108_0 hx108_1 hx108_2 hx108_3 hHeld ⊢
            refine pq_ 0 16 1 ?_
            refine pq_ 1 17 3 ?_
            refine pq_ 2 18 7 ?_
            refine pq_ 3 19 15 ?_
            refine pq_ 4 20 31 ?_
            refine pq_ 5 21 63 ?_
            refine pq_ 6 22 127 ?_
            refine pq_ 7 23 255 ?_
            refine pq_ 9 25 767 ?_
            refine pq_ 10 26 1791 ?_
            refine pq_ 11 27 3839 ?_
            refine pq_ 12 28 7935 ?_
            refine tr_ 8 24 8191 ?_ (hy := z20z0)
            refine tr_ 13 29 16383 ?_ (hy := z20z0)
            refine pq_ 14 30 32767 ?_
            refine pq_ 15 31 65535 ?_
            refine done_ (done_of HT_.out (by kernel_rfl)) ?_
            try go_wp2
            have n0_ := Aside0.mk (Kd.R_drew HO_3.out)
            have n1_ := Aside0.mk (below_drew1 HB.out)
            clear HO_3
            clear HB
            have HO_3 := n0_
            have HB := n1_
            clear n0_ n1_
            have p109 : 0 ≤ (x5_2 : Int) := of_decide_eq_true y5_
            have q109 : x5_2 < (x3_2.length : Int) := of_decide_eq_true y5_
            obtain ⟨ad109, e109, hx109_0, hx109_1, hx109_2, hx109_3⟩ := at_T58 (Kd.R_reads' HO_3.out).2.2 x5_2 p109 q109
            obtain rfl : ad107 = ad109 := (by injection e109)
            replace p109 := eq_true p109
            replace q109 := eq_true q109
            have p110 : 0 ≤ ((ji9) : Int) := of_decide_eq_true y5_
            have q110 : (ji9) < (x3_2.length : Int) := of_decide_eq_true y5_
            obtain ⟨ad110, e110, hx110_0, hx110_1, hx110_2, hx110_3⟩ := at_T58 (Kd.R_reads' HO_3.out).2.2 (ji9) p110 q110
            obtain rfl : ad107 = ad110 := (by injection e110)
            replace p110 := eq_true p110
            replace q110 := eq_true q110
            have p15 : 0 ≤ ((ji9) : Int) := of_decide_eq_true y5_
            have q15 : ((ji9) : Int) < ((x3_2.length : Int) : Int) := of_decide_eq_true y5_
            obtain ⟨go15, co15, eo15, gb15, gl15, cl15, HG15⟩ := Kd.R_form HO_3.out (by omega)
            (first | cases eo15 | (injection eo15 with ea_ en_ ec_; (first | subst ea_ | (injection ea_ with ea_; subst ea_)); subst ec_; clear en_))
            have GB15 := Aside0.mk gb15
            have GG15 := Aside0.mk HG15
            clear gb15 gl15 HG15
            (first | simp only [add_plain] at hx107_0 | skip)
            (first | simp only [add_plain] at hx107_1 | skip)
            (first | simp only [add_plain] at hx107_2 | skip)
            (first | simp only [add_plain] at hx107_3 | skip)
            (first | simp only [add_plain] at hx108_0 | skip)
            (first | simp only [add_plain] at hx108_1 | skip)
            (first | simp only [add_plain] at hx108_2 | skip)
            (first | simp only [add_plain] at hx108_3 | skip)
            (first | simp only [add_plain] at hx109_0 | skip)
            (first | simp only [add_plain] at hx109_1 | skip)
            (first | simp only [add_plain] at hx109_2 | skip)
            (first | simp only [add_plain] at hx109_3 | skip)
            (first | simp only [add_plain] at hx110_0 | skip)
            (first | simp only [add_plain] at hx110_1 | skip)
            (first | simp only [add_plain] at hx110_2 | skip)
            (first | simp only [add_plain] at hx110_3 | skip)
            obtain ⟨ce15, hcl15, hM15, hcc15, hfr15⟩ := Kd.R_elem HO_3.out z58 ((ji9) : Int) p15 q15
            obtain rfl := k58_openM hM15
            have hx15_0 : World.cell? _ ⟨go15, ((ji9) : Int).toNat * 4, none⟩ = some (.int .u8 ((rd_T58 x3_2 (ji9)).f0)) := hcc15 0 _ rfl
            have hx15_1 : World.cell? _ ⟨go15, ((ji9) : Int).toNat * 4 + 1, none⟩ = some (.int .u32 ((rd_T58 x3_2 (ji9)).f1)) := hcc15 1 _ rfl
            have hx15_2 : World.cell? _ ⟨go15, ((ji9) : Int).toNat * 4 + 2, none⟩ = some (.string ((rd_T58 x3_2 (ji9)).f2)) := hcc15 2 _ rfl
            have hx15_3 : World.cell? _ ⟨go15, ((ji9) : Int).toNat * 4 + 3, none⟩ = some (.string ((rd_T58 x3_2 (ji9)).f3)) := hcc15 3 _ rfl
            have hf15_0 : World.frozen? _ ⟨go15, ((ji9) : Int).toNat * 4, none⟩ = false := hfr15 0
            have hf15_1 : World.frozen? _ ⟨go15, ((ji9) : Int).toNat * 4 + 1, none⟩ = false := hfr15 1
            have hf15_2 : World.frozen? _ ⟨go15, ((ji9) : Int).toNat * 4 + 2, none⟩ = false := hfr15 2
            have hf15_3 : World.frozen? _ ⟨go15, ((ji9) : Int).toNat * 4 + 3, none⟩ = false := hfr15 3
            clear hcl15 hcc15 hfr15 hM15
            replace p15 := eq_true p15
            replace q15 := eq_true q15
            obtain ⟨ce19, hcl19, hM19, hcc19, hfr19⟩ := Kd.R_elem HO_3.out z58 ((ji9) : Int) (of_decide_eq_true y5_) (by have h_ : ((ji9) : Int) < ((x3_2.length : Int) : Int) := of_decide_eq_true y5_; first | exact h_ | (have e_ := (Kd.R_reads' HO_3.out).1; omega) | simpa using h_)
            obtain rfl := k58_openM hM19
            have HP19 := (Kd.R_seg HO_3.out ((ji9) : Int) (of_decide_eq_true y5_) (by have h_ : ((ji9) : Int) < ((x3_2.length : Int) : Int) := of_decide_eq_true y5_; first | exact h_ | (have e_ := (Kd.R_reads' HO_3.out).1; omega) | simpa using h_) (seg := [.int .u8 ((rd_T58 x3_2 x5_2).f0), .int .u32 ((rd_T58 x3_2 x5_2).f1), .string ((rd_T58 x3_2 x5_2).f2), .string ((rd_T58 x3_2 x5_2).f3)]) (j := 0) hcl19 hcc19 (show 4 ≤ 4 from by decide) (x' := (⟨(rd_T58 x3_2 x5_2).f0, (rd_T58 x3_2 x5_2).f1, (rd_T58 x3_2 x5_2).f2, (rd_T58 x3_2 x5_2).f3⟩ : S58)) (k58_mkM _ _ _ (⟨(rd_T58 x3_2 x5_2).f0, (rd_T58 x3_2 x5_2).f1, (rd_T58 x3_2 x5_2).f2, (rd_T58 x3_2 x5_2).f3⟩ : S58) ) (fun _ hk => hk)).1
            rw [← Ny111.out] at HP19
            have HQ19 := Aside0.mk HP19
            clear hcl19 hcc19 hfr19 hM19 HP19
            have p16 : 0 ≤ (x5_2 : Int) := of_decide_eq_true y5_
            have q16 : (x5_2 : Int) < ((x3_2.length : Int) : Int) := of_decide_eq_true y5_
            obtain ⟨ce16, hcl16, hM16, hcc16, hfr16⟩ := Kd.R_elem HQ19.out z58 (x5_2 : Int) p16 q16
            obtain rfl := k58_openM hM16
            have hx16_0 : World.cell? _ ⟨go15, (x5_2 : Int).toNat * 4, none⟩ = some (.int .u8 ((rd_T58 y111 x5_2).f0)) := hcc16 0 _ rfl
            have hx16_1 : World.cell? _ ⟨go15, (x5_2 : Int).toNat * 4 + 1, none⟩ = some (.int .u32 ((rd_T58 y111 x5_2).f1)) := hcc16 1 _ rfl
            have hx16_2 : World.cell? _ ⟨go15, (x5_2 : Int).toNat * 4 + 2, none⟩ = some (.string ((rd_T58 y111 x5_2).f2)) := hcc16 2 _ rfl
            have hx16_3 : World.cell? _ ⟨go15, (x5_2 : Int).toNat * 4 + 3, none⟩ = some (.string ((rd_T58 y111 x5_2).f3)) := hcc16 3 _ rfl
            have hf16_0 : World.frozen? _ ⟨go15, (x5_2 : Int).toNat * 4, none⟩ = false := hfr16 0
            have hf16_1 : World.frozen? _ ⟨go15, (x5_2 : Int).toNat * 4 + 1, none⟩ = false := hfr16 1
            have hf16_2 : World.frozen? _ ⟨go15, (x5_2 : Int).toNat * 4 + 2, none⟩ = false := hfr16 2
            have hf16_3 : World.frozen? _ ⟨go15, (x5_2 : Int).toNat * 4 + 3, none⟩ = false := hfr16 3
            clear hcl16 hcc16 hfr16 hM16
            replace p16 := eq_true p16
            replace q16 := eq_true q16
            obtain ⟨ce20, hcl20, hM20, hcc20, hfr20⟩ := Kd.R_elem HQ19.out z58 (x5_2 : Int) (of_decide_eq_true y5_) (by have h_ : (x5_2 : Int) < ((x3_2.length : Int) : Int) := of_decide_eq_true y5_; first | exact h_ | (have e_ := (Kd.R_reads' HO_3.out).1; omega) | simpa using h_)
            obtain rfl := k58_openM hM20
            have HP20 := (Kd.R_seg HQ19.out (x5_2 : Int) (of_decide_eq_true y5_) (by have h_ : (x5_2 : Int) < ((x3_2.length : Int) : Int) := of_decide_eq_true y5_; first | exact h_ | (have e_ := (Kd.R_reads' HO_3.out).1; omega) | simpa using h_) (seg := [.int .u8 ((rd_T58 x3_2 (ji9)).f0), .int .u32 ((rd_T58 x3_2 (ji9)).f1), .string ((rd_T58 x3_2 (ji9)).f2), .string ((rd_T58 x3_2 (ji9)).f3)]) (j := 0) hcl20 hcc20 (show 4 ≤ 4 from by decide) (x' := (⟨(rd_T58 x3_2 (ji9)).f0, (rd_T58 x3_2 (ji9)).f1, (rd_T58 x3_2 (ji9)).f2, (rd_T58 x3_2 (ji9)).f3⟩ : S58)) (k58_mkM _ _ _ (⟨(rd_T58 x3_2 (ji9)).f0, (rd_T58 x3_2 (ji9)).f1, (rd_T58 x3_2 (ji9)).f2, (rd_T58 x3_2 (ji9)).f3⟩ : S58) ) (fun _ hk => hk)).1
            rw [← Ny112.out] at HP20
            have HQ20 := Aside0.mk HP20
            clear hcl20 hcc20 hfr20 hM20 HP20
            refine start_ (n := 18) (S := fun w' => w'.cell? ⟨go15, ((x5_2).toNat * 4), none⟩ = some (.int .u8 ((rd_T58 x3_2 x5_2).f0)) ∧ w'.cell? ⟨go15, ((x5_2).toNat * 4) + 1, none⟩ = some (.int .u32 ((rd_T58 x3_2 x5_2).f1)) ∧ w'.cell? ⟨go15, ((x5_2).toNat * 4) + 2, none⟩ = some (.string ((rd_T58 x3_2 x5_2).f2)) ∧ w'.cell? ⟨go15, ((x5_2).toNat * 4) + 3, none⟩ = some (.string ((rd_T58 x3_2 x5_2).f3)) ∧ w'.cell? ⟨go15, ((ji9)).toNat * 4, none⟩ = some (.int .u8 ((rd_T58 x3_2 (ji9)).f0)) ∧ w'.cell? ⟨go15, ((ji9)).toNat * 4 + 1, none⟩ = some (.int .u32 ((rd_T58 x3_2 (ji9)).f1)) ∧ w'.cell? ⟨go15, ((ji9)).toNat * 4 + 2, none⟩ = some (.string ((rd_T58 x3_2 (ji9)).f2)) ∧ w'.cell? ⟨go15, ((ji9)).toNat * 4 + 3, none⟩ = some (.string ((rd_T58 x3_2 (ji9)).f3))) (ds := [15, 17]) (ba 18 0) (by kernel_rfl) rfl rfl ⟨hx109_0, hx109_1, hx109_2, hx109_3, hx110_0, hx110_1, hx110_2, hx110_3⟩ (fun hHeld => ?_); refine with_tabW pouchref06_Sort.tab8 pouchref06_Sort.bits8 (fun HT_ HW_ => ?_)
            generalize w17.drew = w18 at HO_3 HB GG15 HQ19 HQ20 hf15_0 hf15_1 hf15_2 hf15_3 hf16_0 hf16_1 hf16_2 hf16_3 hx107_0 hx107_1 hx107_2 hx107_3 hx108_0 hx108_1 hx108_2 hx108_3 hx109_0 hx109_1 hx109_2 hx109_3 hx110_0 hx110_1 hx110_2 hx110_3 hx15_0 hx15_1 hx15_2 hx15_3 hx16_0 hx16_1 hx16_2 hx16_3 hHeld ⊢
            refine pq_ 0 34 1 ?_
            refine pq_ 1 35 3 ?_
            refine pq_ 2 36 7 ?_
            refine pq_ 3 37 15 ?_
            refine pq_ 4 38 31 ?_
            refine pq_ 5 39 63 ?_
            refine pq_ 6 40 127 ?_
            refine pq_ 7 41 255 ?_
            refine pq_ 9 43 767 ?_
            refine pq_ 10 44 1791 ?_
            refine pq_ 11 45 3839 ?_
            refine pq_ 12 46 7935 ?_
            refine tr_ 8 42 8191 ?_ (hy := z20z0)
            refine tr_ 13 47 16383 ?_ (hy := z20z0)
            refine pq_ 14 48 32767 ?_
            refine last_ (i := 15) (N := none) (ba 18 65535) rfl rfl (one_of HT_.out (by kernel_rfl)) (by decide) (fun K hK => ?_)
            refine skip_ (w1 := ?_) (by rfl) rfl ?_ ?_
            rotate_left
            ·go_simp
             rfl
            refine hK.out _ _ ?_
            clear hK K
            refine pq_ 16 49 131071 ?_
            have hneq_ : ji9.toNat ≠ x5_2.toNat := by have a_ := of_eq_true p15; have b_ := of_eq_true p16; have c_ := hji9; unfold wrap64 at c_; omega
            have hza_0 : ∀ v, (w18.setCell ⟨go15, ji9.toNat * 4, none⟩ v).cell? ⟨go15, x5_2.toNat * 4, none⟩ = some (.int .u8 ((rd_T58 x3_2 x5_2).f0)) := fun v => (World.cell?_setCell_other _ _ _ _ z20z1).trans hx109_0
            have hfa_0 : w18.frozen? ⟨go15, x5_2.toNat * 4, none⟩ = false := (World.frozen?_setCells _ _ _ _ _).symm.trans hf16_0
            have hza_1 : ∀ v, (w18.setCell ⟨go15, ji9.toNat * 4 + 1, none⟩ v).cell? ⟨go15, x5_2.toNat * 4 + 1, none⟩ = some (.int .u32 ((rd_T58 x3_2 x5_2).f1)) := fun v => (World.cell?_setCell_other _ _ _ _ z20z1).trans hx109_1
            have hfa_1 : w18.frozen? ⟨go15, x5_2.toNat * 4 + 1, none⟩ = false := (World.frozen?_setCells _ _ _ _ _).symm.trans hf16_1
            have hza_2 : ∀ v, (w18.setCell ⟨go15, ji9.toNat * 4 + 2, none⟩ v).cell? ⟨go15, x5_2.toNat * 4 + 2, none⟩ = some (.string ((rd_T58 x3_2 x5_2).f2)) := fun v => (World.cell?_setCell_other _ _ _ _ z20z1).trans hx109_2
            have hfa_2 : w18.frozen? ⟨go15, x5_2.toNat * 4 + 2, none⟩ = false := (World.frozen?_setCells _ _ _ _ _).symm.trans hf16_2
            have hza_3 : ∀ v, (w18.setCell ⟨go15, ji9.toNat * 4 + 3, none⟩ v).cell? ⟨go15, x5_2.toNat * 4 + 3, none⟩ = some (.string ((rd_T58 x3_2 x5_2).f3)) := fun v => (World.cell?_setCell_other _ _ _ _ z20z1).trans hx109_3
            have hfa_3 : w18.frozen? ⟨go15, x5_2.toNat * 4 + 3, none⟩ = false := (World.frozen?_setCells _ _ _ _ _).symm.trans hf16_3
            refine last_ (i := 17) (N := none) (ba 18 262143) rfl rfl (one_of HT_.out (by kernel_rfl)) (by decide) (fun K hK => ?_)
            refine skip_ (w1 := ?_) (by rfl) rfl ?_ ?_
            rotate_left
            ·go_simp
             rfl
            refine hK.out _ _ ?_
            clear hK K
            refine done_ (done_of HT_.out (by kernel_rfl)) ?_
            try go_wp2
            (try simp only [← hl3_2])
            go_roundg k2
            case measure => have := HK1.out; have := HK2.out; omega
            case rel => exact ⟨(y112), (ji9), y27_, H', ⟨z20z3⟩, ⟨by (try simp only [hl3_2]); (with_reducible repeat (first | apply Kd.R_alloc | apply Kd.R_drewN | apply Kd.R_drew)); exact HQ20.out⟩, ⟨by repeat (first | (with_reducible first | exact HB.out | apply below_alloc | apply pw_below_drewN | apply below_drew1 | refine below_set ?_ GB15.out | refine below_set ?_ GB15.out | refine below_set ?_ GB15.out | refine below_set ?_ GB15.out | refine below_set ?_ GB15.out | refine below_set ?_ GB15.out | refine below_set ?_ GB15.out | refine below_set ?_ GB15.out) | exact HB.out)⟩⟩
           ·rw [if_neg c14] at H
            have c14b0 := decide_eq_false c14
            clear c14
            have H' := Aside0.mk H
            clear H
            try go_wp2
            have n0_ := Aside0.mk (Kd.R_drew HO_3.out)
            have n1_ := Aside0.mk (below_drew1 HB.out)
            clear HO_3
            clear HB
            have HO_3 := n0_
            have HB := n1_
            clear n0_ n1_
            have p107 : 0 ≤ ((ji9) : Int) := of_decide_eq_true y5_
            have q107 : (ji9) < (x3_2.length : Int) := of_decide_eq_true y5_
            obtain ⟨ad107, e107, hx107_0, hx107_1, hx107_2, hx107_3⟩ := at_T58 (Kd.R_reads' HO_3.out).2.2 (ji9) p107 q107
            cases e107
            replace p107 := eq_true p107
            replace q107 := eq_true q107
            have p108 : 0 ≤ (x5_2 : Int) := of_decide_eq_true y5_
            have q108 : x5_2 < (x3_2.length : Int) := of_decide_eq_true y5_
            obtain ⟨ad108, e108, hx108_0, hx108_1, hx108_2, hx108_3⟩ := at_T58 (Kd.R_reads' HO_3.out).2.2 x5_2 p108 q108
            obtain rfl : ad107 = ad108 := (by injection e108)
            replace p108 := eq_true p108
            replace q108 := eq_true q108
            refine start_ (n := 16) (S := fun w' => w'.cell? (ad107.add (((ji9)).toNat * 4)) = some (.int .u8 ((rd_T58 x3_2 (ji9)).f0)) ∧ w'.cell? ⟨(ad107.add (((ji9)).toNat * 4)).block, (ad107.add (((ji9)).toNat * 4)).off + 1, none⟩ = some (.int .u32 ((rd_T58 x3_2 (ji9)).f1)) ∧ w'.cell? ⟨(ad107.add (((ji9)).toNat * 4)).block, (ad107.add (((ji9)).toNat * 4)).off + 2, none⟩ = some (.string ((rd_T58 x3_2 (ji9)).f2)) ∧ w'.cell? ⟨(ad107.add (((ji9)).toNat * 4)).block, (ad107.add (((ji9)).toNat * 4)).off + 3, none⟩ = some (.string ((rd_T58 x3_2 (ji9)).f3)) ∧ w'.cell? (ad107.add ((x5_2).toNat * 4)) = some (.int .u8 ((rd_T58 x3_2 x5_2).f0)) ∧ w'.cell? ⟨(ad107.add ((x5_2).toNat * 4)).block, (ad107.add ((x5_2).toNat * 4)).off + 1, none⟩ = some (.int .u32 ((rd_T58 x3_2 x5_2).f1)) ∧ w'.cell? ⟨(ad107.add ((x5_2).toNat * 4)).block, (ad107.add ((x5_2).toNat * 4)).off + 2, none⟩ = some (.string ((rd_T58 x3_2 x5_2).f2)) ∧ w'.cell? ⟨(ad107.add ((x5_2).toNat * 4)).block, (ad107.add ((x5_2).toNat * 4)).off + 3, none⟩ = some (.string ((rd_T58 x3_2 x5_2).f3))) (ds := []) (ba 16 0) (by kernel_rfl) rfl rfl ⟨hx107_0, hx107_1, hx107_2, hx107_3, hx108_0, hx108_1, hx108_2, hx108_3⟩ (fun hHeld => ?_); refine with_tabW pouchref06_Sort.tab6 pouchref06_Sort.bits6 (fun HT_ HW_ => ?_)
            generalize wr.drew = w21 at HO_3 HB hx107_0 hx107_1 hx107_2 hx107_3 hx108_0 hx108_1 hx108_2 hx108_3 hHeld ⊢
            refine pq_ 0 16 1 ?_
            refine pq_ 1 17 3 ?_
            refine pq_ 2 18 7 ?_
            refine pq_ 3 19 15 ?_
            refine pq_ 4 20 31 ?_
            refine pq_ 5 21 63 ?_
            refine pq_ 6 22 127 ?_
            refine pq_ 7 23 255 ?_
            refine pq_ 9 25 767 ?_
            refine pq_ 10 26 1791 ?_
            refine pq_ 11 27 3839 ?_
            refine pq_ 12 28 7935 ?_
            refine tr_ 8 24 8191 ?_ (hy := z20z0)
            refine tr_ 13 29 16383 ?_ (hy := z20z0)
            refine pq_ 14 30 32767 ?_
            refine pq_ 15 31 65535 ?_
            refine done_ (done_of HT_.out (by kernel_rfl)) ?_
            try go_wp2
            (try simp only [← hl3_2])
            go_roundg k2
            case measure => have := HK1.out; have := HK2.out; omega
            case rel => exact ⟨(x3_2), (wrap64 (x4_1 + 1)), y7_, H', ⟨z20z3⟩, ⟨z20z2⟩, ⟨y0_⟩⟩
          ·rw [if_neg c13] at H
           exact absurd H (by simp)
         ·rw [if_neg c12] at H
          exact absurd H (by simp)
        ·rw [if_neg c11] at H
         exact absurd H (by simp)
       ·rw [if_neg c10] at H
        exact absurd H (by simp)
      ·rw [if_neg c8] at H
       have c8b0 := decide_eq_false c8
       clear c8
       have H' := Aside0.mk H
       clear H
       try go_wp2
       have n0_ := Aside0.mk (Kd.R_drew HO_3.out)
       have n1_ := Aside0.mk (below_drew1 HB.out)
       clear HO_3
       clear HB
       have HO_3 := n0_
       have HB := n1_
       clear n0_ n1_
       refine start_ (n := 16) (S := fun w' => True) (ds := []) (ba 16 0) (by kernel_rfl) rfl rfl trivial (fun hHeld => ?_); refine with_tabW pouchref06_Sort.tab6 pouchref06_Sort.bits6 (fun HT_ HW_ => ?_)
       generalize wr.drew = w22 at HO_3 HB hHeld ⊢
       refine pq_ 0 16 1 ?_
       refine pq_ 1 17 3 ?_
       refine pq_ 2 18 7 ?_
       refine uq_ 3 19 15 ?_
       refine uq_ 4 20 31 ?_
       refine uq_ 5 21 63 ?_
       refine uq_ 6 22 127 ?_
       refine uq_ 7 23 255 ?_
       refine uq_ 8 24 511 ?_
       refine uq_ 9 25 1023 ?_
       refine uq_ 10 26 2047 ?_
       refine uq_ 11 27 4095 ?_
       refine uq_ 12 28 8191 ?_
       refine uq_ 13 29 16383 ?_
       refine uq_ 14 30 32767 ?_
       refine pq_ 15 31 65535 ?_
       refine done_ (done_of HT_.out (by kernel_rfl)) ?_
       try go_wp2
       (try simp only [← hl3_2])
       go_roundg k2
       case measure => have := HK1.out; have := HK2.out; omega
       case rel => exact ⟨(x3_2), (wrap64 (x4_1 + 1)), y7_, H', ⟨z20z3⟩, ⟨z20z2⟩, ⟨y0_⟩⟩
   ·rw [if_neg c6] at H
    have c6b0 := decide_eq_false c6
    clear c6
    obtain rfl := Option.some.inj H
    obtain ⟨Ao23, co23, eo23⟩ := Kd.R_slice HO_3.out
    subst eo23
    go_wp2
    go_ret
    exact ⟨_, y4_, y23_, y0_⟩
end Go.Proofs.YtkmkgpigmldhnaaDoor.P
namespace Go.Proofs.YtkmkgpigmldhnaaDoor.P
open Go.RowKit Go.Proofs.YtkmkgpigmldhnaaDoorW.PrintWords Go.Proofs.YtkmkgpigmldhnaaDoorW.PrintLast Go.Proofs.YtkmkgpigmldhnaaDoorW.PrintMore
attribute [local go_sem] max2_int min2_int max_two min_two max_three min_three max_four min_four
def pouchref06_Get.l0 : Nat → List (S58) → Int → Int → Option (Int × Int × ByteArray × ByteArray × Bool)
  | 0, _, _, _ => none
  | k + 1, x0, x1, x6 => if x6 < (x0.length : Int) then (if 0 ≤ x6 then (if ((rd_T58 x0 x6).f0) = x1 then (some ((rd_T58 x0 x6).f0, (rd_T58 x0 x6).f1, (rd_T58 x0 x6).f2, (rd_T58 x0 x6).f3, true)) else (pouchref06_Get.l0 k x0 x1 (wrap64 (x6 + 1)))) else (none)) else (some (0, 0, (⟨#[]⟩ : ByteArray), (⟨#[]⟩ : ByteArray), false))
def pouchref06_Get.f (k : Nat) (l0 : List (S58)) (a1 : Int) : Option (Int × Int × ByteArray × ByteArray × Bool) := pouchref06_Get.l0 k l0 a1 0
theorem z28m0 {p : Prop} (h : p := by
 repeat' first
 | (with_reducible exact ih0 _ _ _)
 | (with_reducible exact LeO.refl _)
 | (with_reducible exact LeO.none _)
 | (with_reducible refine LeO.ite ?_ ?_)
 | (with_reducible refine LeO.bind ?_ (fun _ => ?_))
 | exact ih0 _ _ _
 | exact LeO.none _
 | refine LeO.ite ?_ ?_
 | refine LeO.bind ?_ (fun _ => ?_)) : p := h
theorem pouchref06_Get.mono_l : ∀ k, (∀ y0 y1 y2, LeO (pouchref06_Get.l0 k y0 y1 y2) (pouchref06_Get.l0 (k + 1) y0 y1 y2))
  | 0 => fun _ _ _ r h => by simp [pouchref06_Get.l0] at h
  | k + 1 => by
    have ih0 := pouchref06_Get.mono_l k
    · intro y0 y1 y2
      unfold pouchref06_Get.l0
      exact z28m0
theorem pouchref06_Get.mono : ∀ a0 a1 k, LeO (pouchref06_Get.f k a0 a1) (pouchref06_Get.f (k + 1) a0 a1) := by
  intro a0 a1 k
  have ih0 := pouchref06_Get.mono_l k
  unfold pouchref06_Get.f
  exact z28m0
theorem pouchref06_Get.calls (k : Nat) (A0 : Option Addr) (c0 : Nat) (l0 : List (S58)) (a1 : Int) (r1 : Int) (r2 : Int) (r3 : ByteArray) (r4 : ByteArray) (r5 : Bool) (w : World) (hr0 : Kd.C k58 w A0 l0.length l0) (hc0 : l0.length ≤ c0) (h : pouchref06_Get.f k l0 a1 = some (r1, r2, r3, r4, r5)) :
    Calls Tryd.prog 28 #[.slice A0 l0.length c0, .int .u8 a1] w fun e w' => e = .returned (.tuple #[.agg #[.int .u8 r1, .int .u32 r2, .string r3, .string r4], .bool r5]) ∧ Below w.heap.size w w' := by
  have hu58 := Tryd.underlying58
  have HR0 := Aside0.mk hr0
  have HC0 := Aside0.mk hc0
  clear hr0 hc0
  have HB := Aside0.mk (Below.refl w.heap.size w)
  have H : (pouchref06_Get.l0 k l0 a1 0) = some (r1, r2, r3, r4, r5) := h
  clear h
  have H' := Aside0.mk H
  clear H
  go_enter Tryd.func28, Tryd.ntmps28
  go_wp2_with (first | ((with_reducible refine gate_dst (N := 4) rfl ?_); refine box_event ?hg (N := 4) ?hd (cs := #[.int .u8 0, .int .u32 0, .string (⟨#[]⟩ : ByteArray), .string (⟨#[]⟩ : ByteArray)]) (t := 58) ?hr ?_; (case hd => rfl); (case hg => rfl); (case hr => first | (go_simp; done) | (go_simp; rfl)); intro gb101 hg w3 hbox hb; have n0_ := Aside0.mk (below_step y0_ hb); have n1_ := Aside0.mk (hbox); have n2_ := Aside0.mk ((by rw [hg]; exact (below_size y0_) : w.heap.size ≤ gb101)); have n3_ := Aside0.mk ((by rw [hg]; exact (below_size y0_) : w.heap.size ≤ gb101)); clear HB; have HB := n0_; have BK101 := n1_; have GW101 := n2_; have GE101 := n3_; clear n0_ n1_ n2_ n3_; clear hb hbox hg))
  go_loopg [6] k (fun kq v6 w' => ∃ (x6_1 : Int) (x102000_1 : Int) (x102001_1 : Int) (x102002_1 : ByteArray) (x102003_1 : ByteArray), v6 = .int .i64 x6_1 ∧ Aside0 (pouchref06_Get.l0 kq l0 a1 x6_1 = some (r1, r2, r3, r4, r5)) ∧ Aside0 (kq ≤ k) ∧ Aside0 (w'.heap[gb101]? = some (.cells #[.int .u8 x102000_1, .int .u32 x102001_1, .string x102002_1, .string x102003_1] 58 (0, 0))) ∧ Aside0 (Below w.heap.size w w'))
  case atStart => exact ⟨(0), (0), (0), ((⟨#[]⟩ : ByteArray)), ((⟨#[]⟩ : ByteArray)), y7_, H', ⟨Nat.le_refl _⟩, ⟨y3_⟩, ⟨y1_⟩⟩
  case round =>
    clear H'
    try clear c2
    try clear p2
    obtain ⟨x6_1, x102000_1, x102001_1, x102002_1, x102003_1, rfl, HA, HK1, BK101, HB⟩ := hrel
    cases gk with
    | zero => exact absurd HA.out (by simp [pouchref06_Get.l0])
    | succ k1 =>
      have H := HA.out
      clear HA
      simp only [pouchref06_Get.l0] at H
      by_cases c4 : x6_1 < (l0.length : Int)
      · rw [if_pos c4] at H
        have c4b0 := decide_eq_true c4
        clear c4
        by_cases c5 : 0 ≤ x6_1
        · rw [if_pos c5] at H
          have c5b0 := decide_eq_true c5
          clear c5
          by_cases c6 : ((rd_T58 l0 x6_1).f0) = a1
          · rw [if_pos c6] at H
            obtain ⟨c6b0, c6b1⟩ := eqt_ c6
            clear c6
            simp only [Option.some.injEq, Prod.mk.injEq] at H
            obtain ⟨rfl, rfl, rfl, rfl, rfl⟩ := H
            have p102 : 0 ≤ (x6_1 : Int) := of_decide_eq_true y5_
            have q102 : x6_1 < (l0.length : Int) := of_decide_eq_true y5_
            obtain ⟨ad102, e102, hx102_0, hx102_1, hx102_2, hx102_3⟩ := at_T58 HR0.out x6_1 p102 q102
            cases e102
            replace hx102_0 := (HB.out.cell (World.block_lt_of_cell? w _ hx102_0)).trans hx102_0
            replace hx102_1 := (HB.out.cell (World.block_lt_of_cell? w _ hx102_1)).trans hx102_1
            replace hx102_2 := (HB.out.cell (World.block_lt_of_cell? w _ hx102_2)).trans hx102_2
            replace hx102_3 := (HB.out.cell (World.block_lt_of_cell? w _ hx102_3)).trans hx102_3
            replace p102 := eq_true p102
            replace q102 := eq_true q102
            have p103 : 0 ≤ (x6_1 : Int) := of_decide_eq_true y5_
            have q103 : x6_1 < (l0.length : Int) := of_decide_eq_true y5_
            obtain ⟨ad103, e103, hx103_0, hx103_1, hx103_2, hx103_3⟩ := at_T58 HR0.out x6_1 p103 q103
            obtain rfl : ad102 = ad103 := (by injection e103)
            replace hx103_0 := (HB.out.cell (World.block_lt_of_cell? w _ hx103_0)).trans hx103_0
            replace hx103_1 := (HB.out.cell (World.block_lt_of_cell? w _ hx103_1)).trans hx103_1
            replace hx103_2 := (HB.out.cell (World.block_lt_of_cell? w _ hx103_2)).trans hx103_2
            replace hx103_3 := (HB.out.cell (World.block_lt_of_cell? w _ hx103_3)).trans hx103_3
            replace p103 := eq_true p103
            replace q103 := eq_true q103
            have hcz7_0 : wr.cell? ⟨gb101, 0, none⟩ = some (.int .u8 x102000_1) := (blk_cell BK101.out 0).trans rfl
            have hcz7_1 : wr.cell? ⟨gb101, 1, none⟩ = some (.int .u32 x102001_1) := (blk_cell BK101.out 1).trans rfl
            have hcz7_2 : wr.cell? ⟨gb101, 2, none⟩ = some (.string x102002_1) := (blk_cell BK101.out 2).trans rfl
            have hcz7_3 : wr.cell? ⟨gb101, 3, none⟩ = some (.string x102003_1) := (blk_cell BK101.out 3).trans rfl
            have hfz7_0 := blk_frozen BK101.out 0
            have hfz7_1 := blk_frozen BK101.out 1
            have hfz7_2 := blk_frozen BK101.out 2
            have hfz7_3 := blk_frozen BK101.out 3
            go_wp2
            refine bodyPost_ret (results_ct rfl _ _ gb101 58 #[.int .u8 ((rd_T58 l0 x6_1).f0), .int .u32 ((rd_T58 l0 x6_1).f1), .string ((rd_T58 l0 x6_1).f2), .string ((rd_T58 l0 x6_1).f3)] (0, 0) _ rfl (by (with_reducible repeat (first | refine blk_drewN ?_ _ | refine blk_drew ?_ | refine blk_alloc ?_ _)); refine blk_put (cs := #[.int .u8 ((rd_T58 l0 x6_1).f0), .int .u32 ((rd_T58 l0 x6_1).f1), .string ((rd_T58 l0 x6_1).f2), .string x102003_1]) ?_ 3 _ rfl; (with_reducible repeat (first | refine blk_drewN ?_ _ | refine blk_drew ?_ | refine blk_alloc ?_ _)); refine blk_put (cs := #[.int .u8 ((rd_T58 l0 x6_1).f0), .int .u32 ((rd_T58 l0 x6_1).f1), .string x102002_1, .string x102003_1]) ?_ 2 _ rfl; (with_reducible repeat (first | refine blk_drewN ?_ _ | refine blk_drew ?_ | refine blk_alloc ?_ _)); refine blk_put (cs := #[.int .u8 ((rd_T58 l0 x6_1).f0), .int .u32 x102001_1, .string x102002_1, .string x102003_1]) ?_ 1 _ rfl; (with_reducible repeat (first | refine blk_drewN ?_ _ | refine blk_drew ?_ | refine blk_alloc ?_ _)); refine blk_put (cs := #[.int .u8 x102000_1, .int .u32 x102001_1, .string x102002_1, .string x102003_1]) ?_ 0 _ rfl; (with_reducible repeat (first | refine blk_drewN ?_ _ | refine blk_drew ?_ | refine blk_alloc ?_ _)); exact BK101.out) Tryd.underlying58 rfl (by kernel_rfl)) rfl ?_
            exact ⟨y4_, y1_⟩
          · rw [if_neg c6] at H
            obtain ⟨c6b0, c6b1⟩ := eqf_ c6
            have H' := Aside0.mk H
            clear H
            have p102 : 0 ≤ (x6_1 : Int) := of_decide_eq_true y5_
            have q102 : x6_1 < (l0.length : Int) := of_decide_eq_true y5_
            obtain ⟨ad102, e102, hx102_0, hx102_1, hx102_2, hx102_3⟩ := at_T58 HR0.out x6_1 p102 q102
            cases e102
            replace hx102_0 := (HB.out.cell (World.block_lt_of_cell? w _ hx102_0)).trans hx102_0
            replace hx102_1 := (HB.out.cell (World.block_lt_of_cell? w _ hx102_1)).trans hx102_1
            replace hx102_2 := (HB.out.cell (World.block_lt_of_cell? w _ hx102_2)).trans hx102_2
            replace hx102_3 := (HB.out.cell (World.block_lt_of_cell? w _ hx102_3)).trans hx102_3
            replace p102 := eq_true p102
            replace q102 := eq_true q102
            go_wp2
            go_roundg k1
            case measure => have := HK1.out; omega
            case rel => exact ⟨(wrap64 (x6_1 + 1)), (x102000_1), (x102001_1), (x102002_1), (x102003_1), y7_, H', ⟨y25_⟩, ⟨y3_⟩, ⟨y1_⟩⟩
        · rw [if_neg c5] at H
          exact absurd H (by simp)
      · rw [if_neg c4] at H
        have c4b0 := decide_eq_false c4
        clear c4
        simp only [Option.some.injEq, Prod.mk.injEq] at H
        obtain ⟨rfl, rfl, rfl, rfl, rfl⟩ := H
        have hcz8_0 : wr.cell? ⟨gb101, 0, none⟩ = some (.int .u8 x102000_1) := (blk_cell BK101.out 0).trans rfl
        have hcz8_1 : wr.cell? ⟨gb101, 1, none⟩ = some (.int .u32 x102001_1) := (blk_cell BK101.out 1).trans rfl
        have hcz8_2 : wr.cell? ⟨gb101, 2, none⟩ = some (.string x102002_1) := (blk_cell BK101.out 2).trans rfl
        have hcz8_3 : wr.cell? ⟨gb101, 3, none⟩ = some (.string x102003_1) := (blk_cell BK101.out 3).trans rfl
        have hfz8_0 := blk_frozen BK101.out 0
        have hfz8_1 := blk_frozen BK101.out 1
        have hfz8_2 := blk_frozen BK101.out 2
        have hfz8_3 := blk_frozen BK101.out 3
        go_wp2
        refine bodyPost_ret (results_ct rfl _ _ gb101 58 #[.int .u8 0, .int .u32 0, .string (⟨#[]⟩ : ByteArray), .string (⟨#[]⟩ : ByteArray)] (0, 0) _ rfl (by (with_reducible repeat (first | refine blk_drewN ?_ _ | refine blk_drew ?_ | refine blk_alloc ?_ _)); refine blk_put (cs := #[.int .u8 0, .int .u32 0, .string (⟨#[]⟩ : ByteArray), .string x102003_1]) ?_ 3 _ rfl; (with_reducible repeat (first | refine blk_drewN ?_ _ | refine blk_drew ?_ | refine blk_alloc ?_ _)); refine blk_put (cs := #[.int .u8 0, .int .u32 0, .string x102002_1, .string x102003_1]) ?_ 2 _ rfl; (with_reducible repeat (first | refine blk_drewN ?_ _ | refine blk_drew ?_ | refine blk_alloc ?_ _)); refine blk_put (cs := #[.int .u8 0, .int .u32 x102001_1, .string x102002_1, .string x102003_1]) ?_ 1 _ rfl; (with_reducible repeat (first | refine blk_drewN ?_ _ | refine blk_drew ?_ | refine blk_alloc ?_ _)); refine blk_put (cs := #[.int .u8 x102000_1, .int .u32 x102001_1, .string x102002_1, .string x102003_1]) ?_ 0 _ rfl; (with_reducible repeat (first | refine blk_drewN ?_ _ | refine blk_drew ?_ | refine blk_alloc ?_ _)); exact BK101.out) Tryd.underlying58 rfl (by kernel_rfl)) rfl ?_
        exact ⟨y4_, y1_⟩
end Go.Proofs.YtkmkgpigmldhnaaDoor.P
