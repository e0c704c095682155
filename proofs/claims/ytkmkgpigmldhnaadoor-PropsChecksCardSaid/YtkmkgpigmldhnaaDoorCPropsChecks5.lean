import Derived.Lib.EndianBits
import Derived.Lib.IndexAny
import Derived.Lib.IndexMore
import Derived.Lib.SplitLaws
import Derived.Lib.ValidLaws
import Derived.Lib.Varint
import Derived.Test.YtkmkgpigmldhnaaDoorCPropsChecks0
import Derived.Test.YtkmkgpigmldhnaaDoorCPropsChecks1
import Derived.Test.YtkmkgpigmldhnaaDoorCPropsChecks2
import Derived.Test.YtkmkgpigmldhnaaDoorCPropsChecks3
import Derived.Test.YtkmkgpigmldhnaaDoorCPropsChecks4
set_option linter.unusedVariables false
set_option linter.unusedSimpArgs false
set_option maxHeartbeats 8000000
set_option maxRecDepth 100000
namespace Go.Proofs.YtkmkgpigmldhnaaDoor.P
open Go.RowKit Go.Proofs.YtkmkgpigmldhnaaDoorW.PrintWords Go.Proofs.YtkmkgpigmldhnaaDoorW.PrintLast Go.Proofs.YtkmkgpigmldhnaaDoorW.PrintMore
attribute [local go_sem] max2_int min2_int max_two min_two max_three min_three max_four min_four
attribute [local go_sem high] eqA58
def pouchlaw06_PropsChecks.f (k : Nat) (a0 : Int) (l1 : List (S58)) (a2 : Int) : Option (Bool) := (pouchlaw06_few.f k l1).bind fun t101 => (if t101 = true then ((pouchlaw06_To.f k l1).bind fun t103 => ((props_Get.f t103 a2).bind fun bt106 => ((pouchref06_Get.f k l1 a2).bind fun bt112 => ((props_Sort.f t103).bind fun t118 => ((pouchlaw06_told.f k).bind fun t121 => (if t121 = true then ((props_Check.f k a0 t103).bind fun t122 => ((pouchref06_Check.f k a0 l1).bind fun t123 => (if (t122 == t123) = true then (if (bt106.2.2.2.2 == bt112.2.2.2.2) = true then ((pouchlaw05_From.f bt106.1 bt106.2.1 bt106.2.2.1 bt106.2.2.2.1).bind fun bt124 => (if (bt124.1 == bt112.1 && (bt124.2.1 == bt112.2.1 && (bt124.2.2.1.toList == bt112.2.2.1.toList && (bt124.2.2.2.toList == bt112.2.2.2.1.toList)))) = true then ((pouchlaw06_From.f k t118).bind fun t128 => ((pouchref06_Sort.f k l1).bind fun t131 => ((pouchref06_Same.f k t128 t131).bind fun t134 => (if t134 = true then ((props_Same.f k t103 t118).bind fun t135 => ((pouchref06_Sort.f k l1).bind fun t136 => ((pouchref06_Same.f k l1 t136).bind fun t139 => (if (t135 == t139) = true then ((pouchlaw06_From.f k t103).bind fun t140 => ((pouchref06_Same.f k t140 l1).bind fun t143 => (some t143))) else (some false))))) else (some false))))) else (some false))) else (some false)) else (some false)))) else (some false))))))) else ((pouchlaw06_told.f k).bind fun t102 => (some t102)))
theorem pouchlaw06_PropsChecks.mono : ∀ a0 a1 a2 k, LeO (pouchlaw06_PropsChecks.f k a0 a1 a2) (pouchlaw06_PropsChecks.f (k + 1) a0 a1 a2) := by
  intro a0 a1 a2 k
  unfold pouchlaw06_PropsChecks.f
  repeat' first
      | (with_reducible exact pouchlaw06_From.mono _ _)
      | (with_reducible exact pouchlaw06_To.mono _ _)
      | (with_reducible exact pouchlaw06_few.mono _ _)
      | (with_reducible exact pouchlaw06_told.mono _)
      | (with_reducible exact pouchref06_Check.mono _ _ _)
      | (with_reducible exact pouchref06_Get.mono _ _ _)
      | (with_reducible exact pouchref06_Same.mono _ _ _)
      | (with_reducible exact pouchref06_Sort.mono _ _)
      | (with_reducible exact props_Check.mono _ _ _)
      | (with_reducible exact props_Same.mono _ _ _)
      | (with_reducible exact LeO.refl _)
      | (with_reducible exact LeO.none _)
      | (with_reducible refine LeO.ite ?_ ?_)
      | (with_reducible refine LeO.bind ?_ (fun _ => ?_))
      | exact pouchlaw06_From.mono _ _
      | exact pouchlaw06_To.mono _ _
      | exact pouchlaw06_few.mono _ _
      | exact pouchlaw06_told.mono _
      | exact pouchref06_Check.mono _ _ _
      | exact pouchref06_Get.mono _ _ _
      | exact pouchref06_Same.mono _ _ _
      | exact pouchref06_Sort.mono _ _
      | exact props_Check.mono _ _ _
      | exact props_Same.mono _ _ _
      | exact LeO.none _
      | refine LeO.ite ?_ ?_
      | refine LeO.bind ?_ (fun _ => ?_)
def pouchlaw06_PropsChecks.T7 : Bool × List (List Nat × List Nat) := (true, [([], []), ([0, 0], [0]), ([1], [1]), ([1], [1]), ([2, 3, 1, 1], [1, 2, 3]), ([1], [1]), ([1], [1]), ([5, 6, 4, 1], [1, 5, 6]), ([4, 7, 1], [1, 4, 7]), ([1, 8], [1, 8]), ([9, 7], [9]), ([10], [10]), ([10], [10]), ([11, 12, 10], [10, 11, 12]), ([10, 13], [10, 13]), ([14, 10], [14]), ([15], [15]), ([16, 15, 15], [15, 16]), ([15], [15]), ([17, 18, 15], [15, 17, 18]), ([15, 19], [15, 19]), ([20, 17], [20]), ([21], [21]), ([22, 21, 21], [21, 22]), ([21], [21]), ([24, 23, 21], [21, 24]), ([23, 25, 25, 21], [21, 23, 25]), ([21, 26], [21, 26]), ([27, 26], [27]), ([28], [28]), ([28], [28]), ([29, 30, 28, 28], [28, 29, 30]), ([28], [28]), ([28], [28]), ([33, 31, 28], [28, 33]), ([32, 34, 34, 28], [28, 32, 34]), ([31, 35, 28], [28, 31, 35]), ([28, 36], [28, 36]), ([37, 35], [37]), ([38], [38]), ([39, 38, 38], [38, 39]), ([38], [38]), ([40, 41, 40, 38], [38, 40, 41]), ([38, 42], [38, 42]), ([43, 42, 0, 1, 2, 3, 4, 5, 6, 7, 8, 9, 10, 11, 12, 13, 14, 15, 16, 17, 18, 19, 20, 21, 22, 23, 24, 25, 26, 27, 28, 29, 30, 31, 32, 33, 34, 35, 36, 37, 38, 39, 40, 41, 42, 43], [43])])
def pouchlaw06_PropsChecks.B7 : List Nat := [0, 1, 3, 3, 15, 3, 3, 127, 255, 511, 1023, 2047, 2047, 8191, 16383, 32767, 65535, 131071, 65535, 524287, 1048575, 2097151, 4194303, 8388607, 4194303, 33554431, 67108863, 134217727, 268435455, 536870911, 536870911, 2147483647, 536870911, 536870911, 12884901887, 34359738367, 68719476735, 137438953471, 274877906943, 549755813887, 1099511627775, 549755813887, 4398046511103, 8796093022207, 17592186044415]
theorem pouchlaw06_PropsChecks.tab7 : rtab .any (opsOf Tryd.f7 7) = pouchlaw06_PropsChecks.T7 := by kernel_rfl
theorem pouchlaw06_PropsChecks.bits7 : waitsOk pouchlaw06_PropsChecks.T7.2 pouchlaw06_PropsChecks.B7 = true := by kernel_rfl
theorem z7z0 {p : Prop} (h : p := by repeat (first | (with_reducible first | exact HB.out | apply below_alloc | apply pw_below_drewN | apply below_drew1 | refine below_set ?_ GE111.out | refine below_set ?_ GE117.out) | exact HB.out)) : p := h
theorem z7z1 {p : Prop} (h : p := by (with_reducible repeat (first | refine blk_drewN ?_ _ | refine blk_drew ?_ | refine blk_alloc ?_ _)); exact BK117.out) : p := h
theorem z7z2 {p : Prop} (h : p := by (with_reducible repeat (first | refine blk_drewN ?_ _ | refine blk_drew ?_ | refine blk_alloc ?_ _)); exact BK111.out) : p := h
theorem z7z3 {p : Prop} (h : p := by (with_reducible repeat (first | apply Kd.R_alloc | apply Kd.R_drewN | apply Kd.R_drew)); exact HO105.out) : p := h
theorem z7z4 {p : Prop} (h : p := by (with_reducible repeat (first | apply Kd.R_alloc | apply Kd.R_drewN | apply Kd.R_drew)); exact (Kd.R_mono (Kd.R_far (p := ⟨gb117, 3, none⟩) (Kd.R_far (p := ⟨gb117, 2, none⟩) (Kd.R_far (p := ⟨gb117, 1, none⟩) (Kd.R_far (p := ⟨gb117, 0, none⟩) (Kd.R_types HO105.out BK117.out (by decide)) (fun _ hk => hk.2) (.int .u8 t112)) (fun _ hk => hk.2) (.int .u32 t113)) (fun _ hk => hk.2) (.string t114)) (fun _ hk => hk.2) (.string t115)) (fun _ h_ => h_.1))) : p := h
theorem z7z5 {p : Prop} (h : p := by (with_reducible repeat (first | refine blk_drewN ?_ _ | refine blk_drew ?_ | refine blk_alloc ?_ _)); refine blk_far ?_ NB111_117.out _; (with_reducible repeat (first | refine blk_drewN ?_ _ | refine blk_drew ?_ | refine blk_alloc ?_ _)); refine blk_far ?_ NB111_117.out _; (with_reducible repeat (first | refine blk_drewN ?_ _ | refine blk_drew ?_ | refine blk_alloc ?_ _)); refine blk_far ?_ NB111_117.out _; (with_reducible repeat (first | refine blk_drewN ?_ _ | refine blk_drew ?_ | refine blk_alloc ?_ _)); refine blk_far ?_ NB111_117.out _; (with_reducible repeat (first | refine blk_drewN ?_ _ | refine blk_drew ?_ | refine blk_alloc ?_ _)); exact BK111.out) : p := h
theorem z7z6 {p : Prop} (h : p := by repeat (first | (with_reducible first | exact HB.out | apply below_alloc | apply pw_below_drewN | apply below_drew1 | refine below_set ?_ GE111.out) | exact HB.out)) : p := h
theorem z7z7 {p : Prop} (h : p := by repeat (first | exact (Kd.R_reads' HO105.out).2.2 | (with_reducible refine Kd.C_alloc ?_ _) | (with_reducible refine Kd.C_drewN ?_ _) | (with_reducible refine Kd.C_drew ?_))) : p := h
theorem z7z8 {p : Prop} (h : p := by repeat (first | exact (Kd.C_below HR1.out HB.out) | (with_reducible refine Kd.C_alloc ?_ _) | (with_reducible refine Kd.C_drewN ?_ _) | (with_reducible refine Kd.C_drew ?_))) : p := h
theorem z7z9 {p : Prop} (h : p := by (with_reducible repeat (first | apply Kd.R_alloc | apply Kd.R_drewN | apply Kd.R_drew)); exact HO130.out) : p := h
theorem z7z10 {p : Prop} (h : p := by (with_reducible repeat (first | apply Kd.R_alloc | apply Kd.R_drewN | apply Kd.R_drew)); exact HO133.out) : p := h
theorem z7z11 {p : Prop} (h : p := by repeat (first | exact HR1.out | (with_reducible refine Kd.C_alloc ?_ _) | (with_reducible refine Kd.C_drewN ?_ _) | (with_reducible refine Kd.C_drew ?_))) : p := h
theorem z7z12 {p : Prop} (h : p := by repeat (first | exact (Kd.R_reads' HO120.out).2.2 | (with_reducible refine Kd.C_alloc ?_ _) | (with_reducible refine Kd.C_drewN ?_ _) | (with_reducible refine Kd.C_drew ?_))) : p := h
theorem z7z13 {p : Prop} (h : p := by exact (Kd.R_reads' HO105.out).2.1) : p := h
theorem z7z14 {p : Prop} (h : p := by (with_reducible repeat (first | apply Kd.R_alloc | apply Kd.R_drewN | apply Kd.R_drew)); exact HO138.out) : p := h
theorem z7z15 {p : Prop} (h : p := by exact Or.inl ⟨by rfl, by rintro w' ⟨s0, s1, s2, s3, s4, s5, s6, s7⟩; go_simp; with_reducible rfl⟩) : p := h
theorem pouchlaw06_PropsChecks.calls0 (k : Nat) (a0 : Int) (A1 : Option Addr) (c1 : Nat) (l1 : List (S58)) (a2 : Int) (r : Bool) (w : World) (hr1 : Kd.C k58 w A1 l1.length l1) (hc1 : l1.length ≤ c1) (hG : GW w) (hrt : r = true) (h : pouchlaw06_PropsChecks.f k a0 l1 a2 = some r) :
  Calls Tryd.prog 7 #[.int .i64 a0, .slice A1 l1.length c1, .int .u8 a2] w fun e w' => e = .returned (.bool r) ∧ Below w.heap.size w w' := by
 have HRT_ := Aside0.mk hrt
 clear hrt
 have hu60 := Tryd.underlying60
 have hu58 := Tryd.underlying58
 have HR1 := Aside0.mk hr1
 have HC1 := Aside0.mk hc1
 clear hr1 hc1
 have HB := Aside0.mk (Below.refl w.heap.size w)
 have HG := Aside0.mk hG
 clear hG
 have H : ((pouchlaw06_few.f k l1).bind fun t101 => (if t101 = true then ((pouchlaw06_To.f k l1).bind fun t103 => ((props_Get.f t103 a2).bind fun bt106 => ((pouchref06_Get.f k l1 a2).bind fun bt112 => ((props_Sort.f t103).bind fun t118 => ((pouchlaw06_told.f k).bind fun t121 => (if t121 = true then ((props_Check.f k a0 t103).bind fun t122 => ((pouchref06_Check.f k a0 l1).bind fun t123 => (if (t122 == t123) = true then (if (bt106.2.2.2.2 == bt112.2.2.2.2) = true then ((pouchlaw05_From.f bt106.1 bt106.2.1 bt106.2.2.1 bt106.2.2.2.1).bind fun bt124 => (if (bt124.1 == bt112.1 && (bt124.2.1 == bt112.2.1 && (bt124.2.2.1.toList == bt112.2.2.1.toList && (bt124.2.2.2.toList == bt112.2.2.2.1.toList)))) = true then ((pouchlaw06_From.f k t118).bind fun t128 => ((pouchref06_Sort.f k l1).bind fun t131 => ((pouchref06_Same.f k t128 t131).bind fun t134 => (if t134 = true then ((props_Same.f k t103 t118).bind fun t135 => ((pouchref06_Sort.f k l1).bind fun t136 => ((pouchref06_Same.f k l1 t136).bind fun t139 => (if (t135 == t139) = true then ((pouchlaw06_From.f k t103).bind fun t140 => ((pouchref06_Same.f k t140 l1).bind fun t143 => (some t143))) else (some false))))) else (some false))))) else (some false))) else (some false)) else (some false)))) else (some false))))))) else ((pouchlaw06_told.f k).bind fun t102 => (some t102)))) = some r := h
 clear h
 replace H := Option.bind_eq_some_iff.mp H
 obtain ⟨t101, A40, H⟩ := H
 try dsimp -simprocs only at H
 have A4 := Aside0.mk A40
 clear A40
 by_cases c5 : t101 = true
 rotate_left
 ·replace c5 := Bool.eq_false_iff.mpr c5
  subst c5
  replace H : ((pouchlaw06_told.f k).bind fun t102 => (some t102)) = some r := by rw [if_neg (show ¬ (false = true) by decide)] at H; exact H
  replace H := Option.bind_eq_some_iff.mp H
  obtain ⟨t102, A1490, H⟩ := H
  replace H : (some t102) = some r := H
  have A149 := Aside0.mk A1490
  clear A1490
  obtain rfl := Option.some.inj H
  go_enter Tryd.func7, Tryd.ntmps7
  go_wp2_with (first | ((with_reducible refine gate_callee (f := 9) rfl ?_); refine goesL_ (some 14) rfl rfl Tryd.func9 (by kernel_rfl) rfl #[.slice A1 l1.length c1] rfl y2_ ?_; (with_reducible refine (pouchlaw06_few.calls k _ _ l1 false _ ?side1 ?side2 A4.out).mono ?_); (case side1 => exact z7z11); (case side2 => exact HC1.out); rintro e w' ⟨rfl, ⟨nd, rfl⟩⟩; refine ⟨_, rfl, ?_⟩) | ((with_reducible refine gate_callee (f := 10) rfl ?_); refine goesL_ (some 16) rfl rfl Tryd.func10 (by kernel_rfl) rfl #[] rfl y2_ ?_; (with_reducible refine (pouchlaw06_told.calls k  t102 _ ?side1 A149.out).mono ?_); (case side1 => exact GW.below HG.out y0_); rintro e w150 ⟨rfl, hb⟩; refine ⟨_, rfl, ?_⟩; replace HB := Aside0.mk (below_step y0_ hb); clear hb))
  go_ret
  exact ⟨y4_, y0_⟩
 subst c5
 have H1 : ((pouchlaw06_To.f k l1).bind fun t103 => ((props_Get.f t103 a2).bind fun bt106 => ((pouchref06_Get.f k l1 a2).bind fun bt112 => ((props_Sort.f t103).bind fun t118 => ((pouchlaw06_told.f k).bind fun t121 => (if t121 = true then ((props_Check.f k a0 t103).bind fun t122 => ((pouchref06_Check.f k a0 l1).bind fun t123 => (if (t122 == t123) = true then (if (bt106.2.2.2.2 == bt112.2.2.2.2) = true then ((pouchlaw05_From.f bt106.1 bt106.2.1 bt106.2.2.1 bt106.2.2.2.1).bind fun bt124 => (if (bt124.1 == bt112.1 && (bt124.2.1 == bt112.2.1 && (bt124.2.2.1.toList == bt112.2.2.1.toList && (bt124.2.2.2.toList == bt112.2.2.2.1.toList)))) = true then ((pouchlaw06_From.f k t118).bind fun t128 => ((pouchref06_Sort.f k l1).bind fun t131 => ((pouchref06_Same.f k t128 t131).bind fun t134 => (if t134 = true then ((props_Same.f k t103 t118).bind fun t135 => ((pouchref06_Sort.f k l1).bind fun t136 => ((pouchref06_Same.f k l1 t136).bind fun t139 => (if (t135 == t139) = true then ((pouchlaw06_From.f k t103).bind fun t140 => ((pouchref06_Same.f k t140 l1).bind fun t143 => (some t143))) else (some false))))) else (some false))))) else (some false))) else (some false)) else (some false)))) else (some false))))))) = some r := by rw [if_pos rfl] at H; exact H
 clear H
 have H := H1
 clear H1
 replace H := Option.bind_eq_some_iff.mp H
 obtain ⟨t103, A60, H⟩ := H
 try dsimp -simprocs only at H
 have A6 := Aside0.mk A60
 clear A60
 replace H := Option.bind_eq_some_iff.mp H
 obtain ⟨⟨t106, t107, t108, t109, t110⟩, A70, H⟩ := H
 try dsimp -simprocs only at H
 have A7 := Aside0.mk A70
 clear A70
 replace H := Option.bind_eq_some_iff.mp H
 obtain ⟨⟨t112, t113, t114, t115, t116⟩, A80, H⟩ := H
 try dsimp -simprocs only at H
 have A8 := Aside0.mk A80
 clear A80
 replace H := Option.bind_eq_some_iff.mp H
 obtain ⟨t118, A90, H⟩ := H
 try dsimp -simprocs only at H
 have A9 := Aside0.mk A90
 clear A90
 replace H := Option.bind_eq_some_iff.mp H
 obtain ⟨t121, A100, H⟩ := H
 try dsimp -simprocs only at H
 have A10 := Aside0.mk A100
 clear A100
 by_cases c11 : t121 = true
 rotate_left
 ·replace c11 := Bool.eq_false_iff.mpr c11
  subst c11
  replace H : (some false) = some r := by rw [if_neg (show ¬ (false = true) by decide)] at H; exact H
  exact absurd H y26_
 subst c11
 have H1 : ((props_Check.f k a0 t103).bind fun t122 => ((pouchref06_Check.f k a0 l1).bind fun t123 => (if (t122 == t123) = true then (if (t110 == t116) = true then ((pouchlaw05_From.f t106 t107 t108 t109).bind fun bt124 => (if (bt124.1 == t112 && (bt124.2.1 == t113 && (bt124.2.2.1.toList == t114.toList && (bt124.2.2.2.toList == t115.toList)))) = true then ((pouchlaw06_From.f k t118).bind fun t128 => ((pouchref06_Sort.f k l1).bind fun t131 => ((pouchref06_Same.f k t128 t131).bind fun t134 => (if t134 = true then ((props_Same.f k t103 t118).bind fun t135 => ((pouchref06_Sort.f k l1).bind fun t136 => ((pouchref06_Same.f k l1 t136).bind fun t139 => (if (t135 == t139) = true then ((pouchlaw06_From.f k t103).bind fun t140 => ((pouchref06_Same.f k t140 l1).bind fun t143 => (some t143))) else (some false))))) else (some false))))) else (some false))) else (some false)) else (some false)))) = some r := by rw [if_pos rfl] at H; exact H
 clear H
 have H := H1
 clear H1
 replace H := Option.bind_eq_some_iff.mp H
 obtain ⟨t122, A120, H⟩ := H
 try dsimp -simprocs only at H
 have A12 := Aside0.mk A120
 clear A120
 replace H := Option.bind_eq_some_iff.mp H
 obtain ⟨t123, A130, H⟩ := H
 try dsimp -simprocs only at H
 have A13 := Aside0.mk A130
 clear A130
 by_cases c14 : (t122 == t123) = true
 rotate_left
 ·rw [if_neg c14] at H
  have c14b0 : (t122 == t123) = false := by simpa using c14
  (try (have c14b1 : decide (t122 = t123) = false := by simpa using c14))
  (try (have c14b2 : (t122 == t123) = false := by simpa using c14))
  (try (have c14b3 : ¬ (t122 = t123) := by simpa using c14))
  clear c14
  exact absurd H y26_
 rw [if_pos c14] at H
 have c14b0 : (t122 == t123) = true := c14
 (try (have c14b1 : decide (t122 = t123) = true := by simpa using c14))
 (try (have c14b2 : (t122 == t123) = true := by simpa using c14))
 clear c14
 by_cases c15 : (t110 == t116) = true
 rotate_left
 ·rw [if_neg c15] at H
  have c15b0 : (t110 == t116) = false := by simpa using c15
  (try (have c15b1 : decide (t110 = t116) = false := by simpa using c15))
  (try (have c15b2 : (t110 == t116) = false := by simpa using c15))
  (try (have c15b3 : ¬ (t110 = t116) := by simpa using c15))
  clear c15
  exact absurd H y26_
 rw [if_pos c15] at H
 have c15b0 : (t110 == t116) = true := c15
 (try (have c15b1 : decide (t110 = t116) = true := by simpa using c15))
 (try (have c15b2 : (t110 == t116) = true := by simpa using c15))
 clear c15
 replace H := Option.bind_eq_some_iff.mp H
 obtain ⟨⟨t124, t125, t126, t127⟩, A160, H⟩ := H
 try dsimp -simprocs only at H
 have A16 := Aside0.mk A160
 clear A160
 by_cases c17 : (t124 == t112 && (t125 == t113 && (t126.toList == t114.toList && (t127.toList == t115.toList)))) = true
 rotate_left
 ·rw [if_neg c17] at H
  have c17b0 : (t124 == t112 && (t125 == t113 && (t126.toList == t114.toList && (t127.toList == t115.toList)))) = false := by simpa using c17
  (try (have c17b1 : decide (t124 = t112 && (t125 == t113 && (t126.toList == t114.toList && (t127.toList == t115.toList)))) = false := by simpa using c17))
  (try (have c17b2 : (t124 == t112 && (t125 == t113 && (t126.toList == t114.toList && (t127.toList == t115.toList)))) = false := by simpa using c17))
  (try (have c17b3 : ¬ (t124 = t112 && (t125 == t113 && (t126.toList == t114.toList && (t127.toList == t115.toList)))) := by simpa using c17))
  clear c17
  exact absurd H y26_
 rw [if_pos c17] at H
 have c17b0 : (t124 == t112 && (t125 == t113 && (t126.toList == t114.toList && (t127.toList == t115.toList)))) = true := c17
 (try (have c17b1 : decide (t124 = t112 && (t125 == t113 && (t126.toList == t114.toList && (t127.toList == t115.toList)))) = true := by simpa using c17))
 (try (have c17b2 : (t124 == t112 && (t125 == t113 && (t126.toList == t114.toList && (t127.toList == t115.toList)))) = true := by simpa using c17))
 clear c17
 replace H := Option.bind_eq_some_iff.mp H
 obtain ⟨t128, A180, H⟩ := H
 try dsimp -simprocs only at H
 have A18 := Aside0.mk A180
 clear A180
 replace H := Option.bind_eq_some_iff.mp H
 obtain ⟨t131, A190, H⟩ := H
 try dsimp -simprocs only at H
 have A19 := Aside0.mk A190
 clear A190
 replace H := Option.bind_eq_some_iff.mp H
 obtain ⟨t134, A200, H⟩ := H
 try dsimp -simprocs only at H
 have A20 := Aside0.mk A200
 clear A200
 by_cases c21 : t134 = true
 rotate_left
 ·replace c21 := Bool.eq_false_iff.mpr c21
  subst c21
  replace H : (some false) = some r := by rw [if_neg (show ¬ (false = true) by decide)] at H; exact H
  exact absurd H y26_
 subst c21
 have H1 : ((props_Same.f k t103 t118).bind fun t135 => ((pouchref06_Sort.f k l1).bind fun t136 => ((pouchref06_Same.f k l1 t136).bind fun t139 => (if (t135 == t139) = true then ((pouchlaw06_From.f k t103).bind fun t140 => ((pouchref06_Same.f k t140 l1).bind fun t143 => (some t143))) else (some false))))) = some r := by rw [if_pos rfl] at H; exact H
 clear H
 have H := H1
 clear H1
 replace H := Option.bind_eq_some_iff.mp H
 obtain ⟨t135, A220, H⟩ := H
 try dsimp -simprocs only at H
 have A22 := Aside0.mk A220
 clear A220
 replace H := Option.bind_eq_some_iff.mp H
 obtain ⟨t136, A230, H⟩ := H
 try dsimp -simprocs only at H
 have A23 := Aside0.mk A230
 clear A230
 replace H := Option.bind_eq_some_iff.mp H
 obtain ⟨t139, A240, H⟩ := H
 try dsimp -simprocs only at H
 have A24 := Aside0.mk A240
 clear A240
 by_cases c25 : (t135 == t139) = true
 rotate_left
 ·rw [if_neg c25] at H
  have c25b0 : (t135 == t139) = false := by simpa using c25
  (try (have c25b1 : decide (t135 = t139) = false := by simpa using c25))
  (try (have c25b2 : (t135 == t139) = false := by simpa using c25))
  (try (have c25b3 : ¬ (t135 = t139) := by simpa using c25))
  clear c25
  exact absurd H y26_
 rw [if_pos c25] at H
 have c25b0 : (t135 == t139) = true := c25
 (try (have c25b1 : decide (t135 = t139) = true := by simpa using c25))
 (try (have c25b2 : (t135 == t139) = true := by simpa using c25))
 clear c25
 replace H := Option.bind_eq_some_iff.mp H
 obtain ⟨t140, A260, H⟩ := H
 replace H : ((pouchref06_Same.f k t140 l1).bind fun t143 => (some t143)) = some r := H
 have A26 := Aside0.mk A260
 clear A260
 replace H := Option.bind_eq_some_iff.mp H
 obtain ⟨t143, A270, H⟩ := H
 replace H : (some t143) = some r := H
 have A27 := Aside0.mk A270
 clear A270
 obtain rfl := Option.some.inj H
 go_enter Tryd.func7, Tryd.ntmps7
 try go_wp2_with (first | ((with_reducible refine gate_callee (f := 9) rfl ?_); refine goesL_ (some 14) rfl rfl Tryd.func9 (by kernel_rfl) rfl #[.slice A1 l1.length c1] rfl y2_ ?_; (with_reducible refine (pouchlaw06_few.calls k _ _ l1 true _ ?side1 ?side2 A4.out).mono ?_); (case side1 => exact z7z11); (case side2 => exact HC1.out); rintro e w' ⟨rfl, ⟨nd, rfl⟩⟩; refine ⟨_, rfl, ?_⟩) | ((with_reducible refine gate_callee (f := 12) rfl ?_); refine goesL_ (some 18) rfl rfl Tryd.func12 (by kernel_rfl) rfl #[.slice A1 l1.length c1] rfl y2_ ?_; (with_reducible refine (pouchlaw06_To.calls k _ _ l1 t103 _ ?side1 ?side2 A6.out).mono ?_); (case side1 => exact z7z11); (case side2 => exact HC1.out); rintro e w28 ⟨v104, rfl, ho0, hb⟩; refine ⟨_, rfl, ?_⟩; have n0_ := Aside0.mk (Kd.R_lower ho0 (below_size y0_)); have n1_ := Aside0.mk (below_step y0_ hb); have HO105 := n0_; replace HB := n1_; clear n0_ n1_; clear hb ho0; obtain ⟨Ao29, co29, eo29⟩ := Kd.R_slice HO105.out; subst eo29) | ((with_reducible refine gate_callee (f := 27) rfl ?_); refine goesL_ (some 22) rfl rfl Tryd.func27 (by kernel_rfl) rfl #[.slice Ao29 t103.length co29, .int .u8 a2] rfl y2_ ?_; (with_reducible refine (props_Get.calls _ _ t103 a2 t106 t107 t108 t109 t110 _ ?side1 ?side2 A7.out).mono ?_); (case side1 => exact z7z7); (case side2 => exact z7z13); rintro e w30 ⟨rfl, hb⟩; refine ⟨_, rfl, ?_⟩; have n0_ := Aside0.mk (Kd.R_below z7z3 hb); have n1_ := Aside0.mk (below_step y0_ hb); replace HO105 := n0_; replace HB := n1_; clear n0_ n1_; clear hb) | ((with_reducible refine gate_dst (N := 8) rfl ?_); refine box_event ?hg (N := 8) ?hd (cs := #[.int .u8 0, .int .u32 0, .string (⟨#[]⟩ : ByteArray), .string (⟨#[]⟩ : ByteArray)]) (t := 60) ?hr ?_; (case hd => rfl); (case hg => rfl); (case hr => first | (go_simp; done) | (go_simp; rfl)); intro gb111 hg w31 hbox hb; have n0_ := Aside0.mk (Kd.R_below (Kd.R_elderB z7z3 gb111 (Nat.le_of_eq hg.symm)) hb); have n1_ := Aside0.mk (below_step y0_ hb); have n2_ := Aside0.mk (hbox); have n3_ := Aside0.mk ((by rw [hg]; exact (below_size y0_) : w.heap.size ≤ gb111)); have n4_ := Aside0.mk ((by rw [hg]; exact (below_size y0_) : w.heap.size ≤ gb111)); replace HO105 := n0_; replace HB := n1_; have BK111 := n2_; have GW111 := n3_; have GE111 := n4_; clear n0_ n1_ n2_ n3_ n4_; clear hb hbox hg; obtain ⟨hcz32_0, hcz32_1, hcz32_2, hcz32_3⟩ := ccs4_ BK111.out; obtain ⟨hfz32_0, hfz32_1, hfz32_2, hfz32_3⟩ := fzs4_ BK111.out) | ((with_reducible refine gate_callee (f := 28) rfl ?_); refine goesL_ (some 28) rfl rfl Tryd.func28 (by kernel_rfl) rfl #[.slice A1 l1.length c1, .int .u8 a2] rfl y2_ ?_; (with_reducible refine (pouchref06_Get.calls k _ _ l1 a2 t112 t113 t114 t115 t116 _ ?side1 ?side2 A8.out).mono ?_); (case side1 => exact Kd.C_below HR1.out z7z6); (case side2 => exact HC1.out); rintro e w33 ⟨rfl, hb⟩; refine ⟨_, rfl, ?_⟩; have n0_ := Aside0.mk (Kd.R_below (by (with_reducible repeat (first | apply Kd.R_alloc | apply Kd.R_drewN | apply Kd.R_drew)); exact (Kd.R_mono (Kd.R_far (p := ⟨gb111, 3, none⟩) (Kd.R_far (p := ⟨gb111, 2, none⟩) (Kd.R_far (p := ⟨gb111, 1, none⟩) (Kd.R_far (p := ⟨gb111, 0, none⟩) (Kd.R_mono HO105.out (fun k_ hk => (⟨hk, hk.2⟩ : _ ∧ k_ ≠ gb111))) (fun _ hk => hk.2) (.int .u8 t106)) (fun _ hk => hk.2) (.int .u32 t107)) (fun _ hk => hk.2) (.string t108)) (fun _ hk => hk.2) (.string t109)) (fun _ h_ => h_.1))) hb); have n1_ := Aside0.mk (blk_below (g := gb111) (o := .cells #[.int .u8 t106, .int .u32 t107, .string t108, .string t109] 60 (0, 0)) (by (with_reducible repeat (first | refine blk_drewN ?_ _ | refine blk_drew ?_ | refine blk_alloc ?_ _)); refine blk_put (cs := #[.int .u8 t106, .int .u32 t107, .string t108, .string (⟨#[]⟩ : ByteArray)]) ?_ 3 _ rfl; (with_reducible repeat (first | refine blk_drewN ?_ _ | refine blk_drew ?_ | refine blk_alloc ?_ _)); refine blk_put (cs := #[.int .u8 t106, .int .u32 t107, .string (⟨#[]⟩ : ByteArray), .string (⟨#[]⟩ : ByteArray)]) ?_ 2 _ rfl; (with_reducible repeat (first | refine blk_drewN ?_ _ | refine blk_drew ?_ | refine blk_alloc ?_ _)); refine blk_put (cs := #[.int .u8 t106, .int .u32 0, .string (⟨#[]⟩ : ByteArray), .string (⟨#[]⟩ : ByteArray)]) ?_ 1 _ rfl; (with_reducible repeat (first | refine blk_drewN ?_ _ | refine blk_drew ?_ | refine blk_alloc ?_ _)); refine blk_put (cs := #[.int .u8 0, .int .u32 0, .string (⟨#[]⟩ : ByteArray), .string (⟨#[]⟩ : ByteArray)]) ?_ 0 _ rfl; (with_reducible repeat (first | refine blk_drewN ?_ _ | refine blk_drew ?_ | refine blk_alloc ?_ _)); exact BK111.out) hb); have n2_ := Aside0.mk (below_step z7z6 hb); replace HO105 := n0_; replace BK111 := n1_; replace HB := n2_; clear n0_ n1_ n2_; clear hb) | ((with_reducible refine gate_dst (N := 10) rfl ?_); refine box_event ?hg (N := 10) ?hd (cs := #[.int .u8 0, .int .u32 0, .string (⟨#[]⟩ : ByteArray), .string (⟨#[]⟩ : ByteArray)]) (t := 58) ?hr ?_; (case hd => rfl); (case hg => rfl); (case hr => first | (go_simp; done) | (go_simp; rfl)); intro gb117 hg w34 hbox hb; have n0_ := Aside0.mk (Kd.R_below z7z3 hb); have n1_ := Aside0.mk (blk_below (g := gb111) (o := .cells #[.int .u8 t106, .int .u32 t107, .string t108, .string t109] 60 (0, 0)) z7z2 hb); have n2_ := Aside0.mk (below_step z7z6 hb); have n3_ := Aside0.mk (hbox); have n4_ := Aside0.mk ((by rw [hg]; exact (below_size z7z6) : w.heap.size ≤ gb117)); have n5_ := Aside0.mk ((by rw [hg]; exact (below_size z7z6) : w.heap.size ≤ gb117)); have n6_ := Aside0.mk ((by rw [hg]; exact Nat.ne_of_lt (blk_lt (g := gb111) (o := .cells #[.int .u8 t106, .int .u32 t107, .string t108, .string t109] 60 (0, 0)) z7z2) : gb111 ≠ gb117)); have n7_ := Aside0.mk ((by rw [hg]; exact Nat.ne_of_gt (blk_lt (g := gb111) (o := .cells #[.int .u8 t106, .int .u32 t107, .string t108, .string t109] 60 (0, 0)) z7z2) : gb117 ≠ gb111)); replace HO105 := n0_; replace BK111 := n1_; replace HB := n2_; have BK117 := n3_; have GW117 := n4_; have GE117 := n5_; have NB111_117 := n6_; have NB117_111 := n7_; clear n0_ n1_ n2_ n3_ n4_ n5_ n6_ n7_; clear hb hbox hg; have hnb35 := NB117_111.out; have hnc35 := NB111_117.out; obtain ⟨hcz36_0, hcz36_1, hcz36_2, hcz36_3⟩ := ccs4_ BK117.out; obtain ⟨hfz36_0, hfz36_1, hfz36_2, hfz36_3⟩ := fzs4_ BK117.out) | ((with_reducible refine gate_callee (f := 29) rfl ?_); refine goesL_ (some 32) rfl rfl Tryd.func29 (by kernel_rfl) rfl #[.slice Ao29 t103.length co29] rfl y2_ ?_; (with_reducible refine (props_Sort.calls _ _ t103 t118 _ ?side1 ?side2 A9.out).mono ?_); (case side1 => refine (Kd.R_reads' (e := 60) (base := w.heap.size) (ok := fun k_ => (True ∧ k_ ≠ gb111)) (n := t103.length) (c := co29) ?_).2.2; exact z7z4); (case side2 => exact z7z13); rintro e w37 ⟨v119, rfl, ho0, hb⟩; refine ⟨_, rfl, ?_⟩; have n0_ := Aside0.mk (Kd.R_elder' z7z4 (Kd.R_base ho0) hb); have n1_ := Aside0.mk (Kd.R_lower (Kd.R_newB (Kd.R_new' ho0 (Kd.R_lt z7z4)) (g := gb111) (o := .cells #[.int .u8 t106, .int .u32 t107, .string t108, .string t109] 60 (0, 0)) z7z5) (below_size z7z0)); have n2_ := Aside0.mk (blk_below (g := gb111) (o := .cells #[.int .u8 t106, .int .u32 t107, .string t108, .string t109] 60 (0, 0)) z7z5 hb); have n3_ := Aside0.mk (blk_below (g := gb117) (o := .cells #[.int .u8 t112, .int .u32 t113, .string t114, .string t115] 58 (0, 0)) (by (with_reducible repeat (first | refine blk_drewN ?_ _ | refine blk_drew ?_ | refine blk_alloc ?_ _)); refine blk_put (cs := #[.int .u8 t112, .int .u32 t113, .string t114, .string (⟨#[]⟩ : ByteArray)]) ?_ 3 _ rfl; (with_reducible repeat (first | refine blk_drewN ?_ _ | refine blk_drew ?_ | refine blk_alloc ?_ _)); refine blk_put (cs := #[.int .u8 t112, .int .u32 t113, .string (⟨#[]⟩ : ByteArray), .string (⟨#[]⟩ : ByteArray)]) ?_ 2 _ rfl; (with_reducible repeat (first | refine blk_drewN ?_ _ | refine blk_drew ?_ | refine blk_alloc ?_ _)); refine blk_put (cs := #[.int .u8 t112, .int .u32 0, .string (⟨#[]⟩ : ByteArray), .string (⟨#[]⟩ : ByteArray)]) ?_ 1 _ rfl; (with_reducible repeat (first | refine blk_drewN ?_ _ | refine blk_drew ?_ | refine blk_alloc ?_ _)); refine blk_put (cs := #[.int .u8 0, .int .u32 0, .string (⟨#[]⟩ : ByteArray), .string (⟨#[]⟩ : ByteArray)]) ?_ 0 _ rfl; (with_reducible repeat (first | refine blk_drewN ?_ _ | refine blk_drew ?_ | refine blk_alloc ?_ _)); exact BK117.out) hb); have n4_ := Aside0.mk (below_step z7z0 hb); replace HO105 := n0_; have HO120 := n1_; replace BK111 := n2_; replace BK117 := n3_; replace HB := n4_; clear n0_ n1_ n2_ n3_ n4_; clear hb ho0))
 have n0_ := Aside0.mk (Kd.R_drew HO105.out)
 have n1_ := Aside0.mk (Kd.R_drew HO120.out)
 have n2_ := Aside0.mk (blk_drew BK111.out)
 have n3_ := Aside0.mk (blk_drew BK117.out)
 have n4_ := Aside0.mk (below_drew1 HB.out)
 clear HO105
 clear HO120
 clear BK111
 clear BK117
 clear HB
 have HO105 := n0_
 have HO120 := n1_
 have BK111 := n2_
 have BK117 := n3_
 have HB := n4_
 clear n0_ n1_ n2_ n3_ n4_
 refine start_ (n := 45) (S := fun w' => w'.cell? ⟨gb111, 0, none⟩ = some (.int .u8 t106) ∧ w'.cell? ⟨gb111, 1, none⟩ = some (.int .u32 t107) ∧ w'.cell? ⟨gb111, 2, none⟩ = some (.string t108) ∧ w'.cell? ⟨gb111, 3, none⟩ = some (.string t109) ∧ w'.cell? ⟨gb117, 0, none⟩ = some (.int .u8 t112) ∧ w'.cell? ⟨gb117, 1, none⟩ = some (.int .u32 t113) ∧ w'.cell? ⟨gb117, 2, none⟩ = some (.string t114) ∧ w'.cell? ⟨gb117, 3, none⟩ = some (.string t115)) (ds := []) (ba 45 0) (by kernel_rfl) rfl rfl ⟨(blk_cell BK111.out 0).trans rfl, (blk_cell BK111.out 1).trans rfl, (blk_cell BK111.out 2).trans rfl, (blk_cell BK111.out 3).trans rfl, (blk_cell BK117.out 0).trans rfl, (blk_cell BK117.out 1).trans rfl, (blk_cell BK117.out 2).trans rfl, (blk_cell BK117.out 3).trans rfl⟩ (fun hHeld => ?_); refine with_tabW pouchlaw06_PropsChecks.tab7 pouchlaw06_PropsChecks.bits7 (fun HT_ HW_ => ?_)
 generalize w37.drew = w38 at HO105 HO120 BK111 BK117 HB hHeld ⊢
 refine one_ (i := 0) (N := some 33) (ba 45 1) rfl rfl (one_of HT_.out (by kernel_rfl)) (by decide) (fun K hK => ?_)
 refine goes_ Tryd.func10 (by kernel_rfl) rfl #[] (by rfl) rfl rfl y2_ ?_
 with_reducible refine (pouchlaw06_told.calls k  true _ ?side1 A10.out).mono ?_
 (case side1 => exact GW.below HG.out z7z0)
 rintro e w39 ⟨rfl, hb⟩
 refine ⟨_, rfl, ?_⟩
 have n0_ := Aside0.mk (Kd.R_below z7z3 hb)
 have n1_ := Aside0.mk (Kd.R_below y20_ hb)
 have n2_ := Aside0.mk (blk_below (g := gb111) (o := .cells #[.int .u8 t106, .int .u32 t107, .string t108, .string t109] 60 (0, 0)) z7z2 hb)
 have n3_ := Aside0.mk (blk_below (g := gb117) (o := .cells #[.int .u8 t112, .int .u32 t113, .string t114, .string t115] 58 (0, 0)) z7z1 hb)
 have n4_ := Aside0.mk (below_step z7z0 hb)
 clear HO105
 clear HO120
 clear BK111
 clear BK117
 clear HB
 have HO105 := n0_
 have HO120 := n1_
 have BK111 := n2_
 have BK117 := n3_
 have HB := n4_
 clear n0_ n1_ n2_ n3_ n4_
 (try clear hb)
 (try clear hb2)
 (try clear hk)
 (try clear hi)
 refine hK.out _ _ ⟨(blk_cell BK111.out 0).trans rfl, (blk_cell BK111.out 1).trans rfl, (blk_cell BK111.out 2).trans rfl, (blk_cell BK111.out 3).trans rfl, (blk_cell BK117.out 0).trans rfl, (blk_cell BK117.out 1).trans rfl, (blk_cell BK117.out 2).trans rfl, (blk_cell BK117.out 3).trans rfl⟩ (fun hHeld => ?_)
 clear hK K
 refine norm_ (a' := ?_) ?_ ?_
 rotate_left
 ·show Act.put _ (some 33) _ = _
  simp only [Act.put, List.setIfInBounds_toArray, List.set_cons_zero, List.set_cons_succ, i64_w, i32_w]
  rfl
 refine pq_ 1 34 3 ?_
 refine pq_ 2 35 7 ?_
 refine pq_ 3 36 15 ?_
 refine pq_ 5 38 47 ?_
 refine pq_ 6 39 111 ?_
 refine one_ (i := 4) (N := some 37) (ba 45 127) rfl rfl (one_of HT_.out (by kernel_rfl)) (by decide) (fun K hK => ?_)
 refine goes_ Tryd.func30 (by kernel_rfl) rfl #[.int .i64 a0, .slice Ao29 t103.length co29] (by rfl) rfl rfl y2_ ?_
 with_reducible refine (props_Check.calls k a0 _ _ t103 t122 _ ?side1 ?side2 ?side3 A12.out).mono ?_
 (case side1 => exact z7z7)
 (case side2 => exact z7z13)
 (case side3 => exact GW.below HG.out z7z0)
 rintro e w40 ⟨rfl, hb⟩
 refine ⟨_, rfl, ?_⟩
 have n0_ := Aside0.mk (Kd.R_below z7z3 hb)
 have n1_ := Aside0.mk (Kd.R_below y20_ hb)
 have n2_ := Aside0.mk (blk_below (g := gb111) (o := .cells #[.int .u8 t106, .int .u32 t107, .string t108, .string t109] 60 (0, 0)) z7z2 hb)
 have n3_ := Aside0.mk (blk_below (g := gb117) (o := .cells #[.int .u8 t112, .int .u32 t113, .string t114, .string t115] 58 (0, 0)) z7z1 hb)
 have n4_ := Aside0.mk (below_step z7z0 hb)
 clear HO105
 clear HO120
 clear BK111
 clear BK117
 clear HB
 have HO105 := n0_
 have HO120 := n1_
 have BK111 := n2_
 have BK117 := n3_
 have HB := n4_
 clear n0_ n1_ n2_ n3_ n4_
 (try clear hb)
 (try clear hb2)
 (try clear hk)
 (try clear hi)
 refine hK.out _ _ ⟨(blk_cell BK111.out 0).trans rfl, (blk_cell BK111.out 1).trans rfl, (blk_cell BK111.out 2).trans rfl, (blk_cell BK111.out 3).trans rfl, (blk_cell BK117.out 0).trans rfl, (blk_cell BK117.out 1).trans rfl, (blk_cell BK117.out 2).trans rfl, (blk_cell BK117.out 3).trans rfl⟩ (fun hHeld => ?_)
 clear hK K
 refine norm_ (a' := ?_) ?_ ?_
 rotate_left
 ·show Act.put _ (some 37) _ = _
  simp only [Act.put, List.setIfInBounds_toArray, List.set_cons_zero, List.set_cons_succ, i64_w, i32_w]
  rfl
 refine one_ (i := 7) (N := some 40) (ba 45 255) rfl rfl (one_of HT_.out (by kernel_rfl)) (by decide) (fun K hK => ?_)
 refine goes_ Tryd.func31 (by kernel_rfl) rfl #[.int .i64 a0, .slice A1 l1.length c1] (by rfl) rfl rfl y2_ ?_
 with_reducible refine (pouchref06_Check.calls k a0 _ _ l1 t123 _ ?side1 ?side2 A13.out).mono ?_
 (case side1 => exact z7z8)
 (case side2 => exact HC1.out)
 rintro e w41 ⟨rfl, hb⟩
 refine ⟨_, rfl, ?_⟩
 have n0_ := Aside0.mk (Kd.R_below z7z3 hb)
 have n1_ := Aside0.mk (Kd.R_below y20_ hb)
 have n2_ := Aside0.mk (blk_below (g := gb111) (o := .cells #[.int .u8 t106, .int .u32 t107, .string t108, .string t109] 60 (0, 0)) z7z2 hb)
 have n3_ := Aside0.mk (blk_below (g := gb117) (o := .cells #[.int .u8 t112, .int .u32 t113, .string t114, .string t115] 58 (0, 0)) z7z1 hb)
 have n4_ := Aside0.mk (below_step z7z0 hb)
 clear HO105
 clear HO120
 clear BK111
 clear BK117
 clear HB
 have HO105 := n0_
 have HO120 := n1_
 have BK111 := n2_
 have BK117 := n3_
 have HB := n4_
 clear n0_ n1_ n2_ n3_ n4_
 (try clear hb)
 (try clear hb2)
 (try clear hk)
 (try clear hi)
 refine hK.out _ _ ⟨(blk_cell BK111.out 0).trans rfl, (blk_cell BK111.out 1).trans rfl, (blk_cell BK111.out 2).trans rfl, (blk_cell BK111.out 3).trans rfl, (blk_cell BK117.out 0).trans rfl, (blk_cell BK117.out 1).trans rfl, (blk_cell BK117.out 2).trans rfl, (blk_cell BK117.out 3).trans rfl⟩ (fun hHeld => ?_)
 clear hK K
 refine norm_ (a' := ?_) ?_ ?_
 rotate_left
 ·show Act.put _ (some 40) _ = _
  simp only [Act.put, List.setIfInBounds_toArray, List.set_cons_zero, List.set_cons_succ, i64_w, i32_w]
  rfl
 refine pq_ 8 41 511 ?_
 refine pq_ 9 42 1023 ?_
 refine pq_ 10 43 2047 ?_
 refine pq_ 11 44 4095 ?_
 refine pq_ 12 45 8191 ?_
 refine pq_ 13 46 16383 ?_
 refine pq_ 14 47 32767 ?_
 refine pq_ 15 48 65535 ?_
 refine tr_ 16 49 131071 ?_ (hy := z7z15)
 refine tr_ 18 51 393215 ?_ (hy := z7z15)
 refine one_ (i := 17) (N := some 50) (ba 45 524287) rfl rfl (one_of HT_.out (by kernel_rfl)) (by decide) (fun K hK => ?_)
 refine goes_ Tryd.func32 (by kernel_rfl) rfl #[.agg #[.int .u8 t106, .int .u32 t107, .string t108, .string t109]] (by rfl) rfl rfl y2_ ?_
 with_reducible refine (pouchlaw05_From.calls t106 t107 t108 t109 t124 t125 t126 t127 _ A16.out).mono ?_
 rintro e w42 ⟨rfl, hb⟩
 refine ⟨_, rfl, ?_⟩
 have n0_ := Aside0.mk (Kd.R_below z7z3 hb)
 have n1_ := Aside0.mk (Kd.R_below y20_ hb)
 have n2_ := Aside0.mk (blk_below (g := gb111) (o := .cells #[.int .u8 t106, .int .u32 t107, .string t108, .string t109] 60 (0, 0)) z7z2 hb)
 have n3_ := Aside0.mk (blk_below (g := gb117) (o := .cells #[.int .u8 t112, .int .u32 t113, .string t114, .string t115] 58 (0, 0)) z7z1 hb)
 have n4_ := Aside0.mk (below_step z7z0 hb)
 clear HO105
 clear HO120
 clear BK111
 clear BK117
 clear HB
 have HO105 := n0_
 have HO120 := n1_
 have BK111 := n2_
 have BK117 := n3_
 have HB := n4_
 clear n0_ n1_ n2_ n3_ n4_
 (try clear hb)
 (try clear hb2)
 (try clear hk)
 (try clear hi)
 obtain ⟨Ao43, co43, eo43⟩ := Kd.R_slice HO120.out
 (first | subst eo43 | (injection eo43 with f1_ f2_ f3_; have f4_ := f1_.symm; have f5_ := f3_.symm; clear f1_ f2_ f3_; subst f4_; subst f5_))
 refine hK.out _ _ ⟨(blk_cell BK111.out 0).trans rfl, (blk_cell BK111.out 1).trans rfl, (blk_cell BK111.out 2).trans rfl, (blk_cell BK111.out 3).trans rfl, (blk_cell BK117.out 0).trans rfl, (blk_cell BK117.out 1).trans rfl, (blk_cell BK117.out 2).trans rfl, (blk_cell BK117.out 3).trans rfl⟩ (fun hHeld => ?_)
 clear hK K
 refine norm_ (a' := ?_) ?_ ?_
 rotate_left
 ·show Act.put _ (some 50) _ = _
  simp only [Act.put, List.setIfInBounds_toArray, List.set_cons_zero, List.set_cons_succ, i64_w, i32_w]
  rfl
 refine pq_ 19 52 1048575 ?_
 refine pq_ 20 53 2097151 ?_
 refine pq_ 21 54 4194303 ?_
 refine pq_ 22 55 8388607 ?_
 refine pq_ 24 57 25165823 ?_
 refine one_ (i := 23) (N := some 56) (ba 45 33554431) rfl rfl (one_of HT_.out (by kernel_rfl)) (by decide) (fun K hK => ?_)
 refine goes_ Tryd.func19 (by kernel_rfl) rfl #[.slice Ao43 t118.length co43] (by rfl) rfl rfl y2_ ?_
 with_reducible refine (pouchlaw06_From.calls k _ _ t118 t128 _ ?side1 ?side2 A18.out).mono ?_
 (case side1 => exact z7z12)
 (case side2 => exact (Kd.R_reads' HO120.out).2.1)
 rintro e w44 ⟨v129, rfl, ho0, hb⟩
 refine ⟨_, rfl, ?_⟩
 have n0_ := Aside0.mk (Kd.R_below z7z3 hb)
 have n1_ := Aside0.mk (Kd.R_below y20_ hb)
 have n2_ := Aside0.mk (Kd.R_lower (Kd.R_newB ho0 (g := gb117) (o := .cells #[.int .u8 t112, .int .u32 t113, .string t114, .string t115] 58 (0, 0)) z7z1) (below_size z7z0))
 have n3_ := Aside0.mk (blk_below (g := gb111) (o := .cells #[.int .u8 t106, .int .u32 t107, .string t108, .string t109] 60 (0, 0)) z7z2 hb)
 have n4_ := Aside0.mk (blk_below (g := gb117) (o := .cells #[.int .u8 t112, .int .u32 t113, .string t114, .string t115] 58 (0, 0)) z7z1 hb)
 have n5_ := Aside0.mk (below_step z7z0 hb)
 clear HO105
 clear HO120
 clear BK111
 clear BK117
 clear HB
 have HO105 := n0_
 have HO120 := n1_
 have HO130 := n2_
 have BK111 := n3_
 have BK117 := n4_
 have HB := n5_
 clear n0_ n1_ n2_ n3_ n4_ n5_
 (try clear hb)
 (try clear hb2)
 (try clear hk)
 (try clear hi)
 (try clear ho0)
 refine hK.out _ _ ⟨(blk_cell BK111.out 0).trans rfl, (blk_cell BK111.out 1).trans rfl, (blk_cell BK111.out 2).trans rfl, (blk_cell BK111.out 3).trans rfl, (blk_cell BK117.out 0).trans rfl, (blk_cell BK117.out 1).trans rfl, (blk_cell BK117.out 2).trans rfl, (blk_cell BK117.out 3).trans rfl⟩ (fun hHeld => ?_)
 clear hK K
 refine norm_ (a' := ?_) ?_ ?_
 rotate_left
 ·show Act.put _ (some 56) _ = _
  simp only [Act.put, List.setIfInBounds_toArray, List.set_cons_zero, List.set_cons_succ, i64_w, i32_w]
  rfl
 refine one_ (i := 25) (N := some 58) (ba 45 67108863) rfl rfl (one_of HT_.out (by kernel_rfl)) (by decide) (fun K hK => ?_)
 refine goes_ Tryd.func20 (by kernel_rfl) rfl #[.slice A1 l1.length c1] (by rfl) rfl rfl y2_ ?_
 with_reducible refine (pouchref06_Sort.calls k _ _ l1 t131 _ ?side1 ?side2 A19.out).mono ?_
 (case side1 => exact z7z8)
 (case side2 => exact HC1.out)
 rintro e w45 ⟨v132, rfl, ho0, hb⟩
 refine ⟨_, rfl, ?_⟩
 have n0_ := Aside0.mk (Kd.R_below z7z3 hb)
 have n1_ := Aside0.mk (Kd.R_below y20_ hb)
 have n2_ := Aside0.mk (Kd.R_elder' z7z9 (Kd.R_base ho0) hb)
 have n3_ := Aside0.mk (Kd.R_lower (Kd.R_newB (Kd.R_new' ho0 (Kd.R_lt z7z9)) (g := gb117) (o := .cells #[.int .u8 t112, .int .u32 t113, .string t114, .string t115] 58 (0, 0)) z7z1) (below_size z7z0))
 have n4_ := Aside0.mk (blk_below (g := gb111) (o := .cells #[.int .u8 t106, .int .u32 t107, .string t108, .string t109] 60 (0, 0)) z7z2 hb)
 have n5_ := Aside0.mk (blk_below (g := gb117) (o := .cells #[.int .u8 t112, .int .u32 t113, .string t114, .string t115] 58 (0, 0)) z7z1 hb)
 have n6_ := Aside0.mk (below_step z7z0 hb)
 clear HO105
 clear HO120
 clear HO130
 clear BK111
 clear BK117
 clear HB
 have HO105 := n0_
 have HO120 := n1_
 have HO130 := n2_
 have HO133 := n3_
 have BK111 := n4_
 have BK117 := n5_
 have HB := n6_
 clear n0_ n1_ n2_ n3_ n4_ n5_ n6_
 (try clear hb)
 (try clear hb2)
 (try clear hk)
 (try clear hi)
 (try clear ho0)
 obtain ⟨Ao46, co46, eo46⟩ := Kd.R_slice HO130.out
 (first | subst eo46 | (injection eo46 with f1_ f2_ f3_; have f4_ := f1_.symm; have f5_ := f3_.symm; clear f1_ f2_ f3_; subst f4_; subst f5_))
 obtain ⟨Ao47, co47, eo47⟩ := Kd.R_slice HO133.out
 (first | subst eo47 | (injection eo47 with f1_ f2_ f3_; have f4_ := f1_.symm; have f5_ := f3_.symm; clear f1_ f2_ f3_; subst f4_; subst f5_))
 refine hK.out _ _ ⟨(blk_cell BK111.out 0).trans rfl, (blk_cell BK111.out 1).trans rfl, (blk_cell BK111.out 2).trans rfl, (blk_cell BK111.out 3).trans rfl, (blk_cell BK117.out 0).trans rfl, (blk_cell BK117.out 1).trans rfl, (blk_cell BK117.out 2).trans rfl, (blk_cell BK117.out 3).trans rfl⟩ (fun hHeld => ?_)
 clear hK K
 refine norm_ (a' := ?_) ?_ ?_
 rotate_left
 ·show Act.put _ (some 58) _ = _
  simp only [Act.put, List.setIfInBounds_toArray, List.set_cons_zero, List.set_cons_succ, i64_w, i32_w]
  rfl
 refine one_ (i := 26) (N := some 59) (ba 45 134217727) rfl rfl (one_of HT_.out (by kernel_rfl)) (by decide) (fun K hK => ?_)
 refine goes_ Tryd.func18 (by kernel_rfl) rfl #[.slice Ao46 t128.length co46, .slice Ao47 t131.length co47] (by rfl) rfl rfl y2_ ?_
 with_reducible refine (pouchref06_Same.calls k _ _ t128 _ _ t131 true _ ?side1 ?side2 ?side3 ?side4 A20.out).mono ?_
 (case side1 => repeat (first | exact (Kd.R_reads' HO130.out).2.2 | (with_reducible refine Kd.C_alloc ?_ _) | (with_reducible refine Kd.C_drewN ?_ _) | (with_reducible refine Kd.C_drew ?_)))
 (case side2 => exact (Kd.R_reads' HO130.out).2.1)
 (case side3 => repeat (first | exact (Kd.R_reads' HO133.out).2.2 | (with_reducible refine Kd.C_alloc ?_ _) | (with_reducible refine Kd.C_drewN ?_ _) | (with_reducible refine Kd.C_drew ?_)))
 (case side4 => exact (Kd.R_reads' HO133.out).2.1)
 rintro e w' ⟨rfl, ⟨nd, rfl⟩⟩
 refine ⟨_, rfl, ?_⟩
 refine hK.out _ _ ⟨(blk_cell BK111.out 0).trans rfl, (blk_cell BK111.out 1).trans rfl, (blk_cell BK111.out 2).trans rfl, (blk_cell BK111.out 3).trans rfl, (blk_cell BK117.out 0).trans rfl, (blk_cell BK117.out 1).trans rfl, (blk_cell BK117.out 2).trans rfl, (blk_cell BK117.out 3).trans rfl⟩ (fun hHeld => ?_)
 clear hK K
 refine norm_ (a' := ?_) ?_ ?_
 rotate_left
 ·show Act.put _ (some 59) _ = _
  simp only [Act.put, List.setIfInBounds_toArray, List.set_cons_zero, List.set_cons_succ, i64_w, i32_w]
  rfl
 refine pq_ 27 60 268435455 ?_
 refine pq_ 28 61 536870911 ?_
 refine pq_ 29 62 1073741823 ?_
 refine pq_ 30 63 2147483647 ?_
 refine pq_ 32 65 6442450943 ?_
 refine pq_ 33 66 15032385535 ?_
 refine one_ (i := 31) (N := some 64) (ba 45 17179869183) rfl rfl (one_of HT_.out (by kernel_rfl)) (by decide) (fun K hK => ?_)
 refine goes_ Tryd.func33 (by kernel_rfl) rfl #[.slice Ao29 t103.length co29, .slice Ao43 t118.length co43] (by rfl) rfl rfl y2_ ?_
 with_reducible refine (props_Same.calls k _ _ t103 _ _ t118 t135 _ ?side1 ?side2 ?side3 ?side4 A22.out).mono ?_
 (case side1 => exact z7z7)
 (case side2 => exact z7z13)
 (case side3 => exact z7z12)
 (case side4 => exact (Kd.R_reads' HO120.out).2.1)
 rintro e w' ⟨rfl, ⟨nd, rfl⟩⟩
 refine ⟨_, rfl, ?_⟩
 refine hK.out _ _ ⟨(blk_cell BK111.out 0).trans rfl, (blk_cell BK111.out 1).trans rfl, (blk_cell BK111.out 2).trans rfl, (blk_cell BK111.out 3).trans rfl, (blk_cell BK117.out 0).trans rfl, (blk_cell BK117.out 1).trans rfl, (blk_cell BK117.out 2).trans rfl, (blk_cell BK117.out 3).trans rfl⟩ (fun hHeld => ?_)
 clear hK K
 refine norm_ (a' := ?_) ?_ ?_
 rotate_left
 ·show Act.put _ (some 64) _ = _
  simp only [Act.put, List.setIfInBounds_toArray, List.set_cons_zero, List.set_cons_succ, i64_w, i32_w]
  rfl
 refine one_ (i := 34) (N := some 67) (ba 45 34359738367) rfl rfl (one_of HT_.out (by kernel_rfl)) (by decide) (fun K hK => ?_)
 refine goes_ Tryd.func20 (by kernel_rfl) rfl #[.slice A1 l1.length c1] (by rfl) rfl rfl y2_ ?_
 with_reducible refine (pouchref06_Sort.calls k _ _ l1 t136 _ ?side1 ?side2 A23.out).mono ?_
 (case side1 => repeat (first | exact (Kd.C_below HR1.out z7z0) | (with_reducible refine Kd.C_alloc ?_ _) | (with_reducible refine Kd.C_drewN ?_ _) | (with_reducible refine Kd.C_drew ?_)))
 (case side2 => exact HC1.out)
 rintro e w48 ⟨v137, rfl, ho0, hb⟩
 refine ⟨_, rfl, ?_⟩
 have n0_ := Aside0.mk (Kd.R_below z7z3 hb)
 have n1_ := Aside0.mk (Kd.R_below y20_ hb)
 have n2_ := Aside0.mk (Kd.R_elder' z7z9 (Kd.R_base ho0) hb)
 have n3_ := Aside0.mk (Kd.R_elder' z7z10 (Kd.R_base ho0) hb)
 have n4_ := Aside0.mk (Kd.R_lower (Kd.R_newB (Kd.R_new' (Kd.R_new' ho0 (Kd.R_lt z7z9)) (Kd.R_lt z7z10)) (g := gb117) (o := .cells #[.int .u8 t112, .int .u32 t113, .string t114, .string t115] 58 (0, 0)) z7z1) (below_size z7z0))
 have n5_ := Aside0.mk (blk_below (g := gb111) (o := .cells #[.int .u8 t106, .int .u32 t107, .string t108, .string t109] 60 (0, 0)) z7z2 hb)
 have n6_ := Aside0.mk (blk_below (g := gb117) (o := .cells #[.int .u8 t112, .int .u32 t113, .string t114, .string t115] 58 (0, 0)) z7z1 hb)
 have n7_ := Aside0.mk (below_step z7z0 hb)
 clear HO105
 clear HO120
 clear HO130
 clear HO133
 clear BK111
 clear BK117
 clear HB
 have HO105 := n0_
 have HO120 := n1_
 have HO130 := n2_
 have HO133 := n3_
 have HO138 := n4_
 have BK111 := n5_
 have BK117 := n6_
 have HB := n7_
 clear n0_ n1_ n2_ n3_ n4_ n5_ n6_ n7_
 (try clear hb)
 (try clear hb2)
 (try clear hk)
 (try clear hi)
 (try clear ho0)
 obtain ⟨Ao49, co49, eo49⟩ := Kd.R_slice HO138.out
 (first | subst eo49 | (injection eo49 with f1_ f2_ f3_; have f4_ := f1_.symm; have f5_ := f3_.symm; clear f1_ f2_ f3_; subst f4_; subst f5_))
 refine hK.out _ _ ⟨(blk_cell BK111.out 0).trans rfl, (blk_cell BK111.out 1).trans rfl, (blk_cell BK111.out 2).trans rfl, (blk_cell BK111.out 3).trans rfl, (blk_cell BK117.out 0).trans rfl, (blk_cell BK117.out 1).trans rfl, (blk_cell BK117.out 2).trans rfl, (blk_cell BK117.out 3).trans rfl⟩ (fun hHeld => ?_)
 clear hK K
 refine norm_ (a' := ?_) ?_ ?_
 rotate_left
 ·show Act.put _ (some 67) _ = _
  simp only [Act.put, List.setIfInBounds_toArray, List.set_cons_zero, List.set_cons_succ, i64_w, i32_w]
  rfl
 refine one_ (i := 35) (N := some 68) (ba 45 68719476735) rfl rfl (one_of HT_.out (by kernel_rfl)) (by decide) (fun K hK => ?_)
 refine goes_ Tryd.func18 (by kernel_rfl) rfl #[.slice A1 l1.length c1, .slice Ao49 t136.length co49] (by rfl) rfl rfl y2_ ?_
 with_reducible refine (pouchref06_Same.calls k _ _ l1 _ _ t136 t139 _ ?side1 ?side2 ?side3 ?side4 A24.out).mono ?_
 (case side1 => exact z7z8)
 (case side2 => exact HC1.out)
 (case side3 => repeat (first | exact (Kd.R_reads' HO138.out).2.2 | (with_reducible refine Kd.C_alloc ?_ _) | (with_reducible refine Kd.C_drewN ?_ _) | (with_reducible refine Kd.C_drew ?_)))
 (case side4 => exact (Kd.R_reads' HO138.out).2.1)
 rintro e w' ⟨rfl, ⟨nd, rfl⟩⟩
 refine ⟨_, rfl, ?_⟩
 refine hK.out _ _ ⟨(blk_cell BK111.out 0).trans rfl, (blk_cell BK111.out 1).trans rfl, (blk_cell BK111.out 2).trans rfl, (blk_cell BK111.out 3).trans rfl, (blk_cell BK117.out 0).trans rfl, (blk_cell BK117.out 1).trans rfl, (blk_cell BK117.out 2).trans rfl, (blk_cell BK117.out 3).trans rfl⟩ (fun hHeld => ?_)
 clear hK K
 refine norm_ (a' := ?_) ?_ ?_
 rotate_left
 ·show Act.put _ (some 68) _ = _
  simp only [Act.put, List.setIfInBounds_toArray, List.set_cons_zero, List.set_cons_succ, i64_w, i32_w]
  rfl
 refine pq_ 36 69 137438953471 ?_
 refine pq_ 37 70 274877906943 ?_
 refine pq_ 38 71 549755813887 ?_
 refine pq_ 39 72 1099511627775 ?_
 refine pq_ 41 74 3298534883327 ?_
 refine one_ (i := 40) (N := some 73) (ba 45 4398046511103) rfl rfl (one_of HT_.out (by kernel_rfl)) (by decide) (fun K hK => ?_)
 refine goes_ Tryd.func19 (by kernel_rfl) rfl #[.slice Ao29 t103.length co29] (by rfl) rfl rfl y2_ ?_
 with_reducible refine (pouchlaw06_From.calls k _ _ t103 t140 _ ?side1 ?side2 A26.out).mono ?_
 (case side1 => exact z7z7)
 (case side2 => exact z7z13)
 rintro e w50 ⟨v141, rfl, ho0, hb⟩
 refine ⟨_, rfl, ?_⟩
 have n0_ := Aside0.mk (Kd.R_below z7z3 hb)
 have n1_ := Aside0.mk (Kd.R_below y20_ hb)
 have n2_ := Aside0.mk (Kd.R_elder' z7z9 (Kd.R_base ho0) hb)
 have n3_ := Aside0.mk (Kd.R_elder' z7z10 (Kd.R_base ho0) hb)
 have n4_ := Aside0.mk (Kd.R_elder' z7z14 (Kd.R_base ho0) hb)
 have n5_ := Aside0.mk (Kd.R_lower (Kd.R_newB (Kd.R_new' (Kd.R_new' (Kd.R_new' ho0 (Kd.R_lt z7z9)) (Kd.R_lt z7z10)) (Kd.R_lt z7z14)) (g := gb117) (o := .cells #[.int .u8 t112, .int .u32 t113, .string t114, .string t115] 58 (0, 0)) z7z1) (below_size z7z0))
 have n6_ := Aside0.mk (blk_below (g := gb111) (o := .cells #[.int .u8 t106, .int .u32 t107, .string t108, .string t109] 60 (0, 0)) z7z2 hb)
 have n7_ := Aside0.mk (blk_below (g := gb117) (o := .cells #[.int .u8 t112, .int .u32 t113, .string t114, .string t115] 58 (0, 0)) z7z1 hb)
 have n8_ := Aside0.mk (below_step z7z0 hb)
 clear HO105
 clear HO120
 clear HO130
 clear HO133
 clear HO138
 clear BK111
 clear BK117
 clear HB
 have HO105 := n0_
 have HO120 := n1_
 have HO130 := n2_
 have HO133 := n3_
 have HO138 := n4_
 have HO142 := n5_
 have BK111 := n6_
 have BK117 := n7_
 have HB := n8_
 clear n0_ n1_ n2_ n3_ n4_ n5_ n6_ n7_ n8_
 (try clear hb)
 (try clear hb2)
 (try clear hk)
 (try clear hi)
 (try clear ho0)
 obtain ⟨Ao51, co51, eo51⟩ := Kd.R_slice HO142.out
 (first | subst eo51 | (injection eo51 with f1_ f2_ f3_; have f4_ := f1_.symm; have f5_ := f3_.symm; clear f1_ f2_ f3_; subst f4_; subst f5_))
 refine hK.out _ _ ⟨(blk_cell BK111.out 0).trans rfl, (blk_cell BK111.out 1).trans rfl, (blk_cell BK111.out 2).trans rfl, (blk_cell BK111.out 3).trans rfl, (blk_cell BK117.out 0).trans rfl, (blk_cell BK117.out 1).trans rfl, (blk_cell BK117.out 2).trans rfl, (blk_cell BK117.out 3).trans rfl⟩ (fun hHeld => ?_)
 clear hK K
 refine norm_ (a' := ?_) ?_ ?_
 rotate_left
 ·show Act.put _ (some 73) _ = _
  simp only [Act.put, List.setIfInBounds_toArray, List.set_cons_zero, List.set_cons_succ, i64_w, i32_w]
  rfl
 refine one_ (i := 42) (N := some 75) (ba 45 8796093022207) rfl rfl (one_of HT_.out (by kernel_rfl)) (by decide) (fun K hK => ?_)
 refine goes_ Tryd.func18 (by kernel_rfl) rfl #[.slice Ao51 t140.length co51, .slice A1 l1.length c1] (by rfl) rfl rfl y2_ ?_
 with_reducible refine (pouchref06_Same.calls k _ _ t140 _ _ l1 t143 _ ?side1 ?side2 ?side3 ?side4 A27.out).mono ?_
 (case side1 => repeat (first | exact (Kd.R_reads' HO142.out).2.2 | (with_reducible refine Kd.C_alloc ?_ _) | (with_reducible refine Kd.C_drewN ?_ _) | (with_reducible refine Kd.C_drew ?_)))
 (case side2 => exact (Kd.R_reads' HO142.out).2.1)
 (case side3 => exact z7z8)
 (case side4 => exact HC1.out)
 rintro e w' ⟨rfl, ⟨nd, rfl⟩⟩
 refine ⟨_, rfl, ?_⟩
 refine hK.out _ _ ⟨(blk_cell BK111.out 0).trans rfl, (blk_cell BK111.out 1).trans rfl, (blk_cell BK111.out 2).trans rfl, (blk_cell BK111.out 3).trans rfl, (blk_cell BK117.out 0).trans rfl, (blk_cell BK117.out 1).trans rfl, (blk_cell BK117.out 2).trans rfl, (blk_cell BK117.out 3).trans rfl⟩ (fun hHeld => ?_)
 clear hK K
 refine norm_ (a' := ?_) ?_ ?_
 rotate_left
 ·show Act.put _ (some 75) _ = _
  simp only [Act.put, List.setIfInBounds_toArray, List.set_cons_zero, List.set_cons_succ, i64_w, i32_w]
  rfl
 refine pq_ 43 76 17592186044415 ?_
 refine pq_ 44 6 35184372088831 ?_
 refine done_ (done_of HT_.out (by kernel_rfl)) ?_
 try go_wp2
 go_ret
 exact ⟨y4_, z7z0⟩
end Go.Proofs.YtkmkgpigmldhnaaDoor.P
namespace Go.Proofs.YtkmkgpigmldhnaaDoor.Mq
open Go.Lib
def wildB (s : List UInt8) : Bool := s.contains 43 || s.contains 35
theorem wild_any (s : List UInt8) : decide (0 ≤ indexAny s [43, 35]) = wildB s := by
 induction s with
 | nil => rfl
 | cons b l ih =>
  have hge := indexAny_ge [43, 35] l
  rw [show indexAny (b :: l) [43, 35] = if ([43, 35] : List UInt8).contains b then 0 else if indexAny l [43, 35] == -1 then -1 else indexAny l [43, 35] + 1 from rfl]
  by_cases hb : ([43, 35] : List UInt8).contains b = true
  ·rw [if_pos hb]
   have : b = 43 ∨ b = 35 := by simpa using hb
   rcases this with rfl | rfl <;> simp [wildB]
  ·rw [if_neg hb]
   have : ¬ b = 43 ∧ ¬ b = 35 := by simpa using hb
   unfold wildB at *
   rw [List.contains_cons, List.contains_cons, show ((43 : UInt8) == b) = false from beq_eq_false_iff_ne.2 (Ne.symm this.1), show ((35 : UInt8) == b) = false from beq_eq_false_iff_ne.2 (Ne.symm this.2), Bool.false_or, Bool.false_or, ← ih]
   by_cases h1 : indexAny l [43, 35] = -1
   ·rw [h1]; rfl
   ·rw [if_neg (by simpa using h1), decide_eq_true (by omega), decide_eq_true (by omega)]
def rightB (s : List UInt8) : Bool := decide (s.length ≤ 65535) && (validD s && !s.contains 0)
def nameB (s : List UInt8) : Bool := !s.isEmpty && (rightB s && !wildB s)
def shareP : List UInt8 := [36, 115, 104, 97, 114, 101, 47]
def sharedB (s : List UInt8) : Bool := shareP.isPrefixOf s
def target (s : List UInt8) : List UInt8 := if sharedB s then (cut (s.drop 7) [47]).2.1 else s
theorem contains_zero (s : List UInt8) : Go.Lib.contains s [0] = s.contains 0 := by
 unfold Go.Lib.contains
 induction s with
 | nil => rfl
 | cons b l ih =>
  have hge := index_ge l [0]
  rw [show index (b :: l) [0] = if ([0] : List UInt8).isPrefixOf (b :: l) then 0 else if index l [0] == -1 then -1 else index l [0] + 1 from rfl]
  by_cases hb : b = 0
  ·subst hb; simp
  ·have h1 : ([0] : List UInt8).isPrefixOf (b :: l) = false := by show ((0 : UInt8) == b && List.isPrefixOf [] l) = false; rw [beq_eq_false_iff_ne.2 (Ne.symm hb)]; rfl
   rw [h1, List.contains_cons, show ((0 : UInt8) == b) = false from beq_eq_false_iff_ne.2 (Ne.symm hb), Bool.false_or, ← ih]
   by_cases h2 : index l [0] = -1
   ·rw [h2]; rfl
   ·rw [if_neg (by decide), if_neg (by simpa using h2), decide_eq_true (by omega), decide_eq_true (by omega)]
end Go.Proofs.YtkmkgpigmldhnaaDoor.Mq
namespace Go.Proofs.YtkmkgpigmldhnaaDoor.Pr
open Go.RowKit Go.Lib Go.Proofs.YtkmkgpigmldhnaaDoorW.PrintWords Go.Proofs.YtkmkgpigmldhnaaDoorW.PrintLast Go.Proofs.YtkmkgpigmldhnaaDoorW.PrintMore
open Go.Proofs.YtkmkgpigmldhnaaDoor.P
open Go.Proofs.YtkmkgpigmldhnaaDoor.Mq (rightB contains_zero)
abbrev dl (s : ByteArray) : List UInt8 := s.data.toList
theorem w64 {x : Int} (h1 : -4611686018427387904 ≤ x) (h2 : x < 4611686018427387904) : wrap64 x = x := by unfold wrap64; omega
theorem bt_get (s : ByteArray) (i : Nat) (h : i < s.size) : bt s (i : Int) = (((s.get! i).toNat : Nat) : Int) := by
 unfold bt
 rw [dif_pos (by simpa using h)]
 have : s.get! i = s[i]'h := by
  cases s with
  | mk d => exact getElem!_pos d i h
 rw [this]; rfl
def wid (D : Nat × Nat) (b0 : Nat) : Int := if (D.1 = 65533 ∧ D.2 = 1) ∨ b0 = 0 then 0 else (D.2 : Int)
def widthN (n b0 b1 b2 b3 : Nat) : Int := wid (decodeN n b0 b1 b2 b3) b0
theorem sign_step (s : ByteArray) (i : Nat) (hs : s.size ≤ 65535) (k : Nat) (size acc least : Int) (j : Nat) (hj : (j : Int) < size) (hj4 : j ≤ 4) (hi : i + j < s.size) (ha : 0 ≤ acc) (hb : acc < 1073741824) :
  pouchref02_sign.l0 (k + 1) s i size acc least j = if (s.get! (i + j)).toNat < 128 then some (0, 0) else if (s.get! (i + j)).toNat ≥ 192 then some (0, 0) else pouchref02_sign.l0 k s i size (64 * acc + ((s.get! (i + j)).toNat : Int) - 128) least ((j + 1 : Nat) : Int) := by
 have hr : (s.get! (i + j)).toNat < 256 := (s.get! (i + j)).toNat_lt
 have e1 : wrap64 ((i : Int) + (j : Int)) = ((i + j : Nat) : Int) := by rw [w64 (by omega) (by omega)]; omega
 have e2 : wrap64 ((j : Int) + 1) = ((j + 1 : Nat) : Int) := by rw [w64 (by omega) (by omega)]; omega
 simp only [pouchref02_sign.l0]
 rw [if_pos hj, e1, if_pos (by omega), if_pos (by omega), bt_get s (i + j) hi, e2, w64 (x := ((s.get! (i + j)).toNat : Int)) (by omega) (by omega), w64 (x := 64 * acc) (by omega) (by omega), w64 (x := 64 * acc + _) (by omega) (by omega), w64 (x := 64 * acc + _ - 128) (by omega) (by omega)]
 by_cases h1 : (s.get! (i + j)).toNat < 128
 ·rw [if_pos h1, if_pos (by omega)]
 ·rw [if_neg h1, if_neg (by omega)]
  by_cases h2 : (s.get! (i + j)).toNat ≥ 192
  ·rw [if_pos h2, if_pos (by omega)]
  ·rw [if_neg h2, if_neg (by omega)]
def finN (acc least size : Int) : Option (Int × Int) := if acc < least ∨ acc > 1114111 ∨ (55296 ≤ acc ∧ acc ≤ 57343) then some (0, 0) else some (acc, size)
theorem sign_end (s : ByteArray) (i : Nat) (k : Nat) (size acc least j : Int) (hj : ¬ j < size) :
  pouchref02_sign.l0 (k + 1) s i size acc least j = finN acc least size := by
 unfold finN
 simp only [pouchref02_sign.l0]
 rw [if_neg hj]
 by_cases h1 : acc < least
 ·rw [if_pos h1, if_pos (.inl h1)]
 ·rw [if_neg h1]
  by_cases h2 : acc > 1114111
  ·rw [if_pos h2, if_pos (.inr (.inl h2))]
  ·rw [if_neg h2]
   by_cases h3 : acc ≥ 55296
   ·rw [if_pos h3]
    by_cases h4 : acc ≤ 57343
    ·rw [if_pos h4, if_pos (.inr (.inr ⟨h3, h4⟩))]
    ·rw [if_neg h4, if_neg (by omega)]
   ·rw [if_neg h3, if_neg (by omega)]
theorem sg1 (s : ByteArray) (i k : Nat) (acc least : Int) : pouchref02_sign.l0 (k + 1) s i 1 acc least 1 = finN acc least 1 := sign_end s i k 1 acc least 1 (by omega)
theorem sg2 (s : ByteArray) (i : Nat) (hs : s.size ≤ 65535) (k : Nat) (acc least : Int) (hi : i + 2 ≤ s.size) (ha : 0 ≤ acc) (hb : acc < 512) :
  pouchref02_sign.l0 (k + 2) s i 2 acc least 1 = if (s.get! (i + 1)).toNat < 128 ∨ (s.get! (i + 1)).toNat ≥ 192 then some (0, 0) else finN (64 * acc + ((s.get! (i + 1)).toNat : Int) - 128) least 2 := by
 have s1 := sign_step s i hs (k + 1) 2 acc least 1 (by omega) (by omega) (by omega) ha (by omega)
 rw [show ((1 : Nat) : Int) = 1 from rfl] at s1
 rw [s1, show ((1 + 1 : Nat) : Int) = 2 from rfl, sign_end s i k 2 _ least 2 (by omega)]
 by_cases h1 : (s.get! (i + 1)).toNat < 128
 ·rw [if_pos h1, if_pos (.inl h1)]
 ·rw [if_neg h1]
  by_cases h2 : (s.get! (i + 1)).toNat ≥ 192
  ·rw [if_pos h2, if_pos (.inr h2)]
  ·rw [if_neg h2, if_neg (by omega)]
theorem sg3 (s : ByteArray) (i : Nat) (hs : s.size ≤ 65535) (k : Nat) (acc least : Int) (hi : i + 3 ≤ s.size) (ha : 0 ≤ acc) (hb : acc < 512) :
  pouchref02_sign.l0 (k + 3) s i 3 acc least 1 = if ((s.get! (i + 1)).toNat < 128 ∨ (s.get! (i + 1)).toNat ≥ 192) ∨ ((s.get! (i + 2)).toNat < 128 ∨ (s.get! (i + 2)).toNat ≥ 192) then some (0, 0) else finN (64 * (64 * acc + ((s.get! (i + 1)).toNat : Int) - 128) + ((s.get! (i + 2)).toNat : Int) - 128) least 3 := by
 have r1 : (s.get! (i + 1)).toNat < 256 := (s.get! (i + 1)).toNat_lt
 have s1 := sign_step s i hs (k + 2) 3 acc least 1 (by omega) (by omega) (by omega) ha (by omega)
 rw [show ((1 : Nat) : Int) = 1 from rfl] at s1
 rw [s1, show ((1 + 1 : Nat) : Int) = ((2 : Nat) : Int) from rfl]
 by_cases h1 : (s.get! (i + 1)).toNat < 128
 ·rw [if_pos h1, if_pos (by omega)]
 ·rw [if_neg h1]
  by_cases h2 : (s.get! (i + 1)).toNat ≥ 192
  ·rw [if_pos h2, if_pos (by omega)]
  ·rw [if_neg h2, sign_step s i hs (k + 1) 3 _ least 2 (by omega) (by omega) (by omega) (by omega) (by omega), show ((2 + 1 : Nat) : Int) = 3 from rfl, sign_end s i k 3 _ least 3 (by omega)]
   by_cases h3 : (s.get! (i + 2)).toNat < 128
   ·rw [if_pos h3, if_pos (by omega)]
   ·rw [if_neg h3]
    by_cases h4 : (s.get! (i + 2)).toNat ≥ 192
    ·rw [if_pos h4, if_pos (by omega)]
    ·rw [if_neg h4, if_neg (by omega)]
theorem sg4 (s : ByteArray) (i : Nat) (hs : s.size ≤ 65535) (k : Nat) (acc least : Int) (hi : i + 4 ≤ s.size) (ha : 0 ≤ acc) (hb : acc < 512) :
  pouchref02_sign.l0 (k + 4) s i 4 acc least 1 = if ((s.get! (i + 1)).toNat < 128 ∨ (s.get! (i + 1)).toNat ≥ 192) ∨ ((s.get! (i + 2)).toNat < 128 ∨ (s.get! (i + 2)).toNat ≥ 192) ∨ ((s.get! (i + 3)).toNat < 128 ∨ (s.get! (i + 3)).toNat ≥ 192) then some (0, 0) else finN (64 * (64 * (64 * acc + ((s.get! (i + 1)).toNat : Int) - 128) + ((s.get! (i + 2)).toNat : Int) - 128) + ((s.get! (i + 3)).toNat : Int) - 128) least 4 := by
 have r1 : (s.get! (i + 1)).toNat < 256 := (s.get! (i + 1)).toNat_lt
 have r2 : (s.get! (i + 2)).toNat < 256 := (s.get! (i + 2)).toNat_lt
 have s1 := sign_step s i hs (k + 3) 4 acc least 1 (by omega) (by omega) (by omega) ha (by omega)
 rw [show ((1 : Nat) : Int) = 1 from rfl] at s1
 rw [s1, show ((1 + 1 : Nat) : Int) = ((2 : Nat) : Int) from rfl]
 by_cases h1 : (s.get! (i + 1)).toNat < 128
 ·rw [if_pos h1, if_pos (by omega)]
 ·rw [if_neg h1]
  by_cases h2 : (s.get! (i + 1)).toNat ≥ 192
  ·rw [if_pos h2, if_pos (by omega)]
  ·rw [if_neg h2, sign_step s i hs (k + 2) 4 _ least 2 (by omega) (by omega) (by omega) (by omega) (by omega)]
   by_cases h3 : (s.get! (i + 2)).toNat < 128
   ·rw [if_pos h3, if_pos (by omega)]
   ·rw [if_neg h3]
    by_cases h4 : (s.get! (i + 2)).toNat ≥ 192
    ·rw [if_pos h4, if_pos (by omega)]
    ·rw [if_neg h4, show ((2 + 1 : Nat) : Int) = ((3 : Nat) : Int) from rfl, sign_step s i hs (k + 1) 4 _ least 3 (by omega) (by omega) (by omega) (by omega) (by omega), show ((3 + 1 : Nat) : Int) = 4 from rfl, sign_end s i k 4 _ least 4 (by omega)]
     by_cases h5 : (s.get! (i + 3)).toNat < 128
     ·rw [if_pos h5, if_pos (by omega)]
     ·rw [if_neg h5]
      by_cases h6 : (s.get! (i + 3)).toNat ≥ 192
      ·rw [if_pos h6, if_pos (by omega)]
      ·rw [if_neg h6, if_neg (by omega)]
def signN (n b0 b1 b2 b3 : Nat) : Option (Int × Int) :=
 if b0 ≥ 240 then (if b0 ≥ 248 ∨ n < 4 then some (0, 0) else if (b1 < 128 ∨ b1 ≥ 192) ∨ (b2 < 128 ∨ b2 ≥ 192) ∨ (b3 < 128 ∨ b3 ≥ 192) then some (0, 0) else finN (64 * (64 * (64 * ((b0 : Int) - 240) + (b1 : Int) - 128) + (b2 : Int) - 128) + (b3 : Int) - 128) 65536 4)
 else if b0 ≥ 224 then (if n < 3 then some (0, 0) else if (b1 < 128 ∨ b1 ≥ 192) ∨ (b2 < 128 ∨ b2 ≥ 192) then some (0, 0) else finN (64 * (64 * ((b0 : Int) - 224) + (b1 : Int) - 128) + (b2 : Int) - 128) 2048 3)
 else if b0 ≥ 192 then (if n < 2 then some (0, 0) else if b1 < 128 ∨ b1 ≥ 192 then some (0, 0) else finN (64 * ((b0 : Int) - 192) + (b1 : Int) - 128) 128 2)
 else if b0 ≥ 128 then some (0, 0) else finN b0 1 1
theorem sign_f (s : ByteArray) (i : Nat) (hs : s.size ≤ 65535) (h : i < s.size) (k : Nat) :
  pouchref02_sign.f (k + 8) s i = signN (s.size - i) (s.get! i).toNat (s.get! (i + 1)).toNat (s.get! (i + 2)).toNat (s.get! (i + 3)).toNat := by
 have r0 : (s.get! i).toNat < 256 := (s.get! i).toNat_lt
 have e : ∀ x : Int, x = 1 ∨ x = 2 ∨ x = 3 ∨ x = 4 → wrap64 ((i : Int) + x) = (i : Int) + x := fun x hx => w64 (by omega) (by omega)
 simp only [pouchref02_sign.f]
 rw [if_pos (by omega), if_pos (by omega), bt_get s i h, w64 (x := ((s.get! i).toNat : Int)) (by omega) (by omega), w64 (x := ((s.get! i).toNat : Int) - 240) (by omega) (by omega), w64 (x := ((s.get! i).toNat : Int) - 224) (by omega) (by omega), w64 (x := ((s.get! i).toNat : Int) - 192) (by omega) (by omega)]
 generalize (s.get! i).toNat = b0 at *
 unfold signN
 by_cases c4 : b0 ≥ 240
 ·rw [if_pos (by omega), if_pos c4]
  simp only [pouchref02_sign.j0]
  rw [e 4 (by omega)]
  by_cases c5 : b0 ≥ 248
  ·rw [if_pos (by omega), if_pos (.inl c5)]
   simp only [pouchref02_sign.j1]; rfl
  ·rw [if_neg (by omega)]
   by_cases c6 : i + 4 > s.size
   ·rw [decide_eq_true (by omega), if_pos (by omega)]
    simp only [pouchref02_sign.j1]; rfl
   ·rw [decide_eq_false (by omega), if_neg (by omega)]
    simp only [pouchref02_sign.j1]
    rw [if_neg (by simp), show k + 6 = (k + 2) + 4 from rfl, sg4 s i hs (k + 2) _ _ (by omega) (by omega) (by omega)]
 ·rw [if_neg (by omega), if_neg c4]
  by_cases c3 : b0 ≥ 224
  ·rw [if_pos (by omega), if_pos c3]
   simp only [pouchref02_sign.j0]
   rw [e 3 (by omega), if_neg (by omega)]
   by_cases c6 : i + 3 > s.size
   ·rw [decide_eq_true (by omega), if_pos (by omega)]
    simp only [pouchref02_sign.j1]; rfl
   ·rw [decide_eq_false (by omega), if_neg (by omega)]
    simp only [pouchref02_sign.j1]
    rw [if_neg (by simp), show k + 6 = (k + 3) + 3 from rfl, sg3 s i hs (k + 3) _ _ (by omega) (by omega) (by omega)]
  ·rw [if_neg (by omega), if_neg c3]
   by_cases c2 : b0 ≥ 192
   ·rw [if_pos (by omega), if_pos c2]
    simp only [pouchref02_sign.j0]
    rw [e 2 (by omega), if_neg (by omega)]
    by_cases c6 : i + 2 > s.size
    ·rw [decide_eq_true (by omega), if_pos (by omega)]
     simp only [pouchref02_sign.j1]; rfl
    ·rw [decide_eq_false (by omega), if_neg (by omega)]
     simp only [pouchref02_sign.j1]
     rw [if_neg (by simp), show k + 6 = (k + 4) + 2 from rfl, sg2 s i hs (k + 4) _ _ (by omega) (by omega) (by omega)]
   ·rw [if_neg (by omega), if_neg c2]
    by_cases c1 : b0 ≥ 128
    ·rw [if_pos (by omega), if_pos c1]
    ·rw [if_neg (by omega), if_neg c1]
     simp only [pouchref02_sign.j0]
     rw [e 1 (by omega), if_neg (by omega), decide_eq_false (by omega)]
     simp only [pouchref02_sign.j1]
     rw [if_neg (by simp), show k + 6 = (k + 5) + 1 from rfl, sg1]
theorem signN_decode (n b0 b1 b2 b3 : Nat) (r0 : b0 < 256) (r1 : b1 < 256) (r2 : b2 < 256) (r3 : b3 < 256) : ∃ x, signN n b0 b1 b2 b3 = some (x, widthN n b0 b1 b2 b3) := by
 by_cases h0 : b0 = 0
 ·subst h0
  refine ⟨0, ?_⟩
  have hw : widthN n 0 b1 b2 b3 = 0 := by unfold widthN wid; rw [if_pos (Or.inr rfl)]
  rw [hw]
  unfold signN finN
  rw [if_neg (by omega), if_neg (by omega), if_neg (by omega), if_neg (by omega), if_pos (by omega)]
 ·unfold widthN
  by_cases c1 : b0 < 128
  ·refine ⟨b0, ?_⟩
   unfold signN finN decodeN
   rw [if_neg (by omega), if_neg (by omega), if_neg (by omega), if_neg (by omega), if_neg (by omega), if_pos c1]
   unfold wid
   rw [if_neg (by simp; omega)]
   rfl
  ·unfold decodeN
   rw [if_neg c1]
   by_cases c2 : b0 ≥ 192 ∧ b0 < 224 ∧ 2 ≤ n ∧ 128 ≤ b1 ∧ b1 < 192
   ·rw [if_pos (by omega)]
    unfold signN finN
    rw [if_neg (by omega), if_neg (by omega), if_pos (by omega), if_neg (by omega), if_neg (by omega)]
    by_cases c3 : b0 % 32 * 64 + b1 % 64 ≥ 128
    ·rw [if_pos c3, if_neg (by omega)]; unfold wid; rw [if_neg (by simp; omega)]; exact ⟨_, rfl⟩
    ·rw [if_neg c3, if_pos (by omega)]; unfold wid; rw [if_pos (by simp)]; exact ⟨_, rfl⟩
   ·rw [if_neg (by omega)]
    by_cases c4 : b0 ≥ 224 ∧ b0 < 240 ∧ 3 ≤ n ∧ (128 ≤ b1 ∧ b1 < 192) ∧ (128 ≤ b2 ∧ b2 < 192)
    ·rw [if_pos (by omega)]
     unfold signN finN
     rw [if_neg (by omega), if_pos (by omega), if_neg (by omega), if_neg (by omega)]
     by_cases c3 : b0 % 16 * 4096 + b1 % 64 * 64 + b2 % 64 ≥ 2048 ∧ (b0 % 16 * 4096 + b1 % 64 * 64 + b2 % 64 < 55296 ∨ (57344 ≤ b0 % 16 * 4096 + b1 % 64 * 64 + b2 % 64 ∧ b0 % 16 * 4096 + b1 % 64 * 64 + b2 % 64 < 1114112))
     ·rw [if_neg (by omega), if_pos (by omega)]; unfold wid; rw [if_neg (by simp; omega)]; exact ⟨_, rfl⟩
     ·rw [if_pos (by omega), if_neg (by omega)]; unfold wid; rw [if_pos (by simp)]; exact ⟨_, rfl⟩
    ·rw [if_neg (by omega)]
     by_cases c5 : b0 ≥ 240 ∧ b0 < 248 ∧ 4 ≤ n ∧ (128 ≤ b1 ∧ b1 < 192) ∧ (128 ≤ b2 ∧ b2 < 192) ∧ (128 ≤ b3 ∧ b3 < 192)
     ·rw [if_pos (by omega)]
      unfold signN finN
      rw [if_pos (by omega), if_neg (by omega), if_neg (by omega)]
      by_cases c3 : b0 % 8 * 262144 + b1 % 64 * 4096 + b2 % 64 * 64 + b3 % 64 ≥ 65536 ∧ (b0 % 8 * 262144 + b1 % 64 * 4096 + b2 % 64 * 64 + b3 % 64 < 55296 ∨ (57344 ≤ b0 % 8 * 262144 + b1 % 64 * 4096 + b2 % 64 * 64 + b3 % 64 ∧ b0 % 8 * 262144 + b1 % 64 * 4096 + b2 % 64 * 64 + b3 % 64 < 1114112))
      ·rw [if_neg (by omega), if_pos (by omega)]; unfold wid; rw [if_neg (by simp; omega)]; exact ⟨_, rfl⟩
      ·rw [if_pos (by omega), if_neg (by omega)]; unfold wid; rw [if_pos (by simp)]; exact ⟨_, rfl⟩
     ·rw [if_neg (by omega)]
      unfold wid
      rw [if_pos (by simp)]
      unfold signN
      by_cases d4 : b0 ≥ 240
      ·rw [if_pos d4]
       by_cases d5 : b0 ≥ 248 ∨ n < 4
       ·rw [if_pos d5]; exact ⟨_, rfl⟩
       ·rw [if_neg d5, if_pos (by omega)]; exact ⟨_, rfl⟩
      ·rw [if_neg d4]
       by_cases d3 : b0 ≥ 224
       ·rw [if_pos d3]
        by_cases d5 : n < 3
        ·rw [if_pos d5]; exact ⟨_, rfl⟩
        ·rw [if_neg d5, if_pos (by omega)]; exact ⟨_, rfl⟩
       ·rw [if_neg d3]
        by_cases d2 : b0 ≥ 192
        ·rw [if_pos d2]
         by_cases d5 : n < 2
         ·rw [if_pos d5]; exact ⟨_, rfl⟩
         ·rw [if_neg d5, if_pos (by omega)]; exact ⟨_, rfl⟩
        ·rw [if_neg d2, if_pos (by omega)]; exact ⟨_, rfl⟩
theorem getD_get (s : ByteArray) (i j : Nat) : ((dl s).drop i).getD j 0 = s.get! (i + j) := by rw [getD_dropU, getD_get!']
theorem decode_drop (s : ByteArray) (i : Nat) : decodeL ((dl s).drop i) = decodeN (s.size - i) (s.get! i).toNat (s.get! (i + 1)).toNat (s.get! (i + 2)).toNat (s.get! (i + 3)).toNat := by
 rw [decodeL_drop, decode_at]
theorem sign_nz (s : ByteArray) (i : Nat) (h : i < s.size) (h0 : (s.get! i).toNat ≠ 0) : i + (decodeL ((dl s).drop i)).2 ≤ s.size ∧ 1 ≤ (decodeL ((dl s).drop i)).2 ∧ ∀ j, j < (decodeL ((dl s).drop i)).2 → (s.get! (i + j)).toNat ≠ 0 := by
 have ht := decode_tail s i h
 rw [decodeL_drop]
 refine ⟨ht.1, ht.2.1, fun j hj => ?_⟩
 by_cases e : j = 0
 ·subst e; exact h0
 ·have := ht.2.2 j (by omega) hj; omega
theorem contains_drop (l : List UInt8) (n : Nat) (h : ∀ j b, j < n → l[j]? = some b → b ≠ 0) : l.contains 0 = (l.drop n).contains 0 := by
 have e : l.contains 0 = ((l.take n).contains 0 || (l.drop n).contains 0) := by
  rw [Bool.eq_iff_iff, Bool.or_eq_true, List.contains_iff_mem, List.contains_iff_mem, List.contains_iff_mem, ← List.mem_append, List.take_append_drop]
 rw [e]
 have : (l.take n).contains 0 = false := by
  rw [Bool.eq_false_iff]
  intro hc
  rw [List.contains_iff_mem] at hc
  obtain ⟨j, hj, he⟩ := List.mem_iff_getElem.1 hc
  have hjn : j < n := by simp at hj; omega
  refine h j 0 hjn ?_ rfl
  rw [← List.getElem?_take_of_lt hjn, List.getElem?_eq_getElem hj, he]
 rw [this, Bool.false_or]
theorem runes_l0 (s : ByteArray) (hs : s.size ≤ 65535) : ∀ (d i : Nat) (cnt : Int), i + d = s.size → 0 ≤ cnt → cnt ≤ i → ∃ r, Ev (fun k => pouchref02_Runes.l0 k s cnt (i : Int)) r ∧ decide (r ≥ 0) = (validD ((dl s).drop i) && !((dl s).drop i).contains 0) := by
 intro d
 induction d using Nat.strongRecOn with
 | _ d ih =>
 intro i cnt hd h1 h2
 by_cases hi : i < s.size
 ·have hl : (dl s).length = s.size := (Go.Lib.size_eq s).symm
  have hne : (dl s).drop i ≠ [] := fun e => by have := congrArg List.length e; simp [hl] at this; omega
  obtain ⟨x, hx⟩ := signN_decode (s.size - i) (s.get! i).toNat (s.get! (i + 1)).toNat (s.get! (i + 2)).toNat (s.get! (i + 3)).toNat (s.get! i).toNat_lt (s.get! (i + 1)).toNat_lt (s.get! (i + 2)).toNat_lt (s.get! (i + 3)).toNat_lt
  have hsg : Ev (fun k => pouchref02_sign.f k s (i : Int)) (x, wid (decodeL ((dl s).drop i)) (s.get! i).toNat) := ⟨8, fun k hk => by
   obtain ⟨m, rfl⟩ : ∃ m, k = m + 8 := ⟨k - 8, by omega⟩
   show pouchref02_sign.f (m + 8) s (i : Int) = _
   rw [sign_f s i hs hi m, hx]
   unfold widthN
   rw [decode_drop]⟩
  have h0 : ((dl s).drop i)[0]? = some (s.get! i) := by
   rw [List.getElem?_drop, Nat.add_zero, Go.Lib.data_getElem? s i hi, ← get_at s i hi]; rfl
  rw [validD_step _ hne]
  by_cases hb : ((decodeL ((dl s).drop i)).1 = 65533 ∧ (decodeL ((dl s).drop i)).2 = 1) ∨ (s.get! i).toNat = 0
  ·refine ⟨-1, Ev.step (f := fun k => (pouchref02_sign.f k s (i : Int)).bind fun bt101 => if bt101.2 = 0 then some (-1) else pouchref02_Runes.l0 k s (wrap64 (cnt + 1)) (wrap64 ((i : Int) + bt101.2))) (fun k => by simp only [pouchref02_Runes.l0]; rw [if_pos (by omega)]) (Ev.bind hsg (Ev.congr (f := fun _ => some (-1)) (fun k => ?_) (Ev.now _))), ?_⟩
   ·show (if wid (decodeL ((dl s).drop i)) (s.get! i).toNat = 0 then _ else _) = _
    rw [if_pos (by unfold wid; rw [if_pos hb])]
   ·rcases hb with hb | hb
    ·rw [if_pos hb]; rfl
    ·have hc : ((dl s).drop i).contains 0 = true := by
      rw [List.contains_iff_mem]
      have e0 : s.get! i = 0 := UInt8.toNat_inj.1 hb
      exact List.mem_of_getElem? (e0 ▸ h0)
     rw [hc]; simp
  ·have hz : (s.get! i).toNat ≠ 0 := fun e => hb (.inr e)
   have hv : ¬ ((decodeL ((dl s).drop i)).1 = 65533 ∧ (decodeL ((dl s).drop i)).2 = 1) := fun e => hb (.inl e)
   obtain ⟨n1, n2, n3⟩ := sign_nz s i hi hz
   have hw : wid (decodeL ((dl s).drop i)) (s.get! i).toNat = (((decodeL ((dl s).drop i)).2 : Nat) : Int) := by unfold wid; rw [if_neg hb]
   obtain ⟨r, hr, he⟩ := ih (d - (decodeL ((dl s).drop i)).2) (by omega) (i + (decodeL ((dl s).drop i)).2) (cnt + 1) (by omega) (by omega) (by omega)
   refine ⟨r, Ev.step (f := fun k => (pouchref02_sign.f k s (i : Int)).bind fun bt101 => if bt101.2 = 0 then some (-1) else pouchref02_Runes.l0 k s (wrap64 (cnt + 1)) (wrap64 ((i : Int) + bt101.2))) (fun k => by simp only [pouchref02_Runes.l0]; rw [if_pos (by omega)]) (Ev.bind hsg (Ev.congr (fun k => ?_) hr)), ?_⟩
   ·show (if wid (decodeL ((dl s).drop i)) (s.get! i).toNat = 0 then _ else pouchref02_Runes.l0 k s (wrap64 (cnt + 1)) (wrap64 ((i : Int) + wid (decodeL ((dl s).drop i)) (s.get! i).toNat))) = _
    rw [hw, if_neg (by omega), w64 (by omega) (by omega), w64 (by omega) (by omega)]
    rfl
   ·rw [he, if_neg hv, contains_drop ((dl s).drop i) (decodeL ((dl s).drop i)).2 (fun j b hj hb2 => ?_), List.drop_drop]
    rw [List.getElem?_drop, Go.Lib.data_getElem? s (i + j) (by omega), ← get_at s (i + j) (by omega)] at hb2
    have := n3 j hj
    intro e
    have e2 := Option.some.inj hb2
    rw [e] at e2
    exact this (by rw [show s.get! (i + j) = 0 from e2]; rfl)
 ·have e : i = s.size := by omega
  subst e
  refine ⟨cnt, Ev.step (f := fun _ => some cnt) (fun k => by simp only [pouchref02_Runes.l0]; rw [if_neg (by omega)]) (Ev.now _), ?_⟩
  rw [List.drop_eq_nil_of_le (by rw [Go.Lib.size_eq s]; exact Nat.le_refl _), validD_nil, decide_eq_true h1]; rfl
theorem right_ref (s : ByteArray) : Ev (fun k => pouchref02_Right.f k s) (rightB (dl s)) := by
 have hl : (dl s).length = s.size := (Go.Lib.size_eq s).symm
 by_cases hs : s.size ≤ 65535
 ·obtain ⟨r, hr, he⟩ := runes_l0 s hs s.size 0 0 (by omega) (Int.le_refl _) (by omega)
  rw [List.drop_zero] at he
  have h2 : rightB (dl s) = decide (r ≥ 0) := by unfold rightB; rw [hl, decide_eq_true hs, he]; rfl
  rw [h2]
  refine Ev.bind (g := fun k => pouchref02_Runes.f k s) (f := fun _ t => some (decide (t ≥ 0))) (a := r) (Ev.congr (fun k => ?_) hr) (Ev.now _)
  simp only [pouchref02_Runes.f]
  rw [if_neg (by omega)]; rfl
 ·have h2 : rightB (dl s) = false := by unfold rightB; rw [hl, decide_eq_false hs]; rfl
  rw [h2]
  refine Ev.bind (g := fun k => pouchref02_Runes.f k s) (f := fun _ t => some (decide (t ≥ 0))) (a := -1) (Ev.congr (f := fun _ => some (-1)) (fun k => ?_) (Ev.now _)) (Ev.now _)
  simp only [pouchref02_Runes.f]
  rw [if_pos (by omega)]
theorem right_prog (a : ByteArray) : text_Right.f a = some (rightB (dl a)) := by
 have hl : (dl a).length = a.size := (Go.Lib.size_eq a).symm
 unfold text_Right.f utf8_ValidString.f strings_Contains.f rightB
 rw [hl]
 by_cases h : a.size ≤ 65535
 ·rw [if_pos (by omega), if_pos (by omega), if_pos (by omega), decide_eq_true h]
  simp only [Option.bind_some]
  by_cases hv : validD a.data.toList = true
  ·rw [if_pos hv, hv]
   rw [contains_zero]; rfl
  ·rw [if_neg hv]
   have : validD a.data.toList = false := by simpa using hv
   rw [this]; rfl
 ·rw [if_neg (by omega), decide_eq_false h]; rfl
def tyP (id : Int) : Int := (rowB id).1
def kindsP (id : Int) : List Int := (rowB id).2
theorem nat_of {id : Int} (h0 : 0 ≤ id) (h1 : id < 256) : ∃ n : Fin 256, id = ((n.val : Nat) : Int) := ⟨⟨id.toNat, by omega⟩, by show id = ((id.toNat : Nat) : Int); omega⟩
theorem type_tab : ∀ n : Fin 256, pouchref05_Type.f 8 ((n.val : Nat) : Int) = some (tyP ((n.val : Nat) : Int)) := by decide +kernel
theorem kinds_tab : ∀ n : Fin 256, pouchref05_kinds.f 8 ((n.val : Nat) : Int) = some (kindsP ((n.val : Nat) : Int)) := by decide +kernel
theorem type_ref (id : Int) (h0 : 0 ≤ id) (h1 : id < 256) : Ev (fun k => pouchref05_Type.f k id) (tyP id) := by
 obtain ⟨n, rfl⟩ := nat_of h0 h1
 exact Ev.of (fun k => pouchref05_Type.mono _ k) (type_tab n)
theorem kinds_ref (id : Int) (h0 : 0 ≤ id) (h1 : id < 256) : Ev (fun k => pouchref05_kinds.f k id) (kindsP id) := by
 obtain ⟨n, rfl⟩ := nat_of h0 h1
 exact Ev.of (fun k => pouchref05_kinds.mono _ k) (kinds_tab n)
theorem kinds_len_tab : ∀ n : Fin 256, (kindsP ((n.val : Nat) : Int)).length ≤ 14 := by decide +kernel
theorem kinds_len (id : Int) (h0 : 0 ≤ id) (h1 : id < 256) : (kindsP id).length ≤ 14 := by
 obtain ⟨n, rfl⟩ := nat_of h0 h1
 exact kinds_len_tab n
theorem rd_nat (L : List Int) (i : Nat) (h : i < L.length) : rd L (i : Int) = L[i] := by
 unfold rd
 simp [h]
theorem for_l0 (a : Int) (L : List Int) (hL : L.length < 1000) : ∀ (d i : Nat), i + d = L.length → Ev (fun k => pouchref05_For.l0 k a L (i : Int)) ((L.drop i).contains a)
 | 0, i, h => by
  rw [List.drop_eq_nil_of_le (by omega)]
  exact Ev.step (f := fun _ => some false) (fun k => by simp only [pouchref05_For.l0]; rw [if_neg (by omega)]) (Ev.now _)
 | d + 1, i, h => by
  have hi : i < L.length := by omega
  rw [List.drop_eq_getElem_cons hi, List.contains_cons]
  by_cases e : L[i] = a
  ·rw [e]; simp only [beq_self_eq_true, Bool.true_or]
   exact Ev.step (f := fun _ => some true) (fun k => by simp only [pouchref05_For.l0]; rw [if_pos (by omega), if_pos (by omega), rd_nat L i hi, if_pos e]) (Ev.now _)
  ·have he : (a == L[i]) = false := beq_eq_false_iff_ne.2 (Ne.symm e)
   rw [he, Bool.false_or]
   refine Ev.step (f := fun k => pouchref05_For.l0 k a L ((i + 1 : Nat) : Int)) (fun k => ?_) (for_l0 a L hL d (i + 1) (by omega))
   simp only [pouchref05_For.l0]
   rw [if_pos (by omega), if_pos (by omega), rd_nat L i hi, if_neg e, w64 (by omega) (by omega)]; rfl
theorem for_ref (id kind : Int) (h0 : 0 ≤ id) (h1 : id < 256) : Ev (fun k => pouchref05_For.f k id kind) ((kindsP id).contains kind) := by
 have hl := kinds_len id h0 h1
 have h := for_l0 kind (kindsP id) (by omega) (kindsP id).length 0 (by omega)
 rw [List.drop_zero] at h
 exact Ev.bind (f := fun k t => pouchref05_For.l0 k kind t 0) (kinds_ref id h0 h1) h
theorem for_prog (id kind : Int) : prop_For.f id kind = some ((kindsP id).contains kind) := rfl
def oftenP (id kind : Int) : Bool := (kindsP id).contains kind && (decide (id = 38) || (decide (id = 11) && decide (kind = 3)))
theorem often_prog (id kind : Int) : prop_Often.f id kind = some (oftenP id kind) := by
 unfold prop_Often.f oftenP
 rw [for_prog]
 simp only [Option.bind_some]
 by_cases h : (kindsP id).contains kind = true
 ·rw [if_pos h, h]
  by_cases h2 : id = 38
  ·rw [if_pos h2]; simp [h2]
  ·rw [if_neg h2]
   by_cases h3 : id = 11
   ·rw [if_pos h3]; simp [h3]
    by_cases h4 : kind = 3 <;> simp [h4]
   ·rw [if_neg h3]; simp [h2, h3]
 ·rw [if_neg h]
  have : (kindsP id).contains kind = false := by simpa using h
  rw [this]; rfl
theorem often_ref (id kind : Int) (h0 : 0 ≤ id) (h1 : id < 256) : Ev (fun k => pouchref05_Often.f k id kind) (oftenP id kind) := by
 refine Ev.bind (f := fun _ t => if t = true then (if id = 38 then some true else (if id = 11 then some (kind == 3) else some false)) else some false) (for_ref id kind h0 h1) (Ev.congr (f := fun _ => some (oftenP id kind)) (fun k => ?_) (Ev.now _))
 have h := often_prog id kind
 unfold prop_Often.f at h
 rw [for_prog] at h
 simpa using h
def rightP (id n : Int) (a b : List UInt8) : Bool :=
 if tyP id = 1 then decide (n < 256) && (a.isEmpty && b.isEmpty) else if tyP id = 2 then decide (n < 65536) && (a.isEmpty && b.isEmpty) else if tyP id = 3 then a.isEmpty && b.isEmpty
 else if tyP id = 4 then decide (n < 268435456) && (a.isEmpty && b.isEmpty) else if tyP id = 5 then decide (n = 0) && (rightB a && b.isEmpty) else if tyP id = 6 then decide (n = 0) && (decide (a.length ≤ 65535) && b.isEmpty)
 else if tyP id = 7 then decide (n = 0) && (rightB a && rightB b) else false
theorem empty_toList (s : ByteArray) : (s.toList == ([] : List UInt8)) = (dl s).isEmpty := by
 rw [Go.Lib.toList_data s]
 show (dl s == []) = (dl s).isEmpty
 generalize dl s = l
 cases l <;> rfl
theorem nil_toList (s : ByteArray) : s.toList = ([] : List UInt8) ↔ (dl s).isEmpty = true := by
 rw [← empty_toList, beq_iff_eq]
theorem type_prog (id : Int) : prop_Type.f id = some (tyP id) := rfl
theorem right_j0 (id n : Int) (a b : ByteArray) (x3 x4 : Bool) (h3 : x3 = ((dl a).isEmpty && (dl b).isEmpty)) (h4 : x4 = decide (n = 0)) (k : Nat) : prop_Right.j0 (k + 1) x3 x4 id n a b = some (rightP id n (dl a) (dl b)) := by
 have hla : (dl a).length = a.size := (Go.Lib.size_eq a).symm
 subst h3 h4
 simp only [prop_Right.j0, type_prog, Option.bind_some, right_prog, empty_toList]
 unfold rightP
 by_cases t1 : tyP id = 1
 ·rw [if_pos t1, if_pos t1]
  by_cases h : n < 256
  ·rw [if_pos h, decide_eq_true h]; rfl
  ·rw [if_neg h, decide_eq_false h]; rfl
 ·rw [if_neg t1, if_neg t1]
  by_cases t2 : tyP id = 2
  ·rw [if_pos t2, if_pos t2]
   by_cases h : n < 65536
   ·rw [if_pos h, decide_eq_true h]; rfl
   ·rw [if_neg h, decide_eq_false h]; rfl
  ·rw [if_neg t2, if_neg t2]
   by_cases t3 : tyP id = 3
   ·rw [if_pos t3, if_pos t3]
   ·rw [if_neg t3, if_neg t3]
    by_cases t4 : tyP id = 4
    ·rw [if_pos t4, if_pos t4]
     by_cases h : n < 268435456
     ·rw [if_pos (by omega), decide_eq_true h]; rfl
     ·rw [if_neg (by omega), decide_eq_false h]; rfl
    ·rw [if_neg t4, if_neg t4]
     by_cases t5 : tyP id = 5
     ·rw [if_pos t5, if_pos t5]
      by_cases h : n = 0
      ·rw [decide_eq_true h, if_pos rfl]
       cases rightB (dl a) <;> simp
      ·rw [decide_eq_false h]; rfl
     ·rw [if_neg t5, if_neg t5]
      by_cases t6 : tyP id = 6
      ·rw [if_pos t6, if_pos t6]
       by_cases h : n = 0
       ·rw [decide_eq_true h, if_pos rfl, hla]
        by_cases h2 : a.size ≤ 65535
        ·rw [if_pos (by omega), decide_eq_true h2]; rfl
        ·rw [if_neg (by omega), decide_eq_false h2]; rfl
       ·rw [decide_eq_false h]; rfl
      ·rw [if_neg t6, if_neg t6]
       by_cases t7 : tyP id = 7
       ·rw [if_pos t7, if_pos t7]
        by_cases h : n = 0
        ·rw [decide_eq_true h, if_pos rfl]
         cases rightB (dl a) <;> simp
        ·rw [decide_eq_false h]; rfl
       ·rw [if_neg t7, if_neg t7]
theorem prop_right (id n : Int) (a b : ByteArray) (k : Nat) : prop_Right.f (k + 1) id n a b = some (rightP id n (dl a) (dl b)) := by
 have hn : (n == 0) = decide (n = 0) := by by_cases h : n = 0 <;> simp [h]
 unfold prop_Right.f
 by_cases h : a.toList = ([] : List UInt8)
 ·rw [if_pos h]
  refine right_j0 id n a b _ _ ?_ hn k
  rw [empty_toList, (nil_toList a).1 h]; rfl
 ·rw [if_neg h]
  refine right_j0 id n a b _ _ ?_ hn k
  have : (dl a).isEmpty = false := by
   rw [Bool.eq_false_iff]; exact fun e => h ((nil_toList a).2 e)
  rw [this]; rfl
theorem prop_right_ev (id n : Int) (a b : ByteArray) : Ev (fun k => prop_Right.f k id n a b) (rightP id n (dl a) (dl b)) := ⟨1, fun k hk => by
 obtain ⟨m, rfl⟩ : ∃ m, k = m + 1 := ⟨k - 1, by omega⟩
 exact prop_right id n a b m⟩
theorem right_ref_j0 (id n : Int) (h0 : 0 ≤ id) (h1 : id < 256) (a b : ByteArray) (x3 : Bool) (h3 : x3 = ((dl a).isEmpty && (dl b).isEmpty)) : Ev (fun k => pouchref05_Right.j0 k x3 id n a b) (rightP id n (dl a) (dl b)) := by
 have hla : (dl a).length = a.size := (Go.Lib.size_eq a).symm
 have hp := right_j0 id n a b x3 (decide (n = 0)) h3 rfl 0
 simp only [prop_Right.j0, type_prog, Option.bind_some, right_prog, empty_toList] at hp
 have now : ∀ (f : Nat → Option Bool) (r : Bool), (∀ k, f k = some r) → Ev f r := fun f r h => Ev.congr (f := fun _ => some r) h (Ev.now r)
 refine Ev.step (f := fun k => _) (fun k => by simp only [pouchref05_Right.j0]; exact rfl) (Ev.bind (type_ref id h0 h1) ?_)
 by_cases t1 : tyP id = 1
 ·rw [if_pos t1] at hp; exact now _ _ fun k => by rw [if_pos t1]; exact hp
 rw [if_neg t1] at hp
 by_cases t2 : tyP id = 2
 ·rw [if_pos t2] at hp; exact now _ _ fun k => by rw [if_neg t1, if_pos t2]; exact hp
 rw [if_neg t2] at hp
 by_cases t3 : tyP id = 3
 ·rw [if_pos t3] at hp; exact now _ _ fun k => by rw [if_neg t1, if_neg t2, if_pos t3]; exact hp
 rw [if_neg t3] at hp
 by_cases t4 : tyP id = 4
 ·rw [if_pos t4] at hp
  refine now _ _ fun k => ?_
  rw [if_neg t1, if_neg t2, if_neg t3, if_pos t4, ← hp]
  by_cases h : n < 268435456
  ·rw [if_pos h, if_pos (by omega)]
  ·rw [if_neg h, if_neg (by omega)]
 rw [if_neg t4] at hp
 by_cases t5 : tyP id = 5
 ·rw [if_pos t5] at hp
  refine Ev.congr (f := fun k => if n = 0 then ((pouchref02_Right.f k a).bind fun t103 => if t103 = true then some (b.toList == ([] : List UInt8)) else some false) else some false) (fun k => by rw [if_neg t1, if_neg t2, if_neg t3, if_neg t4, if_pos t5]) ?_
  by_cases h : n = 0
  ·rw [decide_eq_true h, if_pos rfl] at hp
   refine Ev.congr (fun k => if_pos h) (Ev.bind (right_ref a) (now _ _ fun k => ?_))
   rw [empty_toList]; exact hp
  ·rw [decide_eq_false h] at hp
   exact now _ _ fun k => by rw [if_neg h]; exact hp
 rw [if_neg t5] at hp
 by_cases t6 : tyP id = 6
 ·rw [if_pos t6] at hp
  refine now _ _ fun k => ?_
  rw [if_neg t1, if_neg t2, if_neg t3, if_neg t4, if_neg t5, if_pos t6, ← hp, empty_toList]
  by_cases h : n = 0
  ·rw [decide_eq_true h, if_pos h, if_pos rfl]
  ·rw [decide_eq_false h, if_neg h]; rfl
 rw [if_neg t6] at hp
 by_cases t7 : tyP id = 7
 ·rw [if_pos t7] at hp
  refine Ev.congr (f := fun k => if n = 0 then ((pouchref02_Right.f k a).bind fun t104 => if t104 = true then ((pouchref02_Right.f k b).bind fun t105 => some t105) else some false) else some false) (fun k => by rw [if_neg t1, if_neg t2, if_neg t3, if_neg t4, if_neg t5, if_neg t6, if_pos t7]) ?_
  by_cases h : n = 0
  ·rw [decide_eq_true h, if_pos rfl] at hp
   refine Ev.congr (fun k => if_pos h) (Ev.bind (right_ref a) ?_)
   by_cases hr : rightB (dl a) = true
   ·rw [if_pos hr] at hp
    refine Ev.congr (fun k => if_pos hr) (Ev.bind (f := fun _ t105 => some t105) (right_ref b) (now _ _ fun _ => hp))
   ·rw [if_neg hr] at hp
    exact now _ _ fun k => by rw [if_neg hr]; exact hp
  ·rw [decide_eq_false h] at hp
   exact now _ _ fun k => by rw [if_neg h]; exact hp
 rw [if_neg t7] at hp
 exact now _ _ fun k => by rw [if_neg t1, if_neg t2, if_neg t3, if_neg t4, if_neg t5, if_neg t6, if_neg t7]; exact hp
theorem ref_right (id n : Int) (h0 : 0 ≤ id) (h1 : id < 256) (a b : ByteArray) : Ev (fun k => pouchref05_Right.f k id n a b) (rightP id n (dl a) (dl b)) := by
 by_cases h : a.toList = ([] : List UInt8)
 ·refine Ev.congr (fun k => by unfold pouchref05_Right.f; rw [if_pos h]) (right_ref_j0 id n h0 h1 a b _ ?_)
  rw [empty_toList, (nil_toList a).1 h]; rfl
 ·refine Ev.congr (fun k => by unfold pouchref05_Right.f; rw [if_neg h]) (right_ref_j0 id n h0 h1 a b _ ?_)
  have : (dl a).isEmpty = false := by
   rw [Bool.eq_false_iff]; exact fun e => h ((nil_toList a).2 e)
  rw [this]; rfl
end Go.Proofs.YtkmkgpigmldhnaaDoor.Pr
namespace Go.Proofs.YtkmkgpigmldhnaaDoor.P
open Go.RowKit Go.Proofs.YtkmkgpigmldhnaaDoorW.PrintWords Go.Proofs.YtkmkgpigmldhnaaDoorW.PrintLast Go.Proofs.YtkmkgpigmldhnaaDoorW.PrintMore
attribute [local go_sem] max2_int min2_int max_two min_two max_three min_three max_four min_four
def pouchref01_Reader_Num.l0 : Nat → ByteArray → Int → Int → ByteArray → Int → Int → Option (Int × ByteArray × Int × Int)
  | 0, _, _, _, _, _, _ => none
  | k + 1, x5, x7, x8, x1000, x1001, x1002 => if x8 < (x5.size : Int) then (if 0 ≤ x8 then (pouchref01_Reader_Num.l0 k x5 (IntKind.u64.wrap ((IntKind.u64.wrap (256 * x7)) + (IntKind.u64.wrap (bt x5 x8)))) (wrap64 (x8 + 1)) x1000 x1001 x1002) else (none)) else (some (x7, x1000, x1001, x1002))
def pouchref01_Reader_Num.f (k : Nat) (s0_0 : ByteArray) (s0_1 : Int) (s0_2 : Int) (a1 : Int) : Option (Int × ByteArray × Int × Int) := (pouchref01_Reader_take.f s0_0 s0_1 s0_2 a1).bind fun bt101 => (if bt101.2.1 = true then (pouchref01_Reader_Num.l0 k bt101.1 0 0 bt101.2.2.1 bt101.2.2.2.1 bt101.2.2.2.2) else (some (0, bt101.2.2.1, bt101.2.2.2.1, bt101.2.2.2.2)))
theorem z76m0 {p : Prop} (h : p := by
 repeat' first
 | (with_reducible exact ih0 _ _ _ _ _ _)
 | (with_reducible exact LeO.refl _)
 | (with_reducible exact LeO.none _)
 | (with_reducible refine LeO.ite ?_ ?_)
 | (with_reducible refine LeO.bind ?_ (fun _ => ?_))
 | exact ih0 _ _ _ _ _ _
 | exact LeO.none _
 | refine LeO.ite ?_ ?_
 | refine LeO.bind ?_ (fun _ => ?_)) : p := h
theorem pouchref01_Reader_Num.mono_l : ∀ k, (∀ y0 y1 y2 y3 y4 y5, LeO (pouchref01_Reader_Num.l0 k y0 y1 y2 y3 y4 y5) (pouchref01_Reader_Num.l0 (k + 1) y0 y1 y2 y3 y4 y5))
  | 0 => fun _ _ _ _ _ _ r h => by simp [pouchref01_Reader_Num.l0] at h
  | k + 1 => by
    have ih0 := pouchref01_Reader_Num.mono_l k
    · intro y0 y1 y2 y3 y4 y5
      unfold pouchref01_Reader_Num.l0
      exact z76m0
theorem pouchref01_Reader_Num.mono : ∀ a0 a1 a2 a3 k, LeO (pouchref01_Reader_Num.f k a0 a1 a2 a3) (pouchref01_Reader_Num.f (k + 1) a0 a1 a2 a3) := by
  intro a0 a1 a2 a3 k
  have ih0 := pouchref01_Reader_Num.mono_l k
  unfold pouchref01_Reader_Num.f
  exact z76m0
theorem z76z0 {p : Prop} (h : p := by repeat (first | (with_reducible first | exact HI0.out | apply IsS45.alloc | apply IsS45.drewN | apply IsS45.drew | apply IsS45.set_0 | apply IsS45.set_1 | apply IsS45.set_2) | exact HI0.out)) : p := h
theorem z76z1 {p : Prop} (h : p := by repeat (first | (with_reducible first | exact HB.out | apply below_alloc | apply pw_below_drewN | apply below_drew1 | refine below_set ?_ (IsS45.ge HI0.out)) | exact HB.out)) : p := h
theorem pouchref01_Reader_Num.calls (k : Nat) (g : Nat) (s0_0 : ByteArray) (s0_1 : Int) (s0_2 : Int) (a1 : Int) (r1 : Int) (r2 : ByteArray) (r3 : Int) (r4 : Int) (w0 w : World) (hI : IsS45 w0 w g s0_0 s0_1 s0_2) (hB : Below w0.heap.size w0 w) (h : pouchref01_Reader_Num.f k s0_0 s0_1 s0_2 a1 = some (r1, r2, r3, r4)) :
  Calls Tryd.prog 76 #[.pointer (some ⟨g, 0, none⟩), .int .i64 a1] w fun e w' => e = .returned (.int .u64 r1) ∧ IsS45 w0 w' g r2 r3 r4 ∧ Below w0.heap.size w0 w' ∧ KeepBut w w' g none := by
 have HI0 := Aside0.mk hI
 have HK := Aside0.mk (KeepBut.refl w g none)
 have HL := Aside0.mk hB.size
 clear hI
 have HW0 := Aside0.mk hB.size
 have HB := Aside0.mk hB
 clear hB
 have H : ((pouchref01_Reader_take.f s0_0 s0_1 s0_2 a1).bind fun bt101 => (if bt101.2.1 = true then (pouchref01_Reader_Num.l0 k bt101.1 0 0 bt101.2.2.1 bt101.2.2.2.1 bt101.2.2.2.2) else (some (0, bt101.2.2.1, bt101.2.2.2.1, bt101.2.2.2.2)))) = some (r1, r2, r3, r4) := h
 clear h
 replace H := Option.bind_eq_some_iff.mp H
 obtain ⟨⟨t101, t102, t103, t104, t105⟩, A30, H⟩ := H
 replace H : (if t102 = true then (pouchref01_Reader_Num.l0 k t101 0 0 t103 t104 t105) else (some (0, t103, t104, t105))) = some (r1, r2, r3, r4) := H
 have A3 := Aside0.mk A30
 clear A30
 by_cases c4 : t102 = true
 rotate_left
 ·replace c4 := Bool.eq_false_iff.mpr c4
  subst c4
  replace H : (some (0, t103, t104, t105)) = some (r1, r2, r3, r4) := by rw [if_neg (show ¬ (false = true) by decide)] at H; exact H
  simp only [Option.some.injEq, Prod.mk.injEq] at H
  obtain ⟨rfl, rfl, rfl, rfl⟩ := H
  go_enter Tryd.func76, Tryd.ntmps76
  go_wp2_with (first | ((with_reducible refine gate_callee (f := 74) rfl ?_); refine goesL_ (some 12) rfl rfl Tryd.func74 (by kernel_rfl) rfl #[.pointer (some ⟨g, 0, none⟩), .int .i64 a1] rfl y2_ ?_; (with_reducible refine (pouchref01_Reader_take.calls g s0_0 s0_1 s0_2 a1 t101 false t103 t104 t105 w0 _ ?side1 ?side2 A3.out).mono ?_); (case side1 => exact z76z0); (case side2 => exact z76z1); rintro e w9 ⟨rfl, hi, hb, hk⟩; refine ⟨_, rfl, ?_⟩; have n0_ := Aside0.mk (KeepBut.trans y6_ hk (.inl rfl)); have n1_ := Aside0.mk (hb); have n2_ := Aside0.mk (hi); replace HK := n0_; replace HB := n1_; replace HI0 := n2_; clear n0_ n1_ n2_; clear hb hk hi))
  go_ret
  exact ⟨y4_, z76z0, z76z1, y6_⟩
 subst c4
 have H1 : (pouchref01_Reader_Num.l0 k t101 0 0 t103 t104 t105) = some (r1, r2, r3, r4) := by rw [if_pos rfl] at H; exact H
 clear H
 have H := H1
 clear H1
 have H' := Aside0.mk H
 clear H
 go_enter Tryd.func76, Tryd.ntmps76
 go_wp2_with (first | ((with_reducible refine gate_callee (f := 74) rfl ?_); refine goesL_ (some 12) rfl rfl Tryd.func74 (by kernel_rfl) rfl #[.pointer (some ⟨g, 0, none⟩), .int .i64 a1] rfl y2_ ?_; (with_reducible refine (pouchref01_Reader_take.calls g s0_0 s0_1 s0_2 a1 t101 true t103 t104 t105 w0 _ ?side1 ?side2 A3.out).mono ?_); (case side1 => exact z76z0); (case side2 => exact z76z1); rintro e w5 ⟨rfl, hi, hb, hk⟩; refine ⟨_, rfl, ?_⟩; have n0_ := Aside0.mk (KeepBut.trans y6_ hk (.inl rfl)); have n1_ := Aside0.mk (hb); have n2_ := Aside0.mk (hi); replace HK := n0_; replace HB := n1_; replace HI0 := n2_; clear n0_ n1_ n2_; clear hb hk hi))
 go_loopg [7, 8] k (fun kq v7 v8 w' => ∃ (x7_1 : Int) (x8_1 : Int), v7 = .int .u64 x7_1 ∧ v8 = .int .i64 x8_1 ∧ Aside0 (pouchref01_Reader_Num.l0 kq t101 x7_1 x8_1 t103 t104 t105 = some (r1, r2, r3, r4)) ∧ Aside0 (kq ≤ k) ∧ Aside0 (IsS45 w0 w' g t103 t104 t105) ∧ Aside0 (KeepBut w w' g none) ∧ Aside0 (Below w0.heap.size w0 w'))
 case atStart => exact ⟨(0), (0), y7_, y7_, H', ⟨Nat.le_refl _⟩, ⟨z76z0⟩, ⟨y6_⟩, ⟨z76z1⟩⟩
 case round =>
  clear H'
  try clear p2
  try clear c4
  obtain ⟨x7_1, x8_1, rfl, rfl, HA, HK1, HI0, HK, HB⟩ := hrel
  cases gk with
  | zero => exact absurd HA.out (by simp [pouchref01_Reader_Num.l0])
  | succ k1 =>
   have H := HA.out
   clear HA
   simp only [pouchref01_Reader_Num.l0] at H
   by_cases c6 : x8_1 < (t101.size : Int)
   ·rw [if_pos c6] at H
    have c6b0 := decide_eq_true c6
    clear c6
    by_cases c7 : 0 ≤ x8_1
    ·rw [if_pos c7] at H
     have c7b0 := decide_eq_true c7
     clear c7
     have H' := Aside0.mk H
     clear H
     have p8 : 0 ≤ (x8_1 : Int) := of_decide_eq_true y5_
     have q8 : x8_1 < (t101.size : Int) := of_decide_eq_true y5_
     have hx8 := bt_at t101 x8_1
     replace p8 := eq_true p8
     replace q8 := eq_true q8
     go_wp2
     go_roundg k1
     case measure => have := HK1.out; omega
     case rel => exact ⟨(IntKind.u64.wrap ((IntKind.u64.wrap (256 * x7_1)) + (IntKind.u64.wrap (bt t101 x8_1)))), (wrap64 (x8_1 + 1)), y7_, y7_, H', ⟨y25_⟩, ⟨z76z0⟩, ⟨y6_⟩, ⟨z76z1⟩⟩
    ·rw [if_neg c7] at H
     exact absurd H (by simp)
   ·rw [if_neg c6] at H
    have c6b0 := decide_eq_false c6
    clear c6
    simp only [Option.some.injEq, Prod.mk.injEq] at H
    obtain ⟨rfl, rfl, rfl, rfl⟩ := H
    go_wp2
    go_ret
    exact ⟨y4_, z76z0, z76z1, y6_⟩
def pouchref01_Reader_Bin.f (k : Nat) (s0_0 : ByteArray) (s0_1 : Int) (s0_2 : Int) : Option (ByteArray × ByteArray × Int × Int) := (pouchref01_Reader_Num.f k s0_0 s0_1 s0_2 2).bind fun bt101 => ((pouchref01_Reader_take.f bt101.2.1 bt101.2.2.1 bt101.2.2.2 (wrap64 (bt101.1))).bind fun bt105 => (some (bt105.1, bt105.2.2.1, bt105.2.2.2.1, bt105.2.2.2.2)))
theorem pouchref01_Reader_Bin.mono : ∀ a0 a1 a2 k, LeO (pouchref01_Reader_Bin.f k a0 a1 a2) (pouchref01_Reader_Bin.f (k + 1) a0 a1 a2) := by
  intro a0 a1 a2 k
  unfold pouchref01_Reader_Bin.f
  repeat' first
      | (with_reducible exact pouchref01_Reader_Num.mono _ _ _ _ _)
      | (with_reducible exact LeO.refl _)
      | (with_reducible exact LeO.none _)
      | (with_reducible refine LeO.ite ?_ ?_)
      | (with_reducible refine LeO.bind ?_ (fun _ => ?_))
      | exact pouchref01_Reader_Num.mono _ _ _ _ _
      | exact LeO.none _
      | refine LeO.ite ?_ ?_
      | refine LeO.bind ?_ (fun _ => ?_)
theorem z77z0 {p : Prop} (h : p := by repeat (first | (with_reducible first | exact HI0.out | apply IsS45.alloc | apply IsS45.drewN | apply IsS45.drew | apply IsS45.set_0 | apply IsS45.set_1 | apply IsS45.set_2) | exact HI0.out)) : p := h
theorem z77z1 {p : Prop} (h : p := by repeat (first | (with_reducible first | exact HB.out | apply below_alloc | apply pw_below_drewN | apply below_drew1 | refine below_set ?_ (IsS45.ge HI0.out)) | exact HB.out)) : p := h
theorem pouchref01_Reader_Bin.calls (k : Nat) (g : Nat) (s0_0 : ByteArray) (s0_1 : Int) (s0_2 : Int) (r1 : ByteArray) (r2 : ByteArray) (r3 : Int) (r4 : Int) (w0 w : World) (hI : IsS45 w0 w g s0_0 s0_1 s0_2) (hB : Below w0.heap.size w0 w) (h : pouchref01_Reader_Bin.f k s0_0 s0_1 s0_2 = some (r1, r2, r3, r4)) :
  Calls Tryd.prog 77 #[.pointer (some ⟨g, 0, none⟩)] w fun e w' => e = .returned (.string r1) ∧ IsS45 w0 w' g r2 r3 r4 ∧ Below w0.heap.size w0 w' ∧ KeepBut w w' g none := by
 have HI0 := Aside0.mk hI
 have HK := Aside0.mk (KeepBut.refl w g none)
 have HL := Aside0.mk hB.size
 clear hI
 have HW0 := Aside0.mk hB.size
 have HB := Aside0.mk hB
 clear hB
 have H : ((pouchref01_Reader_Num.f k s0_0 s0_1 s0_2 2).bind fun bt101 => ((pouchref01_Reader_take.f bt101.2.1 bt101.2.2.1 bt101.2.2.2 (wrap64 (bt101.1))).bind fun bt105 => (some (bt105.1, bt105.2.2.1, bt105.2.2.2.1, bt105.2.2.2.2)))) = some (r1, r2, r3, r4) := h
 clear h
 replace H := Option.bind_eq_some_iff.mp H
 obtain ⟨⟨t101, t102, t103, t104⟩, A20, H⟩ := H
 try dsimp -simprocs only at H
 have A2 := Aside0.mk A20
 clear A20
 replace H := Option.bind_eq_some_iff.mp H
 obtain ⟨⟨t105, t106, t107, t108, t109⟩, A30, H⟩ := H
 replace H : (some (t105, t107, t108, t109)) = some (r1, r2, r3, r4) := H
 have A3 := Aside0.mk A30
 clear A30
 simp only [Option.some.injEq, Prod.mk.injEq] at H
 obtain ⟨rfl, rfl, rfl, rfl⟩ := H
 go_enter Tryd.func77, Tryd.ntmps77
 go_wp2_with (first | ((with_reducible refine gate_callee (f := 76) rfl ?_); refine goesL_ (some 7) rfl rfl Tryd.func76 (by kernel_rfl) rfl #[.pointer (some ⟨g, 0, none⟩), .int .i64 2] rfl y2_ ?_; (with_reducible refine (pouchref01_Reader_Num.calls k g s0_0 s0_1 s0_2 2 t101 t102 t103 t104 w0 _ ?side1 ?side2 A2.out).mono ?_); (case side1 => exact z77z0); (case side2 => exact z77z1); rintro e w4 ⟨rfl, hi, hb, hk⟩; refine ⟨_, rfl, ?_⟩; have n0_ := Aside0.mk (KeepBut.trans y6_ hk (.inl rfl)); have n1_ := Aside0.mk (hb); have n2_ := Aside0.mk (hi); replace HK := n0_; replace HB := n1_; replace HI0 := n2_; clear n0_ n1_ n2_; clear hb hk hi) | ((with_reducible refine gate_callee (f := 74) rfl ?_); refine goesL_ (some 12) rfl rfl Tryd.func74 (by kernel_rfl) rfl #[.pointer (some ⟨g, 0, none⟩), .int .i64 (wrap64 (t101))] rfl y2_ ?_; (with_reducible refine (pouchref01_Reader_take.calls g t102 t103 t104 (wrap64 (t101)) t105 t106 t107 t108 t109 w0 _ ?side1 ?side2 A3.out).mono ?_); (case side1 => exact z77z0); (case side2 => exact z77z1); rintro e w5 ⟨rfl, hi, hb, hk⟩; refine ⟨_, rfl, ?_⟩; have n0_ := Aside0.mk (KeepBut.trans y6_ hk (.inl rfl)); have n1_ := Aside0.mk (hb); have n2_ := Aside0.mk (hi); replace HK := n0_; replace HB := n1_; replace HI0 := n2_; clear n0_ n1_ n2_; clear hb hk hi))
 go_ret
 exact ⟨y4_, z77z0, z77z1, y6_⟩
mutual
def pouchref01_Reader_Var.l0 : Nat → Int → Int → Int → ByteArray → Int → Int → Option (Int × ByteArray × Int × Int)
  | 0, _, _, _, _, _, _ => none
  | k + 1, x3, x4, x5, x1000, x1001, x1002 => if x5 < 4 then (if (wrap64 (x1001 + x5)) ≥ (x1000.size : Int) then (some (0, x1000, x1001, 2)) else (if 0 ≤ (wrap64 (x1001 + x5)) then (if (wrap64 (x1001 + x5)) < (x1000.size : Int) then (if ((bt x1000 (wrap64 (x1001 + x5))) % 4294967296) ≥ 128 then (if x5 = 3 then (pouchref01_Reader_Var.j1 k ((x3 + (((((bt x1000 (wrap64 (x1001 + x5))) % 4294967296) % 128) * x4) % 4294967296)) % 4294967296) ((x4 * 128) % 4294967296) x5 ((bt x1000 (wrap64 (x1001 + x5))) % 4294967296) true x1000 x1001 x1002) else (if ((bt x1000 (wrap64 (x1001 + x5))) % 4294967296) = 0 then (pouchref01_Reader_Var.j1 k ((x3 + (((((bt x1000 (wrap64 (x1001 + x5))) % 4294967296) % 128) * x4) % 4294967296)) % 4294967296) ((x4 * 128) % 4294967296) x5 ((bt x1000 (wrap64 (x1001 + x5))) % 4294967296) (decide (x5 > 0)) x1000 x1001 x1002) else (pouchref01_Reader_Var.j1 k ((x3 + (((((bt x1000 (wrap64 (x1001 + x5))) % 4294967296) % 128) * x4) % 4294967296)) % 4294967296) ((x4 * 128) % 4294967296) x5 ((bt x1000 (wrap64 (x1001 + x5))) % 4294967296) false x1000 x1001 x1002))) else (if ((bt x1000 (wrap64 (x1001 + x5))) % 4294967296) = 0 then (pouchref01_Reader_Var.j1 k ((x3 + (((((bt x1000 (wrap64 (x1001 + x5))) % 4294967296) % 128) * x4) % 4294967296)) % 4294967296) ((x4 * 128) % 4294967296) x5 ((bt x1000 (wrap64 (x1001 + x5))) % 4294967296) (decide (x5 > 0)) x1000 x1001 x1002) else (pouchref01_Reader_Var.j1 k ((x3 + (((((bt x1000 (wrap64 (x1001 + x5))) % 4294967296) % 128) * x4) % 4294967296)) % 4294967296) ((x4 * 128) % 4294967296) x5 ((bt x1000 (wrap64 (x1001 + x5))) % 4294967296) false x1000 x1001 x1002))) else (none)) else (none))) else (some (0, x1000, x1001, x1002))
def pouchref01_Reader_Var.j1 : Nat → Int → Int → Int → Int → Bool → ByteArray → Int → Int → Option (Int × ByteArray × Int × Int)
  | 0, _, _, _, _, _, _, _, _ => none
  | k + 1, x3, x4, x5, x6, x64, x1000, x1001, x1002 => if x64 = true then (some (0, x1000, x1001, 3)) else (if x6 < 128 then (some (x3, x1000, wrap64 ((wrap64 (x1001 + x5)) + 1), x1002)) else (pouchref01_Reader_Var.l0 k x3 x4 (wrap64 (x5 + 1)) x1000 x1001 x1002))
end
def pouchref01_Reader_Var.f (k : Nat) (s0_0 : ByteArray) (s0_1 : Int) (s0_2 : Int) : Option (Int × ByteArray × Int × Int) := if s0_2 = 0 then (pouchref01_Reader_Var.l0 k 0 1 0 s0_0 s0_1 s0_2) else (some (0, s0_0, s0_1, s0_2))
theorem z46m0 {p : Prop} (h : p := by
 repeat' first
 | (with_reducible exact ih0 _ _ _ _ _ _)
 | (with_reducible exact ih1 _ _ _ _ _ _ _ _)
 | (with_reducible exact LeO.refl _)
 | (with_reducible exact LeO.none _)
 | (with_reducible refine LeO.ite ?_ ?_)
 | (with_reducible refine LeO.bind ?_ (fun _ => ?_))
 | exact ih0 _ _ _ _ _ _
 | exact ih1 _ _ _ _ _ _ _ _
 | exact LeO.none _
 | refine LeO.ite ?_ ?_
 | refine LeO.bind ?_ (fun _ => ?_)) : p := h
theorem pouchref01_Reader_Var.mono_l : ∀ k, (∀ y0 y1 y2 y3 y4 y5, LeO (pouchref01_Reader_Var.l0 k y0 y1 y2 y3 y4 y5) (pouchref01_Reader_Var.l0 (k + 1) y0 y1 y2 y3 y4 y5)) ∧ (∀ y0 y1 y2 y3 y4 y5 y6 y7, LeO (pouchref01_Reader_Var.j1 k y0 y1 y2 y3 y4 y5 y6 y7) (pouchref01_Reader_Var.j1 (k + 1) y0 y1 y2 y3 y4 y5 y6 y7))
  | 0 => ⟨fun _ _ _ _ _ _ r h => by simp [pouchref01_Reader_Var.l0] at h, fun _ _ _ _ _ _ _ _ r h => by simp [pouchref01_Reader_Var.j1] at h⟩
  | k + 1 => by
    obtain ⟨ih0, ih1⟩ := pouchref01_Reader_Var.mono_l k
    refine ⟨?_, ?_⟩
    · intro y0 y1 y2 y3 y4 y5
      unfold pouchref01_Reader_Var.l0
      exact z46m0
    · intro y0 y1 y2 y3 y4 y5 y6 y7
      unfold pouchref01_Reader_Var.j1
      exact z46m0
theorem pouchref01_Reader_Var.mono : ∀ a0 a1 a2 k, LeO (pouchref01_Reader_Var.f k a0 a1 a2) (pouchref01_Reader_Var.f (k + 1) a0 a1 a2) := by
  intro a0 a1 a2 k
  obtain ⟨ih0, ih1⟩ := pouchref01_Reader_Var.mono_l k
  unfold pouchref01_Reader_Var.f
  exact z46m0
theorem z46z0 {p : Prop} (h : p := by repeat (first | (with_reducible first | exact HB.out | apply below_alloc | apply pw_below_drewN | apply below_drew1 | refine below_set ?_ (IsS45.ge HI0.out)) | exact HB.out)) : p := h
theorem z46z1 {p : Prop} (h : p := by repeat (first | (with_reducible first | exact HI0.out | apply IsS45.alloc | apply IsS45.drewN | apply IsS45.drew | apply IsS45.set_0 | apply IsS45.set_1 | apply IsS45.set_2) | exact HI0.out)) : p := h
theorem z46z2 {p : Prop} (h : p := by (try simp only [hji7]); repeat (first | (with_reducible first | exact HI0.out | apply IsS45.alloc | apply IsS45.drewN | apply IsS45.drew | apply IsS45.set_0 | apply IsS45.set_1 | apply IsS45.set_2) | exact HI0.out)) : p := h
theorem z46z3 {p : Prop} (h : p := by first | rfl | (simp [errW_none, errW_some] <;> rfl) | (simp only [← hji7]; first | rfl | (simp [errW_none, errW_some] <;> rfl)) | (simp [*, errW_none, errW_some] <;> rfl)) : p := h
theorem pouchref01_Reader_Var.calls (k : Nat) (g : Nat) (s0_0 : ByteArray) (s0_1 : Int) (s0_2 : Int) (r1 : Int) (r2 : ByteArray) (r3 : Int) (r4 : Int) (w0 w : World) (hI : IsS45 w0 w g s0_0 s0_1 s0_2) (hB : Below w0.heap.size w0 w) (h : pouchref01_Reader_Var.f k s0_0 s0_1 s0_2 = some (r1, r2, r3, r4)) :
  Calls Tryd.prog 46 #[.pointer (some ⟨g, 0, none⟩)] w fun e w' => e = .returned (.int .u32 r1) ∧ IsS45 w0 w' g r2 r3 r4 ∧ Below w0.heap.size w0 w' ∧ KeepBut w w' g none := by
 have HI0 := Aside0.mk hI
 have HK := Aside0.mk (KeepBut.refl w g none)
 have HL := Aside0.mk hB.size
 clear hI
 have HW0 := Aside0.mk hB.size
 have HB := Aside0.mk hB
 clear hB
 have H : (if s0_2 = 0 then (pouchref01_Reader_Var.l0 k 0 1 0 s0_0 s0_1 s0_2) else (some (0, s0_0, s0_1, s0_2))) = some (r1, r2, r3, r4) := h
 clear h
 by_cases c2 : s0_2 = 0
 rotate_left
 ·rw [if_neg c2] at H
  obtain ⟨c2b0, c2b1⟩ := eqf_ c2
  simp only [Option.some.injEq, Prod.mk.injEq] at H
  obtain ⟨rfl, rfl, rfl, rfl⟩ := H
  obtain ⟨HGz21, hgz21⟩ := HI0.out
  have hcz21_0 := cellS45_0 HGz21
  have hcz21_1 := cellS45_1 HGz21
  have hcz21_2 := cellS45_2 HGz21
  have hfz21_0 := blk_frozen HGz21 0
  have hfz21_1 := blk_frozen HGz21 1
  have hfz21_2 := blk_frozen HGz21 2
  clear HGz21 hgz21
  go_enter Tryd.func46, Tryd.ntmps46
  go_wp2
  repeat (go_quiet (fail); try go_wp2)
  go_ret
  exact ⟨y4_, z46z2, z46z0, y6_⟩
 rw [if_pos c2] at H
 obtain ⟨c2b0, c2b1⟩ := eqt_ c2
 clear c2
 have H' := Aside0.mk H
 clear H
 obtain ⟨HGz3, hgz3⟩ := HI0.out
 have hcz3_0 := cellS45_0 HGz3
 have hcz3_1 := cellS45_1 HGz3
 have hcz3_2 := cellS45_2 HGz3
 have hfz3_0 := blk_frozen HGz3 0
 have hfz3_1 := blk_frozen HGz3 1
 have hfz3_2 := blk_frozen HGz3 2
 clear HGz3 hgz3
 go_enter Tryd.func46, Tryd.ntmps46
 go_wp2
 repeat (go_quiet (fail); try go_wp2)
 go_loopg [3, 4, 5] k (fun kq v3 v4 v5 w' => ∃ (x3_1 : Int) (x4_1 : Int) (x5_1 : Int) (x1001_1 : Int) (x1002_1 : Int), v3 = .int .u32 x3_1 ∧ v4 = .int .u32 x4_1 ∧ v5 = .int .i64 x5_1 ∧ Aside0 (pouchref01_Reader_Var.l0 kq x3_1 x4_1 x5_1 s0_0 x1001_1 x1002_1 = some (r1, r2, r3, r4)) ∧ Aside0 (kq ≤ k) ∧ Aside0 (IsS45 w0 w' g s0_0 x1001_1 x1002_1) ∧ Aside0 (KeepBut w w' g none) ∧ Aside0 (Below w0.heap.size w0 w'))
 case atStart => exact ⟨(0), (1), (0), (s0_1), (s0_2), y7_, y7_, y7_, H', ⟨Nat.le_refl _⟩, ⟨z46z1⟩, ⟨y6_⟩, ⟨z46z0⟩⟩
 case round =>
  clear H'
  try clear c2
  try clear c2b0
  try clear c2b1
  try clear p2
  try clear hcz3_0
  try clear hcz3_1
  try clear hcz3_2
  try clear hfz3_0
  try clear hfz3_1
  try clear hfz3_2
  obtain ⟨x3_1, x4_1, x5_1, x1001_1, x1002_1, rfl, rfl, rfl, HA, HK1, HI0, HK, HB⟩ := hrel
  cases gk with
  | zero => exact absurd HA.out (by simp [pouchref01_Reader_Var.l0])
  | succ k1 =>
   have H := HA.out
   clear HA
   simp only [pouchref01_Reader_Var.l0] at H
   by_cases c4 : x5_1 < 4
   ·rw [if_pos c4] at H
    have c4b0 := decide_eq_true c4
    clear c4
    by_cases c5 : (wrap64 (x1001_1 + x5_1)) ≥ (s0_0.size : Int)
    ·rw [if_pos c5] at H
     have c5b0 := decide_eq_true c5
     clear c5
     simp only [Option.some.injEq, Prod.mk.injEq] at H
     obtain ⟨rfl, rfl, rfl, rfl⟩ := H
     obtain ⟨HGz6, hgz6⟩ := HI0.out
     have hcz6_0 := cellS45_0 HGz6
     have hcz6_1 := cellS45_1 HGz6
     have hcz6_2 := cellS45_2 HGz6
     have hfz6_0 := blk_frozen HGz6 0
     have hfz6_1 := blk_frozen HGz6 1
     have hfz6_2 := blk_frozen HGz6 2
     clear HGz6 hgz6
     go_wp2
     repeat (go_quiet (fail); try go_wp2)
     go_ret
     exact ⟨y4_, z46z2, z46z0, y6_⟩
    ·rw [if_neg c5] at H
     have c5b0 := decide_eq_false c5
     clear c5
     obtain ⟨ji7, hji7⟩ : ∃ j_ : Int, (wrap64 (x1001_1 + x5_1)) = j_ := ⟨_, rfl⟩
     replace H : (if 0 ≤ (ji7) then (if (ji7) < (s0_0.size : Int) then (if ((bt s0_0 (ji7)) % 4294967296) ≥ 128 then (if x5_1 = 3 then (pouchref01_Reader_Var.j1 k1 ((x3_1 + (((((bt s0_0 (ji7)) % 4294967296) % 128) * x4_1) % 4294967296)) % 4294967296) ((x4_1 * 128) % 4294967296) x5_1 ((bt s0_0 (ji7)) % 4294967296) true s0_0 x1001_1 x1002_1) else (if ((bt s0_0 (ji7)) % 4294967296) = 0 then (pouchref01_Reader_Var.j1 k1 ((x3_1 + (((((bt s0_0 (ji7)) % 4294967296) % 128) * x4_1) % 4294967296)) % 4294967296) ((x4_1 * 128) % 4294967296) x5_1 ((bt s0_0 (ji7)) % 4294967296) (decide (x5_1 > 0)) s0_0 x1001_1 x1002_1) else (pouchref01_Reader_Var.j1 k1 ((x3_1 + (((((bt s0_0 (ji7)) % 4294967296) % 128) * x4_1) % 4294967296)) % 4294967296) ((x4_1 * 128) % 4294967296) x5_1 ((bt s0_0 (ji7)) % 4294967296) false s0_0 x1001_1 x1002_1))) else (if ((bt s0_0 (ji7)) % 4294967296) = 0 then (pouchref01_Reader_Var.j1 k1 ((x3_1 + (((((bt s0_0 (ji7)) % 4294967296) % 128) * x4_1) % 4294967296)) % 4294967296) ((x4_1 * 128) % 4294967296) x5_1 ((bt s0_0 (ji7)) % 4294967296) (decide (x5_1 > 0)) s0_0 x1001_1 x1002_1) else (pouchref01_Reader_Var.j1 k1 ((x3_1 + (((((bt s0_0 (ji7)) % 4294967296) % 128) * x4_1) % 4294967296)) % 4294967296) ((x4_1 * 128) % 4294967296) x5_1 ((bt s0_0 (ji7)) % 4294967296) false s0_0 x1001_1 x1002_1))) else (none)) else (none)) = some (r1, r2, r3, r4) := by first | (rw [hji7] at H; exact H) | (simp only [hji7] at H ⊢; exact H)
     (try rw [hji7] at c5b0)
     have hji7w : (IntKind.i64.wrap (x1001_1 + x5_1)) = ji7 := (i64_w _).trans hji7
     by_cases c8 : 0 ≤ (ji7)
     ·rw [if_pos c8] at H
      have c8b0 := decide_eq_true c8
      clear c8
      by_cases c9 : (ji7) < (s0_0.size : Int)
      ·rw [if_pos c9] at H
       have c9b0 := decide_eq_true c9
       clear c9
       have HC11 := Aside0.mk H
       clear H
       obtain ⟨HGz12, hgz12⟩ := HI0.out
       have hcz12_0 := cellS45_0 HGz12
       have hcz12_1 := cellS45_1 HGz12
       have hcz12_2 := cellS45_2 HGz12
       have hfz12_0 := blk_frozen HGz12 0
       have hfz12_1 := blk_frozen HGz12 1
       have hfz12_2 := blk_frozen HGz12 2
       clear HGz12 hgz12
       have p10 : 0 ≤ ((ji7) : Int) := of_decide_eq_true y5_
       have q10 : (ji7) < (s0_0.size : Int) := of_decide_eq_true y5_
       have hx10 := bt_at s0_0 (ji7)
       replace p10 := eq_true p10
       replace q10 := eq_true q10
       go_upto_region 13 with (fail)
       repeat (go_quiet (fail); go_upto_region 13 with (fail))
       go_cut [64] (fun v64 wc => ∃ (kq : Nat) (x64_10 : Bool), v64 = .bool x64_10 ∧ Aside0 (pouchref01_Reader_Var.j1 kq ((x3_1 + (((((bt s0_0 (ji7)) % 4294967296) % 128) * x4_1) % 4294967296)) % 4294967296) ((x4_1 * 128) % 4294967296) x5_1 ((bt s0_0 (ji7)) % 4294967296) x64_10 s0_0 x1001_1 x1002_1 = some (r1, r2, r3, r4)) ∧ Aside0 (kq ≤ k1) ∧ Aside0 (IsS45 w0 wc g s0_0 x1001_1 x1002_1) ∧ Aside0 (KeepBut w wc g none) ∧ Aside0 (Below w0.heap.size w0 wc))
       case first =>
        have H := HC11.out
        clear HC11
        by_cases c13 : ((bt s0_0 (ji7)) % 4294967296) ≥ 128
        ·rw [if_pos c13] at H
         have c13b0 := decide_eq_true c13
         clear c13
         (first | rw [c13b0] | (simp only [i64_w, i32_w]; rw [c13b0]) | skip)
         by_cases c14 : x5_1 = 3
         ·rw [if_pos c14] at H
          obtain ⟨c14b0, c14b1⟩ := eqt_ c14
          clear c14
          have H' := Aside0.mk H
          clear H
          go_wp2
          repeat (go_quiet (fail); try go_wp2)
          go_meet
          case rel => exact ⟨_, (true), y7_, H', ⟨y24_⟩, ⟨z46z1⟩, ⟨y6_⟩, ⟨z46z0⟩⟩
         ·rw [if_neg c14] at H
          obtain ⟨c14b0, c14b1⟩ := eqf_ c14
          by_cases c15 : ((bt s0_0 (ji7)) % 4294967296) = 0
          ·rw [if_pos c15] at H
           obtain ⟨c15b0, c15b1⟩ := eqt_ c15
           clear c15
           have H' := Aside0.mk H
           clear H
           go_wp2
           repeat (go_quiet (fail); try go_wp2)
           go_meet
           case rel => exact ⟨_, (decide (x5_1 > 0)), y7_, H', ⟨y24_⟩, ⟨z46z1⟩, ⟨y6_⟩, ⟨z46z0⟩⟩
          ·rw [if_neg c15] at H
           obtain ⟨c15b0, c15b1⟩ := eqf_ c15
           have H' := Aside0.mk H
           clear H
           go_wp2
           repeat (go_quiet (fail); try go_wp2)
           go_meet
           case rel => exact ⟨_, (false), y7_, H', ⟨y24_⟩, ⟨z46z1⟩, ⟨y6_⟩, ⟨z46z0⟩⟩
        ·rw [if_neg c13] at H
         have c13b0 := decide_eq_false c13
         clear c13
         (first | rw [c13b0] | (simp only [i64_w, i32_w]; rw [c13b0]) | skip)
         by_cases c16 : ((bt s0_0 (ji7)) % 4294967296) = 0
         ·rw [if_pos c16] at H
          obtain ⟨c16b0, c16b1⟩ := eqt_ c16
          clear c16
          have H' := Aside0.mk H
          clear H
          go_wp2
          repeat (go_quiet (fail); try go_wp2)
          go_meet
          case rel => exact ⟨_, (decide (x5_1 > 0)), y7_, H', ⟨y24_⟩, ⟨z46z1⟩, ⟨y6_⟩, ⟨z46z0⟩⟩
         ·rw [if_neg c16] at H
          obtain ⟨c16b0, c16b1⟩ := eqf_ c16
          have H' := Aside0.mk H
          clear H
          go_wp2
          repeat (go_quiet (fail); try go_wp2)
          go_meet
          case rel => exact ⟨_, (false), y7_, H', ⟨y24_⟩, ⟨z46z1⟩, ⟨y6_⟩, ⟨z46z0⟩⟩
       case rest =>
        clear HC11
        try clear c1
        try clear p1
        try clear q1
        try clear hx1
        try clear c2
        try clear c2b0
        try clear c2b1
        try clear p2
        try clear c4
        try clear c4b0
        try clear c5
        try clear c5b0
        try clear p6
        try clear c8
        try clear c8b0
        try clear c9
        try clear c9b0
        try clear p10
        try clear q10
        try clear hx10
        try clear c13
        try clear c13b0
        try clear c14
        try clear c14b0
        try clear c14b1
        try clear c15
        try clear c15b0
        try clear c15b1
        try clear c16
        try clear c16b0
        try clear c16b1
        try clear hcz12_0
        try clear hcz12_1
        try clear hcz12_2
        try clear hcz3_0
        try clear hcz3_1
        try clear hcz3_2
        try clear hcz6_0
        try clear hcz6_1
        try clear hcz6_2
        try clear hfz12_0
        try clear hfz12_1
        try clear hfz12_2
        try clear hfz3_0
        try clear hfz3_1
        try clear hfz3_2
        try clear hfz6_0
        try clear hfz6_1
        try clear hfz6_2
        try clear p10
        try clear p2
        try clear q10
        obtain ⟨kq, x64_10, rfl, HA, HJ10, HI0, HK, HB⟩ := hcut
        cases kq with
        | zero => exact absurd HA.out (by simp [pouchref01_Reader_Var.j1])
        | succ kj10 =>
         have H := HA.out
         clear HA
         simp only [pouchref01_Reader_Var.j1] at H
         by_cases c17 : x64_10 = true
         ·subst c17
          have H1 : (some (0, s0_0, x1001_1, 3)) = some (r1, r2, r3, r4) := by rw [if_pos rfl] at H; exact H
          clear H
          have H := H1
          clear H1
          simp only [Option.some.injEq, Prod.mk.injEq] at H
          obtain ⟨rfl, rfl, rfl, rfl⟩ := H
          obtain ⟨HGz18, hgz18⟩ := HI0.out
          have hcz18_0 := cellS45_0 HGz18
          have hcz18_1 := cellS45_1 HGz18
          have hcz18_2 := cellS45_2 HGz18
          have hfz18_0 := blk_frozen HGz18 0
          have hfz18_1 := blk_frozen HGz18 1
          have hfz18_2 := blk_frozen HGz18 2
          clear HGz18 hgz18
          go_wp2
          repeat (go_quiet (fail); try go_wp2)
          go_ret
          exact ⟨z46z3, z46z2, z46z0, y6_⟩
         ·replace c17 := Bool.eq_false_iff.mpr c17
          subst c17
          replace H : (if ((bt s0_0 (ji7)) % 4294967296) < 128 then (some (((x3_1 + (((((bt s0_0 (ji7)) % 4294967296) % 128) * x4_1) % 4294967296)) % 4294967296), s0_0, wrap64 ((wrap64 (x1001_1 + x5_1)) + 1), x1002_1)) else (pouchref01_Reader_Var.l0 kj10 ((x3_1 + (((((bt s0_0 (ji7)) % 4294967296) % 128) * x4_1) % 4294967296)) % 4294967296) ((x4_1 * 128) % 4294967296) (wrap64 (x5_1 + 1)) s0_0 x1001_1 x1002_1)) = some (r1, r2, r3, r4) := by rw [if_neg (show ¬ (false = true) by decide)] at H; exact H
          by_cases c19 : ((bt s0_0 (ji7)) % 4294967296) < 128
          ·rw [if_pos c19] at H
           have c19b0 := decide_eq_true c19
           clear c19
           simp only [Option.some.injEq, Prod.mk.injEq] at H
           obtain ⟨rfl, rfl, rfl, rfl⟩ := H
           obtain ⟨HGz20, hgz20⟩ := HI0.out
           have hcz20_0 := cellS45_0 HGz20
           have hcz20_1 := cellS45_1 HGz20
           have hcz20_2 := cellS45_2 HGz20
           have hfz20_0 := blk_frozen HGz20 0
           have hfz20_1 := blk_frozen HGz20 1
           have hfz20_2 := blk_frozen HGz20 2
           clear HGz20 hgz20
           go_wp2
           repeat (go_quiet (fail); try go_wp2)
           go_ret
           exact ⟨z46z3, z46z2, z46z0, y6_⟩
          ·rw [if_neg c19] at H
           have c19b0 := decide_eq_false c19
           clear c19
           have H' := Aside0.mk H
           clear H
           go_wp2
           repeat (go_quiet (fail); try go_wp2)
           go_roundg kj10
           case measure => have := HK1.out; have := HJ10.out; omega
           case rel => exact ⟨(((x3_1 + (((((bt s0_0 (ji7)) % 4294967296) % 128) * x4_1) % 4294967296)) % 4294967296)), (((x4_1 * 128) % 4294967296)), (wrap64 (x5_1 + 1)), (x1001_1), (x1002_1), (by first | rfl | (simp; done) | (simp only [← hji7] <;> (first | rfl | simp)) | (simp [*]; done)), y7_, y7_, H', ⟨by have := HK1.out; have := HJ10.out; omega⟩, ⟨z46z1⟩, ⟨y6_⟩, ⟨z46z0⟩⟩
      ·rw [if_neg c9] at H
       exact absurd H (by simp)
     ·rw [if_neg c8] at H
      exact absurd H (by simp)
   ·rw [if_neg c4] at H
    have c4b0 := decide_eq_false c4
    clear c4
    simp only [Option.some.injEq, Prod.mk.injEq] at H
    obtain ⟨rfl, rfl, rfl, rfl⟩ := H
    go_wp2
    repeat (go_quiet (fail); try go_wp2)
    go_ret
    exact ⟨y4_, z46z2, z46z0, y6_⟩
end Go.Proofs.YtkmkgpigmldhnaaDoor.P
namespace Go.Proofs.YtkmkgpigmldhnaaDoor.P
open Go.RowKit Go.Proofs.YtkmkgpigmldhnaaDoorW.PrintWords Go.Proofs.YtkmkgpigmldhnaaDoorW.PrintLast Go.Proofs.YtkmkgpigmldhnaaDoorW.PrintMore
attribute [local go_sem] max2_int min2_int max_two min_two max_three min_three max_four min_four
def pouchref01_Reader_Left.f (s0_0 : ByteArray) (s0_1 : Int) (s0_2 : Int) : Option (Int × ByteArray × Int × Int) := if s0_2 = 0 then (some (wrap64 ((s0_0.size : Int) - s0_1), s0_0, s0_1, s0_2)) else (some (0, s0_0, s0_1, s0_2))
theorem z75z0 {p : Prop} (h : p := by repeat (first | (with_reducible first | exact HI0.out | apply IsS45.alloc | apply IsS45.drewN | apply IsS45.drew | apply IsS45.set_0 | apply IsS45.set_1 | apply IsS45.set_2) | exact HI0.out)) : p := h
theorem z75z1 {p : Prop} (h : p := by repeat (first | (with_reducible first | exact HB.out | apply below_alloc | apply pw_below_drewN | apply below_drew1 | refine below_set ?_ (IsS45.ge HI0.out)) | exact HB.out)) : p := h
theorem pouchref01_Reader_Left.calls (g : Nat) (s0_0 : ByteArray) (s0_1 : Int) (s0_2 : Int) (r1 : Int) (r2 : ByteArray) (r3 : Int) (r4 : Int) (w0 w : World) (hI : IsS45 w0 w g s0_0 s0_1 s0_2) (hB : Below w0.heap.size w0 w) (h : pouchref01_Reader_Left.f s0_0 s0_1 s0_2 = some (r1, r2, r3, r4)) :
  Calls Tryd.prog 75 #[.pointer (some ⟨g, 0, none⟩)] w fun e w' => e = .returned (.int .i64 r1) ∧ IsS45 w0 w' g r2 r3 r4 ∧ Below w0.heap.size w0 w' ∧ KeepBut w w' g none := by
 have HI0 := Aside0.mk hI
 have HK := Aside0.mk (KeepBut.refl w g none)
 have HL := Aside0.mk hB.size
 clear hI
 have HW0 := Aside0.mk hB.size
 have HB := Aside0.mk hB
 clear hB
 have H : (if s0_2 = 0 then (some (wrap64 ((s0_0.size : Int) - s0_1), s0_0, s0_1, s0_2)) else (some (0, s0_0, s0_1, s0_2))) = some (r1, r2, r3, r4) := h
 clear h
 by_cases c2 : s0_2 = 0
 rotate_left
 ·rw [if_neg c2] at H
  obtain ⟨c2b0, c2b1⟩ := eqf_ c2
  simp only [Option.some.injEq, Prod.mk.injEq] at H
  obtain ⟨rfl, rfl, rfl, rfl⟩ := H
  obtain ⟨HGz4, hgz4⟩ := HI0.out
  have hcz4_0 := cellS45_0 HGz4
  have hcz4_1 := cellS45_1 HGz4
  have hcz4_2 := cellS45_2 HGz4
  have hfz4_0 := blk_frozen HGz4 0
  have hfz4_1 := blk_frozen HGz4 1
  have hfz4_2 := blk_frozen HGz4 2
  clear HGz4 hgz4
  go_enter Tryd.func75, Tryd.ntmps75
  go_wp2
  repeat (go_quiet (fail); try go_wp2)
  go_ret
  exact ⟨y4_, z75z0, z75z1, y6_⟩
 rw [if_pos c2] at H
 obtain ⟨c2b0, c2b1⟩ := eqt_ c2
 clear c2
 simp only [Option.some.injEq, Prod.mk.injEq] at H
 obtain ⟨rfl, rfl, rfl, rfl⟩ := H
 obtain ⟨HGz3, hgz3⟩ := HI0.out
 have hcz3_0 := cellS45_0 HGz3
 have hcz3_1 := cellS45_1 HGz3
 have hcz3_2 := cellS45_2 HGz3
 have hfz3_0 := blk_frozen HGz3 0
 have hfz3_1 := blk_frozen HGz3 1
 have hfz3_2 := blk_frozen HGz3 2
 clear HGz3 hgz3
 go_enter Tryd.func75, Tryd.ntmps75
 go_wp2
 repeat (go_quiet (fail); try go_wp2)
 go_ret
 exact ⟨y4_, z75z0, z75z1, y6_⟩
def pouchref01_Reader_Rest.f (s0_0 : ByteArray) (s0_1 : Int) (s0_2 : Int) : Option (ByteArray × ByteArray × Int × Int) := (pouchref01_Reader_Left.f s0_0 s0_1 s0_2).bind fun bt101 => ((pouchref01_Reader_take.f bt101.2.1 bt101.2.2.1 bt101.2.2.2 bt101.1).bind fun bt105 => (some (bt105.1, bt105.2.2.1, bt105.2.2.2.1, bt105.2.2.2.2)))
theorem z48z0 {p : Prop} (h : p := by repeat (first | (with_reducible first | exact HI0.out | apply IsS45.alloc | apply IsS45.drewN | apply IsS45.drew | apply IsS45.set_0 | apply IsS45.set_1 | apply IsS45.set_2) | exact HI0.out)) : p := h
theorem z48z1 {p : Prop} (h : p := by repeat (first | (with_reducible first | exact HB.out | apply below_alloc | apply pw_below_drewN | apply below_drew1 | refine below_set ?_ (IsS45.ge HI0.out)) | exact HB.out)) : p := h
theorem pouchref01_Reader_Rest.calls (g : Nat) (s0_0 : ByteArray) (s0_1 : Int) (s0_2 : Int) (r1 : ByteArray) (r2 : ByteArray) (r3 : Int) (r4 : Int) (w0 w : World) (hI : IsS45 w0 w g s0_0 s0_1 s0_2) (hB : Below w0.heap.size w0 w) (h : pouchref01_Reader_Rest.f s0_0 s0_1 s0_2 = some (r1, r2, r3, r4)) :
  Calls Tryd.prog 48 #[.pointer (some ⟨g, 0, none⟩)] w fun e w' => e = .returned (.string r1) ∧ IsS45 w0 w' g r2 r3 r4 ∧ Below w0.heap.size w0 w' ∧ KeepBut w w' g none := by
 have HI0 := Aside0.mk hI
 have HK := Aside0.mk (KeepBut.refl w g none)
 have HL := Aside0.mk hB.size
 clear hI
 have HW0 := Aside0.mk hB.size
 have HB := Aside0.mk hB
 clear hB
 have H : ((pouchref01_Reader_Left.f s0_0 s0_1 s0_2).bind fun bt101 => ((pouchref01_Reader_take.f bt101.2.1 bt101.2.2.1 bt101.2.2.2 bt101.1).bind fun bt105 => (some (bt105.1, bt105.2.2.1, bt105.2.2.2.1, bt105.2.2.2.2)))) = some (r1, r2, r3, r4) := h
 clear h
 replace H := Option.bind_eq_some_iff.mp H
 obtain ⟨⟨t101, t102, t103, t104⟩, A20, H⟩ := H
 try dsimp -simprocs only at H
 have A2 := Aside0.mk A20
 clear A20
 replace H := Option.bind_eq_some_iff.mp H
 obtain ⟨⟨t105, t106, t107, t108, t109⟩, A30, H⟩ := H
 replace H : (some (t105, t107, t108, t109)) = some (r1, r2, r3, r4) := H
 have A3 := Aside0.mk A30
 clear A30
 simp only [Option.some.injEq, Prod.mk.injEq] at H
 obtain ⟨rfl, rfl, rfl, rfl⟩ := H
 go_enter Tryd.func48, Tryd.ntmps48
 go_wp2_with (first | ((with_reducible refine gate_callee (f := 75) rfl ?_); refine goesL_ (some 8) rfl rfl Tryd.func75 (by kernel_rfl) rfl #[.pointer (some ⟨g, 0, none⟩)] rfl y2_ ?_; (with_reducible refine (pouchref01_Reader_Left.calls g s0_0 s0_1 s0_2 t101 t102 t103 t104 w0 _ ?side1 ?side2 A2.out).mono ?_); (case side1 => exact z48z0); (case side2 => exact z48z1); rintro e w4 ⟨rfl, hi, hb, hk⟩; refine ⟨_, rfl, ?_⟩; have n0_ := Aside0.mk (KeepBut.trans y6_ hk (.inl rfl)); have n1_ := Aside0.mk (hb); have n2_ := Aside0.mk (hi); replace HK := n0_; replace HB := n1_; replace HI0 := n2_; clear n0_ n1_ n2_; clear hb hk hi) | ((with_reducible refine gate_callee (f := 74) rfl ?_); refine goesL_ (some 9) rfl rfl Tryd.func74 (by kernel_rfl) rfl #[.pointer (some ⟨g, 0, none⟩), .int .i64 t101] rfl y2_ ?_; (with_reducible refine (pouchref01_Reader_take.calls g t102 t103 t104 t101 t105 t106 t107 t108 t109 w0 _ ?side1 ?side2 A3.out).mono ?_); (case side1 => exact z48z0); (case side2 => exact z48z1); rintro e w5 ⟨rfl, hi, hb, hk⟩; refine ⟨_, rfl, ?_⟩; have n0_ := Aside0.mk (KeepBut.trans y6_ hk (.inl rfl)); have n1_ := Aside0.mk (hb); have n2_ := Aside0.mk (hi); replace HK := n0_; replace HB := n1_; replace HI0 := n2_; clear n0_ n1_ n2_; clear hb hk hi))
 go_ret
 exact ⟨y4_, z48z0, z48z1, y6_⟩
end Go.Proofs.YtkmkgpigmldhnaaDoor.P
namespace Go.Proofs.YtkmkgpigmldhnaaDoor.Pr
open Go Go.RowKit Go.Lib Go.Proofs.YtkmkgpigmldhnaaDoorW.PrintWords Go.Proofs.YtkmkgpigmldhnaaDoorW.PrintLast Go.Proofs.YtkmkgpigmldhnaaDoorW.PrintMore
open Go.Proofs.YtkmkgpigmldhnaaDoor.P
theorem list4 {t : List UInt8} (h : t.length = 4) : ∃ a b c d, t = [a, b, c, d] := by
 match t, h with
 | [a, b, c, d], _ => exact ⟨a, b, c, d, rfl⟩
structure PW (i : Nat) (M : Int) : Prop where
 e : M = 128 ^ i
theorem PW.zero : PW 0 1 := ⟨rfl⟩
theorem PW.succ {i : Nat} {M : Int} (h : PW i M) : PW (i + 1) (M * 128) := ⟨by rw [h.e, Int.pow_succ]⟩
theorem PW.cases {i : Nat} {M : Int} (h : PW i M) (hi : i < 4) : (i = 0 ∧ M = 1) ∨ (i = 1 ∧ M = 128) ∨ (i = 2 ∧ M = 16384) ∨ (i = 3 ∧ M = 2097152) := by
 have hi4 : i = 0 ∨ i = 1 ∨ i = 2 ∨ i = 3 := by omega
 rcases hi4 with rfl | rfl | rfl | rfl
 ·exact .inl ⟨rfl, h.e⟩
 ·exact .inr (.inl ⟨rfl, h.e⟩)
 ·exact .inr (.inr (.inl ⟨rfl, h.e⟩))
 ·exact .inr (.inr (.inr ⟨rfl, h.e⟩))
theorem w64_n1 {i : Nat} (hi : i < 4611686018427387903) : wrap64 ((i : Int) + 1) = ((i + 1 : Nat) : Int) := by rw [w64 (by omega) (by omega)]; omega
end Go.Proofs.YtkmkgpigmldhnaaDoor.Pr
namespace Go.Proofs.YtkmkgpigmldhnaaDoor.P
open Go.RowKit Go.Proofs.YtkmkgpigmldhnaaDoorW.PrintWords Go.Proofs.YtkmkgpigmldhnaaDoorW.PrintLast Go.Proofs.YtkmkgpigmldhnaaDoorW.PrintMore
attribute [local go_sem] max2_int min2_int max_two min_two max_three min_three max_four min_four
mutual
def pouchref06_Next.j1 : Nat → ByteArray → Int → Int → Int → Int → ByteArray → ByteArray → Option (Int × Int × ByteArray × ByteArray × Int)
  | 0, _, _, _, _, _, _, _ => none
  | k + 1, x103000, x103001, x103002, x108000, x108001, x108002, x108003 => if x103002 = 0 then ((pouchref05_Right.f k x108000 x108001 x108002 x108003).bind fun t137 => (if t137 = true then (some (x108000, x108001, x108002, x108003, x103001)) else (some (0, 0, (⟨#[]⟩ : ByteArray), (⟨#[]⟩ : ByteArray), 0)))) else (some (0, 0, (⟨#[]⟩ : ByteArray), (⟨#[]⟩ : ByteArray), 0))
def pouchref06_Next.j0 : Nat → Int → Bool → ByteArray → Int → Int → Int → Int → ByteArray → ByteArray → Option (Int × Int × ByteArray × ByteArray × Int)
  | 0, _, _, _, _, _, _, _, _, _ => none
  | k + 1, x15, x42, x103000, x103001, x103002, x108000, x108001, x108002, x108003 => if x42 = true then ((pouchref01_Reader_Bin.f k x103000 x103001 x103002).bind fun bt125 => (pouchref06_Next.j1 k bt125.2.1 bt125.2.2.1 bt125.2.2.2 x108000 x108001 bt125.1 x108003)) else (if x15 = 7 then ((pouchref01_Reader_Bin.f k x103000 x103001 x103002).bind fun bt129 => ((pouchref01_Reader_Bin.f k bt129.2.1 bt129.2.2.1 bt129.2.2.2).bind fun bt133 => (pouchref06_Next.j1 k bt133.2.1 bt133.2.2.1 bt133.2.2.2 x108000 x108001 bt129.1 bt133.1))) else (pouchref06_Next.j1 k x103000 x103001 x103002 x108000 x108001 x108002 x108003))
end
def pouchref06_Next.f (k : Nat) (a0 : ByteArray) : Option (Int × Int × ByteArray × ByteArray × Int) := (pouchref01_Reader_Num.f k a0 0 0 1).bind fun bt103 => ((pouchref05_Type.f k ((bt103.1) % 256)).bind fun t108 => (if t108 = 0 then (some (0, 0, (⟨#[]⟩ : ByteArray), (⟨#[]⟩ : ByteArray), 0)) else (if t108 = 1 then ((pouchref01_Reader_Num.f k bt103.2.1 bt103.2.2.1 bt103.2.2.2 1).bind fun bt109 => (pouchref06_Next.j1 k bt109.2.1 bt109.2.2.1 bt109.2.2.2 ((bt103.1) % 256) ((bt109.1) % 4294967296) (⟨#[]⟩ : ByteArray) (⟨#[]⟩ : ByteArray))) else (if t108 = 2 then ((pouchref01_Reader_Num.f k bt103.2.1 bt103.2.2.1 bt103.2.2.2 2).bind fun bt113 => (pouchref06_Next.j1 k bt113.2.1 bt113.2.2.1 bt113.2.2.2 ((bt103.1) % 256) ((bt113.1) % 4294967296) (⟨#[]⟩ : ByteArray) (⟨#[]⟩ : ByteArray))) else (if t108 = 3 then ((pouchref01_Reader_Num.f k bt103.2.1 bt103.2.2.1 bt103.2.2.2 4).bind fun bt117 => (pouchref06_Next.j1 k bt117.2.1 bt117.2.2.1 bt117.2.2.2 ((bt103.1) % 256) ((bt117.1) % 4294967296) (⟨#[]⟩ : ByteArray) (⟨#[]⟩ : ByteArray))) else (if t108 = 4 then ((pouchref01_Reader_Var.f k bt103.2.1 bt103.2.2.1 bt103.2.2.2).bind fun bt121 => (pouchref06_Next.j1 k bt121.2.1 bt121.2.2.1 bt121.2.2.2 ((bt103.1) % 256) bt121.1 (⟨#[]⟩ : ByteArray) (⟨#[]⟩ : ByteArray))) else (if t108 = 5 then (pouchref06_Next.j0 k t108 (t108 == 5) bt103.2.1 bt103.2.2.1 bt103.2.2.2 ((bt103.1) % 256) 0 (⟨#[]⟩ : ByteArray) (⟨#[]⟩ : ByteArray)) else (pouchref06_Next.j0 k t108 (t108 == 6) bt103.2.1 bt103.2.2.1 bt103.2.2.2 ((bt103.1) % 256) 0 (⟨#[]⟩ : ByteArray) (⟨#[]⟩ : ByteArray)))))))))
theorem z49m0 {p : Prop} (h : p := by
 repeat' first
 | (with_reducible exact ih0 _ _ _ _ _ _ _)
 | (with_reducible exact ih1 _ _ _ _ _ _ _ _ _)
 | (with_reducible exact pouchref01_Reader_Bin.mono _ _ _ _)
 | (with_reducible exact pouchref01_Reader_Num.mono _ _ _ _ _)
 | (with_reducible exact pouchref01_Reader_Var.mono _ _ _ _)
 | (with_reducible exact pouchref05_Right.mono _ _ _ _ _)
 | (with_reducible exact pouchref05_Type.mono _ _)
 | (with_reducible exact LeO.refl _)
 | (with_reducible exact LeO.none _)
 | (with_reducible refine LeO.ite ?_ ?_)
 | (with_reducible refine LeO.bind ?_ (fun _ => ?_))
 | exact ih0 _ _ _ _ _ _ _
 | exact ih1 _ _ _ _ _ _ _ _ _
 | exact pouchref01_Reader_Bin.mono _ _ _ _
 | exact pouchref01_Reader_Num.mono _ _ _ _ _
 | exact pouchref01_Reader_Var.mono _ _ _ _
 | exact pouchref05_Right.mono _ _ _ _ _
 | exact pouchref05_Type.mono _ _
 | exact LeO.none _
 | refine LeO.ite ?_ ?_
 | refine LeO.bind ?_ (fun _ => ?_)) : p := h
theorem pouchref06_Next.mono_l : ∀ k, (∀ y0 y1 y2 y3 y4 y5 y6, LeO (pouchref06_Next.j1 k y0 y1 y2 y3 y4 y5 y6) (pouchref06_Next.j1 (k + 1) y0 y1 y2 y3 y4 y5 y6)) ∧ (∀ y0 y1 y2 y3 y4 y5 y6 y7 y8, LeO (pouchref06_Next.j0 k y0 y1 y2 y3 y4 y5 y6 y7 y8) (pouchref06_Next.j0 (k + 1) y0 y1 y2 y3 y4 y5 y6 y7 y8))
  | 0 => ⟨fun _ _ _ _ _ _ _ r h => by simp [pouchref06_Next.j1] at h, fun _ _ _ _ _ _ _ _ _ r h => by simp [pouchref06_Next.j0] at h⟩
  | k + 1 => by
    obtain ⟨ih0, ih1⟩ := pouchref06_Next.mono_l k
    refine ⟨?_, ?_⟩
    · intro y0 y1 y2 y3 y4 y5 y6
      unfold pouchref06_Next.j1
      exact z49m0
    · intro y0 y1 y2 y3 y4 y5 y6 y7 y8
      unfold pouchref06_Next.j0
      exact z49m0
theorem pouchref06_Next.mono : ∀ a0 k, LeO (pouchref06_Next.f k a0) (pouchref06_Next.f (k + 1) a0) := by
  intro a0 k
  obtain ⟨ih0, ih1⟩ := pouchref06_Next.mono_l k
  unfold pouchref06_Next.f
  exact z49m0
theorem z49z0 {p : Prop} (h : p := by (with_reducible repeat (first | refine blk_drewN ?_ _ | refine blk_drew ?_ | refine blk_alloc ?_ _)); refine blk_put (cs := #[.int .u8 ((t103) % 256), .int .u32 0, .string (⟨#[]⟩ : ByteArray), .string (⟨#[]⟩ : ByteArray)]) ?_ 3 _ rfl; (with_reducible repeat (first | refine blk_drewN ?_ _ | refine blk_drew ?_ | refine blk_alloc ?_ _)); refine blk_put (cs := #[.int .u8 ((t103) % 256), .int .u32 0, .string (⟨#[]⟩ : ByteArray), .string (⟨#[]⟩ : ByteArray)]) ?_ 2 _ rfl; (with_reducible repeat (first | refine blk_drewN ?_ _ | refine blk_drew ?_ | refine blk_alloc ?_ _)); refine blk_put (cs := #[.int .u8 ((t103) % 256), .int .u32 0, .string (⟨#[]⟩ : ByteArray), .string (⟨#[]⟩ : ByteArray)]) ?_ 1 _ rfl; (with_reducible repeat (first | refine blk_drewN ?_ _ | refine blk_drew ?_ | refine blk_alloc ?_ _)); refine blk_put (cs := #[.int .u8 0, .int .u32 0, .string (⟨#[]⟩ : ByteArray), .string (⟨#[]⟩ : ByteArray)]) ?_ 0 _ rfl; (with_reducible repeat (first | refine blk_drewN ?_ _ | refine blk_drew ?_ | refine blk_alloc ?_ _)); exact BK107.out) : p := h
theorem z49z1 {p : Prop} (h : p := by repeat (first | (with_reducible first | exact HB.out | apply below_alloc | apply pw_below_drewN | apply below_drew1 | refine below_set ?_ (IsS45.ge HI102.out) | refine below_set ?_ GE101.out | refine below_set ?_ GE107.out) | exact HB.out)) : p := h
theorem z49z2 {p : Prop} (h : p := by repeat (first | (with_reducible first | exact HI102.out | apply IsS45.alloc | apply IsS45.drewN | apply IsS45.drew | apply IsS45.set_0 | apply IsS45.set_1 | apply IsS45.set_2 | refine IsS45.far ?_ NB102_101.out _ | refine IsS45.far ?_ NB102_107.out _) | exact HI102.out)) : p := h
theorem z49z3 {p : Prop} (h : p := by (with_reducible repeat (first | refine blk_drewN ?_ _ | refine blk_drew ?_ | refine blk_alloc ?_ _)); refine blk_far ?_ NB101_107.out _; (with_reducible repeat (first | refine blk_drewN ?_ _ | refine blk_drew ?_ | refine blk_alloc ?_ _)); refine blk_far ?_ NB101_107.out _; (with_reducible repeat (first | refine blk_drewN ?_ _ | refine blk_drew ?_ | refine blk_alloc ?_ _)); refine blk_far ?_ NB101_107.out _; (with_reducible repeat (first | refine blk_drewN ?_ _ | refine blk_drew ?_ | refine blk_alloc ?_ _)); refine blk_far ?_ NB101_107.out _; (with_reducible repeat (first | refine blk_drewN ?_ _ | refine blk_drew ?_ | refine blk_alloc ?_ _)); exact BK101.out) : p := h
theorem z49z4 {p : Prop} (h : p := by (with_reducible repeat (first | refine blk_drewN ?_ _ | refine blk_drew ?_ | refine blk_alloc ?_ _)); refine blk_far ?_ NB101_107.out _; (with_reducible repeat (first | refine blk_drewN ?_ _ | refine blk_drew ?_ | refine blk_alloc ?_ _)); exact BK101.out) : p := h
theorem z49z5 {p : Prop} (h : p := by (with_reducible repeat (first | refine blk_drewN ?_ _ | refine blk_drew ?_ | refine blk_alloc ?_ _)); refine blk_put (cs := #[.int .u8 ((t103) % 256), .int .u32 0, .string (⟨#[]⟩ : ByteArray), .string (⟨#[]⟩ : ByteArray)]) ?_ 1 _ rfl; (with_reducible repeat (first | refine blk_drewN ?_ _ | refine blk_drew ?_ | refine blk_alloc ?_ _)); exact BK107.out) : p := h
theorem z49z6 {p : Prop} (h : p := by (with_reducible repeat (first | refine blk_drewN ?_ _ | refine blk_drew ?_ | refine blk_alloc ?_ _)); refine blk_put (cs := #[.int .u8 0, .int .u32 0, .string (⟨#[]⟩ : ByteArray), .string x102003_3]) ?_ 3 _ rfl; (with_reducible repeat (first | refine blk_drewN ?_ _ | refine blk_drew ?_ | refine blk_alloc ?_ _)); refine blk_put (cs := #[.int .u8 0, .int .u32 0, .string x102002_3, .string x102003_3]) ?_ 2 _ rfl; (with_reducible repeat (first | refine blk_drewN ?_ _ | refine blk_drew ?_ | refine blk_alloc ?_ _)); refine blk_put (cs := #[.int .u8 0, .int .u32 x102001_3, .string x102002_3, .string x102003_3]) ?_ 1 _ rfl; (with_reducible repeat (first | refine blk_drewN ?_ _ | refine blk_drew ?_ | refine blk_alloc ?_ _)); refine blk_put (cs := #[.int .u8 x102000_3, .int .u32 x102001_3, .string x102002_3, .string x102003_3]) ?_ 0 _ rfl; (with_reducible repeat (first | refine blk_drewN ?_ _ | refine blk_drew ?_ | refine blk_alloc ?_ _)); exact BK101.out) : p := h
theorem z49z7 {p : Prop} (h : p := by repeat (first | (with_reducible first | exact HB.out | apply below_alloc | apply pw_below_drewN | apply below_drew1 | refine below_set ?_ (IsS45.ge HI102.out) | refine below_set ?_ GE101.out) | exact HB.out)) : p := h
theorem z49z8 {p : Prop} (h : p := by (with_reducible repeat (first | refine blk_drewN ?_ _ | refine blk_drew ?_ | refine blk_alloc ?_ _)); exact BK107.out) : p := h
theorem z49z9 {p : Prop} (h : p := by (with_reducible repeat (first | refine blk_drewN ?_ _ | refine blk_drew ?_ | refine blk_alloc ?_ _)); refine blk_put (cs := #[.int .u8 ((t103) % 256), .int .u32 0, .string (⟨#[]⟩ : ByteArray), .string (⟨#[]⟩ : ByteArray)]) ?_ 2 _ rfl; (with_reducible repeat (first | refine blk_drewN ?_ _ | refine blk_drew ?_ | refine blk_alloc ?_ _)); exact BK107.out) : p := h
theorem z49z10 {p : Prop} (h : p := by repeat (first | (with_reducible first | exact HI102.out | apply IsS45.alloc | apply IsS45.drewN | apply IsS45.drew | apply IsS45.set_0 | apply IsS45.set_1 | apply IsS45.set_2 | refine IsS45.far ?_ NB102_101.out _) | exact HI102.out)) : p := h
theorem z49z11 {p : Prop} (h : p := by have := HJ39.out; first | omega | exact Nat.le_refl _) : p := h
theorem z49z12 {p : Prop} (h : p := by first | (go_simp; done) | (go_simp; rfl)) : p := h
theorem pouchref06_Next.calls (k : Nat) (a0 : ByteArray) (r1 : Int) (r2 : Int) (r3 : ByteArray) (r4 : ByteArray) (r5 : Int) (w : World) (h : pouchref06_Next.f k a0 = some (r1, r2, r3, r4, r5)) :
  Calls Tryd.prog 49 #[.string a0] w fun e w' => e = .returned (.tuple #[.agg #[.int .u8 r1, .int .u32 r2, .string r3, .string r4], .int .i64 r5]) ∧ Below w.heap.size w w' := by
 have hu58 := Tryd.underlying58
 have hu45 := Tryd.underlying45
 have HB := Aside0.mk (Below.refl w.heap.size w)
 have H : ((pouchref01_Reader_Num.f k a0 0 0 1).bind fun bt103 => ((pouchref05_Type.f k ((bt103.1) % 256)).bind fun t108 => (if t108 = 0 then (some (0, 0, (⟨#[]⟩ : ByteArray), (⟨#[]⟩ : ByteArray), 0)) else (if t108 = 1 then ((pouchref01_Reader_Num.f k bt103.2.1 bt103.2.2.1 bt103.2.2.2 1).bind fun bt109 => (pouchref06_Next.j1 k bt109.2.1 bt109.2.2.1 bt109.2.2.2 ((bt103.1) % 256) ((bt109.1) % 4294967296) (⟨#[]⟩ : ByteArray) (⟨#[]⟩ : ByteArray))) else (if t108 = 2 then ((pouchref01_Reader_Num.f k bt103.2.1 bt103.2.2.1 bt103.2.2.2 2).bind fun bt113 => (pouchref06_Next.j1 k bt113.2.1 bt113.2.2.1 bt113.2.2.2 ((bt103.1) % 256) ((bt113.1) % 4294967296) (⟨#[]⟩ : ByteArray) (⟨#[]⟩ : ByteArray))) else (if t108 = 3 then ((pouchref01_Reader_Num.f k bt103.2.1 bt103.2.2.1 bt103.2.2.2 4).bind fun bt117 => (pouchref06_Next.j1 k bt117.2.1 bt117.2.2.1 bt117.2.2.2 ((bt103.1) % 256) ((bt117.1) % 4294967296) (⟨#[]⟩ : ByteArray) (⟨#[]⟩ : ByteArray))) else (if t108 = 4 then ((pouchref01_Reader_Var.f k bt103.2.1 bt103.2.2.1 bt103.2.2.2).bind fun bt121 => (pouchref06_Next.j1 k bt121.2.1 bt121.2.2.1 bt121.2.2.2 ((bt103.1) % 256) bt121.1 (⟨#[]⟩ : ByteArray) (⟨#[]⟩ : ByteArray))) else (if t108 = 5 then (pouchref06_Next.j0 k t108 (t108 == 5) bt103.2.1 bt103.2.2.1 bt103.2.2.2 ((bt103.1) % 256) 0 (⟨#[]⟩ : ByteArray) (⟨#[]⟩ : ByteArray)) else (pouchref06_Next.j0 k t108 (t108 == 6) bt103.2.1 bt103.2.2.1 bt103.2.2.2 ((bt103.1) % 256) 0 (⟨#[]⟩ : ByteArray) (⟨#[]⟩ : ByteArray)))))))))) = some (r1, r2, r3, r4, r5) := h
 clear h
 replace H := Option.bind_eq_some_iff.mp H
 obtain ⟨⟨t103, t104, t105, t106⟩, A20, H⟩ := H
 try dsimp -simprocs only at H
 have A2 := Aside0.mk A20
 clear A20
 replace H := Option.bind_eq_some_iff.mp H
 obtain ⟨t108, A30, H⟩ := H
 try dsimp -simprocs only at H
 have A3 := Aside0.mk A30
 clear A30
 have HC4 := Aside0.mk H
 clear H
 go_enter Tryd.func49, Tryd.ntmps49
 go_upto_block 0 with (first | ((with_reducible refine gate_dst (N := 2) rfl ?_); refine box_event ?hg (N := 2) ?hd (cs := #[.int .u8 0, .int .u32 0, .string (⟨#[]⟩ : ByteArray), .string (⟨#[]⟩ : ByteArray)]) (t := 58) ?hr ?_; (case hd => rfl); (case hg => rfl); (case hr => exact z49z12); intro gb101 hg w5 hbox hb; have n0_ := Aside0.mk (below_step y0_ hb); have n1_ := Aside0.mk (hbox); have n2_ := Aside0.mk ((by rw [hg]; exact (below_size y0_) : w.heap.size ≤ gb101)); have n3_ := Aside0.mk ((by rw [hg]; exact (below_size y0_) : w.heap.size ≤ gb101)); replace HB := n0_; have BK101 := n1_; have GW101 := n2_; have GE101 := n3_; clear n0_ n1_ n2_ n3_; clear hb hbox hg) | ((with_reducible refine gate_dst (N := 8) rfl ?_); refine box_event ?hg (N := 8) ?hd (cs := #[.string a0, .int .i64 0, .int .i64 0]) (t := 45) ?hr ?_; (case hd => rfl); (case hg => rfl); (case hr => exact z49z12); intro gb102 hg w6 hbox hb; have hi : IsS45 w w6 gb102 a0 0 0 := ⟨hbox, (by rw [hg]; exact (below_size y1_))⟩; have n0_ := Aside0.mk (blk_below (g := gb101) (o := .cells #[.int .u8 0, .int .u32 0, .string (⟨#[]⟩ : ByteArray), .string (⟨#[]⟩ : ByteArray)] 58 (0, 0)) y3_ hb); have n1_ := Aside0.mk (below_step y1_ hb); have n2_ := Aside0.mk (hi); have n3_ := Aside0.mk (IsS45.ne_blk hi (blk_below (g := gb101) (o := .cells #[.int .u8 0, .int .u32 0, .string (⟨#[]⟩ : ByteArray), .string (⟨#[]⟩ : ByteArray)] 58 (0, 0)) y3_ hb) (by decide)); have n4_ := Aside0.mk (Ne.symm (IsS45.ne_blk hi (blk_below (g := gb101) (o := .cells #[.int .u8 0, .int .u32 0, .string (⟨#[]⟩ : ByteArray), .string (⟨#[]⟩ : ByteArray)] 58 (0, 0)) y3_ hb) (by decide))); replace BK101 := n0_; replace HB := n1_; have HI102 := n2_; have NB102_101 := n3_; have NB101_102 := n4_; clear n0_ n1_ n2_ n3_ n4_; clear hb hbox hg hi) | ((with_reducible refine gate_callee (f := 76) rfl ?_); refine goesL_ (some 10) rfl rfl Tryd.func76 (by kernel_rfl) rfl #[.pointer (some ⟨gb102, 0, none⟩), .int .i64 1] rfl y2_ ?_; (with_reducible refine (pouchref01_Reader_Num.calls k gb102 a0 0 0 1 t103 t104 t105 t106 w _ ?side1 ?side2 A2.out).mono ?_); (case side1 => exact z49z10); (case side2 => exact z49z7); rintro e w7 ⟨rfl, hi, hb, hk⟩; refine ⟨_, rfl, ?_⟩; have n0_ := Aside0.mk (KeepBut.blk hk (g' := gb101) (o := .cells #[.int .u8 0, .int .u32 0, .string (⟨#[]⟩ : ByteArray), .string (⟨#[]⟩ : ByteArray)] 58 (0, 0)) y3_ NB101_102.out (by simp)); have n1_ := Aside0.mk (hb); have n2_ := Aside0.mk (hi); replace BK101 := n0_; replace HB := n1_; replace HI102 := n2_; clear n0_ n1_ n2_; clear hb hk hi) | ((with_reducible refine gate_dst (N := 5) rfl ?_); refine box_event ?hg (N := 5) ?hd (cs := #[.int .u8 0, .int .u32 0, .string (⟨#[]⟩ : ByteArray), .string (⟨#[]⟩ : ByteArray)]) (t := 58) ?hr ?_; (case hd => rfl); (case hg => rfl); (case hr => exact z49z12); intro gb107 hg w8 hbox hb; have n0_ := Aside0.mk (blk_below (g := gb101) (o := .cells #[.int .u8 0, .int .u32 0, .string (⟨#[]⟩ : ByteArray), .string (⟨#[]⟩ : ByteArray)] 58 (0, 0)) y3_ hb); have n1_ := Aside0.mk (IsS45.below z49z10 hb); have n2_ := Aside0.mk (below_step z49z7 hb); have n3_ := Aside0.mk (hbox); have n4_ := Aside0.mk ((by rw [hg]; exact (below_size z49z7) : w.heap.size ≤ gb107)); have n5_ := Aside0.mk ((by rw [hg]; exact (below_size z49z7) : w.heap.size ≤ gb107)); have n6_ := Aside0.mk ((by rw [hg]; exact Nat.ne_of_lt (blk_lt (g := gb101) (o := .cells #[.int .u8 0, .int .u32 0, .string (⟨#[]⟩ : ByteArray), .string (⟨#[]⟩ : ByteArray)] 58 (0, 0)) y3_) : gb101 ≠ gb107)); have n7_ := Aside0.mk ((by rw [hg]; exact Nat.ne_of_gt (blk_lt (g := gb101) (o := .cells #[.int .u8 0, .int .u32 0, .string (⟨#[]⟩ : ByteArray), .string (⟨#[]⟩ : ByteArray)] 58 (0, 0)) y3_) : gb107 ≠ gb101)); have n8_ := Aside0.mk ((by rw [hg]; exact Nat.ne_of_lt (IsS45.lt (show IsS45 w _ gb102 t104 t105 t106 from by repeat (first | (with_reducible first | exact HI102.out | apply IsS45.alloc | apply IsS45.drewN | apply IsS45.drew | apply IsS45.set_0 | apply IsS45.set_1 | apply IsS45.set_2 | refine IsS45.far ?_ NB102_101.out _) | exact HI102.out))) : gb102 ≠ gb107)); have n9_ := Aside0.mk ((by rw [hg]; exact Nat.ne_of_gt (IsS45.lt (show IsS45 w _ gb102 t104 t105 t106 from by repeat (first | (with_reducible first | exact HI102.out | apply IsS45.alloc | apply IsS45.drewN | apply IsS45.drew | apply IsS45.set_0 | apply IsS45.set_1 | apply IsS45.set_2 | refine IsS45.far ?_ NB102_101.out _) | exact HI102.out))) : gb107 ≠ gb102)); replace BK101 := n0_; replace HI102 := n1_; replace HB := n2_; have BK107 := n3_; have GW107 := n4_; have GE107 := n5_; have NB101_107 := n6_; have NB107_101 := n7_; have NB102_107 := n8_; have NB107_102 := n9_; clear n0_ n1_ n2_ n3_ n4_ n5_ n6_ n7_ n8_ n9_; clear hb hbox hg; have hnb9 := NB107_101.out; have hnc9 := NB101_107.out; have hnb10 := NB107_102.out; have hnc10 := NB102_107.out; obtain ⟨hcz11_0, hcz11_1, hcz11_2, hcz11_3⟩ := ccs4_ BK107.out; obtain ⟨hfz11_0, hfz11_1, hfz11_2, hfz11_3⟩ := fzs4_ BK107.out) | ((with_reducible refine gate_callee (f := 67) rfl ?_); refine goesL_ (some 15) rfl rfl Tryd.func67 (by kernel_rfl) rfl #[.int .u8 ((t103) % 256)] rfl y2_ ?_; (with_reducible refine (pouchref05_Type.calls k ((t103) % 256) t108 _ A3.out).mono ?_); rintro e w' ⟨rfl, ⟨nd, rfl⟩⟩; refine ⟨_, rfl, ?_⟩))
 (try simp only [Act.put, List.setIfInBounds_toArray, List.set_cons_zero, List.set_cons_succ])
 go_cut [] (fun wc => ∃ (kq : Nat) (x102000_3 : Int) (x102001_3 : Int) (x102002_3 : ByteArray) (x102003_3 : ByteArray) (x103000_3 : ByteArray) (x103001_3 : Int) (x103002_3 : Int) (x108001_3 : Int) (x108002_3 : ByteArray) (x108003_3 : ByteArray), Aside0 (pouchref06_Next.j1 kq x103000_3 x103001_3 x103002_3 ((t103) % 256) x108001_3 x108002_3 x108003_3 = some (r1, r2, r3, r4, r5)) ∧ Aside0 (kq ≤ k) ∧ Aside0 (wc.heap[gb101]? = some (.cells #[.int .u8 x102000_3, .int .u32 x102001_3, .string x102002_3, .string x102003_3] 58 (0, 0))) ∧ Aside0 (wc.heap[gb107]? = some (.cells #[.int .u8 ((t103) % 256), .int .u32 x108001_3, .string x108002_3, .string x108003_3] 58 (0, 0))) ∧ Aside0 (IsS45 w wc gb102 x103000_3 x103001_3 x103002_3) ∧ Aside0 (Below w.heap.size w wc))
 case first =>
  have H := HC4.out
  clear HC4
  by_cases c12 : t108 = 0
  ·rw [if_pos c12] at H
   obtain ⟨c12b0, c12b1⟩ := eqt_ c12
   clear c12
   (first | rw [c12b0] | (simp only [i64_w, i32_w]; rw [c12b0]) | skip)
   simp only [Option.some.injEq, Prod.mk.injEq] at H
   obtain ⟨rfl, rfl, rfl, rfl, rfl⟩ := H
   have hnb13 := NB101_107.out
   have hnc13 := NB107_101.out
   have hnb14 := NB101_102.out
   have hnc14 := NB102_101.out
   obtain ⟨hcz15_0, hcz15_1, hcz15_2, hcz15_3⟩ := ccs4_ BK101.out
   obtain ⟨hfz15_0, hfz15_1, hfz15_2, hfz15_3⟩ := fzs4_ BK101.out
   go_wp2
   refine bodyPost_ret (results_ct rfl _ _ gb101 58 #[.int .u8 0, .int .u32 0, .string (⟨#[]⟩ : ByteArray), .string (⟨#[]⟩ : ByteArray)] (0, 0) _ rfl (by (with_reducible repeat (first | refine blk_drewN ?_ _ | refine blk_drew ?_ | refine blk_alloc ?_ _)); refine blk_put (cs := #[.int .u8 0, .int .u32 0, .string (⟨#[]⟩ : ByteArray), .string (⟨#[]⟩ : ByteArray)]) ?_ 3 _ rfl; (with_reducible repeat (first | refine blk_drewN ?_ _ | refine blk_drew ?_ | refine blk_alloc ?_ _)); refine blk_put (cs := #[.int .u8 0, .int .u32 0, .string (⟨#[]⟩ : ByteArray), .string (⟨#[]⟩ : ByteArray)]) ?_ 2 _ rfl; (with_reducible repeat (first | refine blk_drewN ?_ _ | refine blk_drew ?_ | refine blk_alloc ?_ _)); refine blk_put (cs := #[.int .u8 0, .int .u32 0, .string (⟨#[]⟩ : ByteArray), .string (⟨#[]⟩ : ByteArray)]) ?_ 1 _ rfl; (with_reducible repeat (first | refine blk_drewN ?_ _ | refine blk_drew ?_ | refine blk_alloc ?_ _)); refine blk_put (cs := #[.int .u8 0, .int .u32 0, .string (⟨#[]⟩ : ByteArray), .string (⟨#[]⟩ : ByteArray)]) ?_ 0 _ rfl; (with_reducible repeat (first | refine blk_drewN ?_ _ | refine blk_drew ?_ | refine blk_alloc ?_ _)); refine blk_far ?_ NB101_107.out _; (with_reducible repeat (first | refine blk_drewN ?_ _ | refine blk_drew ?_ | refine blk_alloc ?_ _)); refine blk_far ?_ NB101_107.out _; (with_reducible repeat (first | refine blk_drewN ?_ _ | refine blk_drew ?_ | refine blk_alloc ?_ _)); refine blk_far ?_ NB101_107.out _; (with_reducible repeat (first | refine blk_drewN ?_ _ | refine blk_drew ?_ | refine blk_alloc ?_ _)); refine blk_far ?_ NB101_107.out _; (with_reducible repeat (first | refine blk_drewN ?_ _ | refine blk_drew ?_ | refine blk_alloc ?_ _)); exact BK101.out) Tryd.underlying58 rfl (by kernel_rfl)) rfl ?_
   exact ⟨y4_, z49z1⟩
  ·rw [if_neg c12] at H
   obtain ⟨c12b0, c12b1⟩ := eqf_ c12
   (first | rw [c12b0] | (simp only [i64_w, i32_w]; rw [c12b0]) | skip)
   by_cases c16 : t108 = 1
   ·rw [if_pos c16] at H
    obtain ⟨c16b0, c16b1⟩ := eqt_ c16
    clear c16
    replace H := Option.bind_eq_some_iff.mp H
    obtain ⟨⟨t109, t110, t111, t112⟩, A170, H⟩ := H
    replace H : (pouchref06_Next.j1 k t110 t111 t112 ((t103) % 256) ((t109) % 4294967296) (⟨#[]⟩ : ByteArray) (⟨#[]⟩ : ByteArray)) = some (r1, r2, r3, r4, r5) := H
    have A17 := Aside0.mk A170
    clear A170
    have H' := Aside0.mk H
    clear H
    go_wp2_with (first | ((with_reducible refine gate_callee (f := 76) rfl ?_); refine goesL_ (some 22) rfl rfl Tryd.func76 (by kernel_rfl) rfl #[.pointer (some ⟨gb102, 0, none⟩), .int .i64 1] rfl y2_ ?_; (with_reducible refine (pouchref01_Reader_Num.calls k gb102 t104 t105 t106 1 t109 t110 t111 t112 w _ ?side1 ?side2 A17.out).mono ?_); (case side1 => exact z49z2); (case side2 => exact z49z1); rintro e w18 ⟨rfl, hi, hb, hk⟩; refine ⟨_, rfl, ?_⟩; have n0_ := Aside0.mk (KeepBut.blk hk (g' := gb101) (o := .cells #[.int .u8 0, .int .u32 0, .string (⟨#[]⟩ : ByteArray), .string (⟨#[]⟩ : ByteArray)] 58 (0, 0)) z49z3 NB101_102.out (by simp)); have n1_ := Aside0.mk (KeepBut.blk hk (g' := gb107) (o := .cells #[.int .u8 ((t103) % 256), .int .u32 0, .string (⟨#[]⟩ : ByteArray), .string (⟨#[]⟩ : ByteArray)] 58 (0, 0)) z49z0 NB107_102.out (by simp)); have n2_ := Aside0.mk (hb); have n3_ := Aside0.mk (hi); replace BK101 := n0_; replace BK107 := n1_; replace HB := n2_; replace HI102 := n3_; clear n0_ n1_ n2_ n3_; clear hb hk hi; have hnb19 := NB107_101.out; have hnc19 := NB101_107.out; have hnb20 := NB107_102.out; have hnc20 := NB102_107.out; obtain ⟨hcz21_0, hcz21_1, hcz21_2, hcz21_3⟩ := ccs4_ BK107.out; obtain ⟨hfz21_0, hfz21_1, hfz21_2, hfz21_3⟩ := fzs4_ BK107.out))
    go_meet
    case rel => exact ⟨_, (0), (0), ((⟨#[]⟩ : ByteArray)), ((⟨#[]⟩ : ByteArray)), (t110), (t111), (t112), ((t109) % 4294967296), ((⟨#[]⟩ : ByteArray)), ((⟨#[]⟩ : ByteArray)), H', ⟨y19_⟩, ⟨z49z4⟩, ⟨z49z5⟩, ⟨z49z2⟩, ⟨z49z1⟩⟩
   ·rw [if_neg c16] at H
    obtain ⟨c16b0, c16b1⟩ := eqf_ c16
    by_cases c22 : t108 = 2
    ·rw [if_pos c22] at H
     obtain ⟨c22b0, c22b1⟩ := eqt_ c22
     clear c22
     replace H := Option.bind_eq_some_iff.mp H
     obtain ⟨⟨t113, t114, t115, t116⟩, A230, H⟩ := H
     replace H : (pouchref06_Next.j1 k t114 t115 t116 ((t103) % 256) ((t113) % 4294967296) (⟨#[]⟩ : ByteArray) (⟨#[]⟩ : ByteArray)) = some (r1, r2, r3, r4, r5) := H
     have A23 := Aside0.mk A230
     clear A230
     have H' := Aside0.mk H
     clear H
     go_wp2_with (first | ((with_reducible refine gate_callee (f := 76) rfl ?_); refine goesL_ (some 28) rfl rfl Tryd.func76 (by kernel_rfl) rfl #[.pointer (some ⟨gb102, 0, none⟩), .int .i64 2] rfl y2_ ?_; (with_reducible refine (pouchref01_Reader_Num.calls k gb102 t104 t105 t106 2 t113 t114 t115 t116 w _ ?side1 ?side2 A23.out).mono ?_); (case side1 => exact z49z2); (case side2 => exact z49z1); rintro e w24 ⟨rfl, hi, hb, hk⟩; refine ⟨_, rfl, ?_⟩; have n0_ := Aside0.mk (KeepBut.blk hk (g' := gb101) (o := .cells #[.int .u8 0, .int .u32 0, .string (⟨#[]⟩ : ByteArray), .string (⟨#[]⟩ : ByteArray)] 58 (0, 0)) z49z3 NB101_102.out (by simp)); have n1_ := Aside0.mk (KeepBut.blk hk (g' := gb107) (o := .cells #[.int .u8 ((t103) % 256), .int .u32 0, .string (⟨#[]⟩ : ByteArray), .string (⟨#[]⟩ : ByteArray)] 58 (0, 0)) z49z0 NB107_102.out (by simp)); have n2_ := Aside0.mk (hb); have n3_ := Aside0.mk (hi); replace BK101 := n0_; replace BK107 := n1_; replace HB := n2_; replace HI102 := n3_; clear n0_ n1_ n2_ n3_; clear hb hk hi; have hnb25 := NB107_101.out; have hnc25 := NB101_107.out; have hnb26 := NB107_102.out; have hnc26 := NB102_107.out; obtain ⟨hcz27_0, hcz27_1, hcz27_2, hcz27_3⟩ := ccs4_ BK107.out; obtain ⟨hfz27_0, hfz27_1, hfz27_2, hfz27_3⟩ := fzs4_ BK107.out))
     go_meet
     case rel => exact ⟨_, (0), (0), ((⟨#[]⟩ : ByteArray)), ((⟨#[]⟩ : ByteArray)), (t114), (t115), (t116), ((t113) % 4294967296), ((⟨#[]⟩ : ByteArray)), ((⟨#[]⟩ : ByteArray)), H', ⟨y19_⟩, ⟨z49z4⟩, ⟨z49z5⟩, ⟨z49z2⟩, ⟨z49z1⟩⟩
    ·rw [if_neg c22] at H
     obtain ⟨c22b0, c22b1⟩ := eqf_ c22
     by_cases c28 : t108 = 3
     ·rw [if_pos c28] at H
      obtain ⟨c28b0, c28b1⟩ := eqt_ c28
      clear c28
      replace H := Option.bind_eq_some_iff.mp H
      obtain ⟨⟨t117, t118, t119, t120⟩, A290, H⟩ := H
      replace H : (pouchref06_Next.j1 k t118 t119 t120 ((t103) % 256) ((t117) % 4294967296) (⟨#[]⟩ : ByteArray) (⟨#[]⟩ : ByteArray)) = some (r1, r2, r3, r4, r5) := H
      have A29 := Aside0.mk A290
      clear A290
      have H' := Aside0.mk H
      clear H
      go_wp2_with (first | ((with_reducible refine gate_callee (f := 76) rfl ?_); refine goesL_ (some 34) rfl rfl Tryd.func76 (by kernel_rfl) rfl #[.pointer (some ⟨gb102, 0, none⟩), .int .i64 4] rfl y2_ ?_; (with_reducible refine (pouchref01_Reader_Num.calls k gb102 t104 t105 t106 4 t117 t118 t119 t120 w _ ?side1 ?side2 A29.out).mono ?_); (case side1 => exact z49z2); (case side2 => exact z49z1); rintro e w30 ⟨rfl, hi, hb, hk⟩; refine ⟨_, rfl, ?_⟩; have n0_ := Aside0.mk (KeepBut.blk hk (g' := gb101) (o := .cells #[.int .u8 0, .int .u32 0, .string (⟨#[]⟩ : ByteArray), .string (⟨#[]⟩ : ByteArray)] 58 (0, 0)) z49z3 NB101_102.out (by simp)); have n1_ := Aside0.mk (KeepBut.blk hk (g' := gb107) (o := .cells #[.int .u8 ((t103) % 256), .int .u32 0, .string (⟨#[]⟩ : ByteArray), .string (⟨#[]⟩ : ByteArray)] 58 (0, 0)) z49z0 NB107_102.out (by simp)); have n2_ := Aside0.mk (hb); have n3_ := Aside0.mk (hi); replace BK101 := n0_; replace BK107 := n1_; replace HB := n2_; replace HI102 := n3_; clear n0_ n1_ n2_ n3_; clear hb hk hi; have hnb31 := NB107_101.out; have hnc31 := NB101_107.out; have hnb32 := NB107_102.out; have hnc32 := NB102_107.out; obtain ⟨hcz33_0, hcz33_1, hcz33_2, hcz33_3⟩ := ccs4_ BK107.out; obtain ⟨hfz33_0, hfz33_1, hfz33_2, hfz33_3⟩ := fzs4_ BK107.out))
      go_meet
      case rel => exact ⟨_, (0), (0), ((⟨#[]⟩ : ByteArray)), ((⟨#[]⟩ : ByteArray)), (t118), (t119), (t120), ((t117) % 4294967296), ((⟨#[]⟩ : ByteArray)), ((⟨#[]⟩ : ByteArray)), H', ⟨y19_⟩, ⟨z49z4⟩, ⟨z49z5⟩, ⟨z49z2⟩, ⟨z49z1⟩⟩
     ·rw [if_neg c28] at H
      obtain ⟨c28b0, c28b1⟩ := eqf_ c28
      by_cases c34 : t108 = 4
      ·rw [if_pos c34] at H
       obtain ⟨c34b0, c34b1⟩ := eqt_ c34
       clear c34
       replace H := Option.bind_eq_some_iff.mp H
       obtain ⟨⟨t121, t122, t123, t124⟩, A350, H⟩ := H
       replace H : (pouchref06_Next.j1 k t122 t123 t124 ((t103) % 256) t121 (⟨#[]⟩ : ByteArray) (⟨#[]⟩ : ByteArray)) = some (r1, r2, r3, r4, r5) := H
       have A35 := Aside0.mk A350
       clear A350
       have H' := Aside0.mk H
       clear H
       go_wp2_with (first | ((with_reducible refine gate_callee (f := 46) rfl ?_); refine goesL_ (some 40) rfl rfl Tryd.func46 (by kernel_rfl) rfl #[.pointer (some ⟨gb102, 0, none⟩)] rfl y2_ ?_; (with_reducible refine (pouchref01_Reader_Var.calls k gb102 t104 t105 t106 t121 t122 t123 t124 w _ ?side1 ?side2 A35.out).mono ?_); (case side1 => exact z49z2); (case side2 => exact z49z1); rintro e w36 ⟨rfl, hi, hb, hk⟩; refine ⟨_, rfl, ?_⟩; have n0_ := Aside0.mk (KeepBut.blk hk (g' := gb101) (o := .cells #[.int .u8 0, .int .u32 0, .string (⟨#[]⟩ : ByteArray), .string (⟨#[]⟩ : ByteArray)] 58 (0, 0)) z49z3 NB101_102.out (by simp)); have n1_ := Aside0.mk (KeepBut.blk hk (g' := gb107) (o := .cells #[.int .u8 ((t103) % 256), .int .u32 0, .string (⟨#[]⟩ : ByteArray), .string (⟨#[]⟩ : ByteArray)] 58 (0, 0)) z49z0 NB107_102.out (by simp)); have n2_ := Aside0.mk (hb); have n3_ := Aside0.mk (hi); replace BK101 := n0_; replace BK107 := n1_; replace HB := n2_; replace HI102 := n3_; clear n0_ n1_ n2_ n3_; clear hb hk hi; have hnb37 := NB107_101.out; have hnc37 := NB101_107.out; have hnb38 := NB107_102.out; have hnc38 := NB102_107.out; obtain ⟨hcz39_0, hcz39_1, hcz39_2, hcz39_3⟩ := ccs4_ BK107.out; obtain ⟨hfz39_0, hfz39_1, hfz39_2, hfz39_3⟩ := fzs4_ BK107.out))
       go_meet
       case rel => exact ⟨_, (0), (0), ((⟨#[]⟩ : ByteArray)), ((⟨#[]⟩ : ByteArray)), (t122), (t123), (t124), (t121), ((⟨#[]⟩ : ByteArray)), ((⟨#[]⟩ : ByteArray)), H', ⟨y19_⟩, ⟨z49z4⟩, ⟨z49z5⟩, ⟨z49z2⟩, ⟨z49z1⟩⟩
      ·rw [if_neg c34] at H
       obtain ⟨c34b0, c34b1⟩ := eqf_ c34
       have HC40 := Aside0.mk H
       clear H
       go_upto_if 42 with (fail)
       go_cut [42] (fun v42 wc => ∃ (kq : Nat) (x42_39 : Bool), v42 = .bool x42_39 ∧ Aside0 (pouchref06_Next.j0 kq t108 x42_39 t104 t105 t106 ((t103) % 256) 0 (⟨#[]⟩ : ByteArray) (⟨#[]⟩ : ByteArray) = some (r1, r2, r3, r4, r5)) ∧ Aside0 (kq ≤ k) ∧ Aside0 (wc.heap[gb101]? = some (.cells #[.int .u8 0, .int .u32 0, .string (⟨#[]⟩ : ByteArray), .string (⟨#[]⟩ : ByteArray)] 58 (0, 0))) ∧ Aside0 (wc.heap[gb107]? = some (.cells #[.int .u8 ((t103) % 256), .int .u32 0, .string (⟨#[]⟩ : ByteArray), .string (⟨#[]⟩ : ByteArray)] 58 (0, 0))) ∧ Aside0 (IsS45 w wc gb102 t104 t105 t106) ∧ Aside0 (Below w.heap.size w wc))
       case first =>
        have H := HC40.out
        clear HC40
        by_cases c41 : t108 = 5
        ·rw [if_pos c41] at H
         obtain ⟨c41b0, c41b1⟩ := eqt_ c41
         clear c41
         (first | rw [c41b0] | (simp only [i64_w, i32_w]; rw [c41b0]) | skip)
         have H' := Aside0.mk H
         clear H
         go_wp2
         go_meet
         case rel => exact ⟨_, ((t108 == 5)), y7_, H', ⟨y19_⟩, ⟨z49z3⟩, ⟨z49z0⟩, ⟨z49z2⟩, ⟨z49z1⟩⟩
        ·rw [if_neg c41] at H
         obtain ⟨c41b0, c41b1⟩ := eqf_ c41
         (first | rw [c41b0] | (simp only [i64_w, i32_w]; rw [c41b0]) | skip)
         have H' := Aside0.mk H
         clear H
         go_wp2
         go_meet
         case rel => exact ⟨_, ((t108 == 6)), y7_, H', ⟨y19_⟩, ⟨z49z3⟩, ⟨z49z0⟩, ⟨z49z2⟩, ⟨z49z1⟩⟩
       case rest =>
        clear HC40
        try clear c1
        try clear c2
        try clear p2
        try clear c3
        try clear c4
        try clear c6
        try clear c7
        try clear c9
        try clear c10
        try clear c12
        try clear c12b0
        try clear c12b1
        try clear c13
        try clear c14
        try clear c16
        try clear c16b0
        try clear c16b1
        try clear c19
        try clear c20
        try clear c22
        try clear c22b0
        try clear c22b1
        try clear c25
        try clear c26
        try clear c28
        try clear c28b0
        try clear c28b1
        try clear c31
        try clear c32
        try clear c34
        try clear c34b0
        try clear c34b1
        try clear c37
        try clear c38
        try clear c41
        try clear c41b0
        try clear c41b1
        try clear hcz11_0
        try clear hcz11_1
        try clear hcz11_2
        try clear hcz11_3
        try clear hcz15_0
        try clear hcz15_1
        try clear hcz15_2
        try clear hcz15_3
        try clear hcz21_0
        try clear hcz21_1
        try clear hcz21_2
        try clear hcz21_3
        try clear hcz27_0
        try clear hcz27_1
        try clear hcz27_2
        try clear hcz27_3
        try clear hcz33_0
        try clear hcz33_1
        try clear hcz33_2
        try clear hcz33_3
        try clear hcz39_0
        try clear hcz39_1
        try clear hcz39_2
        try clear hcz39_3
        try clear hfz11_0
        try clear hfz11_1
        try clear hfz11_2
        try clear hfz11_3
        try clear hfz15_0
        try clear hfz15_1
        try clear hfz15_2
        try clear hfz15_3
        try clear hfz21_0
        try clear hfz21_1
        try clear hfz21_2
        try clear hfz21_3
        try clear hfz27_0
        try clear hfz27_1
        try clear hfz27_2
        try clear hfz27_3
        try clear hfz33_0
        try clear hfz33_1
        try clear hfz33_2
        try clear hfz33_3
        try clear hfz39_0
        try clear hfz39_1
        try clear hfz39_2
        try clear hfz39_3
        obtain ⟨kq, x42_39, rfl, HA, HJ39, BK101, BK107, HI102, HB⟩ := hcut
        cases kq with
        | zero => exact absurd HA.out (by simp [pouchref06_Next.j0])
        | succ kj39 =>
         have H := HA.out
         clear HA
         simp only [pouchref06_Next.j0] at H
         by_cases c42 : x42_39 = true
         ·subst c42
          have H1 : ((pouchref01_Reader_Bin.f kj39 t104 t105 t106).bind fun bt125 => (pouchref06_Next.j1 kj39 bt125.2.1 bt125.2.2.1 bt125.2.2.2 ((t103) % 256) 0 bt125.1 (⟨#[]⟩ : ByteArray))) = some (r1, r2, r3, r4, r5) := by rw [if_pos rfl] at H; exact H
          clear H
          have H := H1
          clear H1
          replace H := Option.bind_eq_some_iff.mp H
          obtain ⟨⟨t125, t126, t127, t128⟩, A430, H⟩ := H
          replace H : (pouchref06_Next.j1 kj39 t126 t127 t128 ((t103) % 256) 0 t125 (⟨#[]⟩ : ByteArray)) = some (r1, r2, r3, r4, r5) := H
          have A43 := Aside0.mk A430
          clear A430
          have H' := Aside0.mk H
          clear H
          go_wp2_with (first | ((with_reducible refine gate_callee (f := 77) rfl ?_); refine goesL_ (some 46) rfl rfl Tryd.func77 (by kernel_rfl) rfl #[.pointer (some ⟨gb102, 0, none⟩)] rfl y2_ ?_; (with_reducible refine (pouchref01_Reader_Bin.calls kj39 gb102 t104 t105 t106 t125 t126 t127 t128 w _ ?side1 ?side2 A43.out).mono ?_); (case side1 => exact z49z2); (case side2 => exact z49z1); rintro e w44 ⟨rfl, hi, hb, hk⟩; refine ⟨_, rfl, ?_⟩; have n0_ := Aside0.mk (KeepBut.blk hk (g' := gb101) (o := .cells #[.int .u8 0, .int .u32 0, .string (⟨#[]⟩ : ByteArray), .string (⟨#[]⟩ : ByteArray)] 58 (0, 0)) y3_ NB101_102.out (by simp)); have n1_ := Aside0.mk (KeepBut.blk hk (g' := gb107) (o := .cells #[.int .u8 ((t103) % 256), .int .u32 0, .string (⟨#[]⟩ : ByteArray), .string (⟨#[]⟩ : ByteArray)] 58 (0, 0)) z49z8 NB107_102.out (by simp)); have n2_ := Aside0.mk (hb); have n3_ := Aside0.mk (hi); replace BK101 := n0_; replace BK107 := n1_; replace HB := n2_; replace HI102 := n3_; clear n0_ n1_ n2_ n3_; clear hb hk hi; have hnb45 := NB107_101.out; have hnc45 := NB101_107.out; have hnb46 := NB107_102.out; have hnc46 := NB102_107.out; obtain ⟨hcz47_0, hcz47_1, hcz47_2, hcz47_3⟩ := ccs4_ BK107.out; obtain ⟨hfz47_0, hfz47_1, hfz47_2, hfz47_3⟩ := fzs4_ BK107.out))
          go_meet
          case rel => exact ⟨_, (0), (0), ((⟨#[]⟩ : ByteArray)), ((⟨#[]⟩ : ByteArray)), (t126), (t127), (t128), (0), (t125), ((⟨#[]⟩ : ByteArray)), H', ⟨z49z11⟩, ⟨z49z4⟩, ⟨z49z9⟩, ⟨z49z2⟩, ⟨z49z1⟩⟩
         ·replace c42 := Bool.eq_false_iff.mpr c42
          subst c42
          replace H : (if t108 = 7 then ((pouchref01_Reader_Bin.f kj39 t104 t105 t106).bind fun bt129 => ((pouchref01_Reader_Bin.f kj39 bt129.2.1 bt129.2.2.1 bt129.2.2.2).bind fun bt133 => (pouchref06_Next.j1 kj39 bt133.2.1 bt133.2.2.1 bt133.2.2.2 ((t103) % 256) 0 bt129.1 bt133.1))) else (pouchref06_Next.j1 kj39 t104 t105 t106 ((t103) % 256) 0 (⟨#[]⟩ : ByteArray) (⟨#[]⟩ : ByteArray))) = some (r1, r2, r3, r4, r5) := by rw [if_neg (show ¬ (false = true) by decide)] at H; exact H
          by_cases c48 : t108 = 7
          ·rw [if_pos c48] at H
           obtain ⟨c48b0, c48b1⟩ := eqt_ c48
           clear c48
           replace H := Option.bind_eq_some_iff.mp H
           obtain ⟨⟨t129, t130, t131, t132⟩, A490, H⟩ := H
           try dsimp -simprocs only at H
           have A49 := Aside0.mk A490
           clear A490
           replace H := Option.bind_eq_some_iff.mp H
           obtain ⟨⟨t133, t134, t135, t136⟩, A500, H⟩ := H
           replace H : (pouchref06_Next.j1 kj39 t134 t135 t136 ((t103) % 256) 0 t129 t133) = some (r1, r2, r3, r4, r5) := H
           have A50 := Aside0.mk A500
           clear A500
           have H' := Aside0.mk H
           clear H
           go_wp2_with (first | ((with_reducible refine gate_callee (f := 77) rfl ?_); refine goesL_ (some 51) rfl rfl Tryd.func77 (by kernel_rfl) rfl #[.pointer (some ⟨gb102, 0, none⟩)] rfl y2_ ?_; (with_reducible refine (pouchref01_Reader_Bin.calls kj39 gb102 t104 t105 t106 t129 t130 t131 t132 w _ ?side1 ?side2 A49.out).mono ?_); (case side1 => exact z49z2); (case side2 => exact z49z1); rintro e w51 ⟨rfl, hi, hb, hk⟩; refine ⟨_, rfl, ?_⟩; have n0_ := Aside0.mk (KeepBut.blk hk (g' := gb101) (o := .cells #[.int .u8 0, .int .u32 0, .string (⟨#[]⟩ : ByteArray), .string (⟨#[]⟩ : ByteArray)] 58 (0, 0)) y3_ NB101_102.out (by simp)); have n1_ := Aside0.mk (KeepBut.blk hk (g' := gb107) (o := .cells #[.int .u8 ((t103) % 256), .int .u32 0, .string (⟨#[]⟩ : ByteArray), .string (⟨#[]⟩ : ByteArray)] 58 (0, 0)) z49z8 NB107_102.out (by simp)); have n2_ := Aside0.mk (hb); have n3_ := Aside0.mk (hi); replace BK101 := n0_; replace BK107 := n1_; replace HB := n2_; replace HI102 := n3_; clear n0_ n1_ n2_ n3_; clear hb hk hi; have hnb52 := NB107_101.out; have hnc52 := NB101_107.out; have hnb53 := NB107_102.out; have hnc53 := NB102_107.out; obtain ⟨hcz54_0, hcz54_1, hcz54_2, hcz54_3⟩ := ccs4_ BK107.out; obtain ⟨hfz54_0, hfz54_1, hfz54_2, hfz54_3⟩ := fzs4_ BK107.out) | ((with_reducible refine gate_callee (f := 77) rfl ?_); refine goesL_ (some 54) rfl rfl Tryd.func77 (by kernel_rfl) rfl #[.pointer (some ⟨gb102, 0, none⟩)] rfl y2_ ?_; (with_reducible refine (pouchref01_Reader_Bin.calls kj39 gb102 t130 t131 t132 t133 t134 t135 t136 w _ ?side1 ?side2 A50.out).mono ?_); (case side1 => exact z49z2); (case side2 => exact z49z1); rintro e w55 ⟨rfl, hi, hb, hk⟩; refine ⟨_, rfl, ?_⟩; have n0_ := Aside0.mk (KeepBut.blk hk (g' := gb101) (o := .cells #[.int .u8 0, .int .u32 0, .string (⟨#[]⟩ : ByteArray), .string (⟨#[]⟩ : ByteArray)] 58 (0, 0)) z49z4 NB101_102.out (by simp)); have n1_ := Aside0.mk (KeepBut.blk hk (g' := gb107) (o := .cells #[.int .u8 ((t103) % 256), .int .u32 0, .string t129, .string (⟨#[]⟩ : ByteArray)] 58 (0, 0)) z49z9 NB107_102.out (by simp)); have n2_ := Aside0.mk (hb); have n3_ := Aside0.mk (hi); replace BK101 := n0_; replace BK107 := n1_; replace HB := n2_; replace HI102 := n3_; clear n0_ n1_ n2_ n3_; clear hb hk hi; obtain ⟨hcz56_0, hcz56_1, hcz56_2, hcz56_3⟩ := ccs4_ BK107.out; obtain ⟨hfz56_0, hfz56_1, hfz56_2, hfz56_3⟩ := fzs4_ BK107.out))
           go_meet
           case rel => exact ⟨_, (0), (0), ((⟨#[]⟩ : ByteArray)), ((⟨#[]⟩ : ByteArray)), (t134), (t135), (t136), (0), (t129), (t133), H', ⟨z49z11⟩, ⟨z49z4⟩, ⟨by (with_reducible repeat (first | refine blk_drewN ?_ _ | refine blk_drew ?_ | refine blk_alloc ?_ _)); refine blk_put (cs := #[.int .u8 ((t103) % 256), .int .u32 0, .string t129, .string (⟨#[]⟩ : ByteArray)]) ?_ 3 _ rfl; (with_reducible repeat (first | refine blk_drewN ?_ _ | refine blk_drew ?_ | refine blk_alloc ?_ _)); exact BK107.out⟩, ⟨z49z2⟩, ⟨z49z1⟩⟩
          ·rw [if_neg c48] at H
           obtain ⟨c48b0, c48b1⟩ := eqf_ c48
           have H' := Aside0.mk H
           clear H
           go_wp2
           go_meet
           case rel => exact ⟨_, (0), (0), ((⟨#[]⟩ : ByteArray)), ((⟨#[]⟩ : ByteArray)), (t104), (t105), (t106), (0), ((⟨#[]⟩ : ByteArray)), ((⟨#[]⟩ : ByteArray)), H', ⟨z49z11⟩, ⟨y3_⟩, ⟨z49z8⟩, ⟨z49z2⟩, ⟨z49z1⟩⟩
 case rest =>
  clear HC4
  try clear c1
  try clear c2
  try clear p2
  try clear c3
  try clear c4
  try clear c5
  try clear c6
  try clear c7
  try clear c9
  try clear c10
  try clear c12
  try clear c12b0
  try clear c12b1
  try clear c13
  try clear c14
  try clear c16
  try clear c16b0
  try clear c16b1
  try clear c19
  try clear c20
  try clear c22
  try clear c22b0
  try clear c22b1
  try clear c25
  try clear c26
  try clear c28
  try clear c28b0
  try clear c28b1
  try clear c31
  try clear c32
  try clear c34
  try clear c34b0
  try clear c34b1
  try clear c37
  try clear c38
  try clear c41
  try clear c41b0
  try clear c41b1
  try clear c42
  try clear c45
  try clear c46
  try clear c48
  try clear c48b0
  try clear c48b1
  try clear c49
  try clear c52
  try clear c53
  try clear hcz11_0
  try clear hcz11_1
  try clear hcz11_2
  try clear hcz11_3
  try clear hcz15_0
  try clear hcz15_1
  try clear hcz15_2
  try clear hcz15_3
  try clear hcz21_0
  try clear hcz21_1
  try clear hcz21_2
  try clear hcz21_3
  try clear hcz27_0
  try clear hcz27_1
  try clear hcz27_2
  try clear hcz27_3
  try clear hcz33_0
  try clear hcz33_1
  try clear hcz33_2
  try clear hcz33_3
  try clear hcz39_0
  try clear hcz39_1
  try clear hcz39_2
  try clear hcz39_3
  try clear hcz47_0
  try clear hcz47_1
  try clear hcz47_2
  try clear hcz47_3
  try clear hcz54_0
  try clear hcz54_1
  try clear hcz54_2
  try clear hcz54_3
  try clear hcz56_0
  try clear hcz56_1
  try clear hcz56_2
  try clear hcz56_3
  try clear hfz11_0
  try clear hfz11_1
  try clear hfz11_2
  try clear hfz11_3
  try clear hfz15_0
  try clear hfz15_1
  try clear hfz15_2
  try clear hfz15_3
  try clear hfz21_0
  try clear hfz21_1
  try clear hfz21_2
  try clear hfz21_3
  try clear hfz27_0
  try clear hfz27_1
  try clear hfz27_2
  try clear hfz27_3
  try clear hfz33_0
  try clear hfz33_1
  try clear hfz33_2
  try clear hfz33_3
  try clear hfz39_0
  try clear hfz39_1
  try clear hfz39_2
  try clear hfz39_3
  try clear hfz47_0
  try clear hfz47_1
  try clear hfz47_2
  try clear hfz47_3
  try clear hfz54_0
  try clear hfz54_1
  try clear hfz54_2
  try clear hfz54_3
  try clear hfz56_0
  try clear hfz56_1
  try clear hfz56_2
  try clear hfz56_3
  try clear p2
  obtain ⟨kq, x102000_3, x102001_3, x102002_3, x102003_3, x103000_3, x103001_3, x103002_3, x108001_3, x108002_3, x108003_3, HA, HJ3, BK101, BK107, HI102, HB⟩ := hcut
  cases kq with
  | zero => exact absurd HA.out (by simp [pouchref06_Next.j1])
  | succ kj3 =>
   have H := HA.out
   clear HA
   simp only [pouchref06_Next.j1] at H
   by_cases c57 : x103002_3 = 0
   ·rw [if_pos c57] at H
    obtain ⟨c57b0, c57b1⟩ := eqt_ c57
    clear c57
    replace H := Option.bind_eq_some_iff.mp H
    obtain ⟨t137, A580, H⟩ := H
    try dsimp -simprocs only at H
    have A58 := Aside0.mk A580
    clear A580
    by_cases c59 : t137 = true
    ·subst c59
     have H1 : (some (((t103) % 256), x108001_3, x108002_3, x108003_3, x103001_3)) = some (r1, r2, r3, r4, r5) := by rw [if_pos rfl] at H; exact H
     clear H
     have H := H1
     clear H1
     simp only [Option.some.injEq, Prod.mk.injEq] at H
     obtain ⟨rfl, rfl, rfl, rfl, rfl⟩ := H
     obtain ⟨HGz60, hgz60⟩ := HI102.out
     have hcz60_0 := cellS45_0 HGz60
     have hcz60_1 := cellS45_1 HGz60
     have hcz60_2 := cellS45_2 HGz60
     have hfz60_0 := blk_frozen HGz60 0
     have hfz60_1 := blk_frozen HGz60 1
     have hfz60_2 := blk_frozen HGz60 2
     clear HGz60 hgz60
     have hnb61 := NB107_101.out
     have hnc61 := NB101_107.out
     have hnb62 := NB107_102.out
     have hnc62 := NB102_107.out
     obtain ⟨hcz63_0, hcz63_1, hcz63_2, hcz63_3⟩ := ccs4_ BK107.out
     obtain ⟨hfz63_0, hfz63_1, hfz63_2, hfz63_3⟩ := fzs4_ BK107.out
     try go_wp2_with (first | (go_at_call 38; (with_reducible refine (pouchref05_Right.calls kj3 ((t103) % 256) x108001_3 x108002_3 x108003_3 true _ A58.out).mono ?_); rintro e w64 ⟨rfl, hb⟩; have n0_ := Aside0.mk (blk_below (g := gb101) (o := .cells #[.int .u8 x102000_3, .int .u32 x102001_3, .string x102002_3, .string x102003_3] 58 (0, 0)) y3_ hb); have n1_ := Aside0.mk (blk_below (g := gb107) (o := .cells #[.int .u8 ((t103) % 256), .int .u32 x108001_3, .string x108002_3, .string x108003_3] 58 (0, 0)) z49z8 hb); have n2_ := Aside0.mk (IsS45.below z49z2 hb); have n3_ := Aside0.mk (below_step z49z1 hb); replace BK101 := n0_; replace BK107 := n1_; replace HI102 := n2_; replace HB := n3_; clear n0_ n1_ n2_ n3_; clear hb))
     have n0_ := Aside0.mk (blk_drew BK101.out)
     have n1_ := Aside0.mk (blk_drew BK107.out)
     have n2_ := Aside0.mk (IsS45.drew HI102.out)
     have n3_ := Aside0.mk (below_drew1 HB.out)
     clear BK101
     clear BK107
     clear HI102
     clear HB
     have BK101 := n0_
     have BK107 := n1_
     have HI102 := n2_
     have HB := n3_
     clear n0_ n1_ n2_ n3_
     refine start_ (n := 7) (S := fun w' => w'.cell? ⟨gb107, 0, none⟩ = some (.int .u8 ((t103) % 256)) ∧ w'.cell? ⟨gb107, 1, none⟩ = some (.int .u32 x108001_3) ∧ w'.cell? ⟨gb107, 2, none⟩ = some (.string x108002_3) ∧ w'.cell? ⟨gb107, 3, none⟩ = some (.string x108003_3) ∧ w'.cell? ⟨gb102, 0, none⟩ = some (.string x103000_3) ∧ w'.cell? ⟨gb102, 1, none⟩ = some (.int .i64 x103001_3) ∧ w'.cell? ⟨gb102, 2, none⟩ = some (.int .i64 x103002_3)) (ds := []) (ba 7 0) (by kernel_rfl) rfl rfl ⟨(blk_cell BK107.out 0).trans rfl, (blk_cell BK107.out 1).trans rfl, (blk_cell BK107.out 2).trans rfl, (blk_cell BK107.out 3).trans rfl, (blk_cell (Aside0.mk HI102.out.1).out 0).trans rfl, (blk_cell (Aside0.mk HI102.out.1).out 1).trans rfl, (blk_cell (Aside0.mk HI102.out.1).out 2).trans rfl⟩ (fun hHeld => ?_)
     generalize w64.drew = w65 at BK101 BK107 HI102 HB hHeld ⊢
     refine pure_ (i := 1) (N := some 68) (v := ?_) (a' := ?_) (ba 7 2) rfl rfl (by kernel_rfl) (fun _ _ _ h => h) (Or.inl ⟨by rfl, ?_⟩) ?_ ?_
     rotate_left
     ·intro w'
      go_simp
      with_reducible rfl
     rotate_left
     ·simp only [Act.put, List.setIfInBounds_toArray, List.set_cons_zero, List.set_cons_succ, i64_w, i32_w]
      rfl
     refine pure_ (i := 2) (N := some 69) (v := ?_) (a' := ?_) (ba 7 6) rfl rfl (by kernel_rfl) (fun _ _ _ h => h) (Or.inl ⟨by rfl, ?_⟩) ?_ ?_
     rotate_left
     ·intro w'
      go_simp
      with_reducible rfl
     rotate_left
     ·simp only [Act.put, List.setIfInBounds_toArray, List.set_cons_zero, List.set_cons_succ, i64_w, i32_w]
      rfl
     refine pure_ (i := 3) (N := some 70) (v := ?_) (a' := ?_) (ba 7 14) rfl rfl (by kernel_rfl) (fun _ _ _ h => h) (Or.inl ⟨by rfl, ?_⟩) ?_ ?_
     rotate_left
     ·intro w'
      go_simp
      with_reducible rfl
     rotate_left
     ·simp only [Act.put, List.setIfInBounds_toArray, List.set_cons_zero, List.set_cons_succ, i64_w, i32_w]
      rfl
     refine take_ (i := 0) (N := some 67) (v := ?_) (a' := ?_) (ba 7 15) rfl rfl (by kernel_rfl) (fun _ _ _ h => h) (Or.inl ⟨by rfl, ?_⟩) hHeld ?_ ?_
     rotate_left
     ·rintro w' ⟨s0, s1, s2, s3, s4, s5, s6⟩
      go_simp
      with_reducible rfl
     rotate_left
     ·simp only [Act.put, List.setIfInBounds_toArray, List.set_cons_zero, List.set_cons_succ, i64_w, i32_w]
      rfl
     refine take_ (i := 4) (N := some 71) (v := ?_) (a' := ?_) (ba 7 31) rfl rfl (by kernel_rfl) (fun _ _ _ h => h) (Or.inl ⟨by rfl, ?_⟩) hHeld ?_ ?_
     rotate_left
     ·rintro w' ⟨s0, s1, s2, s3, s4, s5, s6⟩
      go_simp
      with_reducible rfl
     rotate_left
     ·simp only [Act.put, List.setIfInBounds_toArray, List.set_cons_zero, List.set_cons_succ, i64_w, i32_w]
      rfl
     refine one_ (i := 5) (N := none) (ba 7 63) rfl rfl (by kernel_rfl) (by decide) (fun K hK => ?_)
     have hs66 : w65.cell? ⟨gb101, 0, none⟩ = some (.int .u8 x102000_3) := (blk_cell BK101.out 0).trans rfl
     have hfs66 := blk_frozen BK101.out 0
     have hns66_1 := NB107_101.out
     have hms66_1 := NB101_107.out
     have hs67 : w65.cell? ⟨gb101, 1, none⟩ = some (.int .u32 x102001_3) := (blk_cell BK101.out 1).trans rfl
     have hfs67 := blk_frozen BK101.out 1
     have hns67_1 := NB107_101.out
     have hms67_1 := NB101_107.out
     have hs68 : w65.cell? ⟨gb101, 2, none⟩ = some (.string x102002_3) := (blk_cell BK101.out 2).trans rfl
     have hfs68 := blk_frozen BK101.out 2
     have hns68_1 := NB107_101.out
     have hms68_1 := NB101_107.out
     have hs69 : w65.cell? ⟨gb101, 3, none⟩ = some (.string x102003_3) := (blk_cell BK101.out 3).trans rfl
     have hfs69 := blk_frozen BK101.out 3
     have hns69_1 := NB107_101.out
     have hms69_1 := NB101_107.out
     refine skip_ (w1 := ?_) (by rfl) rfl ?_ ?_
     rotate_left
     ·go_simp
      rfl
     refine hK.out _ _ ⟨((cell_far (p := ⟨gb101, _, none⟩) NB107_101.out _).trans (((cell_far (p := ⟨gb101, _, none⟩) NB107_101.out _).trans (((cell_far (p := ⟨gb101, _, none⟩) NB107_101.out _).trans (((cell_far (p := ⟨gb101, _, none⟩) NB107_101.out _).trans (hHeld.1)))))))), ((cell_far (p := ⟨gb101, _, none⟩) NB107_101.out _).trans (((cell_far (p := ⟨gb101, _, none⟩) NB107_101.out _).trans (((cell_far (p := ⟨gb101, _, none⟩) NB107_101.out _).trans (((cell_far (p := ⟨gb101, _, none⟩) NB107_101.out _).trans (hHeld.2.1)))))))), ((cell_far (p := ⟨gb101, _, none⟩) NB107_101.out _).trans (((cell_far (p := ⟨gb101, _, none⟩) NB107_101.out _).trans (((cell_far (p := ⟨gb101, _, none⟩) NB107_101.out _).trans (((cell_far (p := ⟨gb101, _, none⟩) NB107_101.out _).trans (hHeld.2.2.1)))))))), ((cell_far (p := ⟨gb101, _, none⟩) NB107_101.out _).trans (((cell_far (p := ⟨gb101, _, none⟩) NB107_101.out _).trans (((cell_far (p := ⟨gb101, _, none⟩) NB107_101.out _).trans (((cell_far (p := ⟨gb101, _, none⟩) NB107_101.out _).trans (hHeld.2.2.2.1)))))))), ((cell_far (p := ⟨gb101, _, none⟩) NB102_101.out _).trans (((cell_far (p := ⟨gb101, _, none⟩) NB102_101.out _).trans (((cell_far (p := ⟨gb101, _, none⟩) NB102_101.out _).trans (((cell_far (p := ⟨gb101, _, none⟩) NB102_101.out _).trans (hHeld.2.2.2.2.1)))))))), ((cell_far (p := ⟨gb101, _, none⟩) NB102_101.out _).trans (((cell_far (p := ⟨gb101, _, none⟩) NB102_101.out _).trans (((cell_far (p := ⟨gb101, _, none⟩) NB102_101.out _).trans (((cell_far (p := ⟨gb101, _, none⟩) NB102_101.out _).trans (hHeld.2.2.2.2.2.1)))))))), ((cell_far (p := ⟨gb101, _, none⟩) NB102_101.out _).trans (((cell_far (p := ⟨gb101, _, none⟩) NB102_101.out _).trans (((cell_far (p := ⟨gb101, _, none⟩) NB102_101.out _).trans (((cell_far (p := ⟨gb101, _, none⟩) NB102_101.out _).trans (hHeld.2.2.2.2.2.2))))))))⟩ (fun hHeld => ?_)
     clear hK K
     refine pure_ (i := 6) (N := some 3) (v := ?_) (a' := ?_) (ba 7 127) rfl rfl (by kernel_rfl) (fun _ _ _ h => h) (Or.inl ⟨by rfl, ?_⟩) ?_ ?_
     rotate_left
     ·intro w'
      go_simp
      with_reducible rfl
     rotate_left
     ·simp only [Act.put, List.setIfInBounds_toArray, List.set_cons_zero, List.set_cons_succ, i64_w, i32_w]
      rfl
     refine done_ (by kernel_rfl) ?_
     try go_wp2
     refine bodyPost_ret (results_ct rfl _ _ gb101 58 #[.int .u8 ((t103) % 256), .int .u32 x108001_3, .string x108002_3, .string x108003_3] (0, 0) _ rfl (by (with_reducible repeat (first | refine blk_drewN ?_ _ | refine blk_drew ?_ | refine blk_alloc ?_ _)); refine blk_put (cs := #[.int .u8 ((t103) % 256), .int .u32 x108001_3, .string x108002_3, .string x102003_3]) ?_ 3 _ rfl; (with_reducible repeat (first | refine blk_drewN ?_ _ | refine blk_drew ?_ | refine blk_alloc ?_ _)); refine blk_put (cs := #[.int .u8 ((t103) % 256), .int .u32 x108001_3, .string x102002_3, .string x102003_3]) ?_ 2 _ rfl; (with_reducible repeat (first | refine blk_drewN ?_ _ | refine blk_drew ?_ | refine blk_alloc ?_ _)); refine blk_put (cs := #[.int .u8 ((t103) % 256), .int .u32 x102001_3, .string x102002_3, .string x102003_3]) ?_ 1 _ rfl; (with_reducible repeat (first | refine blk_drewN ?_ _ | refine blk_drew ?_ | refine blk_alloc ?_ _)); refine blk_put (cs := #[.int .u8 x102000_3, .int .u32 x102001_3, .string x102002_3, .string x102003_3]) ?_ 0 _ rfl; (with_reducible repeat (first | refine blk_drewN ?_ _ | refine blk_drew ?_ | refine blk_alloc ?_ _)); exact BK101.out) Tryd.underlying58 rfl (by kernel_rfl)) rfl ?_
     exact ⟨y4_, z49z1⟩
    ·replace c59 := Bool.eq_false_iff.mpr c59
     subst c59
     replace H : (some (0, 0, (⟨#[]⟩ : ByteArray), (⟨#[]⟩ : ByteArray), 0)) = some (r1, r2, r3, r4, r5) := by rw [if_neg (show ¬ (false = true) by decide)] at H; exact H
     simp only [Option.some.injEq, Prod.mk.injEq] at H
     obtain ⟨rfl, rfl, rfl, rfl, rfl⟩ := H
     obtain ⟨HGz70, hgz70⟩ := HI102.out
     have hcz70_0 := cellS45_0 HGz70
     have hcz70_1 := cellS45_1 HGz70
     have hcz70_2 := cellS45_2 HGz70
     have hfz70_0 := blk_frozen HGz70 0
     have hfz70_1 := blk_frozen HGz70 1
     have hfz70_2 := blk_frozen HGz70 2
     clear HGz70 hgz70
     have hnb71 := NB107_101.out
     have hnc71 := NB101_107.out
     have hnb72 := NB107_102.out
     have hnc72 := NB102_107.out
     obtain ⟨hcz73_0, hcz73_1, hcz73_2, hcz73_3⟩ := ccs4_ BK107.out
     obtain ⟨hfz73_0, hfz73_1, hfz73_2, hfz73_3⟩ := fzs4_ BK107.out
     go_wp2_with (first | (go_at_call 38; (with_reducible refine (pouchref05_Right.calls kj3 ((t103) % 256) x108001_3 x108002_3 x108003_3 false _ A58.out).mono ?_); rintro e w74 ⟨rfl, hb⟩; have n0_ := Aside0.mk (blk_below (g := gb101) (o := .cells #[.int .u8 x102000_3, .int .u32 x102001_3, .string x102002_3, .string x102003_3] 58 (0, 0)) y3_ hb); have n1_ := Aside0.mk (blk_below (g := gb107) (o := .cells #[.int .u8 ((t103) % 256), .int .u32 x108001_3, .string x108002_3, .string x108003_3] 58 (0, 0)) z49z8 hb); have n2_ := Aside0.mk (IsS45.below z49z2 hb); have n3_ := Aside0.mk (below_step z49z1 hb); replace BK101 := n0_; replace BK107 := n1_; replace HI102 := n2_; replace HB := n3_; clear n0_ n1_ n2_ n3_; clear hb; have hnb75 := NB101_102.out; have hnc75 := NB102_101.out; obtain ⟨hcz76_0, hcz76_1, hcz76_2, hcz76_3⟩ := ccs4_ BK101.out; obtain ⟨hfz76_0, hfz76_1, hfz76_2, hfz76_3⟩ := fzs4_ BK101.out))
     refine bodyPost_ret (results_ct rfl _ _ gb101 58 #[.int .u8 0, .int .u32 0, .string (⟨#[]⟩ : ByteArray), .string (⟨#[]⟩ : ByteArray)] (0, 0) _ rfl z49z6 Tryd.underlying58 rfl (by kernel_rfl)) rfl ?_
     exact ⟨y4_, z49z1⟩
   ·rw [if_neg c57] at H
    obtain ⟨c57b0, c57b1⟩ := eqf_ c57
    simp only [Option.some.injEq, Prod.mk.injEq] at H
    obtain ⟨rfl, rfl, rfl, rfl, rfl⟩ := H
    obtain ⟨HGz77, hgz77⟩ := HI102.out
    have hcz77_0 := cellS45_0 HGz77
    have hcz77_1 := cellS45_1 HGz77
    have hcz77_2 := cellS45_2 HGz77
    have hfz77_0 := blk_frozen HGz77 0
    have hfz77_1 := blk_frozen HGz77 1
    have hfz77_2 := blk_frozen HGz77 2
    clear HGz77 hgz77
    have hnb78 := NB101_107.out
    have hnc78 := NB107_101.out
    have hnb79 := NB101_102.out
    have hnc79 := NB102_101.out
    obtain ⟨hcz80_0, hcz80_1, hcz80_2, hcz80_3⟩ := ccs4_ BK101.out
    obtain ⟨hfz80_0, hfz80_1, hfz80_2, hfz80_3⟩ := fzs4_ BK101.out
    go_wp2
    refine bodyPost_ret (results_ct rfl _ _ gb101 58 #[.int .u8 0, .int .u32 0, .string (⟨#[]⟩ : ByteArray), .string (⟨#[]⟩ : ByteArray)] (0, 0) _ rfl z49z6 Tryd.underlying58 rfl (by kernel_rfl)) rfl ?_
    exact ⟨y4_, z49z1⟩
end Go.Proofs.YtkmkgpigmldhnaaDoor.P
namespace Go.Proofs.YtkmkgpigmldhnaaDoor.Pr
open Go Go.RowKit Go.Lib Go.Proofs.YtkmkgpigmldhnaaDoorW.PrintWords Go.Proofs.YtkmkgpigmldhnaaDoorW.PrintLast Go.Proofs.YtkmkgpigmldhnaaDoorW.PrintMore
open Go.Proofs.YtkmkgpigmldhnaaDoor.P
def emp : ByteArray := ⟨#[]⟩
theorem now {α : Type} {f : Nat → Option α} {r : α} (h : ∀ k, f k = some r) : Ev f r := Ev.congr (f := fun _ => some r) h (Ev.now r)
end Go.Proofs.YtkmkgpigmldhnaaDoor.Pr
namespace Go.Proofs.YtkmkgpigmldhnaaDoor.P
open Go.RowKit Go.Shelf Go.Lib Go.Proofs.YtkmkgpigmldhnaaDoorW.PrintWords Go.Proofs.YtkmkgpigmldhnaaDoorW.PrintLast Go.Proofs.YtkmkgpigmldhnaaDoorW.PrintMore
open Go.Proofs.YtkmkgpigmldhnaaDoor.Rg
attribute [local go_sem] Oper.semAt_some
def cvR (p : S60) : S58 := ⟨p.f0, p.f1, p.f2, p.f3⟩
def encR (x : S58) : List Value := [.int .u8 x.f0, .int .u32 x.f1, .string x.f2, .string x.f3]
def eachO (most : Int) : List EP → List S58 → List S58 × Bool
 | [], acc => (acc, true)
 | (p, ok) :: r, acc => if ok = true then (if (acc.length : Int) ≥ most then (acc, true) else eachO most r (acc ++ [cvR p])) else (acc, false)
def EachI (w : World) (most : Int) (L : List EP) (pre : List EP) (W : World) : Prop :=
 W.heap[w.heap.size]? = some (.cells #[.int .i64 most] 3 (0, 0)) ∧ W.heap[w.heap.size + 1]? = some (.cells #[.slice none 0 0] 22 (0, 0)) ∧ W.heap[w.heap.size + 2]? = some (.cells #[.bool false] 4 (0, 0)) ∧
 (∃ v, W.heap[w.heap.size + 3]? = some (.cells #[v] 22 (0, 0)) ∧ Kd.R k58 58 W w.heap.size (fun _ => True) v (pre.map (fun x => cvR x.1))) ∧
 (∀ rest, L = pre ++ rest → eachO most L [] = eachO most rest (pre.map (fun x => cvR x.1))) ∧ Below w.heap.size w W
def EachX (w : World) (most : Int) (L : List EP) (_pre : List EP) (W : World) : Prop :=
 (∃ v, W.heap[w.heap.size + 1]? = some (.cells #[v] 22 (0, 0)) ∧ Kd.R k58 58 W w.heap.size (fun _ => True) v (eachO most L []).1) ∧ W.heap[w.heap.size + 2]? = some (.cells #[.bool (eachO most L []).2] 4 (0, 0)) ∧ Below w.heap.size w W
theorem own_specialR {W W' : World} {base : Nat} {ok : Nat → Prop} {v : Value} {xs : List S58} {row : Option Nat} {T : Nat} (h : Kd.R k58 58 W base ok v xs) (hg : W.grownBy W' row) (hr : ∀ r, row = some r → ∃ o, W.heap[r]? = some o ∧ Sp T o) (hT : 58 ≠ T) : Kd.R k58 58 W' base ok v xs := by
 refine Kd.R_mono (Kd.R_move (Kd.R_bound h) (fun k hk => hg.block k hk.2.2.1 (fun e => ?_))) (fun _ hk => hk.1)
 obtain ⟨o, ho, hs⟩ := hr k e.symm
 obtain ⟨_, _, _, q, hq, cells, hc⟩ := hk
 rw [ho] at hc
 obtain rfl := Option.some.inj hc
 rcases hs with hs | ⟨cs, hs⟩
 ·cases hs
 ·injection hs with _ hs
  have : q = 58 := by
   rcases List.mem_cons.1 hq with h1 | h1
   ·exact h1
   ·have hE : k58.E = [] := rfl
    rw [hE] at h1; cases h1
  exact hT (this ▸ hs)
theorem own_moreR {W w1 : World} {base : Nat} {ok : Nat → Prop} {v1 : Value} {xs : List S58} {p : S58} {inner : List Value} (hr : Reps (k58.M W base ok) 4 xs inner) (h : w1.ownsRow base 58 4 v1 (xs.length + 1) (inner ++ encR p)) : Kd.R k58 58 w1 base (fun _ => True) v1 (xs ++ [p]) := by
 refine ⟨fun _ _ => trivial, inner ++ encR p, by rw [List.length_append]; exact h, ?_⟩
 exact (hr.imp_ (fun x c hM => by rw [k58_openM hM]; exact k58_mkM _ _ _ x)).snoc (k58_mkM _ _ _ p) rfl
theorem eachI_ab {w : World} {most : Int} {L : List EP} {B : Nat} (pre : List EP) (hB : w.heap.size + 4 ≤ B) : Ab B 78 (EachI w most L pre) := by
 rintro W W' row ⟨h1, h2, h3, ⟨v, h4, h5⟩, h6, h7⟩ hg hr
 have bl : ∀ k o, k < B → W.heap[k]? = some o → W'.heap[k]? = some o := fun k o hk hb => Ab.block (T := 78) o hk W W' row hb hg hr
 exact ⟨bl _ _ (by omega) h1, bl _ _ (by omega) h2, bl _ _ (by omega) h3, ⟨v, bl _ _ (by omega) h4, own_specialR h5 hg (fun r e => (hr r e).2) (by decide)⟩, h6, h7.grown hg h7.size (fun r e => by have := (hr r e).1; omega)⟩
theorem eachX_ab {w : World} {most : Int} {L : List EP} {B : Nat} (pre : List EP) (hB : w.heap.size + 4 ≤ B) : Ab B 78 (EachX w most L pre) := by
 rintro W W' row ⟨⟨v, h1, h2⟩, h3, h7⟩ hg hr
 have bl : ∀ k o, k < B → W.heap[k]? = some o → W'.heap[k]? = some o := fun k o hk hb => Ab.block (T := 78) o hk W W' row hb hg hr
 exact ⟨⟨v, bl _ _ (by omega) h1, own_specialR h2 hg (fun r e => (hr r e).2) (by decide)⟩, bl _ _ (by omega) h3, h7.grown hg h7.size (fun r e => by have := (hr r e).1; omega)⟩
theorem encR_one (x : S58) : ∀ v ∈ encR x, v.oneCell' = true := by
 intro v hv
 simp [encR] at hv
 rcases hv with rfl | rfl | rfl | rfl <;> rfl
theorem box_cellsR (W : World) (t : TypeId) (x : S58) : ∀ (j : Nat) (u : Value), (encR x)[j]? = some u → (W.alloc (.cells #[.int .u8 x.f0, .int .u32 x.f1, .string x.f2, .string x.f3] t)).cell? ((⟨W.heap.size, 0, none⟩ : Addr).add j) = some u := by
 intro j u h
 rw [add_at, Nat.zero_add, blk_cell (heap_alloc_new W _) j]
 simpa [encR] using h
theorem opIn_append_own {F : Fence} {n : Nat} {P : Program} (w : World) {o : Oper} {a : Act} {K : Act → World → Prop} {Q : Exit → Act → World → Prop}
  (s x : Operand) (t : TypeId) (hop : o.op = Op.call { callee := Callee.builtin Builtin.append, args := #[s, x], argTypes := #[t, t] })
  (base : Nat) (e : TypeId) (i : TypeInfo) (z : Value) (size bytes : Nat) (h1 : P.underlying t = some (.slice e)) (h2 : P.info? e = some i) (h3 : i.zero = some z) (h4 : i.size = size) (h5 : i.bytes = bytes) (h6 : z.cells.size = size) (h7 : 0 < size)
  (v : Value) (k : Nat) (xs : List Value) (hs : a.eval s = v) (hown : w.ownsRow base e size v k xs) (ad : Addr) (m c : Nat) (news : List Value) (hx : a.eval x = .slice (some ad) m c) (hn : news.length = m * size)
  (hc : ∀ j u, news[j]? = some u → w.cell? (ad.add j) = some u) (h1c : ∀ u ∈ news, u.oneCell' = true) (b1 : k + m ≤ maxLen) (b2 : (k + m) * bytes ≤ 140737488355328) (b3 : base ≤ w.heap.size)
  (hK : ∀ v' w', w'.ownsRow base e size v' (k + m) (xs ++ news) → w.grownBy w' v.ownBlock → (v' = .slice none 0 0 ↔ v = .slice none 0 0 ∧ m = 0) → K (a.put o.dst v') w') :
  Oper.wpIn F n P o a w K Q := by
 obtain ⟨v', w', hrun, r1, r2, r3⟩ := run_append_own (P := P) w base t o.type e i z size bytes h1 h2 h3 h4 h5 h6 h7 v k xs hown ad m c news hn hc h1c b1 b2 b3
 unfold Oper.wpIn
 refine ⟨?_, ?_⟩
 ·simp [Oper.about, hop, resolve, Target.leads, Sem.run_pure]
 ·rw [Oper.semAt_plain F _ _ (by rw [hop]; intro c hc'; cases hc')]
  simp [execOp, hop, resolve, invoke, builtin, hs, hx, hrun, Result.andThen]
  exact hK _ _ r1 r2 r3
set_option maxRecDepth 1000000 in
theorem each_walk (A : Option Addr) (c : Nat) (l : List Int) (most : Int) (L : List EP) (w : World) (hr : Kd.C (Kd.int .u8) w A l.length l) (hc : l.length ≤ c) (hG : GW w) (hl : l.length < 140737488355328) (hL : EachL (strOfNums l) L) (hLl : L.length < 3518437208832) :
  Calls Tryd.prog 24 #[.slice A l.length c, .int .i64 most] w fun e w' => ∃ v0_ : Value, e = .returned (.tuple #[v0_, .bool (eachO most L []).2]) ∧ Kd.R k58 58 w' w.heap.size (fun _ => True) v0_ (eachO most L []).1 ∧ Below w.heap.size w w' := by
 have hu := Tryd.underlying60
 have he : ∀ (B : Nat) (W : World), (binOp BinOp.eql 84 (.func (.func 72) #[] #[.pointer (some ⟨B, 0, none⟩)]) .nilFunc).run Tryd.prog W = .ok (.bool false) W := fun _ _ => by kernel_rfl
 have HG := Aside0.mk hG
 have HR := Aside0.mk hr
 have HC := Aside0.mk hc
 have HL := Aside0.mk hL
 clear hG hr hc hL
 obtain ⟨w4, hw4⟩ : ∃ w4, w4 = (((w.alloc (.cells #[.int .i64 most] 3)).alloc (.cells #[.slice none 0 0] 22)).alloc (.cells #[.bool false] 4)).alloc (.cells #[.slice none 0 0] 22) := ⟨_, rfl⟩
 have b4 : Below w.heap.size w w4 := by rw [hw4]; exact below_alloc (below_alloc (below_alloc (below_alloc (Below.refl _ _) _) _) _) _
 have s1 : ∀ (u : World) (o : Obj), (u.alloc o).heap.size = u.heap.size + 1 := fun u o => by show (u.heap.push o).size = _; simp
 have x0 : w4.heap[w.heap.size]? = some (.cells #[.int .i64 most] 3 (0, 0)) := by rw [hw4]; exact blk_alloc (blk_alloc (blk_alloc (heap_alloc_new _ _) _) _) _
 have x1 : w4.heap[w.heap.size + 1]? = some (.cells #[.slice none 0 0] 22 (0, 0)) := by rw [hw4]; exact blk_alloc (blk_alloc (by have := heap_alloc_new (w.alloc (.cells #[.int .i64 most] 3)) (.cells #[.slice none 0 0] 22); rwa [s1] at this) _) _
 have x2 : w4.heap[w.heap.size + 2]? = some (.cells #[.bool false] 4 (0, 0)) := by rw [hw4]; exact blk_alloc (by have := heap_alloc_new ((w.alloc (.cells #[.int .i64 most] 3)).alloc (.cells #[.slice none 0 0] 22)) (.cells #[.bool false] 4); rwa [s1, s1] at this) _
 have x3 : w4.heap[w.heap.size + 3]? = some (.cells #[.slice none 0 0] 22 (0, 0)) := by
  rw [hw4]
  have := heap_alloc_new (((w.alloc (.cells #[.int .i64 most] 3)).alloc (.cells #[.slice none 0 0] 22)).alloc (.cells #[.bool false] 4)) (.cells #[.slice none 0 0] 22)
  rwa [s1, s1, s1] at this
 have s4 : w4.heap.size = w.heap.size + 4 := by rw [hw4, s1, s1, s1, s1]
 have X0 := Aside0.mk x0
 have X1 := Aside0.mk x1
 have X2 := Aside0.mk x2
 have X3 := Aside0.mk x3
 have B4 := Aside0.mk b4
 have S4 := Aside0.mk s4
 have W4 := Aside0.mk hw4
 have HR4 := Aside0.mk (Kd.C_below HR.out b4)
 clear x0 x1 x2 x3 b4 s4 hw4
 refine (callsIn_wide (n := 9)).1 ?_
 refine callsIn_of_wp_marks Tryd.func24 rfl trivial ?_ rfl
 simp only [Tryd.ntmps24, List.size_toArray, List.length_cons, List.length_nil, Nat.reduceAdd, Nat.reduceSub, Array.replicate_succ, Array.replicate_zero, List.push_toArray, List.append_toArray, List.nil_append, List.cons_append]
 gi_wp2_with (refine ⟨trivial, ?_⟩; gi_at_call 44; (try rw [← W4.out]); refine (callsIn_wide.2 (props_Each.calls A c l _ HR4.out HC.out hl)).mono ?_; rintro e w5 ⟨B5, A5, c5, rfl, hb5, hc5, hl5, hbel⟩; have HB5 := Aside0.mk hb5; have HC5 := Aside0.mk hc5; have HL5 := Aside0.mk hl5; have HBE := Aside0.mk hbel; clear hb5 hc5 hl5 hbel)
 have hs4 := S4.out
 have s5 := HBE.out.size
 have hI5 : EachI w most L [] w5 := ⟨blk_below X0.out HBE.out, blk_below X1.out HBE.out, blk_below X2.out HBE.out, ⟨_, blk_below X3.out HBE.out, Kd.R_nil _ _ _ _ _⟩, fun rest h => by rw [h]; rfl, below_step B4.out HBE.out⟩
 have HI5 := Aside0.mk hI5
 have hw5 : w.heap.size + 4 ≤ w5.heap.size := by omega
 clear hI5 hs4 s5
 refine range_law (T := 78) (n₀ := w.heap.size) (by omega) rfl (by omega) (gf := 72) (lb := #[.pointer (some ⟨B5, 0, none⟩)]) rfl trivial (enters_of Tryd.func72 (by kernel_rfl) rfl)
  (each_seq 8 B5 A5 c5 l L w w5 HG.out HI5.out.2.2.2.2.2 HB5.out HC5.out HL5.out HL.out (by decide)) (Below.refl _ _) (fun _ => rfl)
  (EachI w most L) (EachX w most L) (fun pre => eachI_ab pre hw5) (fun pre => eachX_ab pre hw5) HI5.out ?round ?done ?stop
 case round =>
  rintro l_ rb pre x rest W hLe hlW ⟨rl, hrl⟩ hi
  have HI6 := Aside0.mk hi
  have HLE := Aside0.mk hLe
  clear hi hLe
  simp only [encP]
  have hlt := (Array.getElem?_eq_some_iff.1 hrl).1
  obtain ⟨P0, hP0⟩ : ∃ P0 : Obj, P0 = .cells #[.int .u8 x.1.f0, .int .u32 x.1.f1, .string x.1.f2, .string x.1.f3] 60 := ⟨_, rfl⟩
  have hlA : (W.alloc P0).heap[l_]? = some (.loop rl) := blk_alloc hrl _
  have hp1 : ((W.alloc P0).putObj l_ (.loop rb)).heap[W.heap.size]? = some P0 := (World.putObj_heap_other (by omega)).trans (heap_alloc_new W _)
  have abI : Ab w5.heap.size 78 (EachI w most L pre) := eachI_ab pre hw5
  have hi1 : EachI w most L pre ((W.alloc P0).putObj l_ (.loop rb)) := abI.put _ (abI.alloc P0 HI6.out) hlW hlA (.inl rfl)
  have hkq : Kq w5.heap.size 78 W (W.alloc P0) := fun k o _ ho _ => blk_alloc ho _
  have hbl : Below w.heap.size W (W.alloc P0) := (Below.refl _ W).alloc (by have := HI6.out.2.2.2.2.2.size; omega) _
  have HP1 := Aside0.mk hp1
  have HI7 := Aside0.mk hi1
  have HKQ := Aside0.mk hkq
  have HBL := Aside0.mk hbl
  clear hp1 hi1 hkq hbl abI hlA
  gi_wp2
  rw [← hP0]
  refine ⟨HKQ.out, HBL.out, ?_⟩
  generalize (W.alloc P0).putObj l_ (.loop rb) = W1 at HP1 HI7 ⊢
  rw [hP0] at HP1
  clear HKQ HBL HI6 hP0
  obtain ⟨i0, i1, i2, ⟨v, i3, i4⟩, i5, i6⟩ := HI7.out
  obtain ⟨xp, xo⟩ := x
  have c0 := blk_cell i0 0
  have c1 := blk_cell i1 0
  have c2 := blk_cell i2 0
  have c3 := blk_cell i3 0
  have f1 := blk_frozen i1 0
  have f2 := blk_frozen i2 0
  have f3 := blk_frozen i3 0
  have p0 : W1.cell? ⟨W.heap.size, 0, none⟩ = some (.int .u8 xp.f0) := (blk_cell HP1.out 0).trans rfl
  have p1 : W1.cell? ⟨W.heap.size, 1, none⟩ = some (.int .u32 xp.f1) := (blk_cell HP1.out 1).trans rfl
  have p2 : W1.cell? ⟨W.heap.size, 2, none⟩ = some (.string xp.f2) := (blk_cell HP1.out 2).trans rfl
  have p3 : W1.cell? ⟨W.heap.size, 3, none⟩ = some (.string xp.f3) := (blk_cell HP1.out 3).trans rfl
  simp at c0 c1 c2 c3
  have J0 := Aside0.mk i0
  have J1 := Aside0.mk i1
  have J2 := Aside0.mk i2
  have J3 := Aside0.mk i3
  have J4 := Aside0.mk i4
  have J5 := Aside0.mk i5
  have J6 := Aside0.mk i6
  clear i0 i1 i2 i3 i4 i5 i6 HI7
  obtain ⟨Av, cv, rfl, hlv, hcv⟩ := Kd.R_reads J4.out
  have hlen : (pre.map (fun x : EP => cvR x.1)).length = pre.length := by simp
  have hlen1 : (pre.map (fun x : EP => cvR x.1) ++ [cvR xp]).length = pre.length + 1 := by simp
  rw [hlen] at c3 hlv
  have j3 := J3.out
  rw [hlen] at j3
  clear J3
  have J3 := Aside0.mk j3
  clear j3
  have stops : ∀ (bb : Bool), eachO most L [] = (pre.map (fun x : EP => cvR x.1), bb) → EachX w most L (pre ++ [(xp, xo)]) ((W1.setCell ⟨w.heap.size + 1, 0, none⟩ (.slice Av pre.length cv)).setCell ⟨w.heap.size + 2, 0, none⟩ (.bool bb)) := fun bb he => by
   refine ⟨⟨.slice Av pre.length cv, blk_far (blk_put J1.out 0 _ rfl) (by show w.heap.size + 1 ≠ w.heap.size + 2; omega) _, ?_⟩, ?_, below_set (below_set J6.out (by omega)) (by omega)⟩
   ·rw [he]
    have h4 := J4.out
    rw [hlen] at h4
    exact Kd.R_set (Kd.R_set h4 J1.out (by decide) 0 _) (blk_far J2.out (by show w.heap.size + 2 ≠ w.heap.size + 1; omega) _) (by decide) 0 _
   ·rw [he]
    exact blk_put (blk_far J2.out (by show w.heap.size + 2 ≠ w.heap.size + 1; omega) _) 0 _ rfl
  have STOPS := Aside0.mk stops
  clear stops
  cases xo with
  | false =>
   gi_wp2
   refine ⟨(Kq.set _ _ (by show w.heap.size + 1 < _; omega)).trans (Kq.set _ _ (by show w.heap.size + 2 < _; omega)), STOPS.out false ?_⟩
   rw [J5.out _ HLE.out]
   simp [eachO]
  | true =>
   by_cases hm : (pre.length : Int) ≥ most
   ·have hm1 : decide ((pre.length : Int) ≥ most) = true := decide_eq_true hm
    gi_wp2
    refine ⟨(Kq.set _ _ (by show w.heap.size + 1 < _; omega)).trans (Kq.set _ _ (by show w.heap.size + 2 < _; omega)), STOPS.out true ?_⟩
    rw [J5.out _ HLE.out]
    simp [eachO, hm]
   ·have hm1 : decide ((pre.length : Int) ≥ most) = false := decide_eq_false hm
    have hplen : pre.length < 3518437208832 := by have := congrArg List.length HLE.out; simp at this; omega
    obtain ⟨i0_, hi_, hz0_, hz1_, hz2_⟩ := info_parts info58
    have fina : ∀ (w3 w1' : World) (v' : Value) (inner : List Value), Below W1.drew.heap.size W1.drew w3 → Reps (k58.M w3 w.heap.size (fun _ => True)) 4 (pre.map (fun x : EP => cvR x.1)) inner →
      w1'.ownsRow w.heap.size 58 4 v' (pre.length + 1) (inner ++ encR (cvR xp)) → (w3.alloc (.cells #[.int .u8 xp.f0, .int .u32 xp.f1, .string xp.f2, .string xp.f3] 58)).grownBy w1' (Value.slice Av pre.length cv).ownBlock →
      w1'.cell? ⟨w.heap.size + 3, 0, none⟩ = some (.slice Av pre.length cv) ∧ w1'.frozen? ⟨w.heap.size + 3, 0, none⟩ = false ∧
      (Kq w5.heap.size 78 W1 (w1'.setCell ⟨w.heap.size + 3, 0, none⟩ v') ∧ Below w.heap.size W1 (w1'.setCell ⟨w.heap.size + 3, 0, none⟩ v') ∧ EachI w most L (pre ++ [(xp, true)]) (w1'.setCell ⟨w.heap.size + 3, 0, none⟩ v')) := by
     intro w3 w1' v' inner hb3 hrep hown' hgrow
     have ho' := own_moreR hrep (by rw [hlen]; exact hown')
     obtain ⟨A', c', hv'⟩ := Kd.R_slice ho'
     have hne3 : some (w.heap.size + 3) ≠ (Value.slice Av pre.length cv).ownBlock := by have h4 := J4.out; rw [hlen] at h4; exact Kd.R_ne h4 J3.out (by decide)
     have j3 : (w3.alloc (.cells #[.int .u8 xp.f0, .int .u32 xp.f1, .string xp.f2, .string xp.f3] 58)).heap[w.heap.size + 3]? = _ := blk_alloc (blk_below (w := W1.drew) J3.out hb3) _
     have hg3 := blk_grown j3 hgrow hne3
     obtain ⟨_, inner0, hown3, _⟩ := J4.out
     rw [hlen] at hown3
     have hrow : ∀ k, (Value.slice Av pre.length cv).ownBlock = some k → w.heap.size ≤ k ∧ ∃ cells, W1.heap[k]? = some (.cells cells 58 (0, 0)) := fun k hk => ⟨own_base hown3 k hk, own_typed hown3 k hk⟩
     have ne_of : ∀ k o, W1.heap[k]? = some o → (∀ cells, o ≠ .cells cells 58 (0, 0)) → some k ≠ (Value.slice Av pre.length cv).ownBlock := fun k o ho hn e => by
      obtain ⟨_, cells, hc⟩ := hrow k e.symm
      rw [ho] at hc
      exact hn cells (Option.some.inj hc)
     have carry : ∀ k o, W1.heap[k]? = some o → some k ≠ (Value.slice Av pre.length cv).ownBlock → k ≠ w.heap.size + 3 → (w1'.setCell ⟨w.heap.size + 3, 0, none⟩ v').heap[k]? = some o := fun k o ho h1 h2 =>
      (Below.heap_setCell w1' ⟨w.heap.size + 3, 0, none⟩ _ k h2).trans (blk_grown (blk_alloc (blk_below (w := W1.drew) ho hb3) _) hgrow h1)
     have hsz := J6.out.size
     have hb3s : W1.heap.size ≤ w3.heap.size := hb3.size
     have hbb : ∀ (u : World), Below w.heap.size u W1 → Below w.heap.size u (w1'.setCell ⟨w.heap.size + 3, 0, none⟩ v') := fun u h => by
      have q1 : Below w.heap.size u w3 := by
       have hd : Below w.heap.size u W1.drew := below_drew1 h
       exact hd.trans (hb3.mono hsz)
      have q2 : Below w.heap.size u (w3.alloc (.cells #[.int .u8 xp.f0, .int .u32 xp.f1, .string xp.f2, .string xp.f3] 58)) := q1.alloc (by omega) _
      have q3 : Below w.heap.size u w1' := q2.grown hgrow (by rw [World.size_alloc]; omega) (fun k hk => by have := (hrow k hk).1; omega)
      exact q3.setCell (p := ⟨w.heap.size + 3, 0, none⟩) (by show w.heap.size ≤ w.heap.size + 3; omega) _
     refine ⟨(blk_cell hg3 0).trans rfl, blk_frozen hg3 0, fun k o hB ho hs => carry k o ho (ne_of k o ho (fun cells e => ?_)) (by omega), hbb W1 (Below.refl _ _), carry _ _ J0.out (ne_of _ _ J0.out (fun _ e => by cases e)) (by omega), carry _ _ J1.out (ne_of _ _ J1.out (fun _ e => by cases e)) (by omega), carry _ _ J2.out (ne_of _ _ J2.out (fun _ e => by cases e)) (by omega), ⟨v', blk_put hg3 0 _ rfl, ?_⟩, fun rest' hr' => ?_, hbb w J6.out⟩
     ·subst e
      rcases hs with hs | ⟨_, hs⟩
      ·cases hs
      ·cases hs
     ·rw [List.map_append]
      exact Kd.R_set ho' hg3 (by decide) 0 _
     ·rw [J5.out ((xp, true) :: rest') (by rw [hr']; simp)]
      simp [eachO, hm]
    have FINA := Aside0.mk fina
    clear fina
    gi_wp2
    refine wpIn_region_any (by kernel_rfl) ?_
    change wpAnyIn _ _ _ _ _ _ _ _ _ (World.drew _)
    --REGION
    refine wpAnyIn_ready (rs := [0, 1]) (by kernel_rfl) (by simp) ?_
    refine AllReadyIn.cons rfl (fun K hK => ?_) ?_
    ·go_simp
     refine hK _ _ ?_
     clear hK K
     refine wpAnyIn_ready (rs := [1]) (by kernel_rfl) (by simp) ?_
     refine AllReadyIn.cons rfl (fun K hK => ?_) ?_
     ·go_simp
      refine hK _ _ ?_
      clear hK K
      refine wpAnyIn_ready (rs := [2]) (by kernel_rfl) (by simp) ?_
      refine AllReadyIn.cons rfl (fun K hK => ?_) ?_
      ·go_simp
       gi_wp2_with (refine ⟨trivial, ?_⟩; gi_at_call 32; refine (CallsIn.inRound l_ (callsIn_wide.2 (pouchlaw05_From.calls xp.f0 xp.f1 xp.f2 xp.f3 _ _ _ _ _ rfl))).mono ?_; rintro e_ w3 ⟨rfl, hb3⟩; have HB3 := Aside0.mk hb3; clear hb3)
       (try (refine hK _ _ ?_; clear hK K))
       obtain ⟨_, inner, hown3, hreps3⟩ := Kd.R_below (Kd.R_drew J4.out) HB3.out
       have HOWN3 := Aside0.mk hown3
       have HREP3 := Aside0.mk hreps3
       clear hown3 hreps3
       have c3w : w3.cell? ⟨w.heap.size + 3, 0, none⟩ = some (.slice Av pre.length cv) := (blk_cell (blk_below (w := W1.drew) J3.out HB3.out) 0).trans rfl
       have f3w : w3.frozen? ⟨w.heap.size + 3, 0, none⟩ = false := blk_frozen (blk_below (w := W1.drew) J3.out HB3.out) 0
       have c3a : (w3.alloc (.cells #[.int .u8 xp.f0, .int .u32 xp.f1, .string xp.f2, .string xp.f3] 58)).cell? ⟨w.heap.size + 3, 0, none⟩ = some (.slice Av pre.length cv) := (blk_cell (blk_alloc (blk_below (w := W1.drew) J3.out HB3.out) _) 0).trans rfl
       refine wpAnyIn_ready (rs := [3]) (by kernel_rfl) (by simp) ?_
       refine AllReadyIn.cons rfl (fun K hK => ?_) ?_
       ·go_simp
        refine hK _ _ ?_
        clear hK K
        refine wpAnyIn_ready (rs := [4]) (by kernel_rfl) (by simp) ?_
        refine AllReadyIn.cons rfl (fun K hK => ?_) ?_
        ·refine opIn_append_own _ (.tmp 25) (.tmp 28) 22 rfl w.heap.size 58 i0_ (.agg #[(.int .u8 0), (.int .u32 0), (.string ⟨#[]⟩), (.string ⟨#[]⟩)]) 4 40 Tryd.underlying22 hi_ hz0_ hz1_ hz2_ rfl (by decide) (.slice Av pre.length cv) pre.length inner rfl ?own ⟨w3.heap.size, 0, none⟩ 1 1 (encR (cvR xp)) rfl rfl (box_cellsR w3 58 (cvR xp)) (encR_one (cvR xp)) ?b1 ?b2 ?b3 ?_
         case own => have h_ := HOWN3.out.alloc (.cells #[.int .u8 xp.f0, .int .u32 xp.f1, .string xp.f2, .string xp.f3] 58); rw [hlen] at h_; exact h_
         case b1 => simp [maxLen]; omega
         case b2 => omega
         case b3 => rw [World.size_alloc]; have := HB3.out.size; have := J6.out.size; simp only [World.size_drew] at *; omega
         intro v' w1' hown' hgrow hnil
         obtain ⟨A', c', hv_⟩ := Kd.R_slice (own_moreR HREP3.out (by rw [hlen]; exact hown'))
         rw [hlen1] at hv_
         subst hv_
         clear hnil
         refine hK _ _ ?_
         clear hK K
         refine wpAnyIn_ready (rs := [5]) (by kernel_rfl) (by simp) ?_
         refine AllReadyIn.cons rfl (fun K hK => ?_) ?_
         ·obtain ⟨cL, fL, FIN⟩ := FINA.out w3 w1' _ inner HB3.out HREP3.out hown' hgrow
          have FIN0 := Aside0.mk FIN
          clear FIN hown' hgrow
          go_simp
          refine hK _ _ ?_
          clear hK K
          refine wpAnyIn_done (by kernel_rfl) ?_ _
          exact FIN0.out
         exact AllReadyIn.nil
        exact AllReadyIn.nil
       exact AllReadyIn.nil
      exact AllReadyIn.nil
     exact AllReadyIn.nil
    refine AllReadyIn.cons rfl (fun K hK => ?_) ?_
    ·go_simp
     refine hK _ _ ?_
     clear hK K
     refine wpAnyIn_ready (rs := [0, 2]) (by kernel_rfl) (by simp) ?_
     refine AllReadyIn.cons rfl (fun K hK => ?_) ?_
     ·go_simp
      refine hK _ _ ?_
      clear hK K
      refine wpAnyIn_ready (rs := [2]) (by kernel_rfl) (by simp) ?_
      refine AllReadyIn.cons rfl (fun K hK => ?_) ?_
      ·go_simp
       gi_wp2_with (refine ⟨trivial, ?_⟩; gi_at_call 32; refine (CallsIn.inRound l_ (callsIn_wide.2 (pouchlaw05_From.calls xp.f0 xp.f1 xp.f2 xp.f3 _ _ _ _ _ rfl))).mono ?_; rintro e_ w3 ⟨rfl, hb3⟩; have HB3 := Aside0.mk hb3; clear hb3)
       (try (refine hK _ _ ?_; clear hK K))
       obtain ⟨_, inner, hown3, hreps3⟩ := Kd.R_below (Kd.R_drew J4.out) HB3.out
       have HOWN3 := Aside0.mk hown3
       have HREP3 := Aside0.mk hreps3
       clear hown3 hreps3
       have c3w : w3.cell? ⟨w.heap.size + 3, 0, none⟩ = some (.slice Av pre.length cv) := (blk_cell (blk_below (w := W1.drew) J3.out HB3.out) 0).trans rfl
       have f3w : w3.frozen? ⟨w.heap.size + 3, 0, none⟩ = false := blk_frozen (blk_below (w := W1.drew) J3.out HB3.out) 0
       have c3a : (w3.alloc (.cells #[.int .u8 xp.f0, .int .u32 xp.f1, .string xp.f2, .string xp.f3] 58)).cell? ⟨w.heap.size + 3, 0, none⟩ = some (.slice Av pre.length cv) := (blk_cell (blk_alloc (blk_below (w := W1.drew) J3.out HB3.out) _) 0).trans rfl
       refine wpAnyIn_ready (rs := [3]) (by kernel_rfl) (by simp) ?_
       refine AllReadyIn.cons rfl (fun K hK => ?_) ?_
       ·go_simp
        refine hK _ _ ?_
        clear hK K
        refine wpAnyIn_ready (rs := [4]) (by kernel_rfl) (by simp) ?_
        refine AllReadyIn.cons rfl (fun K hK => ?_) ?_
        ·refine opIn_append_own _ (.tmp 25) (.tmp 28) 22 rfl w.heap.size 58 i0_ (.agg #[(.int .u8 0), (.int .u32 0), (.string ⟨#[]⟩), (.string ⟨#[]⟩)]) 4 40 Tryd.underlying22 hi_ hz0_ hz1_ hz2_ rfl (by decide) (.slice Av pre.length cv) pre.length inner rfl ?own ⟨w3.heap.size, 0, none⟩ 1 1 (encR (cvR xp)) rfl rfl (box_cellsR w3 58 (cvR xp)) (encR_one (cvR xp)) ?b1 ?b2 ?b3 ?_
         case own => have h_ := HOWN3.out.alloc (.cells #[.int .u8 xp.f0, .int .u32 xp.f1, .string xp.f2, .string xp.f3] 58); rw [hlen] at h_; exact h_
         case b1 => simp [maxLen]; omega
         case b2 => omega
         case b3 => rw [World.size_alloc]; have := HB3.out.size; have := J6.out.size; simp only [World.size_drew] at *; omega
         intro v' w1' hown' hgrow hnil
         obtain ⟨A', c', hv_⟩ := Kd.R_slice (own_moreR HREP3.out (by rw [hlen]; exact hown'))
         rw [hlen1] at hv_
         subst hv_
         clear hnil
         refine hK _ _ ?_
         clear hK K
         refine wpAnyIn_ready (rs := [5]) (by kernel_rfl) (by simp) ?_
         refine AllReadyIn.cons rfl (fun K hK => ?_) ?_
         ·obtain ⟨cL, fL, FIN⟩ := FINA.out w3 w1' _ inner HB3.out HREP3.out hown' hgrow
          have FIN0 := Aside0.mk FIN
          clear FIN hown' hgrow
          go_simp
          refine hK _ _ ?_
          clear hK K
          refine wpAnyIn_done (by kernel_rfl) ?_ _
          exact FIN0.out
         exact AllReadyIn.nil
        exact AllReadyIn.nil
       exact AllReadyIn.nil
      exact AllReadyIn.nil
     refine AllReadyIn.cons rfl (fun K hK => ?_) ?_
     ·go_simp
      gi_wp2_with (refine ⟨trivial, ?_⟩; gi_at_call 32; refine (CallsIn.inRound l_ (callsIn_wide.2 (pouchlaw05_From.calls xp.f0 xp.f1 xp.f2 xp.f3 _ _ _ _ _ rfl))).mono ?_; rintro e_ w3 ⟨rfl, hb3⟩; have HB3 := Aside0.mk hb3; clear hb3)
      (try (refine hK _ _ ?_; clear hK K))
      obtain ⟨_, inner, hown3, hreps3⟩ := Kd.R_below (Kd.R_drew J4.out) HB3.out
      have HOWN3 := Aside0.mk hown3
      have HREP3 := Aside0.mk hreps3
      clear hown3 hreps3
      have c3w : w3.cell? ⟨w.heap.size + 3, 0, none⟩ = some (.slice Av pre.length cv) := (blk_cell (blk_below (w := W1.drew) J3.out HB3.out) 0).trans rfl
      have f3w : w3.frozen? ⟨w.heap.size + 3, 0, none⟩ = false := blk_frozen (blk_below (w := W1.drew) J3.out HB3.out) 0
      have c3a : (w3.alloc (.cells #[.int .u8 xp.f0, .int .u32 xp.f1, .string xp.f2, .string xp.f3] 58)).cell? ⟨w.heap.size + 3, 0, none⟩ = some (.slice Av pre.length cv) := (blk_cell (blk_alloc (blk_below (w := W1.drew) J3.out HB3.out) _) 0).trans rfl
      refine wpAnyIn_ready (rs := [0, 3]) (by kernel_rfl) (by simp) ?_
      refine AllReadyIn.cons rfl (fun K hK => ?_) ?_
      ·go_simp
       refine hK _ _ ?_
       clear hK K
       refine wpAnyIn_ready (rs := [3]) (by kernel_rfl) (by simp) ?_
       refine AllReadyIn.cons rfl (fun K hK => ?_) ?_
       ·go_simp
        refine hK _ _ ?_
        clear hK K
        refine wpAnyIn_ready (rs := [4]) (by kernel_rfl) (by simp) ?_
        refine AllReadyIn.cons rfl (fun K hK => ?_) ?_
        ·refine opIn_append_own _ (.tmp 25) (.tmp 28) 22 rfl w.heap.size 58 i0_ (.agg #[(.int .u8 0), (.int .u32 0), (.string ⟨#[]⟩), (.string ⟨#[]⟩)]) 4 40 Tryd.underlying22 hi_ hz0_ hz1_ hz2_ rfl (by decide) (.slice Av pre.length cv) pre.length inner rfl ?own ⟨w3.heap.size, 0, none⟩ 1 1 (encR (cvR xp)) rfl rfl (box_cellsR w3 58 (cvR xp)) (encR_one (cvR xp)) ?b1 ?b2 ?b3 ?_
         case own => have h_ := HOWN3.out.alloc (.cells #[.int .u8 xp.f0, .int .u32 xp.f1, .string xp.f2, .string xp.f3] 58); rw [hlen] at h_; exact h_
         case b1 => simp [maxLen]; omega
         case b2 => omega
         case b3 => rw [World.size_alloc]; have := HB3.out.size; have := J6.out.size; simp only [World.size_drew] at *; omega
         intro v' w1' hown' hgrow hnil
         obtain ⟨A', c', hv_⟩ := Kd.R_slice (own_moreR HREP3.out (by rw [hlen]; exact hown'))
         rw [hlen1] at hv_
         subst hv_
         clear hnil
         refine hK _ _ ?_
         clear hK K
         refine wpAnyIn_ready (rs := [5]) (by kernel_rfl) (by simp) ?_
         refine AllReadyIn.cons rfl (fun K hK => ?_) ?_
         ·obtain ⟨cL, fL, FIN⟩ := FINA.out w3 w1' _ inner HB3.out HREP3.out hown' hgrow
          have FIN0 := Aside0.mk FIN
          clear FIN hown' hgrow
          go_simp
          refine hK _ _ ?_
          clear hK K
          refine wpAnyIn_done (by kernel_rfl) ?_ _
          exact FIN0.out
         exact AllReadyIn.nil
        exact AllReadyIn.nil
       exact AllReadyIn.nil
      refine AllReadyIn.cons rfl (fun K hK => ?_) ?_
      ·go_simp
       refine hK _ _ ?_
       clear hK K
       refine wpAnyIn_ready (rs := [0]) (by kernel_rfl) (by simp) ?_
       refine AllReadyIn.cons rfl (fun K hK => ?_) ?_
       ·go_simp
        refine hK _ _ ?_
        clear hK K
        refine wpAnyIn_ready (rs := [4]) (by kernel_rfl) (by simp) ?_
        refine AllReadyIn.cons rfl (fun K hK => ?_) ?_
        ·refine opIn_append_own _ (.tmp 25) (.tmp 28) 22 rfl w.heap.size 58 i0_ (.agg #[(.int .u8 0), (.int .u32 0), (.string ⟨#[]⟩), (.string ⟨#[]⟩)]) 4 40 Tryd.underlying22 hi_ hz0_ hz1_ hz2_ rfl (by decide) (.slice Av pre.length cv) pre.length inner rfl ?own ⟨w3.heap.size, 0, none⟩ 1 1 (encR (cvR xp)) rfl rfl (box_cellsR w3 58 (cvR xp)) (encR_one (cvR xp)) ?b1 ?b2 ?b3 ?_
         case own => have h_ := HOWN3.out.alloc (.cells #[.int .u8 xp.f0, .int .u32 xp.f1, .string xp.f2, .string xp.f3] 58); rw [hlen] at h_; exact h_
         case b1 => simp [maxLen]; omega
         case b2 => omega
         case b3 => rw [World.size_alloc]; have := HB3.out.size; have := J6.out.size; simp only [World.size_drew] at *; omega
         intro v' w1' hown' hgrow hnil
         obtain ⟨A', c', hv_⟩ := Kd.R_slice (own_moreR HREP3.out (by rw [hlen]; exact hown'))
         rw [hlen1] at hv_
         subst hv_
         clear hnil
         refine hK _ _ ?_
         clear hK K
         refine wpAnyIn_ready (rs := [5]) (by kernel_rfl) (by simp) ?_
         refine AllReadyIn.cons rfl (fun K hK => ?_) ?_
         ·obtain ⟨cL, fL, FIN⟩ := FINA.out w3 w1' _ inner HB3.out HREP3.out hown' hgrow
          have FIN0 := Aside0.mk FIN
          clear FIN hown' hgrow
          go_simp
          refine hK _ _ ?_
          clear hK K
          refine wpAnyIn_done (by kernel_rfl) ?_ _
          exact FIN0.out
         exact AllReadyIn.nil
        exact AllReadyIn.nil
       exact AllReadyIn.nil
      exact AllReadyIn.nil
     exact AllReadyIn.nil
    exact AllReadyIn.nil
    --END
 case stop =>
  rintro D pre rest W hD hLe ⟨⟨v, i1, i3⟩, i2, i4⟩ hK
  gi_wp2
  refine ⟨by simp, .inl ⟨_, _, rfl, run_takeDeferred hK, ?_⟩⟩
  have hD2 : D ≠ w.heap.size + 1 ∧ D ≠ w.heap.size + 2 := by omega
  have b1 : (W.putObj D (.deferred none)).heap[w.heap.size + 1]? = _ := (World.putObj_heap_other (Ne.symm hD2.1)).trans i1
  have b2 : (W.putObj D (.deferred none)).heap[w.heap.size + 2]? = _ := (World.putObj_heap_other (Ne.symm hD2.2)).trans i2
  have c1 := (blk_cell b1 0).trans (rfl : _ = some v)
  have c2 := (blk_cell b2 0).trans (rfl : _ = some (Value.bool (eachO most L []).2))
  have h9 := own_specialR (T := 78) i3 (grownBy_putObj' _ D (.deferred none)) (fun r e => by cases e; exact ⟨_, hK, .inl rfl⟩) (by decide)
  refine ⟨.tuple #[v, .bool (eachO most L []).2], ?_, ?_⟩
  ·simp [results, Tryd.f24, go_sem, c1, c2]
  ·exact ⟨v, rfl, h9, i4.grown (grownBy_putObj' W D _) i4.size (fun k e => by cases e; omega)⟩
 case done =>
  rintro D W hD ⟨i0, i1, i2, ⟨v, i3, i4⟩, i5, i6⟩ hK
  have he := i5 [] (by simp)
  rw [show eachO most [] (L.map (fun x : EP => cvR x.1)) = (L.map (fun x : EP => cvR x.1), true) from rfl] at he
  have c3 : W.cell? ⟨w.heap.size + 3, 0, none⟩ = some v := (blk_cell i3 0).trans rfl
  have c1 := blk_cell i1 0
  have c2 := blk_cell i2 0
  have f1 := blk_frozen i1 0
  have f2 := blk_frozen i2 0
  have f3 := blk_frozen i3 0
  simp at c1 c2
  obtain ⟨Av, cv, rfl, _, _⟩ := Kd.R_reads i4
  have J1 := Aside0.mk i1
  have J2 := Aside0.mk i2
  have J3 := Aside0.mk i3
  have J4 := Aside0.mk i4
  have J6 := Aside0.mk i6
  have JK := Aside0.mk hK
  have HE := Aside0.mk he
  clear i0 i1 i2 i3 i4 i5 i6 hK he
  gi_wp2
  obtain ⟨V6, hV6⟩ : ∃ V6 : Value, V6 = .slice Av (L.map (fun x : EP => cvR x.1)).length cv := ⟨_, rfl⟩
  have h4 := J4.out
  rw [← hV6] at h4
  have hlt6 : D < W.heap.size := (Array.getElem?_eq_some_iff.1 JK.out).1
  have e6 : Value.slice Av L.length cv = V6 := by rw [hV6]; simp
  first | rw [← hV6] | rw [e6] | skip
  have r1 : ((W.setCell ⟨w.heap.size + 1, 0, none⟩ V6).setCell ⟨w.heap.size + 2, 0, none⟩ (.bool true)).heap[w.heap.size + 1]? = some (.cells #[V6] 22 (0, 0)) := blk_far (blk_put J1.out 0 _ rfl) (by show w.heap.size + 1 ≠ w.heap.size + 2; omega) _
  have r2 : ((W.setCell ⟨w.heap.size + 1, 0, none⟩ V6).setCell ⟨w.heap.size + 2, 0, none⟩ (.bool true)).heap[w.heap.size + 2]? = some (.cells #[.bool true] 4 (0, 0)) := blk_put (blk_far J2.out (by show w.heap.size + 2 ≠ w.heap.size + 1; omega) _) 0 _ rfl
  have rD : ((W.setCell ⟨w.heap.size + 1, 0, none⟩ V6).setCell ⟨w.heap.size + 2, 0, none⟩ (.bool true)).heap[D]? = some (.deferred (some [])) := by
   rw [Below.heap_setCell _ ⟨w.heap.size + 2, 0, none⟩ _ D (by show D ≠ w.heap.size + 2; omega), Below.heap_setCell _ ⟨w.heap.size + 1, 0, none⟩ _ D (by show D ≠ w.heap.size + 1; omega)]
   exact JK.out
  refine ⟨by simp, .inl ⟨_, _, rfl, run_takeDeferred rD, ?_⟩⟩
  have ho8 : Kd.R k58 58 ((W.setCell ⟨w.heap.size + 1, 0, none⟩ V6).setCell ⟨w.heap.size + 2, 0, none⟩ (.bool true)) w.heap.size (fun _ => True) V6 (L.map (fun x : EP => cvR x.1)) :=
   Kd.R_set (Kd.R_set h4 J1.out (by decide) 0 _) (blk_far J2.out (by show w.heap.size + 2 ≠ w.heap.size + 1; omega) _) (by decide) 0 _
  have ho9 := own_specialR (T := 78) ho8 (grownBy_putObj' _ D (.deferred none)) (fun r e => by cases e; exact ⟨_, rD, .inl rfl⟩) (by decide)
  have hD2 : D ≠ w.heap.size + 1 ∧ D ≠ w.heap.size + 2 := by omega
  have b1 : (((W.setCell ⟨w.heap.size + 1, 0, none⟩ V6).setCell ⟨w.heap.size + 2, 0, none⟩ (.bool true)).putObj D (.deferred none)).heap[w.heap.size + 1]? = _ := (World.putObj_heap_other (Ne.symm hD2.1)).trans r1
  have b2 : (((W.setCell ⟨w.heap.size + 1, 0, none⟩ V6).setCell ⟨w.heap.size + 2, 0, none⟩ (.bool true)).putObj D (.deferred none)).heap[w.heap.size + 2]? = _ := (World.putObj_heap_other (Ne.symm hD2.2)).trans r2
  have c1 := (blk_cell b1 0).trans (rfl : _ = some V6)
  have c2 := (blk_cell b2 0).trans (rfl : _ = some (Value.bool true))
  refine ⟨.tuple #[V6, .bool true], ?_, ?_⟩
  ·simp [results, Tryd.f24, go_sem, c1, c2]
  ·rw [HE.out]
   refine ⟨V6, rfl, ho9, Below.grown (below_set (below_set J6.out (by omega)) (by omega)) (grownBy_putObj' _ D _) ?_ (fun k e => by cases e; omega)⟩
   have := J6.out.size
   simp [World.setCell]; omega
def pouchlaw06_each.f (k : Nat) (l0 : List Int) (a1 : Int) : Option (List S58 × Bool) := if l0.length < 140737488355328 then ((eachF k (strOfNums l0)).bind fun L => if L.length < 3518437208832 then some (eachO a1 L []) else none) else none
theorem pouchlaw06_each.mono : ∀ a0 a1 k, LeO (pouchlaw06_each.f k a0 a1) (pouchlaw06_each.f (k + 1) a0 a1) := by
 intro a0 a1 k
 unfold pouchlaw06_each.f
 exact LeO.ite (LeO.bind (eachF.mono _ _) fun _ => LeO.refl _) (LeO.refl _)
theorem pouchlaw06_each.calls (k : Nat) (A0 : Option Addr) (c0 : Nat) (l0 : List Int) (a1 : Int) (r1 : List S58) (r2 : Bool) (w : World) (hr0 : Kd.C (Kd.int .u8) w A0 l0.length l0) (hc0 : l0.length ≤ c0) (hG : GW w) (h : pouchlaw06_each.f k l0 a1 = some (r1, r2)) :
  Calls Tryd.prog 24 #[.slice A0 l0.length c0, .int .i64 a1] w fun e w' => ∃ v0_ : Value, e = .returned (.tuple #[v0_, .bool r2]) ∧ Kd.R k58 58 w' w.heap.size (fun _ => True) v0_ r1 ∧ Below w.heap.size w w' := by
 unfold pouchlaw06_each.f at h
 by_cases h1 : l0.length < 140737488355328
 ·rw [if_pos h1] at h
  obtain ⟨L, hL, h⟩ := Option.bind_eq_some_iff.mp h
  by_cases h2 : L.length < 3518437208832
  ·rw [if_pos h2] at h
   have h3 := Option.some.inj h
   have := each_walk A0 c0 l0 a1 L w hr0 hc0 hG h1 (eachF_L _ _ _ hL) h2
   rw [h3] at this
   exact this
  ·rw [if_neg h2] at h; cases h
 ·rw [if_neg h1] at h; cases h
end Go.Proofs.YtkmkgpigmldhnaaDoor.P
namespace Go.Proofs.YtkmkgpigmldhnaaDoor.P
open Go.RowKit Go.Proofs.YtkmkgpigmldhnaaDoorW.PrintWords Go.Proofs.YtkmkgpigmldhnaaDoorW.PrintLast Go.Proofs.YtkmkgpigmldhnaaDoorW.PrintMore
attribute [local go_sem] max2_int min2_int max_two min_two max_three min_three max_four min_four
def pouchref06_Each.l0 : Nat → ByteArray → List (S58) → Option ((List (S58)) × Bool)
  | 0, _, _ => none
  | k + 1, x0, x4 => if (x0.size : Int) > 0 then ((pouchref06_Next.f k x0).bind fun bt101 => (if bt101.2.2.2.2 = 0 then (some (x4, false)) else (if x4.length < 3518437208883 then (if 0 ≤ bt101.2.2.2.2 then (if bt101.2.2.2.2 ≤ (x0.size : Int) then (pouchref06_Each.l0 k (x0.extract (bt101.2.2.2.2 : Int).toNat x0.size) (x4 ++ [(⟨bt101.1, bt101.2.1, bt101.2.2.1, bt101.2.2.2.1⟩ : S58)])) else (none)) else (none)) else (none)))) else (some (x4, true))
def pouchref06_Each.f (k : Nat) (a0 : ByteArray) : Option ((List (S58)) × Bool) := pouchref06_Each.l0 k a0 ([] : List (S58))
theorem z25m0 {p : Prop} (h : p := by
 repeat' first
 | (with_reducible exact ih0 _ _)
 | (with_reducible exact pouchref06_Next.mono _ _)
 | (with_reducible exact LeO.refl _)
 | (with_reducible exact LeO.none _)
 | (with_reducible refine LeO.ite ?_ ?_)
 | (with_reducible refine LeO.bind ?_ (fun _ => ?_))
 | exact ih0 _ _
 | exact pouchref06_Next.mono _ _
 | exact LeO.none _
 | refine LeO.ite ?_ ?_
 | refine LeO.bind ?_ (fun _ => ?_)) : p := h
theorem pouchref06_Each.mono_l : ∀ k, (∀ y0 y1, LeO (pouchref06_Each.l0 k y0 y1) (pouchref06_Each.l0 (k + 1) y0 y1))
  | 0 => fun _ _ r h => by simp [pouchref06_Each.l0] at h
  | k + 1 => by
    have ih0 := pouchref06_Each.mono_l k
    · intro y0 y1
      unfold pouchref06_Each.l0
      exact z25m0
theorem pouchref06_Each.mono : ∀ a0 k, LeO (pouchref06_Each.f k a0) (pouchref06_Each.f (k + 1) a0) := by
  intro a0 k
  have ih0 := pouchref06_Each.mono_l k
  unfold pouchref06_Each.f
  exact z25m0
theorem z25z0 {p : Prop} (h : p := by (with_reducible repeat (first | apply Kd.R_alloc | apply Kd.R_drewN | apply Kd.R_drew)); exact HO_4.out) : p := h
theorem z25z1 {p : Prop} (h : p := by first | (go_simp; done) | (go_simp; rfl)) : p := h
theorem pouchref06_Each.calls (k : Nat) (a0 : ByteArray) (r1 : List (S58)) (r2 : Bool) (w : World) (h : pouchref06_Each.f k a0 = some (r1, r2)) :
  Calls Tryd.prog 25 #[.string a0] w fun e w' => ∃ v0_ : Value, e = .returned (.tuple #[v0_, .bool r2]) ∧ Kd.R k58 58 w' w.heap.size (fun _ => True) v0_ r1 ∧ Below w.heap.size w w' := by
 have hu58 := Tryd.underlying58
 have HB := Aside0.mk (Below.refl w.heap.size w)
 have H : (pouchref06_Each.l0 k a0 ([] : List (S58))) = some (r1, r2) := h
 clear h
 have H' := Aside0.mk H
 clear H
 go_enter Tryd.func25, Tryd.ntmps25
 go_wp2
 go_loopg [0, 4] k (fun kq v0 v4 w' => ∃ (x0_1 : ByteArray) (x4_1 : List (S58)), v0 = .string x0_1 ∧ Aside0 (pouchref06_Each.l0 kq x0_1 x4_1 = some (r1, r2)) ∧ Aside0 (kq ≤ k) ∧ Aside0 (Kd.R k58 58 w' w.heap.size (fun _ => True) v4 x4_1) ∧ Aside0 (Below w.heap.size w w'))
 case atStart => exact ⟨(a0), (([] : List (S58))), y7_, H', ⟨Nat.le_refl _⟩, ⟨y21_⟩, ⟨y0_⟩⟩
 case round =>
  clear H'
  obtain ⟨x0_1, x4_1, rfl, HA, HK1, HO_4, HB⟩ := hrel
  cases gk with
  | zero => exact absurd HA.out (by simp [pouchref06_Each.l0])
  | succ k1 =>
   have H := HA.out
   clear HA
   simp only [pouchref06_Each.l0] at H
   by_cases c2 : (x0_1.size : Int) > 0
   ·rw [if_pos c2] at H
    have c2b0 := decide_eq_true c2
    have c2b1 : decide (0 < x0_1.size) = true := decide_eq_true (by omega)
    clear c2
    replace H := Option.bind_eq_some_iff.mp H
    obtain ⟨⟨t101, t102, t103, t104, t105⟩, A30, H⟩ := H
    try dsimp -simprocs only at H
    have A3 := Aside0.mk A30
    clear A30
    by_cases c4 : t105 = 0
    ·rw [if_pos c4] at H
     obtain ⟨c4b0, c4b1⟩ := eqt_ c4
     clear c4
     simp only [Option.some.injEq, Prod.mk.injEq] at H
     obtain ⟨rfl, rfl⟩ := H
     go_wp2_with (first | ((with_reducible refine gate_callee (f := 49) rfl ?_); refine goesL_ (some 12) rfl rfl Tryd.func49 (by kernel_rfl) rfl #[.string x0_1] rfl y2_ ?_; (with_reducible refine (pouchref06_Next.calls k1 x0_1 t101 t102 t103 t104 t105 _ A3.out).mono ?_); rintro e w5 ⟨rfl, hb⟩; refine ⟨_, rfl, ?_⟩; have n0_ := Aside0.mk (Kd.R_below z25z0 hb); have n1_ := Aside0.mk (below_step y0_ hb); replace HO_4 := n0_; replace HB := n1_; clear n0_ n1_; clear hb) | ((with_reducible refine gate_dst (N := 5) rfl ?_); refine box_event ?hg (N := 5) ?hd (cs := #[.int .u8 0, .int .u32 0, .string (⟨#[]⟩ : ByteArray), .string (⟨#[]⟩ : ByteArray)]) (t := 58) ?hr ?_; (case hd => rfl); (case hg => rfl); (case hr => exact z25z1); intro gb106 hg w6 hbox hb; have n0_ := Aside0.mk (Kd.R_below (Kd.R_elderB z25z0 gb106 (Nat.le_of_eq hg.symm)) hb); have n1_ := Aside0.mk (below_step y0_ hb); have n2_ := Aside0.mk (hbox); have n3_ := Aside0.mk ((by rw [hg]; exact (below_size y0_) : w.heap.size ≤ gb106)); have n4_ := Aside0.mk ((by rw [hg]; exact (below_size y0_) : w.heap.size ≤ gb106)); replace HO_4 := n0_; replace HB := n1_; have BK106 := n2_; have GW106 := n3_; have GE106 := n4_; clear n0_ n1_ n2_ n3_ n4_; clear hb hbox hg; obtain ⟨hcz7_0, hcz7_1, hcz7_2, hcz7_3⟩ := ccs4_ BK106.out; obtain ⟨hfz7_0, hfz7_1, hfz7_2, hfz7_3⟩ := fzs4_ BK106.out))
     go_ret2
     exact ⟨_, y4_, by (with_reducible repeat (first | apply Kd.R_alloc | apply Kd.R_drewN | apply Kd.R_drew)); exact Kd.R_mono (Kd.R_far (p := ⟨gb106, 3, none⟩) (Kd.R_far (p := ⟨gb106, 2, none⟩) (Kd.R_far (p := ⟨gb106, 1, none⟩) (Kd.R_far (p := ⟨gb106, 0, none⟩) (Kd.R_mono HO_4.out (fun k_ hk => (⟨hk, hk.2⟩ : _ ∧ k_ ≠ gb106))) (fun _ hk => hk.2) (.int .u8 t101)) (fun _ hk => hk.2) (.int .u32 t102)) (fun _ hk => hk.2) (.string t103)) (fun _ hk => hk.2) (.string t104)) (fun _ hk => trivial), y9_⟩
    ·rw [if_neg c4] at H
     obtain ⟨c4b0, c4b1⟩ := eqf_ c4
     by_cases c8 : x4_1.length < 3518437208883
     ·rw [if_pos c8] at H
      have LMc8 := Aside0.mk c8
      clear c8
      obtain ⟨y107, hy107⟩ : ∃ y_ : List (S58), y_ = (x4_1 ++ [(⟨t101, t102, t103, t104⟩ : S58)]) := ⟨_, rfl⟩
      replace H : (if 0 ≤ t105 then (if t105 ≤ (x0_1.size : Int) then (pouchref06_Each.l0 k1 (x0_1.extract (t105 : Int).toNat x0_1.size) y107) else (none)) else (none)) = some (r1, r2) := by first | (rw [hy107]; with_reducible exact H) | (have H2_ := (Option.bind_some _ _).symm.trans H; rw [hy107]; with_reducible exact H2_) | (have H2_ := (Option.bind_some _ _).symm.trans H; with_reducible exact H2_) | with_reducible exact H | (rw [hy107]; exact H) | exact H
      have Ny107 := Aside0.mk hy107
      clear hy107
      by_cases c9 : 0 ≤ t105
      ·rw [if_pos c9] at H
       have c9b0 := eq_true c9
       have c9b1 := decide_eq_true c9
       clear c9
       by_cases c10 : t105 ≤ (x0_1.size : Int)
       ·rw [if_pos c10] at H
        have c10b0 := eq_true c10
        have c10b1 := decide_eq_true c10
        clear c10
        have H' := Aside0.mk H
        clear H
        go_wp2_with (first | ((with_reducible refine gate_callee (f := 49) rfl ?_); refine goesL_ (some 12) rfl rfl Tryd.func49 (by kernel_rfl) rfl #[.string x0_1] rfl y2_ ?_; (with_reducible refine (pouchref06_Next.calls k1 x0_1 t101 t102 t103 t104 t105 _ A3.out).mono ?_); rintro e w11 ⟨rfl, hb⟩; refine ⟨_, rfl, ?_⟩; have n0_ := Aside0.mk (Kd.R_below z25z0 hb); have n1_ := Aside0.mk (below_step y0_ hb); replace HO_4 := n0_; replace HB := n1_; clear n0_ n1_; clear hb) | ((with_reducible refine gate_dst (N := 5) rfl ?_); refine box_event ?hg (N := 5) ?hd (cs := #[.int .u8 0, .int .u32 0, .string (⟨#[]⟩ : ByteArray), .string (⟨#[]⟩ : ByteArray)]) (t := 58) ?hr ?_; (case hd => rfl); (case hg => rfl); (case hr => exact z25z1); intro gb106 hg w12 hbox hb; have n0_ := Aside0.mk (Kd.R_below (Kd.R_elderB z25z0 gb106 (Nat.le_of_eq hg.symm)) hb); have n1_ := Aside0.mk (below_step y0_ hb); have n2_ := Aside0.mk (hbox); have n3_ := Aside0.mk ((by rw [hg]; exact (below_size y0_) : w.heap.size ≤ gb106)); have n4_ := Aside0.mk ((by rw [hg]; exact (below_size y0_) : w.heap.size ≤ gb106)); replace HO_4 := n0_; replace HB := n1_; have BK106 := n2_; have GW106 := n3_; have GE106 := n4_; clear n0_ n1_ n2_ n3_ n4_; clear hb hbox hg; obtain ⟨hcz13_0, hcz13_1, hcz13_2, hcz13_3⟩ := ccs4_ BK106.out; obtain ⟨hfz13_0, hfz13_1, hfz13_2, hfz13_3⟩ := fzs4_ BK106.out) | ((with_reducible refine gate_builtin (b := .append) (xs := #[.tmp 18, .tmp 20]) rfl ?_); at_builtin; refine Kd.R_append k58 (w0 := w) w.heap.size rfl (.tmp 18) (.tmp 20) 22 58 (.agg #[(.int .u8 0), (.int .u32 0), (.string ⟨#[]⟩), (.string ⟨#[]⟩)]) 40 rfl Tryd.underlying22 info58 rfl (by decide) (by omega) u4 x4_1 (⟨t101, t102, t103, t104⟩ : S58) [.int .u8 t101, .int .u32 t102, .string t103, .string t104] (fun k_ => k_ ≠ gb106) (fun _ => False) rfl z25z1 ?aP (fun _ hk => hk.elim) ?aF ?aO ?aB ?aS ?aL ?_; (case aP => exact k58_mkM _ _ _ (⟨t101, t102, t103, t104⟩ : S58)); (case aB => exact y9_); (case aF => exact (fun k_ hk => Kd.freshB (g := gb106) (o := .cells #[.int .u8 t101, .int .u32 t102, .string t103, .string t104] 58 (0, 0)) y11_ k_ hk)); (case aO => exact (by (with_reducible repeat (first | apply Kd.R_alloc | apply Kd.R_drewN | apply Kd.R_drew)); exact Kd.R_mono (Kd.R_far (p := ⟨gb106, 3, none⟩) (Kd.R_far (p := ⟨gb106, 2, none⟩) (Kd.R_far (p := ⟨gb106, 1, none⟩) (Kd.R_far (p := ⟨gb106, 0, none⟩) (Kd.R_mono HO_4.out (fun k_ hk => (⟨hk, hk.2⟩ : _ ∧ k_ ≠ gb106))) (fun _ hk => hk.2) (.int .u8 t101)) (fun _ hk => hk.2) (.int .u32 t102)) (fun _ hk => hk.2) (.string t103)) (fun _ hk => hk.2) (.string t104)) (fun _ hk => hk.1.2))); (case aS => exact (below_size y9_)); (case aL => have := LMc8.out; omega); intro v108 w14 ho hb hg hat; rw [← Ny107.out] at ho; have n0_ := Aside0.mk (blk_grown (g := gb106) (o := .cells #[.int .u8 t101, .int .u32 t102, .string t103, .string t104] 58 (0, 0)) y11_ hg (Kd.R_away HO_4.out (fun _ hk => hk.2))); have n1_ := Aside0.mk (hb); have n2_ := Aside0.mk (ho); replace BK106 := n0_; replace HB := n1_; have HO109 := n2_; clear HO_4; clear n0_ n1_ n2_; clear ho hb hg hat))
        go_roundg k1
        case measure => have := HK1.out; omega
        case rel => exact ⟨(x0_1.extract (t105 : Int).toNat x0_1.size), (y107), y7_, H', ⟨y25_⟩, ⟨by (with_reducible repeat (first | apply Kd.R_alloc | apply Kd.R_drewN | apply Kd.R_drew)); exact Kd.R_mono HO109.out (fun _ hk => trivial)⟩, ⟨y9_⟩⟩
       ·rw [if_neg c10] at H
        exact absurd H (by simp)
      ·rw [if_neg c9] at H
       exact absurd H (by simp)
     ·rw [if_neg c8] at H
      exact absurd H (by simp)
   ·rw [if_neg c2] at H
    have c2b0 := decide_eq_false c2
    have c2b1 : decide (0 < x0_1.size) = false := decide_eq_false (by omega)
    clear c2
    simp only [Option.some.injEq, Prod.mk.injEq] at H
    obtain ⟨rfl, rfl⟩ := H
    go_wp2
    go_ret2
    exact ⟨_, y4_, z25z0, y0_⟩
end Go.Proofs.YtkmkgpigmldhnaaDoor.P
namespace Go.Proofs.YtkmkgpigmldhnaaDoor.Pr
open Go Go.RowKit Go.Lib Go.Proofs.YtkmkgpigmldhnaaDoorW.PrintWords Go.Proofs.YtkmkgpigmldhnaaDoorW.PrintLast Go.Proofs.YtkmkgpigmldhnaaDoorW.PrintMore
open Go.Proofs.YtkmkgpigmldhnaaDoor.P
def ba (l : List UInt8) : ByteArray := ⟨l.toArray⟩
theorem told_at : pouchlaw06_told.f 40 = some true := by decide +kernel
theorem told_ev : Ev (fun k => pouchlaw06_told.f k) true := Ev.of (fun k => pouchlaw06_told.mono k) told_at
def eqR (x y : S58) : Bool := !(!(x.f0 == y.f0) || (!(x.f1 == y.f1) || (!(x.f2.toList == y.f2.toList) || !(x.f3.toList == y.f3.toList))))
def sameR : List S58 → List S58 → Bool
 | [], [] => true
 | x :: l, y :: m => eqR x y && sameR l m
 | _, _ => false
theorem sameR_len : ∀ (l m : List S58), l.length ≠ m.length → sameR l m = false
 | [], [], h => absurd rfl h
 | [], _ :: _, _ => rfl
 | _ :: _, [], _ => rfl
 | x :: l, y :: m, h => by
  rw [sameR, sameR_len l m (fun e => h (by simp [e])), Bool.and_false]
theorem eqR_refl (x : S58) : eqR x x = true := by simp [eqR]
theorem sameR_refl : ∀ (l : List S58), sameR l l = true
 | [] => rfl
 | x :: l => by rw [sameR, eqR_refl, sameR_refl l]; rfl
theorem rdR (L : List S58) (i : Nat) (h : i < L.length) : rd_T58 L (i : Int) = L[i] := by
 unfold rd_T58
 simp [List.getD, h]
theorem same_l0 (l m : List S58) (he : l.length = m.length) (hl : l.length < 4611686018427387900) : ∀ (d i : Nat), i + d = l.length → Ev (fun k => pouchref06_Same.l0 k l m (i : Int)) (sameR (l.drop i) (m.drop i))
 | 0, i, h => by
  rw [List.drop_eq_nil_of_le (by omega), List.drop_eq_nil_of_le (by omega)]
  exact Ev.step (f := fun _ => some true) (fun k => by simp only [pouchref06_Same.l0]; rw [if_neg (by omega)]) (Ev.now _)
 | d + 1, i, h => by
  have hi : i < l.length := by omega
  have hi2 : i < m.length := by omega
  rw [List.drop_eq_getElem_cons hi, List.drop_eq_getElem_cons hi2, sameR]
  have E := Aside0.mk (w64_n1 (i := i) (by omega))
  by_cases hq : eqR l[i] m[i] = true
  ·rw [hq, Bool.true_and]
   refine Ev.step (f := fun k => pouchref06_Same.l0 k l m ((i + 1 : Nat) : Int)) (fun k => ?_) (same_l0 l m he hl d (i + 1) (by omega))
   simp only [pouchref06_Same.l0]
   rw [if_pos (by omega), if_pos (by omega), if_pos (by omega), rdR l i hi, rdR m i hi2, if_neg (by unfold eqR at hq; simpa using hq), E.out]
  ·have hf : eqR l[i] m[i] = false := by simpa using hq
   rw [hf, Bool.false_and]
   refine Ev.step (f := fun _ => some false) (fun k => ?_) (Ev.now _)
   simp only [pouchref06_Same.l0]
   rw [if_pos (by omega), if_pos (by omega), if_pos (by omega), rdR l i hi, rdR m i hi2, if_pos (by unfold eqR at hf; rw [Bool.not_eq_eq_eq_not, Bool.not_false] at hf; exact hf)]
theorem same_ref (l m : List S58) (hl : l.length < 4611686018427387900) : Ev (fun k => pouchref06_Same.f k l m) (sameR l m) := by
 by_cases he : l.length = m.length
 ·have := same_l0 l m he hl l.length 0 (by omega)
  rw [List.drop_zero, List.drop_zero] at this
  refine Ev.congr (fun k => ?_) this
  unfold pouchref06_Same.f
  rw [if_pos (by omega)]; rfl
 ·rw [sameR_len l m he]
  refine now fun k => ?_
  unfold pouchref06_Same.f
  rw [if_neg (by omega)]
end Go.Proofs.YtkmkgpigmldhnaaDoor.Pr
namespace Go.Proofs.YtkmkgpigmldhnaaDoor.Pr
open Go Go.RowKit Go.Lib Go.Proofs.YtkmkgpigmldhnaaDoorW.PrintWords Go.Proofs.YtkmkgpigmldhnaaDoorW.PrintLast Go.Proofs.YtkmkgpigmldhnaaDoorW.PrintMore
open Go.Proofs.YtkmkgpigmldhnaaDoor.P
open Go.Proofs.YtkmkgpigmldhnaaDoor.Mq (rightB wildB nameB wild_any)
open Go.Sort (swp insInner insOuter)
def toS (p : S58) : S60 := ⟨p.f0, p.f1, p.f2, p.f3⟩
theorem fr_to (p : S58) : cvR (toS p) = p := rfl
theorem map_fr_to (L : List S58) : (L.map toS).map cvR = L := by rw [List.map_map]; exact (List.map_congr_left (fun x _ => fr_to x)).trans (List.map_id L)
theorem rdS (L : List S60) (i : Nat) (h : i < L.length) : rd_T60 L (i : Int) = L[i] := by
 unfold rd_T60
 simp [List.getD, h]
theorem to_l0 (L : List S58) (hL : L.length < 3518437208883) : ∀ (d i : Nat) (acc : List S60), i + d = L.length → acc.length = i → Ev (fun k => pouchlaw06_To.l0 k L acc (i : Int)) (acc ++ (L.drop i).map toS)
 | 0, i, acc, h, _ => by
  rw [List.drop_eq_nil_of_le (by omega), List.map_nil, List.append_nil]
  exact Ev.step (f := fun _ => some acc) (fun k => by simp only [pouchlaw06_To.l0]; rw [if_neg (by omega)]) (Ev.now _)
 | d + 1, i, acc, h, ha => by
  have hi : i < L.length := by omega
  have E := Aside0.mk (w64_n1 (i := i) (by omega))
  rw [List.drop_eq_getElem_cons hi, List.map_cons, ← List.singleton_append, ← List.append_assoc]
  refine Ev.step (f := fun k => pouchlaw06_To.l0 k L (acc ++ [toS L[i]]) ((i + 1 : Nat) : Int)) (fun k => ?_) (to_l0 L hL d (i + 1) (acc ++ [toS L[i]]) (by omega) (by simp [ha]))
  simp only [pouchlaw06_To.l0, pouchlaw05_To.f, Option.bind_some]
  rw [if_pos (by omega), if_pos (by omega), if_pos (by omega), rdR L i hi, E.out]; rfl
theorem to_ev (L : List S58) (hL : L.length < 3518437208883) : Ev (fun k => pouchlaw06_To.f k L) (L.map toS) := by
 have := to_l0 L hL L.length 0 [] (by omega) rfl
 rw [List.drop_zero, List.nil_append] at this
 exact this
theorem from_l0 (L : List S60) (hL : L.length < 3518437208883) : ∀ (d i : Nat) (acc : List S58), i + d = L.length → acc.length = i → Ev (fun k => pouchlaw06_From.l0 k L acc (i : Int)) (acc ++ (L.drop i).map cvR)
 | 0, i, acc, h, _ => by
  rw [List.drop_eq_nil_of_le (by omega), List.map_nil, List.append_nil]
  exact Ev.step (f := fun _ => some acc) (fun k => by simp only [pouchlaw06_From.l0]; rw [if_neg (by omega)]) (Ev.now _)
 | d + 1, i, acc, h, ha => by
  have hi : i < L.length := by omega
  have E := Aside0.mk (w64_n1 (i := i) (by omega))
  rw [List.drop_eq_getElem_cons hi, List.map_cons, ← List.singleton_append, ← List.append_assoc]
  refine Ev.step (f := fun k => pouchlaw06_From.l0 k L (acc ++ [cvR L[i]]) ((i + 1 : Nat) : Int)) (fun k => ?_) (from_l0 L hL d (i + 1) (acc ++ [cvR L[i]]) (by omega) (by simp [ha]))
  simp only [pouchlaw06_From.l0, pouchlaw05_From.f, Option.bind_some]
  rw [if_pos (by omega), if_pos (by omega), if_pos (by omega), rdS L i hi, E.out]; rfl
theorem from_ev (L : List S60) (hL : L.length < 3518437208883) : Ev (fun k => pouchlaw06_From.f k L) (L.map cvR) := by
 have := from_l0 L hL L.length 0 [] (by omega) rfl
 rw [List.drop_zero, List.nil_append] at this
 exact this
theorem few_l0 (L : List S58) (hL : L.length < 4611686018427387900) : ∀ (d i : Nat), i + d = L.length → ∃ b, Ev (fun k => pouchlaw06_few.l0 k L (i : Int)) b ∧ (b = true → L.length ≤ 30 ∧ ∀ j (h : j < L.length), i ≤ j → L[j].f2.size ≤ 200 ∧ L[j].f3.size ≤ 200)
 | 0, i, h => ⟨decide ((L.length : Int) ≤ 30), Ev.step (f := fun _ => some (decide ((L.length : Int) ≤ 30))) (fun k => by simp only [pouchlaw06_few.l0]; rw [if_neg (by omega)]) (Ev.now _), fun hb => ⟨by have := of_decide_eq_true hb; omega, fun j hj hij => by omega⟩⟩
 | d + 1, i, h => by
  have hi : i < L.length := by omega
  have E := Aside0.mk (w64_n1 (i := i) (by omega))
  by_cases h1 : (L[i].f2.size : Int) > 200
  ·refine ⟨false, Ev.step (f := fun _ => some false) (fun k => ?_) (Ev.now _), fun h => by cases h⟩
   simp only [pouchlaw06_few.l0]
   rw [if_pos (by omega), if_pos (by omega), rdR L i hi, if_pos h1]
  ·by_cases h2 : (L[i].f3.size : Int) > 200
   ·refine ⟨false, Ev.step (f := fun _ => some false) (fun k => ?_) (Ev.now _), fun h => by cases h⟩
    simp only [pouchlaw06_few.l0]
    rw [if_pos (by omega), if_pos (by omega), rdR L i hi, if_neg h1, if_pos h2]
   ·obtain ⟨b, hb, hbt⟩ := few_l0 L hL d (i + 1) (by omega)
    refine ⟨b, Ev.step (f := fun k => pouchlaw06_few.l0 k L ((i + 1 : Nat) : Int)) (fun k => ?_) hb, fun h => ⟨(hbt h).1, fun j hj hij => ?_⟩⟩
    ·simp only [pouchlaw06_few.l0]
     rw [if_pos (by omega), if_pos (by omega), rdR L i hi, if_neg h1, if_neg h2, E.out]
    ·by_cases e : j = i
     ·subst e; exact ⟨by omega, by omega⟩
     ·exact (hbt h).2 j hj (by omega)
theorem few_ev (L : List S58) (hL : L.length < 4611686018427387900) : ∃ b, Ev (fun k => pouchlaw06_few.f k L) b ∧ (b = true → L.length ≤ 30 ∧ ∀ p ∈ L, p.f2.size ≤ 200 ∧ p.f3.size ≤ 200) := by
 obtain ⟨b, h1, h2⟩ := few_l0 L hL L.length 0 (by omega)
 refine ⟨b, h1, fun h => ⟨(h2 h).1, fun p hp => ?_⟩⟩
 obtain ⟨j, hj, rfl⟩ := List.mem_iff_getElem.1 hp
 exact (h2 h).2 j hj (Nat.zero_le _)
abbrev RG := Int × Int × ByteArray × ByteArray × Bool
def getT : Option S58 → RG
 | some p => (p.f0, p.f1, p.f2, p.f3, true)
 | none => (0, 0, emp, emp, false)
def getR (L : List S58) (a : Int) : RG := getT (L.find? (fun p => decide (p.f0 = a)))
theorem get_l0 (L : List S58) (a : Int) (hL : L.length < 4611686018427387900) : ∀ (d i : Nat), i + d = L.length → Ev (fun k => pouchref06_Get.l0 k L a (i : Int)) (getR (L.drop i) a)
 | 0, i, h => by
  rw [List.drop_eq_nil_of_le (by omega)]
  exact Ev.step (f := fun _ => some (0, 0, emp, emp, false)) (fun k => by simp only [pouchref06_Get.l0]; rw [if_neg (by omega)]; rfl) (Ev.now _)
 | d + 1, i, h => by
  have hi : i < L.length := by omega
  have E := Aside0.mk (w64_n1 (i := i) (by omega))
  rw [List.drop_eq_getElem_cons hi]
  unfold getR
  rw [List.find?_cons]
  by_cases hq : L[i].f0 = a
  ·rw [decide_eq_true hq]
   refine Ev.step (f := fun _ => some (L[i].f0, L[i].f1, L[i].f2, L[i].f3, true)) (fun k => ?_) (Ev.now _)
   simp only [pouchref06_Get.l0]
   rw [if_pos (by omega), if_pos (by omega), rdR L i hi, if_pos hq]
  ·rw [decide_eq_false hq]
   refine Ev.step (f := fun k => pouchref06_Get.l0 k L a ((i + 1 : Nat) : Int)) (fun k => ?_) (get_l0 L a hL d (i + 1) (by omega))
   simp only [pouchref06_Get.l0]
   rw [if_pos (by omega), if_pos (by omega), rdR L i hi, if_neg hq, E.out]
theorem get_ref (L : List S58) (a : Int) (hL : L.length < 4611686018427387900) : Ev (fun k => pouchref06_Get.f k L a) (getR L a) := by
 have := get_l0 L a hL L.length 0 (by omega)
 rw [List.drop_zero] at this
 exact this
theorem get_prog (L : List S58) (a : Int) (hL : L.length < 4611686018427387900) : props_Get.f (L.map toS) a = some (getR L a) := by
 unfold props_Get.f
 rw [List.length_map, if_pos (by omega), List.find?_map]
 unfold getR
 have e : ((fun p : S60 => decide (p.f0 = a)) ∘ toS) = fun p : S58 => decide (p.f0 = a) := rfl
 rw [e]
 cases L.find? (fun p => decide (p.f0 = a)) <;> rfl
def keyR (x : S58) : Int := x.f0
instance instIR : Inhabited S58 := ⟨z58⟩
def ltR (x y : S58) : Bool := decide (keyR x < keyR y)
theorem rd_arr (d : Array S58) (i : Nat) (h : i < d.size) : rd_T58 d.toList (i : Int) = d[i]! := by
 rw [rdR d.toList i (by simpa using h), getElem!_pos d i h]; simp
theorem swp_sets (d : Array S58) (j : Nat) (h : j + 1 < d.size) : (d.toList.set j d[j + 1]!).set (j + 1) d[j]! = (swp d (j + 1) j).toList := by
 unfold swp
 rw [Array.toList_setIfInBounds, Array.toList_setIfInBounds, List.set_comm _ _ (by omega)]
theorem inner_sz (lt : S58 → S58 → Bool) (a : Nat) (i : Nat) (d : Array S58) : (insInner lt a i d).size = d.size := Srt.inner_size lt a i d
theorem sort_l1 (i : Nat) (r : List S58) : ∀ (j : Nat) (d : Array S58), j < d.size → d.size < 3518437208883 → Ev (fun k => pouchref06_Sort.l0 k (insInner ltR 0 j d).toList (wrap64 ((i : Int) + 1))) r → Ev (fun k => pouchref06_Sort.l1 k d.toList (i : Int) (j : Int)) r
 | 0, d, hj, hs, h => by
  refine Ev.step (f := fun k => pouchref06_Sort.l0 k d.toList (wrap64 ((i : Int) + 1))) (fun k => ?_) h
  simp only [pouchref06_Sort.l1]
  rw [if_neg (by omega)]
 | j + 1, d, hj, hs, h => by
  have E := Aside0.mk (show wrap64 (((j + 1 : Nat) : Int) - 1) = (j : Int) by rw [w64 (by omega) (by omega)]; omega)
  have hl : d.toList.length = d.size := by simp
  by_cases hq : (d[j]!).f0 > (d[j + 1]!).f0
  ·have hlt : ltR d[j + 1]! d[j]! = true := decide_eq_true hq
   rw [insInner, if_pos (by rw [hlt]; simp)] at h
   refine Ev.step (f := fun k => pouchref06_Sort.l1 k (swp d (j + 1) j).toList (i : Int) (j : Int)) (fun k => ?_) (sort_l1 i r j (swp d (j + 1) j) (by rw [Srt.swp_size]; omega) (by rw [Srt.swp_size]; exact hs) h)
   simp only [pouchref06_Sort.l1]
   rw [if_pos (by omega), E.out, if_pos (by omega), if_pos (by omega), if_pos (by omega), if_pos (by omega), rd_arr d j (by omega), rd_arr d (j + 1) hj, if_pos hq, ← swp_sets d j hj]
   rfl
  ·have hlt : ltR d[j + 1]! d[j]! = false := decide_eq_false hq
   rw [insInner, if_neg (by rw [hlt]; simp)] at h
   refine Ev.step (f := fun k => pouchref06_Sort.l0 k d.toList (wrap64 ((i : Int) + 1))) (fun k => ?_) h
   simp only [pouchref06_Sort.l1]
   rw [if_pos (by omega), E.out, if_pos (by omega), if_pos (by omega), if_pos (by omega), if_pos (by omega), rd_arr d j (by omega), rd_arr d (j + 1) hj, if_neg hq]
theorem sort_l0 : ∀ (n i : Nat) (d : Array S58), d.size - i = n → d.size < 3518437208883 → Ev (fun k => pouchref06_Sort.l0 k d.toList (i : Int)) (insOuter ltR 0 d.size i d).toList
 | 0, i, d, h, hs => by
  have hl : d.toList.length = d.size := by simp
  rw [insOuter, if_neg (by omega)]
  exact Ev.step (f := fun _ => some d.toList) (fun k => by simp only [pouchref06_Sort.l0]; rw [if_neg (by omega)]) (Ev.now _)
 | n + 1, i, d, h, hs => by
  have hl : d.toList.length = d.size := by simp
  have hsz := inner_sz ltR 0 i d
  have E := Aside0.mk (w64_n1 (i := i) (by omega))
  have ih := sort_l0 n (i + 1) (insInner ltR 0 i d) (by omega) (by omega)
  rw [hsz] at ih
  rw [insOuter, if_pos (by omega)]
  refine Ev.step (f := fun k => pouchref06_Sort.l1 k d.toList (i : Int) (i : Int)) (fun k => ?_) (sort_l1 i _ i d (by omega) hs (by rw [E.out]; exact ih))
  simp only [pouchref06_Sort.l0]
  rw [if_pos (by omega)]
theorem sort_ref (L : List S58) (hL : L.length < 3518437208883) : Ev (fun k => pouchref06_Sort.f k L) (Srt.srt keyR L) := by
 have h := sort_l0 (L.toArray.size - 1) 1 L.toArray rfl (by simpa using hL)
 have e := Srt.insertion_srt (key := keyR) L.toArray
 unfold Go.Sort.insertionSort at e
 have e2 : (fun x y : S58 => decide (keyR x < keyR y)) = ltR := rfl
 rw [e2] at e
 rw [e] at h
 refine Ev.congr (fun k => ?_) h
 unfold pouchref06_Sort.f
 simp only [Option.bind_some, List.nil_append, List.length_nil]
 rw [if_pos (by omega)]; rfl
theorem insL_map (x : S58) : ∀ (L : List S58), Srt.srt.insL keyS (toS x) (L.map toS) = (Srt.srt.insL keyR x L).map toS
 | [] => rfl
 | y :: r => by
  rw [List.map_cons, Srt.srt.insL, Srt.srt.insL]
  rw [insL_map x r]
  by_cases h : keyR y < keyR x
  ·have h' : keyS (toS y) < keyS (toS x) := h
   rw [if_pos h, if_pos h']; rfl
  ·have h' : ¬ keyS (toS y) < keyS (toS x) := h
   rw [if_neg h, if_neg h']; rfl
theorem srt_map : ∀ (L : List S58), Srt.srt keyS (L.map toS) = (Srt.srt keyR L).map toS
 | [] => rfl
 | x :: r => by rw [List.map_cons, Srt.srt, Srt.srt, srt_map r, insL_map]
theorem sort_prog (L : List S58) (hL : L.length < 3518437208832) : props_Sort.f (L.map toS) = some ((Srt.srt keyR L).map toS) := by
 unfold props_Sort.f
 rw [List.length_map, if_pos hL, srt_map]
theorem srt_len (L : List S58) : (Srt.srt keyR L).length = L.length := (Srt.srt_stb (key := keyR) L).1.symm
theorem equal_l0 (l m : List S58) (he : l.length = m.length) (hl : l.length < 4611686018427387900) : ∀ (d i : Nat), i + d = l.length → Ev (fun k => slices_Equal_prop_Prop_prop_Prop.l0 k (l.map toS) (m.map toS) (l.length : Int) (i : Int)) (sameR (l.drop i) (m.drop i))
 | 0, i, h => by
  rw [List.drop_eq_nil_of_le (by omega), List.drop_eq_nil_of_le (by omega)]
  exact Ev.step (f := fun _ => some true) (fun k => by simp only [slices_Equal_prop_Prop_prop_Prop.l0]; rw [if_neg (by omega)]) (Ev.now _)
 | d + 1, i, h => by
  have hi : i < l.length := by omega
  have hi2 : i < m.length := by omega
  have k1 : (l.map toS).length = l.length := List.length_map _
  have k2 : (m.map toS).length = m.length := List.length_map _
  have r1 : rd_T60 (l.map toS) (i : Int) = toS l[i] := by rw [rdS _ i (by omega), List.getElem_map]
  have r2 : rd_T60 (m.map toS) (i : Int) = toS m[i] := by rw [rdS _ i (by omega), List.getElem_map]
  rw [List.drop_eq_getElem_cons hi, List.drop_eq_getElem_cons hi2, sameR]
  have E := Aside0.mk (w64_n1 (i := i) (by omega))
  by_cases hq : eqR l[i] m[i] = true
  ·rw [hq, Bool.true_and]
   refine Ev.step (f := fun k => slices_Equal_prop_Prop_prop_Prop.l0 k (l.map toS) (m.map toS) (l.length : Int) ((i + 1 : Nat) : Int)) (fun k => ?_) (equal_l0 l m he hl d (i + 1) (by omega))
   simp only [slices_Equal_prop_Prop_prop_Prop.l0]
   rw [if_pos (by omega), if_pos (by omega), if_pos (by omega), if_pos (by omega), r1, r2, if_neg (fun c => by unfold eqR at hq; rw [Bool.not_eq_true'] at hq; exact Bool.noConfusion (hq.symm.trans c)), E.out]
  ·have hf : eqR l[i] m[i] = false := by simpa using hq
   rw [hf, Bool.false_and]
   refine Ev.step (f := fun _ => some false) (fun k => ?_) (Ev.now _)
   simp only [slices_Equal_prop_Prop_prop_Prop.l0]
   rw [if_pos (by omega), if_pos (by omega), if_pos (by omega), if_pos (by omega), r1, r2, if_pos (by unfold eqR at hf; rw [Bool.not_eq_eq_eq_not, Bool.not_false] at hf; exact hf)]
theorem same_prog (l m : List S58) (hl : l.length < 4611686018427387900) : Ev (fun k => props_Same.f k (l.map toS) (m.map toS)) (sameR l m) := by
 refine Ev.bind (g := fun k => slices_Equal_prop_Prop_prop_Prop.f k (l.map toS) (m.map toS)) (f := fun _ t => some t) ?_ (Ev.now _)
 by_cases he : l.length = m.length
 ·have := equal_l0 l m he hl l.length 0 (by omega)
  rw [List.drop_zero, List.drop_zero] at this
  refine Ev.congr (fun k => ?_) this
  unfold slices_Equal_prop_Prop_prop_Prop.f
  rw [List.length_map, List.length_map, if_pos (by omega)]; rfl
 ·rw [sameR_len l m he]
  refine now fun k => ?_
  unfold slices_Equal_prop_Prop_prop_Prop.f
  rw [List.length_map, List.length_map, if_neg (by omega)]
end Go.Proofs.YtkmkgpigmldhnaaDoor.Pr
namespace Go.Proofs.YtkmkgpigmldhnaaDoor.Pr
open Go Go.RowKit Go.Lib Go.Proofs.YtkmkgpigmldhnaaDoorW.PrintWords Go.Proofs.YtkmkgpigmldhnaaDoorW.PrintLast Go.Proofs.YtkmkgpigmldhnaaDoorW.PrintMore
open Go.Proofs.YtkmkgpigmldhnaaDoor.P
open Go.Proofs.YtkmkgpigmldhnaaDoor.Mq (rightB wildB nameB wild_any)
theorem dl_size (s : ByteArray) : (dl s).length = s.size := (Go.Lib.size_eq s).symm
theorem right_small {a : ByteArray} (h : rightB (dl a) = true) : a.size ≤ 65535 := by
 unfold rightB at h
 rw [dl_size] at h
 simp only [Bool.and_eq_true, decide_eq_true_eq] at h
 exact h.1
theorem wild_f (a : ByteArray) (h : a.size < 4294967281) : topic_Wild.f a = some (wildB (dl a)) := by
 unfold topic_Wild.f strings_ContainsAny.f strings_IndexAny.f
 rw [if_pos rfl, if_pos h]
 simp only [Option.bind_some]
 rw [← wild_any]
theorem name_f (a : ByteArray) : topic_Name.f a = some (nameB (dl a)) := by
 unfold topic_Name.f nameB
 rw [right_prog]
 by_cases h : (dl a).isEmpty = true
 ·rw [if_pos ((nil_toList a).2 h), h]; rfl
 ·rw [if_neg (fun c => h ((nil_toList a).1 c)), show (dl a).isEmpty = false by simpa using h]
  simp only [Option.bind_some, Bool.not_false, Bool.true_and]
  cases hr : rightB (dl a)
  ·simp
  ·rw [if_pos rfl, wild_f a (by have := right_small hr; omega)]; simp
theorem has_l0 (s : ByteArray) (c : UInt8) (hs : s.size ≤ 65535) : ∀ (d i : Nat), i + d = s.size → Ev (fun k => pouchref04_has.l0 k s ((c.toNat : Nat) : Int) (i : Int)) (((dl s).drop i).contains c)
 | 0, i, h => by
  rw [List.drop_eq_nil_of_le (by rw [dl_size]; omega)]
  exact Ev.step (f := fun _ => some false) (fun k => by simp only [pouchref04_has.l0]; rw [if_neg (by omega)]) (Ev.now _)
 | d + 1, i, h => by
  have hi : i < s.size := by omega
  have hl : i < (dl s).length := by rw [dl_size]; exact hi
  have hg : (dl s)[i] = s.get! i := by
   have := getD_get s i 0
   rw [List.drop_eq_getElem_cons hl] at this
   exact this
  have E := Aside0.mk (show wrap64 ((i : Int) + 1) = ((i + 1 : Nat) : Int) by rw [w64 (by omega) (by omega)]; omega)
  rw [List.drop_eq_getElem_cons hl, List.contains_cons, hg]
  by_cases e : c = s.get! i
  ·rw [show (c == s.get! i) = true from beq_iff_eq.2 e, Bool.true_or]
   refine Ev.step (f := fun _ => some true) (fun k => ?_) (Ev.now _)
   simp only [pouchref04_has.l0]
   rw [if_pos (by omega), if_pos (by omega), bt_get s i hi, if_pos (by rw [e])]
  ·rw [show (c == s.get! i) = false from beq_eq_false_iff_ne.2 e, Bool.false_or]
   refine Ev.step (f := fun k => pouchref04_has.l0 k s ((c.toNat : Nat) : Int) ((i + 1 : Nat) : Int)) (fun k => ?_) (has_l0 s c hs d (i + 1) (by omega))
   simp only [pouchref04_has.l0]
   rw [if_pos (by omega), if_pos (by omega), bt_get s i hi, if_neg (fun q => e (UInt8.toNat_inj.1 (by omega))), E.out]
theorem has_ref (s : ByteArray) (c : UInt8) (hs : s.size ≤ 65535) : Ev (fun k => pouchref04_has.f k s ((c.toNat : Nat) : Int)) ((dl s).contains c) := has_l0 s c hs s.size 0 (by omega)
theorem wild_ref (s : ByteArray) (hs : s.size ≤ 65535) : Ev (fun k => pouchref04_Wild.f k s) (wildB (dl s)) := by
 refine Ev.bind (g := fun k => pouchref04_has.f k s 43) (f := fun k t => if t = true then some true else (pouchref04_has.f k s 35).bind fun t => some t) (has_ref s 43 hs) ?_
 unfold wildB
 cases (dl s).contains 43
 ·simp only [Bool.false_or]
  exact Ev.bind (g := fun k => pouchref04_has.f k s 35) (f := fun _ t => some t) (has_ref s 35 hs) (Ev.now _)
 ·simp only [Bool.true_or, if_true]
  exact Ev.now _
theorem name_ref (s : ByteArray) : Ev (fun k => pouchref04_Name.f k s) (nameB (dl s)) := by
 refine Ev.bind (g := fun k => pouchref02_Right.f k s) (f := fun k t => if t = true then (if (s.size : Int) > 0 then (pouchref04_Wild.f k s).bind fun t => some (!t) else some false) else some false) (right_ref s) ?_
 unfold nameB
 cases hr : rightB (dl s)
 ·simp only [Bool.false_and, Bool.and_false, Bool.false_eq_true, if_false]
  exact Ev.now _
 ·simp only [Bool.true_and, if_true]
  by_cases h : (s.size : Int) > 0
  ·simp only [if_pos h]
   have e : (dl s).isEmpty = false := by
    rw [List.isEmpty_eq_false_iff]
    intro c
    have := dl_size s
    rw [c] at this
    simp only [List.length_nil] at this
    omega
   rw [e, Bool.not_false, Bool.true_and]
   exact Ev.bind (g := fun k => pouchref04_Wild.f k s) (f := fun _ t => some (!t)) (wild_ref s (right_small hr)) (Ev.now _)
  ·simp only [if_neg h]
   have e : (dl s).isEmpty = true := by
    rw [List.isEmpty_iff]
    exact List.length_eq_zero_iff.1 (by rw [dl_size]; omega)
   rw [e, Bool.not_true, Bool.false_and]
   exact Ev.now _
def some4 (id : Int) : Bool := decide (id = 11 ∨ id = 33 ∨ id = 35 ∨ id = 39)
def valueP (id n : Int) (a b : ByteArray) : Bool :=
 rightP id n (dl a) (dl b) && (if tyP id = 1 then decide (n ≤ 1) else if some4 id = true then n != 0 else if id = 8 then nameB (dl a) else true)
theorem some4_if (id : Int) (g : Bool → Option Bool) : (if id = 11 then g (id == 11) else (if id = 33 then g (id == 33) else (if id = 35 then g (id == 35) else g (id == 39)))) = g (some4 id) := by
 unfold some4
 by_cases h1 : id = 11
 ·subst h1; rfl
 by_cases h2 : id = 33
 ·subst h2; rfl
 by_cases h3 : id = 35
 ·subst h3; rfl
 rw [if_neg h1, if_neg h2, if_neg h3]
 congr 1
 rw [Bool.eq_iff_iff, beq_iff_eq, decide_eq_true_eq]; omega
theorem value_prog (id n : Int) (a b : ByteArray) : Ev (fun k => prop_Value.f k id n a b) (valueP id n a b) := by
 refine Ev.bind (g := fun k => prop_Right.f k id n a b) (f := fun k t => if t = true then ((prop_Type.f id).bind fun t103 => (if t103 = 1 then (some (decide (n ≤ 1))) else (if id = 11 then (prop_Value.j0 k (id == 11) id n a b) else (if id = 33 then (prop_Value.j0 k (id == 33) id n a b) else (if id = 35 then (prop_Value.j0 k (id == 35) id n a b) else (prop_Value.j0 k (id == 39) id n a b)))))) else some false) (prop_right_ev id n a b) ?_
 unfold valueP
 cases rightP id n (dl a) (dl b)
 ·simp only [Bool.false_and, Bool.false_eq_true, if_false]
  exact Ev.now _
 simp only [Bool.true_and, if_true]
 rw [type_prog]
 simp only [Option.bind_some]
 by_cases h1 : tyP id = 1
 ·simp only [if_pos h1]
  exact Ev.now _
 simp only [if_neg h1]
 refine Ev.congr (f := fun k => prop_Value.j0 k (some4 id) id n a b) (fun k => some4_if id (fun q => prop_Value.j0 k q id n a b)) ?_
 refine Ev.step (f := fun _ => some (if some4 id = true then n != 0 else if id = 8 then nameB (dl a) else true)) (fun k => ?_) (Ev.now _)
 simp only [prop_Value.j0]
 cases some4 id
 ·simp only [Bool.false_eq_true, if_false]
  by_cases h8 : id = 8
  ·simp only [if_pos h8]; rw [name_f]; rfl
  ·simp only [if_neg h8]
 ·simp only [if_true]
def some8 (id : Int) : Bool := decide (id = 1 ∨ id = 23 ∨ id = 25 ∨ id = 36 ∨ id = 37 ∨ id = 40 ∨ id = 41 ∨ id = 42)
theorem some8_tab : ∀ n : Fin 256, some8 ((n.val : Nat) : Int) = decide (tyP ((n.val : Nat) : Int) = 1) := by decide +kernel
theorem some8_ty (id : Int) (h0 : 0 ≤ id) (h1 : id < 256) : some8 id = decide (tyP id = 1) := by
 obtain ⟨n, rfl⟩ := nat_of h0 h1
 exact some8_tab n
theorem some8_if (id : Int) (g : Bool → Option Bool) : (if id = 1 then g (id == 1) else (if id = 23 then g (id == 23) else (if id = 25 then g (id == 25) else (if id = 36 then g (id == 36) else (if id = 37 then g (id == 37) else (if id = 40 then g (id == 40) else (if id = 41 then g (id == 41) else g (id == 42)))))))) = g (some8 id) := by
 unfold some8
 by_cases h1 : id = 1
 ·subst h1; rfl
 by_cases h2 : id = 23
 ·subst h2; rfl
 by_cases h3 : id = 25
 ·subst h3; rfl
 by_cases h4 : id = 36
 ·subst h4; rfl
 by_cases h5 : id = 37
 ·subst h5; rfl
 by_cases h6 : id = 40
 ·subst h6; rfl
 by_cases h7 : id = 41
 ·subst h7; rfl
 rw [if_neg h1, if_neg h2, if_neg h3, if_neg h4, if_neg h5, if_neg h6, if_neg h7]
 congr 1
 rw [Bool.eq_iff_iff, beq_iff_eq, decide_eq_true_eq]; omega
theorem value_ref (id n : Int) (h0 : 0 ≤ id) (h1 : id < 256) (a b : ByteArray) : Ev (fun k => pouchref05_Value.f k id n a b) (valueP id n a b) := by
 refine Ev.bind (g := fun k => pouchref05_Right.f k id n a b) (f := fun k t => if t = true then (if id = 1 then (pouchref05_Value.j0 k id (id == 1) id n a b) else (if id = 23 then (pouchref05_Value.j0 k id (id == 23) id n a b) else (if id = 25 then (pouchref05_Value.j0 k id (id == 25) id n a b) else (if id = 36 then (pouchref05_Value.j0 k id (id == 36) id n a b) else (if id = 37 then (pouchref05_Value.j0 k id (id == 37) id n a b) else (if id = 40 then (pouchref05_Value.j0 k id (id == 40) id n a b) else (if id = 41 then (pouchref05_Value.j0 k id (id == 41) id n a b) else (pouchref05_Value.j0 k id (id == 42) id n a b)))))))) else some false) (ref_right id n h0 h1 a b) ?_
 unfold valueP
 cases rightP id n (dl a) (dl b)
 ·simp only [Bool.false_and, Bool.false_eq_true, if_false]
  exact Ev.now _
 simp only [Bool.true_and, if_true]
 refine Ev.congr (f := fun k => pouchref05_Value.j0 k id (some8 id) id n a b) (fun k => some8_if id (fun q => pouchref05_Value.j0 k id q id n a b)) ?_
 rw [some8_ty id h0 h1]
 by_cases hy : tyP id = 1
 ·rw [decide_eq_true hy, if_pos hy]
  refine Ev.step (f := fun _ => some (decide (n ≤ 1))) (fun k => ?_) (Ev.now _)
  simp only [pouchref05_Value.j0, if_true]
  rw [show decide (n < 2) = decide (n ≤ 1) from decide_eq_decide.2 (by omega)]
 rw [decide_eq_false hy, if_neg hy]
 refine Ev.step (f := fun k => pouchref05_Value.j1 k id (some4 id) id n a b) (fun k => ?_) ?_
 ·simp only [pouchref05_Value.j0, Bool.false_eq_true, if_false]
  exact some4_if id (fun q => pouchref05_Value.j1 k id q id n a b)
 cases some4 id
 ·by_cases h8 : id = 8
  ·simp only [Bool.false_eq_true, if_false, if_pos h8]
   refine Ev.step (f := fun k => (pouchref04_Name.f k a).bind fun t => some t) (fun k => ?_) (Ev.bind (g := fun k => pouchref04_Name.f k a) (f := fun _ t => some t) (name_ref a) (Ev.now _))
   simp only [pouchref05_Value.j1, Bool.false_eq_true, if_false, if_pos h8]
  ·simp only [Bool.false_eq_true, if_false, if_neg h8]
   refine Ev.step (f := fun _ => some true) (fun k => ?_) (Ev.now _)
   simp only [pouchref05_Value.j1, Bool.false_eq_true, if_false, if_neg h8]
 ·simp only [if_true]
  refine Ev.step (f := fun _ => some (n != 0)) (fun k => ?_) (Ev.now _)
  simp only [pouchref05_Value.j1, if_true]
end Go.Proofs.YtkmkgpigmldhnaaDoor.Pr
namespace Go.Proofs.YtkmkgpigmldhnaaDoor.Pr
open Go Go.RowKit Go.Lib Go.Proofs.YtkmkgpigmldhnaaDoorW.PrintWords Go.Proofs.YtkmkgpigmldhnaaDoorW.PrintLast Go.Proofs.YtkmkgpigmldhnaaDoorW.PrintMore
open Go.Proofs.YtkmkgpigmldhnaaDoor.P
def WfR (L : List S58) : Prop := ∀ p ∈ L, 0 ≤ p.f0 ∧ p.f0 < 256
def prevF (L : List S58) : Nat → Option Int
 | 0 => none
 | j + 1 => (L[j]?).map (fun p => p.f0)
def ordOk (kind : Int) : Option Int → Int → Bool
 | none, _ => true
 | some a, b => if a > b then false else if a = b then oftenP b kind else true
theorem ordOk_some (kind a b : Int) : ordOk kind (some a) b = (if a > b then false else if a = b then oftenP b kind else true) := rfl
def chkL (kind : Int) : Option Int → List S58 → Bool
 | _, [] => true
 | pr, p :: r => (valueP p.f0 p.f1 p.f2 p.f3 && (kindsP p.f0).contains kind) && (ordOk kind pr p.f0 && chkL kind (some p.f0) r)
def chkEnd (L : List S58) : Bool := (getR L 21).2.2.2.2 || !(getR L 22).2.2.2.2
def chkR (kind : Int) (L : List S58) : Bool := decide (L.length ≤ 1024) && (chkL kind none L && chkEnd L)
theorem prevF_succ (L : List S58) (i : Nat) (h : i < L.length) : prevF L (i + 1) = some L[i].f0 := by
 show (L[i]?).map (fun p => p.f0) = _
 rw [List.getElem?_eq_getElem h]; rfl
theorem rdT (L : List S58) (i : Nat) (h : i < L.length) : rd_T60 (L.map toS) (i : Int) = toS L[i] := by
 rw [rdS _ i (by rw [List.length_map]; exact h), List.getElem_map]
theorem pchk_j1 (kind : Int) (L : List S58) (hL : L.length ≤ 1024) (i : Nat) (hi : i < L.length) (b R : Bool)
  (ih : Ev (fun k => props_Check.l0 k kind (L.map toS) (L.map toS) (L.length : Int) ((i + 1 : Nat) : Int)) R) :
  Ev (fun k => props_Check.j1 k kind (L.map toS) (i : Int) (L.map toS) (L.length : Int) (i : Int) b L[i].f0 L[i].f1 L[i].f2 L[i].f3) (!b && (ordOk kind (prevF L i) L[i].f0 && R)) := by
 have E := Aside0.mk (w64_n1 (i := i) (by omega))
 have k1 : (L.map toS).length = L.length := List.length_map _
 cases b
 ·rw [Bool.not_false, Bool.true_and]
  cases i with
  | zero =>
   refine Ev.step (f := fun k => props_Check.l0 k kind (L.map toS) (L.map toS) (L.length : Int) ((0 + 1 : Nat) : Int)) (fun k => ?_) (by simpa [prevF, ordOk] using ih)
   simp only [props_Check.j1, Bool.false_eq_true, if_false]
   rw [if_pos (by omega), E.out]
  | succ j =>
   have hj : j < L.length := by omega
   have E2 := Aside0.mk (show wrap64 (((j + 1 : Nat) : Int) - 1) = (j : Int) by rw [w64 (by omega) (by omega)]; omega)
   rw [prevF_succ L j hj]
   have hs : ∀ k, props_Check.j1 (k + 1) kind (L.map toS) ((j + 1 : Nat) : Int) (L.map toS) (L.length : Int) ((j + 1 : Nat) : Int) false L[j + 1].f0 L[j + 1].f1 L[j + 1].f2 L[j + 1].f3 = if L[j].f0 > L[j + 1].f0 then some false else if L[j].f0 = L[j + 1].f0 then (if oftenP L[j + 1].f0 kind = true then props_Check.l0 k kind (L.map toS) (L.map toS) (L.length : Int) ((j + 1 + 1 : Nat) : Int) else some false) else props_Check.l0 k kind (L.map toS) (L.map toS) (L.length : Int) ((j + 1 + 1 : Nat) : Int) := by
    intro k
    simp only [props_Check.j1, Bool.false_eq_true, if_false]
    rw [if_neg (by omega), E2.out, if_pos (by omega), if_pos (by omega), rdT L j hj, E.out, often_prog]; rfl
   rw [ordOk_some]
   by_cases h1 : L[j].f0 > L[j + 1].f0
   ·rw [if_pos h1, Bool.false_and]
    exact Ev.step (f := fun _ => some false) (fun k => by rw [hs k, if_pos h1]) (Ev.now _)
   rw [if_neg h1]
   by_cases h2 : L[j].f0 = L[j + 1].f0
   ·rw [if_pos h2]
    cases ho : oftenP L[j + 1].f0 kind
    ·rw [Bool.false_and]
     exact Ev.step (f := fun _ => some false) (fun k => by rw [hs k, if_neg h1, if_pos h2, ho, if_neg (by decide)]) (Ev.now _)
    ·rw [Bool.true_and]
     exact Ev.step (fun k => by rw [hs k, if_neg h1, if_pos h2, ho, if_pos rfl]) ih
   ·rw [if_neg h2, Bool.true_and]
    exact Ev.step (fun k => by rw [hs k, if_neg h1, if_neg h2]) ih
 ·rw [Bool.not_true, Bool.false_and]
  refine Ev.step (f := fun _ => some false) (fun k => ?_) (Ev.now _)
  simp only [props_Check.j1, if_true]
theorem pchk_l0 (kind : Int) (L : List S58) (hL : L.length ≤ 1024) : ∀ (d i : Nat), i + d = L.length → Ev (fun k => props_Check.l0 k kind (L.map toS) (L.map toS) (L.length : Int) (i : Int)) (chkL kind (prevF L i) (L.drop i) && chkEnd L)
 | 0, i, h => by
  rw [List.drop_eq_nil_of_le (by omega)]
  refine Ev.step (f := fun _ => some (chkEnd L)) (fun k => ?_) (by simpa [chkL] using Ev.now _)
  simp only [props_Check.l0]
  rw [if_neg (by omega), get_prog L 22 (by omega), get_prog L 21 (by omega)]
  simp only [Option.bind_some]
  unfold chkEnd
  cases (getR L 21).2.2.2.2 <;> simp
 | d + 1, i, h => by
  have hi : i < L.length := by omega
  have k1 : (L.map toS).length = L.length := List.length_map _
  have ih := pchk_l0 kind L hL d (i + 1) (by omega)
  rw [prevF_succ L i hi] at ih
  rw [List.drop_eq_getElem_cons hi, chkL]
  have hj := fun b => pchk_j1 kind L hL i hi b _ ih
  refine Ev.step (f := fun k => (prop_Value.f k L[i].f0 L[i].f1 L[i].f2 L[i].f3).bind fun t => if t = true then props_Check.j1 k kind (L.map toS) (i : Int) (L.map toS) (L.length : Int) (i : Int) (!((kindsP L[i].f0).contains kind)) L[i].f0 L[i].f1 L[i].f2 L[i].f3 else props_Check.j1 k kind (L.map toS) (i : Int) (L.map toS) (L.length : Int) (i : Int) true L[i].f0 L[i].f1 L[i].f2 L[i].f3) (fun k => ?_) ?_
  ·simp only [props_Check.l0]
   rw [if_pos (by omega), if_pos (by omega), if_pos (by omega), rdT L i hi, for_prog]; rfl
  refine Ev.bind (g := fun k => prop_Value.f k L[i].f0 L[i].f1 L[i].f2 L[i].f3) (f := fun k t => if t = true then props_Check.j1 k kind (L.map toS) (i : Int) (L.map toS) (L.length : Int) (i : Int) (!((kindsP L[i].f0).contains kind)) L[i].f0 L[i].f1 L[i].f2 L[i].f3 else props_Check.j1 k kind (L.map toS) (i : Int) (L.map toS) (L.length : Int) (i : Int) true L[i].f0 L[i].f1 L[i].f2 L[i].f3) (value_prog _ _ _ _) ?_
  cases valueP L[i].f0 L[i].f1 L[i].f2 L[i].f3
  ·simp only [Bool.false_eq_true, if_false]
   simpa using hj true
  ·simp only [if_true]
   have := hj (!((kindsP L[i].f0).contains kind))
   rw [Bool.not_not] at this
   rw [Bool.true_and, Bool.and_assoc, Bool.and_assoc]
   exact this
theorem check_prog (kind : Int) (L : List S58) : Ev (fun k => props_Check.f k kind (L.map toS)) (chkR kind L) := by
 unfold chkR
 have k1 : (L.map toS).length = L.length := List.length_map _
 by_cases h : L.length ≤ 1024
 ·rw [decide_eq_true h, Bool.true_and]
  have := pchk_l0 kind L h L.length 0 (by omega)
  rw [List.drop_zero] at this
  refine Ev.congr (fun k => ?_) this
  unfold props_Check.f
  rw [if_neg (by omega), k1]; rfl
 ·rw [decide_eq_false h, Bool.false_and]
  refine Ev.congr (f := fun _ => some false) (fun k => ?_) (Ev.now _)
  unfold props_Check.f
  rw [if_pos (by omega)]
theorem rchk_j1 (kind : Int) (L : List S58) (hw : WfR L) (hL : L.length ≤ 1024) (i : Nat) (hi : i < L.length) (b R : Bool)
  (ih : Ev (fun k => pouchref06_Check.l0 k kind L ((i + 1 : Nat) : Int)) R) :
  Ev (fun k => pouchref06_Check.j1 k kind L (i : Int) b) (!b && (ordOk kind (prevF L i) L[i].f0 && R)) := by
 have E := Aside0.mk (w64_n1 (i := i) (by omega))
 cases b
 ·rw [Bool.not_false, Bool.true_and]
  cases i with
  | zero =>
   refine Ev.step (f := fun k => pouchref06_Check.l0 k kind L ((0 + 1 : Nat) : Int)) (fun k => ?_) (by simpa [prevF, ordOk] using ih)
   simp only [pouchref06_Check.j1, Bool.false_eq_true, if_false]
   rw [if_neg (by omega), E.out]
  | succ j =>
   have hj : j < L.length := by omega
   have E2 := Aside0.mk (show wrap64 (((j + 1 : Nat) : Int) - 1) = (j : Int) by rw [w64 (by omega) (by omega)]; omega)
   rw [prevF_succ L j hj]
   have hs : ∀ k, pouchref06_Check.j1 (k + 1) kind L ((j + 1 : Nat) : Int) false = if L[j].f0 > L[j + 1].f0 then some false else if L[j].f0 = L[j + 1].f0 then ((pouchref05_Often.f k L[j + 1].f0 kind).bind fun t => if t = true then pouchref06_Check.l0 k kind L ((j + 1 + 1 : Nat) : Int) else some false) else pouchref06_Check.l0 k kind L ((j + 1 + 1 : Nat) : Int) := by
    intro k
    simp only [pouchref06_Check.j1, Bool.false_eq_true, if_false]
    rw [if_pos (by omega), E2.out, if_pos (by omega), if_pos (by omega), if_pos (by omega), if_pos (by omega), rdR L j hj, rdR L (j + 1) hi, E.out]
   have hp := hw L[j + 1] (List.getElem_mem hi)
   rw [ordOk_some]
   by_cases h1 : L[j].f0 > L[j + 1].f0
   ·rw [if_pos h1, Bool.false_and]
    exact Ev.step (f := fun _ => some false) (fun k => by rw [hs k, if_pos h1]) (Ev.now _)
   rw [if_neg h1]
   by_cases h2 : L[j].f0 = L[j + 1].f0
   ·rw [if_pos h2]
    refine Ev.step (f := fun k => (pouchref05_Often.f k L[j + 1].f0 kind).bind fun t => if t = true then pouchref06_Check.l0 k kind L ((j + 1 + 1 : Nat) : Int) else some false) (fun k => by rw [hs k, if_neg h1, if_pos h2]) ?_
    refine Ev.bind (g := fun k => pouchref05_Often.f k L[j + 1].f0 kind) (f := fun k t => if t = true then pouchref06_Check.l0 k kind L ((j + 1 + 1 : Nat) : Int) else some false) (often_ref _ kind hp.1 hp.2) ?_
    cases oftenP L[j + 1].f0 kind
    ·rw [Bool.false_and]
     exact Ev.congr (f := fun _ => some false) (fun k => by rw [if_neg (by decide)]) (Ev.now _)
    ·rw [Bool.true_and]
     exact Ev.congr (fun k => by rw [if_pos rfl]) ih
   ·rw [if_neg h2, Bool.true_and]
    exact Ev.step (fun k => by rw [hs k, if_neg h1, if_neg h2]) ih
 ·rw [Bool.not_true, Bool.false_and]
  refine Ev.step (f := fun _ => some false) (fun k => ?_) (Ev.now _)
  simp only [pouchref06_Check.j1, if_true]
theorem rchk_l0 (kind : Int) (L : List S58) (hw : WfR L) (hL : L.length ≤ 1024) : ∀ (d i : Nat), i + d = L.length → Ev (fun k => pouchref06_Check.l0 k kind L (i : Int)) (chkL kind (prevF L i) (L.drop i) && chkEnd L)
 | 0, i, h => by
  rw [List.drop_eq_nil_of_le (by omega)]
  refine Ev.step (f := fun k => (pouchref06_Get.f k L 22).bind fun bt101 => ((pouchref06_Get.f k L 21).bind fun bt107 => (if bt107.2.2.2.2 = true then (some true) else (some (!bt101.2.2.2.2))))) (fun k => ?_) ?_
  ·simp only [pouchref06_Check.l0]
   rw [if_neg (by omega)]
  rw [chkL, Bool.true_and]
  refine Ev.bind (g := fun k => pouchref06_Get.f k L 22) (f := fun k bt101 => (pouchref06_Get.f k L 21).bind fun bt107 => (if bt107.2.2.2.2 = true then (some true) else (some (!bt101.2.2.2.2)))) (get_ref L 22 (by omega)) ?_
  refine Ev.bind (g := fun k => pouchref06_Get.f k L 21) (f := fun _ bt107 => (if bt107.2.2.2.2 = true then (some true) else (some (!(getR L 22).2.2.2.2)))) (get_ref L 21 (by omega)) ?_
  unfold chkEnd
  cases (getR L 21).2.2.2.2
  ·rw [Bool.false_or, if_neg (by decide)]; exact Ev.now _
  ·rw [Bool.true_or, if_pos rfl]; exact Ev.now _
 | d + 1, i, h => by
  have hi : i < L.length := by omega
  have ih := rchk_l0 kind L hw hL d (i + 1) (by omega)
  have hp := hw L[i] (List.getElem_mem hi)
  rw [prevF_succ L i hi] at ih
  rw [List.drop_eq_getElem_cons hi, chkL]
  have hj := fun b => rchk_j1 kind L hw hL i hi b _ ih
  refine Ev.step (f := fun k => (pouchref05_Value.f k L[i].f0 L[i].f1 L[i].f2 L[i].f3).bind fun t => if t = true then (pouchref05_For.f k L[i].f0 kind).bind fun t116 => pouchref06_Check.j1 k kind L (i : Int) (!t116) else pouchref06_Check.j1 k kind L (i : Int) true) (fun k => ?_) ?_
  ·simp only [pouchref06_Check.l0]
   rw [if_pos (by omega), if_pos (by omega), rdR L i hi]
  refine Ev.bind (g := fun k => pouchref05_Value.f k L[i].f0 L[i].f1 L[i].f2 L[i].f3) (f := fun k t => if t = true then (pouchref05_For.f k L[i].f0 kind).bind fun t116 => pouchref06_Check.j1 k kind L (i : Int) (!t116) else pouchref06_Check.j1 k kind L (i : Int) true) (value_ref _ _ hp.1 hp.2 _ _) ?_
  cases valueP L[i].f0 L[i].f1 L[i].f2 L[i].f3
  ·simp only [Bool.false_eq_true, if_false]
   simpa using hj true
  ·simp only [if_true]
   refine Ev.bind (g := fun k => pouchref05_For.f k L[i].f0 kind) (f := fun k t116 => pouchref06_Check.j1 k kind L (i : Int) (!t116)) (for_ref _ kind hp.1 hp.2) ?_
   have := hj (!((kindsP L[i].f0).contains kind))
   rw [Bool.not_not] at this
   rw [Bool.true_and, Bool.and_assoc, Bool.and_assoc]
   exact this
theorem check_ref (kind : Int) (L : List S58) (hw : WfR L) : Ev (fun k => pouchref06_Check.f k kind L) (chkR kind L) := by
 unfold chkR
 by_cases h : L.length ≤ 1024
 ·rw [decide_eq_true h, Bool.true_and]
  have := rchk_l0 kind L hw h L.length 0 (by omega)
  rw [List.drop_zero] at this
  refine Ev.congr (fun k => ?_) this
  unfold pouchref06_Check.f
  rw [if_neg (by omega)]; rfl
 ·rw [decide_eq_false h, Bool.false_and]
  refine Ev.congr (f := fun _ => some false) (fun k => ?_) (Ev.now _)
  unfold pouchref06_Check.f
  rw [if_pos (by omega)]
end Go.Proofs.YtkmkgpigmldhnaaDoor.Pr
