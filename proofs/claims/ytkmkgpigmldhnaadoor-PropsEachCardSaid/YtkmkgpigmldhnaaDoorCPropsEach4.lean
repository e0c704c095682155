import Derived.Test.YtkmkgpigmldhnaaDoorCPropsEach0
import Derived.Test.YtkmkgpigmldhnaaDoorCPropsEach1
import Derived.Test.YtkmkgpigmldhnaaDoorCPropsEach2
import Derived.Test.YtkmkgpigmldhnaaDoorCPropsEach3
namespace Go.Proofs.YtkmkgpigmldhnaaDoor.P
open Go.RowKit Go.Proofs.YtkmkgpigmldhnaaDoorW.PrintWords Go.Proofs.YtkmkgpigmldhnaaDoorW.PrintLast Go.Proofs.YtkmkgpigmldhnaaDoorW.PrintMore
attribute [local go_sem] max2_int min2_int max_two min_two max_three min_three max_four min_four
set_option linter.unusedVariables false
set_option linter.unusedSimpArgs false
mutual
def props_Check.l0 : Nat → Int → List (S60) → List (S60) → Int → Int → Option (Bool)
  | 0, _, _, _, _, _ => none
  | k + 1, x0, x1, x15, x16, x17 => if x17 < x16 then (if 0 ≤ x17 then (if x17 < (x15.length : Int) then ((prop_Value.f k ((rd_T60 x15 x17).f0) ((rd_T60 x15 x17).f1) ((rd_T60 x15 x17).f2) ((rd_T60 x15 x17).f3)).bind fun t115 => (if t115 = true then ((prop_For.f ((rd_T60 x15 x17).f0) x0).bind fun t116 => (props_Check.j1 k x0 x1 x17 x15 x16 x17 (!t116) ((rd_T60 x15 x17).f0) ((rd_T60 x15 x17).f1) ((rd_T60 x15 x17).f2) ((rd_T60 x15 x17).f3))) else (props_Check.j1 k x0 x1 x17 x15 x16 x17 true ((rd_T60 x15 x17).f0) ((rd_T60 x15 x17).f1) ((rd_T60 x15 x17).f2) ((rd_T60 x15 x17).f3)))) else (none)) else (none)) else ((props_Get.f x1 22).bind fun bt101 => ((props_Get.f x1 21).bind fun bt107 => (if bt107.2.2.2.2 = true then (some true) else (some (!bt101.2.2.2.2)))))
def props_Check.j1 : Nat → Int → List (S60) → Int → List (S60) → Int → Int → Bool → Int → Int → ByteArray → ByteArray → Option (Bool)
  | 0, _, _, _, _, _, _, _, _, _, _, _ => none
  | k + 1, x0, x1, x5, x15, x16, x17, x31, x115000, x115001, x115002, x115003 => if x31 = true then (some false) else (if x5 = 0 then (props_Check.l0 k x0 x1 x15 x16 (wrap64 (x17 + 1))) else (if 0 ≤ (wrap64 (x5 - 1)) then (if (wrap64 (x5 - 1)) < (x1.length : Int) then (if ((rd_T60 x1 (wrap64 (x5 - 1))).f0) > x115000 then (some false) else (if ((rd_T60 x1 (wrap64 (x5 - 1))).f0) = x115000 then ((prop_Often.f x115000 x0).bind fun t118 => (if t118 = true then (props_Check.l0 k x0 x1 x15 x16 (wrap64 (x17 + 1))) else (some false))) else (props_Check.l0 k x0 x1 x15 x16 (wrap64 (x17 + 1))))) else (none)) else (none)))
end
def props_Check.f (k : Nat) (a0 : Int) (l1 : List (S60)) : Option (Bool) := if (l1.length : Int) > 1024 then (some false) else (props_Check.l0 k a0 l1 l1 (l1.length : Int) 0)
theorem z30m0 {p : Prop} (h : p := by
 repeat' first
 | (with_reducible exact ih0 _ _ _ _ _)
 | (with_reducible exact ih1 _ _ _ _ _ _ _ _ _ _ _)
 | (with_reducible exact prop_Value.mono _ _ _ _ _)
 | (with_reducible exact LeO.refl _)
 | (with_reducible exact LeO.none _)
 | (with_reducible refine LeO.ite ?_ ?_)
 | (with_reducible refine LeO.bind ?_ (fun _ => ?_))
 | exact ih0 _ _ _ _ _
 | exact ih1 _ _ _ _ _ _ _ _ _ _ _
 | exact prop_Value.mono _ _ _ _ _
 | exact LeO.none _
 | refine LeO.ite ?_ ?_
 | refine LeO.bind ?_ (fun _ => ?_)) : p := h
theorem props_Check.mono_l : ∀ k, (∀ y0 y1 y2 y3 y4, LeO (props_Check.l0 k y0 y1 y2 y3 y4) (props_Check.l0 (k + 1) y0 y1 y2 y3 y4)) ∧ (∀ y0 y1 y2 y3 y4 y5 y6 y7 y8 y9 y10, LeO (props_Check.j1 k y0 y1 y2 y3 y4 y5 y6 y7 y8 y9 y10) (props_Check.j1 (k + 1) y0 y1 y2 y3 y4 y5 y6 y7 y8 y9 y10))
  | 0 => ⟨fun _ _ _ _ _ r h => by simp [props_Check.l0] at h, fun _ _ _ _ _ _ _ _ _ _ _ r h => by simp [props_Check.j1] at h⟩
  | k + 1 => by
    obtain ⟨ih0, ih1⟩ := props_Check.mono_l k
    refine ⟨?_, ?_⟩
    · intro y0 y1 y2 y3 y4
      unfold props_Check.l0
      exact z30m0
    · intro y0 y1 y2 y3 y4 y5 y6 y7 y8 y9 y10
      unfold props_Check.j1
      exact z30m0
theorem props_Check.mono : ∀ a0 a1 k, LeO (props_Check.f k a0 a1) (props_Check.f (k + 1) a0 a1) := by
  intro a0 a1 k
  obtain ⟨ih0, ih1⟩ := props_Check.mono_l k
  unfold props_Check.f
  exact z30m0
theorem z30z0 {p : Prop} (h : p := by repeat (first | (with_reducible first | exact HB.out | apply below_alloc | apply pw_below_drewN | apply below_drew1 | refine below_set ?_ GE106.out) | exact HB.out)) : p := h
theorem z30z1 {p : Prop} (h : p := by repeat (first | (with_reducible first | exact HB.out | apply below_alloc | apply pw_below_drewN | apply below_drew1) | exact HB.out)) : p := h
theorem z30z2 {p : Prop} (h : p := by (with_reducible repeat (first | refine blk_drewN ?_ _ | refine blk_drew ?_ | refine blk_alloc ?_ _)); refine blk_put (cs := #[.int .u8 ((rd_T60 l1 x17_1).f0), .int .u32 ((rd_T60 l1 x17_1).f1), .string ((rd_T60 l1 x17_1).f2), .string (⟨#[]⟩ : ByteArray)]) ?_ 3 _ rfl; (with_reducible repeat (first | refine blk_drewN ?_ _ | refine blk_drew ?_ | refine blk_alloc ?_ _)); refine blk_put (cs := #[.int .u8 ((rd_T60 l1 x17_1).f0), .int .u32 ((rd_T60 l1 x17_1).f1), .string (⟨#[]⟩ : ByteArray), .string (⟨#[]⟩ : ByteArray)]) ?_ 2 _ rfl; (with_reducible repeat (first | refine blk_drewN ?_ _ | refine blk_drew ?_ | refine blk_alloc ?_ _)); refine blk_put (cs := #[.int .u8 ((rd_T60 l1 x17_1).f0), .int .u32 0, .string (⟨#[]⟩ : ByteArray), .string (⟨#[]⟩ : ByteArray)]) ?_ 1 _ rfl; (with_reducible repeat (first | refine blk_drewN ?_ _ | refine blk_drew ?_ | refine blk_alloc ?_ _)); refine blk_put (cs := #[.int .u8 0, .int .u32 0, .string (⟨#[]⟩ : ByteArray), .string (⟨#[]⟩ : ByteArray)]) ?_ 0 _ rfl; (with_reducible repeat (first | refine blk_drewN ?_ _ | refine blk_drew ?_ | refine blk_alloc ?_ _)); exact BK114.out) : p := h
theorem z30z3 {p : Prop} (h : p := by (with_reducible repeat (first | refine blk_drewN ?_ _ | refine blk_drew ?_ | refine blk_alloc ?_ _)); refine blk_put (cs := #[.int .u8 t101, .int .u32 t102, .string t103, .string (⟨#[]⟩ : ByteArray)]) ?_ 3 _ rfl; (with_reducible repeat (first | refine blk_drewN ?_ _ | refine blk_drew ?_ | refine blk_alloc ?_ _)); refine blk_put (cs := #[.int .u8 t101, .int .u32 t102, .string (⟨#[]⟩ : ByteArray), .string (⟨#[]⟩ : ByteArray)]) ?_ 2 _ rfl; (with_reducible repeat (first | refine blk_drewN ?_ _ | refine blk_drew ?_ | refine blk_alloc ?_ _)); refine blk_put (cs := #[.int .u8 t101, .int .u32 0, .string (⟨#[]⟩ : ByteArray), .string (⟨#[]⟩ : ByteArray)]) ?_ 1 _ rfl; (with_reducible repeat (first | refine blk_drewN ?_ _ | refine blk_drew ?_ | refine blk_alloc ?_ _)); refine blk_put (cs := #[.int .u8 0, .int .u32 0, .string (⟨#[]⟩ : ByteArray), .string (⟨#[]⟩ : ByteArray)]) ?_ 0 _ rfl; (with_reducible repeat (first | refine blk_drewN ?_ _ | refine blk_drew ?_ | refine blk_alloc ?_ _)); exact BK106.out) : p := h
theorem z30z4 {p : Prop} (h : p := by repeat (first | (with_reducible first | exact HB.out | apply below_alloc | apply pw_below_drewN | apply below_drew1 | refine below_set ?_ GE114.out) | exact HB.out)) : p := h
theorem z30z5 {p : Prop} (h : p := by (try simp only [List.map_toArray, List.map_cons, List.map_nil]); first | done | rfl | (simp only [List.length_drop, List.length_take]; rfl)) : p := h
theorem z30z6 {p : Prop} (h : p := by (with_reducible repeat (first | refine blk_drewN ?_ _ | refine blk_drew ?_ | refine blk_alloc ?_ _)); exact BK106.out) : p := h
theorem z30z7 {p : Prop} (h : p := by first | (with_reducible assumption) | assumption) : p := h
theorem z30z8 {p : Prop} (h : p := by (with_reducible repeat (first | refine blk_drewN ?_ _ | refine blk_drew ?_ | refine blk_alloc ?_ _)); exact BK114.out) : p := h
theorem z30z9 {p : Prop} (h : p := by first | rfl | (simp; done) | (simp [*]; done)) : p := h
theorem z30z10 {p : Prop} (h : p := by repeat (first | exact (Kd.C_below HR1.out HB.out) | (with_reducible refine Kd.C_alloc ?_ _) | (with_reducible refine Kd.C_drewN ?_ _) | (with_reducible refine Kd.C_drew ?_))) : p := h
theorem z30z11 {p : Prop} (h : p := by first | (go_simp; done) | (go_simp; rfl)) : p := h
set_option maxHeartbeats 8000000 in
set_option maxRecDepth 100000 in
theorem props_Check.calls (k : Nat) (a0 : Int) (A1 : Option Addr) (c1 : Nat) (l1 : List (S60)) (r : Bool) (w : World) (hr1 : Kd.C k60 w A1 l1.length l1) (hc1 : l1.length ≤ c1) (hG : GW w) (h : props_Check.f k a0 l1 = some r) :
  Calls Tryd.prog 30 #[.int .i64 a0, .slice A1 l1.length c1] w fun e w' => e = .returned (.bool r) ∧ Below w.heap.size w w' := by
 have hu60 := Tryd.underlying60
 have HR1 := Aside0.mk hr1
 have HC1 := Aside0.mk hc1
 clear hr1 hc1
 have HB := Aside0.mk (Below.refl w.heap.size w)
 have HG := Aside0.mk hG
 clear hG
 have H : (if (l1.length : Int) > 1024 then (some false) else (props_Check.l0 k a0 l1 l1 (l1.length : Int) 0)) = some r := h
 clear h
 by_cases c3 : (l1.length : Int) > 1024
 ·rw [if_pos c3] at H
  have c3b0 : decide (1024 < (l1.length : Int)) = true := decide_eq_true c3
  have c3b1 : decide (1024 < l1.length) = true := decide_eq_true (by omega)
  clear c3
  obtain rfl := Option.some.inj H
  go_enter Tryd.func30, Tryd.ntmps30
  go_wp2
  go_ret
  exact ⟨by first | rfl | (simp [errW_none, errW_some] <;> rfl) | (simp [*, errW_none, errW_some] <;> rfl), by repeat (first | (with_reducible first | exact HB.out | apply below_alloc | apply pw_below_drewN | apply below_drew1) | exact HB.out)⟩
 ·rw [if_neg c3] at H
  have c3b0 : decide (1024 < (l1.length : Int)) = false := decide_eq_false c3
  have c3b1 : decide (1024 < l1.length) = false := decide_eq_false (by omega)
  clear c3
  have H' := Aside0.mk H
  clear H
  go_enter Tryd.func30, Tryd.ntmps30
  go_wp2
  go_loopg [17] k (fun kq v17 w' => ∃ (x17_1 : Int), v17 = .int .i64 x17_1 ∧ Aside0 (props_Check.l0 kq a0 l1 l1 (l1.length : Int) x17_1 = some r) ∧ Aside0 (kq ≤ k) ∧ Aside0 (Below w.heap.size w w'))
  case atStart => exact ⟨(0), z30z9, H', ⟨Nat.le_refl _⟩, ⟨by repeat (first | (with_reducible first | exact HB.out | apply below_alloc | apply pw_below_drewN | apply below_drew1) | exact HB.out)⟩⟩
  case round =>
   clear H'
   try clear c1
   try clear p2
   try clear c3
   try clear c3b0
   try clear c3b1
   obtain ⟨x17_1, rfl, HA, HK1, HB⟩ := hrel
   cases gk with
   | zero => exact absurd HA.out (by simp [props_Check.l0])
   | succ k1 =>
    have H := HA.out
    clear HA
    simp only [props_Check.l0] at H
    by_cases c4 : x17_1 < (l1.length : Int)
    ·rw [if_pos c4] at H
     have c4b0 : decide (x17_1 < (l1.length : Int)) = true := decide_eq_true c4
     clear c4
     by_cases c5 : 0 ≤ x17_1
     ·rw [if_pos c5] at H
      have c5b0 : decide (0 ≤ x17_1) = true := decide_eq_true c5
      clear c5
      by_cases c6 : x17_1 < (l1.length : Int)
      ·rw [if_pos c6] at H
       have c6b0 : decide (x17_1 < (l1.length : Int)) = true := decide_eq_true c6
       clear c6
       have HC7 := Aside0.mk H
       clear H
       have p113 : 0 ≤ (x17_1 : Int) := of_decide_eq_true z30z7
       have q113 : x17_1 < (l1.length : Int) := of_decide_eq_true z30z7
       obtain ⟨ad113, e113, hx113_0, hx113_1, hx113_2, hx113_3⟩ := at_T60 HR1.out x17_1 p113 q113
       cases e113
       replace hx113_0 := (HB.out.cell (World.block_lt_of_cell? w _ hx113_0)).trans hx113_0
       replace hx113_1 := (HB.out.cell (World.block_lt_of_cell? w _ hx113_1)).trans hx113_1
       replace hx113_2 := (HB.out.cell (World.block_lt_of_cell? w _ hx113_2)).trans hx113_2
       replace hx113_3 := (HB.out.cell (World.block_lt_of_cell? w _ hx113_3)).trans hx113_3
       replace p113 := eq_true p113
       replace q113 := eq_true q113
       go_upto_region 6 with (first | ((with_reducible refine gate_dst (N := 6) rfl ?_); refine box_event ?hg (N := 6) ?hd (cs := #[.int .u8 0, .int .u32 0, .string (⟨#[]⟩ : ByteArray), .string (⟨#[]⟩ : ByteArray)]) (t := 60) ?hr ?_; (case hd => rfl); (case hg => rfl); (case hr => exact z30z11); intro gb114 hg w8 hbox hb; have n0_ := Aside0.mk (below_step z30z1 hb); have n1_ := Aside0.mk (hbox); have n2_ := Aside0.mk ((by rw [hg]; exact (below_size z30z1) : w.heap.size ≤ gb114)); have n3_ := Aside0.mk ((by rw [hg]; exact (below_size z30z1) : w.heap.size ≤ gb114)); replace HB := n0_; have BK114 := n1_; have GW114 := n2_; have GE114 := n3_; clear n0_ n1_ n2_ n3_; clear hb hbox hg; have hcz9_0 := cc4_0 BK114.out; have hcz9_1 := cc4_1 BK114.out; have hcz9_2 := cc4_2 BK114.out; have hcz9_3 := cc4_3 BK114.out; have hfz9_0 := blk_frozen BK114.out 0; have hfz9_1 := blk_frozen BK114.out 1; have hfz9_2 := blk_frozen BK114.out 2; have hfz9_3 := blk_frozen BK114.out 3))
       (try simp only [Act.put, List.setIfInBounds_toArray, List.set_cons_zero, List.set_cons_succ])
       go_cut [31] (fun v31 wc => ∃ (kq : Nat) (x31_6 : Bool), v31 = .bool x31_6 ∧ Aside0 (props_Check.j1 kq a0 l1 x17_1 l1 (l1.length : Int) x17_1 x31_6 ((rd_T60 l1 x17_1).f0) ((rd_T60 l1 x17_1).f1) ((rd_T60 l1 x17_1).f2) ((rd_T60 l1 x17_1).f3) = some r) ∧ Aside0 (kq ≤ k1) ∧ Aside0 (wc.heap[gb114]? = some (.cells #[.int .u8 ((rd_T60 l1 x17_1).f0), .int .u32 ((rd_T60 l1 x17_1).f1), .string ((rd_T60 l1 x17_1).f2), .string ((rd_T60 l1 x17_1).f3)] 60 (0, 0))) ∧ Aside0 (Below w.heap.size w wc))
       case first =>
        have H := HC7.out
        clear HC7
        replace H := Option.bind_eq_some_iff.mp H
        obtain ⟨t115, A100, H⟩ := H
        replace H : (if t115 = true then ((prop_For.f ((rd_T60 l1 x17_1).f0) a0).bind fun t116 => (props_Check.j1 k1 a0 l1 x17_1 l1 (l1.length : Int) x17_1 (!t116) ((rd_T60 l1 x17_1).f0) ((rd_T60 l1 x17_1).f1) ((rd_T60 l1 x17_1).f2) ((rd_T60 l1 x17_1).f3))) else (props_Check.j1 k1 a0 l1 x17_1 l1 (l1.length : Int) x17_1 true ((rd_T60 l1 x17_1).f0) ((rd_T60 l1 x17_1).f1) ((rd_T60 l1 x17_1).f2) ((rd_T60 l1 x17_1).f3))) = some r := H
        have A10 := Aside0.mk A100
        clear A100
        by_cases c11 : t115 = true
        ·subst c11
         have H1 : ((prop_For.f ((rd_T60 l1 x17_1).f0) a0).bind fun t116 => (props_Check.j1 k1 a0 l1 x17_1 l1 (l1.length : Int) x17_1 (!t116) ((rd_T60 l1 x17_1).f0) ((rd_T60 l1 x17_1).f1) ((rd_T60 l1 x17_1).f2) ((rd_T60 l1 x17_1).f3))) = some r := by rw [if_pos rfl] at H; exact H
         clear H
         have H := H1
         clear H1
         replace H := Option.bind_eq_some_iff.mp H
         obtain ⟨t116, A120, H⟩ := H
         replace H : (props_Check.j1 k1 a0 l1 x17_1 l1 (l1.length : Int) x17_1 (!t116) ((rd_T60 l1 x17_1).f0) ((rd_T60 l1 x17_1).f1) ((rd_T60 l1 x17_1).f2) ((rd_T60 l1 x17_1).f3)) = some r := H
         have A12 := Aside0.mk A120
         clear A120
         have H' := Aside0.mk H
         clear H
         have hcz13_0 : w8.cell? ⟨gb114, 0, none⟩ = some (.int .u8 0) := (blk_cell BK114.out 0).trans rfl
         have hcz13_1 : w8.cell? ⟨gb114, 1, none⟩ = some (.int .u32 0) := (blk_cell BK114.out 1).trans rfl
         have hcz13_2 : w8.cell? ⟨gb114, 2, none⟩ = some (.string (⟨#[]⟩ : ByteArray)) := (blk_cell BK114.out 2).trans rfl
         have hcz13_3 : w8.cell? ⟨gb114, 3, none⟩ = some (.string (⟨#[]⟩ : ByteArray)) := (blk_cell BK114.out 3).trans rfl
         have hfz13_0 := blk_frozen BK114.out 0
         have hfz13_1 := blk_frozen BK114.out 1
         have hfz13_2 := blk_frozen BK114.out 2
         have hfz13_3 := blk_frozen BK114.out 3
         go_wp2_with (first | ((with_reducible refine gate_callee (f := 59) rfl ?_); refine goesL_ (some 23) rfl rfl Tryd.func59 (by kernel_rfl) rfl #[.agg #[.int .u8 ((rd_T60 l1 x17_1).f0), .int .u32 ((rd_T60 l1 x17_1).f1), .string ((rd_T60 l1 x17_1).f2), .string ((rd_T60 l1 x17_1).f3)]] rfl z30z5 ?_; (with_reducible refine (prop_Value.calls k1 ((rd_T60 l1 x17_1).f0) ((rd_T60 l1 x17_1).f1) ((rd_T60 l1 x17_1).f2) ((rd_T60 l1 x17_1).f3) true _ ?side1 A10.out).mono ?_); (case side1 => exact GW.below HG.out z30z4); rintro e w14 ⟨rfl, hb⟩; refine ⟨_, rfl, ?_⟩; have n0_ := Aside0.mk (blk_below (g := gb114) (o := .cells #[.int .u8 ((rd_T60 l1 x17_1).f0), .int .u32 ((rd_T60 l1 x17_1).f1), .string ((rd_T60 l1 x17_1).f2), .string ((rd_T60 l1 x17_1).f3)] 60 (0, 0)) z30z2 hb); have n1_ := Aside0.mk (below_step z30z4 hb); replace BK114 := n0_; replace HB := n1_; clear n0_ n1_; clear hb; have hcz15_0 := cc4_0 BK114.out; have hcz15_1 := cc4_1 BK114.out; have hcz15_2 := cc4_2 BK114.out; have hcz15_3 := cc4_3 BK114.out; have hfz15_0 := blk_frozen BK114.out 0; have hfz15_1 := blk_frozen BK114.out 1; have hfz15_2 := blk_frozen BK114.out 2; have hfz15_3 := blk_frozen BK114.out 3) | (go_at_call 60; (with_reducible refine (prop_For.calls ((rd_T60 l1 x17_1).f0) a0 t116 _ A12.out).mono ?_); rintro e w16 ⟨rfl, hb⟩; have n0_ := Aside0.mk (blk_below (g := gb114) (o := .cells #[.int .u8 ((rd_T60 l1 x17_1).f0), .int .u32 ((rd_T60 l1 x17_1).f1), .string ((rd_T60 l1 x17_1).f2), .string ((rd_T60 l1 x17_1).f3)] 60 (0, 0)) z30z8 hb); have n1_ := Aside0.mk (below_step z30z4 hb); replace BK114 := n0_; replace HB := n1_; clear n0_ n1_; clear hb))
         go_meet
         case rel => exact ⟨_, (!t116), z30z9, H', ⟨by have := HK1.out; first | omega | exact Nat.le_refl _⟩, ⟨by (with_reducible repeat (first | refine blk_drewN ?_ _ | refine blk_drew ?_ | refine blk_alloc ?_ _)); exact BK114.out⟩, ⟨by repeat (first | (with_reducible first | exact HB.out | apply below_alloc | apply pw_below_drewN | apply below_drew1 | refine below_set ?_ GE114.out) | exact HB.out)⟩⟩
        ·replace c11 := Bool.eq_false_iff.mpr c11
         subst c11
         have H1 : (props_Check.j1 k1 a0 l1 x17_1 l1 (l1.length : Int) x17_1 true ((rd_T60 l1 x17_1).f0) ((rd_T60 l1 x17_1).f1) ((rd_T60 l1 x17_1).f2) ((rd_T60 l1 x17_1).f3)) = some r := by rw [if_neg (show ¬ (false = true) by decide)] at H; exact H
         clear H
         have H := H1
         clear H1
         have H' := Aside0.mk H
         clear H
         have hcz17_0 : w8.cell? ⟨gb114, 0, none⟩ = some (.int .u8 0) := (blk_cell BK114.out 0).trans rfl
         have hcz17_1 : w8.cell? ⟨gb114, 1, none⟩ = some (.int .u32 0) := (blk_cell BK114.out 1).trans rfl
         have hcz17_2 : w8.cell? ⟨gb114, 2, none⟩ = some (.string (⟨#[]⟩ : ByteArray)) := (blk_cell BK114.out 2).trans rfl
         have hcz17_3 : w8.cell? ⟨gb114, 3, none⟩ = some (.string (⟨#[]⟩ : ByteArray)) := (blk_cell BK114.out 3).trans rfl
         have hfz17_0 := blk_frozen BK114.out 0
         have hfz17_1 := blk_frozen BK114.out 1
         have hfz17_2 := blk_frozen BK114.out 2
         have hfz17_3 := blk_frozen BK114.out 3
         go_wp2_with (first | ((with_reducible refine gate_callee (f := 59) rfl ?_); refine goesL_ (some 23) rfl rfl Tryd.func59 (by kernel_rfl) rfl #[.agg #[.int .u8 ((rd_T60 l1 x17_1).f0), .int .u32 ((rd_T60 l1 x17_1).f1), .string ((rd_T60 l1 x17_1).f2), .string ((rd_T60 l1 x17_1).f3)]] rfl z30z5 ?_; (with_reducible refine (prop_Value.calls k1 ((rd_T60 l1 x17_1).f0) ((rd_T60 l1 x17_1).f1) ((rd_T60 l1 x17_1).f2) ((rd_T60 l1 x17_1).f3) false _ ?side1 A10.out).mono ?_); (case side1 => exact GW.below HG.out z30z4); rintro e w18 ⟨rfl, hb⟩; refine ⟨_, rfl, ?_⟩; have n0_ := Aside0.mk (blk_below (g := gb114) (o := .cells #[.int .u8 ((rd_T60 l1 x17_1).f0), .int .u32 ((rd_T60 l1 x17_1).f1), .string ((rd_T60 l1 x17_1).f2), .string ((rd_T60 l1 x17_1).f3)] 60 (0, 0)) z30z2 hb); have n1_ := Aside0.mk (below_step z30z4 hb); replace BK114 := n0_; replace HB := n1_; clear n0_ n1_; clear hb))
         go_meet
         case rel => exact ⟨_, (true), z30z9, H', ⟨by have := HK1.out; first | omega | exact Nat.le_refl _⟩, ⟨by (with_reducible repeat (first | refine blk_drewN ?_ _ | refine blk_drew ?_ | refine blk_alloc ?_ _)); exact BK114.out⟩, ⟨by repeat (first | (with_reducible first | exact HB.out | apply below_alloc | apply pw_below_drewN | apply below_drew1 | refine below_set ?_ GE114.out) | exact HB.out)⟩⟩
       case rest =>
        clear HC7
        try clear c1
        try clear p1
        try clear q1
        try clear hx1
        try clear p2
        try clear c3
        try clear c3b0
        try clear c3b1
        try clear c4
        try clear c4b0
        try clear c5
        try clear c5b0
        try clear c6
        try clear c6b0
        try clear c11
        try clear p11
        try clear q11
        try clear hx11
        try clear hcz13_0
        try clear hcz13_1
        try clear hcz13_2
        try clear hcz13_3
        try clear hcz15_0
        try clear hcz15_1
        try clear hcz15_2
        try clear hcz15_3
        try clear hcz17_0
        try clear hcz17_1
        try clear hcz17_2
        try clear hcz17_3
        try clear hcz9_0
        try clear hcz9_1
        try clear hcz9_2
        try clear hcz9_3
        try clear hfz13_0
        try clear hfz13_1
        try clear hfz13_2
        try clear hfz13_3
        try clear hfz15_0
        try clear hfz15_1
        try clear hfz15_2
        try clear hfz15_3
        try clear hfz17_0
        try clear hfz17_1
        try clear hfz17_2
        try clear hfz17_3
        try clear hfz9_0
        try clear hfz9_1
        try clear hfz9_2
        try clear hfz9_3
        try clear hx113_0
        try clear hx113_1
        try clear hx113_2
        try clear hx113_3
        try clear p113
        try clear p2
        try clear q113
        obtain ⟨kq, x31_6, rfl, HA, HJ6, BK114, HB⟩ := hcut
        cases kq with
        | zero => exact absurd HA.out (by simp [props_Check.j1])
        | succ kj6 =>
         have H := HA.out
         clear HA
         simp only [props_Check.j1] at H
         by_cases c19 : x31_6 = true
         ·subst c19
          have H1 : (some false) = some r := by rw [if_pos rfl] at H; exact H
          clear H
          have H := H1
          clear H1
          obtain rfl := Option.some.inj H
          go_wp2
          go_ret
          exact ⟨by first | rfl | (simp [errW_none, errW_some] <;> rfl) | (simp [*, errW_none, errW_some] <;> rfl), by repeat (first | (with_reducible first | exact HB.out | apply below_alloc | apply pw_below_drewN | apply below_drew1 | refine below_set ?_ GE114.out) | exact HB.out)⟩
         ·replace c19 := Bool.eq_false_iff.mpr c19
          subst c19
          have H1 : (if x17_1 = 0 then (props_Check.l0 kj6 a0 l1 l1 (l1.length : Int) (wrap64 (x17_1 + 1))) else (if 0 ≤ (wrap64 (x17_1 - 1)) then (if (wrap64 (x17_1 - 1)) < (l1.length : Int) then (if ((rd_T60 l1 (wrap64 (x17_1 - 1))).f0) > ((rd_T60 l1 x17_1).f0) then (some false) else (if ((rd_T60 l1 (wrap64 (x17_1 - 1))).f0) = ((rd_T60 l1 x17_1).f0) then ((prop_Often.f ((rd_T60 l1 x17_1).f0) a0).bind fun t118 => (if t118 = true then (props_Check.l0 kj6 a0 l1 l1 (l1.length : Int) (wrap64 (x17_1 + 1))) else (some false))) else (props_Check.l0 kj6 a0 l1 l1 (l1.length : Int) (wrap64 (x17_1 + 1))))) else (none)) else (none))) = some r := by rw [if_neg (show ¬ (false = true) by decide)] at H; exact H
          clear H
          have H := H1
          clear H1
          by_cases c20 : x17_1 = 0
          ·rw [if_pos c20] at H
           have c20b0 : (x17_1 == 0) = true := beq_iff_eq.mpr c20
           have c20b1 : (x17_1 != 0) = false := bne_eq_false_iff_eq.mpr c20
           clear c20
           have H' := Aside0.mk H
           clear H
           go_wp2
           go_roundg kj6
           case measure => have := HK1.out; have := HJ6.out; omega
           case rel => exact ⟨(wrap64 (x17_1 + 1)), z30z9, H', ⟨by have := HK1.out; have := HJ6.out; omega⟩, ⟨by repeat (first | (with_reducible first | exact HB.out | apply below_alloc | apply pw_below_drewN | apply below_drew1 | refine below_set ?_ GE114.out) | exact HB.out)⟩⟩
          ·rw [if_neg c20] at H
           have c20b0 : (x17_1 == 0) = false := beq_eq_false_iff_ne.mpr c20
           have c20b1 : (x17_1 != 0) = true := bne_iff_ne.mpr c20
           obtain ⟨ji21, hji21⟩ : ∃ j_ : Int, (wrap64 (x17_1 - 1)) = j_ := ⟨_, rfl⟩
           replace H : (if 0 ≤ (ji21) then (if (ji21) < (l1.length : Int) then (if ((rd_T60 l1 (ji21)).f0) > ((rd_T60 l1 x17_1).f0) then (some false) else (if ((rd_T60 l1 (ji21)).f0) = ((rd_T60 l1 x17_1).f0) then ((prop_Often.f ((rd_T60 l1 x17_1).f0) a0).bind fun t118 => (if t118 = true then (props_Check.l0 kj6 a0 l1 l1 (l1.length : Int) (wrap64 (x17_1 + 1))) else (some false))) else (props_Check.l0 kj6 a0 l1 l1 (l1.length : Int) (wrap64 (x17_1 + 1))))) else (none)) else (none)) = some r := by first | (rw [hji21] at H; exact H) | (simp only [hji21] at H ⊢; exact H)
           have hji21w : (IntKind.i64.wrap (x17_1 - 1)) = ji21 := (i64_w _).trans hji21
           by_cases c22 : 0 ≤ (ji21)
           ·rw [if_pos c22] at H
            have c22b0 : decide (0 ≤ (ji21)) = true := decide_eq_true c22
            clear c22
            by_cases c23 : (ji21) < (l1.length : Int)
            ·rw [if_pos c23] at H
             have c23b0 : decide ((ji21) < (l1.length : Int)) = true := decide_eq_true c23
             clear c23
             by_cases c24 : ((rd_T60 l1 (ji21)).f0) > ((rd_T60 l1 x17_1).f0)
             ·rw [if_pos c24] at H
              have c24b0 : decide (((rd_T60 l1 x17_1).f0) < ((rd_T60 l1 (ji21)).f0)) = true := decide_eq_true c24
              clear c24
              obtain rfl := Option.some.inj H
              have p117 : 0 ≤ ((ji21) : Int) := of_decide_eq_true z30z7
              have q117 : (ji21) < (l1.length : Int) := of_decide_eq_true z30z7
              obtain ⟨ad117, e117, hx117_0, hx117_1, hx117_2, hx117_3⟩ := at_T60 HR1.out (ji21) p117 q117
              obtain rfl : ad113 = ad117 := (by injection e117)
              replace hx117_0 := (HB.out.cell (World.block_lt_of_cell? w _ hx117_0)).trans hx117_0
              replace hx117_1 := (HB.out.cell (World.block_lt_of_cell? w _ hx117_1)).trans hx117_1
              replace hx117_2 := (HB.out.cell (World.block_lt_of_cell? w _ hx117_2)).trans hx117_2
              replace hx117_3 := (HB.out.cell (World.block_lt_of_cell? w _ hx117_3)).trans hx117_3
              replace p117 := eq_true p117
              replace q117 := eq_true q117
              have hcz25_0 : wc.cell? ⟨gb114, 0, none⟩ = some (.int .u8 ((rd_T60 l1 x17_1).f0)) := (blk_cell BK114.out 0).trans rfl
              have hcz25_1 : wc.cell? ⟨gb114, 1, none⟩ = some (.int .u32 ((rd_T60 l1 x17_1).f1)) := (blk_cell BK114.out 1).trans rfl
              have hcz25_2 : wc.cell? ⟨gb114, 2, none⟩ = some (.string ((rd_T60 l1 x17_1).f2)) := (blk_cell BK114.out 2).trans rfl
              have hcz25_3 : wc.cell? ⟨gb114, 3, none⟩ = some (.string ((rd_T60 l1 x17_1).f3)) := (blk_cell BK114.out 3).trans rfl
              have hfz25_0 := blk_frozen BK114.out 0
              have hfz25_1 := blk_frozen BK114.out 1
              have hfz25_2 := blk_frozen BK114.out 2
              have hfz25_3 := blk_frozen BK114.out 3
              go_wp2
              go_ret
              exact ⟨by first | rfl | (simp [errW_none, errW_some] <;> rfl) | (simp only [← hji21]; first | rfl | (simp [errW_none, errW_some] <;> rfl)) | (simp [*, errW_none, errW_some] <;> rfl), by repeat (first | (with_reducible first | exact HB.out | apply below_alloc | apply pw_below_drewN | apply below_drew1 | refine below_set ?_ GE114.out) | exact HB.out)⟩
             ·rw [if_neg c24] at H
              have c24b0 : decide (((rd_T60 l1 x17_1).f0) < ((rd_T60 l1 (ji21)).f0)) = false := decide_eq_false c24
              clear c24
              by_cases c26 : ((rd_T60 l1 (ji21)).f0) = ((rd_T60 l1 x17_1).f0)
              ·rw [if_pos c26] at H
               have c26b0 : (((rd_T60 l1 (ji21)).f0) == ((rd_T60 l1 x17_1).f0)) = true := beq_iff_eq.mpr c26
               have c26b1 : (((rd_T60 l1 (ji21)).f0) != ((rd_T60 l1 x17_1).f0)) = false := bne_eq_false_iff_eq.mpr c26
               clear c26
               replace H := Option.bind_eq_some_iff.mp H
               obtain ⟨t118, A270, H⟩ := H
               replace H : (if t118 = true then (props_Check.l0 kj6 a0 l1 l1 (l1.length : Int) (wrap64 (x17_1 + 1))) else (some false)) = some r := H
               have A27 := Aside0.mk A270
               clear A270
               by_cases c28 : t118 = true
               ·subst c28
                have H1 : (props_Check.l0 kj6 a0 l1 l1 (l1.length : Int) (wrap64 (x17_1 + 1))) = some r := by rw [if_pos rfl] at H; exact H
                clear H
                have H := H1
                clear H1
                have H' := Aside0.mk H
                clear H
                have p117 : 0 ≤ ((ji21) : Int) := of_decide_eq_true z30z7
                have q117 : (ji21) < (l1.length : Int) := of_decide_eq_true z30z7
                obtain ⟨ad117, e117, hx117_0, hx117_1, hx117_2, hx117_3⟩ := at_T60 HR1.out (ji21) p117 q117
                obtain rfl : ad113 = ad117 := (by injection e117)
                replace hx117_0 := (HB.out.cell (World.block_lt_of_cell? w _ hx117_0)).trans hx117_0
                replace hx117_1 := (HB.out.cell (World.block_lt_of_cell? w _ hx117_1)).trans hx117_1
                replace hx117_2 := (HB.out.cell (World.block_lt_of_cell? w _ hx117_2)).trans hx117_2
                replace hx117_3 := (HB.out.cell (World.block_lt_of_cell? w _ hx117_3)).trans hx117_3
                replace p117 := eq_true p117
                replace q117 := eq_true q117
                have hcz29_0 : wc.cell? ⟨gb114, 0, none⟩ = some (.int .u8 ((rd_T60 l1 x17_1).f0)) := (blk_cell BK114.out 0).trans rfl
                have hcz29_1 : wc.cell? ⟨gb114, 1, none⟩ = some (.int .u32 ((rd_T60 l1 x17_1).f1)) := (blk_cell BK114.out 1).trans rfl
                have hcz29_2 : wc.cell? ⟨gb114, 2, none⟩ = some (.string ((rd_T60 l1 x17_1).f2)) := (blk_cell BK114.out 2).trans rfl
                have hcz29_3 : wc.cell? ⟨gb114, 3, none⟩ = some (.string ((rd_T60 l1 x17_1).f3)) := (blk_cell BK114.out 3).trans rfl
                have hfz29_0 := blk_frozen BK114.out 0
                have hfz29_1 := blk_frozen BK114.out 1
                have hfz29_2 := blk_frozen BK114.out 2
                have hfz29_3 := blk_frozen BK114.out 3
                go_wp2_with (first | (go_at_call 61; (with_reducible refine (prop_Often.calls ((rd_T60 l1 x17_1).f0) a0 true _ A27.out).mono ?_); rintro e w30 ⟨rfl, hb⟩; have n0_ := Aside0.mk (blk_below (g := gb114) (o := .cells #[.int .u8 ((rd_T60 l1 x17_1).f0), .int .u32 ((rd_T60 l1 x17_1).f1), .string ((rd_T60 l1 x17_1).f2), .string ((rd_T60 l1 x17_1).f3)] 60 (0, 0)) z30z8 hb); have n1_ := Aside0.mk (below_step z30z4 hb); replace BK114 := n0_; replace HB := n1_; clear n0_ n1_; clear hb))
                go_roundg kj6
                case measure => have := HK1.out; have := HJ6.out; omega
                case rel => exact ⟨(wrap64 (x17_1 + 1)), z30z9, H', ⟨by have := HK1.out; have := HJ6.out; omega⟩, ⟨by repeat (first | (with_reducible first | exact HB.out | apply below_alloc | apply pw_below_drewN | apply below_drew1 | refine below_set ?_ GE114.out) | exact HB.out)⟩⟩
               ·replace c28 := Bool.eq_false_iff.mpr c28
                subst c28
                have H1 : (some false) = some r := by rw [if_neg (show ¬ (false = true) by decide)] at H; exact H
                clear H
                have H := H1
                clear H1
                obtain rfl := Option.some.inj H
                have p117 : 0 ≤ ((ji21) : Int) := of_decide_eq_true z30z7
                have q117 : (ji21) < (l1.length : Int) := of_decide_eq_true z30z7
                obtain ⟨ad117, e117, hx117_0, hx117_1, hx117_2, hx117_3⟩ := at_T60 HR1.out (ji21) p117 q117
                obtain rfl : ad113 = ad117 := (by injection e117)
                replace hx117_0 := (HB.out.cell (World.block_lt_of_cell? w _ hx117_0)).trans hx117_0
                replace hx117_1 := (HB.out.cell (World.block_lt_of_cell? w _ hx117_1)).trans hx117_1
                replace hx117_2 := (HB.out.cell (World.block_lt_of_cell? w _ hx117_2)).trans hx117_2
                replace hx117_3 := (HB.out.cell (World.block_lt_of_cell? w _ hx117_3)).trans hx117_3
                replace p117 := eq_true p117
                replace q117 := eq_true q117
                have hcz31_0 : wc.cell? ⟨gb114, 0, none⟩ = some (.int .u8 ((rd_T60 l1 x17_1).f0)) := (blk_cell BK114.out 0).trans rfl
                have hcz31_1 : wc.cell? ⟨gb114, 1, none⟩ = some (.int .u32 ((rd_T60 l1 x17_1).f1)) := (blk_cell BK114.out 1).trans rfl
                have hcz31_2 : wc.cell? ⟨gb114, 2, none⟩ = some (.string ((rd_T60 l1 x17_1).f2)) := (blk_cell BK114.out 2).trans rfl
                have hcz31_3 : wc.cell? ⟨gb114, 3, none⟩ = some (.string ((rd_T60 l1 x17_1).f3)) := (blk_cell BK114.out 3).trans rfl
                have hfz31_0 := blk_frozen BK114.out 0
                have hfz31_1 := blk_frozen BK114.out 1
                have hfz31_2 := blk_frozen BK114.out 2
                have hfz31_3 := blk_frozen BK114.out 3
                go_wp2_with (first | (go_at_call 61; (with_reducible refine (prop_Often.calls ((rd_T60 l1 x17_1).f0) a0 false _ A27.out).mono ?_); rintro e w32 ⟨rfl, hb⟩; have n0_ := Aside0.mk (blk_below (g := gb114) (o := .cells #[.int .u8 ((rd_T60 l1 x17_1).f0), .int .u32 ((rd_T60 l1 x17_1).f1), .string ((rd_T60 l1 x17_1).f2), .string ((rd_T60 l1 x17_1).f3)] 60 (0, 0)) z30z8 hb); have n1_ := Aside0.mk (below_step z30z4 hb); replace BK114 := n0_; replace HB := n1_; clear n0_ n1_; clear hb))
                go_ret
                exact ⟨by first | rfl | (simp [errW_none, errW_some] <;> rfl) | (simp only [← hji21]; first | rfl | (simp [errW_none, errW_some] <;> rfl)) | (simp [*, errW_none, errW_some] <;> rfl), by repeat (first | (with_reducible first | exact HB.out | apply below_alloc | apply pw_below_drewN | apply below_drew1 | refine below_set ?_ GE114.out) | exact HB.out)⟩
              ·rw [if_neg c26] at H
               have c26b0 : (((rd_T60 l1 (ji21)).f0) == ((rd_T60 l1 x17_1).f0)) = false := beq_eq_false_iff_ne.mpr c26
               have c26b1 : (((rd_T60 l1 (ji21)).f0) != ((rd_T60 l1 x17_1).f0)) = true := bne_iff_ne.mpr c26
               have H' := Aside0.mk H
               clear H
               have p117 : 0 ≤ ((ji21) : Int) := of_decide_eq_true z30z7
               have q117 : (ji21) < (l1.length : Int) := of_decide_eq_true z30z7
               obtain ⟨ad117, e117, hx117_0, hx117_1, hx117_2, hx117_3⟩ := at_T60 HR1.out (ji21) p117 q117
               obtain rfl : ad113 = ad117 := (by injection e117)
               replace hx117_0 := (HB.out.cell (World.block_lt_of_cell? w _ hx117_0)).trans hx117_0
               replace hx117_1 := (HB.out.cell (World.block_lt_of_cell? w _ hx117_1)).trans hx117_1
               replace hx117_2 := (HB.out.cell (World.block_lt_of_cell? w _ hx117_2)).trans hx117_2
               replace hx117_3 := (HB.out.cell (World.block_lt_of_cell? w _ hx117_3)).trans hx117_3
               replace p117 := eq_true p117
               replace q117 := eq_true q117
               have hcz33_0 : wc.cell? ⟨gb114, 0, none⟩ = some (.int .u8 ((rd_T60 l1 x17_1).f0)) := (blk_cell BK114.out 0).trans rfl
               have hcz33_1 : wc.cell? ⟨gb114, 1, none⟩ = some (.int .u32 ((rd_T60 l1 x17_1).f1)) := (blk_cell BK114.out 1).trans rfl
               have hcz33_2 : wc.cell? ⟨gb114, 2, none⟩ = some (.string ((rd_T60 l1 x17_1).f2)) := (blk_cell BK114.out 2).trans rfl
               have hcz33_3 : wc.cell? ⟨gb114, 3, none⟩ = some (.string ((rd_T60 l1 x17_1).f3)) := (blk_cell BK114.out 3).trans rfl
               have hfz33_0 := blk_frozen BK114.out 0
               have hfz33_1 := blk_frozen BK114.out 1
               have hfz33_2 := blk_frozen BK114.out 2
               have hfz33_3 := blk_frozen BK114.out 3
               go_wp2
               go_roundg kj6
               case measure => have := HK1.out; have := HJ6.out; omega
               case rel => exact ⟨(wrap64 (x17_1 + 1)), z30z9, H', ⟨by have := HK1.out; have := HJ6.out; omega⟩, ⟨by repeat (first | (with_reducible first | exact HB.out | apply below_alloc | apply pw_below_drewN | apply below_drew1 | refine below_set ?_ GE114.out) | exact HB.out)⟩⟩
            ·rw [if_neg c23] at H
             exact absurd H (by simp)
           ·rw [if_neg c22] at H
            exact absurd H (by simp)
      ·rw [if_neg c6] at H
       exact absurd H (by simp)
     ·rw [if_neg c5] at H
      exact absurd H (by simp)
    ·rw [if_neg c4] at H
     have c4b0 : decide (x17_1 < (l1.length : Int)) = false := decide_eq_false c4
     clear c4
     replace H := Option.bind_eq_some_iff.mp H
     obtain ⟨⟨t101, t102, t103, t104, t105⟩, A340, H⟩ := H
     replace H : ((props_Get.f l1 21).bind fun bt107 => (if bt107.2.2.2.2 = true then (some true) else (some (!t105)))) = some r := H
     have A34 := Aside0.mk A340
     clear A340
     replace H := Option.bind_eq_some_iff.mp H
     obtain ⟨⟨t107, t108, t109, t110, t111⟩, A350, H⟩ := H
     replace H : (if t111 = true then (some true) else (some (!t105))) = some r := H
     have A35 := Aside0.mk A350
     clear A350
     by_cases c36 : t111 = true
     ·subst c36
      have H1 : (some true) = some r := by rw [if_pos rfl] at H; exact H
      clear H
      have H := H1
      clear H1
      obtain rfl := Option.some.inj H
      go_wp2_with (first | ((with_reducible refine gate_callee (f := 27) rfl ?_); refine goesL_ (some 60) rfl rfl Tryd.func27 (by kernel_rfl) rfl #[.slice A1 l1.length c1, .int .u8 22] rfl z30z5 ?_; (with_reducible refine (props_Get.calls _ _ l1 22 t101 t102 t103 t104 t105 _ ?side1 ?side2 A34.out).mono ?_); (case side1 => exact z30z10); (case side2 => exact HC1.out); rintro e w37 ⟨rfl, hb⟩; refine ⟨_, rfl, ?_⟩; have n0_ := Aside0.mk (below_step z30z1 hb); replace HB := n0_; clear n0_; clear hb) | ((with_reducible refine gate_dst (N := 8) rfl ?_); refine box_event ?hg (N := 8) ?hd (cs := #[.int .u8 0, .int .u32 0, .string (⟨#[]⟩ : ByteArray), .string (⟨#[]⟩ : ByteArray)]) (t := 60) ?hr ?_; (case hd => rfl); (case hg => rfl); (case hr => exact z30z11); intro gb106 hg w38 hbox hb; have n0_ := Aside0.mk (below_step z30z1 hb); have n1_ := Aside0.mk (hbox); have n2_ := Aside0.mk ((by rw [hg]; exact (below_size z30z1) : w.heap.size ≤ gb106)); have n3_ := Aside0.mk ((by rw [hg]; exact (below_size z30z1) : w.heap.size ≤ gb106)); replace HB := n0_; have BK106 := n1_; have GW106 := n2_; have GE106 := n3_; clear n0_ n1_ n2_ n3_; clear hb hbox hg; have hcz39_0 := cc4_0 BK106.out; have hcz39_1 := cc4_1 BK106.out; have hcz39_2 := cc4_2 BK106.out; have hcz39_3 := cc4_3 BK106.out; have hfz39_0 := blk_frozen BK106.out 0; have hfz39_1 := blk_frozen BK106.out 1; have hfz39_2 := blk_frozen BK106.out 2; have hfz39_3 := blk_frozen BK106.out 3) | ((with_reducible refine gate_callee (f := 27) rfl ?_); refine goesL_ (some 65) rfl rfl Tryd.func27 (by kernel_rfl) rfl #[.slice A1 l1.length c1, .int .u8 21] rfl z30z5 ?_; (with_reducible refine (props_Get.calls _ _ l1 21 t107 t108 t109 t110 true _ ?side1 ?side2 A35.out).mono ?_); (case side1 => exact Kd.C_below HR1.out z30z0); (case side2 => exact HC1.out); rintro e w40 ⟨rfl, hb⟩; refine ⟨_, rfl, ?_⟩; have n0_ := Aside0.mk (blk_below (g := gb106) (o := .cells #[.int .u8 t101, .int .u32 t102, .string t103, .string t104] 60 (0, 0)) z30z3 hb); have n1_ := Aside0.mk (below_step z30z0 hb); replace BK106 := n0_; replace HB := n1_; clear n0_ n1_; clear hb) | ((with_reducible refine gate_dst (N := 10) rfl ?_); refine box_event ?hg (N := 10) ?hd (cs := #[.int .u8 0, .int .u32 0, .string (⟨#[]⟩ : ByteArray), .string (⟨#[]⟩ : ByteArray)]) (t := 60) ?hr ?_; (case hd => rfl); (case hg => rfl); (case hr => exact z30z11); intro gb112 hg w41 hbox hb; have n0_ := Aside0.mk (blk_below (g := gb106) (o := .cells #[.int .u8 t101, .int .u32 t102, .string t103, .string t104] 60 (0, 0)) z30z6 hb); have n1_ := Aside0.mk (below_step z30z0 hb); have n2_ := Aside0.mk (hbox); have n3_ := Aside0.mk ((by rw [hg]; exact (below_size z30z0) : w.heap.size ≤ gb112)); have n4_ := Aside0.mk ((by rw [hg]; exact (below_size z30z0) : w.heap.size ≤ gb112)); have n5_ := Aside0.mk ((by rw [hg]; exact Nat.ne_of_lt (blk_lt (g := gb106) (o := .cells #[.int .u8 t101, .int .u32 t102, .string t103, .string t104] 60 (0, 0)) z30z6) : gb106 ≠ gb112)); have n6_ := Aside0.mk ((by rw [hg]; exact Nat.ne_of_gt (blk_lt (g := gb106) (o := .cells #[.int .u8 t101, .int .u32 t102, .string t103, .string t104] 60 (0, 0)) z30z6) : gb112 ≠ gb106)); replace BK106 := n0_; replace HB := n1_; have BK112 := n2_; have GW112 := n3_; have GE112 := n4_; have NB106_112 := n5_; have NB112_106 := n6_; clear n0_ n1_ n2_ n3_ n4_ n5_ n6_; clear hb hbox hg; have hnb42 := NB112_106.out; have hnc42 := NB106_112.out; have hcz43_0 := cc4_0 BK112.out; have hcz43_1 := cc4_1 BK112.out; have hcz43_2 := cc4_2 BK112.out; have hcz43_3 := cc4_3 BK112.out; have hfz43_0 := blk_frozen BK112.out 0; have hfz43_1 := blk_frozen BK112.out 1; have hfz43_2 := blk_frozen BK112.out 2; have hfz43_3 := blk_frozen BK112.out 3))
      go_ret
      exact ⟨by first | rfl | (simp [errW_none, errW_some] <;> rfl) | (simp [*, errW_none, errW_some] <;> rfl), by repeat (first | (with_reducible first | exact HB.out | apply below_alloc | apply pw_below_drewN | apply below_drew1 | refine below_set ?_ GE106.out | refine below_set ?_ GE112.out) | exact HB.out)⟩
     ·replace c36 := Bool.eq_false_iff.mpr c36
      subst c36
      have H1 : (some (!t105)) = some r := by rw [if_neg (show ¬ (false = true) by decide)] at H; exact H
      clear H
      have H := H1
      clear H1
      obtain rfl := Option.some.inj H
      go_wp2_with (first | ((with_reducible refine gate_callee (f := 27) rfl ?_); refine goesL_ (some 60) rfl rfl Tryd.func27 (by kernel_rfl) rfl #[.slice A1 l1.length c1, .int .u8 22] rfl z30z5 ?_; (with_reducible refine (props_Get.calls _ _ l1 22 t101 t102 t103 t104 t105 _ ?side1 ?side2 A34.out).mono ?_); (case side1 => exact z30z10); (case side2 => exact HC1.out); rintro e w44 ⟨rfl, hb⟩; refine ⟨_, rfl, ?_⟩; have n0_ := Aside0.mk (below_step z30z1 hb); replace HB := n0_; clear n0_; clear hb) | ((with_reducible refine gate_dst (N := 8) rfl ?_); refine box_event ?hg (N := 8) ?hd (cs := #[.int .u8 0, .int .u32 0, .string (⟨#[]⟩ : ByteArray), .string (⟨#[]⟩ : ByteArray)]) (t := 60) ?hr ?_; (case hd => rfl); (case hg => rfl); (case hr => exact z30z11); intro gb106 hg w45 hbox hb; have n0_ := Aside0.mk (below_step z30z1 hb); have n1_ := Aside0.mk (hbox); have n2_ := Aside0.mk ((by rw [hg]; exact (below_size z30z1) : w.heap.size ≤ gb106)); have n3_ := Aside0.mk ((by rw [hg]; exact (below_size z30z1) : w.heap.size ≤ gb106)); replace HB := n0_; have BK106 := n1_; have GW106 := n2_; have GE106 := n3_; clear n0_ n1_ n2_ n3_; clear hb hbox hg; have hcz46_0 := cc4_0 BK106.out; have hcz46_1 := cc4_1 BK106.out; have hcz46_2 := cc4_2 BK106.out; have hcz46_3 := cc4_3 BK106.out; have hfz46_0 := blk_frozen BK106.out 0; have hfz46_1 := blk_frozen BK106.out 1; have hfz46_2 := blk_frozen BK106.out 2; have hfz46_3 := blk_frozen BK106.out 3) | ((with_reducible refine gate_callee (f := 27) rfl ?_); refine goesL_ (some 65) rfl rfl Tryd.func27 (by kernel_rfl) rfl #[.slice A1 l1.length c1, .int .u8 21] rfl z30z5 ?_; (with_reducible refine (props_Get.calls _ _ l1 21 t107 t108 t109 t110 false _ ?side1 ?side2 A35.out).mono ?_); (case side1 => exact Kd.C_below HR1.out z30z0); (case side2 => exact HC1.out); rintro e w47 ⟨rfl, hb⟩; refine ⟨_, rfl, ?_⟩; have n0_ := Aside0.mk (blk_below (g := gb106) (o := .cells #[.int .u8 t101, .int .u32 t102, .string t103, .string t104] 60 (0, 0)) z30z3 hb); have n1_ := Aside0.mk (below_step z30z0 hb); replace BK106 := n0_; replace HB := n1_; clear n0_ n1_; clear hb) | ((with_reducible refine gate_dst (N := 10) rfl ?_); refine box_event ?hg (N := 10) ?hd (cs := #[.int .u8 0, .int .u32 0, .string (⟨#[]⟩ : ByteArray), .string (⟨#[]⟩ : ByteArray)]) (t := 60) ?hr ?_; (case hd => rfl); (case hg => rfl); (case hr => exact z30z11); intro gb112 hg w48 hbox hb; have n0_ := Aside0.mk (blk_below (g := gb106) (o := .cells #[.int .u8 t101, .int .u32 t102, .string t103, .string t104] 60 (0, 0)) z30z6 hb); have n1_ := Aside0.mk (below_step z30z0 hb); have n2_ := Aside0.mk (hbox); have n3_ := Aside0.mk ((by rw [hg]; exact (below_size z30z0) : w.heap.size ≤ gb112)); have n4_ := Aside0.mk ((by rw [hg]; exact (below_size z30z0) : w.heap.size ≤ gb112)); have n5_ := Aside0.mk ((by rw [hg]; exact Nat.ne_of_lt (blk_lt (g := gb106) (o := .cells #[.int .u8 t101, .int .u32 t102, .string t103, .string t104] 60 (0, 0)) z30z6) : gb106 ≠ gb112)); have n6_ := Aside0.mk ((by rw [hg]; exact Nat.ne_of_gt (blk_lt (g := gb106) (o := .cells #[.int .u8 t101, .int .u32 t102, .string t103, .string t104] 60 (0, 0)) z30z6) : gb112 ≠ gb106)); replace BK106 := n0_; replace HB := n1_; have BK112 := n2_; have GW112 := n3_; have GE112 := n4_; have NB106_112 := n5_; have NB112_106 := n6_; clear n0_ n1_ n2_ n3_ n4_ n5_ n6_; clear hb hbox hg; have hnb49 := NB112_106.out; have hnc49 := NB106_112.out; have hcz50_0 := cc4_0 BK112.out; have hcz50_1 := cc4_1 BK112.out; have hcz50_2 := cc4_2 BK112.out; have hcz50_3 := cc4_3 BK112.out; have hfz50_0 := blk_frozen BK112.out 0; have hfz50_1 := blk_frozen BK112.out 1; have hfz50_2 := blk_frozen BK112.out 2; have hfz50_3 := blk_frozen BK112.out 3))
      go_ret
      exact ⟨by first | rfl | (simp [errW_none, errW_some] <;> rfl) | (simp [*, errW_none, errW_some] <;> rfl), by repeat (first | (with_reducible first | exact HB.out | apply below_alloc | apply pw_below_drewN | apply below_drew1 | refine below_set ?_ GE106.out | refine below_set ?_ GE112.out) | exact HB.out)⟩
end Go.Proofs.YtkmkgpigmldhnaaDoor.P

namespace Go.Proofs.YtkmkgpigmldhnaaDoor.P
open Go.RowKit Go.Proofs.YtkmkgpigmldhnaaDoorW.PrintWords Go.Proofs.YtkmkgpigmldhnaaDoorW.PrintLast Go.Proofs.YtkmkgpigmldhnaaDoorW.PrintMore
attribute [local go_sem] max2_int min2_int max_two min_two max_three min_three max_four min_four
set_option linter.unusedVariables false
set_option linter.unusedSimpArgs false
def pouchlaw06_told.f0 (k : Nat)  : Option (Bool) := (props_Put.f k ([] : List Int) (([(⟨33, 7, (⟨#[]⟩ : ByteArray), (⟨#[]⟩ : ByteArray)⟩ : S60)] : List (S60)))).bind fun t104 => ((wire_Read.f t104).bind fun bt107 => ((props_Take.f k bt107.1 bt107.2).bind fun bt110 => (if (strOfNums t104).toList = ([3, 33, 0, 7] : List UInt8) then (if bt110.2.1 = true then (if (bt110.1.length : Int) = 1 then (if 0 < (bt110.1.length : Int) then (if ((rd_T60 bt110.1 0).f1) = 7 then ((props_Size.f k bt110.1).bind fun t117 => (if t117 = 4 then ((props_Put.f k ([] : List Int) ([] : List (S60))).bind fun t118 => (if (strOfNums t118).toList = ([0] : List UInt8) then ((props_Check.f k 1 bt110.1).bind fun t121 => (if t121 = true then ((props_Check.f k 3 bt110.1).bind fun t122 => (some (!t122))) else (some false))) else (some false))) else (some false))) else (some false)) else (none)) else (some false)) else (some false)) else (some false))))
theorem pouchlaw06_told.mono0 : ∀ k, LeO (pouchlaw06_told.f0 k ) (pouchlaw06_told.f0 (k + 1) ) := by
  intro  k
  unfold pouchlaw06_told.f0
  repeat' first
      | (with_reducible exact props_Check.mono _ _ _)
      | (with_reducible exact props_Put.mono _ _ _)
      | (with_reducible exact props_Size.mono _ _)
      | (with_reducible exact props_Take.mono _ _ _)
      | (with_reducible exact LeO.refl _)
      | (with_reducible exact LeO.none _)
      | (with_reducible refine LeO.ite ?_ ?_)
      | (with_reducible refine LeO.bind ?_ (fun _ => ?_))
      | exact props_Check.mono _ _ _
      | exact props_Put.mono _ _ _
      | exact props_Size.mono _ _
      | exact props_Take.mono _ _ _
      | exact LeO.none _
      | refine LeO.ite ?_ ?_
      | refine LeO.bind ?_ (fun _ => ?_)
theorem z10z0 {p : Prop} (h : p := by repeat (first | (with_reducible first | exact HB.out | apply below_alloc | apply pw_below_drewN | apply below_drew1 | refine below_set ?_ (IsS78.ge HI109.out)) | exact HB.out)) : p := h
theorem z10z1 {p : Prop} (h : p := by (with_reducible repeat (first | apply Kd.R_alloc | apply Kd.R_drewN | apply Kd.R_drew)); exact HO103.out) : p := h
theorem z10z2 {p : Prop} (h : p := by repeat (first | (with_reducible first | exact HB.out | apply below_alloc | apply pw_below_drewN | apply below_drew1) | exact HB.out)) : p := h
theorem z10z3 {p : Prop} (h : p := by (with_reducible repeat (first | apply Kd.R_alloc | apply Kd.R_drewN | apply Kd.R_drew)); exact HO106.out) : p := h
theorem z10z4 {p : Prop} (h : p := by (try simp only [List.map_toArray, List.map_cons, List.map_nil]); first | done | rfl | (simp only [List.length_drop, List.length_take]; rfl)) : p := h
theorem z10z5 {p : Prop} (h : p := by repeat (first | (with_reducible first | exact HI109.out | apply IsS78.alloc | apply IsS78.drewN | apply IsS78.drew | apply IsS78.set_0 | apply IsS78.set_1) | exact HI109.out)) : p := h
theorem z10z6 {p : Prop} (h : p := by repeat (first | exact (Kd.R_reads' HO112.out).2.2 | (with_reducible refine Kd.C_alloc ?_ _) | (with_reducible refine Kd.C_drewN ?_ _) | (with_reducible refine Kd.C_drew ?_))) : p := h
theorem z10z7 {p : Prop} (h : p := by (with_reducible repeat (first | apply Kd.R_alloc | apply Kd.R_drewN | apply Kd.R_drew)); exact HO112.out) : p := h
theorem z10z8 {p : Prop} (h : p := by exact (Reps.c4 (show Kd.M k60 _ _ _ (⟨33, 7, (⟨#[]⟩ : ByteArray), (⟨#[]⟩ : ByteArray)⟩ : S60) [.int .u8 33, .int .u32 7, .string (⟨#[]⟩ : ByteArray), .string (⟨#[]⟩ : ByteArray)] from (k60_mkM _ _ _ (⟨33, 7, (⟨#[]⟩ : ByteArray), (⟨#[]⟩ : ByteArray)⟩ : S60) )) (Reps.none _ _))) : p := h
theorem z10z9 {p : Prop} (h : p := by repeat (first | (with_reducible first | exact HB.out | apply below_alloc | apply pw_below_drewN | apply below_drew1 | refine below_set ?_ (IsS78.ge HI109.out)) | exact HB.out)) : p := h
theorem z10z10 {p : Prop} (h : p := by repeat (first | (with_reducible first | exact HI109.out | apply IsS78.alloc | apply IsS78.drewN | apply IsS78.drew | apply IsS78.set_0 | apply IsS78.set_1) | exact HI109.out)) : p := h
theorem z10z11 {p : Prop} (h : p := by repeat (first | exact (Kd.R_reads' HO103.out).2.2 | (with_reducible refine Kd.C_alloc ?_ _) | (with_reducible refine Kd.C_drewN ?_ _) | (with_reducible refine Kd.C_drew ?_))) : p := h
theorem z10z12 {p : Prop} (h : p := by repeat (first | exact (Kd.R_reads' HO106.out).2.2 | (with_reducible refine Kd.C_alloc ?_ _) | (with_reducible refine Kd.C_drewN ?_ _) | (with_reducible refine Kd.C_drew ?_))) : p := h
theorem z10z13 {p : Prop} (h : p := by repeat (first | (with_reducible first | exact HB.out | apply below_alloc | apply pw_below_drewN | apply below_drew1) | exact HB.out)) : p := h
theorem z10z14 {p : Prop} (h : p := by (with_reducible repeat (first | apply Kd.R_alloc | apply Kd.R_drewN | apply Kd.R_drew)); exact HO120.out) : p := h
theorem z10z15 {p : Prop} (h : p := by exact GW.below HG.out z10z0) : p := h
theorem z10z16 {p : Prop} (h : p := by exact (Kd.R_reads' HO112.out).2.1) : p := h
theorem z10z17 {p : Prop} (h : p := by rw [HRT_.out]; simp) : p := h
set_option maxHeartbeats 8000000 in
set_option maxRecDepth 100000 in
theorem pouchlaw06_told.calls0 (k : Nat) (r : Bool) (hrt : r = true) (w : World) (hG : GW w) (h : pouchlaw06_told.f0 k = some r) :
  Calls Tryd.prog 10 #[] w fun e w' => e = .returned (.bool r) ∧ Below w.heap.size w w' := by
 have HRT_ := Aside0.mk hrt
 clear hrt
 have hu60 := Tryd.underlying60
 have HB := Aside0.mk (Below.refl w.heap.size w)
 have HG := Aside0.mk hG
 clear hG
 have H : ((props_Put.f k ([] : List Int) (([(⟨33, 7, (⟨#[]⟩ : ByteArray), (⟨#[]⟩ : ByteArray)⟩ : S60)] : List (S60)))).bind fun t104 => ((wire_Read.f t104).bind fun bt107 => ((props_Take.f k bt107.1 bt107.2).bind fun bt110 => (if (strOfNums t104).toList = ([3, 33, 0, 7] : List UInt8) then (if bt110.2.1 = true then (if (bt110.1.length : Int) = 1 then (if 0 < (bt110.1.length : Int) then (if ((rd_T60 bt110.1 0).f1) = 7 then ((props_Size.f k bt110.1).bind fun t117 => (if t117 = 4 then ((props_Put.f k ([] : List Int) ([] : List (S60))).bind fun t118 => (if (strOfNums t118).toList = ([0] : List UInt8) then ((props_Check.f k 1 bt110.1).bind fun t121 => (if t121 = true then ((props_Check.f k 3 bt110.1).bind fun t122 => (some (!t122))) else (some false))) else (some false))) else (some false))) else (some false)) else (none)) else (some false)) else (some false)) else (some false))))) = some r := h
 clear h
 obtain ⟨y101, hy101⟩ : ∃ y_ : List (S60), y_ = (([(⟨33, 7, (⟨#[]⟩ : ByteArray), (⟨#[]⟩ : ByteArray)⟩ : S60)] : List (S60))) := ⟨_, rfl⟩
 replace H : ((props_Put.f k ([] : List Int) y101).bind fun t104 => ((wire_Read.f t104).bind fun bt107 => ((props_Take.f k bt107.1 bt107.2).bind fun bt110 => (if (strOfNums t104).toList = ([3, 33, 0, 7] : List UInt8) then (if bt110.2.1 = true then (if (bt110.1.length : Int) = 1 then (if 0 < (bt110.1.length : Int) then (if ((rd_T60 bt110.1 0).f1) = 7 then ((props_Size.f k bt110.1).bind fun t117 => (if t117 = 4 then ((props_Put.f k ([] : List Int) ([] : List (S60))).bind fun t118 => (if (strOfNums t118).toList = ([0] : List UInt8) then ((props_Check.f k 1 bt110.1).bind fun t121 => (if t121 = true then ((props_Check.f k 3 bt110.1).bind fun t122 => (some (!t122))) else (some false))) else (some false))) else (some false))) else (some false)) else (none)) else (some false)) else (some false)) else (some false))))) = some r := by first | (rw [hy101]; with_reducible exact H) | (have H2_ := (Option.bind_some _ _).symm.trans H; rw [hy101]; with_reducible exact H2_) | (have H2_ := (Option.bind_some _ _).symm.trans H; with_reducible exact H2_) | with_reducible exact H | (rw [hy101]; exact H) | exact H
 have Ny101 := Aside0.mk hy101
 clear hy101
 replace H := Option.bind_eq_some_iff.mp H
 obtain ⟨t104, A10, H⟩ := H
 replace H : ((wire_Read.f t104).bind fun bt107 => ((props_Take.f k bt107.1 bt107.2).bind fun bt110 => (if (strOfNums t104).toList = ([3, 33, 0, 7] : List UInt8) then (if bt110.2.1 = true then (if (bt110.1.length : Int) = 1 then (if 0 < (bt110.1.length : Int) then (if ((rd_T60 bt110.1 0).f1) = 7 then ((props_Size.f k bt110.1).bind fun t117 => (if t117 = 4 then ((props_Put.f k ([] : List Int) ([] : List (S60))).bind fun t118 => (if (strOfNums t118).toList = ([0] : List UInt8) then ((props_Check.f k 1 bt110.1).bind fun t121 => (if t121 = true then ((props_Check.f k 3 bt110.1).bind fun t122 => (some (!t122))) else (some false))) else (some false))) else (some false))) else (some false)) else (none)) else (some false)) else (some false)) else (some false)))) = some r := H
 have A1 := Aside0.mk A10
 clear A10
 replace H := Option.bind_eq_some_iff.mp H
 obtain ⟨⟨t107, t108⟩, A20, H⟩ := H
 replace H : ((props_Take.f k t107 t108).bind fun bt110 => (if (strOfNums t104).toList = ([3, 33, 0, 7] : List UInt8) then (if bt110.2.1 = true then (if (bt110.1.length : Int) = 1 then (if 0 < (bt110.1.length : Int) then (if ((rd_T60 bt110.1 0).f1) = 7 then ((props_Size.f k bt110.1).bind fun t117 => (if t117 = 4 then ((props_Put.f k ([] : List Int) ([] : List (S60))).bind fun t118 => (if (strOfNums t118).toList = ([0] : List UInt8) then ((props_Check.f k 1 bt110.1).bind fun t121 => (if t121 = true then ((props_Check.f k 3 bt110.1).bind fun t122 => (some (!t122))) else (some false))) else (some false))) else (some false))) else (some false)) else (none)) else (some false)) else (some false)) else (some false))) = some r := H
 have A2 := Aside0.mk A20
 clear A20
 replace H := Option.bind_eq_some_iff.mp H
 obtain ⟨⟨t110, t113, t114, t115⟩, A30, H⟩ := H
 replace H : (if (strOfNums t104).toList = ([3, 33, 0, 7] : List UInt8) then (if t113 = true then (if (t110.length : Int) = 1 then (if 0 < (t110.length : Int) then (if ((rd_T60 t110 0).f1) = 7 then ((props_Size.f k t110).bind fun t117 => (if t117 = 4 then ((props_Put.f k ([] : List Int) ([] : List (S60))).bind fun t118 => (if (strOfNums t118).toList = ([0] : List UInt8) then ((props_Check.f k 1 t110).bind fun t121 => (if t121 = true then ((props_Check.f k 3 t110).bind fun t122 => (some (!t122))) else (some false))) else (some false))) else (some false))) else (some false)) else (none)) else (some false)) else (some false)) else (some false)) = some r := H
 have A3 := Aside0.mk A30
 clear A30
 by_cases c4 : (strOfNums t104).toList = ([3, 33, 0, 7] : List UInt8)
 ·rw [if_pos c4] at H
  have c4b0 : ((strOfNums t104).toList == ([3, 33, 0, 7] : List UInt8)) = true := beq_iff_eq.mpr c4
  have c4b1 : ((strOfNums t104).toList != ([3, 33, 0, 7] : List UInt8)) = false := bne_eq_false_iff_eq.mpr c4
  clear c4
  by_cases c5 : t113 = true
  ·subst c5
   have H1 : (if (t110.length : Int) = 1 then (if 0 < (t110.length : Int) then (if ((rd_T60 t110 0).f1) = 7 then ((props_Size.f k t110).bind fun t117 => (if t117 = 4 then ((props_Put.f k ([] : List Int) ([] : List (S60))).bind fun t118 => (if (strOfNums t118).toList = ([0] : List UInt8) then ((props_Check.f k 1 t110).bind fun t121 => (if t121 = true then ((props_Check.f k 3 t110).bind fun t122 => (some (!t122))) else (some false))) else (some false))) else (some false))) else (some false)) else (none)) else (some false)) = some r := by rw [if_pos rfl] at H; exact H
   clear H
   have H := H1
   clear H1
   by_cases c6 : (t110.length : Int) = 1
   ·rw [if_pos c6] at H
    have c6b0 : ((t110.length : Int) == 1) = true := beq_iff_eq.mpr c6
    have c6b1 : ((t110.length : Int) != 1) = false := bne_eq_false_iff_eq.mpr c6
    clear c6
    by_cases c7 : 0 < (t110.length : Int)
    ·rw [if_pos c7] at H
     have c7b0 : decide (0 < (t110.length : Int)) = true := decide_eq_true c7
     have c7b1 : decide (0 < t110.length) = true := decide_eq_true (by omega)
     clear c7
     by_cases c8 : ((rd_T60 t110 0).f1) = 7
     ·rw [if_pos c8] at H
      have c8b0 : (((rd_T60 t110 0).f1) == 7) = true := beq_iff_eq.mpr c8
      have c8b1 : (((rd_T60 t110 0).f1) != 7) = false := bne_eq_false_iff_eq.mpr c8
      clear c8
      replace H := Option.bind_eq_some_iff.mp H
      obtain ⟨t117, A90, H⟩ := H
      replace H : (if t117 = 4 then ((props_Put.f k ([] : List Int) ([] : List (S60))).bind fun t118 => (if (strOfNums t118).toList = ([0] : List UInt8) then ((props_Check.f k 1 t110).bind fun t121 => (if t121 = true then ((props_Check.f k 3 t110).bind fun t122 => (some (!t122))) else (some false))) else (some false))) else (some false)) = some r := H
      have A9 := Aside0.mk A90
      clear A90
      by_cases c10 : t117 = 4
      ·rw [if_pos c10] at H
       have c10b0 : (t117 == 4) = true := beq_iff_eq.mpr c10
       have c10b1 : (t117 != 4) = false := bne_eq_false_iff_eq.mpr c10
       clear c10
       replace H := Option.bind_eq_some_iff.mp H
       obtain ⟨t118, A110, H⟩ := H
       replace H : (if (strOfNums t118).toList = ([0] : List UInt8) then ((props_Check.f k 1 t110).bind fun t121 => (if t121 = true then ((props_Check.f k 3 t110).bind fun t122 => (some (!t122))) else (some false))) else (some false)) = some r := H
       have A11 := Aside0.mk A110
       clear A110
       by_cases c12 : (strOfNums t118).toList = ([0] : List UInt8)
       ·rw [if_pos c12] at H
        have c12b0 : ((strOfNums t118).toList == ([0] : List UInt8)) = true := beq_iff_eq.mpr c12
        have c12b1 : ((strOfNums t118).toList != ([0] : List UInt8)) = false := bne_eq_false_iff_eq.mpr c12
        clear c12
        replace H := Option.bind_eq_some_iff.mp H
        obtain ⟨t121, A130, H⟩ := H
        replace H : (if t121 = true then ((props_Check.f k 3 t110).bind fun t122 => (some (!t122))) else (some false)) = some r := H
        have A13 := Aside0.mk A130
        clear A130
        by_cases c14 : t121 = true
        ·subst c14
         have H1 : ((props_Check.f k 3 t110).bind fun t122 => (some (!t122))) = some r := by rw [if_pos rfl] at H; exact H
         clear H
         have H := H1
         clear H1
         replace H := Option.bind_eq_some_iff.mp H
         obtain ⟨t122, A150, H⟩ := H
         replace H : (some (!t122)) = some r := H
         have A15 := Aside0.mk A150
         clear A150
         obtain rfl := Option.some.inj H
         go_enter Tryd.func10, Tryd.ntmps10
         go_wp2_with (first | ((with_reducible refine gate_dst (N := 5) rfl ?_); refine Kd.R_lit k60 _ 60 ?hg (N := 5) ?hd (xs := ([(⟨33, 7, (⟨#[]⟩ : ByteArray), (⟨#[]⟩ : ByteArray)⟩ : S60)] : List (S60))) (inner := [.int .u8 33, .int .u32 7, .string (⟨#[]⟩ : ByteArray), .string (⟨#[]⟩ : ByteArray)]) (ok := fun _ => True) (okp := fun _ => True) ?hr ?hp (fun _ hk => hk) trivial (Below.refl _ _) (Nat.le_refl _) (by simp) ?_; (case hd => rfl); (case hg => rfl); (case hr => first | (go_simp; done) | (go_simp; rfl)); (case hp => exact z10z8); intro v102 w16 ho17 hb hg_ hnew_; clear hg_ hnew_; (first | rw [← Ny101.out] at ho17 | (simp only [Int.reduceToNat] at ho17; rw [← Ny101.out] at ho17)); have n0_ := Aside0.mk (Kd.R_lower ho17 (below_size z10z2)); have n1_ := Aside0.mk (below_step z10z2 hb); have HO103 := n0_; replace HB := n1_; clear n0_ n1_; clear hb ho17; obtain ⟨Ao18, co18, eo18⟩ := Kd.R_slice HO103.out; subst eo18) | ((with_reducible refine gate_callee (f := 11) rfl ?_); refine goesL_ (some 6) rfl rfl Tryd.func11 (by kernel_rfl) rfl #[.slice none 0 0, .slice Ao18 y101.length co18] rfl z10z4 ?_; (refine (props_Put.calls k _ _ ([] : List Int) _ _ y101 t104 _ ?side1 ?side2 ?side3 ?side4 ?side5 A1.out).mono ?_); (case side1 => exact Kd.C_nil _ _); (case side2 => exact Nat.le_refl _); (case side3 => exact z10z11); (case side4 => exact (Kd.R_reads' HO103.out).2.1); (case side5 => exact GW.below HG.out z10z2); rintro e w19 ⟨v105, rfl, ho0, hb⟩; refine ⟨_, rfl, ?_⟩; have n0_ := Aside0.mk (Kd.R_below z10z1 hb); have n1_ := Aside0.mk (Kd.R_lower ho0 (below_size z10z2)); have n2_ := Aside0.mk (below_step z10z2 hb); replace HO103 := n0_; have HO106 := n1_; replace HB := n2_; clear n0_ n1_ n2_; clear hb ho0; obtain ⟨Ao20, co20, eo20⟩ := Kd.R_slice HO106.out; subst eo20) | ((with_reducible refine gate_callee (f := 15) rfl ?_); refine goesL_ (some 9) rfl rfl Tryd.func15 (by kernel_rfl) rfl #[.slice Ao20 t104.length co20] rfl z10z4 ?_; (with_reducible refine (wire_Read.calls_at _ _ t104 t107 t108 w _ ?side1 ?side2 ?side3 A2.out).mono ?_); (case side1 => exact z10z13); (case side2 => exact z10z12); (case side3 => exact (Kd.R_reads' HO106.out).2.1); rintro e w21 ⟨g109, rfl, hi, hb, hb2⟩; refine ⟨_, rfl, ?_⟩; have n0_ := Aside0.mk (Kd.R_below z10z1 hb2); have n1_ := Aside0.mk (Kd.R_below z10z3 hb2); have n2_ := Aside0.mk (hb); have n3_ := Aside0.mk (hi); replace HO103 := n0_; replace HO106 := n1_; replace HB := n2_; have HI109 := n3_; clear n0_ n1_ n2_ n3_; clear hb hb2 hi) | ((with_reducible refine gate_callee (f := 17) rfl ?_); refine goesL_ (some 10) rfl rfl Tryd.func17 (by kernel_rfl) rfl #[.pointer (some ⟨g109, 0, none⟩)] rfl z10z4 ?_; (with_reducible refine (props_Take.calls k g109 t107 t108 t110 true t114 t115 w _ ?side1 ?side2 ?side3 A3.out).mono ?_); (case side1 => exact z10z10); (case side2 => exact z10z9); (case side3 => exact HG.out); rintro e w22 ⟨v111, rfl, ho0, hi, hb, hk⟩; refine ⟨_, rfl, ?_⟩; have n0_ := Aside0.mk (Kd.R_mono (Kd.R_told (Kd.R_oldK (IsS78.apart (show IsS78 w _ g109 t107 t108 from by repeat (first | (with_reducible first | exact HI109.out | apply IsS78.alloc | apply IsS78.drewN | apply IsS78.drew | apply IsS78.set_0 | apply IsS78.set_1) | exact HI109.out)) z10z1 (by decide)) hk) (Kd.R_base ho0)) (fun _ h_ => h_.1)); have n1_ := Aside0.mk (Kd.R_mono (Kd.R_keep (IsS78.apart (show IsS78 w _ g109 t107 t108 from by repeat (first | (with_reducible first | exact HI109.out | apply IsS78.alloc | apply IsS78.drewN | apply IsS78.drew | apply IsS78.set_0 | apply IsS78.set_1) | exact HI109.out)) z10z3 (by decide)) hk (fun _ h => h.2)) (fun _ h => h.1)); have n2_ := Aside0.mk (Kd.R_lower (Kd.R_new' ho0 (Kd.R_lt z10z1)) (below_size z10z0)); have n3_ := Aside0.mk (hb); have n4_ := Aside0.mk (hi); replace HO103 := n0_; replace HO106 := n1_; have HO112 := n2_; replace HB := n3_; replace HI109 := n4_; clear n0_ n1_ n2_ n3_ n4_; clear hb hk hi ho0; have hcv23 := own_string (P := Tryd.prog) Tryd.underlying25 Tryd.underlying5 Tryd.underlying9 (Kd.own_of_R HO106.out); obtain ⟨Ao24, co24, eo24⟩ := Kd.R_slice HO112.out; subst eo24; have p116 : 0 ≤ (0 : Int) := (by omega); have q116 : 0 < (t110.length : Int) := of_decide_eq_true (by first | (with_reducible assumption) | assumption); obtain ⟨ad116, e116, hx116_0, hx116_1, hx116_2, hx116_3⟩ := at_T60 (Kd.R_reads' HO112.out).2.2 0 p116 q116; cases e116; have qi116 : (0 < t110.length) = True := eq_true (by omega); (try rw [show ((0 : Int)).toNat = 0 from rfl] at hx116_0); (try rw [show 0 * 4 = 0 from rfl] at hx116_0); (try rw [Addr.add_zero'] at hx116_0); (try rw [show ((0 : Int)).toNat = 0 from rfl] at hx116_1); (try rw [show 0 * 4 = 0 from rfl] at hx116_1); (try rw [Addr.add_zero'] at hx116_1); (try rw [show ((0 : Int)).toNat = 0 from rfl] at hx116_2); (try rw [show 0 * 4 = 0 from rfl] at hx116_2); (try rw [Addr.add_zero'] at hx116_2); (try rw [show ((0 : Int)).toNat = 0 from rfl] at hx116_3); (try rw [show 0 * 4 = 0 from rfl] at hx116_3); (try rw [Addr.add_zero'] at hx116_3); replace p116 := eq_true p116; replace q116 := eq_true q116) | (go_at_call 14; (with_reducible refine (props_Size.calls k _ _ t110 t117 _ ?side1 ?side2 ?side3 A9.out).mono ?_); (case side1 => exact z10z6); (case side2 => exact z10z16); (case side3 => exact z10z15); rintro e w25 ⟨rfl, hb⟩; have n0_ := Aside0.mk (Kd.R_below z10z1 hb); have n1_ := Aside0.mk (Kd.R_below z10z3 hb); have n2_ := Aside0.mk (Kd.R_below z10z7 hb); have n3_ := Aside0.mk (IsS78.below z10z5 hb); have n4_ := Aside0.mk (below_step z10z0 hb); replace HO103 := n0_; replace HO106 := n1_; replace HO112 := n2_; replace HI109 := n3_; replace HB := n4_; clear n0_ n1_ n2_ n3_ n4_; clear hb) | (go_at_call 11; (refine (props_Put.calls k _ _ ([] : List Int) _ _ ([] : List (S60)) t118 _ ?side1 ?side2 ?side3 ?side4 ?side5 A11.out).mono ?_); (case side1 => exact Kd.C_nil _ _); (case side2 => exact Nat.le_refl _); (case side3 => exact Kd.C_nil _ _); (case side4 => exact Nat.le_refl _); (case side5 => exact z10z15); rintro e w26 ⟨v119, rfl, ho0, hb⟩; have n0_ := Aside0.mk (Kd.R_below z10z1 hb); have n1_ := Aside0.mk (Kd.R_elder' z10z3 (Kd.R_base ho0) hb); have n2_ := Aside0.mk (Kd.R_below z10z7 hb); have n3_ := Aside0.mk (Kd.R_lower (Kd.R_new' ho0 (Kd.R_lt z10z3)) (below_size z10z0)); have n4_ := Aside0.mk (IsS78.below z10z5 hb); have n5_ := Aside0.mk (below_step z10z0 hb); replace HO103 := n0_; replace HO106 := n1_; replace HO112 := n2_; have HO120 := n3_; replace HI109 := n4_; replace HB := n5_; clear n0_ n1_ n2_ n3_ n4_ n5_; clear hb ho0; have hcv27 := own_string (P := Tryd.prog) Tryd.underlying25 Tryd.underlying5 Tryd.underlying9 (Kd.own_of_R HO120.out)) | (go_at_call 30; (with_reducible refine (props_Check.calls k 1 _ _ t110 true _ ?side1 ?side2 ?side3 A13.out).mono ?_); (case side1 => exact z10z6); (case side2 => exact z10z16); (case side3 => exact z10z15); rintro e w28 ⟨rfl, hb⟩; have n0_ := Aside0.mk (Kd.R_below z10z1 hb); have n1_ := Aside0.mk (Kd.R_below z10z3 hb); have n2_ := Aside0.mk (Kd.R_below z10z7 hb); have n3_ := Aside0.mk (Kd.R_below z10z14 hb); have n4_ := Aside0.mk (IsS78.below z10z5 hb); have n5_ := Aside0.mk (below_step z10z0 hb); replace HO103 := n0_; replace HO106 := n1_; replace HO112 := n2_; replace HO120 := n3_; replace HI109 := n4_; replace HB := n5_; clear n0_ n1_ n2_ n3_ n4_ n5_; clear hb) | (go_at_call 30; (with_reducible refine (props_Check.calls k 3 _ _ t110 t122 _ ?side1 ?side2 ?side3 A15.out).mono ?_); (case side1 => exact z10z6); (case side2 => exact z10z16); (case side3 => exact z10z15); rintro e w29 ⟨rfl, hb⟩; have n0_ := Aside0.mk (Kd.R_below z10z1 hb); have n1_ := Aside0.mk (Kd.R_below z10z3 hb); have n2_ := Aside0.mk (Kd.R_below z10z7 hb); have n3_ := Aside0.mk (Kd.R_below z10z14 hb); have n4_ := Aside0.mk (IsS78.below z10z5 hb); have n5_ := Aside0.mk (below_step z10z0 hb); replace HO103 := n0_; replace HO106 := n1_; replace HO112 := n2_; replace HO120 := n3_; replace HI109 := n4_; replace HB := n5_; clear n0_ n1_ n2_ n3_ n4_ n5_; clear hb))
         go_ret
         exact ⟨by first | rfl | (simp [errW_none, errW_some] <;> rfl) | (simp [*, errW_none, errW_some] <;> rfl), by repeat (first | (with_reducible first | exact HB.out | apply below_alloc | apply pw_below_drewN | apply below_drew1 | refine below_set ?_ (IsS78.ge HI109.out)) | exact HB.out)⟩
        ·replace c14 := Bool.eq_false_iff.mpr c14
         subst c14
         have H1 : (some false) = some r := by rw [if_neg (show ¬ (false = true) by decide)] at H; exact H
         clear H
         have H := H1
         clear H1
         obtain rfl := Option.some.inj H
         go_enter Tryd.func10, Tryd.ntmps10
         go_wp2_with (first | ((with_reducible refine gate_dst (N := 5) rfl ?_); refine Kd.R_lit k60 _ 60 ?hg (N := 5) ?hd (xs := ([(⟨33, 7, (⟨#[]⟩ : ByteArray), (⟨#[]⟩ : ByteArray)⟩ : S60)] : List (S60))) (inner := [.int .u8 33, .int .u32 7, .string (⟨#[]⟩ : ByteArray), .string (⟨#[]⟩ : ByteArray)]) (ok := fun _ => True) (okp := fun _ => True) ?hr ?hp (fun _ hk => hk) trivial (Below.refl _ _) (Nat.le_refl _) (by simp) ?_; (case hd => rfl); (case hg => rfl); (case hr => first | (go_simp; done) | (go_simp; rfl)); (case hp => exact z10z8); intro v102 w30 ho31 hb hg_ hnew_; clear hg_ hnew_; (first | rw [← Ny101.out] at ho31 | (simp only [Int.reduceToNat] at ho31; rw [← Ny101.out] at ho31)); have n0_ := Aside0.mk (Kd.R_lower ho31 (below_size z10z2)); have n1_ := Aside0.mk (below_step z10z2 hb); have HO103 := n0_; replace HB := n1_; clear n0_ n1_; clear hb ho31; obtain ⟨Ao32, co32, eo32⟩ := Kd.R_slice HO103.out; subst eo32) | ((with_reducible refine gate_callee (f := 11) rfl ?_); refine goesL_ (some 6) rfl rfl Tryd.func11 (by kernel_rfl) rfl #[.slice none 0 0, .slice Ao32 y101.length co32] rfl z10z4 ?_; (refine (props_Put.calls k _ _ ([] : List Int) _ _ y101 t104 _ ?side1 ?side2 ?side3 ?side4 ?side5 A1.out).mono ?_); (case side1 => exact Kd.C_nil _ _); (case side2 => exact Nat.le_refl _); (case side3 => exact z10z11); (case side4 => exact (Kd.R_reads' HO103.out).2.1); (case side5 => exact GW.below HG.out z10z2); rintro e w33 ⟨v105, rfl, ho0, hb⟩; refine ⟨_, rfl, ?_⟩; have n0_ := Aside0.mk (Kd.R_below z10z1 hb); have n1_ := Aside0.mk (Kd.R_lower ho0 (below_size z10z2)); have n2_ := Aside0.mk (below_step z10z2 hb); replace HO103 := n0_; have HO106 := n1_; replace HB := n2_; clear n0_ n1_ n2_; clear hb ho0; obtain ⟨Ao34, co34, eo34⟩ := Kd.R_slice HO106.out; subst eo34) | ((with_reducible refine gate_callee (f := 15) rfl ?_); refine goesL_ (some 9) rfl rfl Tryd.func15 (by kernel_rfl) rfl #[.slice Ao34 t104.length co34] rfl z10z4 ?_; (with_reducible refine (wire_Read.calls_at _ _ t104 t107 t108 w _ ?side1 ?side2 ?side3 A2.out).mono ?_); (case side1 => exact z10z13); (case side2 => exact z10z12); (case side3 => exact (Kd.R_reads' HO106.out).2.1); rintro e w35 ⟨g109, rfl, hi, hb, hb2⟩; refine ⟨_, rfl, ?_⟩; have n0_ := Aside0.mk (Kd.R_below z10z1 hb2); have n1_ := Aside0.mk (Kd.R_below z10z3 hb2); have n2_ := Aside0.mk (hb); have n3_ := Aside0.mk (hi); replace HO103 := n0_; replace HO106 := n1_; replace HB := n2_; have HI109 := n3_; clear n0_ n1_ n2_ n3_; clear hb hb2 hi) | ((with_reducible refine gate_callee (f := 17) rfl ?_); refine goesL_ (some 10) rfl rfl Tryd.func17 (by kernel_rfl) rfl #[.pointer (some ⟨g109, 0, none⟩)] rfl z10z4 ?_; (with_reducible refine (props_Take.calls k g109 t107 t108 t110 true t114 t115 w _ ?side1 ?side2 ?side3 A3.out).mono ?_); (case side1 => exact z10z10); (case side2 => exact z10z9); (case side3 => exact HG.out); rintro e w36 ⟨v111, rfl, ho0, hi, hb, hk⟩; refine ⟨_, rfl, ?_⟩; have n0_ := Aside0.mk (Kd.R_mono (Kd.R_told (Kd.R_oldK (IsS78.apart (show IsS78 w _ g109 t107 t108 from by repeat (first | (with_reducible first | exact HI109.out | apply IsS78.alloc | apply IsS78.drewN | apply IsS78.drew | apply IsS78.set_0 | apply IsS78.set_1) | exact HI109.out)) z10z1 (by decide)) hk) (Kd.R_base ho0)) (fun _ h_ => h_.1)); have n1_ := Aside0.mk (Kd.R_mono (Kd.R_keep (IsS78.apart (show IsS78 w _ g109 t107 t108 from by repeat (first | (with_reducible first | exact HI109.out | apply IsS78.alloc | apply IsS78.drewN | apply IsS78.drew | apply IsS78.set_0 | apply IsS78.set_1) | exact HI109.out)) z10z3 (by decide)) hk (fun _ h => h.2)) (fun _ h => h.1)); have n2_ := Aside0.mk (Kd.R_lower (Kd.R_new' ho0 (Kd.R_lt z10z1)) (below_size z10z0)); have n3_ := Aside0.mk (hb); have n4_ := Aside0.mk (hi); replace HO103 := n0_; replace HO106 := n1_; have HO112 := n2_; replace HB := n3_; replace HI109 := n4_; clear n0_ n1_ n2_ n3_ n4_; clear hb hk hi ho0; have hcv37 := own_string (P := Tryd.prog) Tryd.underlying25 Tryd.underlying5 Tryd.underlying9 (Kd.own_of_R HO106.out); obtain ⟨Ao38, co38, eo38⟩ := Kd.R_slice HO112.out; subst eo38; have p116 : 0 ≤ (0 : Int) := (by omega); have q116 : 0 < (t110.length : Int) := of_decide_eq_true (by first | (with_reducible assumption) | assumption); obtain ⟨ad116, e116, hx116_0, hx116_1, hx116_2, hx116_3⟩ := at_T60 (Kd.R_reads' HO112.out).2.2 0 p116 q116; cases e116; have qi116 : (0 < t110.length) = True := eq_true (by omega); (try rw [show ((0 : Int)).toNat = 0 from rfl] at hx116_0); (try rw [show 0 * 4 = 0 from rfl] at hx116_0); (try rw [Addr.add_zero'] at hx116_0); (try rw [show ((0 : Int)).toNat = 0 from rfl] at hx116_1); (try rw [show 0 * 4 = 0 from rfl] at hx116_1); (try rw [Addr.add_zero'] at hx116_1); (try rw [show ((0 : Int)).toNat = 0 from rfl] at hx116_2); (try rw [show 0 * 4 = 0 from rfl] at hx116_2); (try rw [Addr.add_zero'] at hx116_2); (try rw [show ((0 : Int)).toNat = 0 from rfl] at hx116_3); (try rw [show 0 * 4 = 0 from rfl] at hx116_3); (try rw [Addr.add_zero'] at hx116_3); replace p116 := eq_true p116; replace q116 := eq_true q116) | (go_at_call 14; (with_reducible refine (props_Size.calls k _ _ t110 t117 _ ?side1 ?side2 ?side3 A9.out).mono ?_); (case side1 => exact z10z6); (case side2 => exact z10z16); (case side3 => exact z10z15); rintro e w39 ⟨rfl, hb⟩; have n0_ := Aside0.mk (Kd.R_below z10z1 hb); have n1_ := Aside0.mk (Kd.R_below z10z3 hb); have n2_ := Aside0.mk (Kd.R_below z10z7 hb); have n3_ := Aside0.mk (IsS78.below z10z5 hb); have n4_ := Aside0.mk (below_step z10z0 hb); replace HO103 := n0_; replace HO106 := n1_; replace HO112 := n2_; replace HI109 := n3_; replace HB := n4_; clear n0_ n1_ n2_ n3_ n4_; clear hb) | (go_at_call 11; (refine (props_Put.calls k _ _ ([] : List Int) _ _ ([] : List (S60)) t118 _ ?side1 ?side2 ?side3 ?side4 ?side5 A11.out).mono ?_); (case side1 => exact Kd.C_nil _ _); (case side2 => exact Nat.le_refl _); (case side3 => exact Kd.C_nil _ _); (case side4 => exact Nat.le_refl _); (case side5 => exact z10z15); rintro e w40 ⟨v119, rfl, ho0, hb⟩; have n0_ := Aside0.mk (Kd.R_below z10z1 hb); have n1_ := Aside0.mk (Kd.R_elder' z10z3 (Kd.R_base ho0) hb); have n2_ := Aside0.mk (Kd.R_below z10z7 hb); have n3_ := Aside0.mk (Kd.R_lower (Kd.R_new' ho0 (Kd.R_lt z10z3)) (below_size z10z0)); have n4_ := Aside0.mk (IsS78.below z10z5 hb); have n5_ := Aside0.mk (below_step z10z0 hb); replace HO103 := n0_; replace HO106 := n1_; replace HO112 := n2_; have HO120 := n3_; replace HI109 := n4_; replace HB := n5_; clear n0_ n1_ n2_ n3_ n4_ n5_; clear hb ho0; have hcv41 := own_string (P := Tryd.prog) Tryd.underlying25 Tryd.underlying5 Tryd.underlying9 (Kd.own_of_R HO120.out)) | (go_at_call 30; (with_reducible refine (props_Check.calls k 1 _ _ t110 false _ ?side1 ?side2 ?side3 A13.out).mono ?_); (case side1 => exact z10z6); (case side2 => exact z10z16); (case side3 => exact z10z15); rintro e w42 ⟨rfl, hb⟩; have n0_ := Aside0.mk (Kd.R_below z10z1 hb); have n1_ := Aside0.mk (Kd.R_below z10z3 hb); have n2_ := Aside0.mk (Kd.R_below z10z7 hb); have n3_ := Aside0.mk (Kd.R_below z10z14 hb); have n4_ := Aside0.mk (IsS78.below z10z5 hb); have n5_ := Aside0.mk (below_step z10z0 hb); replace HO103 := n0_; replace HO106 := n1_; replace HO112 := n2_; replace HO120 := n3_; replace HI109 := n4_; replace HB := n5_; clear n0_ n1_ n2_ n3_ n4_ n5_; clear hb))
         go_ret
         exact ⟨by first | rfl | (simp [errW_none, errW_some] <;> rfl) | (simp [*, errW_none, errW_some] <;> rfl), by repeat (first | (with_reducible first | exact HB.out | apply below_alloc | apply pw_below_drewN | apply below_drew1 | refine below_set ?_ (IsS78.ge HI109.out)) | exact HB.out)⟩
       ·rw [if_neg c12] at H
        exact absurd H z10z17
      ·rw [if_neg c10] at H
       exact absurd H z10z17
     ·rw [if_neg c8] at H
      exact absurd H z10z17
    ·rw [if_neg c7] at H
     exact absurd H (by simp)
   ·rw [if_neg c6] at H
    exact absurd H z10z17
  ·replace c5 := Bool.eq_false_iff.mpr c5
   subst c5
   have H1 : (some false) = some r := by rw [if_neg (show ¬ (false = true) by decide)] at H; exact H
   clear H
   have H := H1
   clear H1
   obtain rfl := Option.some.inj H
   go_enter Tryd.func10, Tryd.ntmps10
   go_wp2_with (first | ((with_reducible refine gate_dst (N := 5) rfl ?_); refine Kd.R_lit k60 _ 60 ?hg (N := 5) ?hd (xs := ([(⟨33, 7, (⟨#[]⟩ : ByteArray), (⟨#[]⟩ : ByteArray)⟩ : S60)] : List (S60))) (inner := [.int .u8 33, .int .u32 7, .string (⟨#[]⟩ : ByteArray), .string (⟨#[]⟩ : ByteArray)]) (ok := fun _ => True) (okp := fun _ => True) ?hr ?hp (fun _ hk => hk) trivial (Below.refl _ _) (Nat.le_refl _) (by simp) ?_; (case hd => rfl); (case hg => rfl); (case hr => first | (go_simp; done) | (go_simp; rfl)); (case hp => exact z10z8); intro v102 w83 ho84 hb hg_ hnew_; clear hg_ hnew_; (first | rw [← Ny101.out] at ho84 | (simp only [Int.reduceToNat] at ho84; rw [← Ny101.out] at ho84)); have n0_ := Aside0.mk (Kd.R_lower ho84 (below_size z10z2)); have n1_ := Aside0.mk (below_step z10z2 hb); have HO103 := n0_; replace HB := n1_; clear n0_ n1_; clear hb ho84; obtain ⟨Ao85, co85, eo85⟩ := Kd.R_slice HO103.out; subst eo85) | ((with_reducible refine gate_callee (f := 11) rfl ?_); refine goesL_ (some 6) rfl rfl Tryd.func11 (by kernel_rfl) rfl #[.slice none 0 0, .slice Ao85 y101.length co85] rfl z10z4 ?_; (refine (props_Put.calls k _ _ ([] : List Int) _ _ y101 t104 _ ?side1 ?side2 ?side3 ?side4 ?side5 A1.out).mono ?_); (case side1 => exact Kd.C_nil _ _); (case side2 => exact Nat.le_refl _); (case side3 => exact z10z11); (case side4 => exact (Kd.R_reads' HO103.out).2.1); (case side5 => exact GW.below HG.out z10z2); rintro e w86 ⟨v105, rfl, ho0, hb⟩; refine ⟨_, rfl, ?_⟩; have n0_ := Aside0.mk (Kd.R_below z10z1 hb); have n1_ := Aside0.mk (Kd.R_lower ho0 (below_size z10z2)); have n2_ := Aside0.mk (below_step z10z2 hb); replace HO103 := n0_; have HO106 := n1_; replace HB := n2_; clear n0_ n1_ n2_; clear hb ho0; obtain ⟨Ao87, co87, eo87⟩ := Kd.R_slice HO106.out; subst eo87) | ((with_reducible refine gate_callee (f := 15) rfl ?_); refine goesL_ (some 9) rfl rfl Tryd.func15 (by kernel_rfl) rfl #[.slice Ao87 t104.length co87] rfl z10z4 ?_; (with_reducible refine (wire_Read.calls_at _ _ t104 t107 t108 w _ ?side1 ?side2 ?side3 A2.out).mono ?_); (case side1 => exact z10z13); (case side2 => exact z10z12); (case side3 => exact (Kd.R_reads' HO106.out).2.1); rintro e w88 ⟨g109, rfl, hi, hb, hb2⟩; refine ⟨_, rfl, ?_⟩; have n0_ := Aside0.mk (Kd.R_below z10z1 hb2); have n1_ := Aside0.mk (Kd.R_below z10z3 hb2); have n2_ := Aside0.mk (hb); have n3_ := Aside0.mk (hi); replace HO103 := n0_; replace HO106 := n1_; replace HB := n2_; have HI109 := n3_; clear n0_ n1_ n2_ n3_; clear hb hb2 hi) | ((with_reducible refine gate_callee (f := 17) rfl ?_); refine goesL_ (some 10) rfl rfl Tryd.func17 (by kernel_rfl) rfl #[.pointer (some ⟨g109, 0, none⟩)] rfl z10z4 ?_; (with_reducible refine (props_Take.calls k g109 t107 t108 t110 false t114 t115 w _ ?side1 ?side2 ?side3 A3.out).mono ?_); (case side1 => exact z10z10); (case side2 => exact z10z9); (case side3 => exact HG.out); rintro e w89 ⟨v111, rfl, ho0, hi, hb, hk⟩; refine ⟨_, rfl, ?_⟩; have n0_ := Aside0.mk (Kd.R_mono (Kd.R_told (Kd.R_oldK (IsS78.apart (show IsS78 w _ g109 t107 t108 from by repeat (first | (with_reducible first | exact HI109.out | apply IsS78.alloc | apply IsS78.drewN | apply IsS78.drew | apply IsS78.set_0 | apply IsS78.set_1) | exact HI109.out)) z10z1 (by decide)) hk) (Kd.R_base ho0)) (fun _ h_ => h_.1)); have n1_ := Aside0.mk (Kd.R_mono (Kd.R_keep (IsS78.apart (show IsS78 w _ g109 t107 t108 from by repeat (first | (with_reducible first | exact HI109.out | apply IsS78.alloc | apply IsS78.drewN | apply IsS78.drew | apply IsS78.set_0 | apply IsS78.set_1) | exact HI109.out)) z10z3 (by decide)) hk (fun _ h => h.2)) (fun _ h => h.1)); have n2_ := Aside0.mk (Kd.R_lower (Kd.R_new' ho0 (Kd.R_lt z10z1)) (below_size z10z0)); have n3_ := Aside0.mk (hb); have n4_ := Aside0.mk (hi); replace HO103 := n0_; replace HO106 := n1_; have HO112 := n2_; replace HB := n3_; replace HI109 := n4_; clear n0_ n1_ n2_ n3_ n4_; clear hb hk hi ho0; have hcv90 := own_string (P := Tryd.prog) Tryd.underlying25 Tryd.underlying5 Tryd.underlying9 (Kd.own_of_R HO106.out)))
   go_ret
   exact ⟨by first | rfl | (simp [errW_none, errW_some] <;> rfl) | (simp [*, errW_none, errW_some] <;> rfl), by repeat (first | (with_reducible first | exact HB.out | apply below_alloc | apply pw_below_drewN | apply below_drew1 | refine below_set ?_ (IsS78.ge HI109.out)) | exact HB.out)⟩
 ·rw [if_neg c4] at H
  exact absurd H z10z17
def pouchlaw06_told.f (k : Nat) : Option Bool := if pouchlaw06_told.f0 k = some true then some true else none
theorem pouchlaw06_told.mono : ∀ k, LeO (pouchlaw06_told.f k) (pouchlaw06_told.f (k + 1)) := by
 intro k r h
 unfold pouchlaw06_told.f at h ⊢
 by_cases h1 : pouchlaw06_told.f0 k = some true
 ·rw [if_pos h1] at h; rw [if_pos (pouchlaw06_told.mono0 k _ h1)]; exact h
 ·rw [if_neg h1] at h; cases h
theorem pouchlaw06_told.calls (k : Nat) (r : Bool) (w : World) (hG : GW w) (h : pouchlaw06_told.f k = some r) :
  Calls Tryd.prog 10 #[] w fun e w' => e = .returned (.bool r) ∧ Below w.heap.size w w' := by
 unfold pouchlaw06_told.f at h
 by_cases h1 : pouchlaw06_told.f0 k = some true
 ·rw [if_pos h1] at h
  obtain rfl := Option.some.inj h
  exact pouchlaw06_told.calls0 k true rfl w hG h1
 ·rw [if_neg h1] at h; cases h
end Go.Proofs.YtkmkgpigmldhnaaDoor.P

namespace Go.Proofs.YtkmkgpigmldhnaaDoor.P
open Go.RowKit Go.Proofs.YtkmkgpigmldhnaaDoorW.PrintWords Go.Proofs.YtkmkgpigmldhnaaDoorW.PrintLast Go.Proofs.YtkmkgpigmldhnaaDoorW.PrintMore
attribute [local go_sem] max2_int min2_int max_two min_two max_three min_three max_four min_four
set_option linter.unusedVariables false
set_option linter.unusedSimpArgs false
theorem eqA58 (d : Nat) (w : World) (x0 y0 : Int) (x1 y1 : Int) (x2 y2 : ByteArray) (x3 y3 : ByteArray) :
    (Op.equalIn (d + 2) 58 (.agg #[.int .u8 x0, .int .u32 x1, .string x2, .string x3]) (.agg #[.int .u8 y0, .int .u32 y1, .string y2, .string y3])).run Tryd.prog w = .ok (x0 == y0 && (x1 == y1 && (x2.toList == y2.toList && (x3.toList == y3.toList)))) w := by
  refine eqA_of Tryd.underlying58 (by kernel_rfl) ?_
  refine eqf_cons (by rfl) (by go_simp; rfl) (by go_simp; rfl) (by go_simp) ?_
  refine eqf_cons (by rfl) (by go_simp; rfl) (by go_simp; rfl) (by go_simp) ?_
  refine eqf_cons (by rfl) (by go_simp; rfl) (by go_simp; rfl) (by go_simp) ?_
  exact eqf_last (by rfl) (by go_simp; rfl) (by go_simp; rfl) (by go_simp)
end Go.Proofs.YtkmkgpigmldhnaaDoor.P

namespace Go.Proofs.YtkmkgpigmldhnaaDoor.P
open Go.RowKit Go.Proofs.YtkmkgpigmldhnaaDoorW.PrintWords Go.Proofs.YtkmkgpigmldhnaaDoorW.PrintLast Go.Proofs.YtkmkgpigmldhnaaDoorW.PrintMore
attribute [local go_sem] max2_int min2_int max_two min_two max_three min_three max_four min_four
set_option linter.unusedVariables false
set_option linter.unusedSimpArgs false
attribute [local go_sem high] eqA58
def pouchref06_Same.l0 : Nat → List (S58) → List (S58) → Int → Option (Bool)
  | 0, _, _, _ => none
  | k + 1, x0, x1, x5 => if x5 < (x0.length : Int) then (if 0 ≤ x5 then (if x5 < (x1.length : Int) then (if (!(((rd_T58 x0 x5).f0) == ((rd_T58 x1 x5).f0)) || (!(((rd_T58 x0 x5).f1) == ((rd_T58 x1 x5).f1)) || (!((((rd_T58 x0 x5).f2).toList) == (((rd_T58 x1 x5).f2).toList)) || (!((((rd_T58 x0 x5).f3).toList) == (((rd_T58 x1 x5).f3).toList)))))) = true then (some false) else (pouchref06_Same.l0 k x0 x1 (wrap64 (x5 + 1)))) else (none)) else (none)) else (some true)
def pouchref06_Same.f (k : Nat) (l0 : List (S58)) (l1 : List (S58)) : Option (Bool) := if (l0.length : Int) = (l1.length : Int) then (pouchref06_Same.l0 k l0 l1 0) else (some false)
theorem z18m0 {p : Prop} (h : p := by
 repeat' first
 | (with_reducible exact ih0 _ _ _)
 | (with_reducible exact LeO.refl _)
 | (with_reducible exact LeO.none _)
 | (with_reducible refine LeO.ite ?_ ?_)
 | (with_reducible refine LeO.bind ?_ (fun _ => ?_))
 | exact ih0 _ _ _
 | exact LeO.none _
 | refine LeO.ite ?_ ?_
 | refine LeO.bind ?_ (fun _ => ?_)) : p := h
theorem pouchref06_Same.mono_l : ∀ k, (∀ y0 y1 y2, LeO (pouchref06_Same.l0 k y0 y1 y2) (pouchref06_Same.l0 (k + 1) y0 y1 y2))
  | 0 => fun _ _ _ r h => by simp [pouchref06_Same.l0] at h
  | k + 1 => by
    have ih0 := pouchref06_Same.mono_l k
    · intro y0 y1 y2
      unfold pouchref06_Same.l0
      exact z18m0
theorem pouchref06_Same.mono : ∀ a0 a1 k, LeO (pouchref06_Same.f k a0 a1) (pouchref06_Same.f (k + 1) a0 a1) := by
  intro a0 a1 k
  have ih0 := pouchref06_Same.mono_l k
  unfold pouchref06_Same.f
  exact z18m0
theorem z18z0 {p : Prop} (h : p := by first | (with_reducible assumption) | assumption) : p := h
set_option maxHeartbeats 8000000 in
set_option maxRecDepth 100000 in
theorem pouchref06_Same.calls (k : Nat) (A0 : Option Addr) (c0 : Nat) (l0 : List (S58)) (A1 : Option Addr) (c1 : Nat) (l1 : List (S58)) (r : Bool) (w : World) (hr0 : Kd.C k58 w A0 l0.length l0) (hc0 : l0.length ≤ c0) (hr1 : Kd.C k58 w A1 l1.length l1) (hc1 : l1.length ≤ c1) (h : pouchref06_Same.f k l0 l1 = some r) :
  Calls Tryd.prog 18 #[.slice A0 l0.length c0, .slice A1 l1.length c1] w fun e w' => e = .returned (.bool r) ∧ Drawn0 w w' := by
 have hu58 := Tryd.underlying58
 have HR0 := Aside0.mk hr0
 have HC0 := Aside0.mk hc0
 clear hr0 hc0
 have HR1 := Aside0.mk hr1
 have HC1 := Aside0.mk hc1
 clear hr1 hc1
 have H : (if (l0.length : Int) = (l1.length : Int) then (pouchref06_Same.l0 k l0 l1 0) else (some false)) = some r := h
 clear h
 by_cases c3 : (l0.length : Int) = (l1.length : Int)
 ·rw [if_pos c3] at H
  have c3b0 : ((l0.length : Int) == (l1.length : Int)) = true := beq_iff_eq.mpr c3
  have c3b1 : ((l0.length : Int) != (l1.length : Int)) = false := bne_eq_false_iff_eq.mpr c3
  have c3b2 : (l0.length == l1.length) = true := by first | simpa using c3 | (simp at c3 ⊢; omega)
  clear c3
  have H' := Aside0.mk H
  clear H
  go_enter Tryd.func18, Tryd.ntmps18
  go_wp2
  repeat (go_quiet (fail); try go_wp2)
  go_loopg [5] k (fun kq v5 w' => ∃ (x5_1 : Int), v5 = .int .i64 x5_1 ∧ Aside0 (pouchref06_Same.l0 kq l0 l1 x5_1 = some r) ∧ Aside0 (kq ≤ k) ∧ Drawn0 w w')
  case atStart => exact ⟨(0), (by first | rfl | (simp; done) | (simp [*]; done)), H', ⟨Nat.le_refl _⟩, by repeat (first | exact Drawn0.refl _ | apply Drawn0.step)⟩
  case round =>
   clear H'
   try clear c1
   try clear p2
   try clear c3
   try clear c3b0
   try clear c3b1
   try clear c3b2
   obtain ⟨x5_1, rfl, HA, HK1, ⟨m1, rfl⟩⟩ := hrel
   cases gk with
   | zero => exact absurd HA.out (by simp [pouchref06_Same.l0])
   | succ k1 =>
    have H := HA.out
    clear HA
    simp only [pouchref06_Same.l0] at H
    by_cases c4 : x5_1 < (l0.length : Int)
    ·rw [if_pos c4] at H
     have c4b0 : decide (x5_1 < (l0.length : Int)) = true := decide_eq_true c4
     clear c4
     by_cases c5 : 0 ≤ x5_1
     ·rw [if_pos c5] at H
      have c5b0 : decide (0 ≤ x5_1) = true := decide_eq_true c5
      clear c5
      by_cases c6 : x5_1 < (l1.length : Int)
      ·rw [if_pos c6] at H
       have c6b0 : decide (x5_1 < (l1.length : Int)) = true := decide_eq_true c6
       clear c6
       by_cases c7 : (!(((rd_T58 l0 x5_1).f0) == ((rd_T58 l1 x5_1).f0)) || (!(((rd_T58 l0 x5_1).f1) == ((rd_T58 l1 x5_1).f1)) || (!((((rd_T58 l0 x5_1).f2).toList) == (((rd_T58 l1 x5_1).f2).toList)) || (!((((rd_T58 l0 x5_1).f3).toList) == (((rd_T58 l1 x5_1).f3).toList)))))) = true
       ·rw [if_pos c7] at H
        have c7b0 : (!(((rd_T58 l0 x5_1).f0) == ((rd_T58 l1 x5_1).f0)) || (!(((rd_T58 l0 x5_1).f1) == ((rd_T58 l1 x5_1).f1)) || (!((((rd_T58 l0 x5_1).f2).toList) == (((rd_T58 l1 x5_1).f2).toList)) || (!((((rd_T58 l0 x5_1).f3).toList) == (((rd_T58 l1 x5_1).f3).toList)))))) = true := c7
        clear c7
        obtain rfl := Option.some.inj H
        have p101 : 0 ≤ (x5_1 : Int) := of_decide_eq_true z18z0
        have q101 : x5_1 < (l0.length : Int) := of_decide_eq_true z18z0
        obtain ⟨ad101, e101, hx101_0, hx101_1, hx101_2, hx101_3⟩ := at_T58 HR0.out x5_1 p101 q101
        cases e101
        replace p101 := eq_true p101
        replace q101 := eq_true q101
        have p102 : 0 ≤ (x5_1 : Int) := of_decide_eq_true z18z0
        have q102 : x5_1 < (l1.length : Int) := of_decide_eq_true z18z0
        obtain ⟨ad102, e102, hx102_0, hx102_1, hx102_2, hx102_3⟩ := at_T58 HR1.out x5_1 p102 q102
        cases e102
        replace p102 := eq_true p102
        replace q102 := eq_true q102
        go_wp2
        repeat (go_quiet (fail); try go_wp2)
        go_ret
        exact ⟨by first | rfl | (simp; done) | (simp [*]; done), by repeat (first | exact Drawn0.refl _ | apply Drawn0.step)⟩
       ·rw [if_neg c7] at H
        have c7b0 : (!(((rd_T58 l0 x5_1).f0) == ((rd_T58 l1 x5_1).f0)) || (!(((rd_T58 l0 x5_1).f1) == ((rd_T58 l1 x5_1).f1)) || (!((((rd_T58 l0 x5_1).f2).toList) == (((rd_T58 l1 x5_1).f2).toList)) || (!((((rd_T58 l0 x5_1).f3).toList) == (((rd_T58 l1 x5_1).f3).toList)))))) = false := by simpa using c7
        clear c7
        have H' := Aside0.mk H
        clear H
        have p101 : 0 ≤ (x5_1 : Int) := of_decide_eq_true z18z0
        have q101 : x5_1 < (l0.length : Int) := of_decide_eq_true z18z0
        obtain ⟨ad101, e101, hx101_0, hx101_1, hx101_2, hx101_3⟩ := at_T58 HR0.out x5_1 p101 q101
        cases e101
        replace p101 := eq_true p101
        replace q101 := eq_true q101
        have p102 : 0 ≤ (x5_1 : Int) := of_decide_eq_true z18z0
        have q102 : x5_1 < (l1.length : Int) := of_decide_eq_true z18z0
        obtain ⟨ad102, e102, hx102_0, hx102_1, hx102_2, hx102_3⟩ := at_T58 HR1.out x5_1 p102 q102
        cases e102
        replace p102 := eq_true p102
        replace q102 := eq_true q102
        go_wp2
        repeat (go_quiet (fail); try go_wp2)
        go_roundg k1
        case measure => have := HK1.out; omega
        case rel => exact ⟨(wrap64 (x5_1 + 1)), (by first | rfl | (simp; done) | (simp [*]; done)), H', ⟨by have := HK1.out; omega⟩, by repeat (first | exact Drawn0.refl _ | apply Drawn0.step)⟩
      ·rw [if_neg c6] at H
       exact absurd H (by simp)
     ·rw [if_neg c5] at H
      exact absurd H (by simp)
    ·rw [if_neg c4] at H
     have c4b0 : decide (x5_1 < (l0.length : Int)) = false := decide_eq_false c4
     clear c4
     obtain rfl := Option.some.inj H
     go_wp2
     repeat (go_quiet (fail); try go_wp2)
     go_ret
     exact ⟨by first | rfl | (simp; done) | (simp [*]; done), by repeat (first | exact Drawn0.refl _ | apply Drawn0.step)⟩
 ·rw [if_neg c3] at H
  have c3b0 : ((l0.length : Int) == (l1.length : Int)) = false := beq_eq_false_iff_ne.mpr c3
  have c3b1 : ((l0.length : Int) != (l1.length : Int)) = true := bne_iff_ne.mpr c3
  have c3b2 : (l0.length == l1.length) = false := by first | simpa using c3 | (simp at c3 ⊢; omega)
  obtain rfl := Option.some.inj H
  go_enter Tryd.func18, Tryd.ntmps18
  go_wp2
  repeat (go_quiet (fail); try go_wp2)
  go_ret
  exact ⟨by first | rfl | (simp; done) | (simp [*]; done), by repeat (first | exact Drawn0.refl _ | apply Drawn0.step)⟩
end Go.Proofs.YtkmkgpigmldhnaaDoor.P

namespace Go.Proofs.YtkmkgpigmldhnaaDoor.P
open Go.RowKit Go.Proofs.YtkmkgpigmldhnaaDoorW.PrintWords Go.Proofs.YtkmkgpigmldhnaaDoorW.PrintLast Go.Proofs.YtkmkgpigmldhnaaDoorW.PrintMore
attribute [local go_sem] max2_int min2_int max_two min_two max_three min_three max_four min_four
set_option linter.unusedVariables false
set_option linter.unusedSimpArgs false
mutual
def pouchref05_Type.j0 : Nat → Int → Bool → Option (Int)
  | 0, _, _ => none
  | k + 1, x3, x4 => if x4 = true then (some 1) else (if x3 = 19 then (pouchref05_Type.j1 k x3 (x3 == 19)) else (if x3 = 33 then (pouchref05_Type.j1 k x3 (x3 == 33)) else (if x3 = 34 then (pouchref05_Type.j1 k x3 (x3 == 34)) else (pouchref05_Type.j1 k x3 (x3 == 35)))))
def pouchref05_Type.j1 : Nat → Int → Bool → Option (Int)
  | 0, _, _ => none
  | k + 1, x3, x13 => if x13 = true then (some 2) else (if x3 = 2 then (pouchref05_Type.j2 k x3 (x3 == 2)) else (if x3 = 17 then (pouchref05_Type.j2 k x3 (x3 == 17)) else (if x3 = 24 then (pouchref05_Type.j2 k x3 (x3 == 24)) else (pouchref05_Type.j2 k x3 (x3 == 39)))))
def pouchref05_Type.j2 : Nat → Int → Bool → Option (Int)
  | 0, _, _ => none
  | k + 1, x3, x18 => if x18 = true then (some 3) else (if x3 = 11 then (some 4) else (if x3 = 3 then (pouchref05_Type.j3 k x3 (x3 == 3)) else (if x3 = 8 then (pouchref05_Type.j3 k x3 (x3 == 8)) else (if x3 = 18 then (pouchref05_Type.j3 k x3 (x3 == 18)) else (if x3 = 21 then (pouchref05_Type.j3 k x3 (x3 == 21)) else (if x3 = 26 then (pouchref05_Type.j3 k x3 (x3 == 26)) else (if x3 = 28 then (pouchref05_Type.j3 k x3 (x3 == 28)) else (pouchref05_Type.j3 k x3 (x3 == 31)))))))))
def pouchref05_Type.j3 : Nat → Int → Bool → Option (Int)
  | 0, _, _ => none
  | k + 1, x3, x25 => if x25 = true then (some 5) else (if x3 = 9 then (pouchref05_Type.j4 k x3 (x3 == 9)) else (pouchref05_Type.j4 k x3 (x3 == 22)))
def pouchref05_Type.j4 : Nat → Int → Bool → Option (Int)
  | 0, _, _ => none
  | k + 1, x3, x33 => if x33 = true then (some 6) else (if x3 = 38 then (some 7) else (some 0))
end
def pouchref05_Type.f (k : Nat) (a0 : Int) : Option (Int) := if a0 = 1 then (pouchref05_Type.j0 k a0 (a0 == 1)) else (if a0 = 23 then (pouchref05_Type.j0 k a0 (a0 == 23)) else (if a0 = 25 then (pouchref05_Type.j0 k a0 (a0 == 25)) else (if a0 = 36 then (pouchref05_Type.j0 k a0 (a0 == 36)) else (if a0 = 37 then (pouchref05_Type.j0 k a0 (a0 == 37)) else (if a0 = 40 then (pouchref05_Type.j0 k a0 (a0 == 40)) else (if a0 = 41 then (pouchref05_Type.j0 k a0 (a0 == 41)) else (pouchref05_Type.j0 k a0 (a0 == 42))))))))
theorem z67m0 {p : Prop} (h : p := by
 repeat' first
 | (with_reducible exact ih0 _ _)
 | (with_reducible exact ih1 _ _)
 | (with_reducible exact ih2 _ _)
 | (with_reducible exact ih3 _ _)
 | (with_reducible exact ih4 _ _)
 | (with_reducible exact LeO.refl _)
 | (with_reducible exact LeO.none _)
 | (with_reducible refine LeO.ite ?_ ?_)
 | (with_reducible refine LeO.bind ?_ (fun _ => ?_))
 | exact ih0 _ _
 | exact ih1 _ _
 | exact ih2 _ _
 | exact ih3 _ _
 | exact ih4 _ _
 | exact LeO.none _
 | refine LeO.ite ?_ ?_
 | refine LeO.bind ?_ (fun _ => ?_)) : p := h
theorem pouchref05_Type.mono_l : ∀ k, (∀ y0 y1, LeO (pouchref05_Type.j0 k y0 y1) (pouchref05_Type.j0 (k + 1) y0 y1)) ∧ (∀ y0 y1, LeO (pouchref05_Type.j1 k y0 y1) (pouchref05_Type.j1 (k + 1) y0 y1)) ∧ (∀ y0 y1, LeO (pouchref05_Type.j2 k y0 y1) (pouchref05_Type.j2 (k + 1) y0 y1)) ∧ (∀ y0 y1, LeO (pouchref05_Type.j3 k y0 y1) (pouchref05_Type.j3 (k + 1) y0 y1)) ∧ (∀ y0 y1, LeO (pouchref05_Type.j4 k y0 y1) (pouchref05_Type.j4 (k + 1) y0 y1))
  | 0 => ⟨fun _ _ r h => by simp [pouchref05_Type.j0] at h, fun _ _ r h => by simp [pouchref05_Type.j1] at h, fun _ _ r h => by simp [pouchref05_Type.j2] at h, fun _ _ r h => by simp [pouchref05_Type.j3] at h, fun _ _ r h => by simp [pouchref05_Type.j4] at h⟩
  | k + 1 => by
    obtain ⟨ih0, ih1, ih2, ih3, ih4⟩ := pouchref05_Type.mono_l k
    refine ⟨?_, ?_, ?_, ?_, ?_⟩
    · intro y0 y1
      unfold pouchref05_Type.j0
      exact z67m0
    · intro y0 y1
      unfold pouchref05_Type.j1
      exact z67m0
    · intro y0 y1
      unfold pouchref05_Type.j2
      exact z67m0
    · intro y0 y1
      unfold pouchref05_Type.j3
      exact z67m0
    · intro y0 y1
      unfold pouchref05_Type.j4
      exact z67m0
theorem pouchref05_Type.mono : ∀ a0 k, LeO (pouchref05_Type.f k a0) (pouchref05_Type.f (k + 1) a0) := by
  intro a0 k
  obtain ⟨ih0, ih1, ih2, ih3, ih4⟩ := pouchref05_Type.mono_l k
  unfold pouchref05_Type.f
  exact z67m0
theorem z67z0 {p : Prop} (h : p := by first | rfl | (simp; done) | (simp [*]; done)) : p := h
set_option maxHeartbeats 8000000 in
set_option maxRecDepth 100000 in
theorem pouchref05_Type.calls (k : Nat) (a0 : Int) (r : Int) (w : World) (h : pouchref05_Type.f k a0 = some r) :
  Calls Tryd.prog 67 #[.int .u8 a0] w fun e w' => e = .returned (.int .i64 r) ∧ Drawn0 w w' := by
 have H : (if a0 = 1 then (pouchref05_Type.j0 k a0 (a0 == 1)) else (if a0 = 23 then (pouchref05_Type.j0 k a0 (a0 == 23)) else (if a0 = 25 then (pouchref05_Type.j0 k a0 (a0 == 25)) else (if a0 = 36 then (pouchref05_Type.j0 k a0 (a0 == 36)) else (if a0 = 37 then (pouchref05_Type.j0 k a0 (a0 == 37)) else (if a0 = 40 then (pouchref05_Type.j0 k a0 (a0 == 40)) else (if a0 = 41 then (pouchref05_Type.j0 k a0 (a0 == 41)) else (pouchref05_Type.j0 k a0 (a0 == 42))))))))) = some r := h
 clear h
 have HC2 := Aside0.mk H
 clear H
 go_enter Tryd.func67, Tryd.ntmps67
 go_upto_if 4 with (fail)
 go_cut [4] (fun v4 wc => ∃ (kq : Nat) (x4_1 : Bool), v4 = .bool x4_1 ∧ Aside0 (pouchref05_Type.j0 kq a0 x4_1 = some r) ∧ Aside0 (kq ≤ k) ∧ Drawn0 w wc)
 case first =>
  have H := HC2.out
  clear HC2
  by_cases c3 : a0 = 1
  ·rw [if_pos c3] at H
   have c3b0 : (a0 == 1) = true := beq_iff_eq.mpr c3
   have c3b1 : (a0 != 1) = false := bne_eq_false_iff_eq.mpr c3
   clear c3
   (first | rw [c3b0] | (simp only [i64_w, i32_w]; rw [c3b0]) | skip)
   have H' := Aside0.mk H
   clear H
   go_wp2
   go_meet
   case rel => exact ⟨_, ((a0 == 1)), z67z0, H', ⟨by first | omega | exact Nat.le_refl _⟩, by repeat (first | exact Drawn0.refl _ | apply Drawn0.step)⟩
  ·rw [if_neg c3] at H
   have c3b0 : (a0 == 1) = false := beq_eq_false_iff_ne.mpr c3
   have c3b1 : (a0 != 1) = true := bne_iff_ne.mpr c3
   (first | rw [c3b0] | (simp only [i64_w, i32_w]; rw [c3b0]) | skip)
   by_cases c4 : a0 = 23
   ·rw [if_pos c4] at H
    have c4b0 : (a0 == 23) = true := beq_iff_eq.mpr c4
    have c4b1 : (a0 != 23) = false := bne_eq_false_iff_eq.mpr c4
    clear c4
    have H' := Aside0.mk H
    clear H
    go_wp2
    go_meet
    case rel => exact ⟨_, ((a0 == 23)), z67z0, H', ⟨by first | omega | exact Nat.le_refl _⟩, by repeat (first | exact Drawn0.refl _ | apply Drawn0.step)⟩
   ·rw [if_neg c4] at H
    have c4b0 : (a0 == 23) = false := beq_eq_false_iff_ne.mpr c4
    have c4b1 : (a0 != 23) = true := bne_iff_ne.mpr c4
    by_cases c5 : a0 = 25
    ·rw [if_pos c5] at H
     have c5b0 : (a0 == 25) = true := beq_iff_eq.mpr c5
     have c5b1 : (a0 != 25) = false := bne_eq_false_iff_eq.mpr c5
     clear c5
     have H' := Aside0.mk H
     clear H
     go_wp2
     go_meet
     case rel => exact ⟨_, ((a0 == 25)), z67z0, H', ⟨by first | omega | exact Nat.le_refl _⟩, by repeat (first | exact Drawn0.refl _ | apply Drawn0.step)⟩
    ·rw [if_neg c5] at H
     have c5b0 : (a0 == 25) = false := beq_eq_false_iff_ne.mpr c5
     have c5b1 : (a0 != 25) = true := bne_iff_ne.mpr c5
     by_cases c6 : a0 = 36
     ·rw [if_pos c6] at H
      have c6b0 : (a0 == 36) = true := beq_iff_eq.mpr c6
      have c6b1 : (a0 != 36) = false := bne_eq_false_iff_eq.mpr c6
      clear c6
      have H' := Aside0.mk H
      clear H
      go_wp2
      go_meet
      case rel => exact ⟨_, ((a0 == 36)), z67z0, H', ⟨by first | omega | exact Nat.le_refl _⟩, by repeat (first | exact Drawn0.refl _ | apply Drawn0.step)⟩
     ·rw [if_neg c6] at H
      have c6b0 : (a0 == 36) = false := beq_eq_false_iff_ne.mpr c6
      have c6b1 : (a0 != 36) = true := bne_iff_ne.mpr c6
      by_cases c7 : a0 = 37
      ·rw [if_pos c7] at H
       have c7b0 : (a0 == 37) = true := beq_iff_eq.mpr c7
       have c7b1 : (a0 != 37) = false := bne_eq_false_iff_eq.mpr c7
       clear c7
       have H' := Aside0.mk H
       clear H
       go_wp2
       go_meet
       case rel => exact ⟨_, ((a0 == 37)), z67z0, H', ⟨by first | omega | exact Nat.le_refl _⟩, by repeat (first | exact Drawn0.refl _ | apply Drawn0.step)⟩
      ·rw [if_neg c7] at H
       have c7b0 : (a0 == 37) = false := beq_eq_false_iff_ne.mpr c7
       have c7b1 : (a0 != 37) = true := bne_iff_ne.mpr c7
       by_cases c8 : a0 = 40
       ·rw [if_pos c8] at H
        have c8b0 : (a0 == 40) = true := beq_iff_eq.mpr c8
        have c8b1 : (a0 != 40) = false := bne_eq_false_iff_eq.mpr c8
        clear c8
        have H' := Aside0.mk H
        clear H
        go_wp2
        go_meet
        case rel => exact ⟨_, ((a0 == 40)), z67z0, H', ⟨by first | omega | exact Nat.le_refl _⟩, by repeat (first | exact Drawn0.refl _ | apply Drawn0.step)⟩
       ·rw [if_neg c8] at H
        have c8b0 : (a0 == 40) = false := beq_eq_false_iff_ne.mpr c8
        have c8b1 : (a0 != 40) = true := bne_iff_ne.mpr c8
        by_cases c9 : a0 = 41
        ·rw [if_pos c9] at H
         have c9b0 : (a0 == 41) = true := beq_iff_eq.mpr c9
         have c9b1 : (a0 != 41) = false := bne_eq_false_iff_eq.mpr c9
         clear c9
         have H' := Aside0.mk H
         clear H
         go_wp2
         go_meet
         case rel => exact ⟨_, ((a0 == 41)), z67z0, H', ⟨by first | omega | exact Nat.le_refl _⟩, by repeat (first | exact Drawn0.refl _ | apply Drawn0.step)⟩
        ·rw [if_neg c9] at H
         have c9b0 : (a0 == 41) = false := beq_eq_false_iff_ne.mpr c9
         have c9b1 : (a0 != 41) = true := bne_iff_ne.mpr c9
         have H' := Aside0.mk H
         clear H
         go_wp2
         go_meet
         case rel => exact ⟨_, ((a0 == 42)), z67z0, H', ⟨by first | omega | exact Nat.le_refl _⟩, by repeat (first | exact Drawn0.refl _ | apply Drawn0.step)⟩
 case rest =>
  clear HC2
  try clear p2
  try clear c3
  try clear c3b0
  try clear c3b1
  try clear c4
  try clear c4b0
  try clear c4b1
  try clear c5
  try clear c5b0
  try clear c5b1
  try clear c6
  try clear c6b0
  try clear c6b1
  try clear c7
  try clear c7b0
  try clear c7b1
  try clear c8
  try clear c8b0
  try clear c8b1
  try clear c9
  try clear c9b0
  try clear c9b1
  obtain ⟨kq, x4_1, rfl, HA, HJ1, ⟨mc1, rfl⟩⟩ := hcut
  cases kq with
  | zero => exact absurd HA.out (by simp [pouchref05_Type.j0])
  | succ kj1 =>
   have H := HA.out
   clear HA
   simp only [pouchref05_Type.j0] at H
   by_cases c10 : x4_1 = true
   ·subst c10
    have H1 : (some 1) = some r := by rw [if_pos rfl] at H; exact H
    clear H
    have H := H1
    clear H1
    obtain rfl := Option.some.inj H
    go_wp2
    go_ret
    exact ⟨by first | rfl | (simp; done) | (simp [*]; done), by repeat (first | exact Drawn0.refl _ | apply Drawn0.step)⟩
   ·replace c10 := Bool.eq_false_iff.mpr c10
    subst c10
    have H1 : (if a0 = 19 then (pouchref05_Type.j1 kj1 a0 (a0 == 19)) else (if a0 = 33 then (pouchref05_Type.j1 kj1 a0 (a0 == 33)) else (if a0 = 34 then (pouchref05_Type.j1 kj1 a0 (a0 == 34)) else (pouchref05_Type.j1 kj1 a0 (a0 == 35))))) = some r := by rw [if_neg (show ¬ (false = true) by decide)] at H; exact H
    clear H
    have H := H1
    clear H1
    have HC11 := Aside0.mk H
    clear H
    go_upto_if 13 with (fail)
    go_cut [13] (fun v13 wc => ∃ (kq : Nat) (x13_10 : Bool), v13 = .bool x13_10 ∧ Aside0 (pouchref05_Type.j1 kq a0 x13_10 = some r) ∧ Aside0 (kq ≤ kj1) ∧ Drawn0 w wc)
    case first =>
     have H := HC11.out
     clear HC11
     by_cases c12 : a0 = 19
     ·rw [if_pos c12] at H
      have c12b0 : (a0 == 19) = true := beq_iff_eq.mpr c12
      have c12b1 : (a0 != 19) = false := bne_eq_false_iff_eq.mpr c12
      clear c12
      (first | rw [c12b0] | (simp only [i64_w, i32_w]; rw [c12b0]) | skip)
      have H' := Aside0.mk H
      clear H
      go_wp2
      go_meet
      case rel => exact ⟨_, ((a0 == 19)), z67z0, H', ⟨by have := HJ1.out; first | omega | exact Nat.le_refl _⟩, by repeat (first | exact Drawn0.refl _ | apply Drawn0.step)⟩
     ·rw [if_neg c12] at H
      have c12b0 : (a0 == 19) = false := beq_eq_false_iff_ne.mpr c12
      have c12b1 : (a0 != 19) = true := bne_iff_ne.mpr c12
      (first | rw [c12b0] | (simp only [i64_w, i32_w]; rw [c12b0]) | skip)
      by_cases c13 : a0 = 33
      ·rw [if_pos c13] at H
       have c13b0 : (a0 == 33) = true := beq_iff_eq.mpr c13
       have c13b1 : (a0 != 33) = false := bne_eq_false_iff_eq.mpr c13
       clear c13
       have H' := Aside0.mk H
       clear H
       go_wp2
       go_meet
       case rel => exact ⟨_, ((a0 == 33)), z67z0, H', ⟨by have := HJ1.out; first | omega | exact Nat.le_refl _⟩, by repeat (first | exact Drawn0.refl _ | apply Drawn0.step)⟩
      ·rw [if_neg c13] at H
       have c13b0 : (a0 == 33) = false := beq_eq_false_iff_ne.mpr c13
       have c13b1 : (a0 != 33) = true := bne_iff_ne.mpr c13
       by_cases c14 : a0 = 34
       ·rw [if_pos c14] at H
        have c14b0 : (a0 == 34) = true := beq_iff_eq.mpr c14
        have c14b1 : (a0 != 34) = false := bne_eq_false_iff_eq.mpr c14
        clear c14
        have H' := Aside0.mk H
        clear H
        go_wp2
        go_meet
        case rel => exact ⟨_, ((a0 == 34)), z67z0, H', ⟨by have := HJ1.out; first | omega | exact Nat.le_refl _⟩, by repeat (first | exact Drawn0.refl _ | apply Drawn0.step)⟩
       ·rw [if_neg c14] at H
        have c14b0 : (a0 == 34) = false := beq_eq_false_iff_ne.mpr c14
        have c14b1 : (a0 != 34) = true := bne_iff_ne.mpr c14
        have H' := Aside0.mk H
        clear H
        go_wp2
        go_meet
        case rel => exact ⟨_, ((a0 == 35)), z67z0, H', ⟨by have := HJ1.out; first | omega | exact Nat.le_refl _⟩, by repeat (first | exact Drawn0.refl _ | apply Drawn0.step)⟩
    case rest =>
     clear HC11
     try clear c1
     try clear p2
     try clear c3
     try clear c3b0
     try clear c3b1
     try clear c4
     try clear c4b0
     try clear c4b1
     try clear c5
     try clear c5b0
     try clear c5b1
     try clear c6
     try clear c6b0
     try clear c6b1
     try clear c7
     try clear c7b0
     try clear c7b1
     try clear c8
     try clear c8b0
     try clear c8b1
     try clear c9
     try clear c9b0
     try clear c9b1
     try clear c10
     try clear c12
     try clear c12b0
     try clear c12b1
     try clear c13
     try clear c13b0
     try clear c13b1
     try clear c14
     try clear c14b0
     try clear c14b1
     try clear p2
     obtain ⟨kq, x13_10, rfl, HA, HJ10, ⟨mc10, rfl⟩⟩ := hcut
     cases kq with
     | zero => exact absurd HA.out (by simp [pouchref05_Type.j1])
     | succ kj10 =>
      have H := HA.out
      clear HA
      simp only [pouchref05_Type.j1] at H
      by_cases c15 : x13_10 = true
      ·subst c15
       have H1 : (some 2) = some r := by rw [if_pos rfl] at H; exact H
       clear H
       have H := H1
       clear H1
       obtain rfl := Option.some.inj H
       go_wp2
       go_ret
       exact ⟨by first | rfl | (simp; done) | (simp [*]; done), by repeat (first | exact Drawn0.refl _ | apply Drawn0.step)⟩
      ·replace c15 := Bool.eq_false_iff.mpr c15
       subst c15
       have H1 : (if a0 = 2 then (pouchref05_Type.j2 kj10 a0 (a0 == 2)) else (if a0 = 17 then (pouchref05_Type.j2 kj10 a0 (a0 == 17)) else (if a0 = 24 then (pouchref05_Type.j2 kj10 a0 (a0 == 24)) else (pouchref05_Type.j2 kj10 a0 (a0 == 39))))) = some r := by rw [if_neg (show ¬ (false = true) by decide)] at H; exact H
       clear H
       have H := H1
       clear H1
       have HC16 := Aside0.mk H
       clear H
       go_upto_if 18 with (fail)
       go_cut [18] (fun v18 wc => ∃ (kq : Nat) (x18_15 : Bool), v18 = .bool x18_15 ∧ Aside0 (pouchref05_Type.j2 kq a0 x18_15 = some r) ∧ Aside0 (kq ≤ kj10) ∧ Drawn0 w wc)
       case first =>
        have H := HC16.out
        clear HC16
        by_cases c17 : a0 = 2
        ·rw [if_pos c17] at H
         have c17b0 : (a0 == 2) = true := beq_iff_eq.mpr c17
         have c17b1 : (a0 != 2) = false := bne_eq_false_iff_eq.mpr c17
         clear c17
         (first | rw [c17b0] | (simp only [i64_w, i32_w]; rw [c17b0]) | skip)
         have H' := Aside0.mk H
         clear H
         go_wp2
         go_meet
         case rel => exact ⟨_, ((a0 == 2)), z67z0, H', ⟨by have := HJ1.out; have := HJ10.out; first | omega | exact Nat.le_refl _⟩, by repeat (first | exact Drawn0.refl _ | apply Drawn0.step)⟩
        ·rw [if_neg c17] at H
         have c17b0 : (a0 == 2) = false := beq_eq_false_iff_ne.mpr c17
         have c17b1 : (a0 != 2) = true := bne_iff_ne.mpr c17
         (first | rw [c17b0] | (simp only [i64_w, i32_w]; rw [c17b0]) | skip)
         by_cases c18 : a0 = 17
         ·rw [if_pos c18] at H
          have c18b0 : (a0 == 17) = true := beq_iff_eq.mpr c18
          have c18b1 : (a0 != 17) = false := bne_eq_false_iff_eq.mpr c18
          clear c18
          have H' := Aside0.mk H
          clear H
          go_wp2
          go_meet
          case rel => exact ⟨_, ((a0 == 17)), z67z0, H', ⟨by have := HJ1.out; have := HJ10.out; first | omega | exact Nat.le_refl _⟩, by repeat (first | exact Drawn0.refl _ | apply Drawn0.step)⟩
         ·rw [if_neg c18] at H
          have c18b0 : (a0 == 17) = false := beq_eq_false_iff_ne.mpr c18
          have c18b1 : (a0 != 17) = true := bne_iff_ne.mpr c18
          by_cases c19 : a0 = 24
          ·rw [if_pos c19] at H
           have c19b0 : (a0 == 24) = true := beq_iff_eq.mpr c19
           have c19b1 : (a0 != 24) = false := bne_eq_false_iff_eq.mpr c19
           clear c19
           have H' := Aside0.mk H
           clear H
           go_wp2
           go_meet
           case rel => exact ⟨_, ((a0 == 24)), z67z0, H', ⟨by have := HJ1.out; have := HJ10.out; first | omega | exact Nat.le_refl _⟩, by repeat (first | exact Drawn0.refl _ | apply Drawn0.step)⟩
          ·rw [if_neg c19] at H
           have c19b0 : (a0 == 24) = false := beq_eq_false_iff_ne.mpr c19
           have c19b1 : (a0 != 24) = true := bne_iff_ne.mpr c19
           have H' := Aside0.mk H
           clear H
           go_wp2
           go_meet
           case rel => exact ⟨_, ((a0 == 39)), z67z0, H', ⟨by have := HJ1.out; have := HJ10.out; first | omega | exact Nat.le_refl _⟩, by repeat (first | exact Drawn0.refl _ | apply Drawn0.step)⟩
       case rest =>
        clear HC16
        try clear c1
        try clear p2
        try clear c3
        try clear c3b0
        try clear c3b1
        try clear c4
        try clear c4b0
        try clear c4b1
        try clear c5
        try clear c5b0
        try clear c5b1
        try clear c6
        try clear c6b0
        try clear c6b1
        try clear c7
        try clear c7b0
        try clear c7b1
        try clear c8
        try clear c8b0
        try clear c8b1
        try clear c9
        try clear c9b0
        try clear c9b1
        try clear c10
        try clear c12
        try clear c12b0
        try clear c12b1
        try clear c13
        try clear c13b0
        try clear c13b1
        try clear c14
        try clear c14b0
        try clear c14b1
        try clear c15
        try clear c17
        try clear c17b0
        try clear c17b1
        try clear c18
        try clear c18b0
        try clear c18b1
        try clear c19
        try clear c19b0
        try clear c19b1
        try clear p2
        obtain ⟨kq, x18_15, rfl, HA, HJ15, ⟨mc15, rfl⟩⟩ := hcut
        cases kq with
        | zero => exact absurd HA.out (by simp [pouchref05_Type.j2])
        | succ kj15 =>
         have H := HA.out
         clear HA
         simp only [pouchref05_Type.j2] at H
         by_cases c20 : x18_15 = true
         ·subst c20
          have H1 : (some 3) = some r := by rw [if_pos rfl] at H; exact H
          clear H
          have H := H1
          clear H1
          obtain rfl := Option.some.inj H
          go_wp2
          go_ret
          exact ⟨by first | rfl | (simp; done) | (simp [*]; done), by repeat (first | exact Drawn0.refl _ | apply Drawn0.step)⟩
         ·replace c20 := Bool.eq_false_iff.mpr c20
          subst c20
          have H1 : (if a0 = 11 then (some 4) else (if a0 = 3 then (pouchref05_Type.j3 kj15 a0 (a0 == 3)) else (if a0 = 8 then (pouchref05_Type.j3 kj15 a0 (a0 == 8)) else (if a0 = 18 then (pouchref05_Type.j3 kj15 a0 (a0 == 18)) else (if a0 = 21 then (pouchref05_Type.j3 kj15 a0 (a0 == 21)) else (if a0 = 26 then (pouchref05_Type.j3 kj15 a0 (a0 == 26)) else (if a0 = 28 then (pouchref05_Type.j3 kj15 a0 (a0 == 28)) else (pouchref05_Type.j3 kj15 a0 (a0 == 31))))))))) = some r := by rw [if_neg (show ¬ (false = true) by decide)] at H; exact H
          clear H
          have H := H1
          clear H1
          by_cases c21 : a0 = 11
          ·rw [if_pos c21] at H
           have c21b0 : (a0 == 11) = true := beq_iff_eq.mpr c21
           have c21b1 : (a0 != 11) = false := bne_eq_false_iff_eq.mpr c21
           clear c21
           obtain rfl := Option.some.inj H
           go_wp2
           go_ret
           exact ⟨by first | rfl | (simp; done) | (simp [*]; done), by repeat (first | exact Drawn0.refl _ | apply Drawn0.step)⟩
          ·rw [if_neg c21] at H
           have c21b0 : (a0 == 11) = false := beq_eq_false_iff_ne.mpr c21
           have c21b1 : (a0 != 11) = true := bne_iff_ne.mpr c21
           have HC22 := Aside0.mk H
           clear H
           go_upto_if 25 with (fail)
           go_cut [25] (fun v25 wc => ∃ (kq : Nat) (x25_21 : Bool), v25 = .bool x25_21 ∧ Aside0 (pouchref05_Type.j3 kq a0 x25_21 = some r) ∧ Aside0 (kq ≤ kj15) ∧ Drawn0 w wc)
           case first =>
            have H := HC22.out
            clear HC22
            by_cases c23 : a0 = 3
            ·rw [if_pos c23] at H
             have c23b0 : (a0 == 3) = true := beq_iff_eq.mpr c23
             have c23b1 : (a0 != 3) = false := bne_eq_false_iff_eq.mpr c23
             clear c23
             (first | rw [c23b0] | (simp only [i64_w, i32_w]; rw [c23b0]) | skip)
             have H' := Aside0.mk H
             clear H
             go_wp2
             go_meet
             case rel => exact ⟨_, ((a0 == 3)), z67z0, H', ⟨by have := HJ1.out; have := HJ10.out; have := HJ15.out; first | omega | exact Nat.le_refl _⟩, by repeat (first | exact Drawn0.refl _ | apply Drawn0.step)⟩
            ·rw [if_neg c23] at H
             have c23b0 : (a0 == 3) = false := beq_eq_false_iff_ne.mpr c23
             have c23b1 : (a0 != 3) = true := bne_iff_ne.mpr c23
             (first | rw [c23b0] | (simp only [i64_w, i32_w]; rw [c23b0]) | skip)
             by_cases c24 : a0 = 8
             ·rw [if_pos c24] at H
              have c24b0 : (a0 == 8) = true := beq_iff_eq.mpr c24
              have c24b1 : (a0 != 8) = false := bne_eq_false_iff_eq.mpr c24
              clear c24
              have H' := Aside0.mk H
              clear H
              go_wp2
              go_meet
              case rel => exact ⟨_, ((a0 == 8)), z67z0, H', ⟨by have := HJ1.out; have := HJ10.out; have := HJ15.out; first | omega | exact Nat.le_refl _⟩, by repeat (first | exact Drawn0.refl _ | apply Drawn0.step)⟩
             ·rw [if_neg c24] at H
              have c24b0 : (a0 == 8) = false := beq_eq_false_iff_ne.mpr c24
              have c24b1 : (a0 != 8) = true := bne_iff_ne.mpr c24
              by_cases c25 : a0 = 18
              ·rw [if_pos c25] at H
               have c25b0 : (a0 == 18) = true := beq_iff_eq.mpr c25
               have c25b1 : (a0 != 18) = false := bne_eq_false_iff_eq.mpr c25
               clear c25
               have H' := Aside0.mk H
               clear H
               go_wp2
               go_meet
               case rel => exact ⟨_, ((a0 == 18)), z67z0, H', ⟨by have := HJ1.out; have := HJ10.out; have := HJ15.out; first | omega | exact Nat.le_refl _⟩, by repeat (first | exact Drawn0.refl _ | apply Drawn0.step)⟩
              ·rw [if_neg c25] at H
               have c25b0 : (a0 == 18) = false := beq_eq_false_iff_ne.mpr c25
               have c25b1 : (a0 != 18) = true := bne_iff_ne.mpr c25
               by_cases c26 : a0 = 21
               ·rw [if_pos c26] at H
                have c26b0 : (a0 == 21) = true := beq_iff_eq.mpr c26
                have c26b1 : (a0 != 21) = false := bne_eq_false_iff_eq.mpr c26
                clear c26
                have H' := Aside0.mk H
                clear H
                go_wp2
                go_meet
                case rel => exact ⟨_, ((a0 == 21)), z67z0, H', ⟨by have := HJ1.out; have := HJ10.out; have := HJ15.out; first | omega | exact Nat.le_refl _⟩, by repeat (first | exact Drawn0.refl _ | apply Drawn0.step)⟩
               ·rw [if_neg c26] at H
                have c26b0 : (a0 == 21) = false := beq_eq_false_iff_ne.mpr c26
                have c26b1 : (a0 != 21) = true := bne_iff_ne.mpr c26
                by_cases c27 : a0 = 26
                ·rw [if_pos c27] at H
                 have c27b0 : (a0 == 26) = true := beq_iff_eq.mpr c27
                 have c27b1 : (a0 != 26) = false := bne_eq_false_iff_eq.mpr c27
                 clear c27
                 have H' := Aside0.mk H
                 clear H
                 go_wp2
                 go_meet
                 case rel => exact ⟨_, ((a0 == 26)), z67z0, H', ⟨by have := HJ1.out; have := HJ10.out; have := HJ15.out; first | omega | exact Nat.le_refl _⟩, by repeat (first | exact Drawn0.refl _ | apply Drawn0.step)⟩
                ·rw [if_neg c27] at H
                 have c27b0 : (a0 == 26) = false := beq_eq_false_iff_ne.mpr c27
                 have c27b1 : (a0 != 26) = true := bne_iff_ne.mpr c27
                 by_cases c28 : a0 = 28
                 ·rw [if_pos c28] at H
                  have c28b0 : (a0 == 28) = true := beq_iff_eq.mpr c28
                  have c28b1 : (a0 != 28) = false := bne_eq_false_iff_eq.mpr c28
                  clear c28
                  have H' := Aside0.mk H
                  clear H
                  go_wp2
                  go_meet
                  case rel => exact ⟨_, ((a0 == 28)), z67z0, H', ⟨by have := HJ1.out; have := HJ10.out; have := HJ15.out; first | omega | exact Nat.le_refl _⟩, by repeat (first | exact Drawn0.refl _ | apply Drawn0.step)⟩
                 ·rw [if_neg c28] at H
                  have c28b0 : (a0 == 28) = false := beq_eq_false_iff_ne.mpr c28
                  have c28b1 : (a0 != 28) = true := bne_iff_ne.mpr c28
                  have H' := Aside0.mk H
                  clear H
                  go_wp2
                  go_meet
                  case rel => exact ⟨_, ((a0 == 31)), z67z0, H', ⟨by have := HJ1.out; have := HJ10.out; have := HJ15.out; first | omega | exact Nat.le_refl _⟩, by repeat (first | exact Drawn0.refl _ | apply Drawn0.step)⟩
           case rest =>
            clear HC22
            try clear c1
            try clear c2
            try clear p2
            try clear c3
            try clear c3b0
            try clear c3b1
            try clear c4
            try clear c4b0
            try clear c4b1
            try clear c5
            try clear c5b0
            try clear c5b1
            try clear c6
            try clear c6b0
            try clear c6b1
            try clear c7
            try clear c7b0
            try clear c7b1
            try clear c8
            try clear c8b0
            try clear c8b1
            try clear c9
            try clear c9b0
            try clear c9b1
            try clear c10
            try clear c12
            try clear c12b0
            try clear c12b1
            try clear c13
            try clear c13b0
            try clear c13b1
            try clear c14
            try clear c14b0
            try clear c14b1
            try clear c15
            try clear c17
            try clear c17b0
            try clear c17b1
            try clear c18
            try clear c18b0
            try clear c18b1
            try clear c19
            try clear c19b0
            try clear c19b1
            try clear c20
            try clear c21
            try clear c21b0
            try clear c21b1
            try clear c23
            try clear c23b0
            try clear c23b1
            try clear c24
            try clear c24b0
            try clear c24b1
            try clear c25
            try clear c25b0
            try clear c25b1
            try clear c26
            try clear c26b0
            try clear c26b1
            try clear c27
            try clear c27b0
            try clear c27b1
            try clear c28
            try clear c28b0
            try clear c28b1
            try clear p2
            obtain ⟨kq, x25_21, rfl, HA, HJ21, ⟨mc21, rfl⟩⟩ := hcut
            cases kq with
            | zero => exact absurd HA.out (by simp [pouchref05_Type.j3])
            | succ kj21 =>
             have H := HA.out
             clear HA
             simp only [pouchref05_Type.j3] at H
             by_cases c29 : x25_21 = true
             ·subst c29
              have H1 : (some 5) = some r := by rw [if_pos rfl] at H; exact H
              clear H
              have H := H1
              clear H1
              obtain rfl := Option.some.inj H
              go_wp2
              go_ret
              exact ⟨by first | rfl | (simp; done) | (simp [*]; done), by repeat (first | exact Drawn0.refl _ | apply Drawn0.step)⟩
             ·replace c29 := Bool.eq_false_iff.mpr c29
              subst c29
              have H1 : (if a0 = 9 then (pouchref05_Type.j4 kj21 a0 (a0 == 9)) else (pouchref05_Type.j4 kj21 a0 (a0 == 22))) = some r := by rw [if_neg (show ¬ (false = true) by decide)] at H; exact H
              clear H
              have H := H1
              clear H1
              have HC30 := Aside0.mk H
              clear H
              go_upto_if 33 with (fail)
              go_cut [33] (fun v33 wc => ∃ (kq : Nat) (x33_29 : Bool), v33 = .bool x33_29 ∧ Aside0 (pouchref05_Type.j4 kq a0 x33_29 = some r) ∧ Aside0 (kq ≤ kj21) ∧ Drawn0 w wc)
              case first =>
               have H := HC30.out
               clear HC30
               by_cases c31 : a0 = 9
               ·rw [if_pos c31] at H
                have c31b0 : (a0 == 9) = true := beq_iff_eq.mpr c31
                have c31b1 : (a0 != 9) = false := bne_eq_false_iff_eq.mpr c31
                clear c31
                (first | rw [c31b0] | (simp only [i64_w, i32_w]; rw [c31b0]) | skip)
                have H' := Aside0.mk H
                clear H
                go_wp2
                go_meet
                case rel => exact ⟨_, ((a0 == 9)), z67z0, H', ⟨by have := HJ1.out; have := HJ10.out; have := HJ15.out; have := HJ21.out; first | omega | exact Nat.le_refl _⟩, by repeat (first | exact Drawn0.refl _ | apply Drawn0.step)⟩
               ·rw [if_neg c31] at H
                have c31b0 : (a0 == 9) = false := beq_eq_false_iff_ne.mpr c31
                have c31b1 : (a0 != 9) = true := bne_iff_ne.mpr c31
                (first | rw [c31b0] | (simp only [i64_w, i32_w]; rw [c31b0]) | skip)
                have H' := Aside0.mk H
                clear H
                go_wp2
                go_meet
                case rel => exact ⟨_, ((a0 == 22)), z67z0, H', ⟨by have := HJ1.out; have := HJ10.out; have := HJ15.out; have := HJ21.out; first | omega | exact Nat.le_refl _⟩, by repeat (first | exact Drawn0.refl _ | apply Drawn0.step)⟩
              case rest =>
               clear HC30
               try clear c1
               try clear c2
               try clear p2
               try clear c3
               try clear c3b0
               try clear c3b1
               try clear c4
               try clear c4b0
               try clear c4b1
               try clear c5
               try clear c5b0
               try clear c5b1
               try clear c6
               try clear c6b0
               try clear c6b1
               try clear c7
               try clear c7b0
               try clear c7b1
               try clear c8
               try clear c8b0
               try clear c8b1
               try clear c9
               try clear c9b0
               try clear c9b1
               try clear c10
               try clear c12
               try clear c12b0
               try clear c12b1
               try clear c13
               try clear c13b0
               try clear c13b1
               try clear c14
               try clear c14b0
               try clear c14b1
               try clear c15
               try clear c17
               try clear c17b0
               try clear c17b1
               try clear c18
               try clear c18b0
               try clear c18b1
               try clear c19
               try clear c19b0
               try clear c19b1
               try clear c20
               try clear c21
               try clear c21b0
               try clear c21b1
               try clear c23
               try clear c23b0
               try clear c23b1
               try clear c24
               try clear c24b0
               try clear c24b1
               try clear c25
               try clear c25b0
               try clear c25b1
               try clear c26
               try clear c26b0
               try clear c26b1
               try clear c27
               try clear c27b0
               try clear c27b1
               try clear c28
               try clear c28b0
               try clear c28b1
               try clear c29
               try clear c31
               try clear c31b0
               try clear c31b1
               try clear p2
               obtain ⟨kq, x33_29, rfl, HA, HJ29, ⟨mc29, rfl⟩⟩ := hcut
               cases kq with
               | zero => exact absurd HA.out (by simp [pouchref05_Type.j4])
               | succ kj29 =>
                have H := HA.out
                clear HA
                simp only [pouchref05_Type.j4] at H
                by_cases c32 : x33_29 = true
                ·subst c32
                 have H1 : (some 6) = some r := by rw [if_pos rfl] at H; exact H
                 clear H
                 have H := H1
                 clear H1
                 obtain rfl := Option.some.inj H
                 go_wp2
                 go_ret
                 exact ⟨by first | rfl | (simp; done) | (simp [*]; done), by repeat (first | exact Drawn0.refl _ | apply Drawn0.step)⟩
                ·replace c32 := Bool.eq_false_iff.mpr c32
                 subst c32
                 have H1 : (if a0 = 38 then (some 7) else (some 0)) = some r := by rw [if_neg (show ¬ (false = true) by decide)] at H; exact H
                 clear H
                 have H := H1
                 clear H1
                 by_cases c33 : a0 = 38
                 ·rw [if_pos c33] at H
                  have c33b0 : (a0 == 38) = true := beq_iff_eq.mpr c33
                  have c33b1 : (a0 != 38) = false := bne_eq_false_iff_eq.mpr c33
                  clear c33
                  obtain rfl := Option.some.inj H
                  go_wp2
                  go_ret
                  exact ⟨by first | rfl | (simp; done) | (simp [*]; done), by repeat (first | exact Drawn0.refl _ | apply Drawn0.step)⟩
                 ·rw [if_neg c33] at H
                  have c33b0 : (a0 == 38) = false := beq_eq_false_iff_ne.mpr c33
                  have c33b1 : (a0 != 38) = true := bne_iff_ne.mpr c33
                  obtain rfl := Option.some.inj H
                  go_wp2
                  go_ret
                  exact ⟨by first | rfl | (simp; done) | (simp [*]; done), by repeat (first | exact Drawn0.refl _ | apply Drawn0.step)⟩
end Go.Proofs.YtkmkgpigmldhnaaDoor.P

namespace Go.Proofs.YtkmkgpigmldhnaaDoor.P
open Go.RowKit Go.Proofs.YtkmkgpigmldhnaaDoorW.PrintWords Go.Proofs.YtkmkgpigmldhnaaDoorW.PrintLast Go.Proofs.YtkmkgpigmldhnaaDoorW.PrintMore
attribute [local go_sem] max2_int min2_int max_two min_two max_three min_three max_four min_four
set_option linter.unusedVariables false
set_option linter.unusedSimpArgs false
mutual
def pouchref02_sign.j0 : Nat → ByteArray → Int → Int → Int → Int → Int → Option (Int × Int)
  | 0, _, _, _, _, _, _ => none
  | k + 1, x0, x1, x6, x7, x8, x9 => if x6 ≥ 248 then (pouchref02_sign.j1 k x0 x1 x7 x8 x9 true) else (pouchref02_sign.j1 k x0 x1 x7 x8 x9 (decide ((wrap64 (x1 + x7)) > (x0.size : Int))))
def pouchref02_sign.j1 : Nat → ByteArray → Int → Int → Int → Int → Bool → Option (Int × Int)
  | 0, _, _, _, _, _, _ => none
  | k + 1, x0, x1, x7, x8, x9, x40 => if x40 = true then (some (0, 0)) else (pouchref02_sign.l0 k x0 x1 x7 x8 x9 1)
def pouchref02_sign.l0 : Nat → ByteArray → Int → Int → Int → Int → Int → Option (Int × Int)
  | 0, _, _, _, _, _, _ => none
  | k + 1, x0, x1, x7, x8, x9, x10 => if x10 < x7 then (if 0 ≤ (wrap64 (x1 + x10)) then (if (wrap64 (x1 + x10)) < (x0.size : Int) then (if (wrap64 (bt x0 (wrap64 (x1 + x10)))) < 128 then (some (0, 0)) else (if (wrap64 (bt x0 (wrap64 (x1 + x10)))) ≥ 192 then (some (0, 0)) else (pouchref02_sign.l0 k x0 x1 x7 (wrap64 ((wrap64 ((wrap64 (64 * x8)) + (wrap64 (bt x0 (wrap64 (x1 + x10)))))) - 128)) x9 (wrap64 (x10 + 1))))) else (none)) else (none)) else (if x8 < x9 then (some (0, 0)) else (if x8 > 1114111 then (some (0, 0)) else (if x8 ≥ 55296 then (if x8 ≤ 57343 then (some (0, 0)) else (some (x8, x7))) else (some (x8, x7)))))
end
def pouchref02_sign.f (k : Nat) (a0 : ByteArray) (a1 : Int) : Option (Int × Int) := if 0 ≤ a1 then (if a1 < (a0.size : Int) then (if (wrap64 (bt a0 a1)) ≥ 240 then (pouchref02_sign.j0 k a0 a1 (wrap64 (bt a0 a1)) 4 (wrap64 ((wrap64 (bt a0 a1)) - 240)) 65536) else (if (wrap64 (bt a0 a1)) ≥ 224 then (pouchref02_sign.j0 k a0 a1 (wrap64 (bt a0 a1)) 3 (wrap64 ((wrap64 (bt a0 a1)) - 224)) 2048) else (if (wrap64 (bt a0 a1)) ≥ 192 then (pouchref02_sign.j0 k a0 a1 (wrap64 (bt a0 a1)) 2 (wrap64 ((wrap64 (bt a0 a1)) - 192)) 128) else (if (wrap64 (bt a0 a1)) ≥ 128 then (some (0, 0)) else (pouchref02_sign.j0 k a0 a1 (wrap64 (bt a0 a1)) 1 (wrap64 (bt a0 a1)) 1))))) else (none)) else (none)
theorem z105m0 {p : Prop} (h : p := by
 repeat' first
 | (with_reducible exact ih0 _ _ _ _ _ _)
 | (with_reducible exact ih1 _ _ _ _ _ _)
 | (with_reducible exact ih2 _ _ _ _ _ _)
 | (with_reducible exact LeO.refl _)
 | (with_reducible exact LeO.none _)
 | (with_reducible refine LeO.ite ?_ ?_)
 | (with_reducible refine LeO.bind ?_ (fun _ => ?_))
 | exact ih0 _ _ _ _ _ _
 | exact ih1 _ _ _ _ _ _
 | exact ih2 _ _ _ _ _ _
 | exact LeO.none _
 | refine LeO.ite ?_ ?_
 | refine LeO.bind ?_ (fun _ => ?_)) : p := h
theorem pouchref02_sign.mono_l : ∀ k, (∀ y0 y1 y2 y3 y4 y5, LeO (pouchref02_sign.j0 k y0 y1 y2 y3 y4 y5) (pouchref02_sign.j0 (k + 1) y0 y1 y2 y3 y4 y5)) ∧ (∀ y0 y1 y2 y3 y4 y5, LeO (pouchref02_sign.j1 k y0 y1 y2 y3 y4 y5) (pouchref02_sign.j1 (k + 1) y0 y1 y2 y3 y4 y5)) ∧ (∀ y0 y1 y2 y3 y4 y5, LeO (pouchref02_sign.l0 k y0 y1 y2 y3 y4 y5) (pouchref02_sign.l0 (k + 1) y0 y1 y2 y3 y4 y5))
  | 0 => ⟨fun _ _ _ _ _ _ r h => by simp [pouchref02_sign.j0] at h, fun _ _ _ _ _ _ r h => by simp [pouchref02_sign.j1] at h, fun _ _ _ _ _ _ r h => by simp [pouchref02_sign.l0] at h⟩
  | k + 1 => by
    obtain ⟨ih0, ih1, ih2⟩ := pouchref02_sign.mono_l k
    refine ⟨?_, ?_, ?_⟩
    · intro y0 y1 y2 y3 y4 y5
      unfold pouchref02_sign.j0
      exact z105m0
    · intro y0 y1 y2 y3 y4 y5
      unfold pouchref02_sign.j1
      exact z105m0
    · intro y0 y1 y2 y3 y4 y5
      unfold pouchref02_sign.l0
      exact z105m0
theorem pouchref02_sign.mono : ∀ a0 a1 k, LeO (pouchref02_sign.f k a0 a1) (pouchref02_sign.f (k + 1) a0 a1) := by
  intro a0 a1 k
  obtain ⟨ih0, ih1, ih2⟩ := pouchref02_sign.mono_l k
  unfold pouchref02_sign.f
  exact z105m0
theorem z105z0 {p : Prop} (h : p := by first | rfl | (simp; done) | (simp [*]; done)) : p := h
theorem z105z1 {p : Prop} (h : p := by first | (with_reducible assumption) | assumption) : p := h
set_option maxHeartbeats 8000000 in
set_option maxRecDepth 100000 in
theorem pouchref02_sign.calls (k : Nat) (a0 : ByteArray) (a1 : Int) (r1 : Int) (r2 : Int) (w : World) (h : pouchref02_sign.f k a0 a1 = some (r1, r2)) :
  Calls Tryd.prog 105 #[.string a0, .int .i64 a1] w fun e w' => e = .returned (.tuple #[.int .i64 r1, .int .i64 r2]) ∧ Drawn0 w w' := by
 have H : (if 0 ≤ a1 then (if a1 < (a0.size : Int) then (if (wrap64 (bt a0 a1)) ≥ 240 then (pouchref02_sign.j0 k a0 a1 (wrap64 (bt a0 a1)) 4 (wrap64 ((wrap64 (bt a0 a1)) - 240)) 65536) else (if (wrap64 (bt a0 a1)) ≥ 224 then (pouchref02_sign.j0 k a0 a1 (wrap64 (bt a0 a1)) 3 (wrap64 ((wrap64 (bt a0 a1)) - 224)) 2048) else (if (wrap64 (bt a0 a1)) ≥ 192 then (pouchref02_sign.j0 k a0 a1 (wrap64 (bt a0 a1)) 2 (wrap64 ((wrap64 (bt a0 a1)) - 192)) 128) else (if (wrap64 (bt a0 a1)) ≥ 128 then (some (0, 0)) else (pouchref02_sign.j0 k a0 a1 (wrap64 (bt a0 a1)) 1 (wrap64 (bt a0 a1)) 1))))) else (none)) else (none)) = some (r1, r2) := h
 clear h
 by_cases c3 : 0 ≤ a1
 ·rw [if_pos c3] at H
  have c3b0 : decide (0 ≤ a1) = true := decide_eq_true c3
  clear c3
  by_cases c4 : a1 < (a0.size : Int)
  ·rw [if_pos c4] at H
   have c4b0 : decide (a1 < (a0.size : Int)) = true := decide_eq_true c4
   clear c4
   have HC6 := Aside0.mk H
   clear H
   have p5 : 0 ≤ (a1 : Int) := of_decide_eq_true z105z1
   have q5 : a1 < (a0.size : Int) := of_decide_eq_true z105z1
   have hx5 := bt_at a0 a1
   replace p5 := eq_true p5
   replace q5 := eq_true q5
   go_enter Tryd.func105, Tryd.ntmps105
   go_upto_if 18 with (fail)
   go_cut [7, 8, 9] (fun v7 v8 v9 wc => ∃ (kq : Nat) (x7_5 : Int) (x8_5 : Int) (x9_5 : Int), v7 = .int .i64 x7_5 ∧ v8 = .int .i64 x8_5 ∧ v9 = .int .i64 x9_5 ∧ Aside0 (pouchref02_sign.j0 kq a0 a1 (wrap64 (bt a0 a1)) x7_5 x8_5 x9_5 = some (r1, r2)) ∧ Aside0 (kq ≤ k) ∧ Drawn0 w wc)
   case first =>
    have H := HC6.out
    clear HC6
    by_cases c7 : (wrap64 (bt a0 a1)) ≥ 240
    ·rw [if_pos c7] at H
     have c7b0 : decide (240 ≤ (wrap64 (bt a0 a1))) = true := decide_eq_true c7
     clear c7
     (first | rw [c7b0] | (simp only [i64_w, i32_w]; rw [c7b0]) | skip)
     have H' := Aside0.mk H
     clear H
     go_wp2
     go_meet
     case rel => exact ⟨_, (4), (wrap64 ((wrap64 (bt a0 a1)) - 240)), (65536), z105z0, z105z0, z105z0, H', ⟨by first | omega | exact Nat.le_refl _⟩, by repeat (first | exact Drawn0.refl _ | apply Drawn0.step)⟩
    ·rw [if_neg c7] at H
     have c7b0 : decide (240 ≤ (wrap64 (bt a0 a1))) = false := decide_eq_false c7
     clear c7
     (first | rw [c7b0] | (simp only [i64_w, i32_w]; rw [c7b0]) | skip)
     by_cases c8 : (wrap64 (bt a0 a1)) ≥ 224
     ·rw [if_pos c8] at H
      have c8b0 : decide (224 ≤ (wrap64 (bt a0 a1))) = true := decide_eq_true c8
      clear c8
      have H' := Aside0.mk H
      clear H
      go_wp2
      go_meet
      case rel => exact ⟨_, (3), (wrap64 ((wrap64 (bt a0 a1)) - 224)), (2048), z105z0, z105z0, z105z0, H', ⟨by first | omega | exact Nat.le_refl _⟩, by repeat (first | exact Drawn0.refl _ | apply Drawn0.step)⟩
     ·rw [if_neg c8] at H
      have c8b0 : decide (224 ≤ (wrap64 (bt a0 a1))) = false := decide_eq_false c8
      clear c8
      by_cases c9 : (wrap64 (bt a0 a1)) ≥ 192
      ·rw [if_pos c9] at H
       have c9b0 : decide (192 ≤ (wrap64 (bt a0 a1))) = true := decide_eq_true c9
       clear c9
       have H' := Aside0.mk H
       clear H
       go_wp2
       go_meet
       case rel => exact ⟨_, (2), (wrap64 ((wrap64 (bt a0 a1)) - 192)), (128), z105z0, z105z0, z105z0, H', ⟨by first | omega | exact Nat.le_refl _⟩, by repeat (first | exact Drawn0.refl _ | apply Drawn0.step)⟩
      ·rw [if_neg c9] at H
       have c9b0 : decide (192 ≤ (wrap64 (bt a0 a1))) = false := decide_eq_false c9
       clear c9
       by_cases c10 : (wrap64 (bt a0 a1)) ≥ 128
       ·rw [if_pos c10] at H
        have c10b0 : decide (128 ≤ (wrap64 (bt a0 a1))) = true := decide_eq_true c10
        clear c10
        simp only [Option.some.injEq, Prod.mk.injEq] at H
        obtain ⟨rfl, rfl⟩ := H
        go_wp2
        go_ret2
        exact ⟨by first | rfl | (simp; done) | (simp [*]; done), by repeat (first | exact Drawn0.refl _ | apply Drawn0.step)⟩
       ·rw [if_neg c10] at H
        have c10b0 : decide (128 ≤ (wrap64 (bt a0 a1))) = false := decide_eq_false c10
        clear c10
        have H' := Aside0.mk H
        clear H
        go_wp2
        go_meet
        case rel => exact ⟨_, (1), (wrap64 (bt a0 a1)), (1), z105z0, z105z0, z105z0, H', ⟨by first | omega | exact Nat.le_refl _⟩, by repeat (first | exact Drawn0.refl _ | apply Drawn0.step)⟩
   case rest =>
    clear HC6
    try clear c1
    try clear p2
    try clear c3
    try clear c3b0
    try clear c4
    try clear c4b0
    try clear p5
    try clear q5
    try clear hx5
    try clear p6
    try clear c7
    try clear c7b0
    try clear c8
    try clear c8b0
    try clear c9
    try clear c9b0
    try clear c10
    try clear c10b0
    try clear p5
    try clear q5
    obtain ⟨kq, x7_5, x8_5, x9_5, rfl, rfl, rfl, HA, HJ5, ⟨mc5, rfl⟩⟩ := hcut
    cases kq with
    | zero => exact absurd HA.out (by simp [pouchref02_sign.j0])
    | succ kj5 =>
     have H := HA.out
     clear HA
     simp only [pouchref02_sign.j0] at H
     have HC11 := Aside0.mk H
     clear H
     go_upto_region 11 with (fail)
     go_cut [40] (fun v40 wc => ∃ (kq : Nat) (x40_10 : Bool), v40 = .bool x40_10 ∧ Aside0 (pouchref02_sign.j1 kq a0 a1 x7_5 x8_5 x9_5 x40_10 = some (r1, r2)) ∧ Aside0 (kq ≤ kj5) ∧ Drawn0 w wc)
     case first =>
      have H := HC11.out
      clear HC11
      by_cases c12 : (wrap64 (bt a0 a1)) ≥ 248
      ·rw [if_pos c12] at H
       have c12b0 : decide (248 ≤ (wrap64 (bt a0 a1))) = true := decide_eq_true c12
       clear c12
       (first | rw [c12b0] | (simp only [i64_w, i32_w]; rw [c12b0]) | skip)
       have H' := Aside0.mk H
       clear H
       go_wp2
       go_meet
       case rel => exact ⟨_, (true), z105z0, H', ⟨by have := HJ5.out; first | omega | exact Nat.le_refl _⟩, by repeat (first | exact Drawn0.refl _ | apply Drawn0.step)⟩
      ·rw [if_neg c12] at H
       have c12b0 : decide (248 ≤ (wrap64 (bt a0 a1))) = false := decide_eq_false c12
       clear c12
       (first | rw [c12b0] | (simp only [i64_w, i32_w]; rw [c12b0]) | skip)
       have H' := Aside0.mk H
       clear H
       go_wp2
       go_meet
       case rel => exact ⟨_, (decide ((wrap64 (a1 + x7_5)) > (a0.size : Int))), z105z0, H', ⟨by have := HJ5.out; first | omega | exact Nat.le_refl _⟩, by repeat (first | exact Drawn0.refl _ | apply Drawn0.step)⟩
     case rest =>
      clear HC11
      try clear c1
      try clear p2
      try clear c3
      try clear c3b0
      try clear c4
      try clear c4b0
      try clear c5
      try clear p5
      try clear q5
      try clear hx5
      try clear p6
      try clear c7
      try clear c7b0
      try clear c8
      try clear c8b0
      try clear c9
      try clear c9b0
      try clear c10
      try clear c10b0
      try clear c12
      try clear c12b0
      try clear p2
      try clear p5
      try clear p6
      try clear q5
      obtain ⟨kq, x40_10, rfl, HA, HJ10, ⟨mc10, rfl⟩⟩ := hcut
      cases kq with
      | zero => exact absurd HA.out (by simp [pouchref02_sign.j1])
      | succ kj10 =>
       have H := HA.out
       clear HA
       simp only [pouchref02_sign.j1] at H
       by_cases c13 : x40_10 = true
       ·subst c13
        have H1 : (some (0, 0)) = some (r1, r2) := by rw [if_pos rfl] at H; exact H
        clear H
        have H := H1
        clear H1
        simp only [Option.some.injEq, Prod.mk.injEq] at H
        obtain ⟨rfl, rfl⟩ := H
        go_wp2
        go_ret2
        exact ⟨by first | rfl | (simp; done) | (simp [*]; done), by repeat (first | exact Drawn0.refl _ | apply Drawn0.step)⟩
       ·replace c13 := Bool.eq_false_iff.mpr c13
        subst c13
        have H1 : (pouchref02_sign.l0 kj10 a0 a1 x7_5 x8_5 x9_5 1) = some (r1, r2) := by rw [if_neg (show ¬ (false = true) by decide)] at H; exact H
        clear H
        have H := H1
        clear H1
        have H' := Aside0.mk H
        clear H
        go_wp2
        go_loopg [8, 10] kj10 (fun kq v8 v10 w' => ∃ (x8_3 : Int) (x10_3 : Int), v8 = .int .i64 x8_3 ∧ v10 = .int .i64 x10_3 ∧ Aside0 (pouchref02_sign.l0 kq a0 a1 x7_5 x8_3 x9_5 x10_3 = some (r1, r2)) ∧ Aside0 (kq ≤ kj10) ∧ Drawn0 w w')
        case atStart => exact ⟨(x8_5), (1), z105z0, z105z0, H', ⟨Nat.le_refl _⟩, by repeat (first | exact Drawn0.refl _ | apply Drawn0.step)⟩
        case round =>
         clear H'
         try clear c1
         try clear p2
         try clear c3
         try clear c3b0
         try clear c4
         try clear c4b0
         try clear c5
         try clear p5
         try clear q5
         try clear hx5
         try clear p6
         try clear c7
         try clear c7b0
         try clear c8
         try clear c8b0
         try clear c9
         try clear c9b0
         try clear c10
         try clear c10b0
         try clear c12
         try clear c12b0
         try clear c13
         try clear p2
         try clear p5
         try clear p6
         try clear q5
         obtain ⟨x8_3, x10_3, rfl, rfl, HA, HK3, ⟨m3, rfl⟩⟩ := hrel
         cases gk with
         | zero => exact absurd HA.out (by simp [pouchref02_sign.l0])
         | succ k3 =>
          have H := HA.out
          clear HA
          simp only [pouchref02_sign.l0] at H
          by_cases c14 : x10_3 < x7_5
          ·rw [if_pos c14] at H
           have c14b0 : decide (x10_3 < x7_5) = true := decide_eq_true c14
           clear c14
           obtain ⟨ji15, hji15⟩ : ∃ j_ : Int, (wrap64 (a1 + x10_3)) = j_ := ⟨_, rfl⟩
           replace H : (if 0 ≤ (ji15) then (if (ji15) < (a0.size : Int) then (if (wrap64 (bt a0 (ji15))) < 128 then (some (0, 0)) else (if (wrap64 (bt a0 (ji15))) ≥ 192 then (some (0, 0)) else (pouchref02_sign.l0 k3 a0 a1 x7_5 (wrap64 ((wrap64 ((wrap64 (64 * x8_3)) + (wrap64 (bt a0 (ji15))))) - 128)) x9_5 (wrap64 (x10_3 + 1))))) else (none)) else (none)) = some (r1, r2) := by first | (rw [hji15] at H; exact H) | (simp only [hji15] at H ⊢; exact H)
           have hji15w : (IntKind.i64.wrap (a1 + x10_3)) = ji15 := (i64_w _).trans hji15
           by_cases c16 : 0 ≤ (ji15)
           ·rw [if_pos c16] at H
            have c16b0 : decide (0 ≤ (ji15)) = true := decide_eq_true c16
            clear c16
            by_cases c17 : (ji15) < (a0.size : Int)
            ·rw [if_pos c17] at H
             have c17b0 : decide ((ji15) < (a0.size : Int)) = true := decide_eq_true c17
             clear c17
             by_cases c19 : (wrap64 (bt a0 (ji15))) < 128
             ·rw [if_pos c19] at H
              have c19b0 : decide ((wrap64 (bt a0 (ji15))) < 128) = true := decide_eq_true c19
              clear c19
              simp only [Option.some.injEq, Prod.mk.injEq] at H
              obtain ⟨rfl, rfl⟩ := H
              have p18 : 0 ≤ ((ji15) : Int) := of_decide_eq_true z105z1
              have q18 : (ji15) < (a0.size : Int) := of_decide_eq_true z105z1
              have hx18 := bt_at a0 (ji15)
              replace p18 := eq_true p18
              replace q18 := eq_true q18
              go_wp2
              go_ret2
              exact ⟨by first | rfl | (simp; done) | (simp only [← hji15] <;> (first | rfl | simp)) | (simp [*]; done), by repeat (first | exact Drawn0.refl _ | apply Drawn0.step)⟩
             ·rw [if_neg c19] at H
              have c19b0 : decide ((wrap64 (bt a0 (ji15))) < 128) = false := decide_eq_false c19
              clear c19
              by_cases c20 : (wrap64 (bt a0 (ji15))) ≥ 192
              ·rw [if_pos c20] at H
               have c20b0 : decide (192 ≤ (wrap64 (bt a0 (ji15)))) = true := decide_eq_true c20
               clear c20
               simp only [Option.some.injEq, Prod.mk.injEq] at H
               obtain ⟨rfl, rfl⟩ := H
               have p18 : 0 ≤ ((ji15) : Int) := of_decide_eq_true z105z1
               have q18 : (ji15) < (a0.size : Int) := of_decide_eq_true z105z1
               have hx18 := bt_at a0 (ji15)
               replace p18 := eq_true p18
               replace q18 := eq_true q18
               go_wp2
               go_ret2
               exact ⟨by first | rfl | (simp; done) | (simp only [← hji15] <;> (first | rfl | simp)) | (simp [*]; done), by repeat (first | exact Drawn0.refl _ | apply Drawn0.step)⟩
              ·rw [if_neg c20] at H
               have c20b0 : decide (192 ≤ (wrap64 (bt a0 (ji15)))) = false := decide_eq_false c20
               clear c20
               have H' := Aside0.mk H
               clear H
               have p18 : 0 ≤ ((ji15) : Int) := of_decide_eq_true z105z1
               have q18 : (ji15) < (a0.size : Int) := of_decide_eq_true z105z1
               have hx18 := bt_at a0 (ji15)
               replace p18 := eq_true p18
               replace q18 := eq_true q18
               go_wp2
               go_roundg k3
               case measure => have := HJ5.out; have := HJ10.out; have := HK3.out; omega
               case rel => exact ⟨(wrap64 ((wrap64 ((wrap64 (64 * x8_3)) + (wrap64 (bt a0 (ji15))))) - 128)), (wrap64 (x10_3 + 1)), (by first | rfl | (simp; done) | (simp only [← hji15] <;> (first | rfl | simp)) | (simp [*]; done)), z105z0, H', ⟨by have := HJ5.out; have := HJ10.out; have := HK3.out; omega⟩, by repeat (first | exact Drawn0.refl _ | apply Drawn0.step)⟩
            ·rw [if_neg c17] at H
             exact absurd H (by simp)
           ·rw [if_neg c16] at H
            exact absurd H (by simp)
          ·rw [if_neg c14] at H
           have c14b0 : decide (x10_3 < x7_5) = false := decide_eq_false c14
           clear c14
           by_cases c21 : x8_3 < x9_5
           ·rw [if_pos c21] at H
            have c21b0 : decide (x8_3 < x9_5) = true := decide_eq_true c21
            clear c21
            simp only [Option.some.injEq, Prod.mk.injEq] at H
            obtain ⟨rfl, rfl⟩ := H
            go_wp2
            go_ret2
            exact ⟨by first | rfl | (simp; done) | (simp [*]; done), by repeat (first | exact Drawn0.refl _ | apply Drawn0.step)⟩
           ·rw [if_neg c21] at H
            have c21b0 : decide (x8_3 < x9_5) = false := decide_eq_false c21
            clear c21
            by_cases c22 : x8_3 > 1114111
            ·rw [if_pos c22] at H
             have c22b0 : decide (1114111 < x8_3) = true := decide_eq_true c22
             clear c22
             simp only [Option.some.injEq, Prod.mk.injEq] at H
             obtain ⟨rfl, rfl⟩ := H
             go_wp2
             go_ret2
             exact ⟨by first | rfl | (simp; done) | (simp [*]; done), by repeat (first | exact Drawn0.refl _ | apply Drawn0.step)⟩
            ·rw [if_neg c22] at H
             have c22b0 : decide (1114111 < x8_3) = false := decide_eq_false c22
             clear c22
             by_cases c23 : x8_3 ≥ 55296
             ·rw [if_pos c23] at H
              have c23b0 : decide (55296 ≤ x8_3) = true := decide_eq_true c23
              clear c23
              by_cases c24 : x8_3 ≤ 57343
              ·rw [if_pos c24] at H
               have c24b0 : decide (x8_3 ≤ 57343) = true := decide_eq_true c24
               clear c24
               simp only [Option.some.injEq, Prod.mk.injEq] at H
               obtain ⟨rfl, rfl⟩ := H
               go_wp2
               go_ret2
               exact ⟨by first | rfl | (simp; done) | (simp [*]; done), by repeat (first | exact Drawn0.refl _ | apply Drawn0.step)⟩
              ·rw [if_neg c24] at H
               have c24b0 : decide (x8_3 ≤ 57343) = false := decide_eq_false c24
               clear c24
               simp only [Option.some.injEq, Prod.mk.injEq] at H
               obtain ⟨rfl, rfl⟩ := H
               go_wp2
               go_ret2
               exact ⟨by first | rfl | (simp; done) | (simp [*]; done), by repeat (first | exact Drawn0.refl _ | apply Drawn0.step)⟩
             ·rw [if_neg c23] at H
              have c23b0 : decide (55296 ≤ x8_3) = false := decide_eq_false c23
              clear c23
              simp only [Option.some.injEq, Prod.mk.injEq] at H
              obtain ⟨rfl, rfl⟩ := H
              go_wp2
              go_ret2
              exact ⟨by first | rfl | (simp; done) | (simp [*]; done), by repeat (first | exact Drawn0.refl _ | apply Drawn0.step)⟩
  ·rw [if_neg c4] at H
   exact absurd H (by simp)
 ·rw [if_neg c3] at H
  exact absurd H (by simp)
end Go.Proofs.YtkmkgpigmldhnaaDoor.P

namespace Go.Proofs.YtkmkgpigmldhnaaDoor.P
open Go.RowKit Go.Proofs.YtkmkgpigmldhnaaDoorW.PrintWords Go.Proofs.YtkmkgpigmldhnaaDoorW.PrintLast Go.Proofs.YtkmkgpigmldhnaaDoorW.PrintMore
attribute [local go_sem] max2_int min2_int max_two min_two max_three min_three max_four min_four
set_option linter.unusedVariables false
set_option linter.unusedSimpArgs false
def pouchref02_Runes.l0 : Nat → ByteArray → Int → Int → Option (Int)
  | 0, _, _, _ => none
  | k + 1, x0, x3, x4 => if x4 < (x0.size : Int) then ((pouchref02_sign.f k x0 x4).bind fun bt101 => (if bt101.2 = 0 then (some (-1)) else (pouchref02_Runes.l0 k x0 (wrap64 (x3 + 1)) (wrap64 (x4 + bt101.2))))) else (some x3)
def pouchref02_Runes.f (k : Nat) (a0 : ByteArray) : Option (Int) := if (a0.size : Int) > 65535 then (some (-1)) else (pouchref02_Runes.l0 k a0 0 0)
theorem z93m0 {p : Prop} (h : p := by
 repeat' first
 | (with_reducible exact ih0 _ _ _)
 | (with_reducible exact pouchref02_sign.mono _ _ _)
 | (with_reducible exact LeO.refl _)
 | (with_reducible exact LeO.none _)
 | (with_reducible refine LeO.ite ?_ ?_)
 | (with_reducible refine LeO.bind ?_ (fun _ => ?_))
 | exact ih0 _ _ _
 | exact pouchref02_sign.mono _ _ _
 | exact LeO.none _
 | refine LeO.ite ?_ ?_
 | refine LeO.bind ?_ (fun _ => ?_)) : p := h
theorem pouchref02_Runes.mono_l : ∀ k, (∀ y0 y1 y2, LeO (pouchref02_Runes.l0 k y0 y1 y2) (pouchref02_Runes.l0 (k + 1) y0 y1 y2))
  | 0 => fun _ _ _ r h => by simp [pouchref02_Runes.l0] at h
  | k + 1 => by
    have ih0 := pouchref02_Runes.mono_l k
    · intro y0 y1 y2
      unfold pouchref02_Runes.l0
      exact z93m0
theorem pouchref02_Runes.mono : ∀ a0 k, LeO (pouchref02_Runes.f k a0) (pouchref02_Runes.f (k + 1) a0) := by
  intro a0 k
  have ih0 := pouchref02_Runes.mono_l k
  unfold pouchref02_Runes.f
  exact z93m0
theorem z93z0 {p : Prop} (h : p := by (try simp only [List.map_toArray, List.map_cons, List.map_nil]); first | done | rfl | (simp only [List.length_drop, List.length_take]; rfl)) : p := h
theorem z93z1 {p : Prop} (h : p := by first | rfl | (simp; done) | (simp [*]; done)) : p := h
set_option maxHeartbeats 8000000 in
set_option maxRecDepth 100000 in
theorem pouchref02_Runes.calls (k : Nat) (a0 : ByteArray) (r : Int) (w : World) (h : pouchref02_Runes.f k a0 = some r) :
  Calls Tryd.prog 93 #[.string a0] w fun e w' => e = .returned (.int .i64 r) ∧ Drawn0 w w' := by
 have H : (if (a0.size : Int) > 65535 then (some (-1)) else (pouchref02_Runes.l0 k a0 0 0)) = some r := h
 clear h
 by_cases c2 : (a0.size : Int) > 65535
 ·rw [if_pos c2] at H
  have c2b0 : decide (65535 < (a0.size : Int)) = true := decide_eq_true c2
  have c2b1 : decide (65535 < a0.size) = true := decide_eq_true (by omega)
  clear c2
  obtain rfl := Option.some.inj H
  go_enter Tryd.func93, Tryd.ntmps93
  go_wp2
  go_ret
  exact ⟨by first | rfl | (simp; done) | (simp [*]; done), by repeat (first | exact Drawn0.refl _ | apply Drawn0.step)⟩
 ·rw [if_neg c2] at H
  have c2b0 : decide (65535 < (a0.size : Int)) = false := decide_eq_false c2
  have c2b1 : decide (65535 < a0.size) = false := decide_eq_false (by omega)
  clear c2
  have H' := Aside0.mk H
  clear H
  go_enter Tryd.func93, Tryd.ntmps93
  go_wp2
  go_loopg [3, 4] k (fun kq v3 v4 w' => ∃ (x3_1 : Int) (x4_1 : Int), v3 = .int .i64 x3_1 ∧ v4 = .int .i64 x4_1 ∧ Aside0 (pouchref02_Runes.l0 kq a0 x3_1 x4_1 = some r) ∧ Aside0 (kq ≤ k) ∧ Drawn0 w w')
  case atStart => exact ⟨(0), (0), z93z1, z93z1, H', ⟨Nat.le_refl _⟩, by repeat (first | exact Drawn0.refl _ | apply Drawn0.step)⟩
  case round =>
   clear H'
   try clear c2
   try clear c2b0
   try clear c2b1
   try clear p2
   obtain ⟨x3_1, x4_1, rfl, rfl, HA, HK1, ⟨m1, rfl⟩⟩ := hrel
   cases gk with
   | zero => exact absurd HA.out (by simp [pouchref02_Runes.l0])
   | succ k1 =>
    have H := HA.out
    clear HA
    simp only [pouchref02_Runes.l0] at H
    by_cases c3 : x4_1 < (a0.size : Int)
    ·rw [if_pos c3] at H
     have c3b0 : decide (x4_1 < (a0.size : Int)) = true := decide_eq_true c3
     clear c3
     replace H := Option.bind_eq_some_iff.mp H
     obtain ⟨⟨t101, t102⟩, A40, H⟩ := H
     replace H : (if t102 = 0 then (some (-1)) else (pouchref02_Runes.l0 k1 a0 (wrap64 (x3_1 + 1)) (wrap64 (x4_1 + t102)))) = some r := H
     have A4 := Aside0.mk A40
     clear A40
     by_cases c5 : t102 = 0
     ·rw [if_pos c5] at H
      have c5b0 : (t102 == 0) = true := beq_iff_eq.mpr c5
      have c5b1 : (t102 != 0) = false := bne_eq_false_iff_eq.mpr c5
      clear c5
      obtain rfl := Option.some.inj H
      go_wp2_with (first | ((with_reducible refine gate_callee (f := 105) rfl ?_); refine goesL_ (some 17) rfl rfl Tryd.func105 (by kernel_rfl) rfl #[.string a0, .int .i64 x4_1] rfl z93z0 ?_; (with_reducible refine (pouchref02_sign.calls k1 a0 x4_1 t101 t102 _ A4.out).mono ?_); rintro e w' ⟨rfl, ⟨nd, rfl⟩⟩; refine ⟨_, rfl, ?_⟩))
      go_ret
      exact ⟨by first | rfl | (simp; done) | (simp [*]; done), by repeat (first | exact Drawn0.refl _ | apply Drawn0.step)⟩
     ·rw [if_neg c5] at H
      have c5b0 : (t102 == 0) = false := beq_eq_false_iff_ne.mpr c5
      have c5b1 : (t102 != 0) = true := bne_iff_ne.mpr c5
      have H' := Aside0.mk H
      clear H
      go_wp2_with (first | ((with_reducible refine gate_callee (f := 105) rfl ?_); refine goesL_ (some 17) rfl rfl Tryd.func105 (by kernel_rfl) rfl #[.string a0, .int .i64 x4_1] rfl z93z0 ?_; (with_reducible refine (pouchref02_sign.calls k1 a0 x4_1 t101 t102 _ A4.out).mono ?_); rintro e w' ⟨rfl, ⟨nd, rfl⟩⟩; refine ⟨_, rfl, ?_⟩))
      go_roundg k1
      case measure => have := HK1.out; omega
      case rel => exact ⟨(wrap64 (x3_1 + 1)), (wrap64 (x4_1 + t102)), z93z1, z93z1, H', ⟨by have := HK1.out; omega⟩, by repeat (first | exact Drawn0.refl _ | apply Drawn0.step)⟩
    ·rw [if_neg c3] at H
     have c3b0 : decide (x4_1 < (a0.size : Int)) = false := decide_eq_false c3
     clear c3
     obtain rfl := Option.some.inj H
     go_wp2
     go_ret
     exact ⟨by first | rfl | (simp; done) | (simp [*]; done), by repeat (first | exact Drawn0.refl _ | apply Drawn0.step)⟩
end Go.Proofs.YtkmkgpigmldhnaaDoor.P

namespace Go.Proofs.YtkmkgpigmldhnaaDoor.P
open Go.RowKit Go.Proofs.YtkmkgpigmldhnaaDoorW.PrintWords Go.Proofs.YtkmkgpigmldhnaaDoorW.PrintLast Go.Proofs.YtkmkgpigmldhnaaDoorW.PrintMore
attribute [local go_sem] max2_int min2_int max_two min_two max_three min_three max_four min_four
set_option linter.unusedVariables false
set_option linter.unusedSimpArgs false
def pouchref02_Right.f (k : Nat) (a0 : ByteArray) : Option (Bool) := (pouchref02_Runes.f k a0).bind fun t101 => (some (decide (t101 ≥ 0)))
theorem pouchref02_Right.mono : ∀ a0 k, LeO (pouchref02_Right.f k a0) (pouchref02_Right.f (k + 1) a0) := by
  intro a0 k
  unfold pouchref02_Right.f
  repeat' first
      | (with_reducible exact pouchref02_Runes.mono _ _)
      | (with_reducible exact LeO.refl _)
      | (with_reducible exact LeO.none _)
      | (with_reducible refine LeO.ite ?_ ?_)
      | (with_reducible refine LeO.bind ?_ (fun _ => ?_))
      | exact pouchref02_Runes.mono _ _
      | exact LeO.none _
      | refine LeO.ite ?_ ?_
      | refine LeO.bind ?_ (fun _ => ?_)
set_option maxHeartbeats 8000000 in
set_option maxRecDepth 100000 in
theorem pouchref02_Right.calls (k : Nat) (a0 : ByteArray) (r : Bool) (w : World) (h : pouchref02_Right.f k a0 = some r) :
    Calls Tryd.prog 68 #[.string a0] w fun e w' => e = .returned (.bool r) ∧ Drawn0 w w' := by
  have H : ((pouchref02_Runes.f k a0).bind fun t101 => (some (decide (t101 ≥ 0)))) = some r := h
  clear h
  replace H := Option.bind_eq_some_iff.mp H
  obtain ⟨t101, A20, H⟩ := H
  replace H : (some (decide (t101 ≥ 0))) = some r := H
  have A2 := Aside0.mk A20
  clear A20
  obtain rfl := Option.some.inj H
  go_enter Tryd.func68, Tryd.ntmps68
  go_wp2_with (first | ((with_reducible refine gate_callee (f := 93) rfl ?_); refine goesL_ (some 4) rfl rfl Tryd.func93 (by kernel_rfl) rfl #[.string a0] rfl (by (try simp only [List.map_toArray, List.map_cons, List.map_nil]); first | done | rfl | (simp only [List.length_drop, List.length_take]; rfl)) ?_; (with_reducible refine (pouchref02_Runes.calls k a0 t101 _ A2.out).mono ?_); rintro e w' ⟨rfl, ⟨nd, rfl⟩⟩; refine ⟨_, rfl, ?_⟩))
  go_ret
  exact ⟨by first | rfl | (simp; done) | (simp [*]; done), by repeat (first | exact Drawn0.refl _ | apply Drawn0.step)⟩
end Go.Proofs.YtkmkgpigmldhnaaDoor.P

namespace Go.Proofs.YtkmkgpigmldhnaaDoor.P
open Go.RowKit Go.Proofs.YtkmkgpigmldhnaaDoorW.PrintWords Go.Proofs.YtkmkgpigmldhnaaDoorW.PrintLast Go.Proofs.YtkmkgpigmldhnaaDoorW.PrintMore
attribute [local go_sem] max2_int min2_int max_two min_two max_three min_three max_four min_four
set_option linter.unusedVariables false
set_option linter.unusedSimpArgs false
def pouchref05_Right.j0 : Nat → Bool → Int → Int → ByteArray → ByteArray → Option (Bool)
  | 0, _, _, _, _, _ => none
  | k + 1, x3, x102000, x102001, x102002, x102003 => (pouchref05_Type.f k x102000).bind fun t102 => (if t102 = 1 then (if x102001 < 256 then (some x3) else (some false)) else (if t102 = 2 then (if x102001 < 65536 then (some x3) else (some false)) else (if t102 = 3 then (some x3) else (if t102 = 4 then (if x102001 < 268435456 then (some x3) else (some false)) else (if t102 = 5 then (if x102001 = 0 then ((pouchref02_Right.f k x102002).bind fun t103 => (if t103 = true then (some (x102003.toList == ([] : List UInt8))) else (some false))) else (some false)) else (if t102 = 6 then (if x102001 = 0 then (if (x102002.size : Int) ≤ 65535 then (some (x102003.toList == ([] : List UInt8))) else (some false)) else (some false)) else (if t102 = 7 then (if x102001 = 0 then ((pouchref02_Right.f k x102002).bind fun t104 => (if t104 = true then ((pouchref02_Right.f k x102003).bind fun t105 => (some t105)) else (some false))) else (some false)) else (some false))))))))
def pouchref05_Right.f (k : Nat) (a0_0 : Int) (a0_1 : Int) (a0_2 : ByteArray) (a0_3 : ByteArray) : Option (Bool) := if a0_2.toList = ([] : List UInt8) then (pouchref05_Right.j0 k (a0_3.toList == ([] : List UInt8)) a0_0 a0_1 a0_2 a0_3) else (pouchref05_Right.j0 k false a0_0 a0_1 a0_2 a0_3)
theorem z38m0 {p : Prop} (h : p := by
 repeat' first
 | (with_reducible exact ih0 _ _ _ _ _)
 | (with_reducible exact pouchref02_Right.mono _ _)
 | (with_reducible exact pouchref05_Type.mono _ _)
 | (with_reducible exact LeO.refl _)
 | (with_reducible exact LeO.none _)
 | (with_reducible refine LeO.ite ?_ ?_)
 | (with_reducible refine LeO.bind ?_ (fun _ => ?_))
 | exact ih0 _ _ _ _ _
 | exact pouchref02_Right.mono _ _
 | exact pouchref05_Type.mono _ _
 | exact LeO.none _
 | refine LeO.ite ?_ ?_
 | refine LeO.bind ?_ (fun _ => ?_)) : p := h
theorem pouchref05_Right.mono_l : ∀ k, (∀ y0 y1 y2 y3 y4, LeO (pouchref05_Right.j0 k y0 y1 y2 y3 y4) (pouchref05_Right.j0 (k + 1) y0 y1 y2 y3 y4))
  | 0 => fun _ _ _ _ _ r h => by simp [pouchref05_Right.j0] at h
  | k + 1 => by
    have ih0 := pouchref05_Right.mono_l k
    · intro y0 y1 y2 y3 y4
      unfold pouchref05_Right.j0
      exact z38m0
theorem pouchref05_Right.mono : ∀ a0 a1 a2 a3 k, LeO (pouchref05_Right.f k a0 a1 a2 a3) (pouchref05_Right.f (k + 1) a0 a1 a2 a3) := by
  intro a0 a1 a2 a3 k
  have ih0 := pouchref05_Right.mono_l k
  unfold pouchref05_Right.f
  exact z38m0
theorem z38z0 {p : Prop} (h : p := by (try simp only [List.map_toArray, List.map_cons, List.map_nil]); first | done | rfl | (simp only [List.length_drop, List.length_take]; rfl)) : p := h
theorem z38z1 {p : Prop} (h : p := by repeat (first | (with_reducible first | exact HB.out | apply below_alloc | apply pw_below_drewN | apply below_drew1) | exact HB.out)) : p := h
set_option maxHeartbeats 8000000 in
set_option maxRecDepth 100000 in
theorem pouchref05_Right.calls (k : Nat) (a0_0 : Int) (a0_1 : Int) (a0_2 : ByteArray) (a0_3 : ByteArray) (r : Bool) (w : World) (h : pouchref05_Right.f k a0_0 a0_1 a0_2 a0_3 = some r) :
  Calls Tryd.prog 38 #[.agg #[.int .u8 a0_0, .int .u32 a0_1, .string a0_2, .string a0_3]] w fun e w' => e = .returned (.bool r) ∧ Below w.heap.size w w' := by
 have hu58 := Tryd.underlying58
 have HB := Aside0.mk (Below.refl w.heap.size w)
 have H : (if a0_2.toList = ([] : List UInt8) then (pouchref05_Right.j0 k (a0_3.toList == ([] : List UInt8)) a0_0 a0_1 a0_2 a0_3) else (pouchref05_Right.j0 k false a0_0 a0_1 a0_2 a0_3)) = some r := h
 clear h
 have HC2 := Aside0.mk H
 clear H
 go_enter Tryd.func38, Tryd.ntmps38
 go_upto_region 1 with (first | ((with_reducible refine gate_dst (N := 1) rfl ?_); refine box_event ?hg (N := 1) ?hd (cs := #[.int .u8 a0_0, .int .u32 a0_1, .string a0_2, .string a0_3]) (t := 58) ?hr ?_; (case hd => rfl); (case hg => rfl); (case hr => first | (go_simp; done) | (go_simp; rfl)); intro gb101 hg w3 hbox hb; have n0_ := Aside0.mk (below_step z38z1 hb); have n1_ := Aside0.mk (hbox); have n2_ := Aside0.mk ((by rw [hg]; exact (below_size z38z1) : w.heap.size ≤ gb101)); have n3_ := Aside0.mk ((by rw [hg]; exact (below_size z38z1) : w.heap.size ≤ gb101)); replace HB := n0_; have BK101 := n1_; have GW101 := n2_; have GE101 := n3_; clear n0_ n1_ n2_ n3_; clear hb hbox hg))
 (try simp only [Act.put, List.setIfInBounds_toArray, List.set_cons_zero, List.set_cons_succ])
 go_cut [3] (fun v3 wc => ∃ (kq : Nat) (x3_1 : Bool), v3 = .bool x3_1 ∧ Aside0 (pouchref05_Right.j0 kq x3_1 a0_0 a0_1 a0_2 a0_3 = some r) ∧ Aside0 (kq ≤ k) ∧ Aside0 (wc.heap[gb101]? = some (.cells #[.int .u8 a0_0, .int .u32 a0_1, .string a0_2, .string a0_3] 58 (0, 0))) ∧ Aside0 (Below w.heap.size w wc))
 case first =>
  have H := HC2.out
  clear HC2
  by_cases c4 : a0_2.toList = ([] : List UInt8)
  ·rw [if_pos c4] at H
   have c4b0 : (a0_2.toList == ([] : List UInt8)) = true := beq_iff_eq.mpr c4
   have c4b1 : (a0_2.toList != ([] : List UInt8)) = false := bne_eq_false_iff_eq.mpr c4
   clear c4
   (first | rw [c4b0] | (simp only [i64_w, i32_w]; rw [c4b0]) | skip)
   have H' := Aside0.mk H
   clear H
   have hcz5_0 := cc4_0 BK101.out
   have hcz5_1 := cc4_1 BK101.out
   have hcz5_2 := cc4_2 BK101.out
   have hcz5_3 := cc4_3 BK101.out
   have hfz5_0 := blk_frozen BK101.out 0
   have hfz5_1 := blk_frozen BK101.out 1
   have hfz5_2 := blk_frozen BK101.out 2
   have hfz5_3 := blk_frozen BK101.out 3
   go_wp2
   go_meet
   case rel => exact ⟨_, ((a0_3.toList == ([] : List UInt8))), (by first | rfl | (simp; done) | (simp [*]; done)), H', ⟨by first | omega | exact Nat.le_refl _⟩, ⟨by (with_reducible repeat (first | refine blk_drewN ?_ _ | refine blk_drew ?_ | refine blk_alloc ?_ _)); exact BK101.out⟩, ⟨by repeat (first | (with_reducible first | exact HB.out | apply below_alloc | apply pw_below_drewN | apply below_drew1 | refine below_set ?_ GE101.out) | exact HB.out)⟩⟩
  ·rw [if_neg c4] at H
   have c4b0 : (a0_2.toList == ([] : List UInt8)) = false := beq_eq_false_iff_ne.mpr c4
   have c4b1 : (a0_2.toList != ([] : List UInt8)) = true := bne_iff_ne.mpr c4
   (first | rw [c4b0] | (simp only [i64_w, i32_w]; rw [c4b0]) | skip)
   have H' := Aside0.mk H
   clear H
   have hcz6_0 := cc4_0 BK101.out
   have hcz6_1 := cc4_1 BK101.out
   have hcz6_2 := cc4_2 BK101.out
   have hcz6_3 := cc4_3 BK101.out
   have hfz6_0 := blk_frozen BK101.out 0
   have hfz6_1 := blk_frozen BK101.out 1
   have hfz6_2 := blk_frozen BK101.out 2
   have hfz6_3 := blk_frozen BK101.out 3
   go_wp2
   go_meet
   case rel => exact ⟨_, (false), (by first | rfl | (simp; done) | (simp [*]; done)), H', ⟨by first | omega | exact Nat.le_refl _⟩, ⟨by (with_reducible repeat (first | refine blk_drewN ?_ _ | refine blk_drew ?_ | refine blk_alloc ?_ _)); exact BK101.out⟩, ⟨by repeat (first | (with_reducible first | exact HB.out | apply below_alloc | apply pw_below_drewN | apply below_drew1 | refine below_set ?_ GE101.out) | exact HB.out)⟩⟩
 case rest =>
  clear HC2
  try clear p2
  try clear c3
  try clear c4
  try clear c4b0
  try clear c4b1
  try clear hcz5_0
  try clear hcz5_1
  try clear hcz5_2
  try clear hcz5_3
  try clear hcz6_0
  try clear hcz6_1
  try clear hcz6_2
  try clear hcz6_3
  try clear hfz5_0
  try clear hfz5_1
  try clear hfz5_2
  try clear hfz5_3
  try clear hfz6_0
  try clear hfz6_1
  try clear hfz6_2
  try clear hfz6_3
  obtain ⟨kq, x3_1, rfl, HA, HJ1, BK101, HB⟩ := hcut
  cases kq with
  | zero => exact absurd HA.out (by simp [pouchref05_Right.j0])
  | succ kj1 =>
   have H := HA.out
   clear HA
   simp only [pouchref05_Right.j0] at H
   replace H := Option.bind_eq_some_iff.mp H
   obtain ⟨t102, A70, H⟩ := H
   replace H : (if t102 = 1 then (if a0_1 < 256 then (some x3_1) else (some false)) else (if t102 = 2 then (if a0_1 < 65536 then (some x3_1) else (some false)) else (if t102 = 3 then (some x3_1) else (if t102 = 4 then (if a0_1 < 268435456 then (some x3_1) else (some false)) else (if t102 = 5 then (if a0_1 = 0 then ((pouchref02_Right.f kj1 a0_2).bind fun t103 => (if t103 = true then (some (a0_3.toList == ([] : List UInt8))) else (some false))) else (some false)) else (if t102 = 6 then (if a0_1 = 0 then (if (a0_2.size : Int) ≤ 65535 then (some (a0_3.toList == ([] : List UInt8))) else (some false)) else (some false)) else (if t102 = 7 then (if a0_1 = 0 then ((pouchref02_Right.f kj1 a0_2).bind fun t104 => (if t104 = true then ((pouchref02_Right.f kj1 a0_3).bind fun t105 => (some t105)) else (some false))) else (some false)) else (some false)))))))) = some r := H
   have A7 := Aside0.mk A70
   clear A70
   by_cases c8 : t102 = 1
   ·rw [if_pos c8] at H
    have c8b0 : (t102 == 1) = true := beq_iff_eq.mpr c8
    have c8b1 : (t102 != 1) = false := bne_eq_false_iff_eq.mpr c8
    clear c8
    by_cases c9 : a0_1 < 256
    ·rw [if_pos c9] at H
     have c9b0 : decide (a0_1 < 256) = true := decide_eq_true c9
     clear c9
     obtain rfl := Option.some.inj H
     have hcz10_0 := cc4_0 BK101.out
     have hcz10_1 := cc4_1 BK101.out
     have hcz10_2 := cc4_2 BK101.out
     have hcz10_3 := cc4_3 BK101.out
     have hfz10_0 := blk_frozen BK101.out 0
     have hfz10_1 := blk_frozen BK101.out 1
     have hfz10_2 := blk_frozen BK101.out 2
     have hfz10_3 := blk_frozen BK101.out 3
     go_wp2_with (first | ((with_reducible refine gate_callee (f := 67) rfl ?_); refine goesL_ (some 14) rfl rfl Tryd.func67 (by kernel_rfl) rfl #[.int .u8 a0_0] rfl z38z0 ?_; (with_reducible refine (pouchref05_Type.calls kj1 a0_0 t102 _ A7.out).mono ?_); rintro e w' ⟨rfl, ⟨nd, rfl⟩⟩; refine ⟨_, rfl, ?_⟩))
     go_ret
     exact ⟨by first | rfl | (simp [errW_none, errW_some] <;> rfl) | (simp [*, errW_none, errW_some] <;> rfl), by repeat (first | (with_reducible first | exact HB.out | apply below_alloc | apply pw_below_drewN | apply below_drew1 | refine below_set ?_ GE101.out) | exact HB.out)⟩
    ·rw [if_neg c9] at H
     have c9b0 : decide (a0_1 < 256) = false := decide_eq_false c9
     clear c9
     obtain rfl := Option.some.inj H
     have hcz11_0 := cc4_0 BK101.out
     have hcz11_1 := cc4_1 BK101.out
     have hcz11_2 := cc4_2 BK101.out
     have hcz11_3 := cc4_3 BK101.out
     have hfz11_0 := blk_frozen BK101.out 0
     have hfz11_1 := blk_frozen BK101.out 1
     have hfz11_2 := blk_frozen BK101.out 2
     have hfz11_3 := blk_frozen BK101.out 3
     go_wp2_with (first | ((with_reducible refine gate_callee (f := 67) rfl ?_); refine goesL_ (some 14) rfl rfl Tryd.func67 (by kernel_rfl) rfl #[.int .u8 a0_0] rfl z38z0 ?_; (with_reducible refine (pouchref05_Type.calls kj1 a0_0 t102 _ A7.out).mono ?_); rintro e w' ⟨rfl, ⟨nd, rfl⟩⟩; refine ⟨_, rfl, ?_⟩))
     go_ret
     exact ⟨by first | rfl | (simp [errW_none, errW_some] <;> rfl) | (simp [*, errW_none, errW_some] <;> rfl), by repeat (first | (with_reducible first | exact HB.out | apply below_alloc | apply pw_below_drewN | apply below_drew1 | refine below_set ?_ GE101.out) | exact HB.out)⟩
   ·rw [if_neg c8] at H
    have c8b0 : (t102 == 1) = false := beq_eq_false_iff_ne.mpr c8
    have c8b1 : (t102 != 1) = true := bne_iff_ne.mpr c8
    by_cases c12 : t102 = 2
    ·rw [if_pos c12] at H
     have c12b0 : (t102 == 2) = true := beq_iff_eq.mpr c12
     have c12b1 : (t102 != 2) = false := bne_eq_false_iff_eq.mpr c12
     clear c12
     by_cases c13 : a0_1 < 65536
     ·rw [if_pos c13] at H
      have c13b0 : decide (a0_1 < 65536) = true := decide_eq_true c13
      clear c13
      obtain rfl := Option.some.inj H
      have hcz14_0 : wc.cell? ⟨gb101, 0, none⟩ = some (.int .u8 a0_0) := (blk_cell BK101.out 0).trans rfl
      have hcz14_1 : wc.cell? ⟨gb101, 1, none⟩ = some (.int .u32 a0_1) := (blk_cell BK101.out 1).trans rfl
      have hcz14_2 : wc.cell? ⟨gb101, 2, none⟩ = some (.string a0_2) := (blk_cell BK101.out 2).trans rfl
      have hcz14_3 : wc.cell? ⟨gb101, 3, none⟩ = some (.string a0_3) := (blk_cell BK101.out 3).trans rfl
      have hfz14_0 := blk_frozen BK101.out 0
      have hfz14_1 := blk_frozen BK101.out 1
      have hfz14_2 := blk_frozen BK101.out 2
      have hfz14_3 := blk_frozen BK101.out 3
      go_wp2_with (first | ((with_reducible refine gate_callee (f := 67) rfl ?_); refine goesL_ (some 14) rfl rfl Tryd.func67 (by kernel_rfl) rfl #[.int .u8 a0_0] rfl z38z0 ?_; (with_reducible refine (pouchref05_Type.calls kj1 a0_0 t102 _ A7.out).mono ?_); rintro e w' ⟨rfl, ⟨nd, rfl⟩⟩; refine ⟨_, rfl, ?_⟩))
      go_ret
      exact ⟨by first | rfl | (simp [errW_none, errW_some] <;> rfl) | (simp [*, errW_none, errW_some] <;> rfl), by repeat (first | (with_reducible first | exact HB.out | apply below_alloc | apply pw_below_drewN | apply below_drew1 | refine below_set ?_ GE101.out) | exact HB.out)⟩
     ·rw [if_neg c13] at H
      have c13b0 : decide (a0_1 < 65536) = false := decide_eq_false c13
      clear c13
      obtain rfl := Option.some.inj H
      have hcz15_0 : wc.cell? ⟨gb101, 0, none⟩ = some (.int .u8 a0_0) := (blk_cell BK101.out 0).trans rfl
      have hcz15_1 : wc.cell? ⟨gb101, 1, none⟩ = some (.int .u32 a0_1) := (blk_cell BK101.out 1).trans rfl
      have hcz15_2 : wc.cell? ⟨gb101, 2, none⟩ = some (.string a0_2) := (blk_cell BK101.out 2).trans rfl
      have hcz15_3 : wc.cell? ⟨gb101, 3, none⟩ = some (.string a0_3) := (blk_cell BK101.out 3).trans rfl
      have hfz15_0 := blk_frozen BK101.out 0
      have hfz15_1 := blk_frozen BK101.out 1
      have hfz15_2 := blk_frozen BK101.out 2
      have hfz15_3 := blk_frozen BK101.out 3
      go_wp2_with (first | ((with_reducible refine gate_callee (f := 67) rfl ?_); refine goesL_ (some 14) rfl rfl Tryd.func67 (by kernel_rfl) rfl #[.int .u8 a0_0] rfl z38z0 ?_; (with_reducible refine (pouchref05_Type.calls kj1 a0_0 t102 _ A7.out).mono ?_); rintro e w' ⟨rfl, ⟨nd, rfl⟩⟩; refine ⟨_, rfl, ?_⟩))
      go_ret
      exact ⟨by first | rfl | (simp [errW_none, errW_some] <;> rfl) | (simp [*, errW_none, errW_some] <;> rfl), by repeat (first | (with_reducible first | exact HB.out | apply below_alloc | apply pw_below_drewN | apply below_drew1 | refine below_set ?_ GE101.out) | exact HB.out)⟩
    ·rw [if_neg c12] at H
     have c12b0 : (t102 == 2) = false := beq_eq_false_iff_ne.mpr c12
     have c12b1 : (t102 != 2) = true := bne_iff_ne.mpr c12
     by_cases c16 : t102 = 3
     ·rw [if_pos c16] at H
      have c16b0 : (t102 == 3) = true := beq_iff_eq.mpr c16
      have c16b1 : (t102 != 3) = false := bne_eq_false_iff_eq.mpr c16
      clear c16
      obtain rfl := Option.some.inj H
      have hcz17_0 : wc.cell? ⟨gb101, 0, none⟩ = some (.int .u8 a0_0) := (blk_cell BK101.out 0).trans rfl
      have hcz17_1 : wc.cell? ⟨gb101, 1, none⟩ = some (.int .u32 a0_1) := (blk_cell BK101.out 1).trans rfl
      have hcz17_2 : wc.cell? ⟨gb101, 2, none⟩ = some (.string a0_2) := (blk_cell BK101.out 2).trans rfl
      have hcz17_3 : wc.cell? ⟨gb101, 3, none⟩ = some (.string a0_3) := (blk_cell BK101.out 3).trans rfl
      have hfz17_0 := blk_frozen BK101.out 0
      have hfz17_1 := blk_frozen BK101.out 1
      have hfz17_2 := blk_frozen BK101.out 2
      have hfz17_3 := blk_frozen BK101.out 3
      go_wp2_with (first | ((with_reducible refine gate_callee (f := 67) rfl ?_); refine goesL_ (some 14) rfl rfl Tryd.func67 (by kernel_rfl) rfl #[.int .u8 a0_0] rfl z38z0 ?_; (with_reducible refine (pouchref05_Type.calls kj1 a0_0 t102 _ A7.out).mono ?_); rintro e w' ⟨rfl, ⟨nd, rfl⟩⟩; refine ⟨_, rfl, ?_⟩))
      go_ret
      exact ⟨by first | rfl | (simp [errW_none, errW_some] <;> rfl) | (simp [*, errW_none, errW_some] <;> rfl), by repeat (first | (with_reducible first | exact HB.out | apply below_alloc | apply pw_below_drewN | apply below_drew1 | refine below_set ?_ GE101.out) | exact HB.out)⟩
     ·rw [if_neg c16] at H
      have c16b0 : (t102 == 3) = false := beq_eq_false_iff_ne.mpr c16
      have c16b1 : (t102 != 3) = true := bne_iff_ne.mpr c16
      by_cases c18 : t102 = 4
      ·rw [if_pos c18] at H
       have c18b0 : (t102 == 4) = true := beq_iff_eq.mpr c18
       have c18b1 : (t102 != 4) = false := bne_eq_false_iff_eq.mpr c18
       clear c18
       by_cases c19 : a0_1 < 268435456
       ·rw [if_pos c19] at H
        have c19b0 : decide (a0_1 < 268435456) = true := decide_eq_true c19
        clear c19
        obtain rfl := Option.some.inj H
        have hcz20_0 : wc.cell? ⟨gb101, 0, none⟩ = some (.int .u8 a0_0) := (blk_cell BK101.out 0).trans rfl
        have hcz20_1 : wc.cell? ⟨gb101, 1, none⟩ = some (.int .u32 a0_1) := (blk_cell BK101.out 1).trans rfl
        have hcz20_2 : wc.cell? ⟨gb101, 2, none⟩ = some (.string a0_2) := (blk_cell BK101.out 2).trans rfl
        have hcz20_3 : wc.cell? ⟨gb101, 3, none⟩ = some (.string a0_3) := (blk_cell BK101.out 3).trans rfl
        have hfz20_0 := blk_frozen BK101.out 0
        have hfz20_1 := blk_frozen BK101.out 1
        have hfz20_2 := blk_frozen BK101.out 2
        have hfz20_3 := blk_frozen BK101.out 3
        go_wp2_with (first | ((with_reducible refine gate_callee (f := 67) rfl ?_); refine goesL_ (some 14) rfl rfl Tryd.func67 (by kernel_rfl) rfl #[.int .u8 a0_0] rfl z38z0 ?_; (with_reducible refine (pouchref05_Type.calls kj1 a0_0 t102 _ A7.out).mono ?_); rintro e w' ⟨rfl, ⟨nd, rfl⟩⟩; refine ⟨_, rfl, ?_⟩))
        go_ret
        exact ⟨by first | rfl | (simp [errW_none, errW_some] <;> rfl) | (simp [*, errW_none, errW_some] <;> rfl), by repeat (first | (with_reducible first | exact HB.out | apply below_alloc | apply pw_below_drewN | apply below_drew1 | refine below_set ?_ GE101.out) | exact HB.out)⟩
       ·rw [if_neg c19] at H
        have c19b0 : decide (a0_1 < 268435456) = false := decide_eq_false c19
        clear c19
        obtain rfl := Option.some.inj H
        have hcz21_0 : wc.cell? ⟨gb101, 0, none⟩ = some (.int .u8 a0_0) := (blk_cell BK101.out 0).trans rfl
        have hcz21_1 : wc.cell? ⟨gb101, 1, none⟩ = some (.int .u32 a0_1) := (blk_cell BK101.out 1).trans rfl
        have hcz21_2 : wc.cell? ⟨gb101, 2, none⟩ = some (.string a0_2) := (blk_cell BK101.out 2).trans rfl
        have hcz21_3 : wc.cell? ⟨gb101, 3, none⟩ = some (.string a0_3) := (blk_cell BK101.out 3).trans rfl
        have hfz21_0 := blk_frozen BK101.out 0
        have hfz21_1 := blk_frozen BK101.out 1
        have hfz21_2 := blk_frozen BK101.out 2
        have hfz21_3 := blk_frozen BK101.out 3
        go_wp2_with (first | ((with_reducible refine gate_callee (f := 67) rfl ?_); refine goesL_ (some 14) rfl rfl Tryd.func67 (by kernel_rfl) rfl #[.int .u8 a0_0] rfl z38z0 ?_; (with_reducible refine (pouchref05_Type.calls kj1 a0_0 t102 _ A7.out).mono ?_); rintro e w' ⟨rfl, ⟨nd, rfl⟩⟩; refine ⟨_, rfl, ?_⟩))
        go_ret
        exact ⟨by first | rfl | (simp [errW_none, errW_some] <;> rfl) | (simp [*, errW_none, errW_some] <;> rfl), by repeat (first | (with_reducible first | exact HB.out | apply below_alloc | apply pw_below_drewN | apply below_drew1 | refine below_set ?_ GE101.out) | exact HB.out)⟩
      ·rw [if_neg c18] at H
       have c18b0 : (t102 == 4) = false := beq_eq_false_iff_ne.mpr c18
       have c18b1 : (t102 != 4) = true := bne_iff_ne.mpr c18
       by_cases c22 : t102 = 5
       ·rw [if_pos c22] at H
        have c22b0 : (t102 == 5) = true := beq_iff_eq.mpr c22
        have c22b1 : (t102 != 5) = false := bne_eq_false_iff_eq.mpr c22
        clear c22
        by_cases c23 : a0_1 = 0
        ·rw [if_pos c23] at H
         have c23b0 : (a0_1 == 0) = true := beq_iff_eq.mpr c23
         have c23b1 : (a0_1 != 0) = false := bne_eq_false_iff_eq.mpr c23
         clear c23
         replace H := Option.bind_eq_some_iff.mp H
         obtain ⟨t103, A240, H⟩ := H
         replace H : (if t103 = true then (some (a0_3.toList == ([] : List UInt8))) else (some false)) = some r := H
         have A24 := Aside0.mk A240
         clear A240
         by_cases c25 : t103 = true
         ·subst c25
          have H1 : (some (a0_3.toList == ([] : List UInt8))) = some r := by rw [if_pos rfl] at H; exact H
          clear H
          have H := H1
          clear H1
          obtain rfl := Option.some.inj H
          have hcz26_0 : wc.cell? ⟨gb101, 0, none⟩ = some (.int .u8 a0_0) := (blk_cell BK101.out 0).trans rfl
          have hcz26_1 : wc.cell? ⟨gb101, 1, none⟩ = some (.int .u32 a0_1) := (blk_cell BK101.out 1).trans rfl
          have hcz26_2 : wc.cell? ⟨gb101, 2, none⟩ = some (.string a0_2) := (blk_cell BK101.out 2).trans rfl
          have hcz26_3 : wc.cell? ⟨gb101, 3, none⟩ = some (.string a0_3) := (blk_cell BK101.out 3).trans rfl
          have hfz26_0 := blk_frozen BK101.out 0
          have hfz26_1 := blk_frozen BK101.out 1
          have hfz26_2 := blk_frozen BK101.out 2
          have hfz26_3 := blk_frozen BK101.out 3
          go_wp2_with (first | ((with_reducible refine gate_callee (f := 67) rfl ?_); refine goesL_ (some 14) rfl rfl Tryd.func67 (by kernel_rfl) rfl #[.int .u8 a0_0] rfl z38z0 ?_; (with_reducible refine (pouchref05_Type.calls kj1 a0_0 t102 _ A7.out).mono ?_); rintro e w' ⟨rfl, ⟨nd, rfl⟩⟩; refine ⟨_, rfl, ?_⟩) | (go_at_call 68; (with_reducible refine (pouchref02_Right.calls kj1 a0_2 true _ A24.out).mono ?_); rintro e w' ⟨rfl, ⟨nd, rfl⟩⟩))
          go_ret
          exact ⟨by first | rfl | (simp [errW_none, errW_some] <;> rfl) | (simp [*, errW_none, errW_some] <;> rfl), by repeat (first | (with_reducible first | exact HB.out | apply below_alloc | apply pw_below_drewN | apply below_drew1 | refine below_set ?_ GE101.out) | exact HB.out)⟩
         ·replace c25 := Bool.eq_false_iff.mpr c25
          subst c25
          have H1 : (some false) = some r := by rw [if_neg (show ¬ (false = true) by decide)] at H; exact H
          clear H
          have H := H1
          clear H1
          obtain rfl := Option.some.inj H
          have hcz27_0 : wc.cell? ⟨gb101, 0, none⟩ = some (.int .u8 a0_0) := (blk_cell BK101.out 0).trans rfl
          have hcz27_1 : wc.cell? ⟨gb101, 1, none⟩ = some (.int .u32 a0_1) := (blk_cell BK101.out 1).trans rfl
          have hcz27_2 : wc.cell? ⟨gb101, 2, none⟩ = some (.string a0_2) := (blk_cell BK101.out 2).trans rfl
          have hcz27_3 : wc.cell? ⟨gb101, 3, none⟩ = some (.string a0_3) := (blk_cell BK101.out 3).trans rfl
          have hfz27_0 := blk_frozen BK101.out 0
          have hfz27_1 := blk_frozen BK101.out 1
          have hfz27_2 := blk_frozen BK101.out 2
          have hfz27_3 := blk_frozen BK101.out 3
          go_wp2_with (first | ((with_reducible refine gate_callee (f := 67) rfl ?_); refine goesL_ (some 14) rfl rfl Tryd.func67 (by kernel_rfl) rfl #[.int .u8 a0_0] rfl z38z0 ?_; (with_reducible refine (pouchref05_Type.calls kj1 a0_0 t102 _ A7.out).mono ?_); rintro e w' ⟨rfl, ⟨nd, rfl⟩⟩; refine ⟨_, rfl, ?_⟩) | (go_at_call 68; (with_reducible refine (pouchref02_Right.calls kj1 a0_2 false _ A24.out).mono ?_); rintro e w' ⟨rfl, ⟨nd, rfl⟩⟩))
          go_ret
          exact ⟨by first | rfl | (simp [errW_none, errW_some] <;> rfl) | (simp [*, errW_none, errW_some] <;> rfl), by repeat (first | (with_reducible first | exact HB.out | apply below_alloc | apply pw_below_drewN | apply below_drew1 | refine below_set ?_ GE101.out) | exact HB.out)⟩
        ·rw [if_neg c23] at H
         have c23b0 : (a0_1 == 0) = false := beq_eq_false_iff_ne.mpr c23
         have c23b1 : (a0_1 != 0) = true := bne_iff_ne.mpr c23
         obtain rfl := Option.some.inj H
         have hcz28_0 : wc.cell? ⟨gb101, 0, none⟩ = some (.int .u8 a0_0) := (blk_cell BK101.out 0).trans rfl
         have hcz28_1 : wc.cell? ⟨gb101, 1, none⟩ = some (.int .u32 a0_1) := (blk_cell BK101.out 1).trans rfl
         have hcz28_2 : wc.cell? ⟨gb101, 2, none⟩ = some (.string a0_2) := (blk_cell BK101.out 2).trans rfl
         have hcz28_3 : wc.cell? ⟨gb101, 3, none⟩ = some (.string a0_3) := (blk_cell BK101.out 3).trans rfl
         have hfz28_0 := blk_frozen BK101.out 0
         have hfz28_1 := blk_frozen BK101.out 1
         have hfz28_2 := blk_frozen BK101.out 2
         have hfz28_3 := blk_frozen BK101.out 3
         go_wp2_with (first | ((with_reducible refine gate_callee (f := 67) rfl ?_); refine goesL_ (some 14) rfl rfl Tryd.func67 (by kernel_rfl) rfl #[.int .u8 a0_0] rfl z38z0 ?_; (with_reducible refine (pouchref05_Type.calls kj1 a0_0 t102 _ A7.out).mono ?_); rintro e w' ⟨rfl, ⟨nd, rfl⟩⟩; refine ⟨_, rfl, ?_⟩))
         go_ret
         exact ⟨by first | rfl | (simp [errW_none, errW_some] <;> rfl) | (simp [*, errW_none, errW_some] <;> rfl), by repeat (first | (with_reducible first | exact HB.out | apply below_alloc | apply pw_below_drewN | apply below_drew1 | refine below_set ?_ GE101.out) | exact HB.out)⟩
       ·rw [if_neg c22] at H
        have c22b0 : (t102 == 5) = false := beq_eq_false_iff_ne.mpr c22
        have c22b1 : (t102 != 5) = true := bne_iff_ne.mpr c22
        by_cases c29 : t102 = 6
        ·rw [if_pos c29] at H
         have c29b0 : (t102 == 6) = true := beq_iff_eq.mpr c29
         have c29b1 : (t102 != 6) = false := bne_eq_false_iff_eq.mpr c29
         clear c29
         by_cases c30 : a0_1 = 0
         ·rw [if_pos c30] at H
          have c30b0 : (a0_1 == 0) = true := beq_iff_eq.mpr c30
          have c30b1 : (a0_1 != 0) = false := bne_eq_false_iff_eq.mpr c30
          clear c30
          by_cases c31 : (a0_2.size : Int) ≤ 65535
          ·rw [if_pos c31] at H
           have c31b0 : decide ((a0_2.size : Int) ≤ 65535) = true := decide_eq_true c31
           have c31b1 : decide (a0_2.size ≤ 65535) = true := decide_eq_true (by omega)
           clear c31
           obtain rfl := Option.some.inj H
           have hcz32_0 : wc.cell? ⟨gb101, 0, none⟩ = some (.int .u8 a0_0) := (blk_cell BK101.out 0).trans rfl
           have hcz32_1 : wc.cell? ⟨gb101, 1, none⟩ = some (.int .u32 a0_1) := (blk_cell BK101.out 1).trans rfl
           have hcz32_2 : wc.cell? ⟨gb101, 2, none⟩ = some (.string a0_2) := (blk_cell BK101.out 2).trans rfl
           have hcz32_3 : wc.cell? ⟨gb101, 3, none⟩ = some (.string a0_3) := (blk_cell BK101.out 3).trans rfl
           have hfz32_0 := blk_frozen BK101.out 0
           have hfz32_1 := blk_frozen BK101.out 1
           have hfz32_2 := blk_frozen BK101.out 2
           have hfz32_3 := blk_frozen BK101.out 3
           go_wp2_with (first | ((with_reducible refine gate_callee (f := 67) rfl ?_); refine goesL_ (some 14) rfl rfl Tryd.func67 (by kernel_rfl) rfl #[.int .u8 a0_0] rfl z38z0 ?_; (with_reducible refine (pouchref05_Type.calls kj1 a0_0 t102 _ A7.out).mono ?_); rintro e w' ⟨rfl, ⟨nd, rfl⟩⟩; refine ⟨_, rfl, ?_⟩))
           go_ret
           exact ⟨by first | rfl | (simp [errW_none, errW_some] <;> rfl) | (simp [*, errW_none, errW_some] <;> rfl), by repeat (first | (with_reducible first | exact HB.out | apply below_alloc | apply pw_below_drewN | apply below_drew1 | refine below_set ?_ GE101.out) | exact HB.out)⟩
          ·rw [if_neg c31] at H
           have c31b0 : decide ((a0_2.size : Int) ≤ 65535) = false := decide_eq_false c31
           have c31b1 : decide (a0_2.size ≤ 65535) = false := decide_eq_false (by omega)
           clear c31
           obtain rfl := Option.some.inj H
           have hcz33_0 : wc.cell? ⟨gb101, 0, none⟩ = some (.int .u8 a0_0) := (blk_cell BK101.out 0).trans rfl
           have hcz33_1 : wc.cell? ⟨gb101, 1, none⟩ = some (.int .u32 a0_1) := (blk_cell BK101.out 1).trans rfl
           have hcz33_2 : wc.cell? ⟨gb101, 2, none⟩ = some (.string a0_2) := (blk_cell BK101.out 2).trans rfl
           have hcz33_3 : wc.cell? ⟨gb101, 3, none⟩ = some (.string a0_3) := (blk_cell BK101.out 3).trans rfl
           have hfz33_0 := blk_frozen BK101.out 0
           have hfz33_1 := blk_frozen BK101.out 1
           have hfz33_2 := blk_frozen BK101.out 2
           have hfz33_3 := blk_frozen BK101.out 3
           go_wp2_with (first | ((with_reducible refine gate_callee (f := 67) rfl ?_); refine goesL_ (some 14) rfl rfl Tryd.func67 (by kernel_rfl) rfl #[.int .u8 a0_0] rfl z38z0 ?_; (with_reducible refine (pouchref05_Type.calls kj1 a0_0 t102 _ A7.out).mono ?_); rintro e w' ⟨rfl, ⟨nd, rfl⟩⟩; refine ⟨_, rfl, ?_⟩))
           go_ret
           exact ⟨by first | rfl | (simp [errW_none, errW_some] <;> rfl) | (simp [*, errW_none, errW_some] <;> rfl), by repeat (first | (with_reducible first | exact HB.out | apply below_alloc | apply pw_below_drewN | apply below_drew1 | refine below_set ?_ GE101.out) | exact HB.out)⟩
         ·rw [if_neg c30] at H
          have c30b0 : (a0_1 == 0) = false := beq_eq_false_iff_ne.mpr c30
          have c30b1 : (a0_1 != 0) = true := bne_iff_ne.mpr c30
          obtain rfl := Option.some.inj H
          have hcz34_0 : wc.cell? ⟨gb101, 0, none⟩ = some (.int .u8 a0_0) := (blk_cell BK101.out 0).trans rfl
          have hcz34_1 : wc.cell? ⟨gb101, 1, none⟩ = some (.int .u32 a0_1) := (blk_cell BK101.out 1).trans rfl
          have hcz34_2 : wc.cell? ⟨gb101, 2, none⟩ = some (.string a0_2) := (blk_cell BK101.out 2).trans rfl
          have hcz34_3 : wc.cell? ⟨gb101, 3, none⟩ = some (.string a0_3) := (blk_cell BK101.out 3).trans rfl
          have hfz34_0 := blk_frozen BK101.out 0
          have hfz34_1 := blk_frozen BK101.out 1
          have hfz34_2 := blk_frozen BK101.out 2
          have hfz34_3 := blk_frozen BK101.out 3
          go_wp2_with (first | ((with_reducible refine gate_callee (f := 67) rfl ?_); refine goesL_ (some 14) rfl rfl Tryd.func67 (by kernel_rfl) rfl #[.int .u8 a0_0] rfl z38z0 ?_; (with_reducible refine (pouchref05_Type.calls kj1 a0_0 t102 _ A7.out).mono ?_); rintro e w' ⟨rfl, ⟨nd, rfl⟩⟩; refine ⟨_, rfl, ?_⟩))
          go_ret
          exact ⟨by first | rfl | (simp [errW_none, errW_some] <;> rfl) | (simp [*, errW_none, errW_some] <;> rfl), by repeat (first | (with_reducible first | exact HB.out | apply below_alloc | apply pw_below_drewN | apply below_drew1 | refine below_set ?_ GE101.out) | exact HB.out)⟩
        ·rw [if_neg c29] at H
         have c29b0 : (t102 == 6) = false := beq_eq_false_iff_ne.mpr c29
         have c29b1 : (t102 != 6) = true := bne_iff_ne.mpr c29
         by_cases c35 : t102 = 7
         ·rw [if_pos c35] at H
          have c35b0 : (t102 == 7) = true := beq_iff_eq.mpr c35
          have c35b1 : (t102 != 7) = false := bne_eq_false_iff_eq.mpr c35
          clear c35
          by_cases c36 : a0_1 = 0
          ·rw [if_pos c36] at H
           have c36b0 : (a0_1 == 0) = true := beq_iff_eq.mpr c36
           have c36b1 : (a0_1 != 0) = false := bne_eq_false_iff_eq.mpr c36
           clear c36
           replace H := Option.bind_eq_some_iff.mp H
           obtain ⟨t104, A370, H⟩ := H
           replace H : (if t104 = true then ((pouchref02_Right.f kj1 a0_3).bind fun t105 => (some t105)) else (some false)) = some r := H
           have A37 := Aside0.mk A370
           clear A370
           by_cases c38 : t104 = true
           ·subst c38
            have H1 : ((pouchref02_Right.f kj1 a0_3).bind fun t105 => (some t105)) = some r := by rw [if_pos rfl] at H; exact H
            clear H
            have H := H1
            clear H1
            replace H := Option.bind_eq_some_iff.mp H
            obtain ⟨t105, A390, H⟩ := H
            replace H : (some t105) = some r := H
            have A39 := Aside0.mk A390
            clear A390
            obtain rfl := Option.some.inj H
            have hcz40_0 : wc.cell? ⟨gb101, 0, none⟩ = some (.int .u8 a0_0) := (blk_cell BK101.out 0).trans rfl
            have hcz40_1 : wc.cell? ⟨gb101, 1, none⟩ = some (.int .u32 a0_1) := (blk_cell BK101.out 1).trans rfl
            have hcz40_2 : wc.cell? ⟨gb101, 2, none⟩ = some (.string a0_2) := (blk_cell BK101.out 2).trans rfl
            have hcz40_3 : wc.cell? ⟨gb101, 3, none⟩ = some (.string a0_3) := (blk_cell BK101.out 3).trans rfl
            have hfz40_0 := blk_frozen BK101.out 0
            have hfz40_1 := blk_frozen BK101.out 1
            have hfz40_2 := blk_frozen BK101.out 2
            have hfz40_3 := blk_frozen BK101.out 3
            go_wp2_with (first | ((with_reducible refine gate_callee (f := 67) rfl ?_); refine goesL_ (some 14) rfl rfl Tryd.func67 (by kernel_rfl) rfl #[.int .u8 a0_0] rfl z38z0 ?_; (with_reducible refine (pouchref05_Type.calls kj1 a0_0 t102 _ A7.out).mono ?_); rintro e w' ⟨rfl, ⟨nd, rfl⟩⟩; refine ⟨_, rfl, ?_⟩) | (go_at_call 68; (with_reducible refine (pouchref02_Right.calls kj1 a0_2 true _ A37.out).mono ?_); rintro e w' ⟨rfl, ⟨nd, rfl⟩⟩) | (go_at_call 68; (with_reducible refine (pouchref02_Right.calls kj1 a0_3 t105 _ A39.out).mono ?_); rintro e w' ⟨rfl, ⟨nd, rfl⟩⟩))
            go_ret
            exact ⟨by first | rfl | (simp [errW_none, errW_some] <;> rfl) | (simp [*, errW_none, errW_some] <;> rfl), by repeat (first | (with_reducible first | exact HB.out | apply below_alloc | apply pw_below_drewN | apply below_drew1 | refine below_set ?_ GE101.out) | exact HB.out)⟩
           ·replace c38 := Bool.eq_false_iff.mpr c38
            subst c38
            have H1 : (some false) = some r := by rw [if_neg (show ¬ (false = true) by decide)] at H; exact H
            clear H
            have H := H1
            clear H1
            obtain rfl := Option.some.inj H
            have hcz41_0 : wc.cell? ⟨gb101, 0, none⟩ = some (.int .u8 a0_0) := (blk_cell BK101.out 0).trans rfl
            have hcz41_1 : wc.cell? ⟨gb101, 1, none⟩ = some (.int .u32 a0_1) := (blk_cell BK101.out 1).trans rfl
            have hcz41_2 : wc.cell? ⟨gb101, 2, none⟩ = some (.string a0_2) := (blk_cell BK101.out 2).trans rfl
            have hcz41_3 : wc.cell? ⟨gb101, 3, none⟩ = some (.string a0_3) := (blk_cell BK101.out 3).trans rfl
            have hfz41_0 := blk_frozen BK101.out 0
            have hfz41_1 := blk_frozen BK101.out 1
            have hfz41_2 := blk_frozen BK101.out 2
            have hfz41_3 := blk_frozen BK101.out 3
            go_wp2_with (first | ((with_reducible refine gate_callee (f := 67) rfl ?_); refine goesL_ (some 14) rfl rfl Tryd.func67 (by kernel_rfl) rfl #[.int .u8 a0_0] rfl z38z0 ?_; (with_reducible refine (pouchref05_Type.calls kj1 a0_0 t102 _ A7.out).mono ?_); rintro e w' ⟨rfl, ⟨nd, rfl⟩⟩; refine ⟨_, rfl, ?_⟩) | (go_at_call 68; (with_reducible refine (pouchref02_Right.calls kj1 a0_2 false _ A37.out).mono ?_); rintro e w' ⟨rfl, ⟨nd, rfl⟩⟩))
            go_ret
            exact ⟨by first | rfl | (simp [errW_none, errW_some] <;> rfl) | (simp [*, errW_none, errW_some] <;> rfl), by repeat (first | (with_reducible first | exact HB.out | apply below_alloc | apply pw_below_drewN | apply below_drew1 | refine below_set ?_ GE101.out) | exact HB.out)⟩
          ·rw [if_neg c36] at H
           have c36b0 : (a0_1 == 0) = false := beq_eq_false_iff_ne.mpr c36
           have c36b1 : (a0_1 != 0) = true := bne_iff_ne.mpr c36
           obtain rfl := Option.some.inj H
           have hcz42_0 : wc.cell? ⟨gb101, 0, none⟩ = some (.int .u8 a0_0) := (blk_cell BK101.out 0).trans rfl
           have hcz42_1 : wc.cell? ⟨gb101, 1, none⟩ = some (.int .u32 a0_1) := (blk_cell BK101.out 1).trans rfl
           have hcz42_2 : wc.cell? ⟨gb101, 2, none⟩ = some (.string a0_2) := (blk_cell BK101.out 2).trans rfl
           have hcz42_3 : wc.cell? ⟨gb101, 3, none⟩ = some (.string a0_3) := (blk_cell BK101.out 3).trans rfl
           have hfz42_0 := blk_frozen BK101.out 0
           have hfz42_1 := blk_frozen BK101.out 1
           have hfz42_2 := blk_frozen BK101.out 2
           have hfz42_3 := blk_frozen BK101.out 3
           go_wp2_with (first | ((with_reducible refine gate_callee (f := 67) rfl ?_); refine goesL_ (some 14) rfl rfl Tryd.func67 (by kernel_rfl) rfl #[.int .u8 a0_0] rfl z38z0 ?_; (with_reducible refine (pouchref05_Type.calls kj1 a0_0 t102 _ A7.out).mono ?_); rintro e w' ⟨rfl, ⟨nd, rfl⟩⟩; refine ⟨_, rfl, ?_⟩))
           go_ret
           exact ⟨by first | rfl | (simp [errW_none, errW_some] <;> rfl) | (simp [*, errW_none, errW_some] <;> rfl), by repeat (first | (with_reducible first | exact HB.out | apply below_alloc | apply pw_below_drewN | apply below_drew1 | refine below_set ?_ GE101.out) | exact HB.out)⟩
         ·rw [if_neg c35] at H
          have c35b0 : (t102 == 7) = false := beq_eq_false_iff_ne.mpr c35
          have c35b1 : (t102 != 7) = true := bne_iff_ne.mpr c35
          obtain rfl := Option.some.inj H
          have hcz43_0 : wc.cell? ⟨gb101, 0, none⟩ = some (.int .u8 a0_0) := (blk_cell BK101.out 0).trans rfl
          have hcz43_1 : wc.cell? ⟨gb101, 1, none⟩ = some (.int .u32 a0_1) := (blk_cell BK101.out 1).trans rfl
          have hcz43_2 : wc.cell? ⟨gb101, 2, none⟩ = some (.string a0_2) := (blk_cell BK101.out 2).trans rfl
          have hcz43_3 : wc.cell? ⟨gb101, 3, none⟩ = some (.string a0_3) := (blk_cell BK101.out 3).trans rfl
          have hfz43_0 := blk_frozen BK101.out 0
          have hfz43_1 := blk_frozen BK101.out 1
          have hfz43_2 := blk_frozen BK101.out 2
          have hfz43_3 := blk_frozen BK101.out 3
          go_wp2_with (first | ((with_reducible refine gate_callee (f := 67) rfl ?_); refine goesL_ (some 14) rfl rfl Tryd.func67 (by kernel_rfl) rfl #[.int .u8 a0_0] rfl z38z0 ?_; (with_reducible refine (pouchref05_Type.calls kj1 a0_0 t102 _ A7.out).mono ?_); rintro e w' ⟨rfl, ⟨nd, rfl⟩⟩; refine ⟨_, rfl, ?_⟩))
          go_ret
          exact ⟨by first | rfl | (simp [errW_none, errW_some] <;> rfl) | (simp [*, errW_none, errW_some] <;> rfl), by repeat (first | (with_reducible first | exact HB.out | apply below_alloc | apply pw_below_drewN | apply below_drew1 | refine below_set ?_ GE101.out) | exact HB.out)⟩
end Go.Proofs.YtkmkgpigmldhnaaDoor.P

namespace Go.Proofs.YtkmkgpigmldhnaaDoor.P
open Go.RowKit Go.Proofs.YtkmkgpigmldhnaaDoorW.PrintWords Go.Proofs.YtkmkgpigmldhnaaDoorW.PrintLast Go.Proofs.YtkmkgpigmldhnaaDoorW.PrintMore
attribute [local go_sem] max2_int min2_int max_two min_two max_three min_three max_four min_four
set_option linter.unusedVariables false
set_option linter.unusedSimpArgs false
mutual
def pouchref01_Reader_Var.l0 : Nat → Int → Int → Int → ByteArray → Int → Int → Option (Int × ByteArray × Int × Int)
  | 0, _, _, _, _, _, _ => none
  | k + 1, x3, x4, x5, x1000, x1001, x1002 => if x5 < 4 then (if (wrap64 (x1001 + x5)) ≥ (x1000.size : Int) then (some (0, x1000, x1001, 2)) else (if 0 ≤ (wrap64 (x1001 + x5)) then (if (wrap64 (x1001 + x5)) < (x1000.size : Int) then (if ((bt x1000 (wrap64 (x1001 + x5))) % 4294967296) ≥ 128 then (if x5 = 3 then (pouchref01_Reader_Var.j1 k ((x3 + (((((bt x1000 (wrap64 (x1001 + x5))) % 4294967296) % 128) * x4) % 4294967296)) % 4294967296) ((x4 * 128) % 4294967296) x5 ((bt x1000 (wrap64 (x1001 + x5))) % 4294967296) true x1000 x1001 x1002) else (if ((bt x1000 (wrap64 (x1001 + x5))) % 4294967296) = 0 then (pouchref01_Reader_Var.j1 k ((x3 + (((((bt x1000 (wrap64 (x1001 + x5))) % 4294967296) % 128) * x4) % 4294967296)) % 4294967296) ((x4 * 128) % 4294967296) x5 ((bt x1000 (wrap64 (x1001 + x5))) % 4294967296) (decide (x5 > 0)) x1000 x1001 x1002) else (pouchref01_Reader_Var.j1 k ((x3 + (((((bt x1000 (wrap64 (x1001 + x5))) % 4294967296) % 128) * x4) % 4294967296)) % 4294967296) ((x4 * 128) % 4294967296) x5 ((bt x1000 (wrap64 (x1001 + x5))) % 4294967296) false x1000 x1001 x1002))) else (if ((bt x1000 (wrap64 (x1001 + x5))) % 4294967296) = 0 then (pouchref01_Reader_Var.j1 k ((x3 + (((((bt x1000 (wrap64 (x1001 + x5))) % 4294967296) % 128) * x4) % 4294967296)) % 4294967296) ((x4 * 128) % 4294967296) x5 ((bt x1000 (wrap64 (x1001 + x5))) % 4294967296) (decide (x5 > 0)) x1000 x1001 x1002) else (pouchref01_Reader_Var.j1 k ((x3 + (((((bt x1000 (wrap64 (x1001 + x5))) % 4294967296) % 128) * x4) % 4294967296)) % 4294967296) ((x4 * 128) % 4294967296) x5 ((bt x1000 (wrap64 (x1001 + x5))) % 4294967296) false x1000 x1001 x1002))) else (none)) else (none))) else (some (0, x1000, x1001, x1002))
def pouchref01_Reader_Var.j1 : Nat → Int → Int → Int → Int → Bool → ByteArray → Int → Int → Option (Int × ByteArray × Int × Int)
  | 0, _, _, _, _, _, _, _, _ => none
  | k + 1, x3, x4, x5, x6, x64, x1000, x1001, x1002 => if x64 = true then (some (0, x1000, x1001, 3)) else (if x6 < 128 then (some (x3, x1000, wrap64 ((wrap64 (x1001 + x5)) + 1), x1002)) else (pouchref01_Reader_Var.l0 k x3 x4 (wrap64 (x5 + 1)) x1000 x1001 x1002))
end
def pouchref01_Reader_Var.f (k : Nat) (s0_0 : ByteArray) (s0_1 : Int) (s0_2 : Int) : Option (Int × ByteArray × Int × Int) := if s0_2 = 0 then (pouchref01_Reader_Var.l0 k 0 1 0 s0_0 s0_1 s0_2) else (some (0, s0_0, s0_1, s0_2))
theorem z46m0 {p : Prop} (h : p := by
 repeat' first
 | (with_reducible exact ih0 _ _ _ _ _ _)
 | (with_reducible exact ih1 _ _ _ _ _ _ _ _)
 | (with_reducible exact LeO.refl _)
 | (with_reducible exact LeO.none _)
 | (with_reducible refine LeO.ite ?_ ?_)
 | (with_reducible refine LeO.bind ?_ (fun _ => ?_))
 | exact ih0 _ _ _ _ _ _
 | exact ih1 _ _ _ _ _ _ _ _
 | exact LeO.none _
 | refine LeO.ite ?_ ?_
 | refine LeO.bind ?_ (fun _ => ?_)) : p := h
theorem pouchref01_Reader_Var.mono_l : ∀ k, (∀ y0 y1 y2 y3 y4 y5, LeO (pouchref01_Reader_Var.l0 k y0 y1 y2 y3 y4 y5) (pouchref01_Reader_Var.l0 (k + 1) y0 y1 y2 y3 y4 y5)) ∧ (∀ y0 y1 y2 y3 y4 y5 y6 y7, LeO (pouchref01_Reader_Var.j1 k y0 y1 y2 y3 y4 y5 y6 y7) (pouchref01_Reader_Var.j1 (k + 1) y0 y1 y2 y3 y4 y5 y6 y7))
  | 0 => ⟨fun _ _ _ _ _ _ r h => by simp [pouchref01_Reader_Var.l0] at h, fun _ _ _ _ _ _ _ _ r h => by simp [pouchref01_Reader_Var.j1] at h⟩
  | k + 1 => by
    obtain ⟨ih0, ih1⟩ := pouchref01_Reader_Var.mono_l k
    refine ⟨?_, ?_⟩
    · intro y0 y1 y2 y3 y4 y5
      unfold pouchref01_Reader_Var.l0
      exact z46m0
    · intro y0 y1 y2 y3 y4 y5 y6 y7
      unfold pouchref01_Reader_Var.j1
      exact z46m0
theorem pouchref01_Reader_Var.mono : ∀ a0 a1 a2 k, LeO (pouchref01_Reader_Var.f k a0 a1 a2) (pouchref01_Reader_Var.f (k + 1) a0 a1 a2) := by
  intro a0 a1 a2 k
  obtain ⟨ih0, ih1⟩ := pouchref01_Reader_Var.mono_l k
  unfold pouchref01_Reader_Var.f
  exact z46m0
theorem z46z0 {p : Prop} (h : p := by first | rfl | (simp; done) | (simp [*]; done)) : p := h
set_option maxHeartbeats 8000000 in
set_option maxRecDepth 100000 in
theorem pouchref01_Reader_Var.calls (k : Nat) (g : Nat) (s0_0 : ByteArray) (s0_1 : Int) (s0_2 : Int) (r1 : Int) (r2 : ByteArray) (r3 : Int) (r4 : Int) (w0 w : World) (hI : IsS45 w0 w g s0_0 s0_1 s0_2) (hB : Below w0.heap.size w0 w) (h : pouchref01_Reader_Var.f k s0_0 s0_1 s0_2 = some (r1, r2, r3, r4)) :
  Calls Tryd.prog 46 #[.pointer (some ⟨g, 0, none⟩)] w fun e w' => e = .returned (.int .u32 r1) ∧ IsS45 w0 w' g r2 r3 r4 ∧ Below w0.heap.size w0 w' ∧ KeepBut w w' g none := by
 have HI0 := Aside0.mk hI
 have HK := Aside0.mk (KeepBut.refl w g none)
 have HL := Aside0.mk hB.size
 clear hI
 have HW0 := Aside0.mk hB.size
 have HB := Aside0.mk hB
 clear hB
 have H : (if s0_2 = 0 then (pouchref01_Reader_Var.l0 k 0 1 0 s0_0 s0_1 s0_2) else (some (0, s0_0, s0_1, s0_2))) = some (r1, r2, r3, r4) := h
 clear h
 by_cases c2 : s0_2 = 0
 ·rw [if_pos c2] at H
  have c2b0 : (s0_2 == 0) = true := beq_iff_eq.mpr c2
  have c2b1 : (s0_2 != 0) = false := bne_eq_false_iff_eq.mpr c2
  clear c2
  have H' := Aside0.mk H
  clear H
  obtain ⟨HGz3, hgz3⟩ := HI0.out
  have hcz3_0 := cellS45_0 HGz3
  have hcz3_1 := cellS45_1 HGz3
  have hcz3_2 := cellS45_2 HGz3
  have hfz3_0 := blk_frozen HGz3 0
  have hfz3_1 := blk_frozen HGz3 1
  have hfz3_2 := blk_frozen HGz3 2
  clear HGz3 hgz3
  go_enter Tryd.func46, Tryd.ntmps46
  go_wp2
  repeat (go_quiet (fail); try go_wp2)
  go_loopg [3, 4, 5] k (fun kq v3 v4 v5 w' => ∃ (x3_1 : Int) (x4_1 : Int) (x5_1 : Int) (x1001_1 : Int) (x1002_1 : Int), v3 = .int .u32 x3_1 ∧ v4 = .int .u32 x4_1 ∧ v5 = .int .i64 x5_1 ∧ Aside0 (pouchref01_Reader_Var.l0 kq x3_1 x4_1 x5_1 s0_0 x1001_1 x1002_1 = some (r1, r2, r3, r4)) ∧ Aside0 (kq ≤ k) ∧ Aside0 (IsS45 w0 w' g s0_0 x1001_1 x1002_1) ∧ Aside0 (KeepBut w w' g none) ∧ Aside0 (Below w0.heap.size w0 w'))
  case atStart => exact ⟨(0), (1), (0), (s0_1), (s0_2), z46z0, z46z0, z46z0, H', ⟨Nat.le_refl _⟩, ⟨by repeat (first | (with_reducible first | exact HI0.out | apply IsS45.alloc | apply IsS45.drewN | apply IsS45.drew | apply IsS45.set_0 | apply IsS45.set_1 | apply IsS45.set_2) | exact HI0.out)⟩, ⟨by repeat (first | (with_reducible first | exact HK.out | apply KeepBut.set_ | apply keep_drewN | apply keep_drew | apply keep_alloc) | exact HK.out)⟩, ⟨by repeat (first | (with_reducible first | exact HB.out | apply below_alloc | apply pw_below_drewN | apply below_drew1 | refine below_set ?_ (IsS45.ge HI0.out)) | exact HB.out)⟩⟩
  case round =>
   clear H'
   try clear c2
   try clear c2b0
   try clear c2b1
   try clear p2
   try clear hcz3_0
   try clear hcz3_1
   try clear hcz3_2
   try clear hfz3_0
   try clear hfz3_1
   try clear hfz3_2
   obtain ⟨x3_1, x4_1, x5_1, x1001_1, x1002_1, rfl, rfl, rfl, HA, HK1, HI0, HK, HB⟩ := hrel
   cases gk with
   | zero => exact absurd HA.out (by simp [pouchref01_Reader_Var.l0])
   | succ k1 =>
    have H := HA.out
    clear HA
    simp only [pouchref01_Reader_Var.l0] at H
    by_cases c4 : x5_1 < 4
    ·rw [if_pos c4] at H
     have c4b0 : decide (x5_1 < 4) = true := decide_eq_true c4
     clear c4
     by_cases c5 : (wrap64 (x1001_1 + x5_1)) ≥ (s0_0.size : Int)
     ·rw [if_pos c5] at H
      have c5b0 : decide ((s0_0.size : Int) ≤ (wrap64 (x1001_1 + x5_1))) = true := decide_eq_true c5
      clear c5
      simp only [Option.some.injEq, Prod.mk.injEq] at H
      obtain ⟨rfl, rfl, rfl, rfl⟩ := H
      obtain ⟨HGz6, hgz6⟩ := HI0.out
      have hcz6_0 := cellS45_0 HGz6
      have hcz6_1 := cellS45_1 HGz6
      have hcz6_2 := cellS45_2 HGz6
      have hfz6_0 := blk_frozen HGz6 0
      have hfz6_1 := blk_frozen HGz6 1
      have hfz6_2 := blk_frozen HGz6 2
      clear HGz6 hgz6
      go_wp2
      repeat (go_quiet (fail); try go_wp2)
      go_ret
      exact ⟨by first | rfl | (simp [errW_none, errW_some] <;> rfl) | (simp [*, errW_none, errW_some] <;> rfl), by (try simp only [hji7]); repeat (first | (with_reducible first | exact HI0.out | apply IsS45.alloc | apply IsS45.drewN | apply IsS45.drew | apply IsS45.set_0 | apply IsS45.set_1 | apply IsS45.set_2) | exact HI0.out), by repeat (first | (with_reducible first | exact HB.out | apply below_alloc | apply pw_below_drewN | apply below_drew1 | refine below_set ?_ (IsS45.ge HI0.out)) | exact HB.out), by repeat (first | (with_reducible first | exact HK.out | apply KeepBut.set_ | apply keep_drewN | apply keep_drew | apply keep_alloc) | exact HK.out)⟩
     ·rw [if_neg c5] at H
      have c5b0 : decide ((s0_0.size : Int) ≤ (wrap64 (x1001_1 + x5_1))) = false := decide_eq_false c5
      clear c5
      obtain ⟨ji7, hji7⟩ : ∃ j_ : Int, (wrap64 (x1001_1 + x5_1)) = j_ := ⟨_, rfl⟩
      replace H : (if 0 ≤ (ji7) then (if (ji7) < (s0_0.size : Int) then (if ((bt s0_0 (ji7)) % 4294967296) ≥ 128 then (if x5_1 = 3 then (pouchref01_Reader_Var.j1 k1 ((x3_1 + (((((bt s0_0 (ji7)) % 4294967296) % 128) * x4_1) % 4294967296)) % 4294967296) ((x4_1 * 128) % 4294967296) x5_1 ((bt s0_0 (ji7)) % 4294967296) true s0_0 x1001_1 x1002_1) else (if ((bt s0_0 (ji7)) % 4294967296) = 0 then (pouchref01_Reader_Var.j1 k1 ((x3_1 + (((((bt s0_0 (ji7)) % 4294967296) % 128) * x4_1) % 4294967296)) % 4294967296) ((x4_1 * 128) % 4294967296) x5_1 ((bt s0_0 (ji7)) % 4294967296) (decide (x5_1 > 0)) s0_0 x1001_1 x1002_1) else (pouchref01_Reader_Var.j1 k1 ((x3_1 + (((((bt s0_0 (ji7)) % 4294967296) % 128) * x4_1) % 4294967296)) % 4294967296) ((x4_1 * 128) % 4294967296) x5_1 ((bt s0_0 (ji7)) % 4294967296) false s0_0 x1001_1 x1002_1))) else (if ((bt s0_0 (ji7)) % 4294967296) = 0 then (pouchref01_Reader_Var.j1 k1 ((x3_1 + (((((bt s0_0 (ji7)) % 4294967296) % 128) * x4_1) % 4294967296)) % 4294967296) ((x4_1 * 128) % 4294967296) x5_1 ((bt s0_0 (ji7)) % 4294967296) (decide (x5_1 > 0)) s0_0 x1001_1 x1002_1) else (pouchref01_Reader_Var.j1 k1 ((x3_1 + (((((bt s0_0 (ji7)) % 4294967296) % 128) * x4_1) % 4294967296)) % 4294967296) ((x4_1 * 128) % 4294967296) x5_1 ((bt s0_0 (ji7)) % 4294967296) false s0_0 x1001_1 x1002_1))) else (none)) else (none)) = some (r1, r2, r3, r4) := by first | (rw [hji7] at H; exact H) | (simp only [hji7] at H ⊢; exact H)
      (try rw [hji7] at c5b0)
      have hji7w : (IntKind.i64.wrap (x1001_1 + x5_1)) = ji7 := (i64_w _).trans hji7
      by_cases c8 : 0 ≤ (ji7)
      ·rw [if_pos c8] at H
       have c8b0 : decide (0 ≤ (ji7)) = true := decide_eq_true c8
       clear c8
       by_cases c9 : (ji7) < (s0_0.size : Int)
       ·rw [if_pos c9] at H
        have c9b0 : decide ((ji7) < (s0_0.size : Int)) = true := decide_eq_true c9
        clear c9
        have HC11 := Aside0.mk H
        clear H
        obtain ⟨HGz12, hgz12⟩ := HI0.out
        have hcz12_0 := cellS45_0 HGz12
        have hcz12_1 := cellS45_1 HGz12
        have hcz12_2 := cellS45_2 HGz12
        have hfz12_0 := blk_frozen HGz12 0
        have hfz12_1 := blk_frozen HGz12 1
        have hfz12_2 := blk_frozen HGz12 2
        clear HGz12 hgz12
        have p10 : 0 ≤ ((ji7) : Int) := of_decide_eq_true (by first | (with_reducible assumption) | assumption)
        have q10 : (ji7) < (s0_0.size : Int) := of_decide_eq_true (by first | (with_reducible assumption) | assumption)
        have hx10 := bt_at s0_0 (ji7)
        replace p10 := eq_true p10
        replace q10 := eq_true q10
        go_upto_region 13 with (fail)
        repeat (go_quiet (fail); go_upto_region 13 with (fail))
        go_cut [64] (fun v64 wc => ∃ (kq : Nat) (x64_10 : Bool), v64 = .bool x64_10 ∧ Aside0 (pouchref01_Reader_Var.j1 kq ((x3_1 + (((((bt s0_0 (ji7)) % 4294967296) % 128) * x4_1) % 4294967296)) % 4294967296) ((x4_1 * 128) % 4294967296) x5_1 ((bt s0_0 (ji7)) % 4294967296) x64_10 s0_0 x1001_1 x1002_1 = some (r1, r2, r3, r4)) ∧ Aside0 (kq ≤ k1) ∧ Aside0 (IsS45 w0 wc g s0_0 x1001_1 x1002_1) ∧ Aside0 (KeepBut w wc g none) ∧ Aside0 (Below w0.heap.size w0 wc))
        case first =>
         have H := HC11.out
         clear HC11
         by_cases c13 : ((bt s0_0 (ji7)) % 4294967296) ≥ 128
         ·rw [if_pos c13] at H
          have c13b0 : decide (128 ≤ ((bt s0_0 (ji7)) % 4294967296)) = true := decide_eq_true c13
          clear c13
          (first | rw [c13b0] | (simp only [i64_w, i32_w]; rw [c13b0]) | skip)
          by_cases c14 : x5_1 = 3
          ·rw [if_pos c14] at H
           have c14b0 : (x5_1 == 3) = true := beq_iff_eq.mpr c14
           have c14b1 : (x5_1 != 3) = false := bne_eq_false_iff_eq.mpr c14
           clear c14
           have H' := Aside0.mk H
           clear H
           go_wp2
           repeat (go_quiet (fail); try go_wp2)
           go_meet
           case rel => exact ⟨_, (true), z46z0, H', ⟨by have := HK1.out; first | omega | exact Nat.le_refl _⟩, ⟨by repeat (first | (with_reducible first | exact HI0.out | apply IsS45.alloc | apply IsS45.drewN | apply IsS45.drew | apply IsS45.set_0 | apply IsS45.set_1 | apply IsS45.set_2) | exact HI0.out)⟩, ⟨by repeat (first | (with_reducible first | exact HK.out | apply KeepBut.set_ | apply keep_drewN | apply keep_drew | apply keep_alloc) | exact HK.out)⟩, ⟨by repeat (first | (with_reducible first | exact HB.out | apply below_alloc | apply pw_below_drewN | apply below_drew1 | refine below_set ?_ (IsS45.ge HI0.out)) | exact HB.out)⟩⟩
          ·rw [if_neg c14] at H
           have c14b0 : (x5_1 == 3) = false := beq_eq_false_iff_ne.mpr c14
           have c14b1 : (x5_1 != 3) = true := bne_iff_ne.mpr c14
           by_cases c15 : ((bt s0_0 (ji7)) % 4294967296) = 0
           ·rw [if_pos c15] at H
            have c15b0 : (((bt s0_0 (ji7)) % 4294967296) == 0) = true := beq_iff_eq.mpr c15
            have c15b1 : (((bt s0_0 (ji7)) % 4294967296) != 0) = false := bne_eq_false_iff_eq.mpr c15
            clear c15
            have H' := Aside0.mk H
            clear H
            go_wp2
            repeat (go_quiet (fail); try go_wp2)
            go_meet
            case rel => exact ⟨_, (decide (x5_1 > 0)), z46z0, H', ⟨by have := HK1.out; first | omega | exact Nat.le_refl _⟩, ⟨by repeat (first | (with_reducible first | exact HI0.out | apply IsS45.alloc | apply IsS45.drewN | apply IsS45.drew | apply IsS45.set_0 | apply IsS45.set_1 | apply IsS45.set_2) | exact HI0.out)⟩, ⟨by repeat (first | (with_reducible first | exact HK.out | apply KeepBut.set_ | apply keep_drewN | apply keep_drew | apply keep_alloc) | exact HK.out)⟩, ⟨by repeat (first | (with_reducible first | exact HB.out | apply below_alloc | apply pw_below_drewN | apply below_drew1 | refine below_set ?_ (IsS45.ge HI0.out)) | exact HB.out)⟩⟩
           ·rw [if_neg c15] at H
            have c15b0 : (((bt s0_0 (ji7)) % 4294967296) == 0) = false := beq_eq_false_iff_ne.mpr c15
            have c15b1 : (((bt s0_0 (ji7)) % 4294967296) != 0) = true := bne_iff_ne.mpr c15
            have H' := Aside0.mk H
            clear H
            go_wp2
            repeat (go_quiet (fail); try go_wp2)
            go_meet
            case rel => exact ⟨_, (false), z46z0, H', ⟨by have := HK1.out; first | omega | exact Nat.le_refl _⟩, ⟨by repeat (first | (with_reducible first | exact HI0.out | apply IsS45.alloc | apply IsS45.drewN | apply IsS45.drew | apply IsS45.set_0 | apply IsS45.set_1 | apply IsS45.set_2) | exact HI0.out)⟩, ⟨by repeat (first | (with_reducible first | exact HK.out | apply KeepBut.set_ | apply keep_drewN | apply keep_drew | apply keep_alloc) | exact HK.out)⟩, ⟨by repeat (first | (with_reducible first | exact HB.out | apply below_alloc | apply pw_below_drewN | apply below_drew1 | refine below_set ?_ (IsS45.ge HI0.out)) | exact HB.out)⟩⟩
         ·rw [if_neg c13] at H
          have c13b0 : decide (128 ≤ ((bt s0_0 (ji7)) % 4294967296)) = false := decide_eq_false c13
          clear c13
          (first | rw [c13b0] | (simp only [i64_w, i32_w]; rw [c13b0]) | skip)
          by_cases c16 : ((bt s0_0 (ji7)) % 4294967296) = 0
          ·rw [if_pos c16] at H
           have c16b0 : (((bt s0_0 (ji7)) % 4294967296) == 0) = true := beq_iff_eq.mpr c16
           have c16b1 : (((bt s0_0 (ji7)) % 4294967296) != 0) = false := bne_eq_false_iff_eq.mpr c16
           clear c16
           have H' := Aside0.mk H
           clear H
           go_wp2
           repeat (go_quiet (fail); try go_wp2)
           go_meet
           case rel => exact ⟨_, (decide (x5_1 > 0)), z46z0, H', ⟨by have := HK1.out; first | omega | exact Nat.le_refl _⟩, ⟨by repeat (first | (with_reducible first | exact HI0.out | apply IsS45.alloc | apply IsS45.drewN | apply IsS45.drew | apply IsS45.set_0 | apply IsS45.set_1 | apply IsS45.set_2) | exact HI0.out)⟩, ⟨by repeat (first | (with_reducible first | exact HK.out | apply KeepBut.set_ | apply keep_drewN | apply keep_drew | apply keep_alloc) | exact HK.out)⟩, ⟨by repeat (first | (with_reducible first | exact HB.out | apply below_alloc | apply pw_below_drewN | apply below_drew1 | refine below_set ?_ (IsS45.ge HI0.out)) | exact HB.out)⟩⟩
          ·rw [if_neg c16] at H
           have c16b0 : (((bt s0_0 (ji7)) % 4294967296) == 0) = false := beq_eq_false_iff_ne.mpr c16
           have c16b1 : (((bt s0_0 (ji7)) % 4294967296) != 0) = true := bne_iff_ne.mpr c16
           have H' := Aside0.mk H
           clear H
           go_wp2
           repeat (go_quiet (fail); try go_wp2)
           go_meet
           case rel => exact ⟨_, (false), z46z0, H', ⟨by have := HK1.out; first | omega | exact Nat.le_refl _⟩, ⟨by repeat (first | (with_reducible first | exact HI0.out | apply IsS45.alloc | apply IsS45.drewN | apply IsS45.drew | apply IsS45.set_0 | apply IsS45.set_1 | apply IsS45.set_2) | exact HI0.out)⟩, ⟨by repeat (first | (with_reducible first | exact HK.out | apply KeepBut.set_ | apply keep_drewN | apply keep_drew | apply keep_alloc) | exact HK.out)⟩, ⟨by repeat (first | (with_reducible first | exact HB.out | apply below_alloc | apply pw_below_drewN | apply below_drew1 | refine below_set ?_ (IsS45.ge HI0.out)) | exact HB.out)⟩⟩
        case rest =>
         clear HC11
         try clear c1
         try clear p1
         try clear q1
         try clear hx1
         try clear c2
         try clear c2b0
         try clear c2b1
         try clear p2
         try clear c4
         try clear c4b0
         try clear c5
         try clear c5b0
         try clear p6
         try clear c8
         try clear c8b0
         try clear c9
         try clear c9b0
         try clear p10
         try clear q10
         try clear hx10
         try clear c13
         try clear c13b0
         try clear c14
         try clear c14b0
         try clear c14b1
         try clear c15
         try clear c15b0
         try clear c15b1
         try clear c16
         try clear c16b0
         try clear c16b1
         try clear hcz12_0
         try clear hcz12_1
         try clear hcz12_2
         try clear hcz3_0
         try clear hcz3_1
         try clear hcz3_2
         try clear hcz6_0
         try clear hcz6_1
         try clear hcz6_2
         try clear hfz12_0
         try clear hfz12_1
         try clear hfz12_2
         try clear hfz3_0
         try clear hfz3_1
         try clear hfz3_2
         try clear hfz6_0
         try clear hfz6_1
         try clear hfz6_2
         try clear p10
         try clear p2
         try clear q10
         obtain ⟨kq, x64_10, rfl, HA, HJ10, HI0, HK, HB⟩ := hcut
         cases kq with
         | zero => exact absurd HA.out (by simp [pouchref01_Reader_Var.j1])
         | succ kj10 =>
          have H := HA.out
          clear HA
          simp only [pouchref01_Reader_Var.j1] at H
          by_cases c17 : x64_10 = true
          ·subst c17
           have H1 : (some (0, s0_0, x1001_1, 3)) = some (r1, r2, r3, r4) := by rw [if_pos rfl] at H; exact H
           clear H
           have H := H1
           clear H1
           simp only [Option.some.injEq, Prod.mk.injEq] at H
           obtain ⟨rfl, rfl, rfl, rfl⟩ := H
           obtain ⟨HGz18, hgz18⟩ := HI0.out
           have hcz18_0 := cellS45_0 HGz18
           have hcz18_1 := cellS45_1 HGz18
           have hcz18_2 := cellS45_2 HGz18
           have hfz18_0 := blk_frozen HGz18 0
           have hfz18_1 := blk_frozen HGz18 1
           have hfz18_2 := blk_frozen HGz18 2
           clear HGz18 hgz18
           go_wp2
           repeat (go_quiet (fail); try go_wp2)
           go_ret
           exact ⟨by first | rfl | (simp [errW_none, errW_some] <;> rfl) | (simp only [← hji7]; first | rfl | (simp [errW_none, errW_some] <;> rfl)) | (simp [*, errW_none, errW_some] <;> rfl), by (try simp only [hji7]); repeat (first | (with_reducible first | exact HI0.out | apply IsS45.alloc | apply IsS45.drewN | apply IsS45.drew | apply IsS45.set_0 | apply IsS45.set_1 | apply IsS45.set_2) | exact HI0.out), by repeat (first | (with_reducible first | exact HB.out | apply below_alloc | apply pw_below_drewN | apply below_drew1 | refine below_set ?_ (IsS45.ge HI0.out)) | exact HB.out), by repeat (first | (with_reducible first | exact HK.out | apply KeepBut.set_ | apply keep_drewN | apply keep_drew | apply keep_alloc) | exact HK.out)⟩
          ·replace c17 := Bool.eq_false_iff.mpr c17
           subst c17
           have H1 : (if ((bt s0_0 (ji7)) % 4294967296) < 128 then (some (((x3_1 + (((((bt s0_0 (ji7)) % 4294967296) % 128) * x4_1) % 4294967296)) % 4294967296), s0_0, wrap64 ((wrap64 (x1001_1 + x5_1)) + 1), x1002_1)) else (pouchref01_Reader_Var.l0 kj10 ((x3_1 + (((((bt s0_0 (ji7)) % 4294967296) % 128) * x4_1) % 4294967296)) % 4294967296) ((x4_1 * 128) % 4294967296) (wrap64 (x5_1 + 1)) s0_0 x1001_1 x1002_1)) = some (r1, r2, r3, r4) := by rw [if_neg (show ¬ (false = true) by decide)] at H; exact H
           clear H
           have H := H1
           clear H1
           by_cases c19 : ((bt s0_0 (ji7)) % 4294967296) < 128
           ·rw [if_pos c19] at H
            have c19b0 : decide (((bt s0_0 (ji7)) % 4294967296) < 128) = true := decide_eq_true c19
            clear c19
            simp only [Option.some.injEq, Prod.mk.injEq] at H
            obtain ⟨rfl, rfl, rfl, rfl⟩ := H
            obtain ⟨HGz20, hgz20⟩ := HI0.out
            have hcz20_0 := cellS45_0 HGz20
            have hcz20_1 := cellS45_1 HGz20
            have hcz20_2 := cellS45_2 HGz20
            have hfz20_0 := blk_frozen HGz20 0
            have hfz20_1 := blk_frozen HGz20 1
            have hfz20_2 := blk_frozen HGz20 2
            clear HGz20 hgz20
            go_wp2
            repeat (go_quiet (fail); try go_wp2)
            go_ret
            exact ⟨by first | rfl | (simp [errW_none, errW_some] <;> rfl) | (simp only [← hji7]; first | rfl | (simp [errW_none, errW_some] <;> rfl)) | (simp [*, errW_none, errW_some] <;> rfl), by (try simp only [hji7]); repeat (first | (with_reducible first | exact HI0.out | apply IsS45.alloc | apply IsS45.drewN | apply IsS45.drew | apply IsS45.set_0 | apply IsS45.set_1 | apply IsS45.set_2) | exact HI0.out), by repeat (first | (with_reducible first | exact HB.out | apply below_alloc | apply pw_below_drewN | apply below_drew1 | refine below_set ?_ (IsS45.ge HI0.out)) | exact HB.out), by repeat (first | (with_reducible first | exact HK.out | apply KeepBut.set_ | apply keep_drewN | apply keep_drew | apply keep_alloc) | exact HK.out)⟩
           ·rw [if_neg c19] at H
            have c19b0 : decide (((bt s0_0 (ji7)) % 4294967296) < 128) = false := decide_eq_false c19
            clear c19
            have H' := Aside0.mk H
            clear H
            go_wp2
            repeat (go_quiet (fail); try go_wp2)
            go_roundg kj10
            case measure => have := HK1.out; have := HJ10.out; omega
            case rel => exact ⟨(((x3_1 + (((((bt s0_0 (ji7)) % 4294967296) % 128) * x4_1) % 4294967296)) % 4294967296)), (((x4_1 * 128) % 4294967296)), (wrap64 (x5_1 + 1)), (x1001_1), (x1002_1), (by first | rfl | (simp; done) | (simp only [← hji7] <;> (first | rfl | simp)) | (simp [*]; done)), z46z0, z46z0, H', ⟨by have := HK1.out; have := HJ10.out; omega⟩, ⟨by repeat (first | (with_reducible first | exact HI0.out | apply IsS45.alloc | apply IsS45.drewN | apply IsS45.drew | apply IsS45.set_0 | apply IsS45.set_1 | apply IsS45.set_2) | exact HI0.out)⟩, ⟨by repeat (first | (with_reducible first | exact HK.out | apply KeepBut.set_ | apply keep_drewN | apply keep_drew | apply keep_alloc) | exact HK.out)⟩, ⟨by repeat (first | (with_reducible first | exact HB.out | apply below_alloc | apply pw_below_drewN | apply below_drew1 | refine below_set ?_ (IsS45.ge HI0.out)) | exact HB.out)⟩⟩
       ·rw [if_neg c9] at H
        exact absurd H (by simp)
      ·rw [if_neg c8] at H
       exact absurd H (by simp)
    ·rw [if_neg c4] at H
     have c4b0 : decide (x5_1 < 4) = false := decide_eq_false c4
     clear c4
     simp only [Option.some.injEq, Prod.mk.injEq] at H
     obtain ⟨rfl, rfl, rfl, rfl⟩ := H
     go_wp2
     repeat (go_quiet (fail); try go_wp2)
     go_ret
     exact ⟨by first | rfl | (simp [errW_none, errW_some] <;> rfl) | (simp [*, errW_none, errW_some] <;> rfl), by (try simp only [hji7]); repeat (first | (with_reducible first | exact HI0.out | apply IsS45.alloc | apply IsS45.drewN | apply IsS45.drew | apply IsS45.set_0 | apply IsS45.set_1 | apply IsS45.set_2) | exact HI0.out), by repeat (first | (with_reducible first | exact HB.out | apply below_alloc | apply pw_below_drewN | apply below_drew1 | refine below_set ?_ (IsS45.ge HI0.out)) | exact HB.out), by repeat (first | (with_reducible first | exact HK.out | apply KeepBut.set_ | apply keep_drewN | apply keep_drew | apply keep_alloc) | exact HK.out)⟩
 ·rw [if_neg c2] at H
  have c2b0 : (s0_2 == 0) = false := beq_eq_false_iff_ne.mpr c2
  have c2b1 : (s0_2 != 0) = true := bne_iff_ne.mpr c2
  simp only [Option.some.injEq, Prod.mk.injEq] at H
  obtain ⟨rfl, rfl, rfl, rfl⟩ := H
  obtain ⟨HGz21, hgz21⟩ := HI0.out
  have hcz21_0 := cellS45_0 HGz21
  have hcz21_1 := cellS45_1 HGz21
  have hcz21_2 := cellS45_2 HGz21
  have hfz21_0 := blk_frozen HGz21 0
  have hfz21_1 := blk_frozen HGz21 1
  have hfz21_2 := blk_frozen HGz21 2
  clear HGz21 hgz21
  go_enter Tryd.func46, Tryd.ntmps46
  go_wp2
  repeat (go_quiet (fail); try go_wp2)
  go_ret
  exact ⟨by first | rfl | (simp [errW_none, errW_some] <;> rfl) | (simp [*, errW_none, errW_some] <;> rfl), by (try simp only [hji7]); repeat (first | (with_reducible first | exact HI0.out | apply IsS45.alloc | apply IsS45.drewN | apply IsS45.drew | apply IsS45.set_0 | apply IsS45.set_1 | apply IsS45.set_2) | exact HI0.out), by repeat (first | (with_reducible first | exact HB.out | apply below_alloc | apply pw_below_drewN | apply below_drew1 | refine below_set ?_ (IsS45.ge HI0.out)) | exact HB.out), by repeat (first | (with_reducible first | exact HK.out | apply KeepBut.set_ | apply keep_drewN | apply keep_drew | apply keep_alloc) | exact HK.out)⟩
end Go.Proofs.YtkmkgpigmldhnaaDoor.P

namespace Go.Proofs.YtkmkgpigmldhnaaDoor.P
open Go.RowKit Go.Proofs.YtkmkgpigmldhnaaDoorW.PrintWords Go.Proofs.YtkmkgpigmldhnaaDoorW.PrintLast Go.Proofs.YtkmkgpigmldhnaaDoorW.PrintMore
attribute [local go_sem] max2_int min2_int max_two min_two max_three min_three max_four min_four
set_option linter.unusedVariables false
set_option linter.unusedSimpArgs false
def pouchref01_Reader_Num.l0 : Nat → ByteArray → Int → Int → ByteArray → Int → Int → Option (Int × ByteArray × Int × Int)
  | 0, _, _, _, _, _, _ => none
  | k + 1, x5, x7, x8, x1000, x1001, x1002 => if x8 < (x5.size : Int) then (if 0 ≤ x8 then (pouchref01_Reader_Num.l0 k x5 (IntKind.u64.wrap ((IntKind.u64.wrap (256 * x7)) + (IntKind.u64.wrap (bt x5 x8)))) (wrap64 (x8 + 1)) x1000 x1001 x1002) else (none)) else (some (x7, x1000, x1001, x1002))
def pouchref01_Reader_Num.f (k : Nat) (s0_0 : ByteArray) (s0_1 : Int) (s0_2 : Int) (a1 : Int) : Option (Int × ByteArray × Int × Int) := (pouchref01_Reader_take.f s0_0 s0_1 s0_2 a1).bind fun bt101 => (if bt101.2.1 = true then (pouchref01_Reader_Num.l0 k bt101.1 0 0 bt101.2.2.1 bt101.2.2.2.1 bt101.2.2.2.2) else (some (0, bt101.2.2.1, bt101.2.2.2.1, bt101.2.2.2.2)))
theorem z76m0 {p : Prop} (h : p := by
 repeat' first
 | (with_reducible exact ih0 _ _ _ _ _ _)
 | (with_reducible exact LeO.refl _)
 | (with_reducible exact LeO.none _)
 | (with_reducible refine LeO.ite ?_ ?_)
 | (with_reducible refine LeO.bind ?_ (fun _ => ?_))
 | exact ih0 _ _ _ _ _ _
 | exact LeO.none _
 | refine LeO.ite ?_ ?_
 | refine LeO.bind ?_ (fun _ => ?_)) : p := h
theorem pouchref01_Reader_Num.mono_l : ∀ k, (∀ y0 y1 y2 y3 y4 y5, LeO (pouchref01_Reader_Num.l0 k y0 y1 y2 y3 y4 y5) (pouchref01_Reader_Num.l0 (k + 1) y0 y1 y2 y3 y4 y5))
  | 0 => fun _ _ _ _ _ _ r h => by simp [pouchref01_Reader_Num.l0] at h
  | k + 1 => by
    have ih0 := pouchref01_Reader_Num.mono_l k
    · intro y0 y1 y2 y3 y4 y5
      unfold pouchref01_Reader_Num.l0
      exact z76m0
theorem pouchref01_Reader_Num.mono : ∀ a0 a1 a2 a3 k, LeO (pouchref01_Reader_Num.f k a0 a1 a2 a3) (pouchref01_Reader_Num.f (k + 1) a0 a1 a2 a3) := by
  intro a0 a1 a2 a3 k
  have ih0 := pouchref01_Reader_Num.mono_l k
  unfold pouchref01_Reader_Num.f
  exact z76m0
theorem z76z0 {p : Prop} (h : p := by repeat (first | (with_reducible first | exact HI0.out | apply IsS45.alloc | apply IsS45.drewN | apply IsS45.drew | apply IsS45.set_0 | apply IsS45.set_1 | apply IsS45.set_2) | exact HI0.out)) : p := h
theorem z76z1 {p : Prop} (h : p := by repeat (first | (with_reducible first | exact HB.out | apply below_alloc | apply pw_below_drewN | apply below_drew1 | refine below_set ?_ (IsS45.ge HI0.out)) | exact HB.out)) : p := h
theorem z76z2 {p : Prop} (h : p := by repeat (first | (with_reducible first | exact HK.out | apply KeepBut.set_ | apply keep_drewN | apply keep_drew | apply keep_alloc) | exact HK.out)) : p := h
theorem z76z3 {p : Prop} (h : p := by (try simp only [List.map_toArray, List.map_cons, List.map_nil]); first | done | rfl | (simp only [List.length_drop, List.length_take]; rfl)) : p := h
theorem z76z4 {p : Prop} (h : p := by first | rfl | (simp; done) | (simp [*]; done)) : p := h
set_option maxHeartbeats 8000000 in
set_option maxRecDepth 100000 in
theorem pouchref01_Reader_Num.calls (k : Nat) (g : Nat) (s0_0 : ByteArray) (s0_1 : Int) (s0_2 : Int) (a1 : Int) (r1 : Int) (r2 : ByteArray) (r3 : Int) (r4 : Int) (w0 w : World) (hI : IsS45 w0 w g s0_0 s0_1 s0_2) (hB : Below w0.heap.size w0 w) (h : pouchref01_Reader_Num.f k s0_0 s0_1 s0_2 a1 = some (r1, r2, r3, r4)) :
  Calls Tryd.prog 76 #[.pointer (some ⟨g, 0, none⟩), .int .i64 a1] w fun e w' => e = .returned (.int .u64 r1) ∧ IsS45 w0 w' g r2 r3 r4 ∧ Below w0.heap.size w0 w' ∧ KeepBut w w' g none := by
 have HI0 := Aside0.mk hI
 have HK := Aside0.mk (KeepBut.refl w g none)
 have HL := Aside0.mk hB.size
 clear hI
 have HW0 := Aside0.mk hB.size
 have HB := Aside0.mk hB
 clear hB
 have H : ((pouchref01_Reader_take.f s0_0 s0_1 s0_2 a1).bind fun bt101 => (if bt101.2.1 = true then (pouchref01_Reader_Num.l0 k bt101.1 0 0 bt101.2.2.1 bt101.2.2.2.1 bt101.2.2.2.2) else (some (0, bt101.2.2.1, bt101.2.2.2.1, bt101.2.2.2.2)))) = some (r1, r2, r3, r4) := h
 clear h
 replace H := Option.bind_eq_some_iff.mp H
 obtain ⟨⟨t101, t102, t103, t104, t105⟩, A30, H⟩ := H
 replace H : (if t102 = true then (pouchref01_Reader_Num.l0 k t101 0 0 t103 t104 t105) else (some (0, t103, t104, t105))) = some (r1, r2, r3, r4) := H
 have A3 := Aside0.mk A30
 clear A30
 by_cases c4 : t102 = true
 ·subst c4
  have H1 : (pouchref01_Reader_Num.l0 k t101 0 0 t103 t104 t105) = some (r1, r2, r3, r4) := by rw [if_pos rfl] at H; exact H
  clear H
  have H := H1
  clear H1
  have H' := Aside0.mk H
  clear H
  go_enter Tryd.func76, Tryd.ntmps76
  go_wp2_with (first | ((with_reducible refine gate_callee (f := 74) rfl ?_); refine goesL_ (some 12) rfl rfl Tryd.func74 (by kernel_rfl) rfl #[.pointer (some ⟨g, 0, none⟩), .int .i64 a1] rfl z76z3 ?_; (with_reducible refine (pouchref01_Reader_take.calls g s0_0 s0_1 s0_2 a1 t101 true t103 t104 t105 w0 _ ?side1 ?side2 A3.out).mono ?_); (case side1 => exact z76z0); (case side2 => exact z76z1); rintro e w5 ⟨rfl, hi, hb, hk⟩; refine ⟨_, rfl, ?_⟩; have n0_ := Aside0.mk (KeepBut.trans z76z2 hk (.inl rfl)); have n1_ := Aside0.mk (hb); have n2_ := Aside0.mk (hi); replace HK := n0_; replace HB := n1_; replace HI0 := n2_; clear n0_ n1_ n2_; clear hb hk hi))
  go_loopg [7, 8] k (fun kq v7 v8 w' => ∃ (x7_1 : Int) (x8_1 : Int), v7 = .int .u64 x7_1 ∧ v8 = .int .i64 x8_1 ∧ Aside0 (pouchref01_Reader_Num.l0 kq t101 x7_1 x8_1 t103 t104 t105 = some (r1, r2, r3, r4)) ∧ Aside0 (kq ≤ k) ∧ Aside0 (IsS45 w0 w' g t103 t104 t105) ∧ Aside0 (KeepBut w w' g none) ∧ Aside0 (Below w0.heap.size w0 w'))
  case atStart => exact ⟨(0), (0), z76z4, z76z4, H', ⟨Nat.le_refl _⟩, ⟨by repeat (first | (with_reducible first | exact HI0.out | apply IsS45.alloc | apply IsS45.drewN | apply IsS45.drew | apply IsS45.set_0 | apply IsS45.set_1 | apply IsS45.set_2) | exact HI0.out)⟩, ⟨by repeat (first | (with_reducible first | exact HK.out | apply KeepBut.set_ | apply keep_drewN | apply keep_drew | apply keep_alloc) | exact HK.out)⟩, ⟨by repeat (first | (with_reducible first | exact HB.out | apply below_alloc | apply pw_below_drewN | apply below_drew1 | refine below_set ?_ (IsS45.ge HI0.out)) | exact HB.out)⟩⟩
  case round =>
   clear H'
   try clear p2
   try clear c4
   obtain ⟨x7_1, x8_1, rfl, rfl, HA, HK1, HI0, HK, HB⟩ := hrel
   cases gk with
   | zero => exact absurd HA.out (by simp [pouchref01_Reader_Num.l0])
   | succ k1 =>
    have H := HA.out
    clear HA
    simp only [pouchref01_Reader_Num.l0] at H
    by_cases c6 : x8_1 < (t101.size : Int)
    ·rw [if_pos c6] at H
     have c6b0 : decide (x8_1 < (t101.size : Int)) = true := decide_eq_true c6
     clear c6
     by_cases c7 : 0 ≤ x8_1
     ·rw [if_pos c7] at H
      have c7b0 : decide (0 ≤ x8_1) = true := decide_eq_true c7
      clear c7
      have H' := Aside0.mk H
      clear H
      have p8 : 0 ≤ (x8_1 : Int) := of_decide_eq_true (by first | (with_reducible assumption) | assumption)
      have q8 : x8_1 < (t101.size : Int) := of_decide_eq_true (by first | (with_reducible assumption) | assumption)
      have hx8 := bt_at t101 x8_1
      replace p8 := eq_true p8
      replace q8 := eq_true q8
      go_wp2
      go_roundg k1
      case measure => have := HK1.out; omega
      case rel => exact ⟨(IntKind.u64.wrap ((IntKind.u64.wrap (256 * x7_1)) + (IntKind.u64.wrap (bt t101 x8_1)))), (wrap64 (x8_1 + 1)), z76z4, z76z4, H', ⟨by have := HK1.out; omega⟩, ⟨by repeat (first | (with_reducible first | exact HI0.out | apply IsS45.alloc | apply IsS45.drewN | apply IsS45.drew | apply IsS45.set_0 | apply IsS45.set_1 | apply IsS45.set_2) | exact HI0.out)⟩, ⟨by repeat (first | (with_reducible first | exact HK.out | apply KeepBut.set_ | apply keep_drewN | apply keep_drew | apply keep_alloc) | exact HK.out)⟩, ⟨by repeat (first | (with_reducible first | exact HB.out | apply below_alloc | apply pw_below_drewN | apply below_drew1 | refine below_set ?_ (IsS45.ge HI0.out)) | exact HB.out)⟩⟩
     ·rw [if_neg c7] at H
      exact absurd H (by simp)
    ·rw [if_neg c6] at H
     have c6b0 : decide (x8_1 < (t101.size : Int)) = false := decide_eq_false c6
     clear c6
     simp only [Option.some.injEq, Prod.mk.injEq] at H
     obtain ⟨rfl, rfl, rfl, rfl⟩ := H
     go_wp2
     go_ret
     exact ⟨by first | rfl | (simp [errW_none, errW_some] <;> rfl) | (simp [*, errW_none, errW_some] <;> rfl), by repeat (first | (with_reducible first | exact HI0.out | apply IsS45.alloc | apply IsS45.drewN | apply IsS45.drew | apply IsS45.set_0 | apply IsS45.set_1 | apply IsS45.set_2) | exact HI0.out), by repeat (first | (with_reducible first | exact HB.out | apply below_alloc | apply pw_below_drewN | apply below_drew1 | refine below_set ?_ (IsS45.ge HI0.out)) | exact HB.out), by repeat (first | (with_reducible first | exact HK.out | apply KeepBut.set_ | apply keep_drewN | apply keep_drew | apply keep_alloc) | exact HK.out)⟩
 ·replace c4 := Bool.eq_false_iff.mpr c4
  subst c4
  have H1 : (some (0, t103, t104, t105)) = some (r1, r2, r3, r4) := by rw [if_neg (show ¬ (false = true) by decide)] at H; exact H
  clear H
  have H := H1
  clear H1
  simp only [Option.some.injEq, Prod.mk.injEq] at H
  obtain ⟨rfl, rfl, rfl, rfl⟩ := H
  go_enter Tryd.func76, Tryd.ntmps76
  go_wp2_with (first | ((with_reducible refine gate_callee (f := 74) rfl ?_); refine goesL_ (some 12) rfl rfl Tryd.func74 (by kernel_rfl) rfl #[.pointer (some ⟨g, 0, none⟩), .int .i64 a1] rfl z76z3 ?_; (with_reducible refine (pouchref01_Reader_take.calls g s0_0 s0_1 s0_2 a1 t101 false t103 t104 t105 w0 _ ?side1 ?side2 A3.out).mono ?_); (case side1 => exact z76z0); (case side2 => exact z76z1); rintro e w9 ⟨rfl, hi, hb, hk⟩; refine ⟨_, rfl, ?_⟩; have n0_ := Aside0.mk (KeepBut.trans z76z2 hk (.inl rfl)); have n1_ := Aside0.mk (hb); have n2_ := Aside0.mk (hi); replace HK := n0_; replace HB := n1_; replace HI0 := n2_; clear n0_ n1_ n2_; clear hb hk hi))
  go_ret
  exact ⟨by first | rfl | (simp [errW_none, errW_some] <;> rfl) | (simp [*, errW_none, errW_some] <;> rfl), by repeat (first | (with_reducible first | exact HI0.out | apply IsS45.alloc | apply IsS45.drewN | apply IsS45.drew | apply IsS45.set_0 | apply IsS45.set_1 | apply IsS45.set_2) | exact HI0.out), by repeat (first | (with_reducible first | exact HB.out | apply below_alloc | apply pw_below_drewN | apply below_drew1 | refine below_set ?_ (IsS45.ge HI0.out)) | exact HB.out), by repeat (first | (with_reducible first | exact HK.out | apply KeepBut.set_ | apply keep_drewN | apply keep_drew | apply keep_alloc) | exact HK.out)⟩
end Go.Proofs.YtkmkgpigmldhnaaDoor.P

namespace Go.Proofs.YtkmkgpigmldhnaaDoor.P
open Go.RowKit Go.Proofs.YtkmkgpigmldhnaaDoorW.PrintWords Go.Proofs.YtkmkgpigmldhnaaDoorW.PrintLast Go.Proofs.YtkmkgpigmldhnaaDoorW.PrintMore
attribute [local go_sem] max2_int min2_int max_two min_two max_three min_three max_four min_four
set_option linter.unusedVariables false
set_option linter.unusedSimpArgs false
def pouchref01_Reader_Bin.f (k : Nat) (s0_0 : ByteArray) (s0_1 : Int) (s0_2 : Int) : Option (ByteArray × ByteArray × Int × Int) := (pouchref01_Reader_Num.f k s0_0 s0_1 s0_2 2).bind fun bt101 => ((pouchref01_Reader_take.f bt101.2.1 bt101.2.2.1 bt101.2.2.2 (wrap64 (bt101.1))).bind fun bt105 => (some (bt105.1, bt105.2.2.1, bt105.2.2.2.1, bt105.2.2.2.2)))
theorem pouchref01_Reader_Bin.mono : ∀ a0 a1 a2 k, LeO (pouchref01_Reader_Bin.f k a0 a1 a2) (pouchref01_Reader_Bin.f (k + 1) a0 a1 a2) := by
  intro a0 a1 a2 k
  unfold pouchref01_Reader_Bin.f
  repeat' first
      | (with_reducible exact pouchref01_Reader_Num.mono _ _ _ _ _)
      | (with_reducible exact LeO.refl _)
      | (with_reducible exact LeO.none _)
      | (with_reducible refine LeO.ite ?_ ?_)
      | (with_reducible refine LeO.bind ?_ (fun _ => ?_))
      | exact pouchref01_Reader_Num.mono _ _ _ _ _
      | exact LeO.none _
      | refine LeO.ite ?_ ?_
      | refine LeO.bind ?_ (fun _ => ?_)
theorem z77z0 {p : Prop} (h : p := by repeat (first | (with_reducible first | exact HI0.out | apply IsS45.alloc | apply IsS45.drewN | apply IsS45.drew | apply IsS45.set_0 | apply IsS45.set_1 | apply IsS45.set_2) | exact HI0.out)) : p := h
theorem z77z1 {p : Prop} (h : p := by repeat (first | (with_reducible first | exact HB.out | apply below_alloc | apply pw_below_drewN | apply below_drew1 | refine below_set ?_ (IsS45.ge HI0.out)) | exact HB.out)) : p := h
theorem z77z2 {p : Prop} (h : p := by repeat (first | (with_reducible first | exact HK.out | apply KeepBut.set_ | apply keep_drewN | apply keep_drew | apply keep_alloc) | exact HK.out)) : p := h
theorem z77z3 {p : Prop} (h : p := by (try simp only [List.map_toArray, List.map_cons, List.map_nil]); first | done | rfl | (simp only [List.length_drop, List.length_take]; rfl)) : p := h
set_option maxHeartbeats 8000000 in
set_option maxRecDepth 100000 in
theorem pouchref01_Reader_Bin.calls (k : Nat) (g : Nat) (s0_0 : ByteArray) (s0_1 : Int) (s0_2 : Int) (r1 : ByteArray) (r2 : ByteArray) (r3 : Int) (r4 : Int) (w0 w : World) (hI : IsS45 w0 w g s0_0 s0_1 s0_2) (hB : Below w0.heap.size w0 w) (h : pouchref01_Reader_Bin.f k s0_0 s0_1 s0_2 = some (r1, r2, r3, r4)) :
  Calls Tryd.prog 77 #[.pointer (some ⟨g, 0, none⟩)] w fun e w' => e = .returned (.string r1) ∧ IsS45 w0 w' g r2 r3 r4 ∧ Below w0.heap.size w0 w' ∧ KeepBut w w' g none := by
 have HI0 := Aside0.mk hI
 have HK := Aside0.mk (KeepBut.refl w g none)
 have HL := Aside0.mk hB.size
 clear hI
 have HW0 := Aside0.mk hB.size
 have HB := Aside0.mk hB
 clear hB
 have H : ((pouchref01_Reader_Num.f k s0_0 s0_1 s0_2 2).bind fun bt101 => ((pouchref01_Reader_take.f bt101.2.1 bt101.2.2.1 bt101.2.2.2 (wrap64 (bt101.1))).bind fun bt105 => (some (bt105.1, bt105.2.2.1, bt105.2.2.2.1, bt105.2.2.2.2)))) = some (r1, r2, r3, r4) := h
 clear h
 replace H := Option.bind_eq_some_iff.mp H
 obtain ⟨⟨t101, t102, t103, t104⟩, A20, H⟩ := H
 replace H : ((pouchref01_Reader_take.f t102 t103 t104 (wrap64 (t101))).bind fun bt105 => (some (bt105.1, bt105.2.2.1, bt105.2.2.2.1, bt105.2.2.2.2))) = some (r1, r2, r3, r4) := H
 have A2 := Aside0.mk A20
 clear A20
 replace H := Option.bind_eq_some_iff.mp H
 obtain ⟨⟨t105, t106, t107, t108, t109⟩, A30, H⟩ := H
 replace H : (some (t105, t107, t108, t109)) = some (r1, r2, r3, r4) := H
 have A3 := Aside0.mk A30
 clear A30
 simp only [Option.some.injEq, Prod.mk.injEq] at H
 obtain ⟨rfl, rfl, rfl, rfl⟩ := H
 go_enter Tryd.func77, Tryd.ntmps77
 go_wp2_with (first | ((with_reducible refine gate_callee (f := 76) rfl ?_); refine goesL_ (some 7) rfl rfl Tryd.func76 (by kernel_rfl) rfl #[.pointer (some ⟨g, 0, none⟩), .int .i64 2] rfl z77z3 ?_; (with_reducible refine (pouchref01_Reader_Num.calls k g s0_0 s0_1 s0_2 2 t101 t102 t103 t104 w0 _ ?side1 ?side2 A2.out).mono ?_); (case side1 => exact z77z0); (case side2 => exact z77z1); rintro e w4 ⟨rfl, hi, hb, hk⟩; refine ⟨_, rfl, ?_⟩; have n0_ := Aside0.mk (KeepBut.trans z77z2 hk (.inl rfl)); have n1_ := Aside0.mk (hb); have n2_ := Aside0.mk (hi); replace HK := n0_; replace HB := n1_; replace HI0 := n2_; clear n0_ n1_ n2_; clear hb hk hi) | ((with_reducible refine gate_callee (f := 74) rfl ?_); refine goesL_ (some 12) rfl rfl Tryd.func74 (by kernel_rfl) rfl #[.pointer (some ⟨g, 0, none⟩), .int .i64 (wrap64 (t101))] rfl z77z3 ?_; (with_reducible refine (pouchref01_Reader_take.calls g t102 t103 t104 (wrap64 (t101)) t105 t106 t107 t108 t109 w0 _ ?side1 ?side2 A3.out).mono ?_); (case side1 => exact z77z0); (case side2 => exact z77z1); rintro e w5 ⟨rfl, hi, hb, hk⟩; refine ⟨_, rfl, ?_⟩; have n0_ := Aside0.mk (KeepBut.trans z77z2 hk (.inl rfl)); have n1_ := Aside0.mk (hb); have n2_ := Aside0.mk (hi); replace HK := n0_; replace HB := n1_; replace HI0 := n2_; clear n0_ n1_ n2_; clear hb hk hi))
 go_ret
 exact ⟨by first | rfl | (simp [errW_none, errW_some] <;> rfl) | (simp [*, errW_none, errW_some] <;> rfl), by repeat (first | (with_reducible first | exact HI0.out | apply IsS45.alloc | apply IsS45.drewN | apply IsS45.drew | apply IsS45.set_0 | apply IsS45.set_1 | apply IsS45.set_2) | exact HI0.out), by repeat (first | (with_reducible first | exact HB.out | apply below_alloc | apply pw_below_drewN | apply below_drew1 | refine below_set ?_ (IsS45.ge HI0.out)) | exact HB.out), by repeat (first | (with_reducible first | exact HK.out | apply KeepBut.set_ | apply keep_drewN | apply keep_drew | apply keep_alloc) | exact HK.out)⟩
end Go.Proofs.YtkmkgpigmldhnaaDoor.P
