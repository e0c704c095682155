import Derived.LoopIn
import Derived.OwnWalkIn
import Derived.Shelf.Abstract
import Derived.Sort.LoopGhostIn
import Derived.TacticsInMore
import Derived.Test.YtkmkgpigmldhnaaDoorCPropsChecks0
import Derived.Test.YtkmkgpigmldhnaaDoorCPropsChecks1
set_option linter.unusedVariables false
set_option linter.unusedSimpArgs false
set_option maxHeartbeats 8000000
set_option maxRecDepth 100000
namespace Go.Proofs.YtkmkgpigmldhnaaDoor.P
open Go.RowKit Go.Proofs.YtkmkgpigmldhnaaDoorW.PrintWords Go.Proofs.YtkmkgpigmldhnaaDoorW.PrintLast Go.Proofs.YtkmkgpigmldhnaaDoorW.PrintMore
attribute [local go_sem] max2_int min2_int max_two min_two max_three min_three max_four min_four
def wire_Reader_take.f (s0_0 : ByteArray) (s0_1 : Int) (a1 : Int) : Option (ByteArray × Bool × ByteArray × Int) := (wire_Reader_Err.f s0_0 s0_1).bind fun bt101 => (if bt101.1 = 0 then (if a1 < 0 then (some ((⟨#[]⟩ : ByteArray), false, bt101.2.1, 2)) else (if a1 > (bt101.2.1.size : Int) then (some ((⟨#[]⟩ : ByteArray), false, bt101.2.1, 2)) else (if 0 ≤ a1 then (if a1 ≤ (bt101.2.1.size : Int) then (some (bt101.2.1.extract 0 (a1 : Int).toNat, true, bt101.2.1.extract (a1 : Int).toNat bt101.2.1.size, bt101.2.2)) else (none)) else (none)))) else (some ((⟨#[]⟩ : ByteArray), false, bt101.2.1, bt101.2.2)))
theorem z41z0 {p : Prop} (h : p := by repeat (first | (with_reducible first | exact HB.out | apply below_alloc | apply pw_below_drewN | apply below_drew1 | refine below_set ?_ (IsS78.ge HI0.out)) | exact HB.out)) : p := h
theorem z41z1 {p : Prop} (h : p := by repeat (first | (with_reducible first | exact HI0.out | apply IsS78.alloc | apply IsS78.drewN | apply IsS78.drew | apply IsS78.set_0 | apply IsS78.set_1) | exact HI0.out)) : p := h
theorem wire_Reader_take.calls (g : Nat) (s0_0 : ByteArray) (s0_1 : Int) (a1 : Int) (r1 : ByteArray) (r2 : Bool) (r3 : ByteArray) (r4 : Int) (w0 w : World) (hI : IsS78 w0 w g s0_0 s0_1) (hB : Below w0.heap.size w0 w) (h : wire_Reader_take.f s0_0 s0_1 a1 = some (r1, r2, r3, r4)) :
  Calls Tryd.prog 41 #[.pointer (some ⟨g, 0, none⟩), .int .i64 a1] w fun e w' => e = .returned (.tuple #[.string r1, .bool r2]) ∧ IsS78 w0 w' g r3 r4 ∧ Below w0.heap.size w0 w' ∧ KeepBut w w' g none := by
 have HI0 := Aside0.mk hI
 have HK := Aside0.mk (KeepBut.refl w g none)
 have HL := Aside0.mk hB.size
 clear hI
 have HW0 := Aside0.mk hB.size
 have HB := Aside0.mk hB
 clear hB
 have H : ((wire_Reader_Err.f s0_0 s0_1).bind fun bt101 => (if bt101.1 = 0 then (if a1 < 0 then (some ((⟨#[]⟩ : ByteArray), false, bt101.2.1, 2)) else (if a1 > (bt101.2.1.size : Int) then (some ((⟨#[]⟩ : ByteArray), false, bt101.2.1, 2)) else (if 0 ≤ a1 then (if a1 ≤ (bt101.2.1.size : Int) then (some (bt101.2.1.extract 0 (a1 : Int).toNat, true, bt101.2.1.extract (a1 : Int).toNat bt101.2.1.size, bt101.2.2)) else (none)) else (none)))) else (some ((⟨#[]⟩ : ByteArray), false, bt101.2.1, bt101.2.2)))) = some (r1, r2, r3, r4) := h
 clear h
 replace H := Option.bind_eq_some_iff.mp H
 obtain ⟨⟨t101, t102, t103⟩, A30, H⟩ := H
 try dsimp -simprocs only at H
 have A3 := Aside0.mk A30
 clear A30
 by_cases c4 : t101 = 0
 rotate_left
 ·rw [if_neg c4] at H
  obtain ⟨c4b0, c4b1⟩ := eqf_ c4
  simp only [Option.some.injEq, Prod.mk.injEq] at H
  obtain ⟨rfl, rfl, rfl, rfl⟩ := H
  go_enter Tryd.func41, Tryd.ntmps41
  go_wp2_with (first | ((with_reducible refine gate_callee (f := 22) rfl ?_); refine goesL_ (some 8) rfl rfl Tryd.func22 (by kernel_rfl) rfl #[.pointer (some ⟨g, 0, none⟩)] rfl y2_ ?_; (with_reducible refine (wire_Reader_Err.calls g s0_0 s0_1 t101 t102 t103 w0 _ ?side1 ?side2 A3.out).mono ?_); (case side1 => exact z41z1); (case side2 => exact z41z0); rintro e w17 ⟨rfl, hi, hb, hk⟩; refine ⟨_, rfl, ?_⟩; have n0_ := Aside0.mk (KeepBut.trans y6_ hk (.inl rfl)); have n1_ := Aside0.mk (hb); have n2_ := Aside0.mk (hi); replace HK := n0_; replace HB := n1_; replace HI0 := n2_; clear n0_ n1_ n2_; clear hb hk hi))
  go_ret2
  exact ⟨y4_, z41z1, z41z0, y6_⟩
 rw [if_pos c4] at H
 obtain ⟨c4b0, c4b1⟩ := eqt_ c4
 clear c4
 by_cases c5 : a1 < 0
 ·rw [if_pos c5] at H
  have c5b0 := decide_eq_true c5
  clear c5
  simp only [Option.some.injEq, Prod.mk.injEq] at H
  obtain ⟨rfl, rfl, rfl, rfl⟩ := H
  go_enter Tryd.func41, Tryd.ntmps41
  go_wp2_with (first | ((with_reducible refine gate_callee (f := 22) rfl ?_); refine goesL_ (some 8) rfl rfl Tryd.func22 (by kernel_rfl) rfl #[.pointer (some ⟨g, 0, none⟩)] rfl y2_ ?_; (with_reducible refine (wire_Reader_Err.calls g s0_0 s0_1 t101 t102 t103 w0 _ ?side1 ?side2 A3.out).mono ?_); (case side1 => exact z41z1); (case side2 => exact z41z0); rintro e w6 ⟨rfl, hi, hb, hk⟩; refine ⟨_, rfl, ?_⟩; have n0_ := Aside0.mk (KeepBut.trans y6_ hk (.inl rfl)); have n1_ := Aside0.mk (hb); have n2_ := Aside0.mk (hi); replace HK := n0_; replace HB := n1_; replace HI0 := n2_; clear n0_ n1_ n2_; clear hb hk hi; obtain ⟨HGz7, hgz7⟩ := HI0.out; have hcz7_0 := cellS78_0 HGz7; have hcz7_1 := cellS78_1 HGz7; have hfz7_0 := blk_frozen HGz7 0; have hfz7_1 := blk_frozen HGz7 1; clear HGz7 hgz7))
  go_ret2
  exact ⟨y4_, z41z1, z41z0, y6_⟩
 rw [if_neg c5] at H
 have c5b0 := decide_eq_false c5
 clear c5
 by_cases c8 : a1 > (t102.size : Int)
 ·rw [if_pos c8] at H
  have c8b0 := decide_eq_true c8
  clear c8
  simp only [Option.some.injEq, Prod.mk.injEq] at H
  obtain ⟨rfl, rfl, rfl, rfl⟩ := H
  go_enter Tryd.func41, Tryd.ntmps41
  go_wp2_with (first | ((with_reducible refine gate_callee (f := 22) rfl ?_); refine goesL_ (some 8) rfl rfl Tryd.func22 (by kernel_rfl) rfl #[.pointer (some ⟨g, 0, none⟩)] rfl y2_ ?_; (with_reducible refine (wire_Reader_Err.calls g s0_0 s0_1 t101 t102 t103 w0 _ ?side1 ?side2 A3.out).mono ?_); (case side1 => exact z41z1); (case side2 => exact z41z0); rintro e w9 ⟨rfl, hi, hb, hk⟩; refine ⟨_, rfl, ?_⟩; have n0_ := Aside0.mk (KeepBut.trans y6_ hk (.inl rfl)); have n1_ := Aside0.mk (hb); have n2_ := Aside0.mk (hi); replace HK := n0_; replace HB := n1_; replace HI0 := n2_; clear n0_ n1_ n2_; clear hb hk hi; obtain ⟨HGz10, hgz10⟩ := HI0.out; have hcz10_0 := cellS78_0 HGz10; have hcz10_1 := cellS78_1 HGz10; have hfz10_0 := blk_frozen HGz10 0; have hfz10_1 := blk_frozen HGz10 1; clear HGz10 hgz10))
  go_ret2
  exact ⟨y4_, z41z1, z41z0, y6_⟩
 rw [if_neg c8] at H
 have c8b0 := decide_eq_false c8
 clear c8
 by_cases c11 : 0 ≤ a1
 rotate_left
 ·rw [if_neg c11] at H
  exact absurd H (by simp)
 rw [if_pos c11] at H
 have c11b0 := eq_true c11
 have c11b1 := decide_eq_true c11
 clear c11
 by_cases c12 : a1 ≤ (t102.size : Int)
 rotate_left
 ·rw [if_neg c12] at H
  exact absurd H (by simp)
 rw [if_pos c12] at H
 have c12b0 := eq_true c12
 have c12b1 := decide_eq_true c12
 clear c12
 have c13b0 := eq_true (of_decide_eq_true y5_ : 0 ≤ a1)
 have c14b0 := eq_true (of_decide_eq_true y5_ : a1 ≤ (t102.size : Int))
 simp only [Option.some.injEq, Prod.mk.injEq] at H
 obtain ⟨rfl, rfl, rfl, rfl⟩ := H
 go_enter Tryd.func41, Tryd.ntmps41
 go_wp2_with (first | ((with_reducible refine gate_callee (f := 22) rfl ?_); refine goesL_ (some 8) rfl rfl Tryd.func22 (by kernel_rfl) rfl #[.pointer (some ⟨g, 0, none⟩)] rfl y2_ ?_; (with_reducible refine (wire_Reader_Err.calls g s0_0 s0_1 t101 t102 t103 w0 _ ?side1 ?side2 A3.out).mono ?_); (case side1 => exact z41z1); (case side2 => exact z41z0); rintro e w15 ⟨rfl, hi, hb, hk⟩; refine ⟨_, rfl, ?_⟩; have n0_ := Aside0.mk (KeepBut.trans y6_ hk (.inl rfl)); have n1_ := Aside0.mk (hb); have n2_ := Aside0.mk (hi); replace HK := n0_; replace HB := n1_; replace HI0 := n2_; clear n0_ n1_ n2_; clear hb hk hi; obtain ⟨HGz16, hgz16⟩ := HI0.out; have hcz16_0 := cellS78_0 HGz16; have hcz16_1 := cellS78_1 HGz16; have hfz16_0 := blk_frozen HGz16 0; have hfz16_1 := blk_frozen HGz16 1; clear HGz16 hgz16))
 go_ret2
 exact ⟨y4_, z41z1, z41z0, y6_⟩
def wire_Reader_Byte.f (s0_0 : ByteArray) (s0_1 : Int) : Option (Int × ByteArray × Int) := (wire_Reader_take.f s0_0 s0_1 1).bind fun bt101 => (if bt101.2.1 = true then (if 0 < (bt101.1.size : Int) then (some (bt bt101.1 0, bt101.2.2.1, bt101.2.2.2)) else (none)) else (some (0, bt101.2.2.1, bt101.2.2.2)))
theorem z16z0 {p : Prop} (h : p := by repeat (first | (with_reducible first | exact HB.out | apply below_alloc | apply pw_below_drewN | apply below_drew1 | refine below_set ?_ (IsS78.ge HI0.out)) | exact HB.out)) : p := h
theorem z16z1 {p : Prop} (h : p := by repeat (first | (with_reducible first | exact HI0.out | apply IsS78.alloc | apply IsS78.drewN | apply IsS78.drew | apply IsS78.set_0 | apply IsS78.set_1) | exact HI0.out)) : p := h
theorem wire_Reader_Byte.calls (g : Nat) (s0_0 : ByteArray) (s0_1 : Int) (r1 : Int) (r2 : ByteArray) (r3 : Int) (w0 w : World) (hI : IsS78 w0 w g s0_0 s0_1) (hB : Below w0.heap.size w0 w) (h : wire_Reader_Byte.f s0_0 s0_1 = some (r1, r2, r3)) :
  Calls Tryd.prog 16 #[.pointer (some ⟨g, 0, none⟩)] w fun e w' => e = .returned (.int .u8 r1) ∧ IsS78 w0 w' g r2 r3 ∧ Below w0.heap.size w0 w' ∧ KeepBut w w' g none := by
 have HI0 := Aside0.mk hI
 have HK := Aside0.mk (KeepBut.refl w g none)
 have HL := Aside0.mk hB.size
 clear hI
 have HW0 := Aside0.mk hB.size
 have HB := Aside0.mk hB
 clear hB
 have H : ((wire_Reader_take.f s0_0 s0_1 1).bind fun bt101 => (if bt101.2.1 = true then (if 0 < (bt101.1.size : Int) then (some (bt bt101.1 0, bt101.2.2.1, bt101.2.2.2)) else (none)) else (some (0, bt101.2.2.1, bt101.2.2.2)))) = some (r1, r2, r3) := h
 clear h
 replace H := Option.bind_eq_some_iff.mp H
 obtain ⟨⟨t101, t102, t103, t104⟩, A20, H⟩ := H
 replace H : (if t102 = true then (if 0 < (t101.size : Int) then (some (bt t101 0, t103, t104)) else (none)) else (some (0, t103, t104))) = some (r1, r2, r3) := H
 have A2 := Aside0.mk A20
 clear A20
 by_cases c3 : t102 = true
 rotate_left
 ·replace c3 := Bool.eq_false_iff.mpr c3
  subst c3
  replace H : (some (0, t103, t104)) = some (r1, r2, r3) := by rw [if_neg (show ¬ (false = true) by decide)] at H; exact H
  simp only [Option.some.injEq, Prod.mk.injEq] at H
  obtain ⟨rfl, rfl, rfl⟩ := H
  go_enter Tryd.func16, Tryd.ntmps16
  go_wp2_with (first | ((with_reducible refine gate_callee (f := 41) rfl ?_); refine goesL_ (some 7) rfl rfl Tryd.func41 (by kernel_rfl) rfl #[.pointer (some ⟨g, 0, none⟩), .int .i64 1] rfl y2_ ?_; (with_reducible refine (wire_Reader_take.calls g s0_0 s0_1 1 t101 false t103 t104 w0 _ ?side1 ?side2 A2.out).mono ?_); (case side1 => exact z16z1); (case side2 => exact z16z0); rintro e w7 ⟨rfl, hi, hb, hk⟩; refine ⟨_, rfl, ?_⟩; have n0_ := Aside0.mk (KeepBut.trans y6_ hk (.inl rfl)); have n1_ := Aside0.mk (hb); have n2_ := Aside0.mk (hi); replace HK := n0_; replace HB := n1_; replace HI0 := n2_; clear n0_ n1_ n2_; clear hb hk hi))
  go_ret
  exact ⟨y4_, z16z1, z16z0, y6_⟩
 subst c3
 have H1 : (if 0 < (t101.size : Int) then (some (bt t101 0, t103, t104)) else (none)) = some (r1, r2, r3) := by rw [if_pos rfl] at H; exact H
 clear H
 have H := H1
 clear H1
 by_cases c4 : 0 < (t101.size : Int)
 rotate_left
 ·rw [if_neg c4] at H
  exact absurd H (by simp)
 rw [if_pos c4] at H
 have c4b0 := decide_eq_true c4
 have c4b1 : decide (0 < t101.size) = true := decide_eq_true (by omega)
 clear c4
 simp only [Option.some.injEq, Prod.mk.injEq] at H
 obtain ⟨rfl, rfl, rfl⟩ := H
 go_enter Tryd.func16, Tryd.ntmps16
 go_wp2_with (first | ((with_reducible refine gate_callee (f := 41) rfl ?_); refine goesL_ (some 7) rfl rfl Tryd.func41 (by kernel_rfl) rfl #[.pointer (some ⟨g, 0, none⟩), .int .i64 1] rfl y2_ ?_; (with_reducible refine (wire_Reader_take.calls g s0_0 s0_1 1 t101 true t103 t104 w0 _ ?side1 ?side2 A2.out).mono ?_); (case side1 => exact z16z1); (case side2 => exact z16z0); rintro e w6 ⟨rfl, hi, hb, hk⟩; refine ⟨_, rfl, ?_⟩; have n0_ := Aside0.mk (KeepBut.trans y6_ hk (.inl rfl)); have n1_ := Aside0.mk (hb); have n2_ := Aside0.mk (hi); replace HK := n0_; replace HB := n1_; replace HI0 := n2_; clear n0_ n1_ n2_; clear hb hk hi; have p5 : 0 ≤ (0 : Int) := (by omega); have q5 : 0 < t101.size := (by have : (0 : Int) < (t101.size : Int) := of_decide_eq_true y5_; omega); have hx5 : ∀ h : 0 < t101.size, ((t101[0]'h).toNat : Int) = bt t101 0 := bt_at t101 0; clear p5; have qi5 : (0 < (t101.size : Int)) = True := eq_true (of_decide_eq_true y5_); replace q5 := eq_true q5))
 go_ret
 exact ⟨y4_, z16z1, z16z0, y6_⟩
def wire_digits.l0 : Nat → ByteArray → Int → Int → Option (Int × Int × Int)
  | 0, _, _, _ => none
  | k + 1, x0, x2, x7 => if x7 < 4 then (if x7 ≥ (x0.size : Int) then (some (0, 0, 2)) else (if 0 ≤ x7 then (if x7 < (x0.size : Int) then (if 0 ≤ (wrap64 (7 * x7)) then (if (bt x0 x7) ≥ 128 then (wire_digits.l0 k x0 (Go.bits .or .u32 x2 (shl .u32 ((Go.bits .andNot .u8 (bt x0 x7) 128) % 4294967296) (wrap64 (7 * x7)))) (wrap64 (x7 + 1))) else (if (bt x0 x7) = 0 then (if x7 > 0 then (some (0, 0, 3)) else (some (Go.bits .or .u32 x2 (shl .u32 ((Go.bits .andNot .u8 (bt x0 x7) 128) % 4294967296) (wrap64 (7 * x7))), wrap64 (x7 + 1), 0))) else (some (Go.bits .or .u32 x2 (shl .u32 ((Go.bits .andNot .u8 (bt x0 x7) 128) % 4294967296) (wrap64 (7 * x7))), wrap64 (x7 + 1), 0)))) else (none)) else (none)) else (none))) else (some (0, 0, 3))
def wire_digits.f (k : Nat) (a0 : ByteArray) : Option (Int × Int × Int) := wire_digits.l0 k a0 0 0
theorem z71m0 {p : Prop} (h : p := by
 repeat' first
 | (with_reducible exact ih0 _ _ _)
 | (with_reducible exact LeO.refl _)
 | (with_reducible exact LeO.none _)
 | (with_reducible refine LeO.ite ?_ ?_)
 | (with_reducible refine LeO.bind ?_ (fun _ => ?_))
 | exact ih0 _ _ _
 | exact LeO.none _
 | refine LeO.ite ?_ ?_
 | refine LeO.bind ?_ (fun _ => ?_)) : p := h
theorem wire_digits.mono_l : ∀ k, (∀ y0 y1 y2, LeO (wire_digits.l0 k y0 y1 y2) (wire_digits.l0 (k + 1) y0 y1 y2))
  | 0 => fun _ _ _ r h => by simp [wire_digits.l0] at h
  | k + 1 => by
    have ih0 := wire_digits.mono_l k
    · intro y0 y1 y2
      unfold wire_digits.l0
      exact z71m0
theorem wire_digits.mono : ∀ a0 k, LeO (wire_digits.f k a0) (wire_digits.f (k + 1) a0) := by
  intro a0 k
  have ih0 := wire_digits.mono_l k
  unfold wire_digits.f
  exact z71m0
theorem z71z0 {p : Prop} (h : p := by first | rfl | (simp; done) | (simp only [← hji7, ← hji9] <;> (first | rfl | simp)) | (simp [*]; done)) : p := h
theorem wire_digits.calls (k : Nat) (a0 : ByteArray) (r1 : Int) (r2 : Int) (r3 : Int) (w : World) (h : wire_digits.f k a0 = some (r1, r2, r3)) :
  Calls Tryd.prog 71 #[.string a0] w fun e w' => e = .returned (.tuple #[.int .u32 r1, .int .i64 r2, .int .i64 r3]) ∧ Drawn0 w w' := by
 have H : (wire_digits.l0 k a0 0 0) = some (r1, r2, r3) := h
 clear h
 have H' := Aside0.mk H
 clear H
 go_enter Tryd.func71, Tryd.ntmps71
 go_wp2
 go_loopg [2, 7] k (fun kq v2 v7 w' => ∃ (x2_1 : Int) (x7_1 : Int), v2 = .int .u32 x2_1 ∧ v7 = .int .i64 x7_1 ∧ Aside0 (wire_digits.l0 kq a0 x2_1 x7_1 = some (r1, r2, r3)) ∧ Aside0 (kq ≤ k) ∧ Drawn0 w w')
 case atStart => exact ⟨(0), (0), y7_, y7_, H', ⟨Nat.le_refl _⟩, y10_⟩
 case round =>
  clear H'
  obtain ⟨x2_1, x7_1, rfl, rfl, HA, HK1, ⟨m1, rfl⟩⟩ := hrel
  cases gk with
  | zero => exact absurd HA.out (by simp [wire_digits.l0])
  | succ k1 =>
   have H := HA.out
   clear HA
   simp only [wire_digits.l0] at H
   by_cases c2 : x7_1 < 4
   ·rw [if_pos c2] at H
    have c2b0 := decide_eq_true c2
    clear c2
    by_cases c3 : x7_1 ≥ (a0.size : Int)
    ·rw [if_pos c3] at H
     have c3b0 := decide_eq_true c3
     clear c3
     simp only [Option.some.injEq, Prod.mk.injEq] at H
     obtain ⟨rfl, rfl, rfl⟩ := H
     go_wp2
     go_ret3
     exact ⟨y7_, y10_⟩
    ·rw [if_neg c3] at H
     have c3b0 := decide_eq_false c3
     clear c3
     by_cases c4 : 0 ≤ x7_1
     ·rw [if_pos c4] at H
      have c4b0 := decide_eq_true c4
      clear c4
      by_cases c5 : x7_1 < (a0.size : Int)
      ·rw [if_pos c5] at H
       have c5b0 := decide_eq_true c5
       clear c5
       obtain ⟨ji7, hji7⟩ : ∃ j_ : Int, (wrap64 (7 * x7_1)) = j_ := ⟨_, rfl⟩
       replace H : (if 0 ≤ (ji7) then (if (bt a0 x7_1) ≥ 128 then (wire_digits.l0 k1 a0 (Go.bits .or .u32 x2_1 (shl .u32 ((Go.bits .andNot .u8 (bt a0 x7_1) 128) % 4294967296) (ji7))) (wrap64 (x7_1 + 1))) else (if (bt a0 x7_1) = 0 then (if x7_1 > 0 then (some (0, 0, 3)) else (some (Go.bits .or .u32 x2_1 (shl .u32 ((Go.bits .andNot .u8 (bt a0 x7_1) 128) % 4294967296) (ji7)), wrap64 (x7_1 + 1), 0))) else (some (Go.bits .or .u32 x2_1 (shl .u32 ((Go.bits .andNot .u8 (bt a0 x7_1) 128) % 4294967296) (ji7)), wrap64 (x7_1 + 1), 0)))) else (none)) = some (r1, r2, r3) := by first | (rw [hji7] at H; exact H) | (simp only [hji7] at H ⊢; exact H)
       have hji7w : (IntKind.i64.wrap (7 * x7_1)) = ji7 := (i64_w _).trans hji7
       by_cases c8 : 0 ≤ (ji7)
       ·rw [if_pos c8] at H
        have c8b0 := eq_true c8
        have c8b1 := decide_eq_true c8
        clear c8
        obtain ⟨ji9, hji9⟩ : ∃ j_ : Int, (shl .u32 ((Go.bits .andNot .u8 (bt a0 x7_1) 128) % 4294967296) (ji7)) = j_ := ⟨_, rfl⟩
        replace H : (if (bt a0 x7_1) ≥ 128 then (wire_digits.l0 k1 a0 (Go.bits .or .u32 x2_1 (ji9)) (wrap64 (x7_1 + 1))) else (if (bt a0 x7_1) = 0 then (if x7_1 > 0 then (some (0, 0, 3)) else (some (Go.bits .or .u32 x2_1 (ji9), wrap64 (x7_1 + 1), 0))) else (some (Go.bits .or .u32 x2_1 (ji9), wrap64 (x7_1 + 1), 0)))) = some (r1, r2, r3) := by first | (rw [hji9] at H; exact H) | (simp only [hji9] at H ⊢; exact H)
        have hji9_ : (IntKind.u32.wrap (((Go.bits .andNot .u8 (bt a0 x7_1) 128) % 4294967296) * 2 ^ min (ji7).toNat 32)) = ji9 := hji9
        have hji9z : (ji7) ≤ 32 → (IntKind.u32.wrap (((Go.bits .andNot .u8 (bt a0 x7_1) 128) % 4294967296) * 2 ^ (ji7).toNat)) = ji9 := shl_small hji9
        by_cases c10 : (bt a0 x7_1) ≥ 128
        ·rw [if_pos c10] at H
         have c10b0 := decide_eq_true c10
         clear c10
         have H' := Aside0.mk H
         clear H
         have p6 : 0 ≤ (x7_1 : Int) := of_decide_eq_true y5_
         have q6 : x7_1 < (a0.size : Int) := of_decide_eq_true y5_
         have hx6 := bt_at a0 x7_1
         replace p6 := eq_true p6
         replace q6 := eq_true q6
         go_wp2
         go_roundg k1
         case measure => have := HK1.out; omega
         case rel => exact ⟨(Go.bits .or .u32 x2_1 (ji9)), (wrap64 (x7_1 + 1)), y27_, y7_, H', ⟨y25_⟩, y10_⟩
        ·rw [if_neg c10] at H
         have c10b0 := decide_eq_false c10
         clear c10
         by_cases c11 : (bt a0 x7_1) = 0
         ·rw [if_pos c11] at H
          obtain ⟨c11b0, c11b1⟩ := eqt_ c11
          clear c11
          by_cases c12 : x7_1 > 0
          ·rw [if_pos c12] at H
           have c12b0 := decide_eq_true c12
           clear c12
           simp only [Option.some.injEq, Prod.mk.injEq] at H
           obtain ⟨rfl, rfl, rfl⟩ := H
           have p6 : 0 ≤ (x7_1 : Int) := of_decide_eq_true y5_
           have q6 : x7_1 < (a0.size : Int) := of_decide_eq_true y5_
           have hx6 := bt_at a0 x7_1
           replace p6 := eq_true p6
           replace q6 := eq_true q6
           go_wp2
           go_ret3
           exact ⟨z71z0, y10_⟩
          ·rw [if_neg c12] at H
           have c12b0 := decide_eq_false c12
           clear c12
           simp only [Option.some.injEq, Prod.mk.injEq] at H
           obtain ⟨rfl, rfl, rfl⟩ := H
           have p6 : 0 ≤ (x7_1 : Int) := of_decide_eq_true y5_
           have q6 : x7_1 < (a0.size : Int) := of_decide_eq_true y5_
           have hx6 := bt_at a0 x7_1
           replace p6 := eq_true p6
           replace q6 := eq_true q6
           go_wp2
           go_ret3
           exact ⟨z71z0, y10_⟩
         ·rw [if_neg c11] at H
          obtain ⟨c11b0, c11b1⟩ := eqf_ c11
          simp only [Option.some.injEq, Prod.mk.injEq] at H
          obtain ⟨rfl, rfl, rfl⟩ := H
          have p6 : 0 ≤ (x7_1 : Int) := of_decide_eq_true y5_
          have q6 : x7_1 < (a0.size : Int) := of_decide_eq_true y5_
          have hx6 := bt_at a0 x7_1
          replace p6 := eq_true p6
          replace q6 := eq_true q6
          go_wp2
          go_ret3
          exact ⟨z71z0, y10_⟩
       ·rw [if_neg c8] at H
        exact absurd H (by simp)
      ·rw [if_neg c5] at H
       exact absurd H (by simp)
     ·rw [if_neg c4] at H
      exact absurd H (by simp)
   ·rw [if_neg c2] at H
    have c2b0 := decide_eq_false c2
    clear c2
    simp only [Option.some.injEq, Prod.mk.injEq] at H
    obtain ⟨rfl, rfl, rfl⟩ := H
    go_wp2
    go_ret3
    exact ⟨y7_, y10_⟩
def wire_Reader_Var.f (k : Nat) (s0_0 : ByteArray) (s0_1 : Int) : Option (Int × ByteArray × Int) := (wire_Reader_Err.f s0_0 s0_1).bind fun bt101 => (if bt101.1 = 0 then ((wire_digits.f k bt101.2.1).bind fun bt104 => (if 0 ≤ bt104.2.1 then (if bt104.2.1 ≤ (bt101.2.1.size : Int) then (some (bt104.1, bt101.2.1.extract (bt104.2.1 : Int).toNat bt101.2.1.size, bt104.2.2)) else (none)) else (none))) else (some (0, bt101.2.1, bt101.2.2)))
theorem wire_Reader_Var.mono : ∀ a0 a1 k, LeO (wire_Reader_Var.f k a0 a1) (wire_Reader_Var.f (k + 1) a0 a1) := by
  intro a0 a1 k
  unfold wire_Reader_Var.f
  repeat' first
      | (with_reducible exact wire_digits.mono _ _)
      | (with_reducible exact LeO.refl _)
      | (with_reducible exact LeO.none _)
      | (with_reducible refine LeO.ite ?_ ?_)
      | (with_reducible refine LeO.bind ?_ (fun _ => ?_))
      | exact wire_digits.mono _ _
      | exact LeO.none _
      | refine LeO.ite ?_ ?_
      | refine LeO.bind ?_ (fun _ => ?_)
theorem z43z0 {p : Prop} (h : p := by repeat (first | (with_reducible first | exact HB.out | apply below_alloc | apply pw_below_drewN | apply below_drew1 | refine below_set ?_ (IsS78.ge HI0.out)) | exact HB.out)) : p := h
theorem z43z1 {p : Prop} (h : p := by repeat (first | (with_reducible first | exact HI0.out | apply IsS78.alloc | apply IsS78.drewN | apply IsS78.drew | apply IsS78.set_0 | apply IsS78.set_1) | exact HI0.out)) : p := h
theorem wire_Reader_Var.calls (k : Nat) (g : Nat) (s0_0 : ByteArray) (s0_1 : Int) (r1 : Int) (r2 : ByteArray) (r3 : Int) (w0 w : World) (hI : IsS78 w0 w g s0_0 s0_1) (hB : Below w0.heap.size w0 w) (h : wire_Reader_Var.f k s0_0 s0_1 = some (r1, r2, r3)) :
  Calls Tryd.prog 43 #[.pointer (some ⟨g, 0, none⟩)] w fun e w' => e = .returned (.int .u32 r1) ∧ IsS78 w0 w' g r2 r3 ∧ Below w0.heap.size w0 w' ∧ KeepBut w w' g none := by
 have HI0 := Aside0.mk hI
 have HK := Aside0.mk (KeepBut.refl w g none)
 have HL := Aside0.mk hB.size
 clear hI
 have HW0 := Aside0.mk hB.size
 have HB := Aside0.mk hB
 clear hB
 have H : ((wire_Reader_Err.f s0_0 s0_1).bind fun bt101 => (if bt101.1 = 0 then ((wire_digits.f k bt101.2.1).bind fun bt104 => (if 0 ≤ bt104.2.1 then (if bt104.2.1 ≤ (bt101.2.1.size : Int) then (some (bt104.1, bt101.2.1.extract (bt104.2.1 : Int).toNat bt101.2.1.size, bt104.2.2)) else (none)) else (none))) else (some (0, bt101.2.1, bt101.2.2)))) = some (r1, r2, r3) := h
 clear h
 replace H := Option.bind_eq_some_iff.mp H
 obtain ⟨⟨t101, t102, t103⟩, A20, H⟩ := H
 try dsimp -simprocs only at H
 have A2 := Aside0.mk A20
 clear A20
 by_cases c3 : t101 = 0
 rotate_left
 ·rw [if_neg c3] at H
  obtain ⟨c3b0, c3b1⟩ := eqf_ c3
  simp only [Option.some.injEq, Prod.mk.injEq] at H
  obtain ⟨rfl, rfl, rfl⟩ := H
  go_enter Tryd.func43, Tryd.ntmps43
  go_wp2_with (first | ((with_reducible refine gate_callee (f := 22) rfl ?_); refine goesL_ (some 7) rfl rfl Tryd.func22 (by kernel_rfl) rfl #[.pointer (some ⟨g, 0, none⟩)] rfl y2_ ?_; (with_reducible refine (wire_Reader_Err.calls g s0_0 s0_1 t101 t102 t103 w0 _ ?side1 ?side2 A2.out).mono ?_); (case side1 => exact z43z1); (case side2 => exact z43z0); rintro e w9 ⟨rfl, hi, hb, hk⟩; refine ⟨_, rfl, ?_⟩; have n0_ := Aside0.mk (KeepBut.trans y6_ hk (.inl rfl)); have n1_ := Aside0.mk (hb); have n2_ := Aside0.mk (hi); replace HK := n0_; replace HB := n1_; replace HI0 := n2_; clear n0_ n1_ n2_; clear hb hk hi))
  go_ret
  exact ⟨y4_, z43z1, z43z0, y6_⟩
 rw [if_pos c3] at H
 obtain ⟨c3b0, c3b1⟩ := eqt_ c3
 clear c3
 replace H := Option.bind_eq_some_iff.mp H
 obtain ⟨⟨t104, t105, t106⟩, A40, H⟩ := H
 try dsimp -simprocs only at H
 have A4 := Aside0.mk A40
 clear A40
 by_cases c5 : 0 ≤ t105
 rotate_left
 ·rw [if_neg c5] at H
  exact absurd H (by simp)
 rw [if_pos c5] at H
 have c5b0 := eq_true c5
 have c5b1 := decide_eq_true c5
 clear c5
 by_cases c6 : t105 ≤ (t102.size : Int)
 rotate_left
 ·rw [if_neg c6] at H
  exact absurd H (by simp)
 rw [if_pos c6] at H
 have c6b0 := eq_true c6
 have c6b1 := decide_eq_true c6
 clear c6
 simp only [Option.some.injEq, Prod.mk.injEq] at H
 obtain ⟨rfl, rfl, rfl⟩ := H
 go_enter Tryd.func43, Tryd.ntmps43
 go_wp2_with (first | ((with_reducible refine gate_callee (f := 22) rfl ?_); refine goesL_ (some 7) rfl rfl Tryd.func22 (by kernel_rfl) rfl #[.pointer (some ⟨g, 0, none⟩)] rfl y2_ ?_; (with_reducible refine (wire_Reader_Err.calls g s0_0 s0_1 t101 t102 t103 w0 _ ?side1 ?side2 A2.out).mono ?_); (case side1 => exact z43z1); (case side2 => exact z43z0); rintro e w7 ⟨rfl, hi, hb, hk⟩; refine ⟨_, rfl, ?_⟩; have n0_ := Aside0.mk (KeepBut.trans y6_ hk (.inl rfl)); have n1_ := Aside0.mk (hb); have n2_ := Aside0.mk (hi); replace HK := n0_; replace HB := n1_; replace HI0 := n2_; clear n0_ n1_ n2_; clear hb hk hi; obtain ⟨HGz8, hgz8⟩ := HI0.out; have hcz8_0 := cellS78_0 HGz8; have hcz8_1 := cellS78_1 HGz8; have hfz8_0 := blk_frozen HGz8 0; have hfz8_1 := blk_frozen HGz8 1; clear HGz8 hgz8) | ((with_reducible refine gate_callee (f := 71) rfl ?_); refine goesL_ (some 14) rfl rfl Tryd.func71 (by kernel_rfl) rfl #[.string t102] rfl y2_ ?_; (with_reducible refine (wire_digits.calls k t102 t104 t105 t106 _ A4.out).mono ?_); rintro e w' ⟨rfl, ⟨nd, rfl⟩⟩; refine ⟨_, rfl, ?_⟩; (try (rw [drewN_self w7]; generalize hq_ : World.drewN w7 _ = w7; have n0_ : Aside0 (IsS78 w0 w7 g t102 t103) := ⟨by rw [← hq_]; exact z43z1⟩; have n1_ : Aside0 (KeepBut w w7 g none) := ⟨by rw [← hq_]; exact y6_⟩; have n2_ : Aside0 (Below w0.heap.size w0 w7) := ⟨by rw [← hq_]; exact z43z0⟩; clear HI0 HK HB hq_; have HI0 := n0_; have HK := n1_; have HB := n2_; clear n0_ n1_ n2_; (try (obtain ⟨HGzq_, hgzq_⟩ := HI0.out; have hczq_0 := cellS78_0 HGzq_; have hfzq_0 := blk_frozen HGzq_ 0; have hczq_1 := cellS78_1 HGzq_; have hfzq_1 := blk_frozen HGzq_ 1; clear HGzq_ hgzq_))))))
 go_ret
 exact ⟨y4_, z43z1, z43z0, y6_⟩
end Go.Proofs.YtkmkgpigmldhnaaDoor.P
namespace Go.Proofs.YtkmkgpigmldhnaaDoor.P
open Go.RowKit Go.Proofs.YtkmkgpigmldhnaaDoorW.PrintWords
def utf8_ValidString.f (a0 : ByteArray) : Option Bool := if a0.size ≤ 9223372036854775807 then some (Go.Lib.validD a0.data.toList) else none
theorem utf8_ValidString.calls (a0 : ByteArray) (r : Bool) (w : World) (hG : GW w) (h : utf8_ValidString.f a0 = some r) :
  Calls Tryd.prog 103 #[.string a0] w fun e w' => e = .returned (.bool r) ∧ Below w.heap.size w w' := by
 unfold utf8_ValidString.f at h
 split at h
 ·obtain rfl := Option.some.inj h
  exact Any.utf8_ValidString Tryd.lays196 a0 w ‹_› hG.1
 ·cases h
def strings_Contains.f (a0 a1 : ByteArray) : Option Bool := if a0.size < 4294967281 then some (Go.Lib.contains a0.data.toList a1.data.toList) else none
theorem strings_Contains.calls (a0 : ByteArray) (a1 : ByteArray) (r : Bool) (w : World) (hG : GW w) (h : strings_Contains.f a0 a1 = some r) :
  Calls Tryd.prog 104 #[.string a0, .string a1] w fun e w' => e = .returned (.bool r) ∧ Drawn0 w w' := by
 unfold strings_Contains.f at h
 split at h
 ·obtain rfl := Option.some.inj h
  obtain ⟨m, hm⟩ := hG.2
  exact (Tryd.strings_Contains a0 a1 m w ‹_› hm).mono fun e w' ⟨he, hw⟩ => ⟨he, hw ▸ Drawn0.refl _⟩
 ·cases h
end Go.Proofs.YtkmkgpigmldhnaaDoor.P
namespace Go.Proofs.YtkmkgpigmldhnaaDoor.P
open Go.RowKit Go.Proofs.YtkmkgpigmldhnaaDoorW.PrintWords Go.Proofs.YtkmkgpigmldhnaaDoorW.PrintLast Go.Proofs.YtkmkgpigmldhnaaDoorW.PrintMore
attribute [local go_sem] max2_int min2_int max_two min_two max_three min_three max_four min_four
def text_Right.f (a0 : ByteArray) : Option (Bool) := if (a0.size : Int) ≤ 65535 then ((utf8_ValidString.f a0).bind fun t101 => (if t101 = true then ((strings_Contains.f a0 (⟨#[0]⟩ : ByteArray)).bind fun t102 => (some (!t102))) else (some false))) else (some false)
theorem text_Right.calls (a0 : ByteArray) (r : Bool) (w : World) (hG : GW w) (h : text_Right.f a0 = some r) :
    Calls Tryd.prog 88 #[.string a0] w fun e w' => e = .returned (.bool r) ∧ Below w.heap.size w w' := by
  have HB := Aside0.mk (Below.refl w.heap.size w)
  have HG := Aside0.mk hG
  clear hG
  have H : (if (a0.size : Int) ≤ 65535 then ((utf8_ValidString.f a0).bind fun t101 => (if t101 = true then ((strings_Contains.f a0 (⟨#[0]⟩ : ByteArray)).bind fun t102 => (some (!t102))) else (some false))) else (some false)) = some r := h
  clear h
  by_cases c2 : (a0.size : Int) ≤ 65535
  · rw [if_pos c2] at H
    have c2b0 := decide_eq_true c2
    have c2b1 : decide (a0.size ≤ 65535) = true := decide_eq_true (by omega)
    clear c2
    replace H := Option.bind_eq_some_iff.mp H
    obtain ⟨t101, A30, H⟩ := H
    replace H : (if t101 = true then ((strings_Contains.f a0 (⟨#[0]⟩ : ByteArray)).bind fun t102 => (some (!t102))) else (some false)) = some r := H
    have A3 := Aside0.mk A30
    clear A30
    by_cases c4 : t101 = true
    · subst c4
      have H1 : ((strings_Contains.f a0 (⟨#[0]⟩ : ByteArray)).bind fun t102 => (some (!t102))) = some r := by rw [if_pos rfl] at H; exact H
      clear H
      have H := H1
      clear H1
      replace H := Option.bind_eq_some_iff.mp H
      obtain ⟨t102, A50, H⟩ := H
      replace H : (some (!t102)) = some r := H
      have A5 := Aside0.mk A50
      clear A50
      obtain rfl := Option.some.inj H
      go_enter Tryd.func88, Tryd.ntmps88
      go_wp2_with (first | (go_at_call 103; (with_reducible refine (utf8_ValidString.calls a0 true _ ?side1 A3.out).mono ?_); (case side1 => exact GW.below HG.out y0_); rintro e w6 ⟨rfl, hb⟩; have n0_ := Aside0.mk (below_step y0_ hb); clear HB; have HB := n0_; clear n0_; (try clear hb); (try clear hb2); (try clear hk); (try clear hi)) | (go_at_call 104; (with_reducible refine (strings_Contains.calls a0 (⟨#[0]⟩ : ByteArray) t102 _ ?side1 A5.out).mono ?_); (case side1 => exact GW.below HG.out y0_); rintro e w' ⟨rfl, ⟨nd, rfl⟩⟩))
      go_ret
      exact ⟨y4_, y0_⟩
    · replace c4 := Bool.eq_false_iff.mpr c4
      subst c4
      have H1 : (some false) = some r := by rw [if_neg (show ¬ (false = true) by decide)] at H; exact H
      clear H
      have H := H1
      clear H1
      obtain rfl := Option.some.inj H
      go_enter Tryd.func88, Tryd.ntmps88
      go_wp2_with (first | (go_at_call 103; (with_reducible refine (utf8_ValidString.calls a0 false _ ?side1 A3.out).mono ?_); (case side1 => exact GW.below HG.out y0_); rintro e w7 ⟨rfl, hb⟩; have n0_ := Aside0.mk (below_step y0_ hb); clear HB; have HB := n0_; clear n0_; (try clear hb); (try clear hb2); (try clear hk); (try clear hi)))
      go_ret
      exact ⟨y4_, y0_⟩
  · rw [if_neg c2] at H
    have c2b0 := decide_eq_false c2
    have c2b1 : decide (a0.size ≤ 65535) = false := decide_eq_false (by omega)
    clear c2
    obtain rfl := Option.some.inj H
    go_enter Tryd.func88, Tryd.ntmps88
    go_wp2
    go_ret
    exact ⟨y4_, y0_⟩
def prop_Right.j0 : Nat → Bool → Bool → Int → Int → ByteArray → ByteArray → Option (Bool)
  | 0, _, _, _, _, _, _ => none
  | k + 1, x3, x4, x102000, x102001, x102002, x102003 => (prop_Type.f x102000).bind fun t102 => (if t102 = 1 then (if x102001 < 256 then (some x3) else (some false)) else (if t102 = 2 then (if x102001 < 65536 then (some x3) else (some false)) else (if t102 = 3 then (some x3) else (if t102 = 4 then (if x102001 ≤ 268435455 then (some x3) else (some false)) else (if t102 = 5 then (if x4 = true then ((text_Right.f x102002).bind fun t103 => (if t103 = true then (some (x102003.toList == ([] : List UInt8))) else (some false))) else (some false)) else (if t102 = 6 then (if x4 = true then (if (x102002.size : Int) ≤ 65535 then (some (x102003.toList == ([] : List UInt8))) else (some false)) else (some false)) else (if t102 = 7 then (if x4 = true then ((text_Right.f x102002).bind fun t104 => (if t104 = true then ((text_Right.f x102003).bind fun t105 => (some t105)) else (some false))) else (some false)) else (some false))))))))
def prop_Right.f (k : Nat) (a0_0 : Int) (a0_1 : Int) (a0_2 : ByteArray) (a0_3 : ByteArray) : Option (Bool) := if a0_2.toList = ([] : List UInt8) then (prop_Right.j0 k (a0_3.toList == ([] : List UInt8)) (a0_1 == 0) a0_0 a0_1 a0_2 a0_3) else (prop_Right.j0 k false (a0_1 == 0) a0_0 a0_1 a0_2 a0_3)
theorem z65m0 {p : Prop} (h : p := by
 repeat' first
 | (with_reducible exact ih0 _ _ _ _ _ _)
 | (with_reducible exact LeO.refl _)
 | (with_reducible exact LeO.none _)
 | (with_reducible refine LeO.ite ?_ ?_)
 | (with_reducible refine LeO.bind ?_ (fun _ => ?_))
 | exact ih0 _ _ _ _ _ _
 | exact LeO.none _
 | refine LeO.ite ?_ ?_
 | refine LeO.bind ?_ (fun _ => ?_)) : p := h
theorem prop_Right.mono_l : ∀ k, (∀ y0 y1 y2 y3 y4 y5, LeO (prop_Right.j0 k y0 y1 y2 y3 y4 y5) (prop_Right.j0 (k + 1) y0 y1 y2 y3 y4 y5))
  | 0 => fun _ _ _ _ _ _ r h => by simp [prop_Right.j0] at h
  | k + 1 => by
    have ih0 := prop_Right.mono_l k
    · intro y0 y1 y2 y3 y4 y5
      unfold prop_Right.j0
      exact z65m0
theorem prop_Right.mono : ∀ a0 a1 a2 a3 k, LeO (prop_Right.f k a0 a1 a2 a3) (prop_Right.f (k + 1) a0 a1 a2 a3) := by
  intro a0 a1 a2 a3 k
  have ih0 := prop_Right.mono_l k
  unfold prop_Right.f
  exact z65m0
theorem z65z0 {p : Prop} (h : p := by exact GW.below HG.out y1_) : p := h
theorem z65z1 {p : Prop} (h : p := by first | (go_simp; done) | (go_simp; rfl)) : p := h
theorem prop_Right.calls (k : Nat) (a0_0 : Int) (a0_1 : Int) (a0_2 : ByteArray) (a0_3 : ByteArray) (r : Bool) (w : World) (hG : GW w) (h : prop_Right.f k a0_0 a0_1 a0_2 a0_3 = some r) :
  Calls Tryd.prog 65 #[.agg #[.int .u8 a0_0, .int .u32 a0_1, .string a0_2, .string a0_3]] w fun e w' => e = .returned (.bool r) ∧ Below w.heap.size w w' := by
 have hu60 := Tryd.underlying60
 have HB := Aside0.mk (Below.refl w.heap.size w)
 have HG := Aside0.mk hG
 clear hG
 have H : (if a0_2.toList = ([] : List UInt8) then (prop_Right.j0 k (a0_3.toList == ([] : List UInt8)) (a0_1 == 0) a0_0 a0_1 a0_2 a0_3) else (prop_Right.j0 k false (a0_1 == 0) a0_0 a0_1 a0_2 a0_3)) = some r := h
 clear h
 have HC2 := Aside0.mk H
 clear H
 go_enter Tryd.func65, Tryd.ntmps65
 go_upto_region 1 with (first | ((with_reducible refine gate_dst (N := 1) rfl ?_); refine box_event ?hg (N := 1) ?hd (cs := #[.int .u8 a0_0, .int .u32 a0_1, .string a0_2, .string a0_3]) (t := 60) ?hr ?_; (case hd => rfl); (case hg => rfl); (case hr => exact z65z1); intro gb101 hg w3 hbox hb; have n0_ := Aside0.mk (below_step y0_ hb); have n1_ := Aside0.mk (hbox); have n2_ := Aside0.mk ((by rw [hg]; exact (below_size y0_) : w.heap.size ≤ gb101)); have n3_ := Aside0.mk ((by rw [hg]; exact (below_size y0_) : w.heap.size ≤ gb101)); replace HB := n0_; have BK101 := n1_; have GW101 := n2_; have GE101 := n3_; clear n0_ n1_ n2_ n3_; clear hb hbox hg))
 repeat (go_quiet (first | ((with_reducible refine gate_dst (N := 1) rfl ?_); refine box_event ?hg (N := 1) ?hd (cs := #[.int .u8 a0_0, .int .u32 a0_1, .string a0_2, .string a0_3]) (t := 60) ?hr ?_; (case hd => rfl); (case hg => rfl); (case hr => exact z65z1); intro gb101 hg w3 hbox hb; have n0_ := Aside0.mk (below_step y0_ hb); have n1_ := Aside0.mk (hbox); have n2_ := Aside0.mk ((by rw [hg]; exact (below_size y0_) : w.heap.size ≤ gb101)); have n3_ := Aside0.mk ((by rw [hg]; exact (below_size y0_) : w.heap.size ≤ gb101)); replace HB := n0_; have BK101 := n1_; have GW101 := n2_; have GE101 := n3_; clear n0_ n1_ n2_ n3_; clear hb hbox hg)); go_upto_region 1 with (first | ((with_reducible refine gate_dst (N := 1) rfl ?_); refine box_event ?hg (N := 1) ?hd (cs := #[.int .u8 a0_0, .int .u32 a0_1, .string a0_2, .string a0_3]) (t := 60) ?hr ?_; (case hd => rfl); (case hg => rfl); (case hr => exact z65z1); intro gb101 hg w3 hbox hb; have n0_ := Aside0.mk (below_step y0_ hb); have n1_ := Aside0.mk (hbox); have n2_ := Aside0.mk ((by rw [hg]; exact (below_size y0_) : w.heap.size ≤ gb101)); have n3_ := Aside0.mk ((by rw [hg]; exact (below_size y0_) : w.heap.size ≤ gb101)); replace HB := n0_; have BK101 := n1_; have GW101 := n2_; have GE101 := n3_; clear n0_ n1_ n2_ n3_; clear hb hbox hg)))
 (try simp only [Act.put, List.setIfInBounds_toArray, List.set_cons_zero, List.set_cons_succ])
 go_cut [3, 4] (fun v3 v4 wc => ∃ (kq : Nat) (x3_1 : Bool) (x4_1 : Bool), v3 = .bool x3_1 ∧ v4 = .bool x4_1 ∧ Aside0 (prop_Right.j0 kq x3_1 x4_1 a0_0 a0_1 a0_2 a0_3 = some r) ∧ Aside0 (kq ≤ k) ∧ Aside0 (wc.heap[gb101]? = some (.cells #[.int .u8 a0_0, .int .u32 a0_1, .string a0_2, .string a0_3] 60 (0, 0))) ∧ Aside0 (Below w.heap.size w wc))
 case first =>
  have H := HC2.out
  clear HC2
  by_cases c4 : a0_2.toList = ([] : List UInt8)
  ·rw [if_pos c4] at H
   obtain ⟨c4b0, c4b1⟩ := eqt_ c4
   clear c4
   (first | rw [c4b0] | (simp only [i64_w, i32_w]; rw [c4b0]) | skip)
   have H' := Aside0.mk H
   clear H
   obtain ⟨hcz5_0, hcz5_1, hcz5_2, hcz5_3⟩ := ccs4_ BK101.out
   obtain ⟨hfz5_0, hfz5_1, hfz5_2, hfz5_3⟩ := fzs4_ BK101.out
   go_wp2
   repeat (go_quiet (fail); try go_wp2)
   go_meet
   case rel => exact ⟨_, ((a0_3.toList == ([] : List UInt8))), ((a0_1 == 0)), y7_, y7_, H', ⟨y19_⟩, ⟨y3_⟩, ⟨y1_⟩⟩
  ·rw [if_neg c4] at H
   obtain ⟨c4b0, c4b1⟩ := eqf_ c4
   (first | rw [c4b0] | (simp only [i64_w, i32_w]; rw [c4b0]) | skip)
   have H' := Aside0.mk H
   clear H
   obtain ⟨hcz6_0, hcz6_1, hcz6_2, hcz6_3⟩ := ccs4_ BK101.out
   obtain ⟨hfz6_0, hfz6_1, hfz6_2, hfz6_3⟩ := fzs4_ BK101.out
   go_wp2
   repeat (go_quiet (fail); try go_wp2)
   go_meet
   case rel => exact ⟨_, (false), ((a0_1 == 0)), y7_, y7_, H', ⟨y19_⟩, ⟨y3_⟩, ⟨y1_⟩⟩
 case rest =>
  clear HC2
  try clear p2
  try clear c4
  try clear c4b0
  try clear c4b1
  try clear c6
  try clear hcz5_0
  try clear hcz5_1
  try clear hcz5_2
  try clear hcz5_3
  try clear hcz6_0
  try clear hcz6_1
  try clear hcz6_2
  try clear hcz6_3
  try clear hfz5_0
  try clear hfz5_1
  try clear hfz5_2
  try clear hfz5_3
  try clear hfz6_0
  try clear hfz6_1
  try clear hfz6_2
  try clear hfz6_3
  obtain ⟨kq, x3_1, x4_1, rfl, rfl, HA, HJ1, BK101, HB⟩ := hcut
  cases kq with
  | zero => exact absurd HA.out (by simp [prop_Right.j0])
  | succ kj1 =>
   have H := HA.out
   clear HA
   simp only [prop_Right.j0] at H
   replace H := Option.bind_eq_some_iff.mp H
   obtain ⟨t102, A70, H⟩ := H
   try dsimp -simprocs only at H
   have A7 := Aside0.mk A70
   clear A70
   by_cases c8 : t102 = 1
   ·rw [if_pos c8] at H
    obtain ⟨c8b0, c8b1⟩ := eqt_ c8
    clear c8
    by_cases c9 : a0_1 < 256
    ·rw [if_pos c9] at H
     have c9b0 := decide_eq_true c9
     clear c9
     obtain rfl := Option.some.inj H
     obtain ⟨hcz10_0, hcz10_1, hcz10_2, hcz10_3⟩ := ccs4_ BK101.out
     obtain ⟨hfz10_0, hfz10_1, hfz10_2, hfz10_3⟩ := fzs4_ BK101.out
     go_wp2_with (first | (go_at_call 82; (with_reducible refine (prop_Type.calls a0_0 t102 _ A7.out).mono ?_); rintro e w11 ⟨rfl, hb⟩; have n0_ := Aside0.mk (blk_below (g := gb101) (o := .cells #[.int .u8 a0_0, .int .u32 a0_1, .string a0_2, .string a0_3] 60 (0, 0)) y3_ hb); have n1_ := Aside0.mk (below_step y1_ hb); replace BK101 := n0_; replace HB := n1_; clear n0_ n1_; clear hb; obtain ⟨hcz12_0, hcz12_1, hcz12_2, hcz12_3⟩ := ccs4_ BK101.out))
     repeat (go_quiet (first | (go_at_call 82; (with_reducible refine (prop_Type.calls a0_0 t102 _ A7.out).mono ?_); rintro e w11 ⟨rfl, hb⟩; have n0_ := Aside0.mk (blk_below (g := gb101) (o := .cells #[.int .u8 a0_0, .int .u32 a0_1, .string a0_2, .string a0_3] 60 (0, 0)) y3_ hb); have n1_ := Aside0.mk (below_step y1_ hb); replace BK101 := n0_; replace HB := n1_; clear n0_ n1_; clear hb; obtain ⟨hcz12_0, hcz12_1, hcz12_2, hcz12_3⟩ := ccs4_ BK101.out)); try go_wp2_with (first | (go_at_call 82; (with_reducible refine (prop_Type.calls a0_0 t102 _ A7.out).mono ?_); rintro e w11 ⟨rfl, hb⟩; have n0_ := Aside0.mk (blk_below (g := gb101) (o := .cells #[.int .u8 a0_0, .int .u32 a0_1, .string a0_2, .string a0_3] 60 (0, 0)) y3_ hb); have n1_ := Aside0.mk (below_step y1_ hb); replace BK101 := n0_; replace HB := n1_; clear n0_ n1_; clear hb; obtain ⟨hcz12_0, hcz12_1, hcz12_2, hcz12_3⟩ := ccs4_ BK101.out)))
     go_ret
     exact ⟨y4_, y1_⟩
    ·rw [if_neg c9] at H
     have c9b0 := decide_eq_false c9
     clear c9
     obtain rfl := Option.some.inj H
     obtain ⟨hcz13_0, hcz13_1, hcz13_2, hcz13_3⟩ := ccs4_ BK101.out
     obtain ⟨hfz13_0, hfz13_1, hfz13_2, hfz13_3⟩ := fzs4_ BK101.out
     go_wp2_with (first | (go_at_call 82; (with_reducible refine (prop_Type.calls a0_0 t102 _ A7.out).mono ?_); rintro e w14 ⟨rfl, hb⟩; have n0_ := Aside0.mk (blk_below (g := gb101) (o := .cells #[.int .u8 a0_0, .int .u32 a0_1, .string a0_2, .string a0_3] 60 (0, 0)) y3_ hb); have n1_ := Aside0.mk (below_step y1_ hb); replace BK101 := n0_; replace HB := n1_; clear n0_ n1_; clear hb; obtain ⟨hcz15_0, hcz15_1, hcz15_2, hcz15_3⟩ := ccs4_ BK101.out))
     repeat (go_quiet (first | (go_at_call 82; (with_reducible refine (prop_Type.calls a0_0 t102 _ A7.out).mono ?_); rintro e w14 ⟨rfl, hb⟩; have n0_ := Aside0.mk (blk_below (g := gb101) (o := .cells #[.int .u8 a0_0, .int .u32 a0_1, .string a0_2, .string a0_3] 60 (0, 0)) y3_ hb); have n1_ := Aside0.mk (below_step y1_ hb); replace BK101 := n0_; replace HB := n1_; clear n0_ n1_; clear hb; obtain ⟨hcz15_0, hcz15_1, hcz15_2, hcz15_3⟩ := ccs4_ BK101.out)); try go_wp2_with (first | (go_at_call 82; (with_reducible refine (prop_Type.calls a0_0 t102 _ A7.out).mono ?_); rintro e w14 ⟨rfl, hb⟩; have n0_ := Aside0.mk (blk_below (g := gb101) (o := .cells #[.int .u8 a0_0, .int .u32 a0_1, .string a0_2, .string a0_3] 60 (0, 0)) y3_ hb); have n1_ := Aside0.mk (below_step y1_ hb); replace BK101 := n0_; replace HB := n1_; clear n0_ n1_; clear hb; obtain ⟨hcz15_0, hcz15_1, hcz15_2, hcz15_3⟩ := ccs4_ BK101.out)))
     go_ret
     exact ⟨y4_, y1_⟩
   ·rw [if_neg c8] at H
    obtain ⟨c8b0, c8b1⟩ := eqf_ c8
    by_cases c16 : t102 = 2
    ·rw [if_pos c16] at H
     obtain ⟨c16b0, c16b1⟩ := eqt_ c16
     clear c16
     by_cases c17 : a0_1 < 65536
     ·rw [if_pos c17] at H
      have c17b0 := decide_eq_true c17
      clear c17
      obtain rfl := Option.some.inj H
      have hcz18_0 : wc.cell? ⟨gb101, 0, none⟩ = some (.int .u8 a0_0) := (blk_cell BK101.out 0).trans rfl
      have hcz18_1 : wc.cell? ⟨gb101, 1, none⟩ = some (.int .u32 a0_1) := (blk_cell BK101.out 1).trans rfl
      have hcz18_2 : wc.cell? ⟨gb101, 2, none⟩ = some (.string a0_2) := (blk_cell BK101.out 2).trans rfl
      have hcz18_3 : wc.cell? ⟨gb101, 3, none⟩ = some (.string a0_3) := (blk_cell BK101.out 3).trans rfl
      obtain ⟨hfz18_0, hfz18_1, hfz18_2, hfz18_3⟩ := fzs4_ BK101.out
      go_wp2_with (first | (go_at_call 82; (with_reducible refine (prop_Type.calls a0_0 t102 _ A7.out).mono ?_); rintro e w19 ⟨rfl, hb⟩; have n0_ := Aside0.mk (blk_below (g := gb101) (o := .cells #[.int .u8 a0_0, .int .u32 a0_1, .string a0_2, .string a0_3] 60 (0, 0)) y3_ hb); have n1_ := Aside0.mk (below_step y1_ hb); replace BK101 := n0_; replace HB := n1_; clear n0_ n1_; clear hb; obtain ⟨hcz20_0, hcz20_1, hcz20_2, hcz20_3⟩ := ccs4_ BK101.out))
      repeat (go_quiet (first | (go_at_call 82; (with_reducible refine (prop_Type.calls a0_0 t102 _ A7.out).mono ?_); rintro e w19 ⟨rfl, hb⟩; have n0_ := Aside0.mk (blk_below (g := gb101) (o := .cells #[.int .u8 a0_0, .int .u32 a0_1, .string a0_2, .string a0_3] 60 (0, 0)) y3_ hb); have n1_ := Aside0.mk (below_step y1_ hb); replace BK101 := n0_; replace HB := n1_; clear n0_ n1_; clear hb; obtain ⟨hcz20_0, hcz20_1, hcz20_2, hcz20_3⟩ := ccs4_ BK101.out)); try go_wp2_with (first | (go_at_call 82; (with_reducible refine (prop_Type.calls a0_0 t102 _ A7.out).mono ?_); rintro e w19 ⟨rfl, hb⟩; have n0_ := Aside0.mk (blk_below (g := gb101) (o := .cells #[.int .u8 a0_0, .int .u32 a0_1, .string a0_2, .string a0_3] 60 (0, 0)) y3_ hb); have n1_ := Aside0.mk (below_step y1_ hb); replace BK101 := n0_; replace HB := n1_; clear n0_ n1_; clear hb; obtain ⟨hcz20_0, hcz20_1, hcz20_2, hcz20_3⟩ := ccs4_ BK101.out)))
      go_ret
      exact ⟨y4_, y1_⟩
     ·rw [if_neg c17] at H
      have c17b0 := decide_eq_false c17
      clear c17
      obtain rfl := Option.some.inj H
      have hcz21_0 : wc.cell? ⟨gb101, 0, none⟩ = some (.int .u8 a0_0) := (blk_cell BK101.out 0).trans rfl
      have hcz21_1 : wc.cell? ⟨gb101, 1, none⟩ = some (.int .u32 a0_1) := (blk_cell BK101.out 1).trans rfl
      have hcz21_2 : wc.cell? ⟨gb101, 2, none⟩ = some (.string a0_2) := (blk_cell BK101.out 2).trans rfl
      have hcz21_3 : wc.cell? ⟨gb101, 3, none⟩ = some (.string a0_3) := (blk_cell BK101.out 3).trans rfl
      obtain ⟨hfz21_0, hfz21_1, hfz21_2, hfz21_3⟩ := fzs4_ BK101.out
      go_wp2_with (first | (go_at_call 82; (with_reducible refine (prop_Type.calls a0_0 t102 _ A7.out).mono ?_); rintro e w22 ⟨rfl, hb⟩; have n0_ := Aside0.mk (blk_below (g := gb101) (o := .cells #[.int .u8 a0_0, .int .u32 a0_1, .string a0_2, .string a0_3] 60 (0, 0)) y3_ hb); have n1_ := Aside0.mk (below_step y1_ hb); replace BK101 := n0_; replace HB := n1_; clear n0_ n1_; clear hb; obtain ⟨hcz23_0, hcz23_1, hcz23_2, hcz23_3⟩ := ccs4_ BK101.out))
      repeat (go_quiet (first | (go_at_call 82; (with_reducible refine (prop_Type.calls a0_0 t102 _ A7.out).mono ?_); rintro e w22 ⟨rfl, hb⟩; have n0_ := Aside0.mk (blk_below (g := gb101) (o := .cells #[.int .u8 a0_0, .int .u32 a0_1, .string a0_2, .string a0_3] 60 (0, 0)) y3_ hb); have n1_ := Aside0.mk (below_step y1_ hb); replace BK101 := n0_; replace HB := n1_; clear n0_ n1_; clear hb; obtain ⟨hcz23_0, hcz23_1, hcz23_2, hcz23_3⟩ := ccs4_ BK101.out)); try go_wp2_with (first | (go_at_call 82; (with_reducible refine (prop_Type.calls a0_0 t102 _ A7.out).mono ?_); rintro e w22 ⟨rfl, hb⟩; have n0_ := Aside0.mk (blk_below (g := gb101) (o := .cells #[.int .u8 a0_0, .int .u32 a0_1, .string a0_2, .string a0_3] 60 (0, 0)) y3_ hb); have n1_ := Aside0.mk (below_step y1_ hb); replace BK101 := n0_; replace HB := n1_; clear n0_ n1_; clear hb; obtain ⟨hcz23_0, hcz23_1, hcz23_2, hcz23_3⟩ := ccs4_ BK101.out)))
      go_ret
      exact ⟨y4_, y1_⟩
    ·rw [if_neg c16] at H
     obtain ⟨c16b0, c16b1⟩ := eqf_ c16
     by_cases c24 : t102 = 3
     ·rw [if_pos c24] at H
      obtain ⟨c24b0, c24b1⟩ := eqt_ c24
      clear c24
      obtain rfl := Option.some.inj H
      have hcz25_0 : wc.cell? ⟨gb101, 0, none⟩ = some (.int .u8 a0_0) := (blk_cell BK101.out 0).trans rfl
      have hcz25_1 : wc.cell? ⟨gb101, 1, none⟩ = some (.int .u32 a0_1) := (blk_cell BK101.out 1).trans rfl
      have hcz25_2 : wc.cell? ⟨gb101, 2, none⟩ = some (.string a0_2) := (blk_cell BK101.out 2).trans rfl
      have hcz25_3 : wc.cell? ⟨gb101, 3, none⟩ = some (.string a0_3) := (blk_cell BK101.out 3).trans rfl
      obtain ⟨hfz25_0, hfz25_1, hfz25_2, hfz25_3⟩ := fzs4_ BK101.out
      go_wp2_with (first | (go_at_call 82; (with_reducible refine (prop_Type.calls a0_0 t102 _ A7.out).mono ?_); rintro e w26 ⟨rfl, hb⟩; have n0_ := Aside0.mk (blk_below (g := gb101) (o := .cells #[.int .u8 a0_0, .int .u32 a0_1, .string a0_2, .string a0_3] 60 (0, 0)) y3_ hb); have n1_ := Aside0.mk (below_step y1_ hb); replace BK101 := n0_; replace HB := n1_; clear n0_ n1_; clear hb))
      repeat (go_quiet (first | (go_at_call 82; (with_reducible refine (prop_Type.calls a0_0 t102 _ A7.out).mono ?_); rintro e w26 ⟨rfl, hb⟩; have n0_ := Aside0.mk (blk_below (g := gb101) (o := .cells #[.int .u8 a0_0, .int .u32 a0_1, .string a0_2, .string a0_3] 60 (0, 0)) y3_ hb); have n1_ := Aside0.mk (below_step y1_ hb); replace BK101 := n0_; replace HB := n1_; clear n0_ n1_; clear hb)); try go_wp2_with (first | (go_at_call 82; (with_reducible refine (prop_Type.calls a0_0 t102 _ A7.out).mono ?_); rintro e w26 ⟨rfl, hb⟩; have n0_ := Aside0.mk (blk_below (g := gb101) (o := .cells #[.int .u8 a0_0, .int .u32 a0_1, .string a0_2, .string a0_3] 60 (0, 0)) y3_ hb); have n1_ := Aside0.mk (below_step y1_ hb); replace BK101 := n0_; replace HB := n1_; clear n0_ n1_; clear hb)))
      go_ret
      exact ⟨y4_, y1_⟩
     ·rw [if_neg c24] at H
      obtain ⟨c24b0, c24b1⟩ := eqf_ c24
      by_cases c27 : t102 = 4
      ·rw [if_pos c27] at H
       obtain ⟨c27b0, c27b1⟩ := eqt_ c27
       clear c27
       by_cases c28 : a0_1 ≤ 268435455
       ·rw [if_pos c28] at H
        have c28b0 := decide_eq_true c28
        clear c28
        obtain rfl := Option.some.inj H
        have hcz29_0 : wc.cell? ⟨gb101, 0, none⟩ = some (.int .u8 a0_0) := (blk_cell BK101.out 0).trans rfl
        have hcz29_1 : wc.cell? ⟨gb101, 1, none⟩ = some (.int .u32 a0_1) := (blk_cell BK101.out 1).trans rfl
        have hcz29_2 : wc.cell? ⟨gb101, 2, none⟩ = some (.string a0_2) := (blk_cell BK101.out 2).trans rfl
        have hcz29_3 : wc.cell? ⟨gb101, 3, none⟩ = some (.string a0_3) := (blk_cell BK101.out 3).trans rfl
        obtain ⟨hfz29_0, hfz29_1, hfz29_2, hfz29_3⟩ := fzs4_ BK101.out
        go_wp2_with (first | (go_at_call 82; (with_reducible refine (prop_Type.calls a0_0 t102 _ A7.out).mono ?_); rintro e w30 ⟨rfl, hb⟩; have n0_ := Aside0.mk (blk_below (g := gb101) (o := .cells #[.int .u8 a0_0, .int .u32 a0_1, .string a0_2, .string a0_3] 60 (0, 0)) y3_ hb); have n1_ := Aside0.mk (below_step y1_ hb); replace BK101 := n0_; replace HB := n1_; clear n0_ n1_; clear hb; obtain ⟨hcz31_0, hcz31_1, hcz31_2, hcz31_3⟩ := ccs4_ BK101.out))
        repeat (go_quiet (first | (go_at_call 82; (with_reducible refine (prop_Type.calls a0_0 t102 _ A7.out).mono ?_); rintro e w30 ⟨rfl, hb⟩; have n0_ := Aside0.mk (blk_below (g := gb101) (o := .cells #[.int .u8 a0_0, .int .u32 a0_1, .string a0_2, .string a0_3] 60 (0, 0)) y3_ hb); have n1_ := Aside0.mk (below_step y1_ hb); replace BK101 := n0_; replace HB := n1_; clear n0_ n1_; clear hb; obtain ⟨hcz31_0, hcz31_1, hcz31_2, hcz31_3⟩ := ccs4_ BK101.out)); try go_wp2_with (first | (go_at_call 82; (with_reducible refine (prop_Type.calls a0_0 t102 _ A7.out).mono ?_); rintro e w30 ⟨rfl, hb⟩; have n0_ := Aside0.mk (blk_below (g := gb101) (o := .cells #[.int .u8 a0_0, .int .u32 a0_1, .string a0_2, .string a0_3] 60 (0, 0)) y3_ hb); have n1_ := Aside0.mk (below_step y1_ hb); replace BK101 := n0_; replace HB := n1_; clear n0_ n1_; clear hb; obtain ⟨hcz31_0, hcz31_1, hcz31_2, hcz31_3⟩ := ccs4_ BK101.out)))
        go_ret
        exact ⟨y4_, y1_⟩
       ·rw [if_neg c28] at H
        have c28b0 := decide_eq_false c28
        clear c28
        obtain rfl := Option.some.inj H
        have hcz32_0 : wc.cell? ⟨gb101, 0, none⟩ = some (.int .u8 a0_0) := (blk_cell BK101.out 0).trans rfl
        have hcz32_1 : wc.cell? ⟨gb101, 1, none⟩ = some (.int .u32 a0_1) := (blk_cell BK101.out 1).trans rfl
        have hcz32_2 : wc.cell? ⟨gb101, 2, none⟩ = some (.string a0_2) := (blk_cell BK101.out 2).trans rfl
        have hcz32_3 : wc.cell? ⟨gb101, 3, none⟩ = some (.string a0_3) := (blk_cell BK101.out 3).trans rfl
        obtain ⟨hfz32_0, hfz32_1, hfz32_2, hfz32_3⟩ := fzs4_ BK101.out
        go_wp2_with (first | (go_at_call 82; (with_reducible refine (prop_Type.calls a0_0 t102 _ A7.out).mono ?_); rintro e w33 ⟨rfl, hb⟩; have n0_ := Aside0.mk (blk_below (g := gb101) (o := .cells #[.int .u8 a0_0, .int .u32 a0_1, .string a0_2, .string a0_3] 60 (0, 0)) y3_ hb); have n1_ := Aside0.mk (below_step y1_ hb); replace BK101 := n0_; replace HB := n1_; clear n0_ n1_; clear hb; obtain ⟨hcz34_0, hcz34_1, hcz34_2, hcz34_3⟩ := ccs4_ BK101.out))
        repeat (go_quiet (first | (go_at_call 82; (with_reducible refine (prop_Type.calls a0_0 t102 _ A7.out).mono ?_); rintro e w33 ⟨rfl, hb⟩; have n0_ := Aside0.mk (blk_below (g := gb101) (o := .cells #[.int .u8 a0_0, .int .u32 a0_1, .string a0_2, .string a0_3] 60 (0, 0)) y3_ hb); have n1_ := Aside0.mk (below_step y1_ hb); replace BK101 := n0_; replace HB := n1_; clear n0_ n1_; clear hb; obtain ⟨hcz34_0, hcz34_1, hcz34_2, hcz34_3⟩ := ccs4_ BK101.out)); try go_wp2_with (first | (go_at_call 82; (with_reducible refine (prop_Type.calls a0_0 t102 _ A7.out).mono ?_); rintro e w33 ⟨rfl, hb⟩; have n0_ := Aside0.mk (blk_below (g := gb101) (o := .cells #[.int .u8 a0_0, .int .u32 a0_1, .string a0_2, .string a0_3] 60 (0, 0)) y3_ hb); have n1_ := Aside0.mk (below_step y1_ hb); replace BK101 := n0_; replace HB := n1_; clear n0_ n1_; clear hb; obtain ⟨hcz34_0, hcz34_1, hcz34_2, hcz34_3⟩ := ccs4_ BK101.out)))
        go_ret
        exact ⟨y4_, y1_⟩
      ·rw [if_neg c27] at H
       obtain ⟨c27b0, c27b1⟩ := eqf_ c27
       by_cases c35 : t102 = 5
       ·rw [if_pos c35] at H
        obtain ⟨c35b0, c35b1⟩ := eqt_ c35
        clear c35
        by_cases c36 : x4_1 = true
        ·subst c36
         have H1 : ((text_Right.f a0_2).bind fun t103 => (if t103 = true then (some (a0_3.toList == ([] : List UInt8))) else (some false))) = some r := by rw [if_pos rfl] at H; exact H
         clear H
         have H := H1
         clear H1
         replace H := Option.bind_eq_some_iff.mp H
         obtain ⟨t103, A370, H⟩ := H
         replace H : (if t103 = true then (some (a0_3.toList == ([] : List UInt8))) else (some false)) = some r := H
         have A37 := Aside0.mk A370
         clear A370
         by_cases c38 : t103 = true
         ·subst c38
          have H1 : (some (a0_3.toList == ([] : List UInt8))) = some r := by rw [if_pos rfl] at H; exact H
          clear H
          have H := H1
          clear H1
          obtain rfl := Option.some.inj H
          have hcz39_0 : wc.cell? ⟨gb101, 0, none⟩ = some (.int .u8 a0_0) := (blk_cell BK101.out 0).trans rfl
          have hcz39_1 : wc.cell? ⟨gb101, 1, none⟩ = some (.int .u32 a0_1) := (blk_cell BK101.out 1).trans rfl
          have hcz39_2 : wc.cell? ⟨gb101, 2, none⟩ = some (.string a0_2) := (blk_cell BK101.out 2).trans rfl
          have hcz39_3 : wc.cell? ⟨gb101, 3, none⟩ = some (.string a0_3) := (blk_cell BK101.out 3).trans rfl
          obtain ⟨hfz39_0, hfz39_1, hfz39_2, hfz39_3⟩ := fzs4_ BK101.out
          go_wp2_with (first | (go_at_call 82; (with_reducible refine (prop_Type.calls a0_0 t102 _ A7.out).mono ?_); rintro e w40 ⟨rfl, hb⟩; have n0_ := Aside0.mk (blk_below (g := gb101) (o := .cells #[.int .u8 a0_0, .int .u32 a0_1, .string a0_2, .string a0_3] 60 (0, 0)) y3_ hb); have n1_ := Aside0.mk (below_step y1_ hb); replace BK101 := n0_; replace HB := n1_; clear n0_ n1_; clear hb; obtain ⟨hcz41_0, hcz41_1, hcz41_2, hcz41_3⟩ := ccs4_ BK101.out) | (go_at_call 88; (with_reducible refine (text_Right.calls a0_2 true _ ?side1 A37.out).mono ?_); (case side1 => exact z65z0); rintro e w42 ⟨rfl, hb⟩; have n0_ := Aside0.mk (blk_below (g := gb101) (o := .cells #[.int .u8 a0_0, .int .u32 a0_1, .string a0_2, .string a0_3] 60 (0, 0)) y3_ hb); have n1_ := Aside0.mk (below_step y1_ hb); replace BK101 := n0_; replace HB := n1_; clear n0_ n1_; clear hb; obtain ⟨hcz43_0, hcz43_1, hcz43_2, hcz43_3⟩ := ccs4_ BK101.out))
          repeat (go_quiet (first | (go_at_call 82; (with_reducible refine (prop_Type.calls a0_0 t102 _ A7.out).mono ?_); rintro e w40 ⟨rfl, hb⟩; have n0_ := Aside0.mk (blk_below (g := gb101) (o := .cells #[.int .u8 a0_0, .int .u32 a0_1, .string a0_2, .string a0_3] 60 (0, 0)) y3_ hb); have n1_ := Aside0.mk (below_step y1_ hb); replace BK101 := n0_; replace HB := n1_; clear n0_ n1_; clear hb; obtain ⟨hcz41_0, hcz41_1, hcz41_2, hcz41_3⟩ := ccs4_ BK101.out) | (go_at_call 88; (with_reducible refine (text_Right.calls a0_2 true _ ?side1 A37.out).mono ?_); (case side1 => exact z65z0); rintro e w42 ⟨rfl, hb⟩; have n0_ := Aside0.mk (blk_below (g := gb101) (o := .cells #[.int .u8 a0_0, .int .u32 a0_1, .string a0_2, .string a0_3] 60 (0, 0)) y3_ hb); have n1_ := Aside0.mk (below_step y1_ hb); replace BK101 := n0_; replace HB := n1_; clear n0_ n1_; clear hb; obtain ⟨hcz43_0, hcz43_1, hcz43_2, hcz43_3⟩ := ccs4_ BK101.out)); try go_wp2_with (first | (go_at_call 82; (with_reducible refine (prop_Type.calls a0_0 t102 _ A7.out).mono ?_); rintro e w40 ⟨rfl, hb⟩; have n0_ := Aside0.mk (blk_below (g := gb101) (o := .cells #[.int .u8 a0_0, .int .u32 a0_1, .string a0_2, .string a0_3] 60 (0, 0)) y3_ hb); have n1_ := Aside0.mk (below_step y1_ hb); replace BK101 := n0_; replace HB := n1_; clear n0_ n1_; clear hb; obtain ⟨hcz41_0, hcz41_1, hcz41_2, hcz41_3⟩ := ccs4_ BK101.out) | (go_at_call 88; (with_reducible refine (text_Right.calls a0_2 true _ ?side1 A37.out).mono ?_); (case side1 => exact z65z0); rintro e w42 ⟨rfl, hb⟩; have n0_ := Aside0.mk (blk_below (g := gb101) (o := .cells #[.int .u8 a0_0, .int .u32 a0_1, .string a0_2, .string a0_3] 60 (0, 0)) y3_ hb); have n1_ := Aside0.mk (below_step y1_ hb); replace BK101 := n0_; replace HB := n1_; clear n0_ n1_; clear hb; obtain ⟨hcz43_0, hcz43_1, hcz43_2, hcz43_3⟩ := ccs4_ BK101.out)))
          go_ret
          exact ⟨y4_, y1_⟩
         ·replace c38 := Bool.eq_false_iff.mpr c38
          subst c38
          replace H : (some false) = some r := by rw [if_neg (show ¬ (false = true) by decide)] at H; exact H
          obtain rfl := Option.some.inj H
          have hcz44_0 : wc.cell? ⟨gb101, 0, none⟩ = some (.int .u8 a0_0) := (blk_cell BK101.out 0).trans rfl
          have hcz44_1 : wc.cell? ⟨gb101, 1, none⟩ = some (.int .u32 a0_1) := (blk_cell BK101.out 1).trans rfl
          have hcz44_2 : wc.cell? ⟨gb101, 2, none⟩ = some (.string a0_2) := (blk_cell BK101.out 2).trans rfl
          have hcz44_3 : wc.cell? ⟨gb101, 3, none⟩ = some (.string a0_3) := (blk_cell BK101.out 3).trans rfl
          obtain ⟨hfz44_0, hfz44_1, hfz44_2, hfz44_3⟩ := fzs4_ BK101.out
          go_wp2_with (first | (go_at_call 82; (with_reducible refine (prop_Type.calls a0_0 t102 _ A7.out).mono ?_); rintro e w45 ⟨rfl, hb⟩; have n0_ := Aside0.mk (blk_below (g := gb101) (o := .cells #[.int .u8 a0_0, .int .u32 a0_1, .string a0_2, .string a0_3] 60 (0, 0)) y3_ hb); have n1_ := Aside0.mk (below_step y1_ hb); replace BK101 := n0_; replace HB := n1_; clear n0_ n1_; clear hb; obtain ⟨hcz46_0, hcz46_1, hcz46_2, hcz46_3⟩ := ccs4_ BK101.out) | (go_at_call 88; (with_reducible refine (text_Right.calls a0_2 false _ ?side1 A37.out).mono ?_); (case side1 => exact z65z0); rintro e w47 ⟨rfl, hb⟩; have n0_ := Aside0.mk (blk_below (g := gb101) (o := .cells #[.int .u8 a0_0, .int .u32 a0_1, .string a0_2, .string a0_3] 60 (0, 0)) y3_ hb); have n1_ := Aside0.mk (below_step y1_ hb); replace BK101 := n0_; replace HB := n1_; clear n0_ n1_; clear hb))
          repeat (go_quiet (first | (go_at_call 82; (with_reducible refine (prop_Type.calls a0_0 t102 _ A7.out).mono ?_); rintro e w45 ⟨rfl, hb⟩; have n0_ := Aside0.mk (blk_below (g := gb101) (o := .cells #[.int .u8 a0_0, .int .u32 a0_1, .string a0_2, .string a0_3] 60 (0, 0)) y3_ hb); have n1_ := Aside0.mk (below_step y1_ hb); replace BK101 := n0_; replace HB := n1_; clear n0_ n1_; clear hb; obtain ⟨hcz46_0, hcz46_1, hcz46_2, hcz46_3⟩ := ccs4_ BK101.out) | (go_at_call 88; (with_reducible refine (text_Right.calls a0_2 false _ ?side1 A37.out).mono ?_); (case side1 => exact z65z0); rintro e w47 ⟨rfl, hb⟩; have n0_ := Aside0.mk (blk_below (g := gb101) (o := .cells #[.int .u8 a0_0, .int .u32 a0_1, .string a0_2, .string a0_3] 60 (0, 0)) y3_ hb); have n1_ := Aside0.mk (below_step y1_ hb); replace BK101 := n0_; replace HB := n1_; clear n0_ n1_; clear hb)); try go_wp2_with (first | (go_at_call 82; (with_reducible refine (prop_Type.calls a0_0 t102 _ A7.out).mono ?_); rintro e w45 ⟨rfl, hb⟩; have n0_ := Aside0.mk (blk_below (g := gb101) (o := .cells #[.int .u8 a0_0, .int .u32 a0_1, .string a0_2, .string a0_3] 60 (0, 0)) y3_ hb); have n1_ := Aside0.mk (below_step y1_ hb); replace BK101 := n0_; replace HB := n1_; clear n0_ n1_; clear hb; obtain ⟨hcz46_0, hcz46_1, hcz46_2, hcz46_3⟩ := ccs4_ BK101.out) | (go_at_call 88; (with_reducible refine (text_Right.calls a0_2 false _ ?side1 A37.out).mono ?_); (case side1 => exact z65z0); rintro e w47 ⟨rfl, hb⟩; have n0_ := Aside0.mk (blk_below (g := gb101) (o := .cells #[.int .u8 a0_0, .int .u32 a0_1, .string a0_2, .string a0_3] 60 (0, 0)) y3_ hb); have n1_ := Aside0.mk (below_step y1_ hb); replace BK101 := n0_; replace HB := n1_; clear n0_ n1_; clear hb)))
          go_ret
          exact ⟨y4_, y1_⟩
        ·replace c36 := Bool.eq_false_iff.mpr c36
         subst c36
         replace H : (some false) = some r := by rw [if_neg (show ¬ (false = true) by decide)] at H; exact H
         obtain rfl := Option.some.inj H
         have hcz48_0 : wc.cell? ⟨gb101, 0, none⟩ = some (.int .u8 a0_0) := (blk_cell BK101.out 0).trans rfl
         have hcz48_1 : wc.cell? ⟨gb101, 1, none⟩ = some (.int .u32 a0_1) := (blk_cell BK101.out 1).trans rfl
         have hcz48_2 : wc.cell? ⟨gb101, 2, none⟩ = some (.string a0_2) := (blk_cell BK101.out 2).trans rfl
         have hcz48_3 : wc.cell? ⟨gb101, 3, none⟩ = some (.string a0_3) := (blk_cell BK101.out 3).trans rfl
         obtain ⟨hfz48_0, hfz48_1, hfz48_2, hfz48_3⟩ := fzs4_ BK101.out
         go_wp2_with (first | (go_at_call 82; (with_reducible refine (prop_Type.calls a0_0 t102 _ A7.out).mono ?_); rintro e w49 ⟨rfl, hb⟩; have n0_ := Aside0.mk (blk_below (g := gb101) (o := .cells #[.int .u8 a0_0, .int .u32 a0_1, .string a0_2, .string a0_3] 60 (0, 0)) y3_ hb); have n1_ := Aside0.mk (below_step y1_ hb); replace BK101 := n0_; replace HB := n1_; clear n0_ n1_; clear hb))
         repeat (go_quiet (first | (go_at_call 82; (with_reducible refine (prop_Type.calls a0_0 t102 _ A7.out).mono ?_); rintro e w49 ⟨rfl, hb⟩; have n0_ := Aside0.mk (blk_below (g := gb101) (o := .cells #[.int .u8 a0_0, .int .u32 a0_1, .string a0_2, .string a0_3] 60 (0, 0)) y3_ hb); have n1_ := Aside0.mk (below_step y1_ hb); replace BK101 := n0_; replace HB := n1_; clear n0_ n1_; clear hb)); try go_wp2_with (first | (go_at_call 82; (with_reducible refine (prop_Type.calls a0_0 t102 _ A7.out).mono ?_); rintro e w49 ⟨rfl, hb⟩; have n0_ := Aside0.mk (blk_below (g := gb101) (o := .cells #[.int .u8 a0_0, .int .u32 a0_1, .string a0_2, .string a0_3] 60 (0, 0)) y3_ hb); have n1_ := Aside0.mk (below_step y1_ hb); replace BK101 := n0_; replace HB := n1_; clear n0_ n1_; clear hb)))
         go_ret
         exact ⟨y4_, y1_⟩
       ·rw [if_neg c35] at H
        obtain ⟨c35b0, c35b1⟩ := eqf_ c35
        by_cases c50 : t102 = 6
        ·rw [if_pos c50] at H
         obtain ⟨c50b0, c50b1⟩ := eqt_ c50
         clear c50
         by_cases c51 : x4_1 = true
         ·subst c51
          have H1 : (if (a0_2.size : Int) ≤ 65535 then (some (a0_3.toList == ([] : List UInt8))) else (some false)) = some r := by rw [if_pos rfl] at H; exact H
          clear H
          have H := H1
          clear H1
          by_cases c52 : (a0_2.size : Int) ≤ 65535
          ·rw [if_pos c52] at H
           have c52b0 := decide_eq_true c52
           have c52b1 : decide (a0_2.size ≤ 65535) = true := decide_eq_true (by omega)
           clear c52
           obtain rfl := Option.some.inj H
           have hcz53_0 : wc.cell? ⟨gb101, 0, none⟩ = some (.int .u8 a0_0) := (blk_cell BK101.out 0).trans rfl
           have hcz53_1 : wc.cell? ⟨gb101, 1, none⟩ = some (.int .u32 a0_1) := (blk_cell BK101.out 1).trans rfl
           have hcz53_2 : wc.cell? ⟨gb101, 2, none⟩ = some (.string a0_2) := (blk_cell BK101.out 2).trans rfl
           have hcz53_3 : wc.cell? ⟨gb101, 3, none⟩ = some (.string a0_3) := (blk_cell BK101.out 3).trans rfl
           obtain ⟨hfz53_0, hfz53_1, hfz53_2, hfz53_3⟩ := fzs4_ BK101.out
           go_wp2_with (first | (go_at_call 82; (with_reducible refine (prop_Type.calls a0_0 t102 _ A7.out).mono ?_); rintro e w54 ⟨rfl, hb⟩; have n0_ := Aside0.mk (blk_below (g := gb101) (o := .cells #[.int .u8 a0_0, .int .u32 a0_1, .string a0_2, .string a0_3] 60 (0, 0)) y3_ hb); have n1_ := Aside0.mk (below_step y1_ hb); replace BK101 := n0_; replace HB := n1_; clear n0_ n1_; clear hb; obtain ⟨hcz55_0, hcz55_1, hcz55_2, hcz55_3⟩ := ccs4_ BK101.out))
           repeat (go_quiet (first | (go_at_call 82; (with_reducible refine (prop_Type.calls a0_0 t102 _ A7.out).mono ?_); rintro e w54 ⟨rfl, hb⟩; have n0_ := Aside0.mk (blk_below (g := gb101) (o := .cells #[.int .u8 a0_0, .int .u32 a0_1, .string a0_2, .string a0_3] 60 (0, 0)) y3_ hb); have n1_ := Aside0.mk (below_step y1_ hb); replace BK101 := n0_; replace HB := n1_; clear n0_ n1_; clear hb; obtain ⟨hcz55_0, hcz55_1, hcz55_2, hcz55_3⟩ := ccs4_ BK101.out)); try go_wp2_with (first | (go_at_call 82; (with_reducible refine (prop_Type.calls a0_0 t102 _ A7.out).mono ?_); rintro e w54 ⟨rfl, hb⟩; have n0_ := Aside0.mk (blk_below (g := gb101) (o := .cells #[.int .u8 a0_0, .int .u32 a0_1, .string a0_2, .string a0_3] 60 (0, 0)) y3_ hb); have n1_ := Aside0.mk (below_step y1_ hb); replace BK101 := n0_; replace HB := n1_; clear n0_ n1_; clear hb; obtain ⟨hcz55_0, hcz55_1, hcz55_2, hcz55_3⟩ := ccs4_ BK101.out)))
           go_ret
           exact ⟨y4_, y1_⟩
          ·rw [if_neg c52] at H
           have c52b0 := decide_eq_false c52
           have c52b1 : decide (a0_2.size ≤ 65535) = false := decide_eq_false (by omega)
           clear c52
           obtain rfl := Option.some.inj H
           have hcz56_0 : wc.cell? ⟨gb101, 0, none⟩ = some (.int .u8 a0_0) := (blk_cell BK101.out 0).trans rfl
           have hcz56_1 : wc.cell? ⟨gb101, 1, none⟩ = some (.int .u32 a0_1) := (blk_cell BK101.out 1).trans rfl
           have hcz56_2 : wc.cell? ⟨gb101, 2, none⟩ = some (.string a0_2) := (blk_cell BK101.out 2).trans rfl
           have hcz56_3 : wc.cell? ⟨gb101, 3, none⟩ = some (.string a0_3) := (blk_cell BK101.out 3).trans rfl
           obtain ⟨hfz56_0, hfz56_1, hfz56_2, hfz56_3⟩ := fzs4_ BK101.out
           go_wp2_with (first | (go_at_call 82; (with_reducible refine (prop_Type.calls a0_0 t102 _ A7.out).mono ?_); rintro e w57 ⟨rfl, hb⟩; have n0_ := Aside0.mk (blk_below (g := gb101) (o := .cells #[.int .u8 a0_0, .int .u32 a0_1, .string a0_2, .string a0_3] 60 (0, 0)) y3_ hb); have n1_ := Aside0.mk (below_step y1_ hb); replace BK101 := n0_; replace HB := n1_; clear n0_ n1_; clear hb; obtain ⟨hcz58_0, hcz58_1, hcz58_2, hcz58_3⟩ := ccs4_ BK101.out))
           repeat (go_quiet (first | (go_at_call 82; (with_reducible refine (prop_Type.calls a0_0 t102 _ A7.out).mono ?_); rintro e w57 ⟨rfl, hb⟩; have n0_ := Aside0.mk (blk_below (g := gb101) (o := .cells #[.int .u8 a0_0, .int .u32 a0_1, .string a0_2, .string a0_3] 60 (0, 0)) y3_ hb); have n1_ := Aside0.mk (below_step y1_ hb); replace BK101 := n0_; replace HB := n1_; clear n0_ n1_; clear hb; obtain ⟨hcz58_0, hcz58_1, hcz58_2, hcz58_3⟩ := ccs4_ BK101.out)); try go_wp2_with (first | (go_at_call 82; (with_reducible refine (prop_Type.calls a0_0 t102 _ A7.out).mono ?_); rintro e w57 ⟨rfl, hb⟩; have n0_ := Aside0.mk (blk_below (g := gb101) (o := .cells #[.int .u8 a0_0, .int .u32 a0_1, .string a0_2, .string a0_3] 60 (0, 0)) y3_ hb); have n1_ := Aside0.mk (below_step y1_ hb); replace BK101 := n0_; replace HB := n1_; clear n0_ n1_; clear hb; obtain ⟨hcz58_0, hcz58_1, hcz58_2, hcz58_3⟩ := ccs4_ BK101.out)))
           go_ret
           exact ⟨y4_, y1_⟩
         ·replace c51 := Bool.eq_false_iff.mpr c51
          subst c51
          replace H : (some false) = some r := by rw [if_neg (show ¬ (false = true) by decide)] at H; exact H
          obtain rfl := Option.some.inj H
          have hcz59_0 : wc.cell? ⟨gb101, 0, none⟩ = some (.int .u8 a0_0) := (blk_cell BK101.out 0).trans rfl
          have hcz59_1 : wc.cell? ⟨gb101, 1, none⟩ = some (.int .u32 a0_1) := (blk_cell BK101.out 1).trans rfl
          have hcz59_2 : wc.cell? ⟨gb101, 2, none⟩ = some (.string a0_2) := (blk_cell BK101.out 2).trans rfl
          have hcz59_3 : wc.cell? ⟨gb101, 3, none⟩ = some (.string a0_3) := (blk_cell BK101.out 3).trans rfl
          obtain ⟨hfz59_0, hfz59_1, hfz59_2, hfz59_3⟩ := fzs4_ BK101.out
          go_wp2_with (first | (go_at_call 82; (with_reducible refine (prop_Type.calls a0_0 t102 _ A7.out).mono ?_); rintro e w60 ⟨rfl, hb⟩; have n0_ := Aside0.mk (blk_below (g := gb101) (o := .cells #[.int .u8 a0_0, .int .u32 a0_1, .string a0_2, .string a0_3] 60 (0, 0)) y3_ hb); have n1_ := Aside0.mk (below_step y1_ hb); replace BK101 := n0_; replace HB := n1_; clear n0_ n1_; clear hb))
          repeat (go_quiet (first | (go_at_call 82; (with_reducible refine (prop_Type.calls a0_0 t102 _ A7.out).mono ?_); rintro e w60 ⟨rfl, hb⟩; have n0_ := Aside0.mk (blk_below (g := gb101) (o := .cells #[.int .u8 a0_0, .int .u32 a0_1, .string a0_2, .string a0_3] 60 (0, 0)) y3_ hb); have n1_ := Aside0.mk (below_step y1_ hb); replace BK101 := n0_; replace HB := n1_; clear n0_ n1_; clear hb)); try go_wp2_with (first | (go_at_call 82; (with_reducible refine (prop_Type.calls a0_0 t102 _ A7.out).mono ?_); rintro e w60 ⟨rfl, hb⟩; have n0_ := Aside0.mk (blk_below (g := gb101) (o := .cells #[.int .u8 a0_0, .int .u32 a0_1, .string a0_2, .string a0_3] 60 (0, 0)) y3_ hb); have n1_ := Aside0.mk (below_step y1_ hb); replace BK101 := n0_; replace HB := n1_; clear n0_ n1_; clear hb)))
          go_ret
          exact ⟨y4_, y1_⟩
        ·rw [if_neg c50] at H
         obtain ⟨c50b0, c50b1⟩ := eqf_ c50
         by_cases c61 : t102 = 7
         ·rw [if_pos c61] at H
          obtain ⟨c61b0, c61b1⟩ := eqt_ c61
          clear c61
          by_cases c62 : x4_1 = true
          ·subst c62
           have H1 : ((text_Right.f a0_2).bind fun t104 => (if t104 = true then ((text_Right.f a0_3).bind fun t105 => (some t105)) else (some false))) = some r := by rw [if_pos rfl] at H; exact H
           clear H
           have H := H1
           clear H1
           replace H := Option.bind_eq_some_iff.mp H
           obtain ⟨t104, A630, H⟩ := H
           replace H : (if t104 = true then ((text_Right.f a0_3).bind fun t105 => (some t105)) else (some false)) = some r := H
           have A63 := Aside0.mk A630
           clear A630
           by_cases c64 : t104 = true
           ·subst c64
            have H1 : ((text_Right.f a0_3).bind fun t105 => (some t105)) = some r := by rw [if_pos rfl] at H; exact H
            clear H
            have H := H1
            clear H1
            replace H := Option.bind_eq_some_iff.mp H
            obtain ⟨t105, A650, H⟩ := H
            replace H : (some t105) = some r := H
            have A65 := Aside0.mk A650
            clear A650
            obtain rfl := Option.some.inj H
            have hcz66_0 : wc.cell? ⟨gb101, 0, none⟩ = some (.int .u8 a0_0) := (blk_cell BK101.out 0).trans rfl
            have hcz66_1 : wc.cell? ⟨gb101, 1, none⟩ = some (.int .u32 a0_1) := (blk_cell BK101.out 1).trans rfl
            have hcz66_2 : wc.cell? ⟨gb101, 2, none⟩ = some (.string a0_2) := (blk_cell BK101.out 2).trans rfl
            have hcz66_3 : wc.cell? ⟨gb101, 3, none⟩ = some (.string a0_3) := (blk_cell BK101.out 3).trans rfl
            obtain ⟨hfz66_0, hfz66_1, hfz66_2, hfz66_3⟩ := fzs4_ BK101.out
            go_wp2_with (first | (go_at_call 82; (with_reducible refine (prop_Type.calls a0_0 t102 _ A7.out).mono ?_); rintro e w67 ⟨rfl, hb⟩; have n0_ := Aside0.mk (blk_below (g := gb101) (o := .cells #[.int .u8 a0_0, .int .u32 a0_1, .string a0_2, .string a0_3] 60 (0, 0)) y3_ hb); have n1_ := Aside0.mk (below_step y1_ hb); replace BK101 := n0_; replace HB := n1_; clear n0_ n1_; clear hb; obtain ⟨hcz68_0, hcz68_1, hcz68_2, hcz68_3⟩ := ccs4_ BK101.out) | (go_at_call 88; (with_reducible refine (text_Right.calls a0_2 true _ ?side1 A63.out).mono ?_); (case side1 => exact z65z0); rintro e w69 ⟨rfl, hb⟩; have n0_ := Aside0.mk (blk_below (g := gb101) (o := .cells #[.int .u8 a0_0, .int .u32 a0_1, .string a0_2, .string a0_3] 60 (0, 0)) y3_ hb); have n1_ := Aside0.mk (below_step y1_ hb); replace BK101 := n0_; replace HB := n1_; clear n0_ n1_; clear hb; obtain ⟨hcz70_0, hcz70_1, hcz70_2, hcz70_3⟩ := ccs4_ BK101.out) | (go_at_call 88; (with_reducible refine (text_Right.calls a0_3 t105 _ ?side1 A65.out).mono ?_); (case side1 => exact z65z0); rintro e w71 ⟨rfl, hb⟩; have n0_ := Aside0.mk (blk_below (g := gb101) (o := .cells #[.int .u8 a0_0, .int .u32 a0_1, .string a0_2, .string a0_3] 60 (0, 0)) y3_ hb); have n1_ := Aside0.mk (below_step y1_ hb); replace BK101 := n0_; replace HB := n1_; clear n0_ n1_; clear hb))
            repeat (go_quiet (first | (go_at_call 82; (with_reducible refine (prop_Type.calls a0_0 t102 _ A7.out).mono ?_); rintro e w67 ⟨rfl, hb⟩; have n0_ := Aside0.mk (blk_below (g := gb101) (o := .cells #[.int .u8 a0_0, .int .u32 a0_1, .string a0_2, .string a0_3] 60 (0, 0)) y3_ hb); have n1_ := Aside0.mk (below_step y1_ hb); replace BK101 := n0_; replace HB := n1_; clear n0_ n1_; clear hb; obtain ⟨hcz68_0, hcz68_1, hcz68_2, hcz68_3⟩ := ccs4_ BK101.out) | (go_at_call 88; (with_reducible refine (text_Right.calls a0_2 true _ ?side1 A63.out).mono ?_); (case side1 => exact z65z0); rintro e w69 ⟨rfl, hb⟩; have n0_ := Aside0.mk (blk_below (g := gb101) (o := .cells #[.int .u8 a0_0, .int .u32 a0_1, .string a0_2, .string a0_3] 60 (0, 0)) y3_ hb); have n1_ := Aside0.mk (below_step y1_ hb); replace BK101 := n0_; replace HB := n1_; clear n0_ n1_; clear hb; obtain ⟨hcz70_0, hcz70_1, hcz70_2, hcz70_3⟩ := ccs4_ BK101.out) | (go_at_call 88; (with_reducible refine (text_Right.calls a0_3 t105 _ ?side1 A65.out).mono ?_); (case side1 => exact z65z0); rintro e w71 ⟨rfl, hb⟩; have n0_ := Aside0.mk (blk_below (g := gb101) (o := .cells #[.int .u8 a0_0, .int .u32 a0_1, .string a0_2, .string a0_3] 60 (0, 0)) y3_ hb); have n1_ := Aside0.mk (below_step y1_ hb); replace BK101 := n0_; replace HB := n1_; clear n0_ n1_; clear hb)); try go_wp2_with (first | (go_at_call 82; (with_reducible refine (prop_Type.calls a0_0 t102 _ A7.out).mono ?_); rintro e w67 ⟨rfl, hb⟩; have n0_ := Aside0.mk (blk_below (g := gb101) (o := .cells #[.int .u8 a0_0, .int .u32 a0_1, .string a0_2, .string a0_3] 60 (0, 0)) y3_ hb); have n1_ := Aside0.mk (below_step y1_ hb); replace BK101 := n0_; replace HB := n1_; clear n0_ n1_; clear hb; obtain ⟨hcz68_0, hcz68_1, hcz68_2, hcz68_3⟩ := ccs4_ BK101.out) | (go_at_call 88; (with_reducible refine (text_Right.calls a0_2 true _ ?side1 A63.out).mono ?_); (case side1 => exact z65z0); rintro e w69 ⟨rfl, hb⟩; have n0_ := Aside0.mk (blk_below (g := gb101) (o := .cells #[.int .u8 a0_0, .int .u32 a0_1, .string a0_2, .string a0_3] 60 (0, 0)) y3_ hb); have n1_ := Aside0.mk (below_step y1_ hb); replace BK101 := n0_; replace HB := n1_; clear n0_ n1_; clear hb; obtain ⟨hcz70_0, hcz70_1, hcz70_2, hcz70_3⟩ := ccs4_ BK101.out) | (go_at_call 88; (with_reducible refine (text_Right.calls a0_3 t105 _ ?side1 A65.out).mono ?_); (case side1 => exact z65z0); rintro e w71 ⟨rfl, hb⟩; have n0_ := Aside0.mk (blk_below (g := gb101) (o := .cells #[.int .u8 a0_0, .int .u32 a0_1, .string a0_2, .string a0_3] 60 (0, 0)) y3_ hb); have n1_ := Aside0.mk (below_step y1_ hb); replace BK101 := n0_; replace HB := n1_; clear n0_ n1_; clear hb)))
            go_ret
            exact ⟨y4_, y1_⟩
           ·replace c64 := Bool.eq_false_iff.mpr c64
            subst c64
            replace H : (some false) = some r := by rw [if_neg (show ¬ (false = true) by decide)] at H; exact H
            obtain rfl := Option.some.inj H
            have hcz72_0 : wc.cell? ⟨gb101, 0, none⟩ = some (.int .u8 a0_0) := (blk_cell BK101.out 0).trans rfl
            have hcz72_1 : wc.cell? ⟨gb101, 1, none⟩ = some (.int .u32 a0_1) := (blk_cell BK101.out 1).trans rfl
            have hcz72_2 : wc.cell? ⟨gb101, 2, none⟩ = some (.string a0_2) := (blk_cell BK101.out 2).trans rfl
            have hcz72_3 : wc.cell? ⟨gb101, 3, none⟩ = some (.string a0_3) := (blk_cell BK101.out 3).trans rfl
            obtain ⟨hfz72_0, hfz72_1, hfz72_2, hfz72_3⟩ := fzs4_ BK101.out
            go_wp2_with (first | (go_at_call 82; (with_reducible refine (prop_Type.calls a0_0 t102 _ A7.out).mono ?_); rintro e w73 ⟨rfl, hb⟩; have n0_ := Aside0.mk (blk_below (g := gb101) (o := .cells #[.int .u8 a0_0, .int .u32 a0_1, .string a0_2, .string a0_3] 60 (0, 0)) y3_ hb); have n1_ := Aside0.mk (below_step y1_ hb); replace BK101 := n0_; replace HB := n1_; clear n0_ n1_; clear hb; obtain ⟨hcz74_0, hcz74_1, hcz74_2, hcz74_3⟩ := ccs4_ BK101.out) | (go_at_call 88; (with_reducible refine (text_Right.calls a0_2 false _ ?side1 A63.out).mono ?_); (case side1 => exact z65z0); rintro e w75 ⟨rfl, hb⟩; have n0_ := Aside0.mk (blk_below (g := gb101) (o := .cells #[.int .u8 a0_0, .int .u32 a0_1, .string a0_2, .string a0_3] 60 (0, 0)) y3_ hb); have n1_ := Aside0.mk (below_step y1_ hb); replace BK101 := n0_; replace HB := n1_; clear n0_ n1_; clear hb))
            repeat (go_quiet (first | (go_at_call 82; (with_reducible refine (prop_Type.calls a0_0 t102 _ A7.out).mono ?_); rintro e w73 ⟨rfl, hb⟩; have n0_ := Aside0.mk (blk_below (g := gb101) (o := .cells #[.int .u8 a0_0, .int .u32 a0_1, .string a0_2, .string a0_3] 60 (0, 0)) y3_ hb); have n1_ := Aside0.mk (below_step y1_ hb); replace BK101 := n0_; replace HB := n1_; clear n0_ n1_; clear hb; obtain ⟨hcz74_0, hcz74_1, hcz74_2, hcz74_3⟩ := ccs4_ BK101.out) | (go_at_call 88; (with_reducible refine (text_Right.calls a0_2 false _ ?side1 A63.out).mono ?_); (case side1 => exact z65z0); rintro e w75 ⟨rfl, hb⟩; have n0_ := Aside0.mk (blk_below (g := gb101) (o := .cells #[.int .u8 a0_0, .int .u32 a0_1, .string a0_2, .string a0_3] 60 (0, 0)) y3_ hb); have n1_ := Aside0.mk (below_step y1_ hb); replace BK101 := n0_; replace HB := n1_; clear n0_ n1_; clear hb)); try go_wp2_with (first | (go_at_call 82; (with_reducible refine (prop_Type.calls a0_0 t102 _ A7.out).mono ?_); rintro e w73 ⟨rfl, hb⟩; have n0_ := Aside0.mk (blk_below (g := gb101) (o := .cells #[.int .u8 a0_0, .int .u32 a0_1, .string a0_2, .string a0_3] 60 (0, 0)) y3_ hb); have n1_ := Aside0.mk (below_step y1_ hb); replace BK101 := n0_; replace HB := n1_; clear n0_ n1_; clear hb; obtain ⟨hcz74_0, hcz74_1, hcz74_2, hcz74_3⟩ := ccs4_ BK101.out) | (go_at_call 88; (with_reducible refine (text_Right.calls a0_2 false _ ?side1 A63.out).mono ?_); (case side1 => exact z65z0); rintro e w75 ⟨rfl, hb⟩; have n0_ := Aside0.mk (blk_below (g := gb101) (o := .cells #[.int .u8 a0_0, .int .u32 a0_1, .string a0_2, .string a0_3] 60 (0, 0)) y3_ hb); have n1_ := Aside0.mk (below_step y1_ hb); replace BK101 := n0_; replace HB := n1_; clear n0_ n1_; clear hb)))
            go_ret
            exact ⟨y4_, y1_⟩
          ·replace c62 := Bool.eq_false_iff.mpr c62
           subst c62
           replace H : (some false) = some r := by rw [if_neg (show ¬ (false = true) by decide)] at H; exact H
           obtain rfl := Option.some.inj H
           have hcz76_0 : wc.cell? ⟨gb101, 0, none⟩ = some (.int .u8 a0_0) := (blk_cell BK101.out 0).trans rfl
           have hcz76_1 : wc.cell? ⟨gb101, 1, none⟩ = some (.int .u32 a0_1) := (blk_cell BK101.out 1).trans rfl
           have hcz76_2 : wc.cell? ⟨gb101, 2, none⟩ = some (.string a0_2) := (blk_cell BK101.out 2).trans rfl
           have hcz76_3 : wc.cell? ⟨gb101, 3, none⟩ = some (.string a0_3) := (blk_cell BK101.out 3).trans rfl
           obtain ⟨hfz76_0, hfz76_1, hfz76_2, hfz76_3⟩ := fzs4_ BK101.out
           go_wp2_with (first | (go_at_call 82; (with_reducible refine (prop_Type.calls a0_0 t102 _ A7.out).mono ?_); rintro e w77 ⟨rfl, hb⟩; have n0_ := Aside0.mk (blk_below (g := gb101) (o := .cells #[.int .u8 a0_0, .int .u32 a0_1, .string a0_2, .string a0_3] 60 (0, 0)) y3_ hb); have n1_ := Aside0.mk (below_step y1_ hb); replace BK101 := n0_; replace HB := n1_; clear n0_ n1_; clear hb))
           repeat (go_quiet (first | (go_at_call 82; (with_reducible refine (prop_Type.calls a0_0 t102 _ A7.out).mono ?_); rintro e w77 ⟨rfl, hb⟩; have n0_ := Aside0.mk (blk_below (g := gb101) (o := .cells #[.int .u8 a0_0, .int .u32 a0_1, .string a0_2, .string a0_3] 60 (0, 0)) y3_ hb); have n1_ := Aside0.mk (below_step y1_ hb); replace BK101 := n0_; replace HB := n1_; clear n0_ n1_; clear hb)); try go_wp2_with (first | (go_at_call 82; (with_reducible refine (prop_Type.calls a0_0 t102 _ A7.out).mono ?_); rintro e w77 ⟨rfl, hb⟩; have n0_ := Aside0.mk (blk_below (g := gb101) (o := .cells #[.int .u8 a0_0, .int .u32 a0_1, .string a0_2, .string a0_3] 60 (0, 0)) y3_ hb); have n1_ := Aside0.mk (below_step y1_ hb); replace BK101 := n0_; replace HB := n1_; clear n0_ n1_; clear hb)))
           go_ret
           exact ⟨y4_, y1_⟩
         ·rw [if_neg c61] at H
          obtain ⟨c61b0, c61b1⟩ := eqf_ c61
          obtain rfl := Option.some.inj H
          have hcz78_0 : wc.cell? ⟨gb101, 0, none⟩ = some (.int .u8 a0_0) := (blk_cell BK101.out 0).trans rfl
          have hcz78_1 : wc.cell? ⟨gb101, 1, none⟩ = some (.int .u32 a0_1) := (blk_cell BK101.out 1).trans rfl
          have hcz78_2 : wc.cell? ⟨gb101, 2, none⟩ = some (.string a0_2) := (blk_cell BK101.out 2).trans rfl
          have hcz78_3 : wc.cell? ⟨gb101, 3, none⟩ = some (.string a0_3) := (blk_cell BK101.out 3).trans rfl
          obtain ⟨hfz78_0, hfz78_1, hfz78_2, hfz78_3⟩ := fzs4_ BK101.out
          go_wp2_with (first | (go_at_call 82; (with_reducible refine (prop_Type.calls a0_0 t102 _ A7.out).mono ?_); rintro e w79 ⟨rfl, hb⟩; have n0_ := Aside0.mk (blk_below (g := gb101) (o := .cells #[.int .u8 a0_0, .int .u32 a0_1, .string a0_2, .string a0_3] 60 (0, 0)) y3_ hb); have n1_ := Aside0.mk (below_step y1_ hb); replace BK101 := n0_; replace HB := n1_; clear n0_ n1_; clear hb))
          repeat (go_quiet (first | (go_at_call 82; (with_reducible refine (prop_Type.calls a0_0 t102 _ A7.out).mono ?_); rintro e w79 ⟨rfl, hb⟩; have n0_ := Aside0.mk (blk_below (g := gb101) (o := .cells #[.int .u8 a0_0, .int .u32 a0_1, .string a0_2, .string a0_3] 60 (0, 0)) y3_ hb); have n1_ := Aside0.mk (below_step y1_ hb); replace BK101 := n0_; replace HB := n1_; clear n0_ n1_; clear hb)); try go_wp2_with (first | (go_at_call 82; (with_reducible refine (prop_Type.calls a0_0 t102 _ A7.out).mono ?_); rintro e w79 ⟨rfl, hb⟩; have n0_ := Aside0.mk (blk_below (g := gb101) (o := .cells #[.int .u8 a0_0, .int .u32 a0_1, .string a0_2, .string a0_3] 60 (0, 0)) y3_ hb); have n1_ := Aside0.mk (below_step y1_ hb); replace BK101 := n0_; replace HB := n1_; clear n0_ n1_; clear hb)))
          go_ret
          exact ⟨y4_, y1_⟩
def wire_Reader_Two.f (s0_0 : ByteArray) (s0_1 : Int) : Option (Int × ByteArray × Int) := (wire_Reader_take.f s0_0 s0_1 2).bind fun bt101 => (if bt101.2.1 = true then (if 0 < (bt101.1.size : Int) then (if 1 < (bt101.1.size : Int) then (some (Go.bits .or .u16 (IntKind.u16.wrap ((IntKind.u16.wrap (bt bt101.1 0)) * 256)) (IntKind.u16.wrap (bt bt101.1 1)), bt101.2.2.1, bt101.2.2.2)) else (none)) else (none)) else (some (0, bt101.2.2.1, bt101.2.2.2)))
theorem z94z0 {p : Prop} (h : p := by repeat (first | (with_reducible first | exact HB.out | apply below_alloc | apply pw_below_drewN | apply below_drew1 | refine below_set ?_ (IsS78.ge HI0.out)) | exact HB.out)) : p := h
theorem z94z1 {p : Prop} (h : p := by repeat (first | (with_reducible first | exact HI0.out | apply IsS78.alloc | apply IsS78.drewN | apply IsS78.drew | apply IsS78.set_0 | apply IsS78.set_1) | exact HI0.out)) : p := h
theorem wire_Reader_Two.calls (g : Nat) (s0_0 : ByteArray) (s0_1 : Int) (r1 : Int) (r2 : ByteArray) (r3 : Int) (w0 w : World) (hI : IsS78 w0 w g s0_0 s0_1) (hB : Below w0.heap.size w0 w) (h : wire_Reader_Two.f s0_0 s0_1 = some (r1, r2, r3)) :
  Calls Tryd.prog 94 #[.pointer (some ⟨g, 0, none⟩)] w fun e w' => e = .returned (.int .u16 r1) ∧ IsS78 w0 w' g r2 r3 ∧ Below w0.heap.size w0 w' ∧ KeepBut w w' g none := by
 have HI0 := Aside0.mk hI
 have HK := Aside0.mk (KeepBut.refl w g none)
 have HL := Aside0.mk hB.size
 clear hI
 have HW0 := Aside0.mk hB.size
 have HB := Aside0.mk hB
 clear hB
 have H : ((wire_Reader_take.f s0_0 s0_1 2).bind fun bt101 => (if bt101.2.1 = true then (if 0 < (bt101.1.size : Int) then (if 1 < (bt101.1.size : Int) then (some (Go.bits .or .u16 (IntKind.u16.wrap ((IntKind.u16.wrap (bt bt101.1 0)) * 256)) (IntKind.u16.wrap (bt bt101.1 1)), bt101.2.2.1, bt101.2.2.2)) else (none)) else (none)) else (some (0, bt101.2.2.1, bt101.2.2.2)))) = some (r1, r2, r3) := h
 clear h
 replace H := Option.bind_eq_some_iff.mp H
 obtain ⟨⟨t101, t102, t103, t104⟩, A20, H⟩ := H
 try dsimp -simprocs only at H
 have A2 := Aside0.mk A20
 clear A20
 by_cases c3 : t102 = true
 rotate_left
 ·replace c3 := Bool.eq_false_iff.mpr c3
  subst c3
  replace H : (some (0, t103, t104)) = some (r1, r2, r3) := by rw [if_neg (show ¬ (false = true) by decide)] at H; exact H
  simp only [Option.some.injEq, Prod.mk.injEq] at H
  obtain ⟨rfl, rfl, rfl⟩ := H
  go_enter Tryd.func94, Tryd.ntmps94
  go_wp2_with (first | (go_at_call 41; (with_reducible refine (wire_Reader_take.calls g s0_0 s0_1 2 t101 false t103 t104 w0 _ ?side1 ?side2 A2.out).mono ?_); (case side1 => exact z94z1); (case side2 => exact z94z0); rintro e w9 ⟨rfl, hi, hb, hk⟩; have n0_ := Aside0.mk (KeepBut.trans y6_ hk (.inl rfl)); have n1_ := Aside0.mk (hb); have n2_ := Aside0.mk (hi); replace HK := n0_; replace HB := n1_; replace HI0 := n2_; clear n0_ n1_ n2_; clear hb hk hi))
  repeat (go_quiet (first | (go_at_call 41; (with_reducible refine (wire_Reader_take.calls g s0_0 s0_1 2 t101 false t103 t104 w0 _ ?side1 ?side2 A2.out).mono ?_); (case side1 => exact z94z1); (case side2 => exact z94z0); rintro e w9 ⟨rfl, hi, hb, hk⟩; have n0_ := Aside0.mk (KeepBut.trans y6_ hk (.inl rfl)); have n1_ := Aside0.mk (hb); have n2_ := Aside0.mk (hi); replace HK := n0_; replace HB := n1_; replace HI0 := n2_; clear n0_ n1_ n2_; clear hb hk hi)); try go_wp2_with (first | (go_at_call 41; (with_reducible refine (wire_Reader_take.calls g s0_0 s0_1 2 t101 false t103 t104 w0 _ ?side1 ?side2 A2.out).mono ?_); (case side1 => exact z94z1); (case side2 => exact z94z0); rintro e w9 ⟨rfl, hi, hb, hk⟩; have n0_ := Aside0.mk (KeepBut.trans y6_ hk (.inl rfl)); have n1_ := Aside0.mk (hb); have n2_ := Aside0.mk (hi); replace HK := n0_; replace HB := n1_; replace HI0 := n2_; clear n0_ n1_ n2_; clear hb hk hi)))
  go_ret
  exact ⟨y4_, z94z1, z94z0, y6_⟩
 subst c3
 have H1 : (if 0 < (t101.size : Int) then (if 1 < (t101.size : Int) then (some (Go.bits .or .u16 (IntKind.u16.wrap ((IntKind.u16.wrap (bt t101 0)) * 256)) (IntKind.u16.wrap (bt t101 1)), t103, t104)) else (none)) else (none)) = some (r1, r2, r3) := by rw [if_pos rfl] at H; exact H
 clear H
 have H := H1
 clear H1
 by_cases c4 : 0 < (t101.size : Int)
 rotate_left
 ·rw [if_neg c4] at H
  exact absurd H (by simp)
 rw [if_pos c4] at H
 have c4b0 := decide_eq_true c4
 have c4b1 : decide (0 < t101.size) = true := decide_eq_true (by omega)
 clear c4
 by_cases c6 : 1 < (t101.size : Int)
 rotate_left
 ·rw [if_neg c6] at H
  exact absurd H (by simp)
 rw [if_pos c6] at H
 have c6b0 := decide_eq_true c6
 have c6b1 : decide (1 < t101.size) = true := decide_eq_true (by omega)
 clear c6
 simp only [Option.some.injEq, Prod.mk.injEq] at H
 obtain ⟨rfl, rfl, rfl⟩ := H
 go_enter Tryd.func94, Tryd.ntmps94
 go_wp2_with (first | (go_at_call 41; (with_reducible refine (wire_Reader_take.calls g s0_0 s0_1 2 t101 true t103 t104 w0 _ ?side1 ?side2 A2.out).mono ?_); (case side1 => exact z94z1); (case side2 => exact z94z0); rintro e w8 ⟨rfl, hi, hb, hk⟩; have n0_ := Aside0.mk (KeepBut.trans y6_ hk (.inl rfl)); have n1_ := Aside0.mk (hb); have n2_ := Aside0.mk (hi); replace HK := n0_; replace HB := n1_; replace HI0 := n2_; clear n0_ n1_ n2_; clear hb hk hi; have p5 : 0 ≤ (0 : Int) := (by omega); have q5 : 0 < t101.size := (by have : (0 : Int) < (t101.size : Int) := of_decide_eq_true y5_; omega); have hx5 : ∀ h : 0 < t101.size, ((t101[0]'h).toNat : Int) = bt t101 0 := bt_at t101 0; clear p5; have qi5 : (0 < (t101.size : Int)) = True := eq_true (of_decide_eq_true y5_); replace q5 := eq_true q5; have p7 : 0 ≤ (1 : Int) := (by omega); have q7 : 1 < t101.size := (by have : (1 : Int) < (t101.size : Int) := of_decide_eq_true y5_; omega); have hx7 : ∀ h : 1 < t101.size, ((t101[1]'h).toNat : Int) = bt t101 1 := bt_at t101 1; clear p7; have qi7 : (1 < (t101.size : Int)) = True := eq_true (of_decide_eq_true y5_); replace q7 := eq_true q7))
 repeat (go_quiet (first | (go_at_call 41; (with_reducible refine (wire_Reader_take.calls g s0_0 s0_1 2 t101 true t103 t104 w0 _ ?side1 ?side2 A2.out).mono ?_); (case side1 => exact z94z1); (case side2 => exact z94z0); rintro e w8 ⟨rfl, hi, hb, hk⟩; have n0_ := Aside0.mk (KeepBut.trans y6_ hk (.inl rfl)); have n1_ := Aside0.mk (hb); have n2_ := Aside0.mk (hi); replace HK := n0_; replace HB := n1_; replace HI0 := n2_; clear n0_ n1_ n2_; clear hb hk hi; have p5 : 0 ≤ (0 : Int) := (by omega); have q5 : 0 < t101.size := (by have : (0 : Int) < (t101.size : Int) := of_decide_eq_true y5_; omega); have hx5 : ∀ h : 0 < t101.size, ((t101[0]'h).toNat : Int) = bt t101 0 := bt_at t101 0; clear p5; have qi5 : (0 < (t101.size : Int)) = True := eq_true (of_decide_eq_true y5_); replace q5 := eq_true q5; have p7 : 0 ≤ (1 : Int) := (by omega); have q7 : 1 < t101.size := (by have : (1 : Int) < (t101.size : Int) := of_decide_eq_true y5_; omega); have hx7 : ∀ h : 1 < t101.size, ((t101[1]'h).toNat : Int) = bt t101 1 := bt_at t101 1; clear p7; have qi7 : (1 < (t101.size : Int)) = True := eq_true (of_decide_eq_true y5_); replace q7 := eq_true q7)); try go_wp2_with (first | (go_at_call 41; (with_reducible refine (wire_Reader_take.calls g s0_0 s0_1 2 t101 true t103 t104 w0 _ ?side1 ?side2 A2.out).mono ?_); (case side1 => exact z94z1); (case side2 => exact z94z0); rintro e w8 ⟨rfl, hi, hb, hk⟩; have n0_ := Aside0.mk (KeepBut.trans y6_ hk (.inl rfl)); have n1_ := Aside0.mk (hb); have n2_ := Aside0.mk (hi); replace HK := n0_; replace HB := n1_; replace HI0 := n2_; clear n0_ n1_ n2_; clear hb hk hi; have p5 : 0 ≤ (0 : Int) := (by omega); have q5 : 0 < t101.size := (by have : (0 : Int) < (t101.size : Int) := of_decide_eq_true y5_; omega); have hx5 : ∀ h : 0 < t101.size, ((t101[0]'h).toNat : Int) = bt t101 0 := bt_at t101 0; clear p5; have qi5 : (0 < (t101.size : Int)) = True := eq_true (of_decide_eq_true y5_); replace q5 := eq_true q5; have p7 : 0 ≤ (1 : Int) := (by omega); have q7 : 1 < t101.size := (by have : (1 : Int) < (t101.size : Int) := of_decide_eq_true y5_; omega); have hx7 : ∀ h : 1 < t101.size, ((t101[1]'h).toNat : Int) = bt t101 1 := bt_at t101 1; clear p7; have qi7 : (1 < (t101.size : Int)) = True := eq_true (of_decide_eq_true y5_); replace q7 := eq_true q7)))
 go_ret
 exact ⟨y4_, z94z1, z94z0, y6_⟩
def wire_Reader_Four.f (s0_0 : ByteArray) (s0_1 : Int) : Option (Int × ByteArray × Int) := (wire_Reader_take.f s0_0 s0_1 4).bind fun bt101 => (if bt101.2.1 = true then (if 0 < (bt101.1.size : Int) then (if 1 < (bt101.1.size : Int) then (if 2 < (bt101.1.size : Int) then (if 3 < (bt101.1.size : Int) then (some (Go.bits .or .u32 (Go.bits .or .u32 (Go.bits .or .u32 ((((bt bt101.1 0) % 4294967296) * 16777216) % 4294967296) ((((bt bt101.1 1) % 4294967296) * 65536) % 4294967296)) ((((bt bt101.1 2) % 4294967296) * 256) % 4294967296)) ((bt bt101.1 3) % 4294967296), bt101.2.2.1, bt101.2.2.2)) else (none)) else (none)) else (none)) else (none)) else (some (0, bt101.2.2.1, bt101.2.2.2)))
theorem z95z0 {p : Prop} (h : p := by repeat (first | (with_reducible first | exact HB.out | apply below_alloc | apply pw_below_drewN | apply below_drew1 | refine below_set ?_ (IsS78.ge HI0.out)) | exact HB.out)) : p := h
theorem z95z1 {p : Prop} (h : p := by repeat (first | (with_reducible first | exact HI0.out | apply IsS78.alloc | apply IsS78.drewN | apply IsS78.drew | apply IsS78.set_0 | apply IsS78.set_1) | exact HI0.out)) : p := h
theorem wire_Reader_Four.calls (g : Nat) (s0_0 : ByteArray) (s0_1 : Int) (r1 : Int) (r2 : ByteArray) (r3 : Int) (w0 w : World) (hI : IsS78 w0 w g s0_0 s0_1) (hB : Below w0.heap.size w0 w) (h : wire_Reader_Four.f s0_0 s0_1 = some (r1, r2, r3)) :
  Calls Tryd.prog 95 #[.pointer (some ⟨g, 0, none⟩)] w fun e w' => e = .returned (.int .u32 r1) ∧ IsS78 w0 w' g r2 r3 ∧ Below w0.heap.size w0 w' ∧ KeepBut w w' g none := by
 have HI0 := Aside0.mk hI
 have HK := Aside0.mk (KeepBut.refl w g none)
 have HL := Aside0.mk hB.size
 clear hI
 have HW0 := Aside0.mk hB.size
 have HB := Aside0.mk hB
 clear hB
 have H : ((wire_Reader_take.f s0_0 s0_1 4).bind fun bt101 => (if bt101.2.1 = true then (if 0 < (bt101.1.size : Int) then (if 1 < (bt101.1.size : Int) then (if 2 < (bt101.1.size : Int) then (if 3 < (bt101.1.size : Int) then (some (Go.bits .or .u32 (Go.bits .or .u32 (Go.bits .or .u32 ((((bt bt101.1 0) % 4294967296) * 16777216) % 4294967296) ((((bt bt101.1 1) % 4294967296) * 65536) % 4294967296)) ((((bt bt101.1 2) % 4294967296) * 256) % 4294967296)) ((bt bt101.1 3) % 4294967296), bt101.2.2.1, bt101.2.2.2)) else (none)) else (none)) else (none)) else (none)) else (some (0, bt101.2.2.1, bt101.2.2.2)))) = some (r1, r2, r3) := h
 clear h
 replace H := Option.bind_eq_some_iff.mp H
 obtain ⟨⟨t101, t102, t103, t104⟩, A20, H⟩ := H
 try dsimp -simprocs only at H
 have A2 := Aside0.mk A20
 clear A20
 by_cases c3 : t102 = true
 rotate_left
 ·replace c3 := Bool.eq_false_iff.mpr c3
  subst c3
  replace H : (some (0, t103, t104)) = some (r1, r2, r3) := by rw [if_neg (show ¬ (false = true) by decide)] at H; exact H
  simp only [Option.some.injEq, Prod.mk.injEq] at H
  obtain ⟨rfl, rfl, rfl⟩ := H
  go_enter Tryd.func95, Tryd.ntmps95
  go_wp2_with (first | (go_at_call 41; (with_reducible refine (wire_Reader_take.calls g s0_0 s0_1 4 t101 false t103 t104 w0 _ ?side1 ?side2 A2.out).mono ?_); (case side1 => exact z95z1); (case side2 => exact z95z0); rintro e w13 ⟨rfl, hi, hb, hk⟩; have n0_ := Aside0.mk (KeepBut.trans y6_ hk (.inl rfl)); have n1_ := Aside0.mk (hb); have n2_ := Aside0.mk (hi); replace HK := n0_; replace HB := n1_; replace HI0 := n2_; clear n0_ n1_ n2_; clear hb hk hi))
  repeat (go_quiet (first | (go_at_call 41; (with_reducible refine (wire_Reader_take.calls g s0_0 s0_1 4 t101 false t103 t104 w0 _ ?side1 ?side2 A2.out).mono ?_); (case side1 => exact z95z1); (case side2 => exact z95z0); rintro e w13 ⟨rfl, hi, hb, hk⟩; have n0_ := Aside0.mk (KeepBut.trans y6_ hk (.inl rfl)); have n1_ := Aside0.mk (hb); have n2_ := Aside0.mk (hi); replace HK := n0_; replace HB := n1_; replace HI0 := n2_; clear n0_ n1_ n2_; clear hb hk hi)); try go_wp2_with (first | (go_at_call 41; (with_reducible refine (wire_Reader_take.calls g s0_0 s0_1 4 t101 false t103 t104 w0 _ ?side1 ?side2 A2.out).mono ?_); (case side1 => exact z95z1); (case side2 => exact z95z0); rintro e w13 ⟨rfl, hi, hb, hk⟩; have n0_ := Aside0.mk (KeepBut.trans y6_ hk (.inl rfl)); have n1_ := Aside0.mk (hb); have n2_ := Aside0.mk (hi); replace HK := n0_; replace HB := n1_; replace HI0 := n2_; clear n0_ n1_ n2_; clear hb hk hi)))
  go_ret
  exact ⟨y4_, z95z1, z95z0, y6_⟩
 subst c3
 have H1 : (if 0 < (t101.size : Int) then (if 1 < (t101.size : Int) then (if 2 < (t101.size : Int) then (if 3 < (t101.size : Int) then (some (Go.bits .or .u32 (Go.bits .or .u32 (Go.bits .or .u32 ((((bt t101 0) % 4294967296) * 16777216) % 4294967296) ((((bt t101 1) % 4294967296) * 65536) % 4294967296)) ((((bt t101 2) % 4294967296) * 256) % 4294967296)) ((bt t101 3) % 4294967296), t103, t104)) else (none)) else (none)) else (none)) else (none)) = some (r1, r2, r3) := by rw [if_pos rfl] at H; exact H
 clear H
 have H := H1
 clear H1
 by_cases c4 : 0 < (t101.size : Int)
 rotate_left
 ·rw [if_neg c4] at H
  exact absurd H (by simp)
 rw [if_pos c4] at H
 have c4b0 := decide_eq_true c4
 have c4b1 : decide (0 < t101.size) = true := decide_eq_true (by omega)
 clear c4
 by_cases c6 : 1 < (t101.size : Int)
 rotate_left
 ·rw [if_neg c6] at H
  exact absurd H (by simp)
 rw [if_pos c6] at H
 have c6b0 := decide_eq_true c6
 have c6b1 : decide (1 < t101.size) = true := decide_eq_true (by omega)
 clear c6
 by_cases c8 : 2 < (t101.size : Int)
 rotate_left
 ·rw [if_neg c8] at H
  exact absurd H (by simp)
 rw [if_pos c8] at H
 have c8b0 := decide_eq_true c8
 have c8b1 : decide (2 < t101.size) = true := decide_eq_true (by omega)
 clear c8
 by_cases c10 : 3 < (t101.size : Int)
 rotate_left
 ·rw [if_neg c10] at H
  exact absurd H (by simp)
 rw [if_pos c10] at H
 have c10b0 := decide_eq_true c10
 have c10b1 : decide (3 < t101.size) = true := decide_eq_true (by omega)
 clear c10
 simp only [Option.some.injEq, Prod.mk.injEq] at H
 obtain ⟨rfl, rfl, rfl⟩ := H
 go_enter Tryd.func95, Tryd.ntmps95
 go_wp2_with (first | (go_at_call 41; (with_reducible refine (wire_Reader_take.calls g s0_0 s0_1 4 t101 true t103 t104 w0 _ ?side1 ?side2 A2.out).mono ?_); (case side1 => exact z95z1); (case side2 => exact z95z0); rintro e w12 ⟨rfl, hi, hb, hk⟩; have n0_ := Aside0.mk (KeepBut.trans y6_ hk (.inl rfl)); have n1_ := Aside0.mk (hb); have n2_ := Aside0.mk (hi); replace HK := n0_; replace HB := n1_; replace HI0 := n2_; clear n0_ n1_ n2_; clear hb hk hi; have p5 : 0 ≤ (0 : Int) := (by omega); have q5 : 0 < t101.size := (by have : (0 : Int) < (t101.size : Int) := of_decide_eq_true y5_; omega); have hx5 : ∀ h : 0 < t101.size, ((t101[0]'h).toNat : Int) = bt t101 0 := bt_at t101 0; clear p5; have qi5 : (0 < (t101.size : Int)) = True := eq_true (of_decide_eq_true y5_); replace q5 := eq_true q5; have p7 : 0 ≤ (1 : Int) := (by omega); have q7 : 1 < t101.size := (by have : (1 : Int) < (t101.size : Int) := of_decide_eq_true y5_; omega); have hx7 : ∀ h : 1 < t101.size, ((t101[1]'h).toNat : Int) = bt t101 1 := bt_at t101 1; clear p7; have qi7 : (1 < (t101.size : Int)) = True := eq_true (of_decide_eq_true y5_); replace q7 := eq_true q7; have p9 : 0 ≤ (2 : Int) := (by omega); have q9 : 2 < t101.size := (by have : (2 : Int) < (t101.size : Int) := of_decide_eq_true y5_; omega); have hx9 : ∀ h : 2 < t101.size, ((t101[2]'h).toNat : Int) = bt t101 2 := bt_at t101 2; clear p9; have qi9 : (2 < (t101.size : Int)) = True := eq_true (of_decide_eq_true y5_); replace q9 := eq_true q9; have p11 : 0 ≤ (3 : Int) := (by omega); have q11 : 3 < t101.size := (by have : (3 : Int) < (t101.size : Int) := of_decide_eq_true y5_; omega); have hx11 : ∀ h : 3 < t101.size, ((t101[3]'h).toNat : Int) = bt t101 3 := bt_at t101 3; clear p11; have qi11 : (3 < (t101.size : Int)) = True := eq_true (of_decide_eq_true y5_); replace q11 := eq_true q11))
 repeat (go_quiet (first | (go_at_call 41; (with_reducible refine (wire_Reader_take.calls g s0_0 s0_1 4 t101 true t103 t104 w0 _ ?side1 ?side2 A2.out).mono ?_); (case side1 => exact z95z1); (case side2 => exact z95z0); rintro e w12 ⟨rfl, hi, hb, hk⟩; have n0_ := Aside0.mk (KeepBut.trans y6_ hk (.inl rfl)); have n1_ := Aside0.mk (hb); have n2_ := Aside0.mk (hi); replace HK := n0_; replace HB := n1_; replace HI0 := n2_; clear n0_ n1_ n2_; clear hb hk hi; have p5 : 0 ≤ (0 : Int) := (by omega); have q5 : 0 < t101.size := (by have : (0 : Int) < (t101.size : Int) := of_decide_eq_true y5_; omega); have hx5 : ∀ h : 0 < t101.size, ((t101[0]'h).toNat : Int) = bt t101 0 := bt_at t101 0; clear p5; have qi5 : (0 < (t101.size : Int)) = True := eq_true (of_decide_eq_true y5_); replace q5 := eq_true q5; have p7 : 0 ≤ (1 : Int) := (by omega); have q7 : 1 < t101.size := (by have : (1 : Int) < (t101.size : Int) := of_decide_eq_true y5_; omega); have hx7 : ∀ h : 1 < t101.size, ((t101[1]'h).toNat : Int) = bt t101 1 := bt_at t101 1; clear p7; have qi7 : (1 < (t101.size : Int)) = True := eq_true (of_decide_eq_true y5_); replace q7 := eq_true q7; have p9 : 0 ≤ (2 : Int) := (by omega); have q9 : 2 < t101.size := (by have : (2 : Int) < (t101.size : Int) := of_decide_eq_true y5_; omega); have hx9 : ∀ h : 2 < t101.size, ((t101[2]'h).toNat : Int) = bt t101 2 := bt_at t101 2; clear p9; have qi9 : (2 < (t101.size : Int)) = True := eq_true (of_decide_eq_true y5_); replace q9 := eq_true q9; have p11 : 0 ≤ (3 : Int) := (by omega); have q11 : 3 < t101.size := (by have : (3 : Int) < (t101.size : Int) := of_decide_eq_true y5_; omega); have hx11 : ∀ h : 3 < t101.size, ((t101[3]'h).toNat : Int) = bt t101 3 := bt_at t101 3; clear p11; have qi11 : (3 < (t101.size : Int)) = True := eq_true (of_decide_eq_true y5_); replace q11 := eq_true q11)); try go_wp2_with (first | (go_at_call 41; (with_reducible refine (wire_Reader_take.calls g s0_0 s0_1 4 t101 true t103 t104 w0 _ ?side1 ?side2 A2.out).mono ?_); (case side1 => exact z95z1); (case side2 => exact z95z0); rintro e w12 ⟨rfl, hi, hb, hk⟩; have n0_ := Aside0.mk (KeepBut.trans y6_ hk (.inl rfl)); have n1_ := Aside0.mk (hb); have n2_ := Aside0.mk (hi); replace HK := n0_; replace HB := n1_; replace HI0 := n2_; clear n0_ n1_ n2_; clear hb hk hi; have p5 : 0 ≤ (0 : Int) := (by omega); have q5 : 0 < t101.size := (by have : (0 : Int) < (t101.size : Int) := of_decide_eq_true y5_; omega); have hx5 : ∀ h : 0 < t101.size, ((t101[0]'h).toNat : Int) = bt t101 0 := bt_at t101 0; clear p5; have qi5 : (0 < (t101.size : Int)) = True := eq_true (of_decide_eq_true y5_); replace q5 := eq_true q5; have p7 : 0 ≤ (1 : Int) := (by omega); have q7 : 1 < t101.size := (by have : (1 : Int) < (t101.size : Int) := of_decide_eq_true y5_; omega); have hx7 : ∀ h : 1 < t101.size, ((t101[1]'h).toNat : Int) = bt t101 1 := bt_at t101 1; clear p7; have qi7 : (1 < (t101.size : Int)) = True := eq_true (of_decide_eq_true y5_); replace q7 := eq_true q7; have p9 : 0 ≤ (2 : Int) := (by omega); have q9 : 2 < t101.size := (by have : (2 : Int) < (t101.size : Int) := of_decide_eq_true y5_; omega); have hx9 : ∀ h : 2 < t101.size, ((t101[2]'h).toNat : Int) = bt t101 2 := bt_at t101 2; clear p9; have qi9 : (2 < (t101.size : Int)) = True := eq_true (of_decide_eq_true y5_); replace q9 := eq_true q9; have p11 : 0 ≤ (3 : Int) := (by omega); have q11 : 3 < t101.size := (by have : (3 : Int) < (t101.size : Int) := of_decide_eq_true y5_; omega); have hx11 : ∀ h : 3 < t101.size, ((t101[3]'h).toNat : Int) = bt t101 3 := bt_at t101 3; clear p11; have qi11 : (3 < (t101.size : Int)) = True := eq_true (of_decide_eq_true y5_); replace q11 := eq_true q11)))
 go_ret
 exact ⟨y4_, z95z1, z95z0, y6_⟩
def wire_Reader_Bin.f (s0_0 : ByteArray) (s0_1 : Int) : Option (ByteArray × ByteArray × Int) := (wire_Reader_Two.f s0_0 s0_1).bind fun bt101 => ((wire_Reader_take.f bt101.2.1 bt101.2.2 (wrap64 (bt101.1))).bind fun bt104 => (some (bt104.1, bt104.2.2.1, bt104.2.2.2)))
theorem z96z0 {p : Prop} (h : p := by repeat (first | (with_reducible first | exact HB.out | apply below_alloc | apply pw_below_drewN | apply below_drew1 | refine below_set ?_ (IsS78.ge HI0.out)) | exact HB.out)) : p := h
theorem z96z1 {p : Prop} (h : p := by repeat (first | (with_reducible first | exact HI0.out | apply IsS78.alloc | apply IsS78.drewN | apply IsS78.drew | apply IsS78.set_0 | apply IsS78.set_1) | exact HI0.out)) : p := h
theorem wire_Reader_Bin.calls (g : Nat) (s0_0 : ByteArray) (s0_1 : Int) (r1 : ByteArray) (r2 : ByteArray) (r3 : Int) (w0 w : World) (hI : IsS78 w0 w g s0_0 s0_1) (hB : Below w0.heap.size w0 w) (h : wire_Reader_Bin.f s0_0 s0_1 = some (r1, r2, r3)) :
  Calls Tryd.prog 96 #[.pointer (some ⟨g, 0, none⟩)] w fun e w' => e = .returned (.string r1) ∧ IsS78 w0 w' g r2 r3 ∧ Below w0.heap.size w0 w' ∧ KeepBut w w' g none := by
 have HI0 := Aside0.mk hI
 have HK := Aside0.mk (KeepBut.refl w g none)
 have HL := Aside0.mk hB.size
 clear hI
 have HW0 := Aside0.mk hB.size
 have HB := Aside0.mk hB
 clear hB
 have H : ((wire_Reader_Two.f s0_0 s0_1).bind fun bt101 => ((wire_Reader_take.f bt101.2.1 bt101.2.2 (wrap64 (bt101.1))).bind fun bt104 => (some (bt104.1, bt104.2.2.1, bt104.2.2.2)))) = some (r1, r2, r3) := h
 clear h
 replace H := Option.bind_eq_some_iff.mp H
 obtain ⟨⟨t101, t102, t103⟩, A20, H⟩ := H
 replace H : ((wire_Reader_take.f t102 t103 (wrap64 (t101))).bind fun bt104 => (some (bt104.1, bt104.2.2.1, bt104.2.2.2))) = some (r1, r2, r3) := H
 have A2 := Aside0.mk A20
 clear A20
 replace H := Option.bind_eq_some_iff.mp H
 obtain ⟨⟨t104, t105, t106, t107⟩, A30, H⟩ := H
 replace H : (some (t104, t106, t107)) = some (r1, r2, r3) := H
 have A3 := Aside0.mk A30
 clear A30
 simp only [Option.some.injEq, Prod.mk.injEq] at H
 obtain ⟨rfl, rfl, rfl⟩ := H
 go_enter Tryd.func96, Tryd.ntmps96
 go_wp2_with (first | ((with_reducible refine gate_callee (f := 94) rfl ?_); refine goesL_ (some 8) rfl rfl Tryd.func94 (by kernel_rfl) rfl #[.pointer (some ⟨g, 0, none⟩)] rfl y2_ ?_; (with_reducible refine (wire_Reader_Two.calls g s0_0 s0_1 t101 t102 t103 w0 _ ?side1 ?side2 A2.out).mono ?_); (case side1 => exact z96z1); (case side2 => exact z96z0); rintro e w4 ⟨rfl, hi, hb, hk⟩; refine ⟨_, rfl, ?_⟩; have n0_ := Aside0.mk (KeepBut.trans y6_ hk (.inl rfl)); have n1_ := Aside0.mk (hb); have n2_ := Aside0.mk (hi); replace HK := n0_; replace HB := n1_; replace HI0 := n2_; clear n0_ n1_ n2_; clear hb hk hi) | ((with_reducible refine gate_callee (f := 41) rfl ?_); refine goesL_ (some 10) rfl rfl Tryd.func41 (by kernel_rfl) rfl #[.pointer (some ⟨g, 0, none⟩), .int .i64 (wrap64 (t101))] rfl y2_ ?_; (with_reducible refine (wire_Reader_take.calls g t102 t103 (wrap64 (t101)) t104 t105 t106 t107 w0 _ ?side1 ?side2 A3.out).mono ?_); (case side1 => exact z96z1); (case side2 => exact z96z0); rintro e w5 ⟨rfl, hi, hb, hk⟩; refine ⟨_, rfl, ?_⟩; have n0_ := Aside0.mk (KeepBut.trans y6_ hk (.inl rfl)); have n1_ := Aside0.mk (hb); have n2_ := Aside0.mk (hi); replace HK := n0_; replace HB := n1_; replace HI0 := n2_; clear n0_ n1_ n2_; clear hb hk hi))
 go_ret
 exact ⟨y4_, z96z1, z96z0, y6_⟩
mutual
def props_next.j1 : Nat → ByteArray → Int → Int → Int → ByteArray → ByteArray → Option (Int × Int × ByteArray × ByteArray × Bool × ByteArray × Int)
  | 0, _, _, _, _, _, _ => none
  | k + 1, x1000, x1001, x106000, x106001, x106002, x106003 => (wire_Reader_Err.f x1000 x1001).bind fun bt128 => (if bt128.1 = 0 then ((prop_Right.f k x106000 x106001 x106002 x106003).bind fun t131 => (if t131 = true then (some (x106000, x106001, x106002, x106003, true, bt128.2.1, bt128.2.2)) else (some (0, 0, (⟨#[]⟩ : ByteArray), (⟨#[]⟩ : ByteArray), false, bt128.2.1, bt128.2.2)))) else (some (0, 0, (⟨#[]⟩ : ByteArray), (⟨#[]⟩ : ByteArray), false, bt128.2.1, bt128.2.2)))
def props_next.j0 : Nat → Int → Bool → ByteArray → Int → Int → Int → ByteArray → ByteArray → Option (Int × Int × ByteArray × ByteArray × Bool × ByteArray × Int)
  | 0, _, _, _, _, _, _, _, _ => none
  | k + 1, x10, x33, x1000, x1001, x106000, x106001, x106002, x106003 => if x33 = true then ((wire_Reader_Bin.f x1000 x1001).bind fun bt119 => (props_next.j1 k bt119.2.1 bt119.2.2 x106000 x106001 bt119.1 x106003)) else (if x10 = 7 then ((wire_Reader_Bin.f x1000 x1001).bind fun bt122 => ((wire_Reader_Bin.f bt122.2.1 bt122.2.2).bind fun bt125 => (props_next.j1 k bt125.2.1 bt125.2.2 x106000 x106001 bt122.1 bt125.1))) else (props_next.j1 k x1000 x1001 x106000 x106001 x106002 x106003))
end
def props_next.f (k : Nat) (s0_0 : ByteArray) (s0_1 : Int) : Option (Int × Int × ByteArray × ByteArray × Bool × ByteArray × Int) := (wire_Reader_Byte.f s0_0 s0_1).bind fun bt102 => ((prop_Type.f bt102.1).bind fun t106 => (if t106 = 1 then ((wire_Reader_Byte.f bt102.2.1 bt102.2.2).bind fun bt107 => (props_next.j1 k bt107.2.1 bt107.2.2 bt102.1 ((bt107.1) % 4294967296) (⟨#[]⟩ : ByteArray) (⟨#[]⟩ : ByteArray))) else (if t106 = 2 then ((wire_Reader_Two.f bt102.2.1 bt102.2.2).bind fun bt110 => (props_next.j1 k bt110.2.1 bt110.2.2 bt102.1 ((bt110.1) % 4294967296) (⟨#[]⟩ : ByteArray) (⟨#[]⟩ : ByteArray))) else (if t106 = 3 then ((wire_Reader_Four.f bt102.2.1 bt102.2.2).bind fun bt113 => (props_next.j1 k bt113.2.1 bt113.2.2 bt102.1 bt113.1 (⟨#[]⟩ : ByteArray) (⟨#[]⟩ : ByteArray))) else (if t106 = 4 then ((wire_Reader_Var.f k bt102.2.1 bt102.2.2).bind fun bt116 => (props_next.j1 k bt116.2.1 bt116.2.2 bt102.1 bt116.1 (⟨#[]⟩ : ByteArray) (⟨#[]⟩ : ByteArray))) else (if t106 = 5 then (props_next.j0 k t106 (t106 == 5) bt102.2.1 bt102.2.2 bt102.1 0 (⟨#[]⟩ : ByteArray) (⟨#[]⟩ : ByteArray)) else (props_next.j0 k t106 (t106 == 6) bt102.2.1 bt102.2.2 bt102.1 0 (⟨#[]⟩ : ByteArray) (⟨#[]⟩ : ByteArray))))))))
theorem z73m0 {p : Prop} (h : p := by
 repeat' first
 | (with_reducible exact ih0 _ _ _ _ _ _)
 | (with_reducible exact ih1 _ _ _ _ _ _ _ _)
 | (with_reducible exact prop_Right.mono _ _ _ _ _)
 | (with_reducible exact wire_Reader_Var.mono _ _ _)
 | (with_reducible exact LeO.refl _)
 | (with_reducible exact LeO.none _)
 | (with_reducible refine LeO.ite ?_ ?_)
 | (with_reducible refine LeO.bind ?_ (fun _ => ?_))
 | exact ih0 _ _ _ _ _ _
 | exact ih1 _ _ _ _ _ _ _ _
 | exact prop_Right.mono _ _ _ _ _
 | exact wire_Reader_Var.mono _ _ _
 | exact LeO.none _
 | refine LeO.ite ?_ ?_
 | refine LeO.bind ?_ (fun _ => ?_)) : p := h
theorem props_next.mono_l : ∀ k, (∀ y0 y1 y2 y3 y4 y5, LeO (props_next.j1 k y0 y1 y2 y3 y4 y5) (props_next.j1 (k + 1) y0 y1 y2 y3 y4 y5)) ∧ (∀ y0 y1 y2 y3 y4 y5 y6 y7, LeO (props_next.j0 k y0 y1 y2 y3 y4 y5 y6 y7) (props_next.j0 (k + 1) y0 y1 y2 y3 y4 y5 y6 y7))
  | 0 => ⟨fun _ _ _ _ _ _ r h => by simp [props_next.j1] at h, fun _ _ _ _ _ _ _ _ r h => by simp [props_next.j0] at h⟩
  | k + 1 => by
    obtain ⟨ih0, ih1⟩ := props_next.mono_l k
    refine ⟨?_, ?_⟩
    · intro y0 y1 y2 y3 y4 y5
      unfold props_next.j1
      exact z73m0
    · intro y0 y1 y2 y3 y4 y5 y6 y7
      unfold props_next.j0
      exact z73m0
theorem props_next.mono : ∀ a0 a1 k, LeO (props_next.f k a0 a1) (props_next.f (k + 1) a0 a1) := by
  intro a0 a1 k
  obtain ⟨ih0, ih1⟩ := props_next.mono_l k
  unfold props_next.f
  exact z73m0
theorem z73z0 {p : Prop} (h : p := by repeat (first | (with_reducible first | exact HB.out | apply below_alloc | apply pw_below_drewN | apply below_drew1 | refine below_set ?_ (IsS78.ge HI0.out) | refine below_set ?_ GE101.out | refine below_set ?_ GE105.out) | exact HB.out)) : p := h
theorem z73z1 {p : Prop} (h : p := by repeat (first | (with_reducible first | exact HI0.out | apply IsS78.alloc | apply IsS78.drewN | apply IsS78.drew | apply IsS78.set_0 | apply IsS78.set_1 | refine IsS78.far ?_ NB0_101.out _ | refine IsS78.far ?_ NB0_105.out _) | exact HI0.out)) : p := h
theorem z73z2 {p : Prop} (h : p := by repeat (first | (with_reducible first | exact HK.out | apply KeepBut.set_ | apply keep_drewN | apply keep_drew | apply keep_alloc | refine keep_far ?_ GW101.out _ | refine keep_far ?_ GW105.out _) | exact HK.out)) : p := h
theorem z73z3 {p : Prop} (h : p := by (with_reducible repeat (first | refine blk_drewN ?_ _ | refine blk_drew ?_ | refine blk_alloc ?_ _)); refine blk_far ?_ NB101_105.out _; (with_reducible repeat (first | refine blk_drewN ?_ _ | refine blk_drew ?_ | refine blk_alloc ?_ _)); exact BK101.out) : p := h
theorem z73z4 {p : Prop} (h : p := by (with_reducible repeat (first | refine blk_drewN ?_ _ | refine blk_drew ?_ | refine blk_alloc ?_ _)); exact BK105.out) : p := h
theorem z73z5 {p : Prop} (h : p := by (with_reducible repeat (first | refine blk_drewN ?_ _ | refine blk_drew ?_ | refine blk_alloc ?_ _)); refine blk_put (cs := #[.int .u8 t102, .int .u32 0, .string (⟨#[]⟩ : ByteArray), .string (⟨#[]⟩ : ByteArray)]) ?_ 1 _ rfl; (with_reducible repeat (first | refine blk_drewN ?_ _ | refine blk_drew ?_ | refine blk_alloc ?_ _)); exact BK105.out) : p := h
theorem z73z6 {p : Prop} (h : p := by (with_reducible repeat (first | refine blk_drewN ?_ _ | refine blk_drew ?_ | refine blk_alloc ?_ _)); refine blk_put (cs := #[.int .u8 0, .int .u32 0, .string (⟨#[]⟩ : ByteArray), .string (⟨#[]⟩ : ByteArray)]) ?_ 3 _ rfl; (with_reducible repeat (first | refine blk_drewN ?_ _ | refine blk_drew ?_ | refine blk_alloc ?_ _)); refine blk_put (cs := #[.int .u8 0, .int .u32 0, .string (⟨#[]⟩ : ByteArray), .string (⟨#[]⟩ : ByteArray)]) ?_ 2 _ rfl; (with_reducible repeat (first | refine blk_drewN ?_ _ | refine blk_drew ?_ | refine blk_alloc ?_ _)); refine blk_put (cs := #[.int .u8 0, .int .u32 0, .string (⟨#[]⟩ : ByteArray), .string (⟨#[]⟩ : ByteArray)]) ?_ 1 _ rfl; (with_reducible repeat (first | refine blk_drewN ?_ _ | refine blk_drew ?_ | refine blk_alloc ?_ _)); refine blk_put (cs := #[.int .u8 0, .int .u32 0, .string (⟨#[]⟩ : ByteArray), .string (⟨#[]⟩ : ByteArray)]) ?_ 0 _ rfl; (with_reducible repeat (first | refine blk_drewN ?_ _ | refine blk_drew ?_ | refine blk_alloc ?_ _)); exact BK101.out) : p := h
theorem z73z7 {p : Prop} (h : p := by repeat (first | (with_reducible first | exact HK.out | apply KeepBut.set_ | apply keep_drewN | apply keep_drew | apply keep_alloc | refine keep_far ?_ GW101.out _) | exact HK.out)) : p := h
theorem z73z8 {p : Prop} (h : p := by (with_reducible repeat (first | refine blk_drewN ?_ _ | refine blk_drew ?_ | refine blk_alloc ?_ _)); refine blk_put (cs := #[.int .u8 t102, .int .u32 0, .string (⟨#[]⟩ : ByteArray), .string (⟨#[]⟩ : ByteArray)]) ?_ 2 _ rfl; (with_reducible repeat (first | refine blk_drewN ?_ _ | refine blk_drew ?_ | refine blk_alloc ?_ _)); exact BK105.out) : p := h
theorem z73z9 {p : Prop} (h : p := by repeat (first | (with_reducible first | exact HI0.out | apply IsS78.alloc | apply IsS78.drewN | apply IsS78.drew | apply IsS78.set_0 | apply IsS78.set_1 | refine IsS78.far ?_ NB0_101.out _) | exact HI0.out)) : p := h
theorem z73z10 {p : Prop} (h : p := by repeat (first | (with_reducible first | exact HB.out | apply below_alloc | apply pw_below_drewN | apply below_drew1 | refine below_set ?_ (IsS78.ge HI0.out) | refine below_set ?_ GE101.out) | exact HB.out)) : p := h
theorem z73z11 {p : Prop} (h : p := by have := HJ35.out; first | omega | exact Nat.le_refl _) : p := h
theorem props_next.calls (k : Nat) (g : Nat) (s0_0 : ByteArray) (s0_1 : Int) (r1 : Int) (r2 : Int) (r3 : ByteArray) (r4 : ByteArray) (r5 : Bool) (r6 : ByteArray) (r7 : Int) (w0 w : World) (hI : IsS78 w0 w g s0_0 s0_1) (hB : Below w0.heap.size w0 w) (hG : GW w0) (h : props_next.f k s0_0 s0_1 = some (r1, r2, r3, r4, r5, r6, r7)) :
  Calls Tryd.prog 73 #[.pointer (some ⟨g, 0, none⟩)] w fun e w' => e = .returned (.tuple #[.agg #[.int .u8 r1, .int .u32 r2, .string r3, .string r4], .bool r5]) ∧ IsS78 w0 w' g r6 r7 ∧ Below w0.heap.size w0 w' ∧ KeepBut w w' g none := by
 have hu60 := Tryd.underlying60
 have HI0 := Aside0.mk hI
 have HK := Aside0.mk (KeepBut.refl w g none)
 have HL := Aside0.mk hB.size
 clear hI
 have HW0 := Aside0.mk hB.size
 have HB := Aside0.mk hB
 clear hB
 have HG := Aside0.mk hG
 clear hG
 have H : ((wire_Reader_Byte.f s0_0 s0_1).bind fun bt102 => ((prop_Type.f bt102.1).bind fun t106 => (if t106 = 1 then ((wire_Reader_Byte.f bt102.2.1 bt102.2.2).bind fun bt107 => (props_next.j1 k bt107.2.1 bt107.2.2 bt102.1 ((bt107.1) % 4294967296) (⟨#[]⟩ : ByteArray) (⟨#[]⟩ : ByteArray))) else (if t106 = 2 then ((wire_Reader_Two.f bt102.2.1 bt102.2.2).bind fun bt110 => (props_next.j1 k bt110.2.1 bt110.2.2 bt102.1 ((bt110.1) % 4294967296) (⟨#[]⟩ : ByteArray) (⟨#[]⟩ : ByteArray))) else (if t106 = 3 then ((wire_Reader_Four.f bt102.2.1 bt102.2.2).bind fun bt113 => (props_next.j1 k bt113.2.1 bt113.2.2 bt102.1 bt113.1 (⟨#[]⟩ : ByteArray) (⟨#[]⟩ : ByteArray))) else (if t106 = 4 then ((wire_Reader_Var.f k bt102.2.1 bt102.2.2).bind fun bt116 => (props_next.j1 k bt116.2.1 bt116.2.2 bt102.1 bt116.1 (⟨#[]⟩ : ByteArray) (⟨#[]⟩ : ByteArray))) else (if t106 = 5 then (props_next.j0 k t106 (t106 == 5) bt102.2.1 bt102.2.2 bt102.1 0 (⟨#[]⟩ : ByteArray) (⟨#[]⟩ : ByteArray)) else (props_next.j0 k t106 (t106 == 6) bt102.2.1 bt102.2.2 bt102.1 0 (⟨#[]⟩ : ByteArray) (⟨#[]⟩ : ByteArray))))))))) = some (r1, r2, r3, r4, r5, r6, r7) := h
 clear h
 replace H := Option.bind_eq_some_iff.mp H
 obtain ⟨⟨t102, t103, t104⟩, A20, H⟩ := H
 try dsimp -simprocs only at H
 have A2 := Aside0.mk A20
 clear A20
 replace H := Option.bind_eq_some_iff.mp H
 obtain ⟨t106, A30, H⟩ := H
 try dsimp -simprocs only at H
 have A3 := Aside0.mk A30
 clear A30
 have HC4 := Aside0.mk H
 clear H
 go_enter Tryd.func73, Tryd.ntmps73
 go_upto_block 0 with (first | ((with_reducible refine gate_dst (N := 2) rfl ?_); refine box_event ?hg (N := 2) ?hd (cs := #[.int .u8 0, .int .u32 0, .string (⟨#[]⟩ : ByteArray), .string (⟨#[]⟩ : ByteArray)]) (t := 60) ?hr ?_; (case hd => rfl); (case hg => rfl); (case hr => first | (go_simp; done) | (go_simp; rfl)); intro gb101 hg w5 hbox hb; have n0_ := Aside0.mk (IsS78.below (by repeat (first | (with_reducible first | exact HI0.out | apply IsS78.alloc | apply IsS78.drewN | apply IsS78.drew | apply IsS78.set_0 | apply IsS78.set_1) | exact HI0.out)) hb); have n1_ := Aside0.mk (KeepBut.trans y6_ (KeepBut.of_below hb g none) (.inl rfl)); have n2_ := Aside0.mk (below_step (by repeat (first | (with_reducible first | exact HB.out | apply below_alloc | apply pw_below_drewN | apply below_drew1 | refine below_set ?_ (IsS78.ge HI0.out)) | exact HB.out)) hb); have n3_ := Aside0.mk (hbox); have n4_ := Aside0.mk ((by rw [hg]; exact (keep_size (w := w) (g := g) (row := none) y6_) : w.heap.size ≤ gb101)); have n5_ := Aside0.mk ((Nat.le_trans HW0.out (by rw [hg]; exact (keep_size (w := w) (g := g) (row := none) y6_) : w.heap.size ≤ gb101) : w0.heap.size ≤ gb101)); have n6_ := Aside0.mk ((by rw [hg]; exact Nat.ne_of_lt (IsS78.lt (show IsS78 w0 _ g s0_0 s0_1 from by repeat (first | (with_reducible first | exact HI0.out | apply IsS78.alloc | apply IsS78.drewN | apply IsS78.drew | apply IsS78.set_0 | apply IsS78.set_1) | exact HI0.out))) : g ≠ gb101)); have n7_ := Aside0.mk ((by rw [hg]; exact Nat.ne_of_gt (IsS78.lt (show IsS78 w0 _ g s0_0 s0_1 from by repeat (first | (with_reducible first | exact HI0.out | apply IsS78.alloc | apply IsS78.drewN | apply IsS78.drew | apply IsS78.set_0 | apply IsS78.set_1) | exact HI0.out))) : gb101 ≠ g)); replace HI0 := n0_; replace HK := n1_; replace HB := n2_; have BK101 := n3_; have GW101 := n4_; have GE101 := n5_; have NB0_101 := n6_; have NB101_0 := n7_; clear n0_ n1_ n2_ n3_ n4_ n5_ n6_ n7_; clear hb hbox hg) | ((with_reducible refine gate_callee (f := 16) rfl ?_); refine goesL_ (some 6) rfl rfl Tryd.func16 (by kernel_rfl) rfl #[.pointer (some ⟨g, 0, none⟩)] rfl y2_ ?_; (with_reducible refine (wire_Reader_Byte.calls g s0_0 s0_1 t102 t103 t104 w0 _ ?side1 ?side2 A2.out).mono ?_); (case side1 => exact z73z9); (case side2 => exact z73z10); rintro e w6 ⟨rfl, hi, hb, hk⟩; refine ⟨_, rfl, ?_⟩; have n0_ := Aside0.mk (KeepBut.blk hk (g' := gb101) (o := .cells #[.int .u8 0, .int .u32 0, .string (⟨#[]⟩ : ByteArray), .string (⟨#[]⟩ : ByteArray)] 60 (0, 0)) y3_ NB101_0.out (by simp)); have n1_ := Aside0.mk (KeepBut.trans z73z7 hk (.inl rfl)); have n2_ := Aside0.mk (hb); have n3_ := Aside0.mk (hi); replace BK101 := n0_; replace HK := n1_; replace HB := n2_; replace HI0 := n3_; clear n0_ n1_ n2_ n3_; clear hb hk hi) | ((with_reducible refine gate_dst (N := 4) rfl ?_); refine box_event ?hg (N := 4) ?hd (cs := #[.int .u8 0, .int .u32 0, .string (⟨#[]⟩ : ByteArray), .string (⟨#[]⟩ : ByteArray)]) (t := 60) ?hr ?_; (case hd => rfl); (case hg => rfl); (case hr => first | (go_simp; done) | (go_simp; rfl)); intro gb105 hg w7 hbox hb; have n0_ := Aside0.mk (IsS78.below z73z9 hb); have n1_ := Aside0.mk (blk_below (g := gb101) (o := .cells #[.int .u8 0, .int .u32 0, .string (⟨#[]⟩ : ByteArray), .string (⟨#[]⟩ : ByteArray)] 60 (0, 0)) y3_ hb); have n2_ := Aside0.mk (KeepBut.trans z73z7 (KeepBut.of_below hb g none) (.inl rfl)); have n3_ := Aside0.mk (below_step z73z10 hb); have n4_ := Aside0.mk (hbox); have n5_ := Aside0.mk ((by rw [hg]; exact (keep_size (w := w) (g := g) (row := none) z73z7) : w.heap.size ≤ gb105)); have n6_ := Aside0.mk ((Nat.le_trans HW0.out (by rw [hg]; exact (keep_size (w := w) (g := g) (row := none) z73z7) : w.heap.size ≤ gb105) : w0.heap.size ≤ gb105)); have n7_ := Aside0.mk ((by rw [hg]; exact Nat.ne_of_lt (blk_lt (g := gb101) (o := .cells #[.int .u8 0, .int .u32 0, .string (⟨#[]⟩ : ByteArray), .string (⟨#[]⟩ : ByteArray)] 60 (0, 0)) y3_) : gb101 ≠ gb105)); have n8_ := Aside0.mk ((by rw [hg]; exact Nat.ne_of_gt (blk_lt (g := gb101) (o := .cells #[.int .u8 0, .int .u32 0, .string (⟨#[]⟩ : ByteArray), .string (⟨#[]⟩ : ByteArray)] 60 (0, 0)) y3_) : gb105 ≠ gb101)); have n9_ := Aside0.mk ((by rw [hg]; exact Nat.ne_of_lt (IsS78.lt (show IsS78 w0 _ g t103 t104 from by repeat (first | (with_reducible first | exact HI0.out | apply IsS78.alloc | apply IsS78.drewN | apply IsS78.drew | apply IsS78.set_0 | apply IsS78.set_1 | refine IsS78.far ?_ NB0_101.out _) | exact HI0.out))) : g ≠ gb105)); have n10_ := Aside0.mk ((by rw [hg]; exact Nat.ne_of_gt (IsS78.lt (show IsS78 w0 _ g t103 t104 from by repeat (first | (with_reducible first | exact HI0.out | apply IsS78.alloc | apply IsS78.drewN | apply IsS78.drew | apply IsS78.set_0 | apply IsS78.set_1 | refine IsS78.far ?_ NB0_101.out _) | exact HI0.out))) : gb105 ≠ g)); replace HI0 := n0_; replace BK101 := n1_; replace HK := n2_; replace HB := n3_; have BK105 := n4_; have GW105 := n5_; have GE105 := n6_; have NB101_105 := n7_; have NB105_101 := n8_; have NB0_105 := n9_; have NB105_0 := n10_; clear n0_ n1_ n2_ n3_ n4_ n5_ n6_ n7_ n8_ n9_ n10_; clear hb hbox hg; have hnb8 := NB105_101.out; have hnc8 := NB101_105.out; have hnb9 := NB105_0.out; have hnc9 := NB0_105.out; obtain ⟨hcz10_0, hcz10_1, hcz10_2, hcz10_3⟩ := ccs4_ BK105.out; obtain ⟨hfz10_0, hfz10_1, hfz10_2, hfz10_3⟩ := fzs4_ BK105.out) | ((with_reducible refine gate_callee (f := 82) rfl ?_); refine goesL_ (some 10) rfl rfl Tryd.func82 (by kernel_rfl) rfl #[.int .u8 t102] rfl y2_ ?_; (with_reducible refine (prop_Type.calls t102 t106 _ A3.out).mono ?_); rintro e w11 ⟨rfl, hb⟩; refine ⟨_, rfl, ?_⟩; have n0_ := Aside0.mk (IsS78.below (show IsS78 w0 ((((w7.setCell ⟨gb105, 0, none⟩ (.int .u8 t102)).setCell ⟨gb105, 1, none⟩ (.int .u32 0)).setCell ⟨gb105, 2, none⟩ (.string (⟨#[]⟩ : ByteArray))).setCell ⟨gb105, 3, none⟩ (.string (⟨#[]⟩ : ByteArray))) g t103 t104 from by repeat (first | (with_reducible first | exact HI0.out | apply IsS78.alloc | apply IsS78.drewN | apply IsS78.drew | apply IsS78.set_0 | apply IsS78.set_1 | refine IsS78.far ?_ NB0_101.out _ | refine IsS78.far ?_ NB0_105.out _) | exact HI0.out)) hb); have n1_ := Aside0.mk (blk_below (g := gb101) (o := .cells #[.int .u8 0, .int .u32 0, .string (⟨#[]⟩ : ByteArray), .string (⟨#[]⟩ : ByteArray)] 60 (0, 0)) (by (with_reducible repeat (first | refine blk_drewN ?_ _ | refine blk_drew ?_ | refine blk_alloc ?_ _)); refine blk_far ?_ NB101_105.out _; (with_reducible repeat (first | refine blk_drewN ?_ _ | refine blk_drew ?_ | refine blk_alloc ?_ _)); refine blk_far ?_ NB101_105.out _; (with_reducible repeat (first | refine blk_drewN ?_ _ | refine blk_drew ?_ | refine blk_alloc ?_ _)); refine blk_far ?_ NB101_105.out _; (with_reducible repeat (first | refine blk_drewN ?_ _ | refine blk_drew ?_ | refine blk_alloc ?_ _)); refine blk_far ?_ NB101_105.out _; (with_reducible repeat (first | refine blk_drewN ?_ _ | refine blk_drew ?_ | refine blk_alloc ?_ _)); exact BK101.out) hb); have n2_ := Aside0.mk (blk_below (g := gb105) (o := .cells #[.int .u8 t102, .int .u32 0, .string (⟨#[]⟩ : ByteArray), .string (⟨#[]⟩ : ByteArray)] 60 (0, 0)) (by (with_reducible repeat (first | refine blk_drewN ?_ _ | refine blk_drew ?_ | refine blk_alloc ?_ _)); refine blk_put (cs := #[.int .u8 t102, .int .u32 0, .string (⟨#[]⟩ : ByteArray), .string (⟨#[]⟩ : ByteArray)]) ?_ 3 _ rfl; (with_reducible repeat (first | refine blk_drewN ?_ _ | refine blk_drew ?_ | refine blk_alloc ?_ _)); refine blk_put (cs := #[.int .u8 t102, .int .u32 0, .string (⟨#[]⟩ : ByteArray), .string (⟨#[]⟩ : ByteArray)]) ?_ 2 _ rfl; (with_reducible repeat (first | refine blk_drewN ?_ _ | refine blk_drew ?_ | refine blk_alloc ?_ _)); refine blk_put (cs := #[.int .u8 t102, .int .u32 0, .string (⟨#[]⟩ : ByteArray), .string (⟨#[]⟩ : ByteArray)]) ?_ 1 _ rfl; (with_reducible repeat (first | refine blk_drewN ?_ _ | refine blk_drew ?_ | refine blk_alloc ?_ _)); refine blk_put (cs := #[.int .u8 0, .int .u32 0, .string (⟨#[]⟩ : ByteArray), .string (⟨#[]⟩ : ByteArray)]) ?_ 0 _ rfl; (with_reducible repeat (first | refine blk_drewN ?_ _ | refine blk_drew ?_ | refine blk_alloc ?_ _)); exact BK105.out) hb); have n3_ := Aside0.mk (KeepBut.trans z73z2 (KeepBut.of_below hb g none) (.inl rfl)); have n4_ := Aside0.mk (below_step z73z0 hb); replace HI0 := n0_; replace BK101 := n1_; replace BK105 := n2_; replace HK := n3_; replace HB := n4_; clear n0_ n1_ n2_ n3_ n4_; clear hb))
 (try simp only [Act.put, List.setIfInBounds_toArray, List.set_cons_zero, List.set_cons_succ])
 go_cut [] (fun wc => ∃ (kq : Nat) (x1000_3 : ByteArray) (x1001_3 : Int) (x106001_3 : Int) (x106002_3 : ByteArray) (x106003_3 : ByteArray), Aside0 (props_next.j1 kq x1000_3 x1001_3 t102 x106001_3 x106002_3 x106003_3 = some (r1, r2, r3, r4, r5, r6, r7)) ∧ Aside0 (kq ≤ k) ∧ Aside0 (wc.heap[gb101]? = some (.cells #[.int .u8 0, .int .u32 0, .string (⟨#[]⟩ : ByteArray), .string (⟨#[]⟩ : ByteArray)] 60 (0, 0))) ∧ Aside0 (wc.heap[gb105]? = some (.cells #[.int .u8 t102, .int .u32 x106001_3, .string x106002_3, .string x106003_3] 60 (0, 0))) ∧ Aside0 (IsS78 w0 wc g x1000_3 x1001_3) ∧ Aside0 (KeepBut w wc g none) ∧ Aside0 (Below w0.heap.size w0 wc))
 case first =>
  have H := HC4.out
  clear HC4
  by_cases c12 : t106 = 1
  ·rw [if_pos c12] at H
   obtain ⟨c12b0, c12b1⟩ := eqt_ c12
   clear c12
   (first | rw [c12b0] | (simp only [i64_w, i32_w]; rw [c12b0]) | skip)
   replace H := Option.bind_eq_some_iff.mp H
   obtain ⟨⟨t107, t108, t109⟩, A130, H⟩ := H
   replace H : (props_next.j1 k t108 t109 t102 ((t107) % 4294967296) (⟨#[]⟩ : ByteArray) (⟨#[]⟩ : ByteArray)) = some (r1, r2, r3, r4, r5, r6, r7) := H
   have A13 := Aside0.mk A130
   clear A130
   have H' := Aside0.mk H
   clear H
   go_wp2_with (first | ((with_reducible refine gate_callee (f := 16) rfl ?_); refine goesL_ (some 14) rfl rfl Tryd.func16 (by kernel_rfl) rfl #[.pointer (some ⟨g, 0, none⟩)] rfl y2_ ?_; (with_reducible refine (wire_Reader_Byte.calls g t103 t104 t107 t108 t109 w0 _ ?side1 ?side2 A13.out).mono ?_); (case side1 => exact z73z1); (case side2 => exact z73z0); rintro e w14 ⟨rfl, hi, hb, hk⟩; refine ⟨_, rfl, ?_⟩; have n0_ := Aside0.mk (KeepBut.blk hk (g' := gb101) (o := .cells #[.int .u8 0, .int .u32 0, .string (⟨#[]⟩ : ByteArray), .string (⟨#[]⟩ : ByteArray)] 60 (0, 0)) y3_ NB101_0.out (by simp)); have n1_ := Aside0.mk (KeepBut.blk hk (g' := gb105) (o := .cells #[.int .u8 t102, .int .u32 0, .string (⟨#[]⟩ : ByteArray), .string (⟨#[]⟩ : ByteArray)] 60 (0, 0)) z73z4 NB105_0.out (by simp)); have n2_ := Aside0.mk (KeepBut.trans z73z2 hk (.inl rfl)); have n3_ := Aside0.mk (hb); have n4_ := Aside0.mk (hi); replace BK101 := n0_; replace BK105 := n1_; replace HK := n2_; replace HB := n3_; replace HI0 := n4_; clear n0_ n1_ n2_ n3_ n4_; clear hb hk hi; have hnb15 := NB105_101.out; have hnc15 := NB101_105.out; have hnb16 := NB105_0.out; have hnc16 := NB0_105.out; obtain ⟨hcz17_0, hcz17_1, hcz17_2, hcz17_3⟩ := ccs4_ BK105.out; obtain ⟨hfz17_0, hfz17_1, hfz17_2, hfz17_3⟩ := fzs4_ BK105.out))
   go_meet
   case rel => exact ⟨_, (t108), (t109), ((t107) % 4294967296), ((⟨#[]⟩ : ByteArray)), ((⟨#[]⟩ : ByteArray)), H', ⟨y19_⟩, ⟨z73z3⟩, ⟨z73z5⟩, ⟨z73z1⟩, ⟨z73z2⟩, ⟨z73z0⟩⟩
  ·rw [if_neg c12] at H
   obtain ⟨c12b0, c12b1⟩ := eqf_ c12
   (first | rw [c12b0] | (simp only [i64_w, i32_w]; rw [c12b0]) | skip)
   by_cases c18 : t106 = 2
   ·rw [if_pos c18] at H
    obtain ⟨c18b0, c18b1⟩ := eqt_ c18
    clear c18
    replace H := Option.bind_eq_some_iff.mp H
    obtain ⟨⟨t110, t111, t112⟩, A190, H⟩ := H
    replace H : (props_next.j1 k t111 t112 t102 ((t110) % 4294967296) (⟨#[]⟩ : ByteArray) (⟨#[]⟩ : ByteArray)) = some (r1, r2, r3, r4, r5, r6, r7) := H
    have A19 := Aside0.mk A190
    clear A190
    have H' := Aside0.mk H
    clear H
    go_wp2_with (first | ((with_reducible refine gate_callee (f := 94) rfl ?_); refine goesL_ (some 20) rfl rfl Tryd.func94 (by kernel_rfl) rfl #[.pointer (some ⟨g, 0, none⟩)] rfl y2_ ?_; (with_reducible refine (wire_Reader_Two.calls g t103 t104 t110 t111 t112 w0 _ ?side1 ?side2 A19.out).mono ?_); (case side1 => exact z73z1); (case side2 => exact z73z0); rintro e w20 ⟨rfl, hi, hb, hk⟩; refine ⟨_, rfl, ?_⟩; have n0_ := Aside0.mk (KeepBut.blk hk (g' := gb101) (o := .cells #[.int .u8 0, .int .u32 0, .string (⟨#[]⟩ : ByteArray), .string (⟨#[]⟩ : ByteArray)] 60 (0, 0)) y3_ NB101_0.out (by simp)); have n1_ := Aside0.mk (KeepBut.blk hk (g' := gb105) (o := .cells #[.int .u8 t102, .int .u32 0, .string (⟨#[]⟩ : ByteArray), .string (⟨#[]⟩ : ByteArray)] 60 (0, 0)) z73z4 NB105_0.out (by simp)); have n2_ := Aside0.mk (KeepBut.trans z73z2 hk (.inl rfl)); have n3_ := Aside0.mk (hb); have n4_ := Aside0.mk (hi); replace BK101 := n0_; replace BK105 := n1_; replace HK := n2_; replace HB := n3_; replace HI0 := n4_; clear n0_ n1_ n2_ n3_ n4_; clear hb hk hi; have hnb21 := NB105_101.out; have hnc21 := NB101_105.out; have hnb22 := NB105_0.out; have hnc22 := NB0_105.out; obtain ⟨hcz23_0, hcz23_1, hcz23_2, hcz23_3⟩ := ccs4_ BK105.out; obtain ⟨hfz23_0, hfz23_1, hfz23_2, hfz23_3⟩ := fzs4_ BK105.out))
    go_meet
    case rel => exact ⟨_, (t111), (t112), ((t110) % 4294967296), ((⟨#[]⟩ : ByteArray)), ((⟨#[]⟩ : ByteArray)), H', ⟨y19_⟩, ⟨z73z3⟩, ⟨z73z5⟩, ⟨z73z1⟩, ⟨z73z2⟩, ⟨z73z0⟩⟩
   ·rw [if_neg c18] at H
    obtain ⟨c18b0, c18b1⟩ := eqf_ c18
    by_cases c24 : t106 = 3
    ·rw [if_pos c24] at H
     obtain ⟨c24b0, c24b1⟩ := eqt_ c24
     clear c24
     replace H := Option.bind_eq_some_iff.mp H
     obtain ⟨⟨t113, t114, t115⟩, A250, H⟩ := H
     replace H : (props_next.j1 k t114 t115 t102 t113 (⟨#[]⟩ : ByteArray) (⟨#[]⟩ : ByteArray)) = some (r1, r2, r3, r4, r5, r6, r7) := H
     have A25 := Aside0.mk A250
     clear A250
     have H' := Aside0.mk H
     clear H
     go_wp2_with (first | ((with_reducible refine gate_callee (f := 95) rfl ?_); refine goesL_ (some 26) rfl rfl Tryd.func95 (by kernel_rfl) rfl #[.pointer (some ⟨g, 0, none⟩)] rfl y2_ ?_; (with_reducible refine (wire_Reader_Four.calls g t103 t104 t113 t114 t115 w0 _ ?side1 ?side2 A25.out).mono ?_); (case side1 => exact z73z1); (case side2 => exact z73z0); rintro e w26 ⟨rfl, hi, hb, hk⟩; refine ⟨_, rfl, ?_⟩; have n0_ := Aside0.mk (KeepBut.blk hk (g' := gb101) (o := .cells #[.int .u8 0, .int .u32 0, .string (⟨#[]⟩ : ByteArray), .string (⟨#[]⟩ : ByteArray)] 60 (0, 0)) y3_ NB101_0.out (by simp)); have n1_ := Aside0.mk (KeepBut.blk hk (g' := gb105) (o := .cells #[.int .u8 t102, .int .u32 0, .string (⟨#[]⟩ : ByteArray), .string (⟨#[]⟩ : ByteArray)] 60 (0, 0)) z73z4 NB105_0.out (by simp)); have n2_ := Aside0.mk (KeepBut.trans z73z2 hk (.inl rfl)); have n3_ := Aside0.mk (hb); have n4_ := Aside0.mk (hi); replace BK101 := n0_; replace BK105 := n1_; replace HK := n2_; replace HB := n3_; replace HI0 := n4_; clear n0_ n1_ n2_ n3_ n4_; clear hb hk hi; have hnb27 := NB105_101.out; have hnc27 := NB101_105.out; have hnb28 := NB105_0.out; have hnc28 := NB0_105.out; obtain ⟨hcz29_0, hcz29_1, hcz29_2, hcz29_3⟩ := ccs4_ BK105.out; obtain ⟨hfz29_0, hfz29_1, hfz29_2, hfz29_3⟩ := fzs4_ BK105.out))
     go_meet
     case rel => exact ⟨_, (t114), (t115), (t113), ((⟨#[]⟩ : ByteArray)), ((⟨#[]⟩ : ByteArray)), H', ⟨y19_⟩, ⟨z73z3⟩, ⟨z73z5⟩, ⟨z73z1⟩, ⟨z73z2⟩, ⟨z73z0⟩⟩
    ·rw [if_neg c24] at H
     obtain ⟨c24b0, c24b1⟩ := eqf_ c24
     by_cases c30 : t106 = 4
     ·rw [if_pos c30] at H
      obtain ⟨c30b0, c30b1⟩ := eqt_ c30
      clear c30
      replace H := Option.bind_eq_some_iff.mp H
      obtain ⟨⟨t116, t117, t118⟩, A310, H⟩ := H
      replace H : (props_next.j1 k t117 t118 t102 t116 (⟨#[]⟩ : ByteArray) (⟨#[]⟩ : ByteArray)) = some (r1, r2, r3, r4, r5, r6, r7) := H
      have A31 := Aside0.mk A310
      clear A310
      have H' := Aside0.mk H
      clear H
      go_wp2_with (first | ((with_reducible refine gate_callee (f := 43) rfl ?_); refine goesL_ (some 31) rfl rfl Tryd.func43 (by kernel_rfl) rfl #[.pointer (some ⟨g, 0, none⟩)] rfl y2_ ?_; (with_reducible refine (wire_Reader_Var.calls k g t103 t104 t116 t117 t118 w0 _ ?side1 ?side2 A31.out).mono ?_); (case side1 => exact z73z1); (case side2 => exact z73z0); rintro e w32 ⟨rfl, hi, hb, hk⟩; refine ⟨_, rfl, ?_⟩; have n0_ := Aside0.mk (KeepBut.blk hk (g' := gb101) (o := .cells #[.int .u8 0, .int .u32 0, .string (⟨#[]⟩ : ByteArray), .string (⟨#[]⟩ : ByteArray)] 60 (0, 0)) y3_ NB101_0.out (by simp)); have n1_ := Aside0.mk (KeepBut.blk hk (g' := gb105) (o := .cells #[.int .u8 t102, .int .u32 0, .string (⟨#[]⟩ : ByteArray), .string (⟨#[]⟩ : ByteArray)] 60 (0, 0)) z73z4 NB105_0.out (by simp)); have n2_ := Aside0.mk (KeepBut.trans z73z2 hk (.inl rfl)); have n3_ := Aside0.mk (hb); have n4_ := Aside0.mk (hi); replace BK101 := n0_; replace BK105 := n1_; replace HK := n2_; replace HB := n3_; replace HI0 := n4_; clear n0_ n1_ n2_ n3_ n4_; clear hb hk hi; have hnb33 := NB105_101.out; have hnc33 := NB101_105.out; have hnb34 := NB105_0.out; have hnc34 := NB0_105.out; obtain ⟨hcz35_0, hcz35_1, hcz35_2, hcz35_3⟩ := ccs4_ BK105.out; obtain ⟨hfz35_0, hfz35_1, hfz35_2, hfz35_3⟩ := fzs4_ BK105.out))
      go_meet
      case rel => exact ⟨_, (t117), (t118), (t116), ((⟨#[]⟩ : ByteArray)), ((⟨#[]⟩ : ByteArray)), H', ⟨y19_⟩, ⟨z73z3⟩, ⟨z73z5⟩, ⟨z73z1⟩, ⟨z73z2⟩, ⟨z73z0⟩⟩
     ·rw [if_neg c30] at H
      obtain ⟨c30b0, c30b1⟩ := eqf_ c30
      have HC36 := Aside0.mk H
      clear H
      go_upto_if 33 with (fail)
      go_cut [33] (fun v33 wc => ∃ (kq : Nat) (x33_35 : Bool), v33 = .bool x33_35 ∧ Aside0 (props_next.j0 kq t106 x33_35 t103 t104 t102 0 (⟨#[]⟩ : ByteArray) (⟨#[]⟩ : ByteArray) = some (r1, r2, r3, r4, r5, r6, r7)) ∧ Aside0 (kq ≤ k) ∧ Aside0 (wc.heap[gb101]? = some (.cells #[.int .u8 0, .int .u32 0, .string (⟨#[]⟩ : ByteArray), .string (⟨#[]⟩ : ByteArray)] 60 (0, 0))) ∧ Aside0 (wc.heap[gb105]? = some (.cells #[.int .u8 t102, .int .u32 0, .string (⟨#[]⟩ : ByteArray), .string (⟨#[]⟩ : ByteArray)] 60 (0, 0))) ∧ Aside0 (IsS78 w0 wc g t103 t104) ∧ Aside0 (KeepBut w wc g none) ∧ Aside0 (Below w0.heap.size w0 wc))
      case first =>
       have H := HC36.out
       clear HC36
       by_cases c37 : t106 = 5
       ·rw [if_pos c37] at H
        obtain ⟨c37b0, c37b1⟩ := eqt_ c37
        clear c37
        (first | rw [c37b0] | (simp only [i64_w, i32_w]; rw [c37b0]) | skip)
        have H' := Aside0.mk H
        clear H
        go_wp2
        go_meet
        case rel => exact ⟨_, ((t106 == 5)), y7_, H', ⟨y19_⟩, ⟨y3_⟩, ⟨z73z4⟩, ⟨z73z1⟩, ⟨z73z2⟩, ⟨z73z0⟩⟩
       ·rw [if_neg c37] at H
        obtain ⟨c37b0, c37b1⟩ := eqf_ c37
        (first | rw [c37b0] | (simp only [i64_w, i32_w]; rw [c37b0]) | skip)
        have H' := Aside0.mk H
        clear H
        go_wp2
        go_meet
        case rel => exact ⟨_, ((t106 == 6)), y7_, H', ⟨y19_⟩, ⟨y3_⟩, ⟨z73z4⟩, ⟨z73z1⟩, ⟨z73z2⟩, ⟨z73z0⟩⟩
      case rest =>
       clear HC36
       try clear c1
       try clear c2
       try clear p2
       try clear c3
       try clear c4
       try clear c7
       try clear c8
       try clear c9
       try clear c12
       try clear c12b0
       try clear c12b1
       try clear c15
       try clear c16
       try clear c18
       try clear c18b0
       try clear c18b1
       try clear c21
       try clear c22
       try clear c24
       try clear c24b0
       try clear c24b1
       try clear c27
       try clear c28
       try clear c30
       try clear c30b0
       try clear c30b1
       try clear c33
       try clear c34
       try clear c37
       try clear c37b0
       try clear c37b1
       try clear hcz10_0
       try clear hcz10_1
       try clear hcz10_2
       try clear hcz10_3
       try clear hcz17_0
       try clear hcz17_1
       try clear hcz17_2
       try clear hcz17_3
       try clear hcz23_0
       try clear hcz23_1
       try clear hcz23_2
       try clear hcz23_3
       try clear hcz29_0
       try clear hcz29_1
       try clear hcz29_2
       try clear hcz29_3
       try clear hcz35_0
       try clear hcz35_1
       try clear hcz35_2
       try clear hcz35_3
       try clear hfz10_0
       try clear hfz10_1
       try clear hfz10_2
       try clear hfz10_3
       try clear hfz17_0
       try clear hfz17_1
       try clear hfz17_2
       try clear hfz17_3
       try clear hfz23_0
       try clear hfz23_1
       try clear hfz23_2
       try clear hfz23_3
       try clear hfz29_0
       try clear hfz29_1
       try clear hfz29_2
       try clear hfz29_3
       try clear hfz35_0
       try clear hfz35_1
       try clear hfz35_2
       try clear hfz35_3
       obtain ⟨kq, x33_35, rfl, HA, HJ35, BK101, BK105, HI0, HK, HB⟩ := hcut
       cases kq with
       | zero => exact absurd HA.out (by simp [props_next.j0])
       | succ kj35 =>
        have H := HA.out
        clear HA
        simp only [props_next.j0] at H
        by_cases c38 : x33_35 = true
        ·subst c38
         have H1 : ((wire_Reader_Bin.f t103 t104).bind fun bt119 => (props_next.j1 kj35 bt119.2.1 bt119.2.2 t102 0 bt119.1 (⟨#[]⟩ : ByteArray))) = some (r1, r2, r3, r4, r5, r6, r7) := by rw [if_pos rfl] at H; exact H
         clear H
         have H := H1
         clear H1
         replace H := Option.bind_eq_some_iff.mp H
         obtain ⟨⟨t119, t120, t121⟩, A390, H⟩ := H
         replace H : (props_next.j1 kj35 t120 t121 t102 0 t119 (⟨#[]⟩ : ByteArray)) = some (r1, r2, r3, r4, r5, r6, r7) := H
         have A39 := Aside0.mk A390
         clear A390
         have H' := Aside0.mk H
         clear H
         go_wp2_with (first | ((with_reducible refine gate_callee (f := 96) rfl ?_); refine goesL_ (some 37) rfl rfl Tryd.func96 (by kernel_rfl) rfl #[.pointer (some ⟨g, 0, none⟩)] rfl y2_ ?_; (with_reducible refine (wire_Reader_Bin.calls g t103 t104 t119 t120 t121 w0 _ ?side1 ?side2 A39.out).mono ?_); (case side1 => exact z73z1); (case side2 => exact z73z0); rintro e w40 ⟨rfl, hi, hb, hk⟩; refine ⟨_, rfl, ?_⟩; have n0_ := Aside0.mk (KeepBut.blk hk (g' := gb101) (o := .cells #[.int .u8 0, .int .u32 0, .string (⟨#[]⟩ : ByteArray), .string (⟨#[]⟩ : ByteArray)] 60 (0, 0)) y3_ NB101_0.out (by simp)); have n1_ := Aside0.mk (KeepBut.blk hk (g' := gb105) (o := .cells #[.int .u8 t102, .int .u32 0, .string (⟨#[]⟩ : ByteArray), .string (⟨#[]⟩ : ByteArray)] 60 (0, 0)) z73z4 NB105_0.out (by simp)); have n2_ := Aside0.mk (KeepBut.trans z73z2 hk (.inl rfl)); have n3_ := Aside0.mk (hb); have n4_ := Aside0.mk (hi); replace BK101 := n0_; replace BK105 := n1_; replace HK := n2_; replace HB := n3_; replace HI0 := n4_; clear n0_ n1_ n2_ n3_ n4_; clear hb hk hi; have hnb41 := NB105_101.out; have hnc41 := NB101_105.out; have hnb42 := NB105_0.out; have hnc42 := NB0_105.out; obtain ⟨hcz43_0, hcz43_1, hcz43_2, hcz43_3⟩ := ccs4_ BK105.out; obtain ⟨hfz43_0, hfz43_1, hfz43_2, hfz43_3⟩ := fzs4_ BK105.out))
         go_meet
         case rel => exact ⟨_, (t120), (t121), (0), (t119), ((⟨#[]⟩ : ByteArray)), H', ⟨z73z11⟩, ⟨z73z3⟩, ⟨z73z8⟩, ⟨z73z1⟩, ⟨z73z2⟩, ⟨z73z0⟩⟩
        ·replace c38 := Bool.eq_false_iff.mpr c38
         subst c38
         replace H : (if t106 = 7 then ((wire_Reader_Bin.f t103 t104).bind fun bt122 => ((wire_Reader_Bin.f bt122.2.1 bt122.2.2).bind fun bt125 => (props_next.j1 kj35 bt125.2.1 bt125.2.2 t102 0 bt122.1 bt125.1))) else (props_next.j1 kj35 t103 t104 t102 0 (⟨#[]⟩ : ByteArray) (⟨#[]⟩ : ByteArray))) = some (r1, r2, r3, r4, r5, r6, r7) := by rw [if_neg (show ¬ (false = true) by decide)] at H; exact H
         by_cases c44 : t106 = 7
         ·rw [if_pos c44] at H
          obtain ⟨c44b0, c44b1⟩ := eqt_ c44
          clear c44
          replace H := Option.bind_eq_some_iff.mp H
          obtain ⟨⟨t122, t123, t124⟩, A450, H⟩ := H
          replace H : ((wire_Reader_Bin.f t123 t124).bind fun bt125 => (props_next.j1 kj35 bt125.2.1 bt125.2.2 t102 0 t122 bt125.1)) = some (r1, r2, r3, r4, r5, r6, r7) := H
          have A45 := Aside0.mk A450
          clear A450
          replace H := Option.bind_eq_some_iff.mp H
          obtain ⟨⟨t125, t126, t127⟩, A460, H⟩ := H
          replace H : (props_next.j1 kj35 t126 t127 t102 0 t122 t125) = some (r1, r2, r3, r4, r5, r6, r7) := H
          have A46 := Aside0.mk A460
          clear A460
          have H' := Aside0.mk H
          clear H
          go_wp2_with (first | ((with_reducible refine gate_callee (f := 96) rfl ?_); refine goesL_ (some 42) rfl rfl Tryd.func96 (by kernel_rfl) rfl #[.pointer (some ⟨g, 0, none⟩)] rfl y2_ ?_; (with_reducible refine (wire_Reader_Bin.calls g t103 t104 t122 t123 t124 w0 _ ?side1 ?side2 A45.out).mono ?_); (case side1 => exact z73z1); (case side2 => exact z73z0); rintro e w47 ⟨rfl, hi, hb, hk⟩; refine ⟨_, rfl, ?_⟩; have n0_ := Aside0.mk (KeepBut.blk hk (g' := gb101) (o := .cells #[.int .u8 0, .int .u32 0, .string (⟨#[]⟩ : ByteArray), .string (⟨#[]⟩ : ByteArray)] 60 (0, 0)) y3_ NB101_0.out (by simp)); have n1_ := Aside0.mk (KeepBut.blk hk (g' := gb105) (o := .cells #[.int .u8 t102, .int .u32 0, .string (⟨#[]⟩ : ByteArray), .string (⟨#[]⟩ : ByteArray)] 60 (0, 0)) z73z4 NB105_0.out (by simp)); have n2_ := Aside0.mk (KeepBut.trans z73z2 hk (.inl rfl)); have n3_ := Aside0.mk (hb); have n4_ := Aside0.mk (hi); replace BK101 := n0_; replace BK105 := n1_; replace HK := n2_; replace HB := n3_; replace HI0 := n4_; clear n0_ n1_ n2_ n3_ n4_; clear hb hk hi; have hnb48 := NB105_101.out; have hnc48 := NB101_105.out; have hnb49 := NB105_0.out; have hnc49 := NB0_105.out; obtain ⟨hcz50_0, hcz50_1, hcz50_2, hcz50_3⟩ := ccs4_ BK105.out; obtain ⟨hfz50_0, hfz50_1, hfz50_2, hfz50_3⟩ := fzs4_ BK105.out) | ((with_reducible refine gate_callee (f := 96) rfl ?_); refine goesL_ (some 45) rfl rfl Tryd.func96 (by kernel_rfl) rfl #[.pointer (some ⟨g, 0, none⟩)] rfl y2_ ?_; (with_reducible refine (wire_Reader_Bin.calls g t123 t124 t125 t126 t127 w0 _ ?side1 ?side2 A46.out).mono ?_); (case side1 => exact z73z1); (case side2 => exact z73z0); rintro e w51 ⟨rfl, hi, hb, hk⟩; refine ⟨_, rfl, ?_⟩; have n0_ := Aside0.mk (KeepBut.blk hk (g' := gb101) (o := .cells #[.int .u8 0, .int .u32 0, .string (⟨#[]⟩ : ByteArray), .string (⟨#[]⟩ : ByteArray)] 60 (0, 0)) z73z3 NB101_0.out (by simp)); have n1_ := Aside0.mk (KeepBut.blk hk (g' := gb105) (o := .cells #[.int .u8 t102, .int .u32 0, .string t122, .string (⟨#[]⟩ : ByteArray)] 60 (0, 0)) z73z8 NB105_0.out (by simp)); have n2_ := Aside0.mk (KeepBut.trans z73z2 hk (.inl rfl)); have n3_ := Aside0.mk (hb); have n4_ := Aside0.mk (hi); replace BK101 := n0_; replace BK105 := n1_; replace HK := n2_; replace HB := n3_; replace HI0 := n4_; clear n0_ n1_ n2_ n3_ n4_; clear hb hk hi; obtain ⟨hcz52_0, hcz52_1, hcz52_2, hcz52_3⟩ := ccs4_ BK105.out; obtain ⟨hfz52_0, hfz52_1, hfz52_2, hfz52_3⟩ := fzs4_ BK105.out))
          go_meet
          case rel => exact ⟨_, (t126), (t127), (0), (t122), (t125), H', ⟨z73z11⟩, ⟨z73z3⟩, ⟨by (with_reducible repeat (first | refine blk_drewN ?_ _ | refine blk_drew ?_ | refine blk_alloc ?_ _)); refine blk_put (cs := #[.int .u8 t102, .int .u32 0, .string t122, .string (⟨#[]⟩ : ByteArray)]) ?_ 3 _ rfl; (with_reducible repeat (first | refine blk_drewN ?_ _ | refine blk_drew ?_ | refine blk_alloc ?_ _)); exact BK105.out⟩, ⟨z73z1⟩, ⟨z73z2⟩, ⟨z73z0⟩⟩
         ·rw [if_neg c44] at H
          obtain ⟨c44b0, c44b1⟩ := eqf_ c44
          have H' := Aside0.mk H
          clear H
          go_wp2
          go_meet
          case rel => exact ⟨_, (t103), (t104), (0), ((⟨#[]⟩ : ByteArray)), ((⟨#[]⟩ : ByteArray)), H', ⟨z73z11⟩, ⟨y3_⟩, ⟨z73z4⟩, ⟨z73z1⟩, ⟨z73z2⟩, ⟨z73z0⟩⟩
 case rest =>
  clear HC4
  try clear c1
  try clear c2
  try clear p2
  try clear c3
  try clear c4
  try clear c7
  try clear c8
  try clear c9
  try clear c12
  try clear c12b0
  try clear c12b1
  try clear c15
  try clear c16
  try clear c18
  try clear c18b0
  try clear c18b1
  try clear c21
  try clear c22
  try clear c24
  try clear c24b0
  try clear c24b1
  try clear c27
  try clear c28
  try clear c30
  try clear c30b0
  try clear c30b1
  try clear c33
  try clear c34
  try clear c37
  try clear c37b0
  try clear c37b1
  try clear c38
  try clear c41
  try clear c42
  try clear c43
  try clear c44
  try clear c44b0
  try clear c44b1
  try clear c48
  try clear c49
  try clear hcz10_0
  try clear hcz10_1
  try clear hcz10_2
  try clear hcz10_3
  try clear hcz17_0
  try clear hcz17_1
  try clear hcz17_2
  try clear hcz17_3
  try clear hcz23_0
  try clear hcz23_1
  try clear hcz23_2
  try clear hcz23_3
  try clear hcz29_0
  try clear hcz29_1
  try clear hcz29_2
  try clear hcz29_3
  try clear hcz35_0
  try clear hcz35_1
  try clear hcz35_2
  try clear hcz35_3
  try clear hcz43_0
  try clear hcz43_1
  try clear hcz43_2
  try clear hcz43_3
  try clear hcz50_0
  try clear hcz50_1
  try clear hcz50_2
  try clear hcz50_3
  try clear hcz52_0
  try clear hcz52_1
  try clear hcz52_2
  try clear hcz52_3
  try clear hfz10_0
  try clear hfz10_1
  try clear hfz10_2
  try clear hfz10_3
  try clear hfz17_0
  try clear hfz17_1
  try clear hfz17_2
  try clear hfz17_3
  try clear hfz23_0
  try clear hfz23_1
  try clear hfz23_2
  try clear hfz23_3
  try clear hfz29_0
  try clear hfz29_1
  try clear hfz29_2
  try clear hfz29_3
  try clear hfz35_0
  try clear hfz35_1
  try clear hfz35_2
  try clear hfz35_3
  try clear hfz43_0
  try clear hfz43_1
  try clear hfz43_2
  try clear hfz43_3
  try clear hfz50_0
  try clear hfz50_1
  try clear hfz50_2
  try clear hfz50_3
  try clear hfz52_0
  try clear hfz52_1
  try clear hfz52_2
  try clear hfz52_3
  try clear p2
  obtain ⟨kq, x1000_3, x1001_3, x106001_3, x106002_3, x106003_3, HA, HJ3, BK101, BK105, HI0, HK, HB⟩ := hcut
  cases kq with
  | zero => exact absurd HA.out (by simp [props_next.j1])
  | succ kj3 =>
   have H := HA.out
   clear HA
   simp only [props_next.j1] at H
   replace H := Option.bind_eq_some_iff.mp H
   obtain ⟨⟨t128, t129, t130⟩, A530, H⟩ := H
   try dsimp -simprocs only at H
   have A53 := Aside0.mk A530
   clear A530
   by_cases c54 : t128 = 0
   ·rw [if_pos c54] at H
    obtain ⟨c54b0, c54b1⟩ := eqt_ c54
    clear c54
    replace H := Option.bind_eq_some_iff.mp H
    obtain ⟨t131, A550, H⟩ := H
    try dsimp -simprocs only at H
    have A55 := Aside0.mk A550
    clear A550
    by_cases c56 : t131 = true
    ·subst c56
     have H1 : (some (t102, x106001_3, x106002_3, x106003_3, true, t129, t130)) = some (r1, r2, r3, r4, r5, r6, r7) := by rw [if_pos rfl] at H; exact H
     clear H
     have H := H1
     clear H1
     simp only [Option.some.injEq, Prod.mk.injEq] at H
     obtain ⟨rfl, rfl, rfl, rfl, rfl, rfl, rfl⟩ := H
     go_wp2_with (first | ((with_reducible refine gate_callee (f := 22) rfl ?_); refine goesL_ (some 48) rfl rfl Tryd.func22 (by kernel_rfl) rfl #[.pointer (some ⟨g, 0, none⟩)] rfl y2_ ?_; (with_reducible refine (wire_Reader_Err.calls g x1000_3 x1001_3 t128 t129 t130 w0 _ ?side1 ?side2 A53.out).mono ?_); (case side1 => exact z73z1); (case side2 => exact z73z0); rintro e w57 ⟨rfl, hi, hb, hk⟩; refine ⟨_, rfl, ?_⟩; have n0_ := Aside0.mk (KeepBut.blk hk (g' := gb101) (o := .cells #[.int .u8 0, .int .u32 0, .string (⟨#[]⟩ : ByteArray), .string (⟨#[]⟩ : ByteArray)] 60 (0, 0)) y3_ NB101_0.out (by simp)); have n1_ := Aside0.mk (KeepBut.blk hk (g' := gb105) (o := .cells #[.int .u8 t102, .int .u32 x106001_3, .string x106002_3, .string x106003_3] 60 (0, 0)) z73z4 NB105_0.out (by simp)); have n2_ := Aside0.mk (KeepBut.trans z73z2 hk (.inl rfl)); have n3_ := Aside0.mk (hb); have n4_ := Aside0.mk (hi); replace BK101 := n0_; replace BK105 := n1_; replace HK := n2_; replace HB := n3_; replace HI0 := n4_; clear n0_ n1_ n2_ n3_ n4_; clear hb hk hi; have hnb58 := NB105_101.out; have hnc58 := NB101_105.out; have hnb59 := NB105_0.out; have hnc59 := NB0_105.out; obtain ⟨hcz60_0, hcz60_1, hcz60_2, hcz60_3⟩ := ccs4_ BK105.out; obtain ⟨hfz60_0, hfz60_1, hfz60_2, hfz60_3⟩ := fzs4_ BK105.out) | (go_at_call 65; (with_reducible refine (prop_Right.calls kj3 t102 x106001_3 x106002_3 x106003_3 true _ ?side1 A55.out).mono ?_); (case side1 => exact GW.below HG.out z73z0); rintro e w61 ⟨rfl, hb⟩; have n0_ := Aside0.mk (blk_below (g := gb101) (o := .cells #[.int .u8 0, .int .u32 0, .string (⟨#[]⟩ : ByteArray), .string (⟨#[]⟩ : ByteArray)] 60 (0, 0)) y3_ hb); have n1_ := Aside0.mk (blk_below (g := gb105) (o := .cells #[.int .u8 t102, .int .u32 x106001_3, .string x106002_3, .string x106003_3] 60 (0, 0)) z73z4 hb); have n2_ := Aside0.mk (IsS78.below z73z1 hb); have n3_ := Aside0.mk (KeepBut.trans z73z2 (KeepBut.of_below hb g none) (.inl rfl)); have n4_ := Aside0.mk (below_step z73z0 hb); replace BK101 := n0_; replace BK105 := n1_; replace HI0 := n2_; replace HK := n3_; replace HB := n4_; clear n0_ n1_ n2_ n3_ n4_; clear hb; obtain ⟨hcz62_0, hcz62_1, hcz62_2, hcz62_3⟩ := ccs4_ BK105.out; obtain ⟨hfz62_0, hfz62_1, hfz62_2, hfz62_3⟩ := fzs4_ BK105.out; have hnb63 := NB101_0.out; have hnc63 := NB0_101.out; obtain ⟨hcz64_0, hcz64_1, hcz64_2, hcz64_3⟩ := ccs4_ BK101.out; obtain ⟨hfz64_0, hfz64_1, hfz64_2, hfz64_3⟩ := fzs4_ BK101.out))
     refine bodyPost_ret (results_ct rfl _ _ gb101 60 #[.int .u8 t102, .int .u32 x106001_3, .string x106002_3, .string x106003_3] (0, 0) _ rfl (by (with_reducible repeat (first | refine blk_drewN ?_ _ | refine blk_drew ?_ | refine blk_alloc ?_ _)); refine blk_put (cs := #[.int .u8 t102, .int .u32 x106001_3, .string x106002_3, .string (⟨#[]⟩ : ByteArray)]) ?_ 3 _ rfl; (with_reducible repeat (first | refine blk_drewN ?_ _ | refine blk_drew ?_ | refine blk_alloc ?_ _)); refine blk_put (cs := #[.int .u8 t102, .int .u32 x106001_3, .string (⟨#[]⟩ : ByteArray), .string (⟨#[]⟩ : ByteArray)]) ?_ 2 _ rfl; (with_reducible repeat (first | refine blk_drewN ?_ _ | refine blk_drew ?_ | refine blk_alloc ?_ _)); refine blk_put (cs := #[.int .u8 t102, .int .u32 0, .string (⟨#[]⟩ : ByteArray), .string (⟨#[]⟩ : ByteArray)]) ?_ 1 _ rfl; (with_reducible repeat (first | refine blk_drewN ?_ _ | refine blk_drew ?_ | refine blk_alloc ?_ _)); refine blk_put (cs := #[.int .u8 0, .int .u32 0, .string (⟨#[]⟩ : ByteArray), .string (⟨#[]⟩ : ByteArray)]) ?_ 0 _ rfl; (with_reducible repeat (first | refine blk_drewN ?_ _ | refine blk_drew ?_ | refine blk_alloc ?_ _)); exact BK101.out) Tryd.underlying60 rfl (by kernel_rfl)) rfl ?_
     exact ⟨y4_, z73z1, z73z0, z73z2⟩
    ·replace c56 := Bool.eq_false_iff.mpr c56
     subst c56
     replace H : (some (0, 0, (⟨#[]⟩ : ByteArray), (⟨#[]⟩ : ByteArray), false, t129, t130)) = some (r1, r2, r3, r4, r5, r6, r7) := by rw [if_neg (show ¬ (false = true) by decide)] at H; exact H
     simp only [Option.some.injEq, Prod.mk.injEq] at H
     obtain ⟨rfl, rfl, rfl, rfl, rfl, rfl, rfl⟩ := H
     go_wp2_with (first | ((with_reducible refine gate_callee (f := 22) rfl ?_); refine goesL_ (some 48) rfl rfl Tryd.func22 (by kernel_rfl) rfl #[.pointer (some ⟨g, 0, none⟩)] rfl y2_ ?_; (with_reducible refine (wire_Reader_Err.calls g x1000_3 x1001_3 t128 t129 t130 w0 _ ?side1 ?side2 A53.out).mono ?_); (case side1 => exact z73z1); (case side2 => exact z73z0); rintro e w65 ⟨rfl, hi, hb, hk⟩; refine ⟨_, rfl, ?_⟩; have n0_ := Aside0.mk (KeepBut.blk hk (g' := gb101) (o := .cells #[.int .u8 0, .int .u32 0, .string (⟨#[]⟩ : ByteArray), .string (⟨#[]⟩ : ByteArray)] 60 (0, 0)) y3_ NB101_0.out (by simp)); have n1_ := Aside0.mk (KeepBut.blk hk (g' := gb105) (o := .cells #[.int .u8 t102, .int .u32 x106001_3, .string x106002_3, .string x106003_3] 60 (0, 0)) z73z4 NB105_0.out (by simp)); have n2_ := Aside0.mk (KeepBut.trans z73z2 hk (.inl rfl)); have n3_ := Aside0.mk (hb); have n4_ := Aside0.mk (hi); replace BK101 := n0_; replace BK105 := n1_; replace HK := n2_; replace HB := n3_; replace HI0 := n4_; clear n0_ n1_ n2_ n3_ n4_; clear hb hk hi; have hnb66 := NB105_101.out; have hnc66 := NB101_105.out; have hnb67 := NB105_0.out; have hnc67 := NB0_105.out; obtain ⟨hcz68_0, hcz68_1, hcz68_2, hcz68_3⟩ := ccs4_ BK105.out; obtain ⟨hfz68_0, hfz68_1, hfz68_2, hfz68_3⟩ := fzs4_ BK105.out) | (go_at_call 65; (with_reducible refine (prop_Right.calls kj3 t102 x106001_3 x106002_3 x106003_3 false _ ?side1 A55.out).mono ?_); (case side1 => exact GW.below HG.out z73z0); rintro e w69 ⟨rfl, hb⟩; have n0_ := Aside0.mk (blk_below (g := gb101) (o := .cells #[.int .u8 0, .int .u32 0, .string (⟨#[]⟩ : ByteArray), .string (⟨#[]⟩ : ByteArray)] 60 (0, 0)) y3_ hb); have n1_ := Aside0.mk (blk_below (g := gb105) (o := .cells #[.int .u8 t102, .int .u32 x106001_3, .string x106002_3, .string x106003_3] 60 (0, 0)) z73z4 hb); have n2_ := Aside0.mk (IsS78.below z73z1 hb); have n3_ := Aside0.mk (KeepBut.trans z73z2 (KeepBut.of_below hb g none) (.inl rfl)); have n4_ := Aside0.mk (below_step z73z0 hb); replace BK101 := n0_; replace BK105 := n1_; replace HI0 := n2_; replace HK := n3_; replace HB := n4_; clear n0_ n1_ n2_ n3_ n4_; clear hb; have hnb70 := NB101_0.out; have hnc70 := NB0_101.out; obtain ⟨hcz71_0, hcz71_1, hcz71_2, hcz71_3⟩ := ccs4_ BK101.out; obtain ⟨hfz71_0, hfz71_1, hfz71_2, hfz71_3⟩ := fzs4_ BK101.out))
     refine bodyPost_ret (results_ct rfl _ _ gb101 60 #[.int .u8 0, .int .u32 0, .string (⟨#[]⟩ : ByteArray), .string (⟨#[]⟩ : ByteArray)] (0, 0) _ rfl z73z6 Tryd.underlying60 rfl (by kernel_rfl)) rfl ?_
     exact ⟨y4_, z73z1, z73z0, z73z2⟩
   ·rw [if_neg c54] at H
    obtain ⟨c54b0, c54b1⟩ := eqf_ c54
    simp only [Option.some.injEq, Prod.mk.injEq] at H
    obtain ⟨rfl, rfl, rfl, rfl, rfl, rfl, rfl⟩ := H
    go_wp2_with (first | ((with_reducible refine gate_callee (f := 22) rfl ?_); refine goesL_ (some 48) rfl rfl Tryd.func22 (by kernel_rfl) rfl #[.pointer (some ⟨g, 0, none⟩)] rfl y2_ ?_; (with_reducible refine (wire_Reader_Err.calls g x1000_3 x1001_3 t128 t129 t130 w0 _ ?side1 ?side2 A53.out).mono ?_); (case side1 => exact z73z1); (case side2 => exact z73z0); rintro e w72 ⟨rfl, hi, hb, hk⟩; refine ⟨_, rfl, ?_⟩; have n0_ := Aside0.mk (KeepBut.blk hk (g' := gb101) (o := .cells #[.int .u8 0, .int .u32 0, .string (⟨#[]⟩ : ByteArray), .string (⟨#[]⟩ : ByteArray)] 60 (0, 0)) y3_ NB101_0.out (by simp)); have n1_ := Aside0.mk (KeepBut.blk hk (g' := gb105) (o := .cells #[.int .u8 t102, .int .u32 x106001_3, .string x106002_3, .string x106003_3] 60 (0, 0)) z73z4 NB105_0.out (by simp)); have n2_ := Aside0.mk (KeepBut.trans z73z2 hk (.inl rfl)); have n3_ := Aside0.mk (hb); have n4_ := Aside0.mk (hi); replace BK101 := n0_; replace BK105 := n1_; replace HK := n2_; replace HB := n3_; replace HI0 := n4_; clear n0_ n1_ n2_ n3_ n4_; clear hb hk hi; have hnb73 := NB101_105.out; have hnc73 := NB105_101.out; have hnb74 := NB101_0.out; have hnc74 := NB0_101.out; obtain ⟨hcz75_0, hcz75_1, hcz75_2, hcz75_3⟩ := ccs4_ BK101.out; obtain ⟨hfz75_0, hfz75_1, hfz75_2, hfz75_3⟩ := fzs4_ BK101.out))
    refine bodyPost_ret (results_ct rfl _ _ gb101 60 #[.int .u8 0, .int .u32 0, .string (⟨#[]⟩ : ByteArray), .string (⟨#[]⟩ : ByteArray)] (0, 0) _ rfl z73z6 Tryd.underlying60 rfl (by kernel_rfl)) rfl ?_
    exact ⟨y4_, z73z1, z73z0, z73z2⟩
end Go.Proofs.YtkmkgpigmldhnaaDoor.P
namespace Go.Proofs.YtkmkgpigmldhnaaDoor.P
open Go.RowKit Go.Shelf Go.Lib Go.Proofs.YtkmkgpigmldhnaaDoorW.PrintWords Go.Proofs.YtkmkgpigmldhnaaDoorW.PrintLast Go.Proofs.YtkmkgpigmldhnaaDoorW.PrintMore
open Go.Proofs.YtkmkgpigmldhnaaDoor.Rg
attribute [local go_sem] Oper.semAt_some
abbrev EP := S60 × Bool
def encP (x : EP) : Array Value := #[.agg #[.int .u8 x.1.f0, .int .u32 x.1.f1, .string x.1.f2, .string x.1.f3], .bool x.2]
inductive EachL : ByteArray → List EP → Prop
 | done (s : ByteArray) : s.size = 0 → EachL s []
 | step (s : ByteArray) (k : Nat) (p : S60) (s' : ByteArray) (L : List EP) : 0 < s.size → props_next.f k s 0 = some (p.f0, p.f1, p.f2, p.f3, true, s', 0) → EachL s' L → EachL s ((p, true) :: L)
 | stop (s : ByteArray) (k : Nat) (p : S60) (s' : ByteArray) (e : Int) : 0 < s.size → props_next.f k s 0 = some (p.f0, p.f1, p.f2, p.f3, false, s', e) → EachL s [(p, false)]
theorem grown_of_keep {w0 W1 W2 : World} {g n : Nat} (h1 : Below n w0 W1) (h2 : Below n w0 W2) (hk : KeepBut W1 W2 g none) : W1.grownBy W2 (some g) :=
 ⟨h2.os.trans h1.os.symm, h2.tape.trans h1.tape.symm, h2.output.trans h1.output.symm, hk.1, fun k hk1 hk2 => hk.2 k hk1 (fun e => hk2 (by rw [e])) (by simp)⟩
theorem below_step' {n : Nat} {w0 w1 w2 : World} (h : Below n w0 w1) (k : Below n w1 w2) : Below n w0 w2 := h.trans k
theorem left_at (s : ByteArray) : wire_Reader_Left.f s 0 = some ((s.size : Int), s, 0) := rfl
theorem wire_Read.calls_ge (A0 : Option Addr) (c0 : Nat) (l0 : List Int) (r1 : ByteArray) (r2 : Int) (w0 w : World) (hB : Below w0.heap.size w0 w) (hr0 : Kd.C (Kd.int .u8) w A0 l0.length l0) (hc0 : l0.length ≤ c0) (h : wire_Read.f l0 = some (r1, r2)) :
  Calls Tryd.prog 15 #[.slice A0 l0.length c0] w fun e w' => ∃ g_ : Nat, e = .returned (.pointer (some ⟨g_, 0, none⟩)) ∧ IsS78 w0 w' g_ r1 r2 ∧ Below w0.heap.size w0 w' ∧ Below w.heap.size w w' ∧ w.heap.size ≤ g_ :=
 (wire_Read.calls A0 c0 l0 r1 r2 w w (Below.refl _ _) hr0 hc0 h).mono fun _ _ ⟨g, he, hi, hb, _⟩ => ⟨g, he, ⟨hi.1, Nat.le_trans hB.size hi.2⟩, below_step hB hb, hb, hi.2⟩
set_option maxRecDepth 1000000 in
theorem each_seq (n : Nat) (B : Nat) (A : Option Addr) (c : Nat) (bs : List Int) (L : List EP) (w00 w : World) (hG : GW w00) (h00 : Below w00.heap.size w00 w) (hB : w.cell? ⟨B, 0, none⟩ = some (.slice A bs.length c)) (hbs : Kd.C (Kd.int .u8) w A bs.length bs) (hc : bs.length ≤ c) (hL : EachL (strOfNums bs) L) (hn : 1 ≤ n) :
  Seq Fence.wide n Tryd.prog 72 #[.pointer (some ⟨B, 0, none⟩)] encP 78 w00.heap.size L w := by
 intro l J X W hW hJ hX hY h0
 have hu := Tryd.underlying60
 have HG := Aside0.mk hG
 have hB0 := below_step h00 hW
 have HB0 := Aside0.mk hB0
 have HW0 := Aside0.mk hB0.size
 have HBs := Aside0.mk (Kd.C_below hbs hW)
 have hBW := pw_cell_below hW hB
 have HJ0 := Aside0.mk h0
 have HL := Aside0.mk hL
 clear hG hbs hB hW h0 hL hB0 h00
 refine callsIn_of_wp Tryd.func72 rfl trivial ?_ rfl
 simp only [Tryd.ntmps72, List.size_toArray, List.length_cons, List.length_nil, Nat.reduceAdd, Nat.reduceSub, Array.replicate_succ, Array.replicate_zero, List.push_toArray, List.append_toArray, List.nil_append, List.cons_append]
 gi_wp2_with (refine ⟨trivial, ?_⟩; gi_at_call 15; refine (callsIn_wide.2 (wire_Read.calls_ge A c bs _ _ w00 W HB0.out HBs.out hc rfl)).mono ?_; rintro e w1 ⟨g, rfl, hi, hb, hb2, hg⟩; have HI := Aside0.mk hi; have HB1 := Aside0.mk hb; have HGE := Aside0.mk hg; have HJ1 := Aside0.mk ((hJ []) _ _ none HJ0.out (grown_of_below hb2 none) (fun r e => by cases e)); clear hi hb hb2 hg)
 gi_loopg [4] L.length (fun gq v4 wr => ∃ (pre rest : List EP) (s : ByteArray), Aside0 (L = pre ++ rest) ∧ rest.length = gq ∧ Aside0 (EachL s rest) ∧ Aside0 (IsS78 w00 wr g s 0) ∧ Aside0 (Below w00.heap.size w00 wr) ∧ Aside0 (J pre wr))
 case atStart => exact ⟨[], L, _, ⟨rfl⟩, rfl, HL, HI, HB1, HJ1⟩
 case round =>
  clear HJ0 HJ1 HI HB1 HL
  obtain ⟨pre, rest, s, HE, hrl, HL, HI, HB, HJ⟩ := hrel
  cases rest with
  | nil =>
   have hs0 : s.size = 0 := by cases HL.out with | done _ h => exact h
   have hb0 : decide (0 < (s.size : Int)) = false := decide_eq_false (by omega)
   gi_wp2_with (refine ⟨trivial, ?_⟩; gi_at_call 21; refine (callsIn_wide.2 (wire_Reader_Left.calls g s 0 _ _ _ w00 _ HI.out HB.out (left_at s))).mono ?_; rintro e w2 ⟨rfl, hi, hb, hk⟩; have HJ2 := Aside0.mk (hJ pre _ _ (some g) HJ.out (grown_of_keep HB.out hb hk) (fun r e => by cases e; exact ⟨HGE.out, _, HI.out.1, .inr ⟨_, rfl⟩⟩)); clear hi hb hk)
   go_end0
   exact ⟨⟨_, rfl⟩, .inl (by have := HE.out; rw [List.append_nil] at this; rw [this]; exact HJ2.out)⟩
  | cons x rest =>
   cases gk with
   | zero => simp at hrl
   | succ gk =>
   cases HL.out with
   | step _ k p s' _ hs hn hrest =>
    have HN := Aside0.mk hn
    have HL' := Aside0.mk hrest
    have hb0 : decide (0 < (s.size : Int)) = true := decide_eq_true (by omega)
    clear hn hrest HL
    gi_wp2_with (first | (refine ⟨trivial, ?_⟩; gi_at_call 21; refine (callsIn_wide.2 (wire_Reader_Left.calls g s 0 _ _ _ w00 _ HI.out HB.out (left_at s))).mono ?_; rintro e w2 ⟨rfl, hi, hb, hk⟩; have HJ2 := Aside0.mk (hJ pre _ _ (some g) HJ.out (grown_of_keep HB.out hb hk) (fun r e => by cases e; exact ⟨HGE.out, _, HI.out.1, .inr ⟨_, rfl⟩⟩)); have HI2 := Aside0.mk hi; have HB2 := Aside0.mk hb; clear hi hb hk) | (refine ⟨trivial, ?_⟩; gi_at_call 73; refine (callsIn_wide.2 (props_next.calls k g s 0 _ _ _ _ _ _ _ w00 _ HI2.out HB2.out HG.out HN.out)).mono ?_; rintro e w3 ⟨rfl, hi, hb, hk⟩; have hj3 := hJ pre _ _ (some g) HJ2.out (grown_of_keep HB2.out hb hk) (fun r e => by cases e; exact ⟨HGE.out, _, HI2.out.1, .inr ⟨_, rfl⟩⟩); have hj4 := hJ pre _ _ none hj3 (World.grownBy_alloc w3 (.cells #[.int .u8 p.f0, .int .u32 p.f1, .string p.f2, .string p.f3] 60) none) (fun r e => by cases e); obtain ⟨fn, tmps, assign, body, hy, hR⟩ := hY pre (p, true) rest _ HE.out hj4; simp only [encP] at hy; have HR := Aside0.mk hR; have HI4 := Aside0.mk (hi.alloc (.cells #[.int .u8 p.f0, .int .u32 p.f1, .string p.f2, .string p.f3] 60)); have HB4 := Aside0.mk (below_alloc hb (.cells #[.int .u8 p.f0, .int .u32 p.f1, .string p.f2, .string p.f3] 60)); clear hi hb hk hj3 hj4 hR))
    refine HR.out.mono ?_
    rintro e W3 (⟨rfl, hj5, hk5⟩ | ⟨rfl, hx5⟩)
    ·have hi6 := hk5.1 g _ HGE.out HI4.out.1 (.inr ⟨_, rfl⟩)
     have HI6 := Aside0.mk hi6
     have HB6 := Aside0.mk (below_step' HB4.out hk5.2)
     have HJ5 := Aside0.mk hj5
     clear hi6 hk5 hj5
     gi_wp2
     gi_roundg gk
     case measure => omega
     case rel => exact ⟨pre ++ [(p, true)], rest, s', ⟨by rw [HE.out]; simp⟩, by simpa using hrl, HL', ⟨⟨HI6.out, HI4.out.2⟩⟩, HB6, HJ5⟩
    ·have HX5 := Aside0.mk hx5
     clear hx5
     gi_wp2
     refine bodyPost_ret (results_none rfl _ _ _) rfl ?_
     exact ⟨⟨_, rfl⟩, .inr ⟨pre ++ [(p, true)], rest, by rw [HE.out]; simp, HX5.out⟩⟩
   | stop _ k p s' e' hs hn =>
    have HN := Aside0.mk hn
    have hb0 : decide (0 < (s.size : Int)) = true := decide_eq_true (by omega)
    clear hn HL
    gi_wp2_with (first | (refine ⟨trivial, ?_⟩; gi_at_call 21; refine (callsIn_wide.2 (wire_Reader_Left.calls g s 0 _ _ _ w00 _ HI.out HB.out (left_at s))).mono ?_; rintro e w2 ⟨rfl, hi, hb, hk⟩; have HJ2 := Aside0.mk (hJ pre _ _ (some g) HJ.out (grown_of_keep HB.out hb hk) (fun r e => by cases e; exact ⟨HGE.out, _, HI.out.1, .inr ⟨_, rfl⟩⟩)); have HI2 := Aside0.mk hi; have HB2 := Aside0.mk hb; clear hi hb hk) | (refine ⟨trivial, ?_⟩; gi_at_call 73; refine (callsIn_wide.2 (props_next.calls k g s 0 _ _ _ _ _ _ _ w00 _ HI2.out HB2.out HG.out HN.out)).mono ?_; rintro e w3 ⟨rfl, hi, hb, hk⟩; have hj3 := hJ pre _ _ (some g) HJ2.out (grown_of_keep HB2.out hb hk) (fun r e => by cases e; exact ⟨HGE.out, _, HI2.out.1, .inr ⟨_, rfl⟩⟩); have hj4 := hJ pre _ _ none hj3 (World.grownBy_alloc w3 (.cells #[.int .u8 p.f0, .int .u32 p.f1, .string p.f2, .string p.f3] 60) none) (fun r e => by cases e); obtain ⟨fn, tmps, assign, body, hy, hR⟩ := hY pre (p, false) [] _ HE.out hj4; simp only [encP] at hy; have HR := Aside0.mk hR; have HI4 := Aside0.mk (hi.alloc (.cells #[.int .u8 p.f0, .int .u32 p.f1, .string p.f2, .string p.f3] 60)); have HB4 := Aside0.mk (below_alloc hb (.cells #[.int .u8 p.f0, .int .u32 p.f1, .string p.f2, .string p.f3] 60)); clear hi hb hk hj3 hj4 hR))
    refine HR.out.mono ?_
    rintro e W3 (⟨rfl, hj5, hk5⟩ | ⟨rfl, hx5⟩)
    ·have HJ5 := Aside0.mk hj5
     clear hk5 hj5
     gi_wp2
     refine bodyPost_ret (results_none rfl _ _ _) rfl ?_
     exact ⟨⟨_, rfl⟩, .inl (by rw [HE.out]; exact HJ5.out)⟩
    ·have HX5 := Aside0.mk hx5
     clear hx5
     gi_wp2
     refine bodyPost_ret (results_none rfl _ _ _) rfl ?_
     exact ⟨⟨_, rfl⟩, .inr ⟨pre ++ [(p, false)], [], by rw [HE.out]; simp, HX5.out⟩⟩
end Go.Proofs.YtkmkgpigmldhnaaDoor.P
namespace Go.Proofs.YtkmkgpigmldhnaaDoor.P
open Go.RowKit Go.Shelf Go.Lib Go.Proofs.YtkmkgpigmldhnaaDoorW.PrintWords Go.Proofs.YtkmkgpigmldhnaaDoorW.PrintLast Go.Proofs.YtkmkgpigmldhnaaDoorW.PrintMore
theorem props_Each.calls (A : Option Addr) (c : Nat) (l : List Int) (w : World) (hr : Kd.C (Kd.int .u8) w A l.length l) (hc : l.length ≤ c) (hl : l.length < 140737488355328) :
  Calls Tryd.prog 44 #[.slice A l.length c] w fun e w' => ∃ B A' c', e = .returned (.func (.func 72) #[] #[.pointer (some ⟨B, 0, none⟩)]) ∧ w'.cell? ⟨B, 0, none⟩ = some (.slice A' l.length c') ∧ Kd.C (Kd.int .u8) w' A' l.length l ∧ l.length ≤ c' ∧ Below w.heap.size w w' := by
 have HF := Aside0.mk (show slices_Clone_byte_byte.f l = some l by unfold slices_Clone_byte_byte.f; rw [if_pos hl])
 have HR := Aside0.mk hr
 have HC := Aside0.mk hc
 clear hr hc
 go_enter Tryd.func44, Tryd.ntmps44
 go_wp2_with (go_at_call 35; refine (slices_Clone_byte_byte.calls A c l l _ HR.out HC.out HF.out).mono ?_; rintro e w1 ⟨v, rfl, ho, hb⟩; obtain ⟨A', c', rfl, hl', hc'⟩ := Kd.R_reads ho; have HL' := Aside0.mk hl'; have HC' := Aside0.mk hc'; have HB := Aside0.mk hb; clear ho hb hl' hc')
 go_ret
 exact ⟨_, A', c', rfl, (blk_cell (heap_alloc_new _ _) 0).trans rfl, Kd.C_alloc HC'.out _, HL'.out, below_alloc HB.out _⟩
end Go.Proofs.YtkmkgpigmldhnaaDoor.P
namespace Go.Proofs.YtkmkgpigmldhnaaDoor.P
open Go.RowKit Go.Proofs.YtkmkgpigmldhnaaDoorW.PrintWords Go.Proofs.YtkmkgpigmldhnaaDoorW.PrintLast Go.Proofs.YtkmkgpigmldhnaaDoorW.PrintMore
attribute [local go_sem] max2_int min2_int max_two min_two max_three min_three max_four min_four
def IsS45 (w0 W : World) (g : Nat) (f0 : ByteArray) (f1 : Int) (f2 : Int) : Prop := W.heap[g]? = some (.cells #[.string f0, .int .i64 f1, .int .i64 f2] 45 (0, 0)) ∧ w0.heap.size ≤ g
theorem IsS45.grown {w0 W : World} {g : Nat} {f0 : ByteArray} {f1 : Int} {f2 : Int} {W1 : World} {row : Option Nat} (h : IsS45 w0 W g f0 f1 f2) (hw : W.grownBy W1 row) (hne : some g ≠ row) : IsS45 w0 W1 g f0 f1 f2 := by
  obtain ⟨hb, hg⟩ := h
  exact ⟨blk_grown hb hw hne, hg⟩
theorem IsS45.kept {w0 W : World} {g : Nat} {f0 : ByteArray} {f1 : Int} {f2 : Int} {W1 : World} {S : Nat → Prop} (h : IsS45 w0 W g f0 f1 f2) (hk : Kept W W1 S) (hne : ¬ S g) : IsS45 w0 W1 g f0 f1 f2 := by
  obtain ⟨hb, hg⟩ := h
  exact ⟨blk_kept hb hk hne, hg⟩
theorem IsS45.below {w0 W : World} {g : Nat} {f0 : ByteArray} {f1 : Int} {f2 : Int} {W1 : World} (h : IsS45 w0 W g f0 f1 f2) (hw : Below W.heap.size W W1) : IsS45 w0 W1 g f0 f1 f2 := h.grown (grown_of_below hw none) (by simp)
theorem IsS45.alloc {w0 W : World} {g : Nat} {f0 : ByteArray} {f1 : Int} {f2 : Int} (h : IsS45 w0 W g f0 f1 f2) (o : Obj) : IsS45 w0 (W.alloc o) g f0 f1 f2 := h.below (below_alloc (Below.refl _ _) o)
theorem IsS45.drewN {w0 W : World} {g : Nat} {f0 : ByteArray} {f1 : Int} {f2 : Int} (h : IsS45 w0 W g f0 f1 f2) (m : Nat) : IsS45 w0 (W.drewN m) g f0 f1 f2 := h
theorem IsS45.drew {w0 W : World} {g : Nat} {f0 : ByteArray} {f1 : Int} {f2 : Int} (h : IsS45 w0 W g f0 f1 f2) : IsS45 w0 W.drew g f0 f1 f2 := h
theorem IsS45.at_ {w0 W : World} {g : Nat} {f0 : ByteArray} {f1 : Int} {f2 : Int} {w' : World} {m : Nat} (hq : W.drewN m = w') (h : IsS45 w0 W g f0 f1 f2) : IsS45 w0 w' g f0 f1 f2 := by subst hq; exact IsS45.drewN h m
theorem IsS45.apart {w0 W : World} {g : Nat} {f0 : ByteArray} {f1 : Int} {f2 : Int} {α : Type} {d : Kd α} {e : Nat} {base : Nat} {ok : Nat → Prop} {v : Value} {xs : List α} (h : IsS45 w0 W g f0 f1 f2) (ho : d.R e W base ok v xs) (ht : ∀ q, q ∈ e :: d.E → q ≠ 45) : d.R e W base (fun k => ok k ∧ k ≠ g) v xs := by
  obtain ⟨hb, hg⟩ := h
  exact Kd.R_types ho hb ht
theorem IsS45.own_ne {w0 W : World} {g : Nat} {f0 : ByteArray} {f1 : Int} {f2 : Int} {α : Type} {d : Kd α} {e : Nat} {base : Nat} {ok : Nat → Prop} {v : Value} {xs : List α} (h : IsS45 w0 W g f0 f1 f2) (ho : d.R e W base ok v xs) (ht : e ≠ 45) : some g ≠ v.ownBlock := by
  obtain ⟨hb, hg⟩ := h
  exact Kd.R_ne ho hb ht
theorem IsS45.lt {w0 W : World} {g : Nat} {f0 : ByteArray} {f1 : Int} {f2 : Int} (h : IsS45 w0 W g f0 f1 f2) : g < W.heap.size := by
  obtain ⟨hb, hg⟩ := h
  exact blk_lt hb
theorem IsS45.ge {w0 W : World} {g : Nat} {f0 : ByteArray} {f1 : Int} {f2 : Int} (h : IsS45 w0 W g f0 f1 f2) : w0.heap.size ≤ g := by
  obtain ⟨hb, hg⟩ := h
  exact hg
theorem IsS45.ne_blk {w0 W : World} {g : Nat} {f0 : ByteArray} {f1 : Int} {f2 : Int} {a : Nat} {cs : Array Value} {t : TypeId} {fr : Nat × Nat} (h : IsS45 w0 W g f0 f1 f2) (hb2 : W.heap[a]? = some (.cells cs t fr)) (ht : t ≠ 45) : g ≠ a := by
  obtain ⟨hb, hg⟩ := h
  rintro rfl
  rw [hb] at hb2
  injection hb2 with hb2
  injection hb2 with _ ht2
  exact ht ht2.symm
theorem IsS45.far {w0 W : World} {g : Nat} {f0 : ByteArray} {f1 : Int} {f2 : Int} {p : Addr} (h : IsS45 w0 W g f0 f1 f2) (hne : g ≠ p.block) (u : Value) : IsS45 w0 (W.setCell p u) g f0 f1 f2 := by
  obtain ⟨hb, hg⟩ := h
  exact ⟨blk_far hb hne u, hg⟩
theorem cellS45_0 {W : World} {g : Nat} {f0 : ByteArray} {f1 : Int} {f2 : Int} (h : W.heap[g]? = some (.cells #[.string f0, .int .i64 f1, .int .i64 f2] 45 (0, 0))) : W.cell? ⟨g, 0, none⟩ = some (.string f0) := (blk_cell h 0).trans rfl
theorem IsS45.set_0 {w0 W : World} {g : Nat} {f0 : ByteArray} {f1 : Int} {f2 : Int} (h : IsS45 w0 W g f0 f1 f2) (x : ByteArray) : IsS45 w0 (W.setCell ⟨g, 0, none⟩ (.string x)) g x f1 f2 := by
  obtain ⟨hb, hg⟩ := h
  exact ⟨by simpa using blk_set hb 0 (.string x), hg⟩
theorem cellS45_1 {W : World} {g : Nat} {f0 : ByteArray} {f1 : Int} {f2 : Int} (h : W.heap[g]? = some (.cells #[.string f0, .int .i64 f1, .int .i64 f2] 45 (0, 0))) : W.cell? ⟨g, 1, none⟩ = some (.int .i64 f1) := (blk_cell h 1).trans rfl
theorem IsS45.set_1 {w0 W : World} {g : Nat} {f0 : ByteArray} {f1 : Int} {f2 : Int} (h : IsS45 w0 W g f0 f1 f2) (x : Int) : IsS45 w0 (W.setCell ⟨g, 1, none⟩ (.int .i64 x)) g f0 x f2 := by
  obtain ⟨hb, hg⟩ := h
  exact ⟨by simpa using blk_set hb 1 (.int .i64 x), hg⟩
theorem cellS45_2 {W : World} {g : Nat} {f0 : ByteArray} {f1 : Int} {f2 : Int} (h : W.heap[g]? = some (.cells #[.string f0, .int .i64 f1, .int .i64 f2] 45 (0, 0))) : W.cell? ⟨g, 2, none⟩ = some (.int .i64 f2) := (blk_cell h 2).trans rfl
theorem IsS45.set_2 {w0 W : World} {g : Nat} {f0 : ByteArray} {f1 : Int} {f2 : Int} (h : IsS45 w0 W g f0 f1 f2) (x : Int) : IsS45 w0 (W.setCell ⟨g, 2, none⟩ (.int .i64 x)) g f0 f1 x := by
  obtain ⟨hb, hg⟩ := h
  exact ⟨by simpa using blk_set hb 2 (.int .i64 x), hg⟩
theorem IsS45.new (w0 W : World) (f0 : ByteArray) (f1 : Int) (f2 : Int) (hB : Below w0.heap.size w0 W) : IsS45 w0 (W.alloc (.cells #[.string f0, .int .i64 f1, .int .i64 f2] 45)) W.heap.size f0 f1 f2 := ⟨by simpa using heap_alloc_new W _, hB.size⟩
def pouchref01_Reader_take.f (s0_0 : ByteArray) (s0_1 : Int) (s0_2 : Int) (a1 : Int) : Option (ByteArray × Bool × ByteArray × Int × Int) := if s0_2 = 0 then (if a1 < 0 then (some ((⟨#[]⟩ : ByteArray), false, s0_0, s0_1, 2)) else (if a1 > (wrap64 ((s0_0.size : Int) - s0_1)) then (some ((⟨#[]⟩ : ByteArray), false, s0_0, s0_1, 2)) else (if 0 ≤ s0_1 then (if s0_1 ≤ (wrap64 (s0_1 + a1)) then (if (wrap64 (s0_1 + a1)) ≤ (s0_0.size : Int) then (some (s0_0.extract (s0_1 : Int).toNat ((wrap64 (s0_1 + a1)) : Int).toNat, true, s0_0, wrap64 (s0_1 + a1), s0_2)) else (none)) else (none)) else (none)))) else (some ((⟨#[]⟩ : ByteArray), false, s0_0, s0_1, s0_2))
theorem z74z0 {p : Prop} (h : p := by repeat (first | (with_reducible first | exact HI0.out | apply IsS45.alloc | apply IsS45.drewN | apply IsS45.drew | apply IsS45.set_0 | apply IsS45.set_1 | apply IsS45.set_2) | exact HI0.out)) : p := h
theorem z74z1 {p : Prop} (h : p := by repeat (first | (with_reducible first | exact HB.out | apply below_alloc | apply pw_below_drewN | apply below_drew1 | refine below_set ?_ (IsS45.ge HI0.out)) | exact HB.out)) : p := h
theorem pouchref01_Reader_take.calls (g : Nat) (s0_0 : ByteArray) (s0_1 : Int) (s0_2 : Int) (a1 : Int) (r1 : ByteArray) (r2 : Bool) (r3 : ByteArray) (r4 : Int) (r5 : Int) (w0 w : World) (hI : IsS45 w0 w g s0_0 s0_1 s0_2) (hB : Below w0.heap.size w0 w) (h : pouchref01_Reader_take.f s0_0 s0_1 s0_2 a1 = some (r1, r2, r3, r4, r5)) :
  Calls Tryd.prog 74 #[.pointer (some ⟨g, 0, none⟩), .int .i64 a1] w fun e w' => e = .returned (.tuple #[.string r1, .bool r2]) ∧ IsS45 w0 w' g r3 r4 r5 ∧ Below w0.heap.size w0 w' ∧ KeepBut w w' g none := by
 have HI0 := Aside0.mk hI
 have HK := Aside0.mk (KeepBut.refl w g none)
 have HL := Aside0.mk hB.size
 clear hI
 have HW0 := Aside0.mk hB.size
 have HB := Aside0.mk hB
 clear hB
 have H : (if s0_2 = 0 then (if a1 < 0 then (some ((⟨#[]⟩ : ByteArray), false, s0_0, s0_1, 2)) else (if a1 > (wrap64 ((s0_0.size : Int) - s0_1)) then (some ((⟨#[]⟩ : ByteArray), false, s0_0, s0_1, 2)) else (if 0 ≤ s0_1 then (if s0_1 ≤ (wrap64 (s0_1 + a1)) then (if (wrap64 (s0_1 + a1)) ≤ (s0_0.size : Int) then (some (s0_0.extract (s0_1 : Int).toNat ((wrap64 (s0_1 + a1)) : Int).toNat, true, s0_0, wrap64 (s0_1 + a1), s0_2)) else (none)) else (none)) else (none)))) else (some ((⟨#[]⟩ : ByteArray), false, s0_0, s0_1, s0_2))) = some (r1, r2, r3, r4, r5) := h
 clear h
 by_cases c3 : s0_2 = 0
 rotate_left
 ·rw [if_neg c3] at H
  obtain ⟨c3b0, c3b1⟩ := eqf_ c3
  simp only [Option.some.injEq, Prod.mk.injEq] at H
  obtain ⟨rfl, rfl, rfl, rfl, rfl⟩ := H
  obtain ⟨HGz12, hgz12⟩ := HI0.out
  have hcz12_0 := cellS45_0 HGz12
  have hcz12_1 := cellS45_1 HGz12
  have hcz12_2 := cellS45_2 HGz12
  have hfz12_0 := blk_frozen HGz12 0
  have hfz12_1 := blk_frozen HGz12 1
  have hfz12_2 := blk_frozen HGz12 2
  clear HGz12 hgz12
  go_enter Tryd.func74, Tryd.ntmps74
  go_wp2
  repeat (go_quiet (fail); try go_wp2)
  go_ret2
  exact ⟨y4_, z74z0, z74z1, y6_⟩
 rw [if_pos c3] at H
 obtain ⟨c3b0, c3b1⟩ := eqt_ c3
 clear c3
 by_cases c4 : a1 < 0
 ·rw [if_pos c4] at H
  have c4b0 := decide_eq_true c4
  clear c4
  simp only [Option.some.injEq, Prod.mk.injEq] at H
  obtain ⟨rfl, rfl, rfl, rfl, rfl⟩ := H
  obtain ⟨HGz5, hgz5⟩ := HI0.out
  have hcz5_0 := cellS45_0 HGz5
  have hcz5_1 := cellS45_1 HGz5
  have hcz5_2 := cellS45_2 HGz5
  have hfz5_0 := blk_frozen HGz5 0
  have hfz5_1 := blk_frozen HGz5 1
  have hfz5_2 := blk_frozen HGz5 2
  clear HGz5 hgz5
  go_enter Tryd.func74, Tryd.ntmps74
  go_wp2
  repeat (go_quiet (fail); try go_wp2)
  go_ret2
  exact ⟨y4_, z74z0, z74z1, y6_⟩
 rw [if_neg c4] at H
 have c4b0 := decide_eq_false c4
 clear c4
 by_cases c6 : a1 > (wrap64 ((s0_0.size : Int) - s0_1))
 ·rw [if_pos c6] at H
  have c6b0 := decide_eq_true c6
  clear c6
  simp only [Option.some.injEq, Prod.mk.injEq] at H
  obtain ⟨rfl, rfl, rfl, rfl, rfl⟩ := H
  obtain ⟨HGz7, hgz7⟩ := HI0.out
  have hcz7_0 := cellS45_0 HGz7
  have hcz7_1 := cellS45_1 HGz7
  have hcz7_2 := cellS45_2 HGz7
  have hfz7_0 := blk_frozen HGz7 0
  have hfz7_1 := blk_frozen HGz7 1
  have hfz7_2 := blk_frozen HGz7 2
  clear HGz7 hgz7
  go_enter Tryd.func74, Tryd.ntmps74
  go_wp2
  repeat (go_quiet (fail); try go_wp2)
  go_ret2
  exact ⟨y4_, z74z0, z74z1, y6_⟩
 rw [if_neg c6] at H
 have c6b0 := decide_eq_false c6
 clear c6
 by_cases c8 : 0 ≤ s0_1
 rotate_left
 ·rw [if_neg c8] at H
  exact absurd H (by simp)
 rw [if_pos c8] at H
 have c8b0 := eq_true c8
 have c8b1 := decide_eq_true c8
 clear c8
 by_cases c9 : s0_1 ≤ (wrap64 (s0_1 + a1))
 rotate_left
 ·rw [if_neg c9] at H
  exact absurd H (by simp)
 rw [if_pos c9] at H
 have c9b0 := eq_true c9
 have c9b1 := decide_eq_true c9
 by_cases c10 : (wrap64 (s0_1 + a1)) ≤ (s0_0.size : Int)
 rotate_left
 ·rw [if_neg c10] at H
  exact absurd H (by simp)
 rw [if_pos c10] at H
 have c10b0 := eq_true c10
 have c10b1 := decide_eq_true c10
 simp only [Option.some.injEq, Prod.mk.injEq] at H
 obtain ⟨rfl, rfl, rfl, rfl, rfl⟩ := H
 obtain ⟨HGz11, hgz11⟩ := HI0.out
 have hcz11_0 := cellS45_0 HGz11
 have hcz11_1 := cellS45_1 HGz11
 have hcz11_2 := cellS45_2 HGz11
 have hfz11_0 := blk_frozen HGz11 0
 have hfz11_1 := blk_frozen HGz11 1
 have hfz11_2 := blk_frozen HGz11 2
 clear HGz11 hgz11
 go_enter Tryd.func74, Tryd.ntmps74
 go_wp2
 repeat (go_quiet (fail); try go_wp2)
 go_ret2
 exact ⟨y4_, z74z0, z74z1, y6_⟩
end Go.Proofs.YtkmkgpigmldhnaaDoor.P
namespace Go.Proofs.YtkmkgpigmldhnaaDoor.P
open Go.RowKit Go.Shelf Go.Lib Go.Proofs.YtkmkgpigmldhnaaDoorW.PrintWords Go.Proofs.YtkmkgpigmldhnaaDoorW.PrintLast Go.Proofs.YtkmkgpigmldhnaaDoorW.PrintMore
theorem wire_Reader_Sub.calls (g : Nat) (s0 : ByteArray) (s1 n : Int) (t : ByteArray) (ok : Bool) (r0 : ByteArray) (r1 : Int) (w0 w : World) (hI : IsS78 w0 w g s0 s1) (hB : Below w0.heap.size w0 w) (h : wire_Reader_take.f s0 s1 n = some (t, ok, r0, r1)) :
  Calls Tryd.prog 42 #[.pointer (some ⟨g, 0, none⟩), .int .i64 n] w fun e w' => ∃ g2, e = .returned (.pointer (some ⟨g2, 0, none⟩)) ∧ IsS78 w0 w' g r0 r1 ∧ IsS78 w0 w' g2 t r1 ∧ w.heap.size ≤ g2 ∧ Below w0.heap.size w0 w' ∧ KeepBut w w' g none := by
 have hu := Tryd.underlying78
 have HI := Aside0.mk hI
 have HB := Aside0.mk hB
 have HH := Aside0.mk h
 have he : ∀ w : World, (binOp BinOp.eql 32 (.pointer (some ⟨g, 0, none⟩)) (.pointer none)).run Tryd.prog w = .ok (.bool false) w := fun _ => by kernel_rfl
 clear hI hB h
 go_enter Tryd.func42, Tryd.ntmps42
 go_wp2_with (go_at_call 41; refine (wire_Reader_take.calls g s0 s1 n t ok r0 r1 w0 _ HI.out HB.out HH.out).mono ?_; rintro e w1 ⟨rfl, hi, hb, hk⟩; have HI1 := Aside0.mk hi; have HB1 := Aside0.mk hb; have HK1 := Aside0.mk hk; have hc1 := cellS78_1 hi.1; have hf1 := blk_frozen hi.1 1; clear hi hb hk)
 go_ret
 exact ⟨_, rfl, HI1.out.alloc _, IsS78.new w0 w1 t r1 HB1.out, HK1.out.1, below_alloc HB1.out _, keep_alloc HK1.out _⟩
theorem pouchref01_Reader_Sub.calls (g : Nat) (s0 : ByteArray) (s1 s2 n : Int) (t : ByteArray) (ok : Bool) (r0 : ByteArray) (r1 r2 : Int) (w0 w : World) (hI : IsS45 w0 w g s0 s1 s2) (hB : Below w0.heap.size w0 w) (h : pouchref01_Reader_take.f s0 s1 s2 n = some (t, ok, r0, r1, r2)) :
  Calls Tryd.prog 47 #[.pointer (some ⟨g, 0, none⟩), .int .i64 n] w fun e w' => ∃ g2, e = .returned (.pointer (some ⟨g2, 0, none⟩)) ∧ IsS45 w0 w' g r0 r1 r2 ∧ IsS45 w0 w' g2 (if ok = true then t else (⟨#[]⟩ : ByteArray)) 0 (if ok = true then 0 else r2) ∧ w.heap.size ≤ g2 ∧ Below w0.heap.size w0 w' ∧ KeepBut w w' g none := by
 have hu := Tryd.underlying45
 have HI := Aside0.mk hI
 have HB := Aside0.mk hB
 have HH := Aside0.mk h
 clear hI hB h
 go_enter Tryd.func47, Tryd.ntmps47
 cases ok with
 | true =>
  go_wp2_with (go_at_call 74; refine (pouchref01_Reader_take.calls g s0 s1 s2 n t true r0 r1 r2 w0 _ HI.out HB.out HH.out).mono ?_; rintro e w1 ⟨rfl, hi, hb, hk⟩; have HI1 := Aside0.mk hi; have HB1 := Aside0.mk hb; have HK1 := Aside0.mk hk; have hc2 := cellS45_2 hi.1; have hf2 := blk_frozen hi.1 2; clear hi hb hk)
  go_ret
  exact ⟨_, rfl, HI1.out.alloc _, IsS45.new w0 w1 t 0 0 HB1.out, HK1.out.1, below_alloc HB1.out _, keep_alloc HK1.out _⟩
 | false =>
  go_wp2_with (go_at_call 74; refine (pouchref01_Reader_take.calls g s0 s1 s2 n t false r0 r1 r2 w0 _ HI.out HB.out HH.out).mono ?_; rintro e w1 ⟨rfl, hi, hb, hk⟩; have HI1 := Aside0.mk hi; have HB1 := Aside0.mk hb; have HK1 := Aside0.mk hk; have hc2 := cellS45_2 hi.1; have hf2 := blk_frozen hi.1 2; clear hi hb hk)
  go_ret
  exact ⟨_, rfl, HI1.out.alloc _, IsS45.new w0 w1 ⟨#[]⟩ 0 r2 HB1.out, HK1.out.1, below_alloc HB1.out _, keep_alloc HK1.out _⟩
end Go.Proofs.YtkmkgpigmldhnaaDoor.P
namespace Go.Proofs.YtkmkgpigmldhnaaDoor.P
open Go.RowKit Go.Proofs.YtkmkgpigmldhnaaDoorW.PrintWords Go.Proofs.YtkmkgpigmldhnaaDoorW.PrintLast Go.Proofs.YtkmkgpigmldhnaaDoorW.PrintMore
attribute [local go_sem] max2_int min2_int max_two min_two max_three min_three max_four min_four
def wire_Reader_Rest.f (s0_0 : ByteArray) (s0_1 : Int) : Option (ByteArray × ByteArray × Int) := (wire_Reader_Left.f s0_0 s0_1).bind fun bt101 => ((wire_Reader_take.f bt101.2.1 bt101.2.2 bt101.1).bind fun bt104 => (some (bt104.1, bt104.2.2.1, bt104.2.2.2)))
theorem z45z0 {p : Prop} (h : p := by repeat (first | (with_reducible first | exact HB.out | apply below_alloc | apply pw_below_drewN | apply below_drew1 | refine below_set ?_ (IsS78.ge HI0.out)) | exact HB.out)) : p := h
theorem z45z1 {p : Prop} (h : p := by repeat (first | (with_reducible first | exact HI0.out | apply IsS78.alloc | apply IsS78.drewN | apply IsS78.drew | apply IsS78.set_0 | apply IsS78.set_1) | exact HI0.out)) : p := h
theorem wire_Reader_Rest.calls (g : Nat) (s0_0 : ByteArray) (s0_1 : Int) (r1 : ByteArray) (r2 : ByteArray) (r3 : Int) (w0 w : World) (hI : IsS78 w0 w g s0_0 s0_1) (hB : Below w0.heap.size w0 w) (h : wire_Reader_Rest.f s0_0 s0_1 = some (r1, r2, r3)) :
  Calls Tryd.prog 45 #[.pointer (some ⟨g, 0, none⟩)] w fun e w' => e = .returned (.string r1) ∧ IsS78 w0 w' g r2 r3 ∧ Below w0.heap.size w0 w' ∧ KeepBut w w' g none := by
 have HI0 := Aside0.mk hI
 have HK := Aside0.mk (KeepBut.refl w g none)
 have HL := Aside0.mk hB.size
 clear hI
 have HW0 := Aside0.mk hB.size
 have HB := Aside0.mk hB
 clear hB
 have H : ((wire_Reader_Left.f s0_0 s0_1).bind fun bt101 => ((wire_Reader_take.f bt101.2.1 bt101.2.2 bt101.1).bind fun bt104 => (some (bt104.1, bt104.2.2.1, bt104.2.2.2)))) = some (r1, r2, r3) := h
 clear h
 replace H := Option.bind_eq_some_iff.mp H
 obtain ⟨⟨t101, t102, t103⟩, A20, H⟩ := H
 replace H : ((wire_Reader_take.f t102 t103 t101).bind fun bt104 => (some (bt104.1, bt104.2.2.1, bt104.2.2.2))) = some (r1, r2, r3) := H
 have A2 := Aside0.mk A20
 clear A20
 replace H := Option.bind_eq_some_iff.mp H
 obtain ⟨⟨t104, t105, t106, t107⟩, A30, H⟩ := H
 replace H : (some (t104, t106, t107)) = some (r1, r2, r3) := H
 have A3 := Aside0.mk A30
 clear A30
 simp only [Option.some.injEq, Prod.mk.injEq] at H
 obtain ⟨rfl, rfl, rfl⟩ := H
 go_enter Tryd.func45, Tryd.ntmps45
 go_wp2_with (first | ((with_reducible refine gate_callee (f := 21) rfl ?_); refine goesL_ (some 8) rfl rfl Tryd.func21 (by kernel_rfl) rfl #[.pointer (some ⟨g, 0, none⟩)] rfl y2_ ?_; (with_reducible refine (wire_Reader_Left.calls g s0_0 s0_1 t101 t102 t103 w0 _ ?side1 ?side2 A2.out).mono ?_); (case side1 => exact z45z1); (case side2 => exact z45z0); rintro e w4 ⟨rfl, hi, hb, hk⟩; refine ⟨_, rfl, ?_⟩; have n0_ := Aside0.mk (KeepBut.trans y6_ hk (.inl rfl)); have n1_ := Aside0.mk (hb); have n2_ := Aside0.mk (hi); replace HK := n0_; replace HB := n1_; replace HI0 := n2_; clear n0_ n1_ n2_; clear hb hk hi) | ((with_reducible refine gate_callee (f := 41) rfl ?_); refine goesL_ (some 9) rfl rfl Tryd.func41 (by kernel_rfl) rfl #[.pointer (some ⟨g, 0, none⟩), .int .i64 t101] rfl y2_ ?_; (with_reducible refine (wire_Reader_take.calls g t102 t103 t101 t104 t105 t106 t107 w0 _ ?side1 ?side2 A3.out).mono ?_); (case side1 => exact z45z1); (case side2 => exact z45z0); rintro e w5 ⟨rfl, hi, hb, hk⟩; refine ⟨_, rfl, ?_⟩; have n0_ := Aside0.mk (KeepBut.trans y6_ hk (.inl rfl)); have n1_ := Aside0.mk (hb); have n2_ := Aside0.mk (hi); replace HK := n0_; replace HB := n1_; replace HI0 := n2_; clear n0_ n1_ n2_; clear hb hk hi))
 go_ret
 exact ⟨y4_, z45z1, z45z0, y6_⟩
end Go.Proofs.YtkmkgpigmldhnaaDoor.P
namespace Go.Proofs.YtkmkgpigmldhnaaDoor.P
open Go.RowKit Go.Shelf Go.Lib Go.Proofs.YtkmkgpigmldhnaaDoorW.PrintWords Go.Proofs.YtkmkgpigmldhnaaDoorW.PrintLast Go.Proofs.YtkmkgpigmldhnaaDoorW.PrintMore
open Go.Proofs.YtkmkgpigmldhnaaDoor.Rg
attribute [local go_sem] Oper.semAt_some
def TakeI (w0 w : World) (g h ho : Nat) (s2 : ByteArray) (pre : List EP) (W : World) : Prop :=
 W.heap[h]? = some (.cells #[.slice none 0 0] 27 (0, 0)) ∧ W.heap[h + 1]? = some (.cells #[.bool false] 4 (0, 0)) ∧
 (∃ v, W.heap[ho]? = some (.cells #[v] 27 (0, 0)) ∧ Kd.R k60 60 W w.heap.size (fun _ => True) v (pre.map (·.1))) ∧
 (∀ x ∈ pre, x.2 = true) ∧ Below w0.heap.size w0 W ∧ KeepBut w W g none ∧ IsS78 w0 W g s2 0
def TakeX (w0 w : World) (g h : Nat) (s2 : ByteArray) (pre : List EP) (W : World) : Prop :=
 W.heap[h]? = some (.cells #[.slice none 0 0] 27 (0, 0)) ∧ W.heap[h + 1]? = some (.cells #[.bool false] 4 (0, 0)) ∧
 (∃ x ∈ pre, x.2 = false) ∧ Below w0.heap.size w0 W ∧ KeepBut w W g none ∧ IsS78 w0 W g s2 0
theorem own_special {W W' : World} {base : Nat} {ok : Nat → Prop} {v : Value} {xs : List S60} {row : Option Nat} {T : Nat} (h : Kd.R k60 60 W base ok v xs) (hg : W.grownBy W' row) (hr : ∀ r, row = some r → ∃ o, W.heap[r]? = some o ∧ Sp T o) (hT : 60 ≠ T) : Kd.R k60 60 W' base ok v xs := by
 refine Kd.R_mono (Kd.R_move (Kd.R_bound h) (fun k hk => hg.block k hk.2.2.1 (fun e => ?_))) (fun _ hk => hk.1)
 obtain ⟨o, ho, hs⟩ := hr k e.symm
 obtain ⟨_, _, _, q, hq, cells, hc⟩ := hk
 rw [ho] at hc
 obtain rfl := Option.some.inj hc
 rcases hs with hs | ⟨cs, hs⟩
 ·cases hs
 ·injection hs with _ hs
  have : q = 60 := by
   rcases List.mem_cons.1 hq with h1 | h1
   ·exact h1
   ·have hE : k60.E = [] := rfl
    rw [hE] at h1; cases h1
  exact hT (this ▸ hs)
theorem keep_special {w W W' : World} {g B : Nat} {row : Option Nat} {T : Nat} (h : KeepBut w W g none) (hg : W.grownBy W' row) (hr : ∀ r, row = some r → B ≤ r ∧ ∃ o, W.heap[r]? = some o ∧ Sp T o) (hB : w.heap.size ≤ B) : KeepBut w W' g none :=
 ⟨Nat.le_trans h.1 hg.size, fun i hi hne _ => (hg.block i (Nat.lt_of_lt_of_le hi h.1) (fun e => by have := (hr i e.symm).1; omega)).trans (h.2 i hi hne (by simp))⟩
theorem box_cells (W : World) (t : TypeId) (x : S60) : ∀ (j : Nat) (u : Value), (encS x)[j]? = some u → (W.alloc (.cells #[.int .u8 x.f0, .int .u32 x.f1, .string x.f2, .string x.f3] t)).cell? ((⟨W.heap.size, 0, none⟩ : Addr).add j) = some u := by
 intro j u h
 rw [add_at, Nat.zero_add, blk_cell (heap_alloc_new W _) j]
 simpa [encS] using h
theorem own_more {W w1 : World} {base : Nat} {ok : Nat → Prop} {v1 : Value} {xs : List S60} {p : S60} {inner : List Value} (hr : Reps (k60.M W base ok) 4 xs inner) (h : w1.ownsRow base 60 4 v1 (xs.length + 1) (inner ++ encS p)) : Kd.R k60 60 w1 base (fun _ => True) v1 (xs ++ [p]) := by
 refine ⟨fun _ _ => trivial, inner ++ encS p, by rw [List.length_append]; exact h, ?_⟩
 exact (hr.imp_ (fun x c hM => by rw [k60_openM hM]; exact k60_mkM _ _ _ x)).snoc (k60_mkM _ _ _ p) rfl
theorem Kq.set {B T : Nat} {W : World} (p : Addr) (u : Value) (h : p.block < B) : Kq B T W (W.setCell p u) := fun k o hB ho _ => (Below.heap_setCell W p u k (by omega)).trans ho
theorem keep_set {w W : World} {g b j : Nat} {u : Value} (h : KeepBut w W g none) (hb : w.heap.size ≤ b) : KeepBut w (W.setCell ⟨b, j, none⟩ u) g none :=
 ⟨by simpa [World.setCell] using h.1, fun i hi hg hr => (Below.heap_setCell W ⟨b, j, none⟩ u i (by show i ≠ b; omega)).trans (h.2 i hi hg hr)⟩
theorem takeI_ab {w0 w : World} {g h ho B : Nat} {s2 : ByteArray} (pre : List EP) (hh : h + 1 < B) (hho : ho < B) (hgB : g < B) (hw : w.heap.size ≤ B) (hw0 : w0.heap.size ≤ B) : Ab B 78 (TakeI w0 w g h ho s2 pre) := by
 rintro W W' row ⟨h1, h2, ⟨v, h3, h4⟩, h5, h6, h7, h8⟩ hg hr
 have bl : ∀ k o, k < B → W.heap[k]? = some o → W'.heap[k]? = some o := fun k o hk hb => Ab.block (T := 78) o hk W W' row hb hg hr
 exact ⟨bl _ _ (by omega) h1, bl _ _ (by omega) h2, ⟨v, bl _ _ hho h3, own_special h4 hg (fun r e => (hr r e).2) (by decide)⟩, h5, h6.grown hg h6.size (fun r e => by have := (hr r e).1; omega), keep_special h7 hg hr hw, ⟨bl _ _ hgB h8.1, h8.2⟩⟩
theorem takeX_ab {w0 w : World} {g h B : Nat} {s2 : ByteArray} (pre : List EP) (hh : h + 1 < B) (hgB : g < B) (hw : w.heap.size ≤ B) (hw0 : w0.heap.size ≤ B) : Ab B 78 (TakeX w0 w g h s2 pre) := by
 rintro W W' row ⟨h1, h2, h5, h6, h7, h8⟩ hg hr
 have bl : ∀ k o, k < B → W.heap[k]? = some o → W'.heap[k]? = some o := fun k o hk hb => Ab.block (T := 78) o hk W W' row hb hg hr
 exact ⟨bl _ _ (by omega) h1, bl _ _ (by omega) h2, h5, h6.grown hg h6.size (fun r e => by have := (hr r e).1; omega), keep_special h7 hg hr hw, ⟨bl _ _ hgB h8.1, h8.2⟩⟩
theorem rest_at (t : ByteArray) : wire_Reader_Rest.f t 0 = some (t, t.extract t.size t.size, 0) := by
 have h : ¬ ((t.size : Int) < 0) := by omega
 unfold wire_Reader_Rest.f wire_Reader_Left.f wire_Reader_take.f wire_Reader_Err.f
 simp [h]
set_option maxRecDepth 1000000 in
theorem take_walk (k g : Nat) (s s1 t s2 : ByteArray) (n e0 e1 : Int) (ok : Bool) (L : List EP) (w0 w : World) (hG : GW w0) (hI : IsS78 w0 w g s e0) (hB : Below w0.heap.size w0 w)
  (hv : wire_Reader_Var.f k s e0 = some (n, s1, e1)) (ht : wire_Reader_take.f s1 e1 (wrap64 n) = some (t, ok, s2, 0)) (hL : EachL (strOfNums (bytesOf t)) L) (hl : L.length < 3518437208832) (hts : t.size < 140737488355328) :
  Calls Tryd.prog 17 #[.pointer (some ⟨g, 0, none⟩)] w fun e w' => ∃ v, e = .returned (.tuple #[v, .bool (L.all (·.2))]) ∧ IsS78 w0 w' g s2 0 ∧ Below w0.heap.size w0 w' ∧ KeepBut w w' g none ∧
   (L.all (·.2) = true → Kd.R k60 60 w' w.heap.size (fun _ => True) v (Srt.srt keyS (L.map (·.1)))) ∧ (L.all (·.2) = false → v = .slice none 0 0) := by
 have hu := Tryd.underlying60
 have he : ∀ w : World, (binOp BinOp.eql 32 (.pointer (some ⟨g, 0, none⟩)) (.pointer none)).run Tryd.prog w = .ok (.bool false) w := fun _ => by kernel_rfl
 have HGW := Aside0.mk hI.lt
 have HW0 := Aside0.mk hB.size
 have HV := Aside0.mk hv
 have HT := Aside0.mk ht
 have HG := Aside0.mk hG
 have HL := Aside0.mk hL
 have HI := Aside0.mk ((hI.alloc (.cells #[.slice none 0 0] 27)).alloc (.cells #[.bool false] 4))
 have HB := Aside0.mk (below_alloc (below_alloc hB (.cells #[.slice none 0 0] 27)) (.cells #[.bool false] 4))
 clear hv ht hG hL hI hB
 have hlen : (bytesOf t).length = t.size := bytesOf_length t
 have hmax : t.size ≤ 9223372036854775807 := by omega
 have kb := fun W => print_bytes (P := Tryd.prog) 9 25 5 Tryd.underlying9 Tryd.underlying25 Tryd.underlying5 t W
 refine (callsIn_wide (n := 9)).1 ?_
 refine callsIn_of_wp_marks Tryd.func17 rfl trivial ?_ rfl
 simp only [Tryd.ntmps17, List.size_toArray, List.length_cons, List.length_nil, Nat.reduceAdd, Nat.reduceSub, Array.replicate_succ, Array.replicate_zero, List.push_toArray, List.append_toArray, List.nil_append, List.cons_append]
 gi_wp2_with (first | (refine ⟨trivial, ?_⟩; gi_at_call 43; refine (callsIn_wide.2 (wire_Reader_Var.calls k g s e0 n s1 e1 w0 _ HI.out HB.out HV.out)).mono ?_; rintro e w1 ⟨rfl, hi, hb, hk⟩; have HI1 := Aside0.mk hi; have HB1 := Aside0.mk hb; have HK1 := Aside0.mk hk; clear hi hb hk) | (refine ⟨trivial, ?_⟩; gi_at_call 42; refine (callsIn_wide.2 (wire_Reader_Sub.calls g s1 e1 _ t ok s2 0 w0 _ HI1.out HB1.out HT.out)).mono ?_; rintro e w2 ⟨g2, rfl, hi, hi2, hg2, hb, hk⟩; have HI2 := Aside0.mk hi; have HJ2 := Aside0.mk hi2; have HB2 := Aside0.mk hb; have HK2 := Aside0.mk hk; have HG2 := Aside0.mk hg2; clear hi hi2 hb hk hg2) | (refine ⟨trivial, ?_⟩; gi_at_call 22; refine (callsIn_wide.2 (wire_Reader_Err.calls g s2 0 0 s2 0 w0 _ HI2.out HB2.out rfl)).mono ?_; rintro e w3 ⟨rfl, hi, hb, hk⟩; have HI3 := Aside0.mk hi; have HB3 := Aside0.mk hb; have HK3 := Aside0.mk hk; have HJ3 := Aside0.mk (show IsS78 w0 w3 g2 t 0 from ⟨hk.blk HJ2.out.1 (by have := HG2.out; have := HI1.out.lt; omega) (by simp), HJ2.out.2⟩); clear hi hb hk) | (refine ⟨trivial, ?_⟩; gi_at_call 45; refine (callsIn_wide.2 (wire_Reader_Rest.calls g2 t 0 t _ 0 w0 _ (HJ3.out.alloc _) (below_alloc HB3.out _) (rest_at t))).mono ?_; rintro e w4 ⟨rfl, hi, hb, hk⟩; have HJ4 := Aside0.mk hi; have HB4 := Aside0.mk hb; have HK4 := Aside0.mk hk; clear hi hb hk) | (refine ⟨trivial, ?_⟩; gi_at_call 44; rw [← hlen]; refine (callsIn_wide.2 (props_Each.calls _ _ (bytesOf t) _ (Kd.C_of_reads (d := (0 : Int)) (h1 := fun _ => rfl) (hlen ▸ bytes_reads w4 5 t hmax)) (by rw [hlen]; exact grownCap_ge _ _ _ _) (by rw [hlen]; omega))).mono ?_; rintro e w5 ⟨B5, A5, c5, rfl, hb5, hc5, hl5, hbel⟩; have HB5 := Aside0.mk hb5; have HC5 := Aside0.mk hc5; have HL5 := Aside0.mk hl5; have HBE := Aside0.mk hbel; clear hb5 hc5 hl5 hbel))
 -- what lies in w5
 have hgw := HGW.out
 have hg2 := HG2.out
 have hl1 := HI1.out.lt
 have hne : g2 ≠ g := by omega
 have hb5 := bytes_below (Below.refl w4.heap.size w4) (Nat.le_refl _) 5 t
 have sW : ((w.alloc (.cells #[.slice none 0 0] 27)).alloc (.cells #[.bool false] 4)).heap.size = w.heap.size + 2 := by
  show ((w.heap.push _).push _).size = _
  simp
 have s1' := HK1.out.1
 have s2' := HK2.out.1
 have s3' := HK3.out.1
 have s4' := HK4.out.1
 have sA : (w3.alloc (.cells #[.slice none 0 0] 27)).heap.size = w3.heap.size + 1 := by
  show (w3.heap.push _).size = _
  simp
 have s5' := hb5.size
 have s6' := HBE.out.size
 rw [sW] at s1'
 rw [sA] at s4'
 have eqs : ∀ k, k < w.heap.size + 2 → k ≠ g → k ≠ g2 → w5.heap[k]? = ((w.alloc (.cells #[.slice none 0 0] 27)).alloc (.cells #[.bool false] 4)).heap[k]? := fun k hk h1 h2 => by
  rw [HBE.out.block k (by omega), hb5.block k (by omega), HK4.out.2 k (by omega) h2 (by simp), Below.heap_alloc w3 _ k (by omega), HK3.out.2 k (by omega) h1 (by simp), HK2.out.2 k (by omega) h1 (by simp), HK1.out.2 k (by omega) h1 (by simp)]
 have hIw5 : TakeI w0 w g w.heap.size w3.heap.size s2 [] w5 := by
  refine ⟨(eqs _ (by omega) (by omega) (by omega)).trans (heap2_old w _ _), (eqs _ (by omega) (by omega) (by omega)).trans (heap_alloc2_new w _ _), ⟨.slice none 0 0, ?_, Kd.R_nil _ _ _ _ _⟩, fun x hx => (by cases hx), ?_, ⟨by omega, fun k hk h1 _ => ?_⟩, ?_, HI.out.2⟩
  ·exact blk_below (blk_below (HK4.out.blk (heap_alloc_new w3 _) (by have := HJ3.out.lt; omega) (by simp)) hb5) HBE.out
  ·exact below_step (bytes_below HB4.out HB4.out.size 5 t) HBE.out
  ·rw [eqs k (by omega) h1 (by omega), Below.heap_alloc _ _ k (by show k < (w.heap.push _).size; simp; omega), Below.heap_alloc w _ k hk]
  ·exact blk_below (blk_below (HK4.out.blk (blk_alloc HI3.out.1 _) (Ne.symm hne) (by simp)) hb5) HBE.out
 have hw5 : w.heap.size + 2 ≤ w5.heap.size := by omega
 have hgo : w3.heap.size < w5.heap.size := by omega
 have hw3 : w.heap.size + 2 ≤ w3.heap.size := by omega
 have hw0 := HW0.out
 have HI5 := Aside0.mk hIw5
 clear eqs hIw5 hb5 hl1 hg2 sW sA s1' s2' s3' s4' s5' s6'
 refine range_law (T := 78) (n₀ := w0.heap.size) (by omega) rfl (by omega) (gf := 72) (lb := #[.pointer (some ⟨B5, 0, none⟩)]) rfl trivial (enters_of Tryd.func72 (by kernel_rfl) rfl)
  (each_seq 8 B5 A5 c5 (bytesOf t) L w0 w5 HG.out HI5.out.2.2.2.2.1 HB5.out HC5.out HL5.out HL.out (by decide)) (Below.refl _ _) (fun _ => rfl)
  (TakeI w0 w g w.heap.size w3.heap.size s2) (TakeX w0 w g w.heap.size s2) (fun pre => takeI_ab pre (by omega) hgo (by omega) (by omega) (by omega)) (fun pre => takeX_ab pre (by omega) (by omega) (by omega) (by omega)) HI5.out ?round ?done ?stop
 case round =>
  rintro l rb pre x rest W hLe hlW ⟨rl, hrl⟩ hi
  have HI6 := Aside0.mk hi
  clear hi
  simp only [encP]
  have hlt := (Array.getElem?_eq_some_iff.1 hrl).1
  obtain ⟨P0, hP0⟩ : ∃ P0 : Obj, P0 = .cells #[.int .u8 x.1.f0, .int .u32 x.1.f1, .string x.1.f2, .string x.1.f3] 60 := ⟨_, rfl⟩
  have hlA : (W.alloc P0).heap[l]? = some (.loop rl) := blk_alloc hrl _
  have hp1 : ((W.alloc P0).putObj l (.loop rb)).heap[W.heap.size]? = some P0 := (World.putObj_heap_other (by omega)).trans (heap_alloc_new W _)
  have abI : Ab w5.heap.size 78 (TakeI w0 w g w.heap.size w3.heap.size s2 pre) := takeI_ab pre (by omega) hgo (by omega) (by omega) (by omega)
  have hi1 : TakeI w0 w g w.heap.size w3.heap.size s2 pre ((W.alloc P0).putObj l (.loop rb)) := abI.put _ (abI.alloc P0 HI6.out) hlW hlA (.inl rfl)
  have hkq : Kq w5.heap.size 78 W (W.alloc P0) := fun k o _ ho _ => blk_alloc ho _
  have hbl : Below w0.heap.size W (W.alloc P0) := (Below.refl _ W).alloc (by have := HI6.out.2.2.2.2.1.size; omega) _
  have HP1 := Aside0.mk hp1
  have HI7 := Aside0.mk hi1
  have HKQ := Aside0.mk hkq
  have HBL := Aside0.mk hbl
  clear hp1 hi1 hkq hbl abI hlA
  gi_wp2
  rw [← hP0]
  refine ⟨HKQ.out, HBL.out, ?_⟩
  generalize (W.alloc P0).putObj l (.loop rb) = W1 at HP1 HI7 ⊢
  rw [hP0] at HP1
  clear HKQ HBL HI6 hP0
  obtain ⟨i1, i2, ⟨v, i3, i4⟩, i5, i6, i7, i8⟩ := HI7.out
  obtain ⟨xp, xo⟩ := x
  have c1 := blk_cell i1 0
  have c2 := blk_cell i2 0
  have c3 := blk_cell i3 0
  have f1 := blk_frozen i1 0
  have f2 := blk_frozen i2 0
  have f3 := blk_frozen i3 0
  have p0 : W1.cell? ⟨W.heap.size, 0, none⟩ = some (.int .u8 xp.f0) := (blk_cell HP1.out 0).trans rfl
  have p1 : W1.cell? ⟨W.heap.size, 1, none⟩ = some (.int .u32 xp.f1) := (blk_cell HP1.out 1).trans rfl
  have p2 : W1.cell? ⟨W.heap.size, 2, none⟩ = some (.string xp.f2) := (blk_cell HP1.out 2).trans rfl
  have p3 : W1.cell? ⟨W.heap.size, 3, none⟩ = some (.string xp.f3) := (blk_cell HP1.out 3).trans rfl
  simp at c1 c2 c3
  have J1 := Aside0.mk i1
  have J2 := Aside0.mk i2
  have J3 := Aside0.mk i3
  have J4 := Aside0.mk i4
  have J5 := Aside0.mk i5
  have J6 := Aside0.mk i6
  have J7 := Aside0.mk i7
  have J8 := Aside0.mk i8
  clear i1 i2 i3 i4 i5 i6 i7 i8 HI7
  cases xo with
  | false =>
   gi_wp2
   refine ⟨(Kq.set _ _ (by show w.heap.size < _; omega)).trans (Kq.set _ _ (by show w.heap.size + 1 < _; omega)), ?_⟩
   refine ⟨blk_far (blk_put J1.out 0 _ rfl) (by show w.heap.size ≠ w.heap.size + 1; omega) _, blk_put (blk_far J2.out (by show w.heap.size + 1 ≠ w.heap.size; omega) _) 0 _ rfl, ⟨(xp, false), by simp, rfl⟩, below_set (below_set J6.out hw0) (by omega), ?_, ?_⟩
   ·exact keep_set (keep_set J7.out (Nat.le_refl _)) (by omega)
   ·exact (J8.out.far (by show g ≠ w.heap.size; omega) _).far (by show g ≠ w.heap.size + 1; omega) _
  | true =>
   obtain ⟨i0, hi, hz0, hz1, hz2⟩ := info_parts info60
   obtain ⟨_, inner, hown, hreps⟩ := J4.out
   have hne3 : some w3.heap.size ≠ v.ownBlock := Kd.R_ne J4.out J3.out (by decide)
   have hplen : pre.length < 3518437208832 := by have := congrArg List.length hLe; simp at this; omega
   have HOWN := Aside0.mk hown
   have HREP := Aside0.mk hreps
   clear hown hreps
   gi_wp2_with (gi_at_builtin; refine Hold.out ?_)
   refine ⟨?_⟩
   refine wpListIn_append_own _ rfl _ _ 27 rfl w.heap.size 60 i0 (.agg #[(.int .u8 0), (.int .u32 0), (.string ⟨#[]⟩), (.string ⟨#[]⟩)]) 4 40 Tryd.underlying27 hi hz0 hz1 hz2 rfl (by decide) v (pre.map (·.1)).length inner rfl (HOWN.out.alloc _) ⟨W1.heap.size, 0, none⟩ 1 1 (encS xp) rfl rfl (box_cells W1 60 xp) (encS_one xp) ?b1 ?b2 ?b3 ?_
   case b1 => simp [maxLen]; omega
   case b2 => simp; omega
   case b3 => have := J7.out.1; rw [World.size_alloc]; omega
   intro v' w1' hown' hgrow hnil
   have ho' := own_more HREP.out hown'
   obtain ⟨A', c', rfl⟩ := Kd.R_slice ho'
   have hb3 := blk_grown (blk_alloc J3.out _) hgrow hne3
   have HO' := Aside0.mk ho'
   have HB3 := Aside0.mk hb3
   have HGR := Aside0.mk hgrow
   have hcc := blk_cell hb3 0
   have hff := blk_frozen hb3 0
   simp at hcc
   clear hown' hgrow hnil ho' hb3
   gi_wp2
   have hrow : ∀ k, v.ownBlock = some k → w.heap.size ≤ k ∧ ∃ cells, W1.heap[k]? = some (.cells cells 60 (0, 0)) := fun k hk => ⟨own_base HOWN.out k hk, own_typed HOWN.out k hk⟩
   have ne_of : ∀ k o, W1.heap[k]? = some o → (∀ cells, o ≠ .cells cells 60 (0, 0)) → some k ≠ v.ownBlock := fun k o ho hn e => by
    obtain ⟨_, cells, hc⟩ := hrow k e.symm
    rw [ho] at hc
    exact hn cells (Option.some.inj hc)
   have carry : ∀ k o, W1.heap[k]? = some o → some k ≠ v.ownBlock → k ≠ w3.heap.size → (w1'.setCell ⟨w3.heap.size, 0, none⟩ (.slice A' (pre.length + 1) c')).heap[k]? = some o := fun k o ho h1 h2 =>
    (Below.heap_setCell w1' ⟨w3.heap.size, 0, none⟩ _ k h2).trans (blk_grown (blk_alloc ho _) HGR.out h1)
   have hbb : ∀ (B : Nat) (u : World), Below B u W1 → B ≤ w.heap.size → B ≤ W1.heap.size → Below B u (w1'.setCell ⟨w3.heap.size, 0, none⟩ (.slice A' (pre.length + 1) c')) := fun B u h h1 h2 =>
    ((h.alloc h2 _).grown HGR.out (by rw [World.size_alloc]; omega) (fun k hk => by have := (hrow k hk).1; omega)).setCell (p := ⟨w3.heap.size, 0, none⟩) (by show B ≤ w3.heap.size; omega) _
   have sv : (pre.map (·.1) ++ [xp]).length = pre.length + 1 := by simp
   refine ⟨fun k o hB ho hs => carry k o ho (ne_of k o ho (fun cells e => ?_)) (by omega), hbb _ W1 (Below.refl _ _) hw0 J6.out.size, carry _ _ J1.out (ne_of _ _ J1.out (fun _ e => by cases e)) (by omega), carry _ _ J2.out (ne_of _ _ J2.out (fun _ e => by cases e)) (by omega), ⟨.slice A' (pre.length + 1) c', blk_put HB3.out 0 _ rfl, ?_⟩, ?_, hbb _ w0 J6.out hw0 J6.out.size, ⟨?_, ?_⟩, ?_⟩
   ·subst e
    rcases hs with hs | ⟨_, hs⟩
    ·cases hs
    ·cases hs
   ·have := HO'.out
    rw [sv] at this
    rw [List.map_append]
    exact Kd.R_set this HB3.out (by decide) 0 _
   ·intro y hy
    rcases List.mem_append.1 hy with hy | hy
    ·exact J5.out y hy
    ·simp at hy; subst hy; rfl
   ·have := J7.out.1
    have := HGR.out.size
    rw [World.size_alloc] at this
    simp [World.setCell]; omega
   ·intro k hk hne _
    rw [Below.heap_setCell w1' ⟨w3.heap.size, 0, none⟩ _ k (by show k ≠ w3.heap.size; omega), HGR.out.block k (by rw [World.size_alloc]; have := J7.out.1; omega) (fun e => by have := (hrow k e.symm).1; omega), Below.heap_alloc W1 _ k (by have := J7.out.1; omega)]
    exact J7.out.2 k hk hne (by simp)
   ·exact ⟨carry _ _ J8.out.1 (ne_of _ _ J8.out.1 (fun _ e => by cases e)) (by omega), J8.out.2⟩
 case stop =>
  rintro D pre rest W hD hLe ⟨i1, i2, i3, i4, i5, i6⟩ hK
  gi_wp2
  refine ⟨by simp, .inl ⟨_, _, rfl, run_takeDeferred hK, ?_⟩⟩
  have hD2 : D ≠ w.heap.size ∧ D ≠ w.heap.size + 1 ∧ D ≠ g := by omega
  have b1 : (W.putObj D (.deferred none)).heap[w.heap.size]? = _ := (World.putObj_heap_other (Ne.symm hD2.1)).trans i1
  have b2 : (W.putObj D (.deferred none)).heap[w.heap.size + 1]? = _ := (World.putObj_heap_other (Ne.symm hD2.2.1)).trans i2
  have c1 : (W.putObj D (.deferred none)).cell? ⟨w.heap.size, 0, none⟩ = some (.slice none 0 0) := (blk_cell b1 0).trans rfl
  have c2 : (W.putObj D (.deferred none)).cell? ⟨w.heap.size + 1, 0, none⟩ = some (.bool false) := (blk_cell b2 0).trans rfl
  refine ⟨.tuple #[.slice none 0 0, .bool false], ?_, ?_⟩
  ·simp [results, Tryd.f17, go_sem, c1, c2]
  ·have hall : L.all (·.2) = false := by
    obtain ⟨x, hx, hx2⟩ := i3
    rw [List.all_eq_false]
    exact ⟨x, by rw [hLe]; simp [hx], by simp [hx2]⟩
   rw [hall]
   refine ⟨_, rfl, ⟨(World.putObj_heap_other (Ne.symm hD2.2.2)).trans i6.1, i6.2⟩, i4.grown (grownBy_putObj' W D _) i4.size (fun k e => by cases e; omega), ⟨by have := i5.1; simpa using this, fun k hk h1 h2 => (World.putObj_heap_other (by omega)).trans (i5.2 k hk h1 h2)⟩, fun h => (by cases h), fun _ => rfl⟩
 case done =>
  rintro D W hD ⟨i1, i2, ⟨v, i3, i4⟩, i5, i6, i7, i8⟩ hK
  obtain ⟨A, c, rfl, hl4, hc4⟩ := Kd.R_reads i4
  have hlen4 : (L.map (·.1)).length < 3518437208832 := by simpa using hl
  obtain ⟨ps, hps⟩ : ∃ ps, L.map (·.1) = ps := ⟨_, rfl⟩
  rw [hps] at hl4 hc4 hlen4 i3 i4
  have HPS := Aside0.mk hps
  clear hps
  have HF := Aside0.mk (show props_Sort.f ps = some (Srt.srt keyS ps) by unfold props_Sort.f; rw [if_pos hlen4])
  have HC4 := Aside0.mk hc4
  have HL4 := Aside0.mk hl4
  have J1 := Aside0.mk i1
  have J2 := Aside0.mk i2
  have J5 := Aside0.mk i5
  have J6 := Aside0.mk i6
  have J7 := Aside0.mk i7
  have J8 := Aside0.mk i8
  have JK := Aside0.mk hK
  have c3 : W.cell? ⟨w3.heap.size, 0, none⟩ = some (.slice A ps.length c) := (blk_cell i3 0).trans rfl
  clear i1 i2 i3 i4 i5 i6 i7 i8 hK hc4 hl4
  gi_wp2_with (refine ⟨trivial, ?_⟩; gi_at_call 29; refine (callsIn_wide.2 (props_Sort.calls A c ps _ W HC4.out HL4.out HF.out)).mono ?_; rintro e w6 ⟨v6, rfl, ho6, hb6⟩; obtain ⟨A6, c6, rfl⟩ := Kd.R_slice ho6; have HO6 := Aside0.mk ho6; have HB6 := Aside0.mk hb6; have q1 := blk_below J1.out hb6; have q2 := blk_below J2.out hb6; have d1 : w6.cell? ⟨w.heap.size, 0, none⟩ = some (.slice none 0 0) := (blk_cell q1 0).trans rfl; have d2 : w6.cell? ⟨w.heap.size + 1, 0, none⟩ = some (.bool false) := (blk_cell q2 0).trans rfl; have g1 := blk_frozen q1 0; have g2' := blk_frozen q2 0; have Q1 := Aside0.mk q1; have Q2 := Aside0.mk q2; clear ho6 hb6 q1 q2)
  obtain ⟨V6, hV6⟩ : ∃ V6 : Value, V6 = .slice A6 (Srt.srt keyS ps).length c6 := ⟨_, rfl⟩
  rw [← hV6]
  have hO6 := HO6.out
  rw [← hV6] at hO6
  have hW6 := HB6.out.size
  have hlt6 : D < W.heap.size := (Array.getElem?_eq_some_iff.1 JK.out).1
  have r1 : ((w6.setCell ⟨w.heap.size, 0, none⟩ V6).setCell ⟨w.heap.size + 1, 0, none⟩ (.bool true)).heap[w.heap.size]? = some (.cells #[V6] 27 (0, 0)) := blk_far (blk_put Q1.out 0 _ rfl) (by show w.heap.size ≠ w.heap.size + 1; omega) _
  have r2 : ((w6.setCell ⟨w.heap.size, 0, none⟩ V6).setCell ⟨w.heap.size + 1, 0, none⟩ (.bool true)).heap[w.heap.size + 1]? = some (.cells #[.bool true] 4 (0, 0)) := blk_put (blk_far Q2.out (by show w.heap.size + 1 ≠ w.heap.size; omega) _) 0 _ rfl
  have rD : ((w6.setCell ⟨w.heap.size, 0, none⟩ V6).setCell ⟨w.heap.size + 1, 0, none⟩ (.bool true)).heap[D]? = some (.deferred (some [])) := by
   rw [Below.heap_setCell _ ⟨w.heap.size + 1, 0, none⟩ _ D (by show D ≠ w.heap.size + 1; omega), Below.heap_setCell _ ⟨w.heap.size, 0, none⟩ _ D (by show D ≠ w.heap.size; omega), HB6.out.block D hlt6]
   exact JK.out
  refine ⟨by simp, .inl ⟨_, _, rfl, run_takeDeferred rD, ?_⟩⟩
  have hD2 : D ≠ w.heap.size ∧ D ≠ w.heap.size + 1 ∧ D ≠ g := by omega
  have ho8 : Kd.R k60 60 ((w6.setCell ⟨w.heap.size, 0, none⟩ V6).setCell ⟨w.heap.size + 1, 0, none⟩ (.bool true)) W.heap.size (fun _ => True) V6 (Srt.srt keyS ps) :=
   Kd.R_set (Kd.R_set hO6 Q1.out (by decide) 0 _) (blk_far Q2.out (by show w.heap.size + 1 ≠ w.heap.size; omega) _) (by decide) 0 _
  have ho9 := own_special (T := 78) ho8 (grownBy_putObj' _ D (.deferred none)) (fun r e => by cases e; exact ⟨_, rD, .inl rfl⟩) (by decide)
  have hB9 : Below w0.heap.size w0 (((w6.setCell ⟨w.heap.size, 0, none⟩ V6).setCell ⟨w.heap.size + 1, 0, none⟩ (.bool true)).putObj D (.deferred none)) := by
   refine Below.grown (below_set (below_set (below_step J6.out HB6.out) hw0) (by omega)) (grownBy_putObj' _ D _) ?_ (fun k e => by cases e; omega)
   have := J6.out.size
   simp [World.setCell]; omega
  have b1 : (((w6.setCell ⟨w.heap.size, 0, none⟩ V6).setCell ⟨w.heap.size + 1, 0, none⟩ (.bool true)).putObj D (.deferred none)).heap[w.heap.size]? = _ := (World.putObj_heap_other (Ne.symm hD2.1)).trans r1
  have b2 : (((w6.setCell ⟨w.heap.size, 0, none⟩ V6).setCell ⟨w.heap.size + 1, 0, none⟩ (.bool true)).putObj D (.deferred none)).heap[w.heap.size + 1]? = _ := (World.putObj_heap_other (Ne.symm hD2.2.1)).trans r2
  have c1 := (blk_cell b1 0).trans (rfl : _ = some V6)
  have c2 := (blk_cell b2 0).trans (rfl : _ = some (Value.bool true))
  have hall : L.all (·.2) = true := List.all_eq_true.2 (fun x hx => J5.out x hx)
  refine ⟨.tuple #[V6, .bool true], ?_, ?_⟩
  ·simp [results, Tryd.f17, go_sem, c1, c2]
  ·rw [hall, HPS.out]
   refine ⟨_, rfl, ?_, hB9, ?_, fun _ => Kd.R_lower ho9 (by have := J7.out.1; omega), fun h => (by cases h)⟩
   ·refine ⟨(World.putObj_heap_other (Ne.symm hD2.2.2)).trans ?_, J8.out.2⟩
    rw [Below.heap_setCell _ ⟨w.heap.size + 1, 0, none⟩ _ g (by show g ≠ w.heap.size + 1; omega), Below.heap_setCell _ ⟨w.heap.size, 0, none⟩ _ g (by show g ≠ w.heap.size; omega)]
    exact blk_below J8.out.1 HB6.out
   ·refine ⟨by have := J7.out.1; simp [World.setCell]; omega, fun k hk h1 _ => ?_⟩
    rw [World.putObj_heap_other (by omega), Below.heap_setCell _ ⟨w.heap.size + 1, 0, none⟩ _ k (by show k ≠ w.heap.size + 1; omega), Below.heap_setCell _ ⟨w.heap.size, 0, none⟩ _ k (by show k ≠ w.heap.size; omega), HB6.out.block k (by have := J7.out.1; omega)]
    exact J7.out.2 k hk h1 (by simp)
set_option maxRecDepth 1000000 in
theorem take_fail (k g : Nat) (s s1 t s2 : ByteArray) (n e0 e1 e2 : Int) (ok : Bool) (w0 w : World) (hI : IsS78 w0 w g s e0) (hB : Below w0.heap.size w0 w)
  (hv : wire_Reader_Var.f k s e0 = some (n, s1, e1)) (ht : wire_Reader_take.f s1 e1 (wrap64 n) = some (t, ok, s2, e2)) (he2 : e2 ≠ 0) :
  Calls Tryd.prog 17 #[.pointer (some ⟨g, 0, none⟩)] w fun e w' => e = .returned (.tuple #[.slice none 0 0, .bool false]) ∧ IsS78 w0 w' g s2 e2 ∧ Below w0.heap.size w0 w' ∧ KeepBut w w' g none := by
 have he : ∀ w : World, (binOp BinOp.eql 32 (.pointer (some ⟨g, 0, none⟩)) (.pointer none)).run Tryd.prog w = .ok (.bool false) w := fun _ => by kernel_rfl
 have hneq : (e2 != 0) = true := bne_iff_ne.2 he2
 have HGW := Aside0.mk hI.lt
 have HW0 := Aside0.mk hB.size
 have HV := Aside0.mk hv
 have HT := Aside0.mk ht
 have HI := Aside0.mk ((hI.alloc (.cells #[.slice none 0 0] 27)).alloc (.cells #[.bool false] 4))
 have HB := Aside0.mk (below_alloc (below_alloc hB (.cells #[.slice none 0 0] 27)) (.cells #[.bool false] 4))
 clear hv ht hI hB
 go_enter Tryd.func17, Tryd.ntmps17
 go_wp2_with (first | (go_at_call 43; refine (wire_Reader_Var.calls k g s e0 n s1 e1 w0 _ HI.out HB.out HV.out).mono ?_; rintro e w1 ⟨rfl, hi, hb, hk⟩; have HI1 := Aside0.mk hi; have HB1 := Aside0.mk hb; have HK1 := Aside0.mk hk; clear hi hb hk) | (go_at_call 42; refine (wire_Reader_Sub.calls g s1 e1 _ t ok s2 e2 w0 _ HI1.out HB1.out HT.out).mono ?_; rintro e w2 ⟨g2, rfl, hi, hi2, hg2, hb, hk⟩; have HI2 := Aside0.mk hi; have HB2 := Aside0.mk hb; have HK2 := Aside0.mk hk; clear hi hi2 hb hk hg2) | (go_at_call 22; refine (wire_Reader_Err.calls g s2 e2 e2 s2 e2 w0 _ HI2.out HB2.out rfl).mono ?_; rintro e w3 ⟨rfl, hi, hb, hk⟩; have HI3 := Aside0.mk hi; have HB3 := Aside0.mk hb; have HK3 := Aside0.mk hk; have q1 := hk.blk (HK2.out.blk (HK1.out.blk (heap2_old w (.cells #[.slice none 0 0] 27) (.cells #[.bool false] 4)) (by have := HGW.out; omega) (by simp)) (by have := HGW.out; omega) (by simp)) (by have := HGW.out; omega) (by simp); have q2 := hk.blk (HK2.out.blk (HK1.out.blk (heap_alloc2_new w (.cells #[.slice none 0 0] 27) (.cells #[.bool false] 4)) (by have := HGW.out; omega) (by simp)) (by have := HGW.out; omega) (by simp)) (by have := HGW.out; omega) (by simp); have d1 : w3.cell? ⟨w.heap.size, 0, none⟩ = some (.slice none 0 0) := (blk_cell q1 0).trans rfl; have d2 : w3.cell? ⟨w.heap.size + 1, 0, none⟩ = some (.bool false) := (blk_cell q2 0).trans rfl; have f1 := blk_frozen q1 0; have f2 := blk_frozen q2 0; have Q1 := Aside0.mk q1; have Q2 := Aside0.mk q2; clear hi hb hk q1 q2))
 have hgw := HGW.out
 have hw0 := HW0.out
 have r1 : ((w3.setCell ⟨w.heap.size, 0, none⟩ (.slice none 0 0)).setCell ⟨w.heap.size + 1, 0, none⟩ (.bool false)).heap[w.heap.size]? = some (.cells #[.slice none 0 0] 27 (0, 0)) := blk_far (blk_put Q1.out 0 _ rfl) (by show w.heap.size ≠ w.heap.size + 1; omega) _
 have r2 : ((w3.setCell ⟨w.heap.size, 0, none⟩ (.slice none 0 0)).setCell ⟨w.heap.size + 1, 0, none⟩ (.bool false)).heap[w.heap.size + 1]? = some (.cells #[.bool false] 4 (0, 0)) := blk_put (blk_far Q2.out (by show w.heap.size + 1 ≠ w.heap.size; omega) _) 0 _ rfl
 have c1 := (blk_cell r1 0).trans (rfl : _ = some (Value.slice none 0 0))
 have c2 := (blk_cell r2 0).trans (rfl : _ = some (Value.bool false))
 have kw : KeepBut w ((w.alloc (.cells #[.slice none 0 0] 27)).alloc (.cells #[.bool false] 4)) g none := keep_alloc (keep_alloc (KeepBut.refl w g none) _) _
 refine bodyPost_ret (v := .tuple #[.slice none 0 0, .bool false]) (by simp [results, Tryd.f17, go_sem, c1, c2]) rfl ?_
 exact ⟨rfl, (HI3.out.far (by show g ≠ w.heap.size; omega) _).far (by show g ≠ w.heap.size + 1; omega) _, below_set (below_set HB3.out hw0) (by omega), keep_set (keep_set (((kw.trans HK1.out (.inl rfl)).trans HK2.out (.inl rfl)).trans HK3.out (.inl rfl)) (Nat.le_refl _)) (by omega)⟩
def eachF : Nat → ByteArray → Option (List EP)
 | 0, _ => none
 | k + 1, s => if s.size = 0 then some [] else (props_next.f k s 0).bind fun p => if p.2.2.2.2.1 = true then (if p.2.2.2.2.2.2 = 0 then (eachF k p.2.2.2.2.2.1).bind fun L => some ((⟨p.1, p.2.1, p.2.2.1, p.2.2.2.1⟩, true) :: L) else none) else some [(⟨p.1, p.2.1, p.2.2.1, p.2.2.2.1⟩, false)]
theorem eachF.mono : ∀ k s, LeO (eachF k s) (eachF (k + 1) s)
 | 0, _ => LeO.none _
 | k + 1, s => by
  unfold eachF
  refine LeO.ite (LeO.refl _) (LeO.bind (props_next.mono _ _ _) fun p => LeO.ite (LeO.ite (LeO.bind (eachF.mono k _) fun _ => LeO.refl _) (LeO.refl _)) (LeO.refl _))
theorem eachF_L : ∀ k s L, eachF k s = some L → EachL s L
 | 0, _, _, h => by cases h
 | k + 1, s, L, h => by
  unfold eachF at h
  by_cases h0 : s.size = 0
  ·rw [if_pos h0] at h
   obtain rfl := Option.some.inj h
   exact .done s h0
  ·rw [if_neg h0] at h
   obtain ⟨⟨a, b, c, d, ok, s', e⟩, hn, h⟩ := Option.bind_eq_some_iff.mp h
   dsimp only at h
   by_cases h1 : ok = true
   ·subst h1
    rw [if_pos rfl] at h
    by_cases h2 : e = 0
    ·subst h2
     rw [if_pos rfl] at h
     obtain ⟨L', hl, h⟩ := Option.bind_eq_some_iff.mp h
     obtain rfl := Option.some.inj h
     exact .step s k ⟨a, b, c, d⟩ s' L' (by omega) hn (eachF_L k s' L' hl)
    ·rw [if_neg h2] at h; cases h
   ·rw [if_neg h1] at h
    obtain rfl := Option.some.inj h
    have hf : ok = false := by simpa using h1
    subst hf
    exact .stop s k ⟨a, b, c, d⟩ s' e (by omega) hn
def props_Take.f (k : Nat) (s0_0 : ByteArray) (s0_1 : Int) : Option (List S60 × Bool × ByteArray × Int) :=
 (wire_Reader_Var.f k s0_0 s0_1).bind fun p => (wire_Reader_take.f p.2.1 p.2.2 (wrap64 p.1)).bind fun q => if q.2.2.2 = 0 then (if q.1.size < 140737488355328 then ((eachF k (strOfNums (bytesOf q.1))).bind fun L => if L.length < 3518437208832 then (if L.all (·.2) = true then some (Srt.srt keyS (L.map (·.1)), true, q.2.2.1, 0) else some ([], false, q.2.2.1, 0)) else none) else none) else some ([], false, q.2.2.1, q.2.2.2)
theorem props_Take.mono : ∀ a0 a1 k, LeO (props_Take.f k a0 a1) (props_Take.f (k + 1) a0 a1) := by
 intro a0 a1 k
 unfold props_Take.f
 exact LeO.bind (wire_Reader_Var.mono _ _ _) fun p => LeO.bind (LeO.refl _) fun q => LeO.ite (LeO.ite (LeO.bind (eachF.mono _ _) fun _ => LeO.refl _) (LeO.refl _)) (LeO.refl _)
theorem props_Take.calls (k g : Nat) (s0_0 : ByteArray) (s0_1 : Int) (r1 : List S60) (r2 : Bool) (r3 : ByteArray) (r4 : Int) (w0 w : World) (hI : IsS78 w0 w g s0_0 s0_1) (hB : Below w0.heap.size w0 w) (hG : GW w0) (h : props_Take.f k s0_0 s0_1 = some (r1, r2, r3, r4)) :
  Calls Tryd.prog 17 #[.pointer (some ⟨g, 0, none⟩)] w fun e w' => ∃ v0_ : Value, e = .returned (.tuple #[v0_, .bool r2]) ∧ Kd.R k60 60 w' w.heap.size (fun _ => True) v0_ r1 ∧ IsS78 w0 w' g r3 r4 ∧ Below w0.heap.size w0 w' ∧ KeepBut w w' g none := by
 unfold props_Take.f at h
 obtain ⟨⟨n, s1, e1⟩, hv, h⟩ := Option.bind_eq_some_iff.mp h
 obtain ⟨⟨t, ok, s2, e2⟩, ht, h⟩ := Option.bind_eq_some_iff.mp h
 dsimp only at h ht
 by_cases he : e2 = 0
 ·subst he
  rw [if_pos rfl] at h
  by_cases hts : t.size < 140737488355328
  ·rw [if_pos hts] at h
   obtain ⟨L, hL, h⟩ := Option.bind_eq_some_iff.mp h
   by_cases hl : L.length < 3518437208832
   ·rw [if_pos hl] at h
    refine (take_walk k g s0_0 s1 t s2 n s0_1 e1 ok L w0 w hG hI hB hv ht (eachF_L _ _ _ hL) hl hts).mono ?_
    rintro e w' ⟨v, rfl, hi, hb, hk, h1, h2⟩
    by_cases ha : L.all (·.2) = true
    ·rw [if_pos ha] at h
     have h3 := Option.some.inj h
     simp only [Prod.mk.injEq] at h3
     obtain ⟨rfl, rfl, rfl, rfl⟩ := h3
     exact ⟨v, by rw [ha], h1 ha, hi, hb, hk⟩
    ·rw [if_neg ha] at h
     have h3 := Option.some.inj h
     simp only [Prod.mk.injEq] at h3
     obtain ⟨rfl, rfl, rfl, rfl⟩ := h3
     have ha' : L.all (·.2) = false := by simpa using ha
     exact ⟨v, by rw [ha'], by rw [h2 ha']; exact Kd.R_nil _ _ _ _ _, hi, hb, hk⟩
   ·rw [if_neg hl] at h; cases h
  ·rw [if_neg hts] at h; cases h
 ·rw [if_neg he] at h
  have h3 := Option.some.inj h
  simp only [Prod.mk.injEq] at h3
  obtain ⟨rfl, rfl, rfl, rfl⟩ := h3
  refine (take_fail k g s0_0 s1 t s2 n s0_1 e1 e2 ok w0 w hI hB hv ht he).mono ?_
  rintro e w' ⟨rfl, hi, hb, hk⟩
  exact ⟨_, rfl, Kd.R_nil _ _ _ _ _, hi, hb, hk⟩
end Go.Proofs.YtkmkgpigmldhnaaDoor.P
namespace Go.Proofs.YtkmkgpigmldhnaaDoor.P
open Go.RowKit Go.Proofs.YtkmkgpigmldhnaaDoorW.PrintWords Go.Proofs.YtkmkgpigmldhnaaDoorW.PrintLast Go.Proofs.YtkmkgpigmldhnaaDoorW.PrintMore
attribute [local go_sem] max2_int min2_int max_two min_two max_three min_three max_four min_four
def wire_Var.l0 : Nat → Int → List Int → Option (List Int)
  | 0, _, _ => none
  | k + 1, x1, x5 => if x1 ≥ 128 then (if x5.length < 140737488355328 then (wire_Var.l0 k (x1 / 128) (x5 ++ [Go.bits .or .u8 ((x1) % 256) 128])) else (none)) else (if x5.length < 140737488355328 then (some (x5 ++ [(x1) % 256])) else (none))
def wire_Var.f (k : Nat) (l0 : List Int) (a1 : Int) : Option (List Int) := (slices_Clone_byte_byte.f l0).bind fun t101 => (if a1 > 268435455 then (some t101) else (wire_Var.l0 k a1 t101))
theorem z36m0 {p : Prop} (h : p := by
 repeat' first
 | (with_reducible exact ih0 _ _)
 | (with_reducible exact LeO.refl _)
 | (with_reducible exact LeO.none _)
 | (with_reducible refine LeO.ite ?_ ?_)
 | (with_reducible refine LeO.bind ?_ (fun _ => ?_))
 | exact ih0 _ _
 | exact LeO.none _
 | refine LeO.ite ?_ ?_
 | refine LeO.bind ?_ (fun _ => ?_)) : p := h
theorem wire_Var.mono_l : ∀ k, (∀ y0 y1, LeO (wire_Var.l0 k y0 y1) (wire_Var.l0 (k + 1) y0 y1))
  | 0 => fun _ _ r h => by simp [wire_Var.l0] at h
  | k + 1 => by
    have ih0 := wire_Var.mono_l k
    · intro y0 y1
      unfold wire_Var.l0
      exact z36m0
theorem wire_Var.mono : ∀ a0 a1 k, LeO (wire_Var.f k a0 a1) (wire_Var.f (k + 1) a0 a1) := by
  intro a0 a1 k
  have ih0 := wire_Var.mono_l k
  unfold wire_Var.f
  exact z36m0
theorem z36z0 {p : Prop} (h : p := by repeat (first | exact HR0.out | (with_reducible refine Kd.C_alloc ?_ _) | (with_reducible refine Kd.C_drewN ?_ _) | (with_reducible refine Kd.C_drew ?_))) : p := h
theorem wire_Var.calls (k : Nat) (A0 : Option Addr) (c0 : Nat) (l0 : List Int) (a1 : Int) (r : List Int) (w : World) (hr0 : Kd.C (Kd.int .u8) w A0 l0.length l0) (hc0 : l0.length ≤ c0) (h : wire_Var.f k l0 a1 = some r) :
  Calls Tryd.prog 36 #[.slice A0 l0.length c0, .int .u32 a1] w fun e w' => ∃ v0_ : Value, e = .returned (v0_) ∧ Kd.R (Kd.int .u8) 5 w' w.heap.size (fun _ => True) v0_ r ∧ Below w.heap.size w w' := by
 have HR0 := Aside0.mk hr0
 have HC0 := Aside0.mk hc0
 clear hr0 hc0
 have HB := Aside0.mk (Below.refl w.heap.size w)
 have H : ((slices_Clone_byte_byte.f l0).bind fun t101 => (if a1 > 268435455 then (some t101) else (wire_Var.l0 k a1 t101))) = some r := h
 clear h
 replace H := Option.bind_eq_some_iff.mp H
 obtain ⟨t101, A30, H⟩ := H
 replace H : (if a1 > 268435455 then (some t101) else (wire_Var.l0 k a1 t101)) = some r := H
 have A3 := Aside0.mk A30
 clear A30
 by_cases c4 : a1 > 268435455
 ·rw [if_pos c4] at H
  have c4b0 := decide_eq_true c4
  clear c4
  obtain rfl := Option.some.inj H
  go_enter Tryd.func36, Tryd.ntmps36
  go_wp2_with (first | ((with_reducible refine gate_callee (f := 35) rfl ?_); refine goesL_ (some 7) rfl rfl Tryd.func35 (by kernel_rfl) rfl #[.slice A0 l0.length c0] rfl y2_ ?_; (with_reducible refine (slices_Clone_byte_byte.calls _ _ l0 t101 _ ?side1 ?side2 A3.out).mono ?_); (case side1 => exact z36z0); (case side2 => exact HC0.out); rintro e w5 ⟨v102, rfl, ho0, hb⟩; refine ⟨_, rfl, ?_⟩; have n0_ := Aside0.mk (Kd.R_lower ho0 (below_size y0_)); have n1_ := Aside0.mk (below_step y0_ hb); have HO103 := n0_; replace HB := n1_; clear n0_ n1_; clear hb ho0))
  go_ret
  exact ⟨_, y4_, y12_, y0_⟩
 rw [if_neg c4] at H
 have c4b0 := decide_eq_false c4
 clear c4
 have H' := Aside0.mk H
 clear H
 go_enter Tryd.func36, Tryd.ntmps36
 go_wp2_with (first | ((with_reducible refine gate_callee (f := 35) rfl ?_); refine goesL_ (some 7) rfl rfl Tryd.func35 (by kernel_rfl) rfl #[.slice A0 l0.length c0] rfl y2_ ?_; (with_reducible refine (slices_Clone_byte_byte.calls _ _ l0 t101 _ ?side1 ?side2 A3.out).mono ?_); (case side1 => exact z36z0); (case side2 => exact HC0.out); rintro e w6 ⟨v102, rfl, ho0, hb⟩; refine ⟨_, rfl, ?_⟩; have n0_ := Aside0.mk (Kd.R_lower ho0 (below_size y0_)); have n1_ := Aside0.mk (below_step y0_ hb); have HO103 := n0_; replace HB := n1_; clear n0_ n1_; clear hb ho0))
 go_loopg [1, 5] k (fun kq v1 v5 w' => ∃ (x1_1 : Int) (x5_1 : List Int), v1 = .int .u32 x1_1 ∧ Aside0 (wire_Var.l0 kq x1_1 x5_1 = some r) ∧ Aside0 (kq ≤ k) ∧ Aside0 (Kd.R (Kd.int .u8) 5 w' w.heap.size (fun _ => True) v5 x5_1) ∧ Aside0 (Below w.heap.size w w'))
 case atStart => exact ⟨(a1), (t101), y7_, H', ⟨Nat.le_refl _⟩, ⟨y12_⟩, ⟨y0_⟩⟩
 case round =>
  clear H'
  try clear p2
  try clear c3
  try clear c4
  try clear c4b0
  obtain ⟨x1_1, x5_1, rfl, HA, HK1, HO_5, HB⟩ := hrel
  cases gk with
  | zero => exact absurd HA.out (by simp [wire_Var.l0])
  | succ k1 =>
   have H := HA.out
   clear HA
   simp only [wire_Var.l0] at H
   by_cases c7 : x1_1 ≥ 128
   ·rw [if_pos c7] at H
    have c7b0 := decide_eq_true c7
    clear c7
    by_cases c8 : x5_1.length < 140737488355328
    ·rw [if_pos c8] at H
     have LMc8 := Aside0.mk c8
     clear c8
     obtain ⟨y104, hy104⟩ : ∃ y_ : List Int, y_ = (x5_1 ++ [Go.bits .or .u8 ((x1_1) % 256) 128]) := ⟨_, rfl⟩
     replace H : (wire_Var.l0 k1 (x1_1 / 128) y104) = some r := by first | (rw [hy104]; with_reducible exact H) | (have H2_ := (Option.bind_some _ _).symm.trans H; rw [hy104]; with_reducible exact H2_) | (have H2_ := (Option.bind_some _ _).symm.trans H; with_reducible exact H2_) | with_reducible exact H | (rw [hy104]; exact H) | exact H
     have Ny104 := Aside0.mk hy104
     clear hy104
     have H' := Aside0.mk H
     clear H
     go_wp2_with (first | ((with_reducible refine gate_builtin (b := .append) (xs := #[.tmp 15, .tmp 19]) rfl ?_); at_builtin; refine Kd.R_append (Kd.int .u8) (w0 := w) w.heap.size rfl (.tmp 15) (.tmp 19) 25 5 (.int .u8 0) 1 rfl Tryd.underlying25 info5 rfl (by decide) (by omega) u5 x5_1 (Go.bits .or .u8 ((x1_1) % 256) 128) [.int .u8 (Go.bits .or .u8 ((x1_1) % 256) 128)] (fun _ => True) (fun _ => False) rfl rfl ?aP (fun _ hk => hk.elim) ?aF ?aO ?aB ?aS ?aL ?_; (case aP => exact rfl); (case aB => exact y0_); (case aF => exact (fun _ _ => trivial)); (case aO => exact y13_); (case aS => exact (below_size y0_)); (case aL => have := LMc8.out; omega); intro v105 w9 ho hb hg hat; rw [← Ny104.out] at ho; have n0_ := Aside0.mk (hb); have n1_ := Aside0.mk (ho); replace HB := n0_; have HO106 := n1_; clear HO_5; clear n0_ n1_; clear ho hb hg hat))
     go_roundg k1
     case measure => have := HK1.out; omega
     case rel => exact ⟨(x1_1 / 128), (y104), y7_, H', ⟨y25_⟩, ⟨y15_⟩, ⟨y0_⟩⟩
    ·rw [if_neg c8] at H
     exact absurd H (by simp)
   ·rw [if_neg c7] at H
    have c7b0 := decide_eq_false c7
    clear c7
    by_cases c10 : x5_1.length < 140737488355328
    ·rw [if_pos c10] at H
     have LMc10 := Aside0.mk c10
     clear c10
     obtain ⟨y107, hy107⟩ : ∃ y_ : List Int, y_ = (x5_1 ++ [(x1_1) % 256]) := ⟨_, rfl⟩
     replace H : (some y107) = some r := by first | (rw [hy107]; with_reducible exact H) | (have H2_ := (Option.bind_some _ _).symm.trans H; rw [hy107]; with_reducible exact H2_) | (have H2_ := (Option.bind_some _ _).symm.trans H; with_reducible exact H2_) | with_reducible exact H | (rw [hy107]; exact H) | exact H
     have Ny107 := Aside0.mk hy107
     clear hy107
     obtain rfl := Option.some.inj H
     go_wp2_with (first | ((with_reducible refine gate_builtin (b := .append) (xs := #[.tmp 21, .tmp 24]) rfl ?_); at_builtin; refine Kd.R_append (Kd.int .u8) (w0 := w) w.heap.size rfl (.tmp 21) (.tmp 24) 25 5 (.int .u8 0) 1 rfl Tryd.underlying25 info5 rfl (by decide) (by omega) u5 x5_1 ((x1_1) % 256) [.int .u8 ((x1_1) % 256)] (fun _ => True) (fun _ => False) rfl rfl ?aP (fun _ hk => hk.elim) ?aF ?aO ?aB ?aS ?aL ?_; (case aP => exact rfl); (case aB => exact y0_); (case aF => exact (fun _ _ => trivial)); (case aO => exact y13_); (case aS => exact (below_size y0_)); (case aL => have := LMc10.out; omega); intro v108 w11 ho hb hg hat; rw [← Ny107.out] at ho; have n0_ := Aside0.mk (hb); have n1_ := Aside0.mk (ho); replace HB := n0_; have HO109 := n1_; clear HO_5; clear n0_ n1_; clear ho hb hg hat))
     go_ret
     exact ⟨_, y4_, y18_, y0_⟩
    ·rw [if_neg c10] at H
     exact absurd H (by simp)
def wire_Byte.f (l0 : List Int) (a1 : Int) : Option (List Int) := (slices_Clone_byte_byte.f l0).bind fun t101 => (if t101.length < 140737488355328 then (some (t101 ++ [a1])) else (none))
theorem wire_Byte.calls (A0 : Option Addr) (c0 : Nat) (l0 : List Int) (a1 : Int) (r : List Int) (w : World) (hr0 : Kd.C (Kd.int .u8) w A0 l0.length l0) (hc0 : l0.length ≤ c0) (h : wire_Byte.f l0 a1 = some r) :
    Calls Tryd.prog 89 #[.slice A0 l0.length c0, .int .u8 a1] w fun e w' => ∃ v0_ : Value, e = .returned (v0_) ∧ Kd.R (Kd.int .u8) 5 w' w.heap.size (fun _ => True) v0_ r ∧ Below w.heap.size w w' := by
  have HR0 := Aside0.mk hr0
  have HC0 := Aside0.mk hc0
  clear hr0 hc0
  have HB := Aside0.mk (Below.refl w.heap.size w)
  have H : ((slices_Clone_byte_byte.f l0).bind fun t101 => (if t101.length < 140737488355328 then (some (t101 ++ [a1])) else (none))) = some r := h
  clear h
  replace H := Option.bind_eq_some_iff.mp H
  obtain ⟨t101, A30, H⟩ := H
  replace H : (if t101.length < 140737488355328 then (some (t101 ++ [a1])) else (none)) = some r := H
  have A3 := Aside0.mk A30
  clear A30
  by_cases c4 : t101.length < 140737488355328
  · rw [if_pos c4] at H
    have LMc4 := Aside0.mk c4
    clear c4
    obtain ⟨y104, hy104⟩ : ∃ y_ : List Int, y_ = (t101 ++ [a1]) := ⟨_, rfl⟩
    replace H : (some y104) = some r := by first | (rw [hy104]; with_reducible exact H) | (have H2_ := (Option.bind_some _ _).symm.trans H; rw [hy104]; with_reducible exact H2_) | (have H2_ := (Option.bind_some _ _).symm.trans H; with_reducible exact H2_) | with_reducible exact H | (rw [hy104]; exact H) | exact H
    have Ny104 := Aside0.mk hy104
    clear hy104
    obtain rfl := Option.some.inj H
    go_enter Tryd.func89, Tryd.ntmps89
    go_wp2_with (first | ((with_reducible refine gate_callee (f := 35) rfl ?_); refine goesL_ (some 6) rfl rfl Tryd.func35 (by kernel_rfl) rfl #[.slice A0 l0.length c0] rfl y2_ ?_; (with_reducible refine (slices_Clone_byte_byte.calls _ _ l0 t101 _ ?side1 ?side2 A3.out).mono ?_); (case side1 => repeat (first | exact HR0.out | (with_reducible refine Kd.C_alloc ?_ _) | (with_reducible refine Kd.C_drewN ?_ _) | (with_reducible refine Kd.C_drew ?_))); (case side2 => exact HC0.out); rintro e w5 ⟨v102, rfl, ho0, hb⟩; refine ⟨_, rfl, ?_⟩; have n0_ := Aside0.mk (Kd.R_lower ho0 (below_size y0_)); have n1_ := Aside0.mk (below_step y0_ hb); clear HB; have HO103 := n0_; have HB := n1_; clear n0_ n1_; (try clear hb); (try clear hb2); (try clear hk); (try clear hi); (try clear ho0)) | ((with_reducible refine gate_builtin (b := .append) (xs := #[.tmp 6, .tmp 8]) rfl ?_); at_builtin; refine Kd.R_append (Kd.int .u8) (w0 := w) w.heap.size rfl (.tmp 6) (.tmp 8) 25 5 (.int .u8 0) 1 rfl Tryd.underlying25 info5 rfl (by decide) (by omega) v102 t101 a1 [.int .u8 a1] (fun _ => True) (fun _ => False) rfl rfl ?aP (fun _ hk => hk.elim) ?aF ?aO ?aB ?aS ?aL ?_; (case aP => exact rfl); (case aB => exact y0_); (case aF => exact (fun _ _ => trivial)); (case aO => exact y12_); (case aS => exact (below_size y0_)); (case aL => have := LMc4.out; omega); intro v105 w6 ho hb hg hat; rw [← Ny104.out] at ho; have n0_ := Aside0.mk (hb); have n1_ := Aside0.mk (ho); clear HB; clear HO103; have HB := n0_; have HO106 := n1_; clear n0_ n1_; clear ho hb hg hat))
    go_ret
    exact ⟨_, y4_, y15_, y0_⟩
  · rw [if_neg c4] at H
    exact absurd H (by simp)
def wire_Two.f (l0 : List Int) (a1 : Int) : Option (List Int) := (slices_Clone_byte_byte.f l0).bind fun t101 => ((some (([(a1 / 256) % 256, (a1) % 256] : List Int) : List Int)).bind fun y104 => (if t101.length + y104.length < 140737488355328 then (some (t101 ++ y104)) else (none)))
theorem wire_Two.calls (A0 : Option Addr) (c0 : Nat) (l0 : List Int) (a1 : Int) (r : List Int) (w : World) (hr0 : Kd.C (Kd.int .u8) w A0 l0.length l0) (hc0 : l0.length ≤ c0) (h : wire_Two.f l0 a1 = some r) :
    Calls Tryd.prog 90 #[.slice A0 l0.length c0, .int .u16 a1] w fun e w' => ∃ v0_ : Value, e = .returned (v0_) ∧ Kd.R (Kd.int .u8) 5 w' w.heap.size (fun _ => True) v0_ r ∧ Below w.heap.size w w' := by
  have HR0 := Aside0.mk hr0
  have HC0 := Aside0.mk hc0
  clear hr0 hc0
  have HB := Aside0.mk (Below.refl w.heap.size w)
  have H : ((slices_Clone_byte_byte.f l0).bind fun t101 => ((some (([(a1 / 256) % 256, (a1) % 256] : List Int) : List Int)).bind fun y104 => (if t101.length + y104.length < 140737488355328 then (some (t101 ++ y104)) else (none)))) = some r := h
  clear h
  replace H := Option.bind_eq_some_iff.mp H
  obtain ⟨t101, A30, H⟩ := H
  replace H : ((some (([(a1 / 256) % 256, (a1) % 256] : List Int) : List Int)).bind fun y104 => (if t101.length + y104.length < 140737488355328 then (some (t101 ++ y104)) else (none))) = some r := H
  have A3 := Aside0.mk A30
  clear A30
  obtain ⟨y104, hy104⟩ : ∃ y_ : List Int, y_ = (([(a1 / 256) % 256, (a1) % 256] : List Int)) := ⟨_, rfl⟩
  replace H : (if t101.length + y104.length < 140737488355328 then (some (t101 ++ y104)) else (none)) = some r := by first | (rw [hy104]; with_reducible exact H) | (have H2_ := (Option.bind_some _ _).symm.trans H; rw [hy104]; with_reducible exact H2_) | (have H2_ := (Option.bind_some _ _).symm.trans H; with_reducible exact H2_) | with_reducible exact H | (rw [hy104]; exact H) | exact H
  have Ny104 := Aside0.mk hy104
  clear hy104
  by_cases c4 : t101.length + y104.length < 140737488355328
  · rw [if_pos c4] at H
    have LMc4 := Aside0.mk c4
    clear c4
    obtain ⟨y107, hy107⟩ : ∃ y_ : List Int, y_ = (t101 ++ y104) := ⟨_, rfl⟩
    replace H : (some y107) = some r := by first | (rw [hy107]; with_reducible exact H) | (have H2_ := (Option.bind_some _ _).symm.trans H; rw [hy107]; with_reducible exact H2_) | (have H2_ := (Option.bind_some _ _).symm.trans H; with_reducible exact H2_) | with_reducible exact H | (rw [hy107]; exact H) | exact H
    have Ny107 := Aside0.mk hy107
    clear hy107
    obtain rfl := Option.some.inj H
    go_enter Tryd.func90, Tryd.ntmps90
    go_wp2_with (first | ((with_reducible refine gate_callee (f := 35) rfl ?_); refine goesL_ (some 6) rfl rfl Tryd.func35 (by kernel_rfl) rfl #[.slice A0 l0.length c0] rfl y2_ ?_; (with_reducible refine (slices_Clone_byte_byte.calls _ _ l0 t101 _ ?side1 ?side2 A3.out).mono ?_); (case side1 => repeat (first | exact HR0.out | (with_reducible refine Kd.C_alloc ?_ _) | (with_reducible refine Kd.C_drewN ?_ _) | (with_reducible refine Kd.C_drew ?_))); (case side2 => exact HC0.out); rintro e w5 ⟨v102, rfl, ho0, hb⟩; refine ⟨_, rfl, ?_⟩; have n0_ := Aside0.mk (Kd.R_lower ho0 (below_size y0_)); have n1_ := Aside0.mk (below_step y0_ hb); clear HB; have HO103 := n0_; have HB := n1_; clear n0_ n1_; (try clear hb); (try clear hb2); (try clear hk); (try clear hi); (try clear ho0)) | ((with_reducible refine gate_dst (N := 12) rfl ?_); refine Kd.R_lit (Kd.int .u8) _ 5 ?hg (N := 12) ?hd (xs := ([(a1 / 256) % 256, (a1) % 256] : List Int)) (inner := [.int .u8 ((a1 / 256) % 256), .int .u8 ((a1) % 256)]) (ok := fun _ => True) (okp := fun _ => True) ?hr ?hp (fun _ hk => hk) trivial (Below.refl _ _) (Nat.le_refl _) (by simp) ?_; (case hd => rfl); (case hg => rfl); (case hr => first | (go_simp; done) | (go_simp; rfl)); (case hp => exact (Reps.one (show Kd.M (Kd.int .u8) _ _ _ ((a1 / 256) % 256) [.int .u8 ((a1 / 256) % 256)] from rfl) (Reps.one (show Kd.M (Kd.int .u8) _ _ _ ((a1) % 256) [.int .u8 ((a1) % 256)] from rfl) (Reps.none _ _)))); intro v105 w6 ho7 hb hg_ hnew_; clear hg_ hnew_; (first | rw [← Ny104.out] at ho7 | (simp only [Int.reduceToNat] at ho7; rw [← Ny104.out] at ho7)); have n0_ := Aside0.mk (Kd.R_elder' y12_ (Kd.R_base ho7) hb); have n1_ := Aside0.mk (Kd.R_lower (Kd.R_new' ho7 (Kd.R_lt y12_)) (below_size y0_)); have n2_ := Aside0.mk (below_step y0_ hb); clear HO103; clear HB; have HO103 := n0_; have HO106 := n1_; have HB := n2_; clear n0_ n1_ n2_; clear hb ho7; obtain ⟨Ao9, co9, eo9⟩ := Kd.R_slice HO106.out; subst eo9) | ((with_reducible refine gate_builtin (b := .append) (xs := #[.tmp 6, .tmp 12]) rfl ?_); at_builtin; refine Kd.R_append_rows (Kd.int .u8) (w0 := w) w.heap.size rfl (.tmp 6) (.tmp 12) 25 5 (.int .u8 0) 1 rfl Tryd.underlying25 info5 rfl (by decide) (by omega) v102 t101 y104 _ _ _ (fun k_ => some k_ ≠ (.slice Ao9 y104.length co9 : Value).ownBlock) (fun _ => False) rfl rfl ?aO ?aR (fun _ _ h => h) (fun _ h => h.elim) ?aF ?aB ?aS ?aL ?_; (case aR => repeat (first | exact (Kd.R_reads' HO106.out).2.2 | (with_reducible refine Kd.C_alloc ?_ _) | (with_reducible refine Kd.C_drewN ?_ _) | (with_reducible refine Kd.C_drew ?_))); (case aB => exact y0_); (case aF => exact (fun k_ hk => Kd.fresh' (Kd.R_lt y15_) k_ hk)); (case aO => exact (by (with_reducible repeat (first | apply Kd.R_alloc | apply Kd.R_drewN | apply Kd.R_drew)); exact Kd.R_mono HO103.out (fun _ hk => hk.2))); (case aS => exact (below_size y0_)); (case aL => have := LMc4.out; omega); intro v108 w8 ho hb hg hat; rw [← Ny107.out] at ho; have n0_ := Aside0.mk (Kd.R_after (ok := (fun _ => True)) y15_ hg hat); have n1_ := Aside0.mk (hb); have n2_ := Aside0.mk (ho); clear HO106; clear HB; clear HO103; have HO106 := n0_; have HB := n1_; have HO109 := n2_; clear n0_ n1_ n2_; clear ho hb hg hat))
    go_ret
    exact ⟨_, y4_, by (with_reducible repeat (first | apply Kd.R_alloc | apply Kd.R_drewN | apply Kd.R_drew)); exact Kd.R_mono HO109.out (fun _ hk => trivial), y0_⟩
  · rw [if_neg c4] at H
    exact absurd H (by simp)
def wire_Four.f (l0 : List Int) (a1 : Int) : Option (List Int) := (wire_Two.f l0 (IntKind.u16.wrap (a1 / 65536))).bind fun t101 => ((wire_Two.f t101 (IntKind.u16.wrap (a1))).bind fun t104 => (some t104))
theorem wire_Four.calls (A0 : Option Addr) (c0 : Nat) (l0 : List Int) (a1 : Int) (r : List Int) (w : World) (hr0 : Kd.C (Kd.int .u8) w A0 l0.length l0) (hc0 : l0.length ≤ c0) (h : wire_Four.f l0 a1 = some r) :
    Calls Tryd.prog 91 #[.slice A0 l0.length c0, .int .u32 a1] w fun e w' => ∃ v0_ : Value, e = .returned (v0_) ∧ Kd.R (Kd.int .u8) 5 w' w.heap.size (fun _ => True) v0_ r ∧ Below w.heap.size w w' := by
  have HR0 := Aside0.mk hr0
  have HC0 := Aside0.mk hc0
  clear hr0 hc0
  have HB := Aside0.mk (Below.refl w.heap.size w)
  have H : ((wire_Two.f l0 (IntKind.u16.wrap (a1 / 65536))).bind fun t101 => ((wire_Two.f t101 (IntKind.u16.wrap (a1))).bind fun t104 => (some t104))) = some r := h
  clear h
  replace H := Option.bind_eq_some_iff.mp H
  obtain ⟨t101, A30, H⟩ := H
  replace H : ((wire_Two.f t101 (IntKind.u16.wrap (a1))).bind fun t104 => (some t104)) = some r := H
  have A3 := Aside0.mk A30
  clear A30
  replace H := Option.bind_eq_some_iff.mp H
  obtain ⟨t104, A40, H⟩ := H
  replace H : (some t104) = some r := H
  have A4 := Aside0.mk A40
  clear A40
  obtain rfl := Option.some.inj H
  go_enter Tryd.func91, Tryd.ntmps91
  go_wp2_with (first | ((with_reducible refine gate_callee (f := 90) rfl ?_); refine goesL_ (some 9) rfl rfl Tryd.func90 (by kernel_rfl) rfl #[.slice A0 l0.length c0, .int .u16 (IntKind.u16.wrap (a1 / 65536))] rfl y2_ ?_; (with_reducible refine (wire_Two.calls _ _ l0 (IntKind.u16.wrap (a1 / 65536)) t101 _ ?side1 ?side2 A3.out).mono ?_); (case side1 => repeat (first | exact HR0.out | (with_reducible refine Kd.C_alloc ?_ _) | (with_reducible refine Kd.C_drewN ?_ _) | (with_reducible refine Kd.C_drew ?_))); (case side2 => exact HC0.out); rintro e w5 ⟨v102, rfl, ho0, hb⟩; refine ⟨_, rfl, ?_⟩; have n0_ := Aside0.mk (Kd.R_lower ho0 (below_size y0_)); have n1_ := Aside0.mk (below_step y0_ hb); clear HB; have HO103 := n0_; have HB := n1_; clear n0_ n1_; (try clear hb); (try clear hb2); (try clear hk); (try clear hi); (try clear ho0); obtain ⟨Ao6, co6, eo6⟩ := Kd.R_slice HO103.out; subst eo6) | ((with_reducible refine gate_callee (f := 90) rfl ?_); refine goesL_ (some 12) rfl rfl Tryd.func90 (by kernel_rfl) rfl #[.slice Ao6 t101.length co6, .int .u16 (IntKind.u16.wrap (a1))] rfl y2_ ?_; (with_reducible refine (wire_Two.calls _ _ t101 (IntKind.u16.wrap (a1)) t104 _ ?side1 ?side2 A4.out).mono ?_); (case side1 => repeat (first | exact (Kd.R_reads' HO103.out).2.2 | (with_reducible refine Kd.C_alloc ?_ _) | (with_reducible refine Kd.C_drewN ?_ _) | (with_reducible refine Kd.C_drew ?_))); (case side2 => exact (Kd.R_reads' HO103.out).2.1); rintro e w7 ⟨v105, rfl, ho0, hb⟩; refine ⟨_, rfl, ?_⟩; have n0_ := Aside0.mk (Kd.R_elder' y12_ (Kd.R_base ho0) hb); have n1_ := Aside0.mk (Kd.R_lower (Kd.R_new' ho0 (Kd.R_lt y12_)) (below_size y0_)); have n2_ := Aside0.mk (below_step y0_ hb); clear HO103; clear HB; have HO103 := n0_; have HO106 := n1_; have HB := n2_; clear n0_ n1_ n2_; (try clear hb); (try clear hb2); (try clear hk); (try clear hi); (try clear ho0)))
  go_ret
  exact ⟨_, y4_, by (with_reducible repeat (first | apply Kd.R_alloc | apply Kd.R_drewN | apply Kd.R_drew)); exact Kd.R_mono HO106.out (fun _ hk => trivial), y0_⟩
def wire_Bin.f (l0 : List Int) (a1 : ByteArray) : Option (List Int) := if (a1.size : Int) > 65535 then ((slices_Clone_byte_byte.f l0).bind fun t101 => (some t101)) else ((wire_Two.f l0 (IntKind.u16.wrap ((a1.size : Int)))).bind fun t104 => (if t104.length + a1.size < 140737488355328 then (some (t104 ++ bytesOf a1)) else (none)))
theorem z92z0 {p : Prop} (h : p := by repeat (first | exact HR0.out | (with_reducible refine Kd.C_alloc ?_ _) | (with_reducible refine Kd.C_drewN ?_ _) | (with_reducible refine Kd.C_drew ?_))) : p := h
theorem wire_Bin.calls (A0 : Option Addr) (c0 : Nat) (l0 : List Int) (a1 : ByteArray) (r : List Int) (w : World) (hr0 : Kd.C (Kd.int .u8) w A0 l0.length l0) (hc0 : l0.length ≤ c0) (h : wire_Bin.f l0 a1 = some r) :
  Calls Tryd.prog 92 #[.slice A0 l0.length c0, .string a1] w fun e w' => ∃ v0_ : Value, e = .returned (v0_) ∧ Kd.R (Kd.int .u8) 5 w' w.heap.size (fun _ => True) v0_ r ∧ Below w.heap.size w w' := by
 have HR0 := Aside0.mk hr0
 have HC0 := Aside0.mk hc0
 clear hr0 hc0
 have HB := Aside0.mk (Below.refl w.heap.size w)
 have H : (if (a1.size : Int) > 65535 then ((slices_Clone_byte_byte.f l0).bind fun t101 => (some t101)) else ((wire_Two.f l0 (IntKind.u16.wrap ((a1.size : Int)))).bind fun t104 => (if t104.length + a1.size < 140737488355328 then (some (t104 ++ bytesOf a1)) else (none)))) = some r := h
 clear h
 by_cases c3 : (a1.size : Int) > 65535
 ·rw [if_pos c3] at H
  have c3b0 := decide_eq_true c3
  have c3b1 : decide (65535 < a1.size) = true := decide_eq_true (by omega)
  clear c3
  replace H := Option.bind_eq_some_iff.mp H
  obtain ⟨t101, A40, H⟩ := H
  replace H : (some t101) = some r := H
  have A4 := Aside0.mk A40
  clear A40
  obtain rfl := Option.some.inj H
  go_enter Tryd.func92, Tryd.ntmps92
  go_wp2_with (first | ((with_reducible refine gate_callee (f := 35) rfl ?_); refine goesL_ (some 9) rfl rfl Tryd.func35 (by kernel_rfl) rfl #[.slice A0 l0.length c0] rfl y2_ ?_; (with_reducible refine (slices_Clone_byte_byte.calls _ _ l0 t101 _ ?side1 ?side2 A4.out).mono ?_); (case side1 => exact z92z0); (case side2 => exact HC0.out); rintro e w5 ⟨v102, rfl, ho0, hb⟩; refine ⟨_, rfl, ?_⟩; have n0_ := Aside0.mk (Kd.R_lower ho0 (below_size y0_)); have n1_ := Aside0.mk (below_step y0_ hb); have HO103 := n0_; replace HB := n1_; clear n0_ n1_; clear hb ho0))
  go_ret
  exact ⟨_, y4_, y12_, y0_⟩
 rw [if_neg c3] at H
 have c3b0 := decide_eq_false c3
 have c3b1 : decide (65535 < a1.size) = false := decide_eq_false (by omega)
 clear c3
 replace H := Option.bind_eq_some_iff.mp H
 obtain ⟨t104, A60, H⟩ := H
 replace H : (if t104.length + a1.size < 140737488355328 then (some (t104 ++ bytesOf a1)) else (none)) = some r := H
 have A6 := Aside0.mk A60
 clear A60
 by_cases c7 : t104.length + a1.size < 140737488355328
 rotate_left
 ·rw [if_neg c7] at H
  exact absurd H (by simp)
 rw [if_pos c7] at H
 have LMc7 := Aside0.mk c7
 clear c7
 obtain ⟨y107, hy107⟩ : ∃ y_ : List Int, y_ = (t104 ++ bytesOf a1) := ⟨_, rfl⟩
 replace H : (some y107) = some r := by first | (rw [hy107]; with_reducible exact H) | (have H2_ := (Option.bind_some _ _).symm.trans H; rw [hy107]; with_reducible exact H2_) | (have H2_ := (Option.bind_some _ _).symm.trans H; with_reducible exact H2_) | with_reducible exact H | (rw [hy107]; exact H) | exact H
 have Ny107 := Aside0.mk hy107
 clear hy107
 obtain rfl := Option.some.inj H
 go_enter Tryd.func92, Tryd.ntmps92
 go_wp2_with (first | ((with_reducible refine gate_callee (f := 90) rfl ?_); refine goesL_ (some 14) rfl rfl Tryd.func90 (by kernel_rfl) rfl #[.slice A0 l0.length c0, .int .u16 (IntKind.u16.wrap ((a1.size : Int)))] rfl y2_ ?_; (with_reducible refine (wire_Two.calls _ _ l0 (IntKind.u16.wrap ((a1.size : Int))) t104 _ ?side1 ?side2 A6.out).mono ?_); (case side1 => exact z92z0); (case side2 => exact HC0.out); rintro e w8 ⟨v105, rfl, ho0, hb⟩; refine ⟨_, rfl, ?_⟩; have n0_ := Aside0.mk (Kd.R_lower ho0 (below_size y0_)); have n1_ := Aside0.mk (below_step y0_ hb); have HO106 := n0_; replace HB := n1_; clear n0_ n1_; clear hb ho0) | (at_builtin; refine print_append_str (w0 := w) w.heap.size rfl (.tmp 14) _ 25 9 5 rfl Tryd.underlying25 Tryd.underlying9 info5 v105 t104 a1 rfl rfl ?aO ?aB ?aS ?aL ?_; (case aB => exact y0_); (case aO => exact (Kd.own_of_R y15_)); (case aS => exact (below_size y0_)); (case aL => have := LMc7.out; omega); intro v108 w9 ho0 hb hg; have ho := Kd.R_of_own (h1 := fun _ => rfl) (ok := fun _ => True) ho0 (fun _ _ => trivial); clear ho0; have hat := True.intro; rw [← Ny107.out] at ho; change Kd.R (Kd.int .u8) 5 w9 w.heap.size (fun _ => True) v108 y107 at ho; have n0_ := Aside0.mk (hb); have n1_ := Aside0.mk (ho); replace HB := n0_; have HO109 := n1_; clear HO106; clear n0_ n1_; clear ho hb hg hat))
 go_ret
 exact ⟨_, y4_, y18_, y0_⟩
end Go.Proofs.YtkmkgpigmldhnaaDoor.P
