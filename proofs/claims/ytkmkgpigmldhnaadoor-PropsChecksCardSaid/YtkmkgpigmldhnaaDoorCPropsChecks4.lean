import Derived.Test.YtkmkgpigmldhnaaDoorCPropsChecks0
import Derived.Test.YtkmkgpigmldhnaaDoorCPropsChecks1
import Derived.Test.YtkmkgpigmldhnaaDoorCPropsChecks2
import Derived.Test.YtkmkgpigmldhnaaDoorCPropsChecks3
set_option linter.unusedVariables false
set_option linter.unusedSimpArgs false
set_option maxHeartbeats 8000000
set_option maxRecDepth 100000
namespace Go.Proofs.YtkmkgpigmldhnaaDoor.P
open Go.RowKit Go.Proofs.YtkmkgpigmldhnaaDoorW.PrintWords Go.Proofs.YtkmkgpigmldhnaaDoorW.PrintLast Go.Proofs.YtkmkgpigmldhnaaDoorW.PrintMore
attribute [local go_sem] max2_int min2_int max_two min_two max_three min_three max_four min_four
mutual
def pouchref05_kinds.j0 : Nat → Int → Bool → Option (List Int)
  | 0, _, _ => none
  | k + 1, x3, x4 => if x4 = true then (some (([3, 16] : List Int))) else (if x3 = 11 then (some (([3, 8] : List Int))) else (if x3 = 17 then (some (([1, 2, 14] : List Int))) else (if x3 = 18 then (pouchref05_kinds.j1 k x3 (x3 == 18)) else (if x3 = 19 then (pouchref05_kinds.j1 k x3 (x3 == 19)) else (if x3 = 26 then (pouchref05_kinds.j1 k x3 (x3 == 26)) else (if x3 = 36 then (pouchref05_kinds.j1 k x3 (x3 == 36)) else (if x3 = 37 then (pouchref05_kinds.j1 k x3 (x3 == 37)) else (if x3 = 40 then (pouchref05_kinds.j1 k x3 (x3 == 40)) else (if x3 = 41 then (pouchref05_kinds.j1 k x3 (x3 == 41)) else (pouchref05_kinds.j1 k x3 (x3 == 42)))))))))))
def pouchref05_kinds.j1 : Nat → Int → Bool → Option (List Int)
  | 0, _, _ => none
  | k + 1, x3, x17 => if x17 = true then (some (([2] : List Int))) else (if x3 = 21 then (pouchref05_kinds.j2 k x3 (x3 == 21)) else (pouchref05_kinds.j2 k x3 (x3 == 22)))
def pouchref05_kinds.j2 : Nat → Int → Bool → Option (List Int)
  | 0, _, _ => none
  | k + 1, x3, x27 => if x27 = true then (some (([1, 2, 15] : List Int))) else (if x3 = 23 then (pouchref05_kinds.j3 k x3 (x3 == 23)) else (pouchref05_kinds.j3 k x3 (x3 == 25)))
def pouchref05_kinds.j3 : Nat → Int → Bool → Option (List Int)
  | 0, _, _ => none
  | k + 1, x3, x31 => if x31 = true then (some (([1] : List Int))) else (if x3 = 24 then (some (([16] : List Int))) else (if x3 = 28 then (some (([2, 14] : List Int))) else (if x3 = 31 then (some (([2, 4, 5, 6, 7, 9, 11, 14, 15] : List Int))) else (if x3 = 33 then (pouchref05_kinds.j4 k x3 (x3 == 33)) else (if x3 = 34 then (pouchref05_kinds.j4 k x3 (x3 == 34)) else (pouchref05_kinds.j4 k x3 (x3 == 39)))))))
def pouchref05_kinds.j4 : Nat → Int → Bool → Option (List Int)
  | 0, _, _ => none
  | k + 1, x3, x44 => if x44 = true then (some (([1, 2] : List Int))) else (if x3 = 35 then (some (([3] : List Int))) else (if x3 = 38 then (some (([1, 2, 3, 4, 5, 6, 7, 8, 9, 10, 11, 14, 15, 16] : List Int))) else (some ([] : List Int))))
end
def pouchref05_kinds.f (k : Nat) (a0 : Int) : Option (List Int) := if a0 = 1 then (pouchref05_kinds.j0 k a0 (a0 == 1)) else (if a0 = 2 then (pouchref05_kinds.j0 k a0 (a0 == 2)) else (if a0 = 3 then (pouchref05_kinds.j0 k a0 (a0 == 3)) else (if a0 = 8 then (pouchref05_kinds.j0 k a0 (a0 == 8)) else (pouchref05_kinds.j0 k a0 (a0 == 9)))))
theorem z87m0 {p : Prop} (h : p := by
 repeat' first
 | (with_reducible exact ih0 _ _)
 | (with_reducible exact ih1 _ _)
 | (with_reducible exact ih2 _ _)
 | (with_reducible exact ih3 _ _)
 | (with_reducible exact ih4 _ _)
 | (with_reducible exact LeO.refl _)
 | (with_reducible exact LeO.none _)
 | (with_reducible refine LeO.ite ?_ ?_)
 | (with_reducible refine LeO.bind ?_ (fun _ => ?_))
 | exact ih0 _ _
 | exact ih1 _ _
 | exact ih2 _ _
 | exact ih3 _ _
 | exact ih4 _ _
 | exact LeO.none _
 | refine LeO.ite ?_ ?_
 | refine LeO.bind ?_ (fun _ => ?_)) : p := h
theorem pouchref05_kinds.mono_l : ∀ k, (∀ y0 y1, LeO (pouchref05_kinds.j0 k y0 y1) (pouchref05_kinds.j0 (k + 1) y0 y1)) ∧ (∀ y0 y1, LeO (pouchref05_kinds.j1 k y0 y1) (pouchref05_kinds.j1 (k + 1) y0 y1)) ∧ (∀ y0 y1, LeO (pouchref05_kinds.j2 k y0 y1) (pouchref05_kinds.j2 (k + 1) y0 y1)) ∧ (∀ y0 y1, LeO (pouchref05_kinds.j3 k y0 y1) (pouchref05_kinds.j3 (k + 1) y0 y1)) ∧ (∀ y0 y1, LeO (pouchref05_kinds.j4 k y0 y1) (pouchref05_kinds.j4 (k + 1) y0 y1))
  | 0 => ⟨fun _ _ r h => by simp [pouchref05_kinds.j0] at h, fun _ _ r h => by simp [pouchref05_kinds.j1] at h, fun _ _ r h => by simp [pouchref05_kinds.j2] at h, fun _ _ r h => by simp [pouchref05_kinds.j3] at h, fun _ _ r h => by simp [pouchref05_kinds.j4] at h⟩
  | k + 1 => by
    obtain ⟨ih0, ih1, ih2, ih3, ih4⟩ := pouchref05_kinds.mono_l k
    refine ⟨?_, ?_, ?_, ?_, ?_⟩
    · intro y0 y1
      unfold pouchref05_kinds.j0
      exact z87m0
    · intro y0 y1
      unfold pouchref05_kinds.j1
      exact z87m0
    · intro y0 y1
      unfold pouchref05_kinds.j2
      exact z87m0
    · intro y0 y1
      unfold pouchref05_kinds.j3
      exact z87m0
    · intro y0 y1
      unfold pouchref05_kinds.j4
      exact z87m0
theorem pouchref05_kinds.mono : ∀ a0 k, LeO (pouchref05_kinds.f k a0) (pouchref05_kinds.f (k + 1) a0) := by
  intro a0 k
  obtain ⟨ih0, ih1, ih2, ih3, ih4⟩ := pouchref05_kinds.mono_l k
  unfold pouchref05_kinds.f
  exact z87m0
theorem z87z0 {p : Prop} (h : p := by first | (go_simp; done) | (go_simp; rfl)) : p := h
theorem z87z1 {p : Prop} (h : p := by have := HJ1.out; first | omega | exact Nat.le_refl _) : p := h
theorem z87z2 {p : Prop} (h : p := by have := HJ1.out; have := HJ15.out; have := HJ26.out; have := HJ31.out; first | omega | exact Nat.le_refl _) : p := h
theorem z87z3 {p : Prop} (h : p := by have := HJ1.out; have := HJ15.out; have := HJ26.out; first | omega | exact Nat.le_refl _) : p := h
theorem z87z4 {p : Prop} (h : p := by have := HJ1.out; have := HJ15.out; first | omega | exact Nat.le_refl _) : p := h
theorem pouchref05_kinds.calls (k : Nat) (a0 : Int) (r : List Int) (w : World) (h : pouchref05_kinds.f k a0 = some r) :
  Calls Tryd.prog 87 #[.int .u8 a0] w fun e w' => ∃ v0_ : Value, e = .returned (v0_) ∧ Kd.R (Kd.int .i64) 3 w' w.heap.size (fun _ => True) v0_ r ∧ Below w.heap.size w w' := by
 have HB := Aside0.mk (Below.refl w.heap.size w)
 have H : (if a0 = 1 then (pouchref05_kinds.j0 k a0 (a0 == 1)) else (if a0 = 2 then (pouchref05_kinds.j0 k a0 (a0 == 2)) else (if a0 = 3 then (pouchref05_kinds.j0 k a0 (a0 == 3)) else (if a0 = 8 then (pouchref05_kinds.j0 k a0 (a0 == 8)) else (pouchref05_kinds.j0 k a0 (a0 == 9)))))) = some r := h
 clear h
 have HC2 := Aside0.mk H
 clear H
 go_enter Tryd.func87, Tryd.ntmps87
 go_upto_if 4 with (fail)
 go_cut [4] (fun v4 wc => ∃ (kq : Nat) (x4_1 : Bool), v4 = .bool x4_1 ∧ Aside0 (pouchref05_kinds.j0 kq a0 x4_1 = some r) ∧ Aside0 (kq ≤ k) ∧ Aside0 (Below w.heap.size w wc))
 case first =>
  have H := HC2.out
  clear HC2
  by_cases c3 : a0 = 1
  ·rw [if_pos c3] at H
   obtain ⟨c3b0, c3b1⟩ := eqt_ c3
   clear c3
   (first | rw [c3b0] | (simp only [i64_w, i32_w]; rw [c3b0]) | skip)
   have H' := Aside0.mk H
   clear H
   go_wp2
   go_meet
   case rel => exact ⟨_, ((a0 == 1)), y7_, H', ⟨y19_⟩, ⟨y0_⟩⟩
  ·rw [if_neg c3] at H
   obtain ⟨c3b0, c3b1⟩ := eqf_ c3
   (first | rw [c3b0] | (simp only [i64_w, i32_w]; rw [c3b0]) | skip)
   by_cases c4 : a0 = 2
   ·rw [if_pos c4] at H
    obtain ⟨c4b0, c4b1⟩ := eqt_ c4
    clear c4
    have H' := Aside0.mk H
    clear H
    go_wp2
    go_meet
    case rel => exact ⟨_, ((a0 == 2)), y7_, H', ⟨y19_⟩, ⟨y0_⟩⟩
   ·rw [if_neg c4] at H
    obtain ⟨c4b0, c4b1⟩ := eqf_ c4
    by_cases c5 : a0 = 3
    ·rw [if_pos c5] at H
     obtain ⟨c5b0, c5b1⟩ := eqt_ c5
     clear c5
     have H' := Aside0.mk H
     clear H
     go_wp2
     go_meet
     case rel => exact ⟨_, ((a0 == 3)), y7_, H', ⟨y19_⟩, ⟨y0_⟩⟩
    ·rw [if_neg c5] at H
     obtain ⟨c5b0, c5b1⟩ := eqf_ c5
     by_cases c6 : a0 = 8
     ·rw [if_pos c6] at H
      obtain ⟨c6b0, c6b1⟩ := eqt_ c6
      clear c6
      have H' := Aside0.mk H
      clear H
      go_wp2
      go_meet
      case rel => exact ⟨_, ((a0 == 8)), y7_, H', ⟨y19_⟩, ⟨y0_⟩⟩
     ·rw [if_neg c6] at H
      obtain ⟨c6b0, c6b1⟩ := eqf_ c6
      have H' := Aside0.mk H
      clear H
      go_wp2
      go_meet
      case rel => exact ⟨_, ((a0 == 9)), y7_, H', ⟨y19_⟩, ⟨y0_⟩⟩
 case rest =>
  clear HC2
  try clear p2
  try clear c3
  try clear c3b0
  try clear c3b1
  try clear c4
  try clear c4b0
  try clear c4b1
  try clear c5
  try clear c5b0
  try clear c5b1
  try clear c6
  try clear c6b0
  try clear c6b1
  obtain ⟨kq, x4_1, rfl, HA, HJ1, HB⟩ := hcut
  cases kq with
  | zero => exact absurd HA.out (by simp [pouchref05_kinds.j0])
  | succ kj1 =>
   have H := HA.out
   clear HA
   simp only [pouchref05_kinds.j0] at H
   by_cases c7 : x4_1 = true
   ·subst c7
    have H1 : (some (([3, 16] : List Int))) = some r := by rw [if_pos rfl] at H; exact H
    clear H
    have H := H1
    clear H1
    obtain ⟨y101, hy101⟩ : ∃ y_ : List Int, y_ = (([3, 16] : List Int)) := ⟨_, rfl⟩
    replace H : (some y101) = some r := by first | (rw [hy101]; with_reducible exact H) | (have H2_ := (Option.bind_some _ _).symm.trans H; rw [hy101]; with_reducible exact H2_) | (have H2_ := (Option.bind_some _ _).symm.trans H; with_reducible exact H2_) | with_reducible exact H | (rw [hy101]; exact H) | exact H
    have Ny101 := Aside0.mk hy101
    clear hy101
    obtain rfl := Option.some.inj H
    go_wp2_with (first | ((with_reducible refine gate_dst (N := 10) rfl ?_); refine Kd.R_lit (Kd.int .i64) _ 3 ?hg (N := 10) ?hd (xs := ([3, 16] : List Int)) (inner := [.int .i64 3, .int .i64 16]) (ok := fun _ => True) (okp := fun _ => True) ?hr ?hp (fun _ hk => hk) trivial (Below.refl _ _) (Nat.le_refl _) (by simp) ?_; (case hd => rfl); (case hg => rfl); (case hr => exact z87z0); (case hp => exact (Reps.one (show Kd.M (Kd.int .i64) _ _ _ 3 [.int .i64 3] from rfl) (Reps.one (show Kd.M (Kd.int .i64) _ _ _ 16 [.int .i64 16] from rfl) (Reps.none _ _)))); intro v102 w8 ho9 hb hg_ hnew_; clear hg_ hnew_; (first | rw [← Ny101.out] at ho9 | (simp only [Int.reduceToNat] at ho9; rw [← Ny101.out] at ho9)); have n0_ := Aside0.mk (Kd.R_lower ho9 (below_size y0_)); have n1_ := Aside0.mk (below_step y0_ hb); have HO103 := n0_; replace HB := n1_; clear n0_ n1_; clear hb ho9))
    go_ret
    exact ⟨_, y4_, y12_, y0_⟩
   ·replace c7 := Bool.eq_false_iff.mpr c7
    subst c7
    replace H : (if a0 = 11 then (some (([3, 8] : List Int))) else (if a0 = 17 then (some (([1, 2, 14] : List Int))) else (if a0 = 18 then (pouchref05_kinds.j1 kj1 a0 (a0 == 18)) else (if a0 = 19 then (pouchref05_kinds.j1 kj1 a0 (a0 == 19)) else (if a0 = 26 then (pouchref05_kinds.j1 kj1 a0 (a0 == 26)) else (if a0 = 36 then (pouchref05_kinds.j1 kj1 a0 (a0 == 36)) else (if a0 = 37 then (pouchref05_kinds.j1 kj1 a0 (a0 == 37)) else (if a0 = 40 then (pouchref05_kinds.j1 kj1 a0 (a0 == 40)) else (if a0 = 41 then (pouchref05_kinds.j1 kj1 a0 (a0 == 41)) else (pouchref05_kinds.j1 kj1 a0 (a0 == 42))))))))))) = some r := by rw [if_neg (show ¬ (false = true) by decide)] at H; exact H
    by_cases c10 : a0 = 11
    ·rw [if_pos c10] at H
     obtain ⟨c10b0, c10b1⟩ := eqt_ c10
     clear c10
     obtain ⟨y104, hy104⟩ : ∃ y_ : List Int, y_ = (([3, 8] : List Int)) := ⟨_, rfl⟩
     replace H : (some y104) = some r := by first | (rw [hy104]; with_reducible exact H) | (have H2_ := (Option.bind_some _ _).symm.trans H; rw [hy104]; with_reducible exact H2_) | (have H2_ := (Option.bind_some _ _).symm.trans H; with_reducible exact H2_) | with_reducible exact H | (rw [hy104]; exact H) | exact H
     have Ny104 := Aside0.mk hy104
     clear hy104
     obtain rfl := Option.some.inj H
     go_wp2_with (first | ((with_reducible refine gate_dst (N := 13) rfl ?_); refine Kd.R_lit (Kd.int .i64) _ 3 ?hg (N := 13) ?hd (xs := ([3, 8] : List Int)) (inner := [.int .i64 3, .int .i64 8]) (ok := fun _ => True) (okp := fun _ => True) ?hr ?hp (fun _ hk => hk) trivial (Below.refl _ _) (Nat.le_refl _) (by simp) ?_; (case hd => rfl); (case hg => rfl); (case hr => exact z87z0); (case hp => exact (Reps.one (show Kd.M (Kd.int .i64) _ _ _ 3 [.int .i64 3] from rfl) (Reps.one (show Kd.M (Kd.int .i64) _ _ _ 8 [.int .i64 8] from rfl) (Reps.none _ _)))); intro v105 w11 ho12 hb hg_ hnew_; clear hg_ hnew_; (first | rw [← Ny104.out] at ho12 | (simp only [Int.reduceToNat] at ho12; rw [← Ny104.out] at ho12)); have n0_ := Aside0.mk (Kd.R_lower ho12 (below_size y0_)); have n1_ := Aside0.mk (below_step y0_ hb); have HO106 := n0_; replace HB := n1_; clear n0_ n1_; clear hb ho12))
     go_ret
     exact ⟨_, y4_, y15_, y0_⟩
    ·rw [if_neg c10] at H
     obtain ⟨c10b0, c10b1⟩ := eqf_ c10
     by_cases c13 : a0 = 17
     ·rw [if_pos c13] at H
      obtain ⟨c13b0, c13b1⟩ := eqt_ c13
      clear c13
      obtain ⟨y107, hy107⟩ : ∃ y_ : List Int, y_ = (([1, 2, 14] : List Int)) := ⟨_, rfl⟩
      replace H : (some y107) = some r := by first | (rw [hy107]; with_reducible exact H) | (have H2_ := (Option.bind_some _ _).symm.trans H; rw [hy107]; with_reducible exact H2_) | (have H2_ := (Option.bind_some _ _).symm.trans H; with_reducible exact H2_) | with_reducible exact H | (rw [hy107]; exact H) | exact H
      have Ny107 := Aside0.mk hy107
      clear hy107
      obtain rfl := Option.some.inj H
      go_wp2_with (first | ((with_reducible refine gate_dst (N := 16) rfl ?_); refine Kd.R_lit (Kd.int .i64) _ 3 ?hg (N := 16) ?hd (xs := ([1, 2, 14] : List Int)) (inner := [.int .i64 1, .int .i64 2, .int .i64 14]) (ok := fun _ => True) (okp := fun _ => True) ?hr ?hp (fun _ hk => hk) trivial (Below.refl _ _) (Nat.le_refl _) (by simp) ?_; (case hd => rfl); (case hg => rfl); (case hr => exact z87z0); (case hp => exact (Reps.one (show Kd.M (Kd.int .i64) _ _ _ 1 [.int .i64 1] from rfl) (Reps.one (show Kd.M (Kd.int .i64) _ _ _ 2 [.int .i64 2] from rfl) (Reps.one (show Kd.M (Kd.int .i64) _ _ _ 14 [.int .i64 14] from rfl) (Reps.none _ _))))); intro v108 w14 ho15 hb hg_ hnew_; clear hg_ hnew_; (first | rw [← Ny107.out] at ho15 | (simp only [Int.reduceToNat] at ho15; rw [← Ny107.out] at ho15)); have n0_ := Aside0.mk (Kd.R_lower ho15 (below_size y0_)); have n1_ := Aside0.mk (below_step y0_ hb); have HO109 := n0_; replace HB := n1_; clear n0_ n1_; clear hb ho15))
      go_ret
      exact ⟨_, y4_, y18_, y0_⟩
     ·rw [if_neg c13] at H
      obtain ⟨c13b0, c13b1⟩ := eqf_ c13
      have HC16 := Aside0.mk H
      clear H
      go_upto_if 17 with (fail)
      go_cut [17] (fun v17 wc => ∃ (kq : Nat) (x17_15 : Bool), v17 = .bool x17_15 ∧ Aside0 (pouchref05_kinds.j1 kq a0 x17_15 = some r) ∧ Aside0 (kq ≤ kj1) ∧ Aside0 (Below w.heap.size w wc))
      case first =>
       have H := HC16.out
       clear HC16
       by_cases c17 : a0 = 18
       ·rw [if_pos c17] at H
        obtain ⟨c17b0, c17b1⟩ := eqt_ c17
        clear c17
        (first | rw [c17b0] | (simp only [i64_w, i32_w]; rw [c17b0]) | skip)
        have H' := Aside0.mk H
        clear H
        go_wp2
        go_meet
        case rel => exact ⟨_, ((a0 == 18)), y7_, H', ⟨z87z1⟩, ⟨y0_⟩⟩
       ·rw [if_neg c17] at H
        obtain ⟨c17b0, c17b1⟩ := eqf_ c17
        (first | rw [c17b0] | (simp only [i64_w, i32_w]; rw [c17b0]) | skip)
        by_cases c18 : a0 = 19
        ·rw [if_pos c18] at H
         obtain ⟨c18b0, c18b1⟩ := eqt_ c18
         clear c18
         have H' := Aside0.mk H
         clear H
         go_wp2
         go_meet
         case rel => exact ⟨_, ((a0 == 19)), y7_, H', ⟨z87z1⟩, ⟨y0_⟩⟩
        ·rw [if_neg c18] at H
         obtain ⟨c18b0, c18b1⟩ := eqf_ c18
         by_cases c19 : a0 = 26
         ·rw [if_pos c19] at H
          obtain ⟨c19b0, c19b1⟩ := eqt_ c19
          clear c19
          have H' := Aside0.mk H
          clear H
          go_wp2
          go_meet
          case rel => exact ⟨_, ((a0 == 26)), y7_, H', ⟨z87z1⟩, ⟨y0_⟩⟩
         ·rw [if_neg c19] at H
          obtain ⟨c19b0, c19b1⟩ := eqf_ c19
          by_cases c20 : a0 = 36
          ·rw [if_pos c20] at H
           obtain ⟨c20b0, c20b1⟩ := eqt_ c20
           clear c20
           have H' := Aside0.mk H
           clear H
           go_wp2
           go_meet
           case rel => exact ⟨_, ((a0 == 36)), y7_, H', ⟨z87z1⟩, ⟨y0_⟩⟩
          ·rw [if_neg c20] at H
           obtain ⟨c20b0, c20b1⟩ := eqf_ c20
           by_cases c21 : a0 = 37
           ·rw [if_pos c21] at H
            obtain ⟨c21b0, c21b1⟩ := eqt_ c21
            clear c21
            have H' := Aside0.mk H
            clear H
            go_wp2
            go_meet
            case rel => exact ⟨_, ((a0 == 37)), y7_, H', ⟨z87z1⟩, ⟨y0_⟩⟩
           ·rw [if_neg c21] at H
            obtain ⟨c21b0, c21b1⟩ := eqf_ c21
            by_cases c22 : a0 = 40
            ·rw [if_pos c22] at H
             obtain ⟨c22b0, c22b1⟩ := eqt_ c22
             clear c22
             have H' := Aside0.mk H
             clear H
             go_wp2
             go_meet
             case rel => exact ⟨_, ((a0 == 40)), y7_, H', ⟨z87z1⟩, ⟨y0_⟩⟩
            ·rw [if_neg c22] at H
             obtain ⟨c22b0, c22b1⟩ := eqf_ c22
             by_cases c23 : a0 = 41
             ·rw [if_pos c23] at H
              obtain ⟨c23b0, c23b1⟩ := eqt_ c23
              clear c23
              have H' := Aside0.mk H
              clear H
              go_wp2
              go_meet
              case rel => exact ⟨_, ((a0 == 41)), y7_, H', ⟨z87z1⟩, ⟨y0_⟩⟩
             ·rw [if_neg c23] at H
              obtain ⟨c23b0, c23b1⟩ := eqf_ c23
              have H' := Aside0.mk H
              clear H
              go_wp2
              go_meet
              case rel => exact ⟨_, ((a0 == 42)), y7_, H', ⟨z87z1⟩, ⟨y0_⟩⟩
      case rest =>
       clear HC16
       try clear c1
       try clear c2
       try clear p2
       try clear c3
       try clear c3b0
       try clear c3b1
       try clear c4
       try clear c4b0
       try clear c4b1
       try clear c5
       try clear c5b0
       try clear c5b1
       try clear c6
       try clear c6b0
       try clear c6b1
       try clear c7
       try clear c8
       try clear c10
       try clear c10b0
       try clear c10b1
       try clear c13
       try clear c13b0
       try clear c13b1
       try clear c17
       try clear c17b0
       try clear c17b1
       try clear c18
       try clear c18b0
       try clear c18b1
       try clear c19
       try clear c19b0
       try clear c19b1
       try clear c20
       try clear c20b0
       try clear c20b1
       try clear c21
       try clear c21b0
       try clear c21b1
       try clear c22
       try clear c22b0
       try clear c22b1
       try clear c23
       try clear c23b0
       try clear c23b1
       try clear p2
       obtain ⟨kq, x17_15, rfl, HA, HJ15, HB⟩ := hcut
       cases kq with
       | zero => exact absurd HA.out (by simp [pouchref05_kinds.j1])
       | succ kj15 =>
        have H := HA.out
        clear HA
        simp only [pouchref05_kinds.j1] at H
        by_cases c24 : x17_15 = true
        ·subst c24
         have H1 : (some (([2] : List Int))) = some r := by rw [if_pos rfl] at H; exact H
         clear H
         have H := H1
         clear H1
         obtain ⟨y110, hy110⟩ : ∃ y_ : List Int, y_ = (([2] : List Int)) := ⟨_, rfl⟩
         replace H : (some y110) = some r := by first | (rw [hy110]; with_reducible exact H) | (have H2_ := (Option.bind_some _ _).symm.trans H; rw [hy110]; with_reducible exact H2_) | (have H2_ := (Option.bind_some _ _).symm.trans H; with_reducible exact H2_) | with_reducible exact H | (rw [hy110]; exact H) | exact H
         have Ny110 := Aside0.mk hy110
         clear hy110
         obtain rfl := Option.some.inj H
         go_wp2_with (first | ((with_reducible refine gate_dst (N := 26) rfl ?_); refine Kd.R_lit (Kd.int .i64) _ 3 ?hg (N := 26) ?hd (xs := ([2] : List Int)) (inner := [.int .i64 2]) (ok := fun _ => True) (okp := fun _ => True) ?hr ?hp (fun _ hk => hk) trivial (Below.refl _ _) (Nat.le_refl _) (by simp) ?_; (case hd => rfl); (case hg => rfl); (case hr => exact z87z0); (case hp => exact (Reps.one (show Kd.M (Kd.int .i64) _ _ _ 2 [.int .i64 2] from rfl) (Reps.none _ _))); intro v111 w25 ho26 hb hg_ hnew_; clear hg_ hnew_; (first | rw [← Ny110.out] at ho26 | (simp only [Int.reduceToNat] at ho26; rw [← Ny110.out] at ho26)); have n0_ := Aside0.mk (Kd.R_lower ho26 (below_size y0_)); have n1_ := Aside0.mk (below_step y0_ hb); have HO112 := n0_; replace HB := n1_; clear n0_ n1_; clear hb ho26))
         go_ret
         exact ⟨_, y4_, y22_, y0_⟩
        ·replace c24 := Bool.eq_false_iff.mpr c24
         subst c24
         replace H : (if a0 = 21 then (pouchref05_kinds.j2 kj15 a0 (a0 == 21)) else (pouchref05_kinds.j2 kj15 a0 (a0 == 22))) = some r := by rw [if_neg (show ¬ (false = true) by decide)] at H; exact H
         have HC27 := Aside0.mk H
         clear H
         go_upto_if 27 with (fail)
         go_cut [27] (fun v27 wc => ∃ (kq : Nat) (x27_26 : Bool), v27 = .bool x27_26 ∧ Aside0 (pouchref05_kinds.j2 kq a0 x27_26 = some r) ∧ Aside0 (kq ≤ kj15) ∧ Aside0 (Below w.heap.size w wc))
         case first =>
          have H := HC27.out
          clear HC27
          by_cases c28 : a0 = 21
          ·rw [if_pos c28] at H
           obtain ⟨c28b0, c28b1⟩ := eqt_ c28
           clear c28
           (first | rw [c28b0] | (simp only [i64_w, i32_w]; rw [c28b0]) | skip)
           have H' := Aside0.mk H
           clear H
           go_wp2
           go_meet
           case rel => exact ⟨_, ((a0 == 21)), y7_, H', ⟨z87z4⟩, ⟨y0_⟩⟩
          ·rw [if_neg c28] at H
           obtain ⟨c28b0, c28b1⟩ := eqf_ c28
           (first | rw [c28b0] | (simp only [i64_w, i32_w]; rw [c28b0]) | skip)
           have H' := Aside0.mk H
           clear H
           go_wp2
           go_meet
           case rel => exact ⟨_, ((a0 == 22)), y7_, H', ⟨z87z4⟩, ⟨y0_⟩⟩
         case rest =>
          clear HC27
          try clear c1
          try clear c2
          try clear p2
          try clear c3
          try clear c3b0
          try clear c3b1
          try clear c4
          try clear c4b0
          try clear c4b1
          try clear c5
          try clear c5b0
          try clear c5b1
          try clear c6
          try clear c6b0
          try clear c6b1
          try clear c7
          try clear c8
          try clear c10
          try clear c10b0
          try clear c10b1
          try clear c13
          try clear c13b0
          try clear c13b1
          try clear c17
          try clear c17b0
          try clear c17b1
          try clear c18
          try clear c18b0
          try clear c18b1
          try clear c19
          try clear c19b0
          try clear c19b1
          try clear c20
          try clear c20b0
          try clear c20b1
          try clear c21
          try clear c21b0
          try clear c21b1
          try clear c22
          try clear c22b0
          try clear c22b1
          try clear c23
          try clear c23b0
          try clear c23b1
          try clear c24
          try clear c28
          try clear c28b0
          try clear c28b1
          try clear p2
          obtain ⟨kq, x27_26, rfl, HA, HJ26, HB⟩ := hcut
          cases kq with
          | zero => exact absurd HA.out (by simp [pouchref05_kinds.j2])
          | succ kj26 =>
           have H := HA.out
           clear HA
           simp only [pouchref05_kinds.j2] at H
           by_cases c29 : x27_26 = true
           ·subst c29
            have H1 : (some (([1, 2, 15] : List Int))) = some r := by rw [if_pos rfl] at H; exact H
            clear H
            have H := H1
            clear H1
            obtain ⟨y113, hy113⟩ : ∃ y_ : List Int, y_ = (([1, 2, 15] : List Int)) := ⟨_, rfl⟩
            replace H : (some y113) = some r := by first | (rw [hy113]; with_reducible exact H) | (have H2_ := (Option.bind_some _ _).symm.trans H; rw [hy113]; with_reducible exact H2_) | (have H2_ := (Option.bind_some _ _).symm.trans H; with_reducible exact H2_) | with_reducible exact H | (rw [hy113]; exact H) | exact H
            have Ny113 := Aside0.mk hy113
            clear hy113
            obtain rfl := Option.some.inj H
            go_wp2_with (first | ((with_reducible refine gate_dst (N := 30) rfl ?_); refine Kd.R_lit (Kd.int .i64) _ 3 ?hg (N := 30) ?hd (xs := ([1, 2, 15] : List Int)) (inner := [.int .i64 1, .int .i64 2, .int .i64 15]) (ok := fun _ => True) (okp := fun _ => True) ?hr ?hp (fun _ hk => hk) trivial (Below.refl _ _) (Nat.le_refl _) (by simp) ?_; (case hd => rfl); (case hg => rfl); (case hr => exact z87z0); (case hp => exact (Reps.one (show Kd.M (Kd.int .i64) _ _ _ 1 [.int .i64 1] from rfl) (Reps.one (show Kd.M (Kd.int .i64) _ _ _ 2 [.int .i64 2] from rfl) (Reps.one (show Kd.M (Kd.int .i64) _ _ _ 15 [.int .i64 15] from rfl) (Reps.none _ _))))); intro v114 w30 ho31 hb hg_ hnew_; clear hg_ hnew_; (first | rw [← Ny113.out] at ho31 | (simp only [Int.reduceToNat] at ho31; rw [← Ny113.out] at ho31)); have n0_ := Aside0.mk (Kd.R_lower ho31 (below_size y0_)); have n1_ := Aside0.mk (below_step y0_ hb); have HO115 := n0_; replace HB := n1_; clear n0_ n1_; clear hb ho31))
            go_ret
            exact ⟨_, y4_, by (with_reducible repeat (first | apply Kd.R_alloc | apply Kd.R_drewN | apply Kd.R_drew)); exact HO115.out, y0_⟩
           ·replace c29 := Bool.eq_false_iff.mpr c29
            subst c29
            replace H : (if a0 = 23 then (pouchref05_kinds.j3 kj26 a0 (a0 == 23)) else (pouchref05_kinds.j3 kj26 a0 (a0 == 25))) = some r := by rw [if_neg (show ¬ (false = true) by decide)] at H; exact H
            have HC32 := Aside0.mk H
            clear H
            go_upto_if 31 with (fail)
            go_cut [31] (fun v31 wc => ∃ (kq : Nat) (x31_31 : Bool), v31 = .bool x31_31 ∧ Aside0 (pouchref05_kinds.j3 kq a0 x31_31 = some r) ∧ Aside0 (kq ≤ kj26) ∧ Aside0 (Below w.heap.size w wc))
            case first =>
             have H := HC32.out
             clear HC32
             by_cases c33 : a0 = 23
             ·rw [if_pos c33] at H
              obtain ⟨c33b0, c33b1⟩ := eqt_ c33
              clear c33
              (first | rw [c33b0] | (simp only [i64_w, i32_w]; rw [c33b0]) | skip)
              have H' := Aside0.mk H
              clear H
              go_wp2
              go_meet
              case rel => exact ⟨_, ((a0 == 23)), y7_, H', ⟨z87z3⟩, ⟨y0_⟩⟩
             ·rw [if_neg c33] at H
              obtain ⟨c33b0, c33b1⟩ := eqf_ c33
              (first | rw [c33b0] | (simp only [i64_w, i32_w]; rw [c33b0]) | skip)
              have H' := Aside0.mk H
              clear H
              go_wp2
              go_meet
              case rel => exact ⟨_, ((a0 == 25)), y7_, H', ⟨z87z3⟩, ⟨y0_⟩⟩
            case rest =>
             clear HC32
             try clear c1
             try clear c2
             try clear p2
             try clear c3
             try clear c3b0
             try clear c3b1
             try clear c4
             try clear c4b0
             try clear c4b1
             try clear c5
             try clear c5b0
             try clear c5b1
             try clear c6
             try clear c6b0
             try clear c6b1
             try clear c7
             try clear c8
             try clear c10
             try clear c10b0
             try clear c10b1
             try clear c13
             try clear c13b0
             try clear c13b1
             try clear c17
             try clear c17b0
             try clear c17b1
             try clear c18
             try clear c18b0
             try clear c18b1
             try clear c19
             try clear c19b0
             try clear c19b1
             try clear c20
             try clear c20b0
             try clear c20b1
             try clear c21
             try clear c21b0
             try clear c21b1
             try clear c22
             try clear c22b0
             try clear c22b1
             try clear c23
             try clear c23b0
             try clear c23b1
             try clear c24
             try clear c28
             try clear c28b0
             try clear c28b1
             try clear c29
             try clear c33
             try clear c33b0
             try clear c33b1
             try clear p2
             obtain ⟨kq, x31_31, rfl, HA, HJ31, HB⟩ := hcut
             cases kq with
             | zero => exact absurd HA.out (by simp [pouchref05_kinds.j3])
             | succ kj31 =>
              have H := HA.out
              clear HA
              simp only [pouchref05_kinds.j3] at H
              by_cases c34 : x31_31 = true
              ·subst c34
               have H1 : (some (([1] : List Int))) = some r := by rw [if_pos rfl] at H; exact H
               clear H
               have H := H1
               clear H1
               obtain ⟨y116, hy116⟩ : ∃ y_ : List Int, y_ = (([1] : List Int)) := ⟨_, rfl⟩
               replace H : (some y116) = some r := by first | (rw [hy116]; with_reducible exact H) | (have H2_ := (Option.bind_some _ _).symm.trans H; rw [hy116]; with_reducible exact H2_) | (have H2_ := (Option.bind_some _ _).symm.trans H; with_reducible exact H2_) | with_reducible exact H | (rw [hy116]; exact H) | exact H
               have Ny116 := Aside0.mk hy116
               clear hy116
               obtain rfl := Option.some.inj H
               go_wp2_with (first | ((with_reducible refine gate_dst (N := 34) rfl ?_); refine Kd.R_lit (Kd.int .i64) _ 3 ?hg (N := 34) ?hd (xs := ([1] : List Int)) (inner := [.int .i64 1]) (ok := fun _ => True) (okp := fun _ => True) ?hr ?hp (fun _ hk => hk) trivial (Below.refl _ _) (Nat.le_refl _) (by simp) ?_; (case hd => rfl); (case hg => rfl); (case hr => exact z87z0); (case hp => exact (Reps.one (show Kd.M (Kd.int .i64) _ _ _ 1 [.int .i64 1] from rfl) (Reps.none _ _))); intro v117 w35 ho36 hb hg_ hnew_; clear hg_ hnew_; (first | rw [← Ny116.out] at ho36 | (simp only [Int.reduceToNat] at ho36; rw [← Ny116.out] at ho36)); have n0_ := Aside0.mk (Kd.R_lower ho36 (below_size y0_)); have n1_ := Aside0.mk (below_step y0_ hb); have HO118 := n0_; replace HB := n1_; clear n0_ n1_; clear hb ho36))
               go_ret
               exact ⟨_, y4_, by (with_reducible repeat (first | apply Kd.R_alloc | apply Kd.R_drewN | apply Kd.R_drew)); exact HO118.out, y0_⟩
              ·replace c34 := Bool.eq_false_iff.mpr c34
               subst c34
               replace H : (if a0 = 24 then (some (([16] : List Int))) else (if a0 = 28 then (some (([2, 14] : List Int))) else (if a0 = 31 then (some (([2, 4, 5, 6, 7, 9, 11, 14, 15] : List Int))) else (if a0 = 33 then (pouchref05_kinds.j4 kj31 a0 (a0 == 33)) else (if a0 = 34 then (pouchref05_kinds.j4 kj31 a0 (a0 == 34)) else (pouchref05_kinds.j4 kj31 a0 (a0 == 39))))))) = some r := by rw [if_neg (show ¬ (false = true) by decide)] at H; exact H
               by_cases c37 : a0 = 24
               ·rw [if_pos c37] at H
                obtain ⟨c37b0, c37b1⟩ := eqt_ c37
                clear c37
                obtain ⟨y119, hy119⟩ : ∃ y_ : List Int, y_ = (([16] : List Int)) := ⟨_, rfl⟩
                replace H : (some y119) = some r := by first | (rw [hy119]; with_reducible exact H) | (have H2_ := (Option.bind_some _ _).symm.trans H; rw [hy119]; with_reducible exact H2_) | (have H2_ := (Option.bind_some _ _).symm.trans H; with_reducible exact H2_) | with_reducible exact H | (rw [hy119]; exact H) | exact H
                have Ny119 := Aside0.mk hy119
                clear hy119
                obtain rfl := Option.some.inj H
                go_wp2_with (first | ((with_reducible refine gate_dst (N := 37) rfl ?_); refine Kd.R_lit (Kd.int .i64) _ 3 ?hg (N := 37) ?hd (xs := ([16] : List Int)) (inner := [.int .i64 16]) (ok := fun _ => True) (okp := fun _ => True) ?hr ?hp (fun _ hk => hk) trivial (Below.refl _ _) (Nat.le_refl _) (by simp) ?_; (case hd => rfl); (case hg => rfl); (case hr => exact z87z0); (case hp => exact (Reps.one (show Kd.M (Kd.int .i64) _ _ _ 16 [.int .i64 16] from rfl) (Reps.none _ _))); intro v120 w38 ho39 hb hg_ hnew_; clear hg_ hnew_; (first | rw [← Ny119.out] at ho39 | (simp only [Int.reduceToNat] at ho39; rw [← Ny119.out] at ho39)); have n0_ := Aside0.mk (Kd.R_lower ho39 (below_size y0_)); have n1_ := Aside0.mk (below_step y0_ hb); have HO121 := n0_; replace HB := n1_; clear n0_ n1_; clear hb ho39))
                go_ret
                exact ⟨_, y4_, by (with_reducible repeat (first | apply Kd.R_alloc | apply Kd.R_drewN | apply Kd.R_drew)); exact HO121.out, y0_⟩
               ·rw [if_neg c37] at H
                obtain ⟨c37b0, c37b1⟩ := eqf_ c37
                by_cases c40 : a0 = 28
                ·rw [if_pos c40] at H
                 obtain ⟨c40b0, c40b1⟩ := eqt_ c40
                 clear c40
                 obtain ⟨y122, hy122⟩ : ∃ y_ : List Int, y_ = (([2, 14] : List Int)) := ⟨_, rfl⟩
                 replace H : (some y122) = some r := by first | (rw [hy122]; with_reducible exact H) | (have H2_ := (Option.bind_some _ _).symm.trans H; rw [hy122]; with_reducible exact H2_) | (have H2_ := (Option.bind_some _ _).symm.trans H; with_reducible exact H2_) | with_reducible exact H | (rw [hy122]; exact H) | exact H
                 have Ny122 := Aside0.mk hy122
                 clear hy122
                 obtain rfl := Option.some.inj H
                 go_wp2_with (first | ((with_reducible refine gate_dst (N := 40) rfl ?_); refine Kd.R_lit (Kd.int .i64) _ 3 ?hg (N := 40) ?hd (xs := ([2, 14] : List Int)) (inner := [.int .i64 2, .int .i64 14]) (ok := fun _ => True) (okp := fun _ => True) ?hr ?hp (fun _ hk => hk) trivial (Below.refl _ _) (Nat.le_refl _) (by simp) ?_; (case hd => rfl); (case hg => rfl); (case hr => exact z87z0); (case hp => exact (Reps.one (show Kd.M (Kd.int .i64) _ _ _ 2 [.int .i64 2] from rfl) (Reps.one (show Kd.M (Kd.int .i64) _ _ _ 14 [.int .i64 14] from rfl) (Reps.none _ _)))); intro v123 w41 ho42 hb hg_ hnew_; clear hg_ hnew_; (first | rw [← Ny122.out] at ho42 | (simp only [Int.reduceToNat] at ho42; rw [← Ny122.out] at ho42)); have n0_ := Aside0.mk (Kd.R_lower ho42 (below_size y0_)); have n1_ := Aside0.mk (below_step y0_ hb); have HO124 := n0_; replace HB := n1_; clear n0_ n1_; clear hb ho42))
                 go_ret
                 exact ⟨_, y4_, by (with_reducible repeat (first | apply Kd.R_alloc | apply Kd.R_drewN | apply Kd.R_drew)); exact HO124.out, y0_⟩
                ·rw [if_neg c40] at H
                 obtain ⟨c40b0, c40b1⟩ := eqf_ c40
                 by_cases c43 : a0 = 31
                 ·rw [if_pos c43] at H
                  obtain ⟨c43b0, c43b1⟩ := eqt_ c43
                  clear c43
                  obtain ⟨y125, hy125⟩ : ∃ y_ : List Int, y_ = (([2, 4, 5, 6, 7, 9, 11, 14, 15] : List Int)) := ⟨_, rfl⟩
                  replace H : (some y125) = some r := by first | (rw [hy125]; with_reducible exact H) | (have H2_ := (Option.bind_some _ _).symm.trans H; rw [hy125]; with_reducible exact H2_) | (have H2_ := (Option.bind_some _ _).symm.trans H; with_reducible exact H2_) | with_reducible exact H | (rw [hy125]; exact H) | exact H
                  have Ny125 := Aside0.mk hy125
                  clear hy125
                  obtain rfl := Option.some.inj H
                  go_wp2_with (first | ((with_reducible refine gate_dst (N := 43) rfl ?_); refine Kd.R_lit (Kd.int .i64) _ 3 ?hg (N := 43) ?hd (xs := ([2, 4, 5, 6, 7, 9, 11, 14, 15] : List Int)) (inner := [.int .i64 2, .int .i64 4, .int .i64 5, .int .i64 6, .int .i64 7, .int .i64 9, .int .i64 11, .int .i64 14, .int .i64 15]) (ok := fun _ => True) (okp := fun _ => True) ?hr ?hp (fun _ hk => hk) trivial (Below.refl _ _) (Nat.le_refl _) (by simp) ?_; (case hd => rfl); (case hg => rfl); (case hr => exact z87z0); (case hp => exact (Reps.one (show Kd.M (Kd.int .i64) _ _ _ 2 [.int .i64 2] from rfl) (Reps.one (show Kd.M (Kd.int .i64) _ _ _ 4 [.int .i64 4] from rfl) (Reps.one (show Kd.M (Kd.int .i64) _ _ _ 5 [.int .i64 5] from rfl) (Reps.one (show Kd.M (Kd.int .i64) _ _ _ 6 [.int .i64 6] from rfl) (Reps.one (show Kd.M (Kd.int .i64) _ _ _ 7 [.int .i64 7] from rfl) (Reps.one (show Kd.M (Kd.int .i64) _ _ _ 9 [.int .i64 9] from rfl) (Reps.one (show Kd.M (Kd.int .i64) _ _ _ 11 [.int .i64 11] from rfl) (Reps.one (show Kd.M (Kd.int .i64) _ _ _ 14 [.int .i64 14] from rfl) (Reps.one (show Kd.M (Kd.int .i64) _ _ _ 15 [.int .i64 15] from rfl) (Reps.none _ _))))))))))); intro v126 w44 ho45 hb hg_ hnew_; clear hg_ hnew_; (first | rw [← Ny125.out] at ho45 | (simp only [Int.reduceToNat] at ho45; rw [← Ny125.out] at ho45)); have n0_ := Aside0.mk (Kd.R_lower ho45 (below_size y0_)); have n1_ := Aside0.mk (below_step y0_ hb); have HO127 := n0_; replace HB := n1_; clear n0_ n1_; clear hb ho45))
                  go_ret
                  exact ⟨_, y4_, by (with_reducible repeat (first | apply Kd.R_alloc | apply Kd.R_drewN | apply Kd.R_drew)); exact HO127.out, y0_⟩
                 ·rw [if_neg c43] at H
                  obtain ⟨c43b0, c43b1⟩ := eqf_ c43
                  have HC46 := Aside0.mk H
                  clear H
                  go_upto_if 44 with (fail)
                  go_cut [44] (fun v44 wc => ∃ (kq : Nat) (x44_45 : Bool), v44 = .bool x44_45 ∧ Aside0 (pouchref05_kinds.j4 kq a0 x44_45 = some r) ∧ Aside0 (kq ≤ kj31) ∧ Aside0 (Below w.heap.size w wc))
                  case first =>
                   have H := HC46.out
                   clear HC46
                   by_cases c47 : a0 = 33
                   ·rw [if_pos c47] at H
                    obtain ⟨c47b0, c47b1⟩ := eqt_ c47
                    clear c47
                    (first | rw [c47b0] | (simp only [i64_w, i32_w]; rw [c47b0]) | skip)
                    have H' := Aside0.mk H
                    clear H
                    go_wp2
                    go_meet
                    case rel => exact ⟨_, ((a0 == 33)), y7_, H', ⟨z87z2⟩, ⟨y0_⟩⟩
                   ·rw [if_neg c47] at H
                    obtain ⟨c47b0, c47b1⟩ := eqf_ c47
                    (first | rw [c47b0] | (simp only [i64_w, i32_w]; rw [c47b0]) | skip)
                    by_cases c48 : a0 = 34
                    ·rw [if_pos c48] at H
                     obtain ⟨c48b0, c48b1⟩ := eqt_ c48
                     clear c48
                     have H' := Aside0.mk H
                     clear H
                     go_wp2
                     go_meet
                     case rel => exact ⟨_, ((a0 == 34)), y7_, H', ⟨z87z2⟩, ⟨y0_⟩⟩
                    ·rw [if_neg c48] at H
                     obtain ⟨c48b0, c48b1⟩ := eqf_ c48
                     have H' := Aside0.mk H
                     clear H
                     go_wp2
                     go_meet
                     case rel => exact ⟨_, ((a0 == 39)), y7_, H', ⟨z87z2⟩, ⟨y0_⟩⟩
                  case rest =>
                   clear HC46
                   try clear c1
                   try clear c2
                   try clear p2
                   try clear c3
                   try clear c3b0
                   try clear c3b1
                   try clear c4
                   try clear c4b0
                   try clear c4b1
                   try clear c5
                   try clear c5b0
                   try clear c5b1
                   try clear c6
                   try clear c6b0
                   try clear c6b1
                   try clear c7
                   try clear c8
                   try clear c10
                   try clear c10b0
                   try clear c10b1
                   try clear c13
                   try clear c13b0
                   try clear c13b1
                   try clear c17
                   try clear c17b0
                   try clear c17b1
                   try clear c18
                   try clear c18b0
                   try clear c18b1
                   try clear c19
                   try clear c19b0
                   try clear c19b1
                   try clear c20
                   try clear c20b0
                   try clear c20b1
                   try clear c21
                   try clear c21b0
                   try clear c21b1
                   try clear c22
                   try clear c22b0
                   try clear c22b1
                   try clear c23
                   try clear c23b0
                   try clear c23b1
                   try clear c24
                   try clear c28
                   try clear c28b0
                   try clear c28b1
                   try clear c29
                   try clear c33
                   try clear c33b0
                   try clear c33b1
                   try clear c34
                   try clear c37
                   try clear c37b0
                   try clear c37b1
                   try clear c40
                   try clear c40b0
                   try clear c40b1
                   try clear c43
                   try clear c43b0
                   try clear c43b1
                   try clear c47
                   try clear c47b0
                   try clear c47b1
                   try clear c48
                   try clear c48b0
                   try clear c48b1
                   try clear p2
                   obtain ⟨kq, x44_45, rfl, HA, HJ45, HB⟩ := hcut
                   cases kq with
                   | zero => exact absurd HA.out (by simp [pouchref05_kinds.j4])
                   | succ kj45 =>
                    have H := HA.out
                    clear HA
                    simp only [pouchref05_kinds.j4] at H
                    by_cases c49 : x44_45 = true
                    ·subst c49
                     have H1 : (some (([1, 2] : List Int))) = some r := by rw [if_pos rfl] at H; exact H
                     clear H
                     have H := H1
                     clear H1
                     obtain ⟨y128, hy128⟩ : ∃ y_ : List Int, y_ = (([1, 2] : List Int)) := ⟨_, rfl⟩
                     replace H : (some y128) = some r := by first | (rw [hy128]; with_reducible exact H) | (have H2_ := (Option.bind_some _ _).symm.trans H; rw [hy128]; with_reducible exact H2_) | (have H2_ := (Option.bind_some _ _).symm.trans H; with_reducible exact H2_) | with_reducible exact H | (rw [hy128]; exact H) | exact H
                     have Ny128 := Aside0.mk hy128
                     clear hy128
                     obtain rfl := Option.some.inj H
                     go_wp2_with (first | ((with_reducible refine gate_dst (N := 48) rfl ?_); refine Kd.R_lit (Kd.int .i64) _ 3 ?hg (N := 48) ?hd (xs := ([1, 2] : List Int)) (inner := [.int .i64 1, .int .i64 2]) (ok := fun _ => True) (okp := fun _ => True) ?hr ?hp (fun _ hk => hk) trivial (Below.refl _ _) (Nat.le_refl _) (by simp) ?_; (case hd => rfl); (case hg => rfl); (case hr => exact z87z0); (case hp => exact (Reps.one (show Kd.M (Kd.int .i64) _ _ _ 1 [.int .i64 1] from rfl) (Reps.one (show Kd.M (Kd.int .i64) _ _ _ 2 [.int .i64 2] from rfl) (Reps.none _ _)))); intro v129 w50 ho51 hb hg_ hnew_; clear hg_ hnew_; (first | rw [← Ny128.out] at ho51 | (simp only [Int.reduceToNat] at ho51; rw [← Ny128.out] at ho51)); have n0_ := Aside0.mk (Kd.R_lower ho51 (below_size y0_)); have n1_ := Aside0.mk (below_step y0_ hb); have HO130 := n0_; replace HB := n1_; clear n0_ n1_; clear hb ho51))
                     go_ret
                     exact ⟨_, y4_, by (with_reducible repeat (first | apply Kd.R_alloc | apply Kd.R_drewN | apply Kd.R_drew)); exact HO130.out, y0_⟩
                    ·replace c49 := Bool.eq_false_iff.mpr c49
                     subst c49
                     replace H : (if a0 = 35 then (some (([3] : List Int))) else (if a0 = 38 then (some (([1, 2, 3, 4, 5, 6, 7, 8, 9, 10, 11, 14, 15, 16] : List Int))) else (some ([] : List Int)))) = some r := by rw [if_neg (show ¬ (false = true) by decide)] at H; exact H
                     by_cases c52 : a0 = 35
                     ·rw [if_pos c52] at H
                      obtain ⟨c52b0, c52b1⟩ := eqt_ c52
                      clear c52
                      obtain ⟨y131, hy131⟩ : ∃ y_ : List Int, y_ = (([3] : List Int)) := ⟨_, rfl⟩
                      replace H : (some y131) = some r := by first | (rw [hy131]; with_reducible exact H) | (have H2_ := (Option.bind_some _ _).symm.trans H; rw [hy131]; with_reducible exact H2_) | (have H2_ := (Option.bind_some _ _).symm.trans H; with_reducible exact H2_) | with_reducible exact H | (rw [hy131]; exact H) | exact H
                      have Ny131 := Aside0.mk hy131
                      clear hy131
                      obtain rfl := Option.some.inj H
                      go_wp2_with (first | ((with_reducible refine gate_dst (N := 51) rfl ?_); refine Kd.R_lit (Kd.int .i64) _ 3 ?hg (N := 51) ?hd (xs := ([3] : List Int)) (inner := [.int .i64 3]) (ok := fun _ => True) (okp := fun _ => True) ?hr ?hp (fun _ hk => hk) trivial (Below.refl _ _) (Nat.le_refl _) (by simp) ?_; (case hd => rfl); (case hg => rfl); (case hr => exact z87z0); (case hp => exact (Reps.one (show Kd.M (Kd.int .i64) _ _ _ 3 [.int .i64 3] from rfl) (Reps.none _ _))); intro v132 w53 ho54 hb hg_ hnew_; clear hg_ hnew_; (first | rw [← Ny131.out] at ho54 | (simp only [Int.reduceToNat] at ho54; rw [← Ny131.out] at ho54)); have n0_ := Aside0.mk (Kd.R_lower ho54 (below_size y0_)); have n1_ := Aside0.mk (below_step y0_ hb); have HO133 := n0_; replace HB := n1_; clear n0_ n1_; clear hb ho54))
                      go_ret
                      exact ⟨_, y4_, by (with_reducible repeat (first | apply Kd.R_alloc | apply Kd.R_drewN | apply Kd.R_drew)); exact HO133.out, y0_⟩
                     ·rw [if_neg c52] at H
                      obtain ⟨c52b0, c52b1⟩ := eqf_ c52
                      by_cases c55 : a0 = 38
                      ·rw [if_pos c55] at H
                       obtain ⟨c55b0, c55b1⟩ := eqt_ c55
                       clear c55
                       obtain ⟨y134, hy134⟩ : ∃ y_ : List Int, y_ = (([1, 2, 3, 4, 5, 6, 7, 8, 9, 10, 11, 14, 15, 16] : List Int)) := ⟨_, rfl⟩
                       replace H : (some y134) = some r := by first | (rw [hy134]; with_reducible exact H) | (have H2_ := (Option.bind_some _ _).symm.trans H; rw [hy134]; with_reducible exact H2_) | (have H2_ := (Option.bind_some _ _).symm.trans H; with_reducible exact H2_) | with_reducible exact H | (rw [hy134]; exact H) | exact H
                       have Ny134 := Aside0.mk hy134
                       clear hy134
                       obtain rfl := Option.some.inj H
                       go_wp2_with (first | ((with_reducible refine gate_dst (N := 54) rfl ?_); refine Kd.R_lit (Kd.int .i64) _ 3 ?hg (N := 54) ?hd (xs := ([1, 2, 3, 4, 5, 6, 7, 8, 9, 10, 11, 14, 15, 16] : List Int)) (inner := [.int .i64 1, .int .i64 2, .int .i64 3, .int .i64 4, .int .i64 5, .int .i64 6, .int .i64 7, .int .i64 8, .int .i64 9, .int .i64 10, .int .i64 11, .int .i64 14, .int .i64 15, .int .i64 16]) (ok := fun _ => True) (okp := fun _ => True) ?hr ?hp (fun _ hk => hk) trivial (Below.refl _ _) (Nat.le_refl _) (by simp) ?_; (case hd => rfl); (case hg => rfl); (case hr => exact z87z0); (case hp => exact (Reps.one (show Kd.M (Kd.int .i64) _ _ _ 1 [.int .i64 1] from rfl) (Reps.one (show Kd.M (Kd.int .i64) _ _ _ 2 [.int .i64 2] from rfl) (Reps.one (show Kd.M (Kd.int .i64) _ _ _ 3 [.int .i64 3] from rfl) (Reps.one (show Kd.M (Kd.int .i64) _ _ _ 4 [.int .i64 4] from rfl) (Reps.one (show Kd.M (Kd.int .i64) _ _ _ 5 [.int .i64 5] from rfl) (Reps.one (show Kd.M (Kd.int .i64) _ _ _ 6 [.int .i64 6] from rfl) (Reps.one (show Kd.M (Kd.int .i64) _ _ _ 7 [.int .i64 7] from rfl) (Reps.one (show Kd.M (Kd.int .i64) _ _ _ 8 [.int .i64 8] from rfl) (Reps.one (show Kd.M (Kd.int .i64) _ _ _ 9 [.int .i64 9] from rfl) (Reps.one (show Kd.M (Kd.int .i64) _ _ _ 10 [.int .i64 10] from rfl) (Reps.one (show Kd.M (Kd.int .i64) _ _ _ 11 [.int .i64 11] from rfl) (Reps.one (show Kd.M (Kd.int .i64) _ _ _ 14 [.int .i64 14] from rfl) (Reps.one (show Kd.M (Kd.int .i64) _ _ _ 15 [.int .i64 15] from rfl) (Reps.one (show Kd.M (Kd.int .i64) _ _ _ 16 [.int .i64 16] from rfl) (Reps.none _ _)))))))))))))))); intro v135 w56 ho57 hb hg_ hnew_; clear hg_ hnew_; (first | rw [← Ny134.out] at ho57 | (simp only [Int.reduceToNat] at ho57; rw [← Ny134.out] at ho57)); have n0_ := Aside0.mk (Kd.R_lower ho57 (below_size y0_)); have n1_ := Aside0.mk (below_step y0_ hb); have HO136 := n0_; replace HB := n1_; clear n0_ n1_; clear hb ho57))
                       go_ret
                       exact ⟨_, y4_, by (with_reducible repeat (first | apply Kd.R_alloc | apply Kd.R_drewN | apply Kd.R_drew)); exact HO136.out, y0_⟩
                      ·rw [if_neg c55] at H
                       obtain ⟨c55b0, c55b1⟩ := eqf_ c55
                       obtain rfl := Option.some.inj H
                       go_wp2
                       go_ret
                       exact ⟨_, y4_, y21_, y0_⟩
end Go.Proofs.YtkmkgpigmldhnaaDoor.P
namespace Go.Proofs.YtkmkgpigmldhnaaDoor.P
open Go.RowKit Go.Proofs.YtkmkgpigmldhnaaDoorW.PrintWords Go.Proofs.YtkmkgpigmldhnaaDoorW.PrintLast Go.Proofs.YtkmkgpigmldhnaaDoorW.PrintMore
attribute [local go_sem] max2_int min2_int max_two min_two max_three min_three max_four min_four
def pouchref05_For.l0 : Nat → Int → List Int → Int → Option (Bool)
  | 0, _, _, _ => none
  | k + 1, x1, x5, x6 => if x6 < (x5.length : Int) then (if 0 ≤ x6 then (if (rd x5 x6) = x1 then (some true) else (pouchref05_For.l0 k x1 x5 (wrap64 (x6 + 1)))) else (none)) else (some false)
def pouchref05_For.f (k : Nat) (a0 : Int) (a1 : Int) : Option (Bool) := (pouchref05_kinds.f k a0).bind fun t101 => (pouchref05_For.l0 k a1 t101 0)
theorem z63m0 {p : Prop} (h : p := by
 repeat' first
 | (with_reducible exact ih0 _ _ _)
 | (with_reducible exact pouchref05_kinds.mono _ _)
 | (with_reducible exact LeO.refl _)
 | (with_reducible exact LeO.none _)
 | (with_reducible refine LeO.ite ?_ ?_)
 | (with_reducible refine LeO.bind ?_ (fun _ => ?_))
 | exact ih0 _ _ _
 | exact pouchref05_kinds.mono _ _
 | exact LeO.none _
 | refine LeO.ite ?_ ?_
 | refine LeO.bind ?_ (fun _ => ?_)) : p := h
theorem pouchref05_For.mono_l : ∀ k, (∀ y0 y1 y2, LeO (pouchref05_For.l0 k y0 y1 y2) (pouchref05_For.l0 (k + 1) y0 y1 y2))
  | 0 => fun _ _ _ r h => by simp [pouchref05_For.l0] at h
  | k + 1 => by
    have ih0 := pouchref05_For.mono_l k
    · intro y0 y1 y2
      unfold pouchref05_For.l0
      exact z63m0
theorem pouchref05_For.mono : ∀ a0 a1 k, LeO (pouchref05_For.f k a0 a1) (pouchref05_For.f (k + 1) a0 a1) := by
  intro a0 a1 k
  have ih0 := pouchref05_For.mono_l k
  unfold pouchref05_For.f
  exact z63m0
theorem pouchref05_For.calls (k : Nat) (a0 : Int) (a1 : Int) (r : Bool) (w : World) (h : pouchref05_For.f k a0 a1 = some r) :
    Calls Tryd.prog 63 #[.int .u8 a0, .int .i64 a1] w fun e w' => e = .returned (.bool r) ∧ Below w.heap.size w w' := by
  have HB := Aside0.mk (Below.refl w.heap.size w)
  have H : ((pouchref05_kinds.f k a0).bind fun t101 => (pouchref05_For.l0 k a1 t101 0)) = some r := h
  clear h
  replace H := Option.bind_eq_some_iff.mp H
  obtain ⟨t101, A30, H⟩ := H
  replace H : (pouchref05_For.l0 k a1 t101 0) = some r := H
  have A3 := Aside0.mk A30
  clear A30
  have H' := Aside0.mk H
  clear H
  go_enter Tryd.func63, Tryd.ntmps63
  go_wp2_with (first | ((with_reducible refine gate_callee (f := 87) rfl ?_); refine goesL_ (some 8) rfl rfl Tryd.func87 (by kernel_rfl) rfl #[.int .u8 a0] rfl y2_ ?_; (with_reducible refine (pouchref05_kinds.calls k a0 t101 _ A3.out).mono ?_); rintro e w4 ⟨v102, rfl, ho0, hb⟩; refine ⟨_, rfl, ?_⟩; have n0_ := Aside0.mk (Kd.R_lower ho0 (below_size y0_)); have n1_ := Aside0.mk (below_step y0_ hb); clear HB; have HO103 := n0_; have HB := n1_; clear n0_ n1_; (try clear hb); (try clear hb2); (try clear hk); (try clear hi); (try clear ho0)))
  go_loopg [6] k (fun kq v6 w' => ∃ (x6_1 : Int), v6 = .int .i64 x6_1 ∧ Aside0 (pouchref05_For.l0 kq a1 t101 x6_1 = some r) ∧ Aside0 (kq ≤ k) ∧ Aside0 (Kd.R (Kd.int .i64) 3 w' w.heap.size (fun _ => True) v102 t101) ∧ Aside0 (Below w.heap.size w w'))
  case atStart => exact ⟨(0), y7_, H', ⟨Nat.le_refl _⟩, ⟨y12_⟩, ⟨y0_⟩⟩
  case round =>
    clear H'
    try clear p2
    obtain ⟨x6_1, rfl, HA, HK1, HO_5, HB⟩ := hrel
    cases gk with
    | zero => exact absurd HA.out (by simp [pouchref05_For.l0])
    | succ k1 =>
      have H := HA.out
      clear HA
      simp only [pouchref05_For.l0] at H
      by_cases c5 : x6_1 < (t101.length : Int)
      · rw [if_pos c5] at H
        have c5b0 := decide_eq_true c5
        clear c5
        by_cases c6 : 0 ≤ x6_1
        · rw [if_pos c6] at H
          have c6b0 := decide_eq_true c6
          clear c6
          by_cases c7 : (rd t101 x6_1) = a1
          · rw [if_pos c7] at H
            obtain ⟨c7b0, c7b1⟩ := eqt_ c7
            clear c7
            obtain rfl := Option.some.inj H
            obtain ⟨Ao8, co8, eo8⟩ := Kd.R_slice HO_5.out
            subst eo8
            have p104 : 0 ≤ (x6_1 : Int) := of_decide_eq_true y5_
            have q104 : x6_1 < (t101.length : Int) := of_decide_eq_true y5_
            obtain ⟨ad104, e104, hx104_0⟩ := Kd.at_int (Kd.R_reads' HO_5.out).2.2 x6_1 p104 q104
            cases e104
            replace p104 := eq_true p104
            replace q104 := eq_true q104
            go_wp2
            go_ret
            exact ⟨y4_, y0_⟩
          · rw [if_neg c7] at H
            obtain ⟨c7b0, c7b1⟩ := eqf_ c7
            have H' := Aside0.mk H
            clear H
            obtain ⟨Ao9, co9, eo9⟩ := Kd.R_slice HO_5.out
            subst eo9
            have p104 : 0 ≤ (x6_1 : Int) := of_decide_eq_true y5_
            have q104 : x6_1 < (t101.length : Int) := of_decide_eq_true y5_
            obtain ⟨ad104, e104, hx104_0⟩ := Kd.at_int (Kd.R_reads' HO_5.out).2.2 x6_1 p104 q104
            cases e104
            replace p104 := eq_true p104
            replace q104 := eq_true q104
            go_wp2
            go_roundg k1
            case measure => have := HK1.out; omega
            case rel => exact ⟨(wrap64 (x6_1 + 1)), y7_, H', ⟨y25_⟩, ⟨y13_⟩, ⟨y0_⟩⟩
        · rw [if_neg c6] at H
          exact absurd H (by simp)
      · rw [if_neg c5] at H
        have c5b0 := decide_eq_false c5
        clear c5
        obtain rfl := Option.some.inj H
        obtain ⟨Ao10, co10, eo10⟩ := Kd.R_slice HO_5.out
        subst eo10
        go_wp2
        go_ret
        exact ⟨y4_, y0_⟩
def pouchref05_Often.f (k : Nat) (a0 : Int) (a1 : Int) : Option (Bool) := (pouchref05_For.f k a0 a1).bind fun t101 => (if t101 = true then (if a0 = 38 then (some true) else (if a0 = 11 then (some (a1 == 3)) else (some false))) else (some false))
theorem pouchref05_Often.mono : ∀ a0 a1 k, LeO (pouchref05_Often.f k a0 a1) (pouchref05_Often.f (k + 1) a0 a1) := by
  intro a0 a1 k
  unfold pouchref05_Often.f
  repeat' first
      | (with_reducible exact pouchref05_For.mono _ _ _)
      | (with_reducible exact LeO.refl _)
      | (with_reducible exact LeO.none _)
      | (with_reducible refine LeO.ite ?_ ?_)
      | (with_reducible refine LeO.bind ?_ (fun _ => ?_))
      | exact pouchref05_For.mono _ _ _
      | exact LeO.none _
      | refine LeO.ite ?_ ?_
      | refine LeO.bind ?_ (fun _ => ?_)
theorem pouchref05_Often.calls (k : Nat) (a0 : Int) (a1 : Int) (r : Bool) (w : World) (h : pouchref05_Often.f k a0 a1 = some r) :
    Calls Tryd.prog 51 #[.int .u8 a0, .int .i64 a1] w fun e w' => e = .returned (.bool r) ∧ Below w.heap.size w w' := by
  have HB := Aside0.mk (Below.refl w.heap.size w)
  have H : ((pouchref05_For.f k a0 a1).bind fun t101 => (if t101 = true then (if a0 = 38 then (some true) else (if a0 = 11 then (some (a1 == 3)) else (some false))) else (some false))) = some r := h
  clear h
  replace H := Option.bind_eq_some_iff.mp H
  obtain ⟨t101, A30, H⟩ := H
  replace H : (if t101 = true then (if a0 = 38 then (some true) else (if a0 = 11 then (some (a1 == 3)) else (some false))) else (some false)) = some r := H
  have A3 := Aside0.mk A30
  clear A30
  by_cases c4 : t101 = true
  · subst c4
    have H1 : (if a0 = 38 then (some true) else (if a0 = 11 then (some (a1 == 3)) else (some false))) = some r := by rw [if_pos rfl] at H; exact H
    clear H
    have H := H1
    clear H1
    by_cases c5 : a0 = 38
    · rw [if_pos c5] at H
      obtain ⟨c5b0, c5b1⟩ := eqt_ c5
      clear c5
      obtain rfl := Option.some.inj H
      go_enter Tryd.func51, Tryd.ntmps51
      go_wp2_with (first | ((with_reducible refine gate_callee (f := 63) rfl ?_); refine goesL_ (some 7) rfl rfl Tryd.func63 (by kernel_rfl) rfl #[.int .u8 a0, .int .i64 a1] rfl y2_ ?_; (with_reducible refine (pouchref05_For.calls k a0 a1 true _ A3.out).mono ?_); rintro e w6 ⟨rfl, hb⟩; refine ⟨_, rfl, ?_⟩; have n0_ := Aside0.mk (below_step y0_ hb); clear HB; have HB := n0_; clear n0_; (try clear hb); (try clear hb2); (try clear hk); (try clear hi)))
      go_ret
      exact ⟨y4_, y0_⟩
    · rw [if_neg c5] at H
      obtain ⟨c5b0, c5b1⟩ := eqf_ c5
      by_cases c7 : a0 = 11
      · rw [if_pos c7] at H
        obtain ⟨c7b0, c7b1⟩ := eqt_ c7
        clear c7
        obtain rfl := Option.some.inj H
        go_enter Tryd.func51, Tryd.ntmps51
        go_wp2_with (first | ((with_reducible refine gate_callee (f := 63) rfl ?_); refine goesL_ (some 7) rfl rfl Tryd.func63 (by kernel_rfl) rfl #[.int .u8 a0, .int .i64 a1] rfl y2_ ?_; (with_reducible refine (pouchref05_For.calls k a0 a1 true _ A3.out).mono ?_); rintro e w8 ⟨rfl, hb⟩; refine ⟨_, rfl, ?_⟩; have n0_ := Aside0.mk (below_step y0_ hb); clear HB; have HB := n0_; clear n0_; (try clear hb); (try clear hb2); (try clear hk); (try clear hi)))
        go_ret
        exact ⟨y4_, y0_⟩
      · rw [if_neg c7] at H
        obtain ⟨c7b0, c7b1⟩ := eqf_ c7
        obtain rfl := Option.some.inj H
        go_enter Tryd.func51, Tryd.ntmps51
        go_wp2_with (first | ((with_reducible refine gate_callee (f := 63) rfl ?_); refine goesL_ (some 7) rfl rfl Tryd.func63 (by kernel_rfl) rfl #[.int .u8 a0, .int .i64 a1] rfl y2_ ?_; (with_reducible refine (pouchref05_For.calls k a0 a1 true _ A3.out).mono ?_); rintro e w9 ⟨rfl, hb⟩; refine ⟨_, rfl, ?_⟩; have n0_ := Aside0.mk (below_step y0_ hb); clear HB; have HB := n0_; clear n0_; (try clear hb); (try clear hb2); (try clear hk); (try clear hi)))
        go_ret
        exact ⟨y4_, y0_⟩
  · replace c4 := Bool.eq_false_iff.mpr c4
    subst c4
    have H1 : (some false) = some r := by rw [if_neg (show ¬ (false = true) by decide)] at H; exact H
    clear H
    have H := H1
    clear H1
    obtain rfl := Option.some.inj H
    go_enter Tryd.func51, Tryd.ntmps51
    go_wp2_with (first | ((with_reducible refine gate_callee (f := 63) rfl ?_); refine goesL_ (some 7) rfl rfl Tryd.func63 (by kernel_rfl) rfl #[.int .u8 a0, .int .i64 a1] rfl y2_ ?_; (with_reducible refine (pouchref05_For.calls k a0 a1 false _ A3.out).mono ?_); rintro e w10 ⟨rfl, hb⟩; refine ⟨_, rfl, ?_⟩; have n0_ := Aside0.mk (below_step y0_ hb); clear HB; have HB := n0_; clear n0_; (try clear hb); (try clear hb2); (try clear hk); (try clear hi)))
    go_ret
    exact ⟨y4_, y0_⟩
mutual
def pouchref05_Type.j0 : Nat → Int → Bool → Option (Int)
  | 0, _, _ => none
  | k + 1, x3, x4 => if x4 = true then (some 1) else (if x3 = 19 then (pouchref05_Type.j1 k x3 (x3 == 19)) else (if x3 = 33 then (pouchref05_Type.j1 k x3 (x3 == 33)) else (if x3 = 34 then (pouchref05_Type.j1 k x3 (x3 == 34)) else (pouchref05_Type.j1 k x3 (x3 == 35)))))
def pouchref05_Type.j1 : Nat → Int → Bool → Option (Int)
  | 0, _, _ => none
  | k + 1, x3, x13 => if x13 = true then (some 2) else (if x3 = 2 then (pouchref05_Type.j2 k x3 (x3 == 2)) else (if x3 = 17 then (pouchref05_Type.j2 k x3 (x3 == 17)) else (if x3 = 24 then (pouchref05_Type.j2 k x3 (x3 == 24)) else (pouchref05_Type.j2 k x3 (x3 == 39)))))
def pouchref05_Type.j2 : Nat → Int → Bool → Option (Int)
  | 0, _, _ => none
  | k + 1, x3, x18 => if x18 = true then (some 3) else (if x3 = 11 then (some 4) else (if x3 = 3 then (pouchref05_Type.j3 k x3 (x3 == 3)) else (if x3 = 8 then (pouchref05_Type.j3 k x3 (x3 == 8)) else (if x3 = 18 then (pouchref05_Type.j3 k x3 (x3 == 18)) else (if x3 = 21 then (pouchref05_Type.j3 k x3 (x3 == 21)) else (if x3 = 26 then (pouchref05_Type.j3 k x3 (x3 == 26)) else (if x3 = 28 then (pouchref05_Type.j3 k x3 (x3 == 28)) else (pouchref05_Type.j3 k x3 (x3 == 31)))))))))
def pouchref05_Type.j3 : Nat → Int → Bool → Option (Int)
  | 0, _, _ => none
  | k + 1, x3, x25 => if x25 = true then (some 5) else (if x3 = 9 then (pouchref05_Type.j4 k x3 (x3 == 9)) else (pouchref05_Type.j4 k x3 (x3 == 22)))
def pouchref05_Type.j4 : Nat → Int → Bool → Option (Int)
  | 0, _, _ => none
  | k + 1, x3, x33 => if x33 = true then (some 6) else (if x3 = 38 then (some 7) else (some 0))
end
def pouchref05_Type.f (k : Nat) (a0 : Int) : Option (Int) := if a0 = 1 then (pouchref05_Type.j0 k a0 (a0 == 1)) else (if a0 = 23 then (pouchref05_Type.j0 k a0 (a0 == 23)) else (if a0 = 25 then (pouchref05_Type.j0 k a0 (a0 == 25)) else (if a0 = 36 then (pouchref05_Type.j0 k a0 (a0 == 36)) else (if a0 = 37 then (pouchref05_Type.j0 k a0 (a0 == 37)) else (if a0 = 40 then (pouchref05_Type.j0 k a0 (a0 == 40)) else (if a0 = 41 then (pouchref05_Type.j0 k a0 (a0 == 41)) else (pouchref05_Type.j0 k a0 (a0 == 42))))))))
theorem z67m0 {p : Prop} (h : p := by
 repeat' first
 | (with_reducible exact ih0 _ _)
 | (with_reducible exact ih1 _ _)
 | (with_reducible exact ih2 _ _)
 | (with_reducible exact ih3 _ _)
 | (with_reducible exact ih4 _ _)
 | (with_reducible exact LeO.refl _)
 | (with_reducible exact LeO.none _)
 | (with_reducible refine LeO.ite ?_ ?_)
 | (with_reducible refine LeO.bind ?_ (fun _ => ?_))
 | exact ih0 _ _
 | exact ih1 _ _
 | exact ih2 _ _
 | exact ih3 _ _
 | exact ih4 _ _
 | exact LeO.none _
 | refine LeO.ite ?_ ?_
 | refine LeO.bind ?_ (fun _ => ?_)) : p := h
theorem pouchref05_Type.mono_l : ∀ k, (∀ y0 y1, LeO (pouchref05_Type.j0 k y0 y1) (pouchref05_Type.j0 (k + 1) y0 y1)) ∧ (∀ y0 y1, LeO (pouchref05_Type.j1 k y0 y1) (pouchref05_Type.j1 (k + 1) y0 y1)) ∧ (∀ y0 y1, LeO (pouchref05_Type.j2 k y0 y1) (pouchref05_Type.j2 (k + 1) y0 y1)) ∧ (∀ y0 y1, LeO (pouchref05_Type.j3 k y0 y1) (pouchref05_Type.j3 (k + 1) y0 y1)) ∧ (∀ y0 y1, LeO (pouchref05_Type.j4 k y0 y1) (pouchref05_Type.j4 (k + 1) y0 y1))
  | 0 => ⟨fun _ _ r h => by simp [pouchref05_Type.j0] at h, fun _ _ r h => by simp [pouchref05_Type.j1] at h, fun _ _ r h => by simp [pouchref05_Type.j2] at h, fun _ _ r h => by simp [pouchref05_Type.j3] at h, fun _ _ r h => by simp [pouchref05_Type.j4] at h⟩
  | k + 1 => by
    obtain ⟨ih0, ih1, ih2, ih3, ih4⟩ := pouchref05_Type.mono_l k
    refine ⟨?_, ?_, ?_, ?_, ?_⟩
    · intro y0 y1
      unfold pouchref05_Type.j0
      exact z67m0
    · intro y0 y1
      unfold pouchref05_Type.j1
      exact z67m0
    · intro y0 y1
      unfold pouchref05_Type.j2
      exact z67m0
    · intro y0 y1
      unfold pouchref05_Type.j3
      exact z67m0
    · intro y0 y1
      unfold pouchref05_Type.j4
      exact z67m0
theorem pouchref05_Type.mono : ∀ a0 k, LeO (pouchref05_Type.f k a0) (pouchref05_Type.f (k + 1) a0) := by
  intro a0 k
  obtain ⟨ih0, ih1, ih2, ih3, ih4⟩ := pouchref05_Type.mono_l k
  unfold pouchref05_Type.f
  exact z67m0
theorem z67z0 {p : Prop} (h : p := by have := HJ1.out; have := HJ10.out; have := HJ15.out; first | omega | exact Nat.le_refl _) : p := h
theorem z67z1 {p : Prop} (h : p := by have := HJ1.out; have := HJ10.out; first | omega | exact Nat.le_refl _) : p := h
theorem z67z2 {p : Prop} (h : p := by have := HJ1.out; first | omega | exact Nat.le_refl _) : p := h
theorem z67z3 {p : Prop} (h : p := by have := HJ1.out; have := HJ10.out; have := HJ15.out; have := HJ21.out; first | omega | exact Nat.le_refl _) : p := h
theorem pouchref05_Type.calls (k : Nat) (a0 : Int) (r : Int) (w : World) (h : pouchref05_Type.f k a0 = some r) :
  Calls Tryd.prog 67 #[.int .u8 a0] w fun e w' => e = .returned (.int .i64 r) ∧ Drawn0 w w' := by
 have H : (if a0 = 1 then (pouchref05_Type.j0 k a0 (a0 == 1)) else (if a0 = 23 then (pouchref05_Type.j0 k a0 (a0 == 23)) else (if a0 = 25 then (pouchref05_Type.j0 k a0 (a0 == 25)) else (if a0 = 36 then (pouchref05_Type.j0 k a0 (a0 == 36)) else (if a0 = 37 then (pouchref05_Type.j0 k a0 (a0 == 37)) else (if a0 = 40 then (pouchref05_Type.j0 k a0 (a0 == 40)) else (if a0 = 41 then (pouchref05_Type.j0 k a0 (a0 == 41)) else (pouchref05_Type.j0 k a0 (a0 == 42))))))))) = some r := h
 clear h
 have HC2 := Aside0.mk H
 clear H
 go_enter Tryd.func67, Tryd.ntmps67
 go_upto_if 4 with (fail)
 go_cut [4] (fun v4 wc => ∃ (kq : Nat) (x4_1 : Bool), v4 = .bool x4_1 ∧ Aside0 (pouchref05_Type.j0 kq a0 x4_1 = some r) ∧ Aside0 (kq ≤ k) ∧ Drawn0 w wc)
 case first =>
  have H := HC2.out
  clear HC2
  by_cases c3 : a0 = 1
  ·rw [if_pos c3] at H
   obtain ⟨c3b0, c3b1⟩ := eqt_ c3
   clear c3
   (first | rw [c3b0] | (simp only [i64_w, i32_w]; rw [c3b0]) | skip)
   have H' := Aside0.mk H
   clear H
   go_wp2
   go_meet
   case rel => exact ⟨_, ((a0 == 1)), y7_, H', ⟨y19_⟩, y10_⟩
  ·rw [if_neg c3] at H
   obtain ⟨c3b0, c3b1⟩ := eqf_ c3
   (first | rw [c3b0] | (simp only [i64_w, i32_w]; rw [c3b0]) | skip)
   by_cases c4 : a0 = 23
   ·rw [if_pos c4] at H
    obtain ⟨c4b0, c4b1⟩ := eqt_ c4
    clear c4
    have H' := Aside0.mk H
    clear H
    go_wp2
    go_meet
    case rel => exact ⟨_, ((a0 == 23)), y7_, H', ⟨y19_⟩, y10_⟩
   ·rw [if_neg c4] at H
    obtain ⟨c4b0, c4b1⟩ := eqf_ c4
    by_cases c5 : a0 = 25
    ·rw [if_pos c5] at H
     obtain ⟨c5b0, c5b1⟩ := eqt_ c5
     clear c5
     have H' := Aside0.mk H
     clear H
     go_wp2
     go_meet
     case rel => exact ⟨_, ((a0 == 25)), y7_, H', ⟨y19_⟩, y10_⟩
    ·rw [if_neg c5] at H
     obtain ⟨c5b0, c5b1⟩ := eqf_ c5
     by_cases c6 : a0 = 36
     ·rw [if_pos c6] at H
      obtain ⟨c6b0, c6b1⟩ := eqt_ c6
      clear c6
      have H' := Aside0.mk H
      clear H
      go_wp2
      go_meet
      case rel => exact ⟨_, ((a0 == 36)), y7_, H', ⟨y19_⟩, y10_⟩
     ·rw [if_neg c6] at H
      obtain ⟨c6b0, c6b1⟩ := eqf_ c6
      by_cases c7 : a0 = 37
      ·rw [if_pos c7] at H
       obtain ⟨c7b0, c7b1⟩ := eqt_ c7
       clear c7
       have H' := Aside0.mk H
       clear H
       go_wp2
       go_meet
       case rel => exact ⟨_, ((a0 == 37)), y7_, H', ⟨y19_⟩, y10_⟩
      ·rw [if_neg c7] at H
       obtain ⟨c7b0, c7b1⟩ := eqf_ c7
       by_cases c8 : a0 = 40
       ·rw [if_pos c8] at H
        obtain ⟨c8b0, c8b1⟩ := eqt_ c8
        clear c8
        have H' := Aside0.mk H
        clear H
        go_wp2
        go_meet
        case rel => exact ⟨_, ((a0 == 40)), y7_, H', ⟨y19_⟩, y10_⟩
       ·rw [if_neg c8] at H
        obtain ⟨c8b0, c8b1⟩ := eqf_ c8
        by_cases c9 : a0 = 41
        ·rw [if_pos c9] at H
         obtain ⟨c9b0, c9b1⟩ := eqt_ c9
         clear c9
         have H' := Aside0.mk H
         clear H
         go_wp2
         go_meet
         case rel => exact ⟨_, ((a0 == 41)), y7_, H', ⟨y19_⟩, y10_⟩
        ·rw [if_neg c9] at H
         obtain ⟨c9b0, c9b1⟩ := eqf_ c9
         have H' := Aside0.mk H
         clear H
         go_wp2
         go_meet
         case rel => exact ⟨_, ((a0 == 42)), y7_, H', ⟨y19_⟩, y10_⟩
 case rest =>
  clear HC2
  try clear p2
  try clear c3
  try clear c3b0
  try clear c3b1
  try clear c4
  try clear c4b0
  try clear c4b1
  try clear c5
  try clear c5b0
  try clear c5b1
  try clear c6
  try clear c6b0
  try clear c6b1
  try clear c7
  try clear c7b0
  try clear c7b1
  try clear c8
  try clear c8b0
  try clear c8b1
  try clear c9
  try clear c9b0
  try clear c9b1
  obtain ⟨kq, x4_1, rfl, HA, HJ1, ⟨mc1, rfl⟩⟩ := hcut
  cases kq with
  | zero => exact absurd HA.out (by simp [pouchref05_Type.j0])
  | succ kj1 =>
   have H := HA.out
   clear HA
   simp only [pouchref05_Type.j0] at H
   by_cases c10 : x4_1 = true
   ·subst c10
    have H1 : (some 1) = some r := by rw [if_pos rfl] at H; exact H
    clear H
    have H := H1
    clear H1
    obtain rfl := Option.some.inj H
    go_wp2
    go_ret
    exact ⟨y7_, y10_⟩
   ·replace c10 := Bool.eq_false_iff.mpr c10
    subst c10
    replace H : (if a0 = 19 then (pouchref05_Type.j1 kj1 a0 (a0 == 19)) else (if a0 = 33 then (pouchref05_Type.j1 kj1 a0 (a0 == 33)) else (if a0 = 34 then (pouchref05_Type.j1 kj1 a0 (a0 == 34)) else (pouchref05_Type.j1 kj1 a0 (a0 == 35))))) = some r := by rw [if_neg (show ¬ (false = true) by decide)] at H; exact H
    have HC11 := Aside0.mk H
    clear H
    go_upto_if 13 with (fail)
    go_cut [13] (fun v13 wc => ∃ (kq : Nat) (x13_10 : Bool), v13 = .bool x13_10 ∧ Aside0 (pouchref05_Type.j1 kq a0 x13_10 = some r) ∧ Aside0 (kq ≤ kj1) ∧ Drawn0 w wc)
    case first =>
     have H := HC11.out
     clear HC11
     by_cases c12 : a0 = 19
     ·rw [if_pos c12] at H
      obtain ⟨c12b0, c12b1⟩ := eqt_ c12
      clear c12
      (first | rw [c12b0] | (simp only [i64_w, i32_w]; rw [c12b0]) | skip)
      have H' := Aside0.mk H
      clear H
      go_wp2
      go_meet
      case rel => exact ⟨_, ((a0 == 19)), y7_, H', ⟨z67z2⟩, y10_⟩
     ·rw [if_neg c12] at H
      obtain ⟨c12b0, c12b1⟩ := eqf_ c12
      (first | rw [c12b0] | (simp only [i64_w, i32_w]; rw [c12b0]) | skip)
      by_cases c13 : a0 = 33
      ·rw [if_pos c13] at H
       obtain ⟨c13b0, c13b1⟩ := eqt_ c13
       clear c13
       have H' := Aside0.mk H
       clear H
       go_wp2
       go_meet
       case rel => exact ⟨_, ((a0 == 33)), y7_, H', ⟨z67z2⟩, y10_⟩
      ·rw [if_neg c13] at H
       obtain ⟨c13b0, c13b1⟩ := eqf_ c13
       by_cases c14 : a0 = 34
       ·rw [if_pos c14] at H
        obtain ⟨c14b0, c14b1⟩ := eqt_ c14
        clear c14
        have H' := Aside0.mk H
        clear H
        go_wp2
        go_meet
        case rel => exact ⟨_, ((a0 == 34)), y7_, H', ⟨z67z2⟩, y10_⟩
       ·rw [if_neg c14] at H
        obtain ⟨c14b0, c14b1⟩ := eqf_ c14
        have H' := Aside0.mk H
        clear H
        go_wp2
        go_meet
        case rel => exact ⟨_, ((a0 == 35)), y7_, H', ⟨z67z2⟩, y10_⟩
    case rest =>
     clear HC11
     try clear c1
     try clear p2
     try clear c3
     try clear c3b0
     try clear c3b1
     try clear c4
     try clear c4b0
     try clear c4b1
     try clear c5
     try clear c5b0
     try clear c5b1
     try clear c6
     try clear c6b0
     try clear c6b1
     try clear c7
     try clear c7b0
     try clear c7b1
     try clear c8
     try clear c8b0
     try clear c8b1
     try clear c9
     try clear c9b0
     try clear c9b1
     try clear c10
     try clear c12
     try clear c12b0
     try clear c12b1
     try clear c13
     try clear c13b0
     try clear c13b1
     try clear c14
     try clear c14b0
     try clear c14b1
     try clear p2
     obtain ⟨kq, x13_10, rfl, HA, HJ10, ⟨mc10, rfl⟩⟩ := hcut
     cases kq with
     | zero => exact absurd HA.out (by simp [pouchref05_Type.j1])
     | succ kj10 =>
      have H := HA.out
      clear HA
      simp only [pouchref05_Type.j1] at H
      by_cases c15 : x13_10 = true
      ·subst c15
       have H1 : (some 2) = some r := by rw [if_pos rfl] at H; exact H
       clear H
       have H := H1
       clear H1
       obtain rfl := Option.some.inj H
       go_wp2
       go_ret
       exact ⟨y7_, y10_⟩
      ·replace c15 := Bool.eq_false_iff.mpr c15
       subst c15
       replace H : (if a0 = 2 then (pouchref05_Type.j2 kj10 a0 (a0 == 2)) else (if a0 = 17 then (pouchref05_Type.j2 kj10 a0 (a0 == 17)) else (if a0 = 24 then (pouchref05_Type.j2 kj10 a0 (a0 == 24)) else (pouchref05_Type.j2 kj10 a0 (a0 == 39))))) = some r := by rw [if_neg (show ¬ (false = true) by decide)] at H; exact H
       have HC16 := Aside0.mk H
       clear H
       go_upto_if 18 with (fail)
       go_cut [18] (fun v18 wc => ∃ (kq : Nat) (x18_15 : Bool), v18 = .bool x18_15 ∧ Aside0 (pouchref05_Type.j2 kq a0 x18_15 = some r) ∧ Aside0 (kq ≤ kj10) ∧ Drawn0 w wc)
       case first =>
        have H := HC16.out
        clear HC16
        by_cases c17 : a0 = 2
        ·rw [if_pos c17] at H
         obtain ⟨c17b0, c17b1⟩ := eqt_ c17
         clear c17
         (first | rw [c17b0] | (simp only [i64_w, i32_w]; rw [c17b0]) | skip)
         have H' := Aside0.mk H
         clear H
         go_wp2
         go_meet
         case rel => exact ⟨_, ((a0 == 2)), y7_, H', ⟨z67z1⟩, y10_⟩
        ·rw [if_neg c17] at H
         obtain ⟨c17b0, c17b1⟩ := eqf_ c17
         (first | rw [c17b0] | (simp only [i64_w, i32_w]; rw [c17b0]) | skip)
         by_cases c18 : a0 = 17
         ·rw [if_pos c18] at H
          obtain ⟨c18b0, c18b1⟩ := eqt_ c18
          clear c18
          have H' := Aside0.mk H
          clear H
          go_wp2
          go_meet
          case rel => exact ⟨_, ((a0 == 17)), y7_, H', ⟨z67z1⟩, y10_⟩
         ·rw [if_neg c18] at H
          obtain ⟨c18b0, c18b1⟩ := eqf_ c18
          by_cases c19 : a0 = 24
          ·rw [if_pos c19] at H
           obtain ⟨c19b0, c19b1⟩ := eqt_ c19
           clear c19
           have H' := Aside0.mk H
           clear H
           go_wp2
           go_meet
           case rel => exact ⟨_, ((a0 == 24)), y7_, H', ⟨z67z1⟩, y10_⟩
          ·rw [if_neg c19] at H
           obtain ⟨c19b0, c19b1⟩ := eqf_ c19
           have H' := Aside0.mk H
           clear H
           go_wp2
           go_meet
           case rel => exact ⟨_, ((a0 == 39)), y7_, H', ⟨z67z1⟩, y10_⟩
       case rest =>
        clear HC16
        try clear c1
        try clear p2
        try clear c3
        try clear c3b0
        try clear c3b1
        try clear c4
        try clear c4b0
        try clear c4b1
        try clear c5
        try clear c5b0
        try clear c5b1
        try clear c6
        try clear c6b0
        try clear c6b1
        try clear c7
        try clear c7b0
        try clear c7b1
        try clear c8
        try clear c8b0
        try clear c8b1
        try clear c9
        try clear c9b0
        try clear c9b1
        try clear c10
        try clear c12
        try clear c12b0
        try clear c12b1
        try clear c13
        try clear c13b0
        try clear c13b1
        try clear c14
        try clear c14b0
        try clear c14b1
        try clear c15
        try clear c17
        try clear c17b0
        try clear c17b1
        try clear c18
        try clear c18b0
        try clear c18b1
        try clear c19
        try clear c19b0
        try clear c19b1
        try clear p2
        obtain ⟨kq, x18_15, rfl, HA, HJ15, ⟨mc15, rfl⟩⟩ := hcut
        cases kq with
        | zero => exact absurd HA.out (by simp [pouchref05_Type.j2])
        | succ kj15 =>
         have H := HA.out
         clear HA
         simp only [pouchref05_Type.j2] at H
         by_cases c20 : x18_15 = true
         ·subst c20
          have H1 : (some 3) = some r := by rw [if_pos rfl] at H; exact H
          clear H
          have H := H1
          clear H1
          obtain rfl := Option.some.inj H
          go_wp2
          go_ret
          exact ⟨y7_, y10_⟩
         ·replace c20 := Bool.eq_false_iff.mpr c20
          subst c20
          replace H : (if a0 = 11 then (some 4) else (if a0 = 3 then (pouchref05_Type.j3 kj15 a0 (a0 == 3)) else (if a0 = 8 then (pouchref05_Type.j3 kj15 a0 (a0 == 8)) else (if a0 = 18 then (pouchref05_Type.j3 kj15 a0 (a0 == 18)) else (if a0 = 21 then (pouchref05_Type.j3 kj15 a0 (a0 == 21)) else (if a0 = 26 then (pouchref05_Type.j3 kj15 a0 (a0 == 26)) else (if a0 = 28 then (pouchref05_Type.j3 kj15 a0 (a0 == 28)) else (pouchref05_Type.j3 kj15 a0 (a0 == 31))))))))) = some r := by rw [if_neg (show ¬ (false = true) by decide)] at H; exact H
          by_cases c21 : a0 = 11
          ·rw [if_pos c21] at H
           obtain ⟨c21b0, c21b1⟩ := eqt_ c21
           clear c21
           obtain rfl := Option.some.inj H
           go_wp2
           go_ret
           exact ⟨y7_, y10_⟩
          ·rw [if_neg c21] at H
           obtain ⟨c21b0, c21b1⟩ := eqf_ c21
           have HC22 := Aside0.mk H
           clear H
           go_upto_if 25 with (fail)
           go_cut [25] (fun v25 wc => ∃ (kq : Nat) (x25_21 : Bool), v25 = .bool x25_21 ∧ Aside0 (pouchref05_Type.j3 kq a0 x25_21 = some r) ∧ Aside0 (kq ≤ kj15) ∧ Drawn0 w wc)
           case first =>
            have H := HC22.out
            clear HC22
            by_cases c23 : a0 = 3
            ·rw [if_pos c23] at H
             obtain ⟨c23b0, c23b1⟩ := eqt_ c23
             clear c23
             (first | rw [c23b0] | (simp only [i64_w, i32_w]; rw [c23b0]) | skip)
             have H' := Aside0.mk H
             clear H
             go_wp2
             go_meet
             case rel => exact ⟨_, ((a0 == 3)), y7_, H', ⟨z67z0⟩, y10_⟩
            ·rw [if_neg c23] at H
             obtain ⟨c23b0, c23b1⟩ := eqf_ c23
             (first | rw [c23b0] | (simp only [i64_w, i32_w]; rw [c23b0]) | skip)
             by_cases c24 : a0 = 8
             ·rw [if_pos c24] at H
              obtain ⟨c24b0, c24b1⟩ := eqt_ c24
              clear c24
              have H' := Aside0.mk H
              clear H
              go_wp2
              go_meet
              case rel => exact ⟨_, ((a0 == 8)), y7_, H', ⟨z67z0⟩, y10_⟩
             ·rw [if_neg c24] at H
              obtain ⟨c24b0, c24b1⟩ := eqf_ c24
              by_cases c25 : a0 = 18
              ·rw [if_pos c25] at H
               obtain ⟨c25b0, c25b1⟩ := eqt_ c25
               clear c25
               have H' := Aside0.mk H
               clear H
               go_wp2
               go_meet
               case rel => exact ⟨_, ((a0 == 18)), y7_, H', ⟨z67z0⟩, y10_⟩
              ·rw [if_neg c25] at H
               obtain ⟨c25b0, c25b1⟩ := eqf_ c25
               by_cases c26 : a0 = 21
               ·rw [if_pos c26] at H
                obtain ⟨c26b0, c26b1⟩ := eqt_ c26
                clear c26
                have H' := Aside0.mk H
                clear H
                go_wp2
                go_meet
                case rel => exact ⟨_, ((a0 == 21)), y7_, H', ⟨z67z0⟩, y10_⟩
               ·rw [if_neg c26] at H
                obtain ⟨c26b0, c26b1⟩ := eqf_ c26
                by_cases c27 : a0 = 26
                ·rw [if_pos c27] at H
                 obtain ⟨c27b0, c27b1⟩ := eqt_ c27
                 clear c27
                 have H' := Aside0.mk H
                 clear H
                 go_wp2
                 go_meet
                 case rel => exact ⟨_, ((a0 == 26)), y7_, H', ⟨z67z0⟩, y10_⟩
                ·rw [if_neg c27] at H
                 obtain ⟨c27b0, c27b1⟩ := eqf_ c27
                 by_cases c28 : a0 = 28
                 ·rw [if_pos c28] at H
                  obtain ⟨c28b0, c28b1⟩ := eqt_ c28
                  clear c28
                  have H' := Aside0.mk H
                  clear H
                  go_wp2
                  go_meet
                  case rel => exact ⟨_, ((a0 == 28)), y7_, H', ⟨z67z0⟩, y10_⟩
                 ·rw [if_neg c28] at H
                  obtain ⟨c28b0, c28b1⟩ := eqf_ c28
                  have H' := Aside0.mk H
                  clear H
                  go_wp2
                  go_meet
                  case rel => exact ⟨_, ((a0 == 31)), y7_, H', ⟨z67z0⟩, y10_⟩
           case rest =>
            clear HC22
            try clear c1
            try clear c2
            try clear p2
            try clear c3
            try clear c3b0
            try clear c3b1
            try clear c4
            try clear c4b0
            try clear c4b1
            try clear c5
            try clear c5b0
            try clear c5b1
            try clear c6
            try clear c6b0
            try clear c6b1
            try clear c7
            try clear c7b0
            try clear c7b1
            try clear c8
            try clear c8b0
            try clear c8b1
            try clear c9
            try clear c9b0
            try clear c9b1
            try clear c10
            try clear c12
            try clear c12b0
            try clear c12b1
            try clear c13
            try clear c13b0
            try clear c13b1
            try clear c14
            try clear c14b0
            try clear c14b1
            try clear c15
            try clear c17
            try clear c17b0
            try clear c17b1
            try clear c18
            try clear c18b0
            try clear c18b1
            try clear c19
            try clear c19b0
            try clear c19b1
            try clear c20
            try clear c21
            try clear c21b0
            try clear c21b1
            try clear c23
            try clear c23b0
            try clear c23b1
            try clear c24
            try clear c24b0
            try clear c24b1
            try clear c25
            try clear c25b0
            try clear c25b1
            try clear c26
            try clear c26b0
            try clear c26b1
            try clear c27
            try clear c27b0
            try clear c27b1
            try clear c28
            try clear c28b0
            try clear c28b1
            try clear p2
            obtain ⟨kq, x25_21, rfl, HA, HJ21, ⟨mc21, rfl⟩⟩ := hcut
            cases kq with
            | zero => exact absurd HA.out (by simp [pouchref05_Type.j3])
            | succ kj21 =>
             have H := HA.out
             clear HA
             simp only [pouchref05_Type.j3] at H
             by_cases c29 : x25_21 = true
             ·subst c29
              have H1 : (some 5) = some r := by rw [if_pos rfl] at H; exact H
              clear H
              have H := H1
              clear H1
              obtain rfl := Option.some.inj H
              go_wp2
              go_ret
              exact ⟨y7_, y10_⟩
             ·replace c29 := Bool.eq_false_iff.mpr c29
              subst c29
              replace H : (if a0 = 9 then (pouchref05_Type.j4 kj21 a0 (a0 == 9)) else (pouchref05_Type.j4 kj21 a0 (a0 == 22))) = some r := by rw [if_neg (show ¬ (false = true) by decide)] at H; exact H
              have HC30 := Aside0.mk H
              clear H
              go_upto_if 33 with (fail)
              go_cut [33] (fun v33 wc => ∃ (kq : Nat) (x33_29 : Bool), v33 = .bool x33_29 ∧ Aside0 (pouchref05_Type.j4 kq a0 x33_29 = some r) ∧ Aside0 (kq ≤ kj21) ∧ Drawn0 w wc)
              case first =>
               have H := HC30.out
               clear HC30
               by_cases c31 : a0 = 9
               ·rw [if_pos c31] at H
                obtain ⟨c31b0, c31b1⟩ := eqt_ c31
                clear c31
                (first | rw [c31b0] | (simp only [i64_w, i32_w]; rw [c31b0]) | skip)
                have H' := Aside0.mk H
                clear H
                go_wp2
                go_meet
                case rel => exact ⟨_, ((a0 == 9)), y7_, H', ⟨z67z3⟩, y10_⟩
               ·rw [if_neg c31] at H
                obtain ⟨c31b0, c31b1⟩ := eqf_ c31
                (first | rw [c31b0] | (simp only [i64_w, i32_w]; rw [c31b0]) | skip)
                have H' := Aside0.mk H
                clear H
                go_wp2
                go_meet
                case rel => exact ⟨_, ((a0 == 22)), y7_, H', ⟨z67z3⟩, y10_⟩
              case rest =>
               clear HC30
               try clear c1
               try clear c2
               try clear p2
               try clear c3
               try clear c3b0
               try clear c3b1
               try clear c4
               try clear c4b0
               try clear c4b1
               try clear c5
               try clear c5b0
               try clear c5b1
               try clear c6
               try clear c6b0
               try clear c6b1
               try clear c7
               try clear c7b0
               try clear c7b1
               try clear c8
               try clear c8b0
               try clear c8b1
               try clear c9
               try clear c9b0
               try clear c9b1
               try clear c10
               try clear c12
               try clear c12b0
               try clear c12b1
               try clear c13
               try clear c13b0
               try clear c13b1
               try clear c14
               try clear c14b0
               try clear c14b1
               try clear c15
               try clear c17
               try clear c17b0
               try clear c17b1
               try clear c18
               try clear c18b0
               try clear c18b1
               try clear c19
               try clear c19b0
               try clear c19b1
               try clear c20
               try clear c21
               try clear c21b0
               try clear c21b1
               try clear c23
               try clear c23b0
               try clear c23b1
               try clear c24
               try clear c24b0
               try clear c24b1
               try clear c25
               try clear c25b0
               try clear c25b1
               try clear c26
               try clear c26b0
               try clear c26b1
               try clear c27
               try clear c27b0
               try clear c27b1
               try clear c28
               try clear c28b0
               try clear c28b1
               try clear c29
               try clear c31
               try clear c31b0
               try clear c31b1
               try clear p2
               obtain ⟨kq, x33_29, rfl, HA, HJ29, ⟨mc29, rfl⟩⟩ := hcut
               cases kq with
               | zero => exact absurd HA.out (by simp [pouchref05_Type.j4])
               | succ kj29 =>
                have H := HA.out
                clear HA
                simp only [pouchref05_Type.j4] at H
                by_cases c32 : x33_29 = true
                ·subst c32
                 have H1 : (some 6) = some r := by rw [if_pos rfl] at H; exact H
                 clear H
                 have H := H1
                 clear H1
                 obtain rfl := Option.some.inj H
                 go_wp2
                 go_ret
                 exact ⟨y7_, y10_⟩
                ·replace c32 := Bool.eq_false_iff.mpr c32
                 subst c32
                 replace H : (if a0 = 38 then (some 7) else (some 0)) = some r := by rw [if_neg (show ¬ (false = true) by decide)] at H; exact H
                 by_cases c33 : a0 = 38
                 ·rw [if_pos c33] at H
                  obtain ⟨c33b0, c33b1⟩ := eqt_ c33
                  clear c33
                  obtain rfl := Option.some.inj H
                  go_wp2
                  go_ret
                  exact ⟨y7_, y10_⟩
                 ·rw [if_neg c33] at H
                  obtain ⟨c33b0, c33b1⟩ := eqf_ c33
                  obtain rfl := Option.some.inj H
                  go_wp2
                  go_ret
                  exact ⟨y7_, y10_⟩
end Go.Proofs.YtkmkgpigmldhnaaDoor.P
namespace Go.Proofs.YtkmkgpigmldhnaaDoor.P
open Go.RowKit Go.Proofs.YtkmkgpigmldhnaaDoorW.PrintWords Go.Proofs.YtkmkgpigmldhnaaDoorW.PrintLast Go.Proofs.YtkmkgpigmldhnaaDoorW.PrintMore
attribute [local go_sem] max2_int min2_int max_two min_two max_three min_three max_four min_four
mutual
def pouchref02_sign.j0 : Nat → ByteArray → Int → Int → Int → Int → Int → Option (Int × Int)
  | 0, _, _, _, _, _, _ => none
  | k + 1, x0, x1, x6, x7, x8, x9 => if x6 ≥ 248 then (pouchref02_sign.j1 k x0 x1 x7 x8 x9 true) else (pouchref02_sign.j1 k x0 x1 x7 x8 x9 (decide ((wrap64 (x1 + x7)) > (x0.size : Int))))
def pouchref02_sign.j1 : Nat → ByteArray → Int → Int → Int → Int → Bool → Option (Int × Int)
  | 0, _, _, _, _, _, _ => none
  | k + 1, x0, x1, x7, x8, x9, x40 => if x40 = true then (some (0, 0)) else (pouchref02_sign.l0 k x0 x1 x7 x8 x9 1)
def pouchref02_sign.l0 : Nat → ByteArray → Int → Int → Int → Int → Int → Option (Int × Int)
  | 0, _, _, _, _, _, _ => none
  | k + 1, x0, x1, x7, x8, x9, x10 => if x10 < x7 then (if 0 ≤ (wrap64 (x1 + x10)) then (if (wrap64 (x1 + x10)) < (x0.size : Int) then (if (wrap64 (bt x0 (wrap64 (x1 + x10)))) < 128 then (some (0, 0)) else (if (wrap64 (bt x0 (wrap64 (x1 + x10)))) ≥ 192 then (some (0, 0)) else (pouchref02_sign.l0 k x0 x1 x7 (wrap64 ((wrap64 ((wrap64 (64 * x8)) + (wrap64 (bt x0 (wrap64 (x1 + x10)))))) - 128)) x9 (wrap64 (x10 + 1))))) else (none)) else (none)) else (if x8 < x9 then (some (0, 0)) else (if x8 > 1114111 then (some (0, 0)) else (if x8 ≥ 55296 then (if x8 ≤ 57343 then (some (0, 0)) else (some (x8, x7))) else (some (x8, x7)))))
end
def pouchref02_sign.f (k : Nat) (a0 : ByteArray) (a1 : Int) : Option (Int × Int) := if 0 ≤ a1 then (if a1 < (a0.size : Int) then (if (wrap64 (bt a0 a1)) ≥ 240 then (pouchref02_sign.j0 k a0 a1 (wrap64 (bt a0 a1)) 4 (wrap64 ((wrap64 (bt a0 a1)) - 240)) 65536) else (if (wrap64 (bt a0 a1)) ≥ 224 then (pouchref02_sign.j0 k a0 a1 (wrap64 (bt a0 a1)) 3 (wrap64 ((wrap64 (bt a0 a1)) - 224)) 2048) else (if (wrap64 (bt a0 a1)) ≥ 192 then (pouchref02_sign.j0 k a0 a1 (wrap64 (bt a0 a1)) 2 (wrap64 ((wrap64 (bt a0 a1)) - 192)) 128) else (if (wrap64 (bt a0 a1)) ≥ 128 then (some (0, 0)) else (pouchref02_sign.j0 k a0 a1 (wrap64 (bt a0 a1)) 1 (wrap64 (bt a0 a1)) 1))))) else (none)) else (none)
theorem z105m0 {p : Prop} (h : p := by
 repeat' first
 | (with_reducible exact ih0 _ _ _ _ _ _)
 | (with_reducible exact ih1 _ _ _ _ _ _)
 | (with_reducible exact ih2 _ _ _ _ _ _)
 | (with_reducible exact LeO.refl _)
 | (with_reducible exact LeO.none _)
 | (with_reducible refine LeO.ite ?_ ?_)
 | (with_reducible refine LeO.bind ?_ (fun _ => ?_))
 | exact ih0 _ _ _ _ _ _
 | exact ih1 _ _ _ _ _ _
 | exact ih2 _ _ _ _ _ _
 | exact LeO.none _
 | refine LeO.ite ?_ ?_
 | refine LeO.bind ?_ (fun _ => ?_)) : p := h
theorem pouchref02_sign.mono_l : ∀ k, (∀ y0 y1 y2 y3 y4 y5, LeO (pouchref02_sign.j0 k y0 y1 y2 y3 y4 y5) (pouchref02_sign.j0 (k + 1) y0 y1 y2 y3 y4 y5)) ∧ (∀ y0 y1 y2 y3 y4 y5, LeO (pouchref02_sign.j1 k y0 y1 y2 y3 y4 y5) (pouchref02_sign.j1 (k + 1) y0 y1 y2 y3 y4 y5)) ∧ (∀ y0 y1 y2 y3 y4 y5, LeO (pouchref02_sign.l0 k y0 y1 y2 y3 y4 y5) (pouchref02_sign.l0 (k + 1) y0 y1 y2 y3 y4 y5))
  | 0 => ⟨fun _ _ _ _ _ _ r h => by simp [pouchref02_sign.j0] at h, fun _ _ _ _ _ _ r h => by simp [pouchref02_sign.j1] at h, fun _ _ _ _ _ _ r h => by simp [pouchref02_sign.l0] at h⟩
  | k + 1 => by
    obtain ⟨ih0, ih1, ih2⟩ := pouchref02_sign.mono_l k
    refine ⟨?_, ?_, ?_⟩
    · intro y0 y1 y2 y3 y4 y5
      unfold pouchref02_sign.j0
      exact z105m0
    · intro y0 y1 y2 y3 y4 y5
      unfold pouchref02_sign.j1
      exact z105m0
    · intro y0 y1 y2 y3 y4 y5
      unfold pouchref02_sign.l0
      exact z105m0
theorem pouchref02_sign.mono : ∀ a0 a1 k, LeO (pouchref02_sign.f k a0 a1) (pouchref02_sign.f (k + 1) a0 a1) := by
  intro a0 a1 k
  obtain ⟨ih0, ih1, ih2⟩ := pouchref02_sign.mono_l k
  unfold pouchref02_sign.f
  exact z105m0
theorem z105z0 {p : Prop} (h : p := by first | rfl | (simp; done) | (simp only [← hji15] <;> (first | rfl | simp)) | (simp [*]; done)) : p := h
theorem pouchref02_sign.calls (k : Nat) (a0 : ByteArray) (a1 : Int) (r1 : Int) (r2 : Int) (w : World) (h : pouchref02_sign.f k a0 a1 = some (r1, r2)) :
  Calls Tryd.prog 105 #[.string a0, .int .i64 a1] w fun e w' => e = .returned (.tuple #[.int .i64 r1, .int .i64 r2]) ∧ Drawn0 w w' := by
 have H : (if 0 ≤ a1 then (if a1 < (a0.size : Int) then (if (wrap64 (bt a0 a1)) ≥ 240 then (pouchref02_sign.j0 k a0 a1 (wrap64 (bt a0 a1)) 4 (wrap64 ((wrap64 (bt a0 a1)) - 240)) 65536) else (if (wrap64 (bt a0 a1)) ≥ 224 then (pouchref02_sign.j0 k a0 a1 (wrap64 (bt a0 a1)) 3 (wrap64 ((wrap64 (bt a0 a1)) - 224)) 2048) else (if (wrap64 (bt a0 a1)) ≥ 192 then (pouchref02_sign.j0 k a0 a1 (wrap64 (bt a0 a1)) 2 (wrap64 ((wrap64 (bt a0 a1)) - 192)) 128) else (if (wrap64 (bt a0 a1)) ≥ 128 then (some (0, 0)) else (pouchref02_sign.j0 k a0 a1 (wrap64 (bt a0 a1)) 1 (wrap64 (bt a0 a1)) 1))))) else (none)) else (none)) = some (r1, r2) := h
 clear h
 by_cases c3 : 0 ≤ a1
 rotate_left
 ·rw [if_neg c3] at H
  exact absurd H (by simp)
 rw [if_pos c3] at H
 have c3b0 := decide_eq_true c3
 clear c3
 by_cases c4 : a1 < (a0.size : Int)
 rotate_left
 ·rw [if_neg c4] at H
  exact absurd H (by simp)
 rw [if_pos c4] at H
 have c4b0 := decide_eq_true c4
 clear c4
 have HC6 := Aside0.mk H
 clear H
 have p5 : 0 ≤ (a1 : Int) := of_decide_eq_true y5_
 have q5 : a1 < (a0.size : Int) := of_decide_eq_true y5_
 have hx5 := bt_at a0 a1
 replace p5 := eq_true p5
 replace q5 := eq_true q5
 go_enter Tryd.func105, Tryd.ntmps105
 go_upto_if 18 with (fail)
 go_cut [7, 8, 9] (fun v7 v8 v9 wc => ∃ (kq : Nat) (x7_5 : Int) (x8_5 : Int) (x9_5 : Int), v7 = .int .i64 x7_5 ∧ v8 = .int .i64 x8_5 ∧ v9 = .int .i64 x9_5 ∧ Aside0 (pouchref02_sign.j0 kq a0 a1 (wrap64 (bt a0 a1)) x7_5 x8_5 x9_5 = some (r1, r2)) ∧ Aside0 (kq ≤ k) ∧ Drawn0 w wc)
 case first =>
  have H := HC6.out
  clear HC6
  by_cases c7 : (wrap64 (bt a0 a1)) ≥ 240
  ·rw [if_pos c7] at H
   have c7b0 := decide_eq_true c7
   clear c7
   (first | rw [c7b0] | (simp only [i64_w, i32_w]; rw [c7b0]) | skip)
   have H' := Aside0.mk H
   clear H
   go_wp2
   go_meet
   case rel => exact ⟨_, (4), (wrap64 ((wrap64 (bt a0 a1)) - 240)), (65536), y7_, y7_, y7_, H', ⟨y19_⟩, y10_⟩
  ·rw [if_neg c7] at H
   have c7b0 := decide_eq_false c7
   clear c7
   (first | rw [c7b0] | (simp only [i64_w, i32_w]; rw [c7b0]) | skip)
   by_cases c8 : (wrap64 (bt a0 a1)) ≥ 224
   ·rw [if_pos c8] at H
    have c8b0 := decide_eq_true c8
    clear c8
    have H' := Aside0.mk H
    clear H
    go_wp2
    go_meet
    case rel => exact ⟨_, (3), (wrap64 ((wrap64 (bt a0 a1)) - 224)), (2048), y7_, y7_, y7_, H', ⟨y19_⟩, y10_⟩
   ·rw [if_neg c8] at H
    have c8b0 := decide_eq_false c8
    clear c8
    by_cases c9 : (wrap64 (bt a0 a1)) ≥ 192
    ·rw [if_pos c9] at H
     have c9b0 := decide_eq_true c9
     clear c9
     have H' := Aside0.mk H
     clear H
     go_wp2
     go_meet
     case rel => exact ⟨_, (2), (wrap64 ((wrap64 (bt a0 a1)) - 192)), (128), y7_, y7_, y7_, H', ⟨y19_⟩, y10_⟩
    ·rw [if_neg c9] at H
     have c9b0 := decide_eq_false c9
     clear c9
     by_cases c10 : (wrap64 (bt a0 a1)) ≥ 128
     ·rw [if_pos c10] at H
      have c10b0 := decide_eq_true c10
      clear c10
      simp only [Option.some.injEq, Prod.mk.injEq] at H
      obtain ⟨rfl, rfl⟩ := H
      go_wp2
      go_ret2
      exact ⟨y7_, y10_⟩
     ·rw [if_neg c10] at H
      have c10b0 := decide_eq_false c10
      clear c10
      have H' := Aside0.mk H
      clear H
      go_wp2
      go_meet
      case rel => exact ⟨_, (1), (wrap64 (bt a0 a1)), (1), y7_, y7_, y7_, H', ⟨y19_⟩, y10_⟩
 case rest =>
  clear HC6
  try clear c1
  try clear p2
  try clear c3
  try clear c3b0
  try clear c4
  try clear c4b0
  try clear p5
  try clear q5
  try clear hx5
  try clear p6
  try clear c7
  try clear c7b0
  try clear c8
  try clear c8b0
  try clear c9
  try clear c9b0
  try clear c10
  try clear c10b0
  try clear p5
  try clear q5
  obtain ⟨kq, x7_5, x8_5, x9_5, rfl, rfl, rfl, HA, HJ5, ⟨mc5, rfl⟩⟩ := hcut
  cases kq with
  | zero => exact absurd HA.out (by simp [pouchref02_sign.j0])
  | succ kj5 =>
   have H := HA.out
   clear HA
   simp only [pouchref02_sign.j0] at H
   have HC11 := Aside0.mk H
   clear H
   go_upto_region 11 with (fail)
   go_cut [40] (fun v40 wc => ∃ (kq : Nat) (x40_10 : Bool), v40 = .bool x40_10 ∧ Aside0 (pouchref02_sign.j1 kq a0 a1 x7_5 x8_5 x9_5 x40_10 = some (r1, r2)) ∧ Aside0 (kq ≤ kj5) ∧ Drawn0 w wc)
   case first =>
    have H := HC11.out
    clear HC11
    by_cases c12 : (wrap64 (bt a0 a1)) ≥ 248
    ·rw [if_pos c12] at H
     have c12b0 := decide_eq_true c12
     clear c12
     (first | rw [c12b0] | (simp only [i64_w, i32_w]; rw [c12b0]) | skip)
     have H' := Aside0.mk H
     clear H
     go_wp2
     go_meet
     case rel => exact ⟨_, (true), y7_, H', ⟨by have := HJ5.out; first | omega | exact Nat.le_refl _⟩, y10_⟩
    ·rw [if_neg c12] at H
     have c12b0 := decide_eq_false c12
     clear c12
     (first | rw [c12b0] | (simp only [i64_w, i32_w]; rw [c12b0]) | skip)
     have H' := Aside0.mk H
     clear H
     go_wp2
     go_meet
     case rel => exact ⟨_, (decide ((wrap64 (a1 + x7_5)) > (a0.size : Int))), y7_, H', ⟨by have := HJ5.out; first | omega | exact Nat.le_refl _⟩, y10_⟩
   case rest =>
    clear HC11
    try clear c1
    try clear p2
    try clear c3
    try clear c3b0
    try clear c4
    try clear c4b0
    try clear c5
    try clear p5
    try clear q5
    try clear hx5
    try clear p6
    try clear c7
    try clear c7b0
    try clear c8
    try clear c8b0
    try clear c9
    try clear c9b0
    try clear c10
    try clear c10b0
    try clear c12
    try clear c12b0
    try clear p2
    try clear p5
    try clear p6
    try clear q5
    obtain ⟨kq, x40_10, rfl, HA, HJ10, ⟨mc10, rfl⟩⟩ := hcut
    cases kq with
    | zero => exact absurd HA.out (by simp [pouchref02_sign.j1])
    | succ kj10 =>
     have H := HA.out
     clear HA
     simp only [pouchref02_sign.j1] at H
     by_cases c13 : x40_10 = true
     ·subst c13
      have H1 : (some (0, 0)) = some (r1, r2) := by rw [if_pos rfl] at H; exact H
      clear H
      have H := H1
      clear H1
      simp only [Option.some.injEq, Prod.mk.injEq] at H
      obtain ⟨rfl, rfl⟩ := H
      go_wp2
      go_ret2
      exact ⟨y7_, y10_⟩
     ·replace c13 := Bool.eq_false_iff.mpr c13
      subst c13
      replace H : (pouchref02_sign.l0 kj10 a0 a1 x7_5 x8_5 x9_5 1) = some (r1, r2) := by rw [if_neg (show ¬ (false = true) by decide)] at H; exact H
      have H' := Aside0.mk H
      clear H
      go_wp2
      go_loopg [8, 10] kj10 (fun kq v8 v10 w' => ∃ (x8_3 : Int) (x10_3 : Int), v8 = .int .i64 x8_3 ∧ v10 = .int .i64 x10_3 ∧ Aside0 (pouchref02_sign.l0 kq a0 a1 x7_5 x8_3 x9_5 x10_3 = some (r1, r2)) ∧ Aside0 (kq ≤ kj10) ∧ Drawn0 w w')
      case atStart => exact ⟨(x8_5), (1), y7_, y7_, H', ⟨Nat.le_refl _⟩, y10_⟩
      case round =>
       clear H'
       try clear c1
       try clear p2
       try clear c3
       try clear c3b0
       try clear c4
       try clear c4b0
       try clear c5
       try clear p5
       try clear q5
       try clear hx5
       try clear p6
       try clear c7
       try clear c7b0
       try clear c8
       try clear c8b0
       try clear c9
       try clear c9b0
       try clear c10
       try clear c10b0
       try clear c12
       try clear c12b0
       try clear c13
       try clear p2
       try clear p5
       try clear p6
       try clear q5
       obtain ⟨x8_3, x10_3, rfl, rfl, HA, HK3, ⟨m3, rfl⟩⟩ := hrel
       cases gk with
       | zero => exact absurd HA.out (by simp [pouchref02_sign.l0])
       | succ k3 =>
        have H := HA.out
        clear HA
        simp only [pouchref02_sign.l0] at H
        by_cases c14 : x10_3 < x7_5
        ·rw [if_pos c14] at H
         have c14b0 := decide_eq_true c14
         clear c14
         obtain ⟨ji15, hji15⟩ : ∃ j_ : Int, (wrap64 (a1 + x10_3)) = j_ := ⟨_, rfl⟩
         replace H : (if 0 ≤ (ji15) then (if (ji15) < (a0.size : Int) then (if (wrap64 (bt a0 (ji15))) < 128 then (some (0, 0)) else (if (wrap64 (bt a0 (ji15))) ≥ 192 then (some (0, 0)) else (pouchref02_sign.l0 k3 a0 a1 x7_5 (wrap64 ((wrap64 ((wrap64 (64 * x8_3)) + (wrap64 (bt a0 (ji15))))) - 128)) x9_5 (wrap64 (x10_3 + 1))))) else (none)) else (none)) = some (r1, r2) := by first | (rw [hji15] at H; exact H) | (simp only [hji15] at H ⊢; exact H)
         have hji15w : (IntKind.i64.wrap (a1 + x10_3)) = ji15 := (i64_w _).trans hji15
         by_cases c16 : 0 ≤ (ji15)
         ·rw [if_pos c16] at H
          have c16b0 := decide_eq_true c16
          clear c16
          by_cases c17 : (ji15) < (a0.size : Int)
          ·rw [if_pos c17] at H
           have c17b0 := decide_eq_true c17
           clear c17
           by_cases c19 : (wrap64 (bt a0 (ji15))) < 128
           ·rw [if_pos c19] at H
            have c19b0 := decide_eq_true c19
            clear c19
            simp only [Option.some.injEq, Prod.mk.injEq] at H
            obtain ⟨rfl, rfl⟩ := H
            have p18 : 0 ≤ ((ji15) : Int) := of_decide_eq_true y5_
            have q18 : (ji15) < (a0.size : Int) := of_decide_eq_true y5_
            have hx18 := bt_at a0 (ji15)
            replace p18 := eq_true p18
            replace q18 := eq_true q18
            go_wp2
            go_ret2
            exact ⟨z105z0, y10_⟩
           ·rw [if_neg c19] at H
            have c19b0 := decide_eq_false c19
            clear c19
            by_cases c20 : (wrap64 (bt a0 (ji15))) ≥ 192
            ·rw [if_pos c20] at H
             have c20b0 := decide_eq_true c20
             clear c20
             simp only [Option.some.injEq, Prod.mk.injEq] at H
             obtain ⟨rfl, rfl⟩ := H
             have p18 : 0 ≤ ((ji15) : Int) := of_decide_eq_true y5_
             have q18 : (ji15) < (a0.size : Int) := of_decide_eq_true y5_
             have hx18 := bt_at a0 (ji15)
             replace p18 := eq_true p18
             replace q18 := eq_true q18
             go_wp2
             go_ret2
             exact ⟨z105z0, y10_⟩
            ·rw [if_neg c20] at H
             have c20b0 := decide_eq_false c20
             clear c20
             have H' := Aside0.mk H
             clear H
             have p18 : 0 ≤ ((ji15) : Int) := of_decide_eq_true y5_
             have q18 : (ji15) < (a0.size : Int) := of_decide_eq_true y5_
             have hx18 := bt_at a0 (ji15)
             replace p18 := eq_true p18
             replace q18 := eq_true q18
             go_wp2
             go_roundg k3
             case measure => have := HJ5.out; have := HJ10.out; have := HK3.out; omega
             case rel => exact ⟨(wrap64 ((wrap64 ((wrap64 (64 * x8_3)) + (wrap64 (bt a0 (ji15))))) - 128)), (wrap64 (x10_3 + 1)), z105z0, y7_, H', ⟨by have := HJ5.out; have := HJ10.out; have := HK3.out; omega⟩, y10_⟩
          ·rw [if_neg c17] at H
           exact absurd H (by simp)
         ·rw [if_neg c16] at H
          exact absurd H (by simp)
        ·rw [if_neg c14] at H
         have c14b0 := decide_eq_false c14
         clear c14
         by_cases c21 : x8_3 < x9_5
         ·rw [if_pos c21] at H
          have c21b0 := decide_eq_true c21
          clear c21
          simp only [Option.some.injEq, Prod.mk.injEq] at H
          obtain ⟨rfl, rfl⟩ := H
          go_wp2
          go_ret2
          exact ⟨y7_, y10_⟩
         ·rw [if_neg c21] at H
          have c21b0 := decide_eq_false c21
          clear c21
          by_cases c22 : x8_3 > 1114111
          ·rw [if_pos c22] at H
           have c22b0 := decide_eq_true c22
           clear c22
           simp only [Option.some.injEq, Prod.mk.injEq] at H
           obtain ⟨rfl, rfl⟩ := H
           go_wp2
           go_ret2
           exact ⟨y7_, y10_⟩
          ·rw [if_neg c22] at H
           have c22b0 := decide_eq_false c22
           clear c22
           by_cases c23 : x8_3 ≥ 55296
           ·rw [if_pos c23] at H
            have c23b0 := decide_eq_true c23
            clear c23
            by_cases c24 : x8_3 ≤ 57343
            ·rw [if_pos c24] at H
             have c24b0 := decide_eq_true c24
             clear c24
             simp only [Option.some.injEq, Prod.mk.injEq] at H
             obtain ⟨rfl, rfl⟩ := H
             go_wp2
             go_ret2
             exact ⟨y7_, y10_⟩
            ·rw [if_neg c24] at H
             have c24b0 := decide_eq_false c24
             clear c24
             simp only [Option.some.injEq, Prod.mk.injEq] at H
             obtain ⟨rfl, rfl⟩ := H
             go_wp2
             go_ret2
             exact ⟨y7_, y10_⟩
           ·rw [if_neg c23] at H
            have c23b0 := decide_eq_false c23
            clear c23
            simp only [Option.some.injEq, Prod.mk.injEq] at H
            obtain ⟨rfl, rfl⟩ := H
            go_wp2
            go_ret2
            exact ⟨y7_, y10_⟩
end Go.Proofs.YtkmkgpigmldhnaaDoor.P
namespace Go.Proofs.YtkmkgpigmldhnaaDoor.P
open Go.RowKit Go.Proofs.YtkmkgpigmldhnaaDoorW.PrintWords Go.Proofs.YtkmkgpigmldhnaaDoorW.PrintLast Go.Proofs.YtkmkgpigmldhnaaDoorW.PrintMore
attribute [local go_sem] max2_int min2_int max_two min_two max_three min_three max_four min_four
def pouchref02_Runes.l0 : Nat → ByteArray → Int → Int → Option (Int)
  | 0, _, _, _ => none
  | k + 1, x0, x3, x4 => if x4 < (x0.size : Int) then ((pouchref02_sign.f k x0 x4).bind fun bt101 => (if bt101.2 = 0 then (some (-1)) else (pouchref02_Runes.l0 k x0 (wrap64 (x3 + 1)) (wrap64 (x4 + bt101.2))))) else (some x3)
def pouchref02_Runes.f (k : Nat) (a0 : ByteArray) : Option (Int) := if (a0.size : Int) > 65535 then (some (-1)) else (pouchref02_Runes.l0 k a0 0 0)
theorem z93m0 {p : Prop} (h : p := by
 repeat' first
 | (with_reducible exact ih0 _ _ _)
 | (with_reducible exact pouchref02_sign.mono _ _ _)
 | (with_reducible exact LeO.refl _)
 | (with_reducible exact LeO.none _)
 | (with_reducible refine LeO.ite ?_ ?_)
 | (with_reducible refine LeO.bind ?_ (fun _ => ?_))
 | exact ih0 _ _ _
 | exact pouchref02_sign.mono _ _ _
 | exact LeO.none _
 | refine LeO.ite ?_ ?_
 | refine LeO.bind ?_ (fun _ => ?_)) : p := h
theorem pouchref02_Runes.mono_l : ∀ k, (∀ y0 y1 y2, LeO (pouchref02_Runes.l0 k y0 y1 y2) (pouchref02_Runes.l0 (k + 1) y0 y1 y2))
  | 0 => fun _ _ _ r h => by simp [pouchref02_Runes.l0] at h
  | k + 1 => by
    have ih0 := pouchref02_Runes.mono_l k
    · intro y0 y1 y2
      unfold pouchref02_Runes.l0
      exact z93m0
theorem pouchref02_Runes.mono : ∀ a0 k, LeO (pouchref02_Runes.f k a0) (pouchref02_Runes.f (k + 1) a0) := by
  intro a0 k
  have ih0 := pouchref02_Runes.mono_l k
  unfold pouchref02_Runes.f
  exact z93m0
theorem pouchref02_Runes.calls (k : Nat) (a0 : ByteArray) (r : Int) (w : World) (h : pouchref02_Runes.f k a0 = some r) :
    Calls Tryd.prog 93 #[.string a0] w fun e w' => e = .returned (.int .i64 r) ∧ Drawn0 w w' := by
  have H : (if (a0.size : Int) > 65535 then (some (-1)) else (pouchref02_Runes.l0 k a0 0 0)) = some r := h
  clear h
  by_cases c2 : (a0.size : Int) > 65535
  · rw [if_pos c2] at H
    have c2b0 := decide_eq_true c2
    have c2b1 : decide (65535 < a0.size) = true := decide_eq_true (by omega)
    clear c2
    obtain rfl := Option.some.inj H
    go_enter Tryd.func93, Tryd.ntmps93
    go_wp2
    go_ret
    exact ⟨y7_, y10_⟩
  · rw [if_neg c2] at H
    have c2b0 := decide_eq_false c2
    have c2b1 : decide (65535 < a0.size) = false := decide_eq_false (by omega)
    clear c2
    have H' := Aside0.mk H
    clear H
    go_enter Tryd.func93, Tryd.ntmps93
    go_wp2
    go_loopg [3, 4] k (fun kq v3 v4 w' => ∃ (x3_1 : Int) (x4_1 : Int), v3 = .int .i64 x3_1 ∧ v4 = .int .i64 x4_1 ∧ Aside0 (pouchref02_Runes.l0 kq a0 x3_1 x4_1 = some r) ∧ Aside0 (kq ≤ k) ∧ Drawn0 w w')
    case atStart => exact ⟨(0), (0), y7_, y7_, H', ⟨Nat.le_refl _⟩, y10_⟩
    case round =>
      clear H'
      try clear c2
      try clear c2b0
      try clear c2b1
      try clear p2
      obtain ⟨x3_1, x4_1, rfl, rfl, HA, HK1, ⟨m1, rfl⟩⟩ := hrel
      cases gk with
      | zero => exact absurd HA.out (by simp [pouchref02_Runes.l0])
      | succ k1 =>
        have H := HA.out
        clear HA
        simp only [pouchref02_Runes.l0] at H
        by_cases c3 : x4_1 < (a0.size : Int)
        · rw [if_pos c3] at H
          have c3b0 := decide_eq_true c3
          clear c3
          replace H := Option.bind_eq_some_iff.mp H
          obtain ⟨⟨t101, t102⟩, A40, H⟩ := H
          replace H : (if t102 = 0 then (some (-1)) else (pouchref02_Runes.l0 k1 a0 (wrap64 (x3_1 + 1)) (wrap64 (x4_1 + t102)))) = some r := H
          have A4 := Aside0.mk A40
          clear A40
          by_cases c5 : t102 = 0
          · rw [if_pos c5] at H
            obtain ⟨c5b0, c5b1⟩ := eqt_ c5
            clear c5
            obtain rfl := Option.some.inj H
            go_wp2_with (first | ((with_reducible refine gate_callee (f := 105) rfl ?_); refine goesL_ (some 17) rfl rfl Tryd.func105 (by kernel_rfl) rfl #[.string a0, .int .i64 x4_1] rfl y2_ ?_; (with_reducible refine (pouchref02_sign.calls k1 a0 x4_1 t101 t102 _ A4.out).mono ?_); rintro e w' ⟨rfl, ⟨nd, rfl⟩⟩; refine ⟨_, rfl, ?_⟩))
            go_ret
            exact ⟨y7_, y10_⟩
          · rw [if_neg c5] at H
            obtain ⟨c5b0, c5b1⟩ := eqf_ c5
            have H' := Aside0.mk H
            clear H
            go_wp2_with (first | ((with_reducible refine gate_callee (f := 105) rfl ?_); refine goesL_ (some 17) rfl rfl Tryd.func105 (by kernel_rfl) rfl #[.string a0, .int .i64 x4_1] rfl y2_ ?_; (with_reducible refine (pouchref02_sign.calls k1 a0 x4_1 t101 t102 _ A4.out).mono ?_); rintro e w' ⟨rfl, ⟨nd, rfl⟩⟩; refine ⟨_, rfl, ?_⟩))
            go_roundg k1
            case measure => have := HK1.out; omega
            case rel => exact ⟨(wrap64 (x3_1 + 1)), (wrap64 (x4_1 + t102)), y7_, y7_, H', ⟨y25_⟩, y10_⟩
        · rw [if_neg c3] at H
          have c3b0 := decide_eq_false c3
          clear c3
          obtain rfl := Option.some.inj H
          go_wp2
          go_ret
          exact ⟨y7_, y10_⟩
def pouchref02_Right.f (k : Nat) (a0 : ByteArray) : Option (Bool) := (pouchref02_Runes.f k a0).bind fun t101 => (some (decide (t101 ≥ 0)))
theorem pouchref02_Right.mono : ∀ a0 k, LeO (pouchref02_Right.f k a0) (pouchref02_Right.f (k + 1) a0) := by
  intro a0 k
  unfold pouchref02_Right.f
  repeat' first
      | (with_reducible exact pouchref02_Runes.mono _ _)
      | (with_reducible exact LeO.refl _)
      | (with_reducible exact LeO.none _)
      | (with_reducible refine LeO.ite ?_ ?_)
      | (with_reducible refine LeO.bind ?_ (fun _ => ?_))
      | exact pouchref02_Runes.mono _ _
      | exact LeO.none _
      | refine LeO.ite ?_ ?_
      | refine LeO.bind ?_ (fun _ => ?_)
theorem pouchref02_Right.calls (k : Nat) (a0 : ByteArray) (r : Bool) (w : World) (h : pouchref02_Right.f k a0 = some r) :
    Calls Tryd.prog 68 #[.string a0] w fun e w' => e = .returned (.bool r) ∧ Drawn0 w w' := by
  have H : ((pouchref02_Runes.f k a0).bind fun t101 => (some (decide (t101 ≥ 0)))) = some r := h
  clear h
  replace H := Option.bind_eq_some_iff.mp H
  obtain ⟨t101, A20, H⟩ := H
  replace H : (some (decide (t101 ≥ 0))) = some r := H
  have A2 := Aside0.mk A20
  clear A20
  obtain rfl := Option.some.inj H
  go_enter Tryd.func68, Tryd.ntmps68
  go_wp2_with (first | ((with_reducible refine gate_callee (f := 93) rfl ?_); refine goesL_ (some 4) rfl rfl Tryd.func93 (by kernel_rfl) rfl #[.string a0] rfl y2_ ?_; (with_reducible refine (pouchref02_Runes.calls k a0 t101 _ A2.out).mono ?_); rintro e w' ⟨rfl, ⟨nd, rfl⟩⟩; refine ⟨_, rfl, ?_⟩))
  go_ret
  exact ⟨y7_, y10_⟩
def pouchref05_Right.j0 : Nat → Bool → Int → Int → ByteArray → ByteArray → Option (Bool)
  | 0, _, _, _, _, _ => none
  | k + 1, x3, x102000, x102001, x102002, x102003 => (pouchref05_Type.f k x102000).bind fun t102 => (if t102 = 1 then (if x102001 < 256 then (some x3) else (some false)) else (if t102 = 2 then (if x102001 < 65536 then (some x3) else (some false)) else (if t102 = 3 then (some x3) else (if t102 = 4 then (if x102001 < 268435456 then (some x3) else (some false)) else (if t102 = 5 then (if x102001 = 0 then ((pouchref02_Right.f k x102002).bind fun t103 => (if t103 = true then (some (x102003.toList == ([] : List UInt8))) else (some false))) else (some false)) else (if t102 = 6 then (if x102001 = 0 then (if (x102002.size : Int) ≤ 65535 then (some (x102003.toList == ([] : List UInt8))) else (some false)) else (some false)) else (if t102 = 7 then (if x102001 = 0 then ((pouchref02_Right.f k x102002).bind fun t104 => (if t104 = true then ((pouchref02_Right.f k x102003).bind fun t105 => (some t105)) else (some false))) else (some false)) else (some false))))))))
def pouchref05_Right.f (k : Nat) (a0_0 : Int) (a0_1 : Int) (a0_2 : ByteArray) (a0_3 : ByteArray) : Option (Bool) := if a0_2.toList = ([] : List UInt8) then (pouchref05_Right.j0 k (a0_3.toList == ([] : List UInt8)) a0_0 a0_1 a0_2 a0_3) else (pouchref05_Right.j0 k false a0_0 a0_1 a0_2 a0_3)
theorem z38m0 {p : Prop} (h : p := by
 repeat' first
 | (with_reducible exact ih0 _ _ _ _ _)
 | (with_reducible exact pouchref02_Right.mono _ _)
 | (with_reducible exact pouchref05_Type.mono _ _)
 | (with_reducible exact LeO.refl _)
 | (with_reducible exact LeO.none _)
 | (with_reducible refine LeO.ite ?_ ?_)
 | (with_reducible refine LeO.bind ?_ (fun _ => ?_))
 | exact ih0 _ _ _ _ _
 | exact pouchref02_Right.mono _ _
 | exact pouchref05_Type.mono _ _
 | exact LeO.none _
 | refine LeO.ite ?_ ?_
 | refine LeO.bind ?_ (fun _ => ?_)) : p := h
theorem pouchref05_Right.mono_l : ∀ k, (∀ y0 y1 y2 y3 y4, LeO (pouchref05_Right.j0 k y0 y1 y2 y3 y4) (pouchref05_Right.j0 (k + 1) y0 y1 y2 y3 y4))
  | 0 => fun _ _ _ _ _ r h => by simp [pouchref05_Right.j0] at h
  | k + 1 => by
    have ih0 := pouchref05_Right.mono_l k
    · intro y0 y1 y2 y3 y4
      unfold pouchref05_Right.j0
      exact z38m0
theorem pouchref05_Right.mono : ∀ a0 a1 a2 a3 k, LeO (pouchref05_Right.f k a0 a1 a2 a3) (pouchref05_Right.f (k + 1) a0 a1 a2 a3) := by
  intro a0 a1 a2 a3 k
  have ih0 := pouchref05_Right.mono_l k
  unfold pouchref05_Right.f
  exact z38m0
theorem pouchref05_Right.calls (k : Nat) (a0_0 : Int) (a0_1 : Int) (a0_2 : ByteArray) (a0_3 : ByteArray) (r : Bool) (w : World) (h : pouchref05_Right.f k a0_0 a0_1 a0_2 a0_3 = some r) :
    Calls Tryd.prog 38 #[.agg #[.int .u8 a0_0, .int .u32 a0_1, .string a0_2, .string a0_3]] w fun e w' => e = .returned (.bool r) ∧ Below w.heap.size w w' := by
  have hu58 := Tryd.underlying58
  have HB := Aside0.mk (Below.refl w.heap.size w)
  have H : (if a0_2.toList = ([] : List UInt8) then (pouchref05_Right.j0 k (a0_3.toList == ([] : List UInt8)) a0_0 a0_1 a0_2 a0_3) else (pouchref05_Right.j0 k false a0_0 a0_1 a0_2 a0_3)) = some r := h
  clear h
  have HC2 := Aside0.mk H
  clear H
  go_enter Tryd.func38, Tryd.ntmps38
  go_upto_region 1 with (first | ((with_reducible refine gate_dst (N := 1) rfl ?_); refine box_event ?hg (N := 1) ?hd (cs := #[.int .u8 a0_0, .int .u32 a0_1, .string a0_2, .string a0_3]) (t := 58) ?hr ?_; (case hd => rfl); (case hg => rfl); (case hr => first | (go_simp; done) | (go_simp; rfl)); intro gb101 hg w3 hbox hb; have n0_ := Aside0.mk (below_step y0_ hb); have n1_ := Aside0.mk (hbox); have n2_ := Aside0.mk ((by rw [hg]; exact (below_size y0_) : w.heap.size ≤ gb101)); have n3_ := Aside0.mk ((by rw [hg]; exact (below_size y0_) : w.heap.size ≤ gb101)); clear HB; have HB := n0_; have BK101 := n1_; have GW101 := n2_; have GE101 := n3_; clear n0_ n1_ n2_ n3_; clear hb hbox hg))
  (try simp only [Act.put, List.setIfInBounds_toArray, List.set_cons_zero, List.set_cons_succ])
  go_cut [3] (fun v3 wc => ∃ (kq : Nat) (x3_1 : Bool), v3 = .bool x3_1 ∧ Aside0 (pouchref05_Right.j0 kq x3_1 a0_0 a0_1 a0_2 a0_3 = some r) ∧ Aside0 (kq ≤ k) ∧ Aside0 (wc.heap[gb101]? = some (.cells #[.int .u8 a0_0, .int .u32 a0_1, .string a0_2, .string a0_3] 58 (0, 0))) ∧ Aside0 (Below w.heap.size w wc))
  case first =>
    have H := HC2.out
    clear HC2
    by_cases c4 : a0_2.toList = ([] : List UInt8)
    · rw [if_pos c4] at H
      obtain ⟨c4b0, c4b1⟩ := eqt_ c4
      clear c4
      (first | rw [c4b0] | (simp only [i64_w, i32_w]; rw [c4b0]) | skip)
      have H' := Aside0.mk H
      clear H
      have hcz5_0 : w3.cell? ⟨gb101, 0, none⟩ = some (.int .u8 a0_0) := (blk_cell BK101.out 0).trans rfl
      have hcz5_1 : w3.cell? ⟨gb101, 1, none⟩ = some (.int .u32 a0_1) := (blk_cell BK101.out 1).trans rfl
      have hcz5_2 : w3.cell? ⟨gb101, 2, none⟩ = some (.string a0_2) := (blk_cell BK101.out 2).trans rfl
      have hcz5_3 : w3.cell? ⟨gb101, 3, none⟩ = some (.string a0_3) := (blk_cell BK101.out 3).trans rfl
      have hfz5_0 := blk_frozen BK101.out 0
      have hfz5_1 := blk_frozen BK101.out 1
      have hfz5_2 := blk_frozen BK101.out 2
      have hfz5_3 := blk_frozen BK101.out 3
      go_wp2
      go_meet
      case rel => exact ⟨_, ((a0_3.toList == ([] : List UInt8))), y7_, H', ⟨y19_⟩, ⟨y3_⟩, ⟨y1_⟩⟩
    · rw [if_neg c4] at H
      obtain ⟨c4b0, c4b1⟩ := eqf_ c4
      (first | rw [c4b0] | (simp only [i64_w, i32_w]; rw [c4b0]) | skip)
      have H' := Aside0.mk H
      clear H
      have hcz6_0 : w3.cell? ⟨gb101, 0, none⟩ = some (.int .u8 a0_0) := (blk_cell BK101.out 0).trans rfl
      have hcz6_1 : w3.cell? ⟨gb101, 1, none⟩ = some (.int .u32 a0_1) := (blk_cell BK101.out 1).trans rfl
      have hcz6_2 : w3.cell? ⟨gb101, 2, none⟩ = some (.string a0_2) := (blk_cell BK101.out 2).trans rfl
      have hcz6_3 : w3.cell? ⟨gb101, 3, none⟩ = some (.string a0_3) := (blk_cell BK101.out 3).trans rfl
      have hfz6_0 := blk_frozen BK101.out 0
      have hfz6_1 := blk_frozen BK101.out 1
      have hfz6_2 := blk_frozen BK101.out 2
      have hfz6_3 := blk_frozen BK101.out 3
      go_wp2
      go_meet
      case rel => exact ⟨_, (false), y7_, H', ⟨y19_⟩, ⟨y3_⟩, ⟨y1_⟩⟩
  case rest =>
    clear HC2
    try clear p2
    try clear c3
    try clear c4
    try clear c4b0
    try clear c4b1
    try clear hcz5_0
    try clear hcz5_1
    try clear hcz5_2
    try clear hcz5_3
    try clear hcz6_0
    try clear hcz6_1
    try clear hcz6_2
    try clear hcz6_3
    try clear hfz5_0
    try clear hfz5_1
    try clear hfz5_2
    try clear hfz5_3
    try clear hfz6_0
    try clear hfz6_1
    try clear hfz6_2
    try clear hfz6_3
    obtain ⟨kq, x3_1, rfl, HA, HJ1, BK101, HB⟩ := hcut
    cases kq with
    | zero => exact absurd HA.out (by simp [pouchref05_Right.j0])
    | succ kj1 =>
      have H := HA.out
      clear HA
      simp only [pouchref05_Right.j0] at H
      replace H := Option.bind_eq_some_iff.mp H
      obtain ⟨t102, A70, H⟩ := H
      replace H : (if t102 = 1 then (if a0_1 < 256 then (some x3_1) else (some false)) else (if t102 = 2 then (if a0_1 < 65536 then (some x3_1) else (some false)) else (if t102 = 3 then (some x3_1) else (if t102 = 4 then (if a0_1 < 268435456 then (some x3_1) else (some false)) else (if t102 = 5 then (if a0_1 = 0 then ((pouchref02_Right.f kj1 a0_2).bind fun t103 => (if t103 = true then (some (a0_3.toList == ([] : List UInt8))) else (some false))) else (some false)) else (if t102 = 6 then (if a0_1 = 0 then (if (a0_2.size : Int) ≤ 65535 then (some (a0_3.toList == ([] : List UInt8))) else (some false)) else (some false)) else (if t102 = 7 then (if a0_1 = 0 then ((pouchref02_Right.f kj1 a0_2).bind fun t104 => (if t104 = true then ((pouchref02_Right.f kj1 a0_3).bind fun t105 => (some t105)) else (some false))) else (some false)) else (some false)))))))) = some r := H
      have A7 := Aside0.mk A70
      clear A70
      by_cases c8 : t102 = 1
      · rw [if_pos c8] at H
        obtain ⟨c8b0, c8b1⟩ := eqt_ c8
        clear c8
        by_cases c9 : a0_1 < 256
        · rw [if_pos c9] at H
          have c9b0 := decide_eq_true c9
          clear c9
          obtain rfl := Option.some.inj H
          have hcz10_0 : wc.cell? ⟨gb101, 0, none⟩ = some (.int .u8 a0_0) := (blk_cell BK101.out 0).trans rfl
          have hcz10_1 : wc.cell? ⟨gb101, 1, none⟩ = some (.int .u32 a0_1) := (blk_cell BK101.out 1).trans rfl
          have hcz10_2 : wc.cell? ⟨gb101, 2, none⟩ = some (.string a0_2) := (blk_cell BK101.out 2).trans rfl
          have hcz10_3 : wc.cell? ⟨gb101, 3, none⟩ = some (.string a0_3) := (blk_cell BK101.out 3).trans rfl
          have hfz10_0 := blk_frozen BK101.out 0
          have hfz10_1 := blk_frozen BK101.out 1
          have hfz10_2 := blk_frozen BK101.out 2
          have hfz10_3 := blk_frozen BK101.out 3
          go_wp2_with (first | ((with_reducible refine gate_callee (f := 67) rfl ?_); refine goesL_ (some 14) rfl rfl Tryd.func67 (by kernel_rfl) rfl #[.int .u8 a0_0] rfl y2_ ?_; (with_reducible refine (pouchref05_Type.calls kj1 a0_0 t102 _ A7.out).mono ?_); rintro e w' ⟨rfl, ⟨nd, rfl⟩⟩; refine ⟨_, rfl, ?_⟩))
          go_ret
          exact ⟨y4_, y1_⟩
        · rw [if_neg c9] at H
          have c9b0 := decide_eq_false c9
          clear c9
          obtain rfl := Option.some.inj H
          have hcz11_0 : wc.cell? ⟨gb101, 0, none⟩ = some (.int .u8 a0_0) := (blk_cell BK101.out 0).trans rfl
          have hcz11_1 : wc.cell? ⟨gb101, 1, none⟩ = some (.int .u32 a0_1) := (blk_cell BK101.out 1).trans rfl
          have hcz11_2 : wc.cell? ⟨gb101, 2, none⟩ = some (.string a0_2) := (blk_cell BK101.out 2).trans rfl
          have hcz11_3 : wc.cell? ⟨gb101, 3, none⟩ = some (.string a0_3) := (blk_cell BK101.out 3).trans rfl
          have hfz11_0 := blk_frozen BK101.out 0
          have hfz11_1 := blk_frozen BK101.out 1
          have hfz11_2 := blk_frozen BK101.out 2
          have hfz11_3 := blk_frozen BK101.out 3
          go_wp2_with (first | ((with_reducible refine gate_callee (f := 67) rfl ?_); refine goesL_ (some 14) rfl rfl Tryd.func67 (by kernel_rfl) rfl #[.int .u8 a0_0] rfl y2_ ?_; (with_reducible refine (pouchref05_Type.calls kj1 a0_0 t102 _ A7.out).mono ?_); rintro e w' ⟨rfl, ⟨nd, rfl⟩⟩; refine ⟨_, rfl, ?_⟩))
          go_ret
          exact ⟨y4_, y1_⟩
      · rw [if_neg c8] at H
        obtain ⟨c8b0, c8b1⟩ := eqf_ c8
        by_cases c12 : t102 = 2
        · rw [if_pos c12] at H
          obtain ⟨c12b0, c12b1⟩ := eqt_ c12
          clear c12
          by_cases c13 : a0_1 < 65536
          · rw [if_pos c13] at H
            have c13b0 := decide_eq_true c13
            clear c13
            obtain rfl := Option.some.inj H
            have hcz14_0 : wc.cell? ⟨gb101, 0, none⟩ = some (.int .u8 a0_0) := (blk_cell BK101.out 0).trans rfl
            have hcz14_1 : wc.cell? ⟨gb101, 1, none⟩ = some (.int .u32 a0_1) := (blk_cell BK101.out 1).trans rfl
            have hcz14_2 : wc.cell? ⟨gb101, 2, none⟩ = some (.string a0_2) := (blk_cell BK101.out 2).trans rfl
            have hcz14_3 : wc.cell? ⟨gb101, 3, none⟩ = some (.string a0_3) := (blk_cell BK101.out 3).trans rfl
            have hfz14_0 := blk_frozen BK101.out 0
            have hfz14_1 := blk_frozen BK101.out 1
            have hfz14_2 := blk_frozen BK101.out 2
            have hfz14_3 := blk_frozen BK101.out 3
            go_wp2_with (first | ((with_reducible refine gate_callee (f := 67) rfl ?_); refine goesL_ (some 14) rfl rfl Tryd.func67 (by kernel_rfl) rfl #[.int .u8 a0_0] rfl y2_ ?_; (with_reducible refine (pouchref05_Type.calls kj1 a0_0 t102 _ A7.out).mono ?_); rintro e w' ⟨rfl, ⟨nd, rfl⟩⟩; refine ⟨_, rfl, ?_⟩))
            go_ret
            exact ⟨y4_, y1_⟩
          · rw [if_neg c13] at H
            have c13b0 := decide_eq_false c13
            clear c13
            obtain rfl := Option.some.inj H
            have hcz15_0 : wc.cell? ⟨gb101, 0, none⟩ = some (.int .u8 a0_0) := (blk_cell BK101.out 0).trans rfl
            have hcz15_1 : wc.cell? ⟨gb101, 1, none⟩ = some (.int .u32 a0_1) := (blk_cell BK101.out 1).trans rfl
            have hcz15_2 : wc.cell? ⟨gb101, 2, none⟩ = some (.string a0_2) := (blk_cell BK101.out 2).trans rfl
            have hcz15_3 : wc.cell? ⟨gb101, 3, none⟩ = some (.string a0_3) := (blk_cell BK101.out 3).trans rfl
            have hfz15_0 := blk_frozen BK101.out 0
            have hfz15_1 := blk_frozen BK101.out 1
            have hfz15_2 := blk_frozen BK101.out 2
            have hfz15_3 := blk_frozen BK101.out 3
            go_wp2_with (first | ((with_reducible refine gate_callee (f := 67) rfl ?_); refine goesL_ (some 14) rfl rfl Tryd.func67 (by kernel_rfl) rfl #[.int .u8 a0_0] rfl y2_ ?_; (with_reducible refine (pouchref05_Type.calls kj1 a0_0 t102 _ A7.out).mono ?_); rintro e w' ⟨rfl, ⟨nd, rfl⟩⟩; refine ⟨_, rfl, ?_⟩))
            go_ret
            exact ⟨y4_, y1_⟩
        · rw [if_neg c12] at H
          obtain ⟨c12b0, c12b1⟩ := eqf_ c12
          by_cases c16 : t102 = 3
          · rw [if_pos c16] at H
            obtain ⟨c16b0, c16b1⟩ := eqt_ c16
            clear c16
            obtain rfl := Option.some.inj H
            have hcz17_0 : wc.cell? ⟨gb101, 0, none⟩ = some (.int .u8 a0_0) := (blk_cell BK101.out 0).trans rfl
            have hcz17_1 : wc.cell? ⟨gb101, 1, none⟩ = some (.int .u32 a0_1) := (blk_cell BK101.out 1).trans rfl
            have hcz17_2 : wc.cell? ⟨gb101, 2, none⟩ = some (.string a0_2) := (blk_cell BK101.out 2).trans rfl
            have hcz17_3 : wc.cell? ⟨gb101, 3, none⟩ = some (.string a0_3) := (blk_cell BK101.out 3).trans rfl
            have hfz17_0 := blk_frozen BK101.out 0
            have hfz17_1 := blk_frozen BK101.out 1
            have hfz17_2 := blk_frozen BK101.out 2
            have hfz17_3 := blk_frozen BK101.out 3
            go_wp2_with (first | ((with_reducible refine gate_callee (f := 67) rfl ?_); refine goesL_ (some 14) rfl rfl Tryd.func67 (by kernel_rfl) rfl #[.int .u8 a0_0] rfl y2_ ?_; (with_reducible refine (pouchref05_Type.calls kj1 a0_0 t102 _ A7.out).mono ?_); rintro e w' ⟨rfl, ⟨nd, rfl⟩⟩; refine ⟨_, rfl, ?_⟩))
            go_ret
            exact ⟨y4_, y1_⟩
          · rw [if_neg c16] at H
            obtain ⟨c16b0, c16b1⟩ := eqf_ c16
            by_cases c18 : t102 = 4
            · rw [if_pos c18] at H
              obtain ⟨c18b0, c18b1⟩ := eqt_ c18
              clear c18
              by_cases c19 : a0_1 < 268435456
              · rw [if_pos c19] at H
                have c19b0 := decide_eq_true c19
                clear c19
                obtain rfl := Option.some.inj H
                have hcz20_0 : wc.cell? ⟨gb101, 0, none⟩ = some (.int .u8 a0_0) := (blk_cell BK101.out 0).trans rfl
                have hcz20_1 : wc.cell? ⟨gb101, 1, none⟩ = some (.int .u32 a0_1) := (blk_cell BK101.out 1).trans rfl
                have hcz20_2 : wc.cell? ⟨gb101, 2, none⟩ = some (.string a0_2) := (blk_cell BK101.out 2).trans rfl
                have hcz20_3 : wc.cell? ⟨gb101, 3, none⟩ = some (.string a0_3) := (blk_cell BK101.out 3).trans rfl
                have hfz20_0 := blk_frozen BK101.out 0
                have hfz20_1 := blk_frozen BK101.out 1
                have hfz20_2 := blk_frozen BK101.out 2
                have hfz20_3 := blk_frozen BK101.out 3
                go_wp2_with (first | ((with_reducible refine gate_callee (f := 67) rfl ?_); refine goesL_ (some 14) rfl rfl Tryd.func67 (by kernel_rfl) rfl #[.int .u8 a0_0] rfl y2_ ?_; (with_reducible refine (pouchref05_Type.calls kj1 a0_0 t102 _ A7.out).mono ?_); rintro e w' ⟨rfl, ⟨nd, rfl⟩⟩; refine ⟨_, rfl, ?_⟩))
                go_ret
                exact ⟨y4_, y1_⟩
              · rw [if_neg c19] at H
                have c19b0 := decide_eq_false c19
                clear c19
                obtain rfl := Option.some.inj H
                have hcz21_0 : wc.cell? ⟨gb101, 0, none⟩ = some (.int .u8 a0_0) := (blk_cell BK101.out 0).trans rfl
                have hcz21_1 : wc.cell? ⟨gb101, 1, none⟩ = some (.int .u32 a0_1) := (blk_cell BK101.out 1).trans rfl
                have hcz21_2 : wc.cell? ⟨gb101, 2, none⟩ = some (.string a0_2) := (blk_cell BK101.out 2).trans rfl
                have hcz21_3 : wc.cell? ⟨gb101, 3, none⟩ = some (.string a0_3) := (blk_cell BK101.out 3).trans rfl
                have hfz21_0 := blk_frozen BK101.out 0
                have hfz21_1 := blk_frozen BK101.out 1
                have hfz21_2 := blk_frozen BK101.out 2
                have hfz21_3 := blk_frozen BK101.out 3
                go_wp2_with (first | ((with_reducible refine gate_callee (f := 67) rfl ?_); refine goesL_ (some 14) rfl rfl Tryd.func67 (by kernel_rfl) rfl #[.int .u8 a0_0] rfl y2_ ?_; (with_reducible refine (pouchref05_Type.calls kj1 a0_0 t102 _ A7.out).mono ?_); rintro e w' ⟨rfl, ⟨nd, rfl⟩⟩; refine ⟨_, rfl, ?_⟩))
                go_ret
                exact ⟨y4_, y1_⟩
            · rw [if_neg c18] at H
              obtain ⟨c18b0, c18b1⟩ := eqf_ c18
              by_cases c22 : t102 = 5
              · rw [if_pos c22] at H
                obtain ⟨c22b0, c22b1⟩ := eqt_ c22
                clear c22
                by_cases c23 : a0_1 = 0
                · rw [if_pos c23] at H
                  obtain ⟨c23b0, c23b1⟩ := eqt_ c23
                  clear c23
                  replace H := Option.bind_eq_some_iff.mp H
                  obtain ⟨t103, A240, H⟩ := H
                  replace H : (if t103 = true then (some (a0_3.toList == ([] : List UInt8))) else (some false)) = some r := H
                  have A24 := Aside0.mk A240
                  clear A240
                  by_cases c25 : t103 = true
                  · subst c25
                    have H1 : (some (a0_3.toList == ([] : List UInt8))) = some r := by rw [if_pos rfl] at H; exact H
                    clear H
                    have H := H1
                    clear H1
                    obtain rfl := Option.some.inj H
                    have hcz26_0 : wc.cell? ⟨gb101, 0, none⟩ = some (.int .u8 a0_0) := (blk_cell BK101.out 0).trans rfl
                    have hcz26_1 : wc.cell? ⟨gb101, 1, none⟩ = some (.int .u32 a0_1) := (blk_cell BK101.out 1).trans rfl
                    have hcz26_2 : wc.cell? ⟨gb101, 2, none⟩ = some (.string a0_2) := (blk_cell BK101.out 2).trans rfl
                    have hcz26_3 : wc.cell? ⟨gb101, 3, none⟩ = some (.string a0_3) := (blk_cell BK101.out 3).trans rfl
                    have hfz26_0 := blk_frozen BK101.out 0
                    have hfz26_1 := blk_frozen BK101.out 1
                    have hfz26_2 := blk_frozen BK101.out 2
                    have hfz26_3 := blk_frozen BK101.out 3
                    go_wp2_with (first | ((with_reducible refine gate_callee (f := 67) rfl ?_); refine goesL_ (some 14) rfl rfl Tryd.func67 (by kernel_rfl) rfl #[.int .u8 a0_0] rfl y2_ ?_; (with_reducible refine (pouchref05_Type.calls kj1 a0_0 t102 _ A7.out).mono ?_); rintro e w' ⟨rfl, ⟨nd, rfl⟩⟩; refine ⟨_, rfl, ?_⟩) | (go_at_call 68; (with_reducible refine (pouchref02_Right.calls kj1 a0_2 true _ A24.out).mono ?_); rintro e w' ⟨rfl, ⟨nd, rfl⟩⟩))
                    go_ret
                    exact ⟨y4_, y1_⟩
                  · replace c25 := Bool.eq_false_iff.mpr c25
                    subst c25
                    have H1 : (some false) = some r := by rw [if_neg (show ¬ (false = true) by decide)] at H; exact H
                    clear H
                    have H := H1
                    clear H1
                    obtain rfl := Option.some.inj H
                    have hcz27_0 : wc.cell? ⟨gb101, 0, none⟩ = some (.int .u8 a0_0) := (blk_cell BK101.out 0).trans rfl
                    have hcz27_1 : wc.cell? ⟨gb101, 1, none⟩ = some (.int .u32 a0_1) := (blk_cell BK101.out 1).trans rfl
                    have hcz27_2 : wc.cell? ⟨gb101, 2, none⟩ = some (.string a0_2) := (blk_cell BK101.out 2).trans rfl
                    have hcz27_3 : wc.cell? ⟨gb101, 3, none⟩ = some (.string a0_3) := (blk_cell BK101.out 3).trans rfl
                    have hfz27_0 := blk_frozen BK101.out 0
                    have hfz27_1 := blk_frozen BK101.out 1
                    have hfz27_2 := blk_frozen BK101.out 2
                    have hfz27_3 := blk_frozen BK101.out 3
                    go_wp2_with (first | ((with_reducible refine gate_callee (f := 67) rfl ?_); refine goesL_ (some 14) rfl rfl Tryd.func67 (by kernel_rfl) rfl #[.int .u8 a0_0] rfl y2_ ?_; (with_reducible refine (pouchref05_Type.calls kj1 a0_0 t102 _ A7.out).mono ?_); rintro e w' ⟨rfl, ⟨nd, rfl⟩⟩; refine ⟨_, rfl, ?_⟩) | (go_at_call 68; (with_reducible refine (pouchref02_Right.calls kj1 a0_2 false _ A24.out).mono ?_); rintro e w' ⟨rfl, ⟨nd, rfl⟩⟩))
                    go_ret
                    exact ⟨y4_, y1_⟩
                · rw [if_neg c23] at H
                  obtain ⟨c23b0, c23b1⟩ := eqf_ c23
                  obtain rfl := Option.some.inj H
                  have hcz28_0 : wc.cell? ⟨gb101, 0, none⟩ = some (.int .u8 a0_0) := (blk_cell BK101.out 0).trans rfl
                  have hcz28_1 : wc.cell? ⟨gb101, 1, none⟩ = some (.int .u32 a0_1) := (blk_cell BK101.out 1).trans rfl
                  have hcz28_2 : wc.cell? ⟨gb101, 2, none⟩ = some (.string a0_2) := (blk_cell BK101.out 2).trans rfl
                  have hcz28_3 : wc.cell? ⟨gb101, 3, none⟩ = some (.string a0_3) := (blk_cell BK101.out 3).trans rfl
                  have hfz28_0 := blk_frozen BK101.out 0
                  have hfz28_1 := blk_frozen BK101.out 1
                  have hfz28_2 := blk_frozen BK101.out 2
                  have hfz28_3 := blk_frozen BK101.out 3
                  go_wp2_with (first | ((with_reducible refine gate_callee (f := 67) rfl ?_); refine goesL_ (some 14) rfl rfl Tryd.func67 (by kernel_rfl) rfl #[.int .u8 a0_0] rfl y2_ ?_; (with_reducible refine (pouchref05_Type.calls kj1 a0_0 t102 _ A7.out).mono ?_); rintro e w' ⟨rfl, ⟨nd, rfl⟩⟩; refine ⟨_, rfl, ?_⟩))
                  go_ret
                  exact ⟨y4_, y1_⟩
              · rw [if_neg c22] at H
                obtain ⟨c22b0, c22b1⟩ := eqf_ c22
                by_cases c29 : t102 = 6
                · rw [if_pos c29] at H
                  obtain ⟨c29b0, c29b1⟩ := eqt_ c29
                  clear c29
                  by_cases c30 : a0_1 = 0
                  · rw [if_pos c30] at H
                    obtain ⟨c30b0, c30b1⟩ := eqt_ c30
                    clear c30
                    by_cases c31 : (a0_2.size : Int) ≤ 65535
                    · rw [if_pos c31] at H
                      have c31b0 := decide_eq_true c31
                      have c31b1 : decide (a0_2.size ≤ 65535) = true := decide_eq_true (by omega)
                      clear c31
                      obtain rfl := Option.some.inj H
                      have hcz32_0 : wc.cell? ⟨gb101, 0, none⟩ = some (.int .u8 a0_0) := (blk_cell BK101.out 0).trans rfl
                      have hcz32_1 : wc.cell? ⟨gb101, 1, none⟩ = some (.int .u32 a0_1) := (blk_cell BK101.out 1).trans rfl
                      have hcz32_2 : wc.cell? ⟨gb101, 2, none⟩ = some (.string a0_2) := (blk_cell BK101.out 2).trans rfl
                      have hcz32_3 : wc.cell? ⟨gb101, 3, none⟩ = some (.string a0_3) := (blk_cell BK101.out 3).trans rfl
                      have hfz32_0 := blk_frozen BK101.out 0
                      have hfz32_1 := blk_frozen BK101.out 1
                      have hfz32_2 := blk_frozen BK101.out 2
                      have hfz32_3 := blk_frozen BK101.out 3
                      go_wp2_with (first | ((with_reducible refine gate_callee (f := 67) rfl ?_); refine goesL_ (some 14) rfl rfl Tryd.func67 (by kernel_rfl) rfl #[.int .u8 a0_0] rfl y2_ ?_; (with_reducible refine (pouchref05_Type.calls kj1 a0_0 t102 _ A7.out).mono ?_); rintro e w' ⟨rfl, ⟨nd, rfl⟩⟩; refine ⟨_, rfl, ?_⟩))
                      go_ret
                      exact ⟨y4_, y1_⟩
                    · rw [if_neg c31] at H
                      have c31b0 := decide_eq_false c31
                      have c31b1 : decide (a0_2.size ≤ 65535) = false := decide_eq_false (by omega)
                      clear c31
                      obtain rfl := Option.some.inj H
                      have hcz33_0 : wc.cell? ⟨gb101, 0, none⟩ = some (.int .u8 a0_0) := (blk_cell BK101.out 0).trans rfl
                      have hcz33_1 : wc.cell? ⟨gb101, 1, none⟩ = some (.int .u32 a0_1) := (blk_cell BK101.out 1).trans rfl
                      have hcz33_2 : wc.cell? ⟨gb101, 2, none⟩ = some (.string a0_2) := (blk_cell BK101.out 2).trans rfl
                      have hcz33_3 : wc.cell? ⟨gb101, 3, none⟩ = some (.string a0_3) := (blk_cell BK101.out 3).trans rfl
                      have hfz33_0 := blk_frozen BK101.out 0
                      have hfz33_1 := blk_frozen BK101.out 1
                      have hfz33_2 := blk_frozen BK101.out 2
                      have hfz33_3 := blk_frozen BK101.out 3
                      go_wp2_with (first | ((with_reducible refine gate_callee (f := 67) rfl ?_); refine goesL_ (some 14) rfl rfl Tryd.func67 (by kernel_rfl) rfl #[.int .u8 a0_0] rfl y2_ ?_; (with_reducible refine (pouchref05_Type.calls kj1 a0_0 t102 _ A7.out).mono ?_); rintro e w' ⟨rfl, ⟨nd, rfl⟩⟩; refine ⟨_, rfl, ?_⟩))
                      go_ret
                      exact ⟨y4_, y1_⟩
                  · rw [if_neg c30] at H
                    obtain ⟨c30b0, c30b1⟩ := eqf_ c30
                    obtain rfl := Option.some.inj H
                    have hcz34_0 : wc.cell? ⟨gb101, 0, none⟩ = some (.int .u8 a0_0) := (blk_cell BK101.out 0).trans rfl
                    have hcz34_1 : wc.cell? ⟨gb101, 1, none⟩ = some (.int .u32 a0_1) := (blk_cell BK101.out 1).trans rfl
                    have hcz34_2 : wc.cell? ⟨gb101, 2, none⟩ = some (.string a0_2) := (blk_cell BK101.out 2).trans rfl
                    have hcz34_3 : wc.cell? ⟨gb101, 3, none⟩ = some (.string a0_3) := (blk_cell BK101.out 3).trans rfl
                    have hfz34_0 := blk_frozen BK101.out 0
                    have hfz34_1 := blk_frozen BK101.out 1
                    have hfz34_2 := blk_frozen BK101.out 2
                    have hfz34_3 := blk_frozen BK101.out 3
                    go_wp2_with (first | ((with_reducible refine gate_callee (f := 67) rfl ?_); refine goesL_ (some 14) rfl rfl Tryd.func67 (by kernel_rfl) rfl #[.int .u8 a0_0] rfl y2_ ?_; (with_reducible refine (pouchref05_Type.calls kj1 a0_0 t102 _ A7.out).mono ?_); rintro e w' ⟨rfl, ⟨nd, rfl⟩⟩; refine ⟨_, rfl, ?_⟩))
                    go_ret
                    exact ⟨y4_, y1_⟩
                · rw [if_neg c29] at H
                  obtain ⟨c29b0, c29b1⟩ := eqf_ c29
                  by_cases c35 : t102 = 7
                  · rw [if_pos c35] at H
                    obtain ⟨c35b0, c35b1⟩ := eqt_ c35
                    clear c35
                    by_cases c36 : a0_1 = 0
                    · rw [if_pos c36] at H
                      obtain ⟨c36b0, c36b1⟩ := eqt_ c36
                      clear c36
                      replace H := Option.bind_eq_some_iff.mp H
                      obtain ⟨t104, A370, H⟩ := H
                      replace H : (if t104 = true then ((pouchref02_Right.f kj1 a0_3).bind fun t105 => (some t105)) else (some false)) = some r := H
                      have A37 := Aside0.mk A370
                      clear A370
                      by_cases c38 : t104 = true
                      · subst c38
                        have H1 : ((pouchref02_Right.f kj1 a0_3).bind fun t105 => (some t105)) = some r := by rw [if_pos rfl] at H; exact H
                        clear H
                        have H := H1
                        clear H1
                        replace H := Option.bind_eq_some_iff.mp H
                        obtain ⟨t105, A390, H⟩ := H
                        replace H : (some t105) = some r := H
                        have A39 := Aside0.mk A390
                        clear A390
                        obtain rfl := Option.some.inj H
                        have hcz40_0 : wc.cell? ⟨gb101, 0, none⟩ = some (.int .u8 a0_0) := (blk_cell BK101.out 0).trans rfl
                        have hcz40_1 : wc.cell? ⟨gb101, 1, none⟩ = some (.int .u32 a0_1) := (blk_cell BK101.out 1).trans rfl
                        have hcz40_2 : wc.cell? ⟨gb101, 2, none⟩ = some (.string a0_2) := (blk_cell BK101.out 2).trans rfl
                        have hcz40_3 : wc.cell? ⟨gb101, 3, none⟩ = some (.string a0_3) := (blk_cell BK101.out 3).trans rfl
                        have hfz40_0 := blk_frozen BK101.out 0
                        have hfz40_1 := blk_frozen BK101.out 1
                        have hfz40_2 := blk_frozen BK101.out 2
                        have hfz40_3 := blk_frozen BK101.out 3
                        go_wp2_with (first | ((with_reducible refine gate_callee (f := 67) rfl ?_); refine goesL_ (some 14) rfl rfl Tryd.func67 (by kernel_rfl) rfl #[.int .u8 a0_0] rfl y2_ ?_; (with_reducible refine (pouchref05_Type.calls kj1 a0_0 t102 _ A7.out).mono ?_); rintro e w' ⟨rfl, ⟨nd, rfl⟩⟩; refine ⟨_, rfl, ?_⟩) | (go_at_call 68; (with_reducible refine (pouchref02_Right.calls kj1 a0_2 true _ A37.out).mono ?_); rintro e w' ⟨rfl, ⟨nd, rfl⟩⟩) | (go_at_call 68; (with_reducible refine (pouchref02_Right.calls kj1 a0_3 t105 _ A39.out).mono ?_); rintro e w' ⟨rfl, ⟨nd, rfl⟩⟩))
                        go_ret
                        exact ⟨y4_, y1_⟩
                      · replace c38 := Bool.eq_false_iff.mpr c38
                        subst c38
                        have H1 : (some false) = some r := by rw [if_neg (show ¬ (false = true) by decide)] at H; exact H
                        clear H
                        have H := H1
                        clear H1
                        obtain rfl := Option.some.inj H
                        have hcz41_0 : wc.cell? ⟨gb101, 0, none⟩ = some (.int .u8 a0_0) := (blk_cell BK101.out 0).trans rfl
                        have hcz41_1 : wc.cell? ⟨gb101, 1, none⟩ = some (.int .u32 a0_1) := (blk_cell BK101.out 1).trans rfl
                        have hcz41_2 : wc.cell? ⟨gb101, 2, none⟩ = some (.string a0_2) := (blk_cell BK101.out 2).trans rfl
                        have hcz41_3 : wc.cell? ⟨gb101, 3, none⟩ = some (.string a0_3) := (blk_cell BK101.out 3).trans rfl
                        have hfz41_0 := blk_frozen BK101.out 0
                        have hfz41_1 := blk_frozen BK101.out 1
                        have hfz41_2 := blk_frozen BK101.out 2
                        have hfz41_3 := blk_frozen BK101.out 3
                        go_wp2_with (first | ((with_reducible refine gate_callee (f := 67) rfl ?_); refine goesL_ (some 14) rfl rfl Tryd.func67 (by kernel_rfl) rfl #[.int .u8 a0_0] rfl y2_ ?_; (with_reducible refine (pouchref05_Type.calls kj1 a0_0 t102 _ A7.out).mono ?_); rintro e w' ⟨rfl, ⟨nd, rfl⟩⟩; refine ⟨_, rfl, ?_⟩) | (go_at_call 68; (with_reducible refine (pouchref02_Right.calls kj1 a0_2 false _ A37.out).mono ?_); rintro e w' ⟨rfl, ⟨nd, rfl⟩⟩))
                        go_ret
                        exact ⟨y4_, y1_⟩
                    · rw [if_neg c36] at H
                      obtain ⟨c36b0, c36b1⟩ := eqf_ c36
                      obtain rfl := Option.some.inj H
                      have hcz42_0 : wc.cell? ⟨gb101, 0, none⟩ = some (.int .u8 a0_0) := (blk_cell BK101.out 0).trans rfl
                      have hcz42_1 : wc.cell? ⟨gb101, 1, none⟩ = some (.int .u32 a0_1) := (blk_cell BK101.out 1).trans rfl
                      have hcz42_2 : wc.cell? ⟨gb101, 2, none⟩ = some (.string a0_2) := (blk_cell BK101.out 2).trans rfl
                      have hcz42_3 : wc.cell? ⟨gb101, 3, none⟩ = some (.string a0_3) := (blk_cell BK101.out 3).trans rfl
                      have hfz42_0 := blk_frozen BK101.out 0
                      have hfz42_1 := blk_frozen BK101.out 1
                      have hfz42_2 := blk_frozen BK101.out 2
                      have hfz42_3 := blk_frozen BK101.out 3
                      go_wp2_with (first | ((with_reducible refine gate_callee (f := 67) rfl ?_); refine goesL_ (some 14) rfl rfl Tryd.func67 (by kernel_rfl) rfl #[.int .u8 a0_0] rfl y2_ ?_; (with_reducible refine (pouchref05_Type.calls kj1 a0_0 t102 _ A7.out).mono ?_); rintro e w' ⟨rfl, ⟨nd, rfl⟩⟩; refine ⟨_, rfl, ?_⟩))
                      go_ret
                      exact ⟨y4_, y1_⟩
                  · rw [if_neg c35] at H
                    obtain ⟨c35b0, c35b1⟩ := eqf_ c35
                    obtain rfl := Option.some.inj H
                    have hcz43_0 : wc.cell? ⟨gb101, 0, none⟩ = some (.int .u8 a0_0) := (blk_cell BK101.out 0).trans rfl
                    have hcz43_1 : wc.cell? ⟨gb101, 1, none⟩ = some (.int .u32 a0_1) := (blk_cell BK101.out 1).trans rfl
                    have hcz43_2 : wc.cell? ⟨gb101, 2, none⟩ = some (.string a0_2) := (blk_cell BK101.out 2).trans rfl
                    have hcz43_3 : wc.cell? ⟨gb101, 3, none⟩ = some (.string a0_3) := (blk_cell BK101.out 3).trans rfl
                    have hfz43_0 := blk_frozen BK101.out 0
                    have hfz43_1 := blk_frozen BK101.out 1
                    have hfz43_2 := blk_frozen BK101.out 2
                    have hfz43_3 := blk_frozen BK101.out 3
                    go_wp2_with (first | ((with_reducible refine gate_callee (f := 67) rfl ?_); refine goesL_ (some 14) rfl rfl Tryd.func67 (by kernel_rfl) rfl #[.int .u8 a0_0] rfl y2_ ?_; (with_reducible refine (pouchref05_Type.calls kj1 a0_0 t102 _ A7.out).mono ?_); rintro e w' ⟨rfl, ⟨nd, rfl⟩⟩; refine ⟨_, rfl, ?_⟩))
                    go_ret
                    exact ⟨y4_, y1_⟩
def pouchref04_has.l0 : Nat → ByteArray → Int → Int → Option (Bool)
  | 0, _, _, _ => none
  | k + 1, x0, x1, x5 => if x5 < (x0.size : Int) then (if 0 ≤ x5 then (if (bt x0 x5) = x1 then (some true) else (pouchref04_has.l0 k x0 x1 (wrap64 (x5 + 1)))) else (none)) else (some false)
def pouchref04_has.f (k : Nat) (a0 : ByteArray) (a1 : Int) : Option (Bool) := pouchref04_has.l0 k a0 a1 0
theorem z108m0 {p : Prop} (h : p := by
 repeat' first
 | (with_reducible exact ih0 _ _ _)
 | (with_reducible exact LeO.refl _)
 | (with_reducible exact LeO.none _)
 | (with_reducible refine LeO.ite ?_ ?_)
 | (with_reducible refine LeO.bind ?_ (fun _ => ?_))
 | exact ih0 _ _ _
 | exact LeO.none _
 | refine LeO.ite ?_ ?_
 | refine LeO.bind ?_ (fun _ => ?_)) : p := h
theorem pouchref04_has.mono_l : ∀ k, (∀ y0 y1 y2, LeO (pouchref04_has.l0 k y0 y1 y2) (pouchref04_has.l0 (k + 1) y0 y1 y2))
  | 0 => fun _ _ _ r h => by simp [pouchref04_has.l0] at h
  | k + 1 => by
    have ih0 := pouchref04_has.mono_l k
    · intro y0 y1 y2
      unfold pouchref04_has.l0
      exact z108m0
theorem pouchref04_has.mono : ∀ a0 a1 k, LeO (pouchref04_has.f k a0 a1) (pouchref04_has.f (k + 1) a0 a1) := by
  intro a0 a1 k
  have ih0 := pouchref04_has.mono_l k
  unfold pouchref04_has.f
  exact z108m0
theorem pouchref04_has.calls (k : Nat) (a0 : ByteArray) (a1 : Int) (r : Bool) (w : World) (h : pouchref04_has.f k a0 a1 = some r) :
    Calls Tryd.prog 108 #[.string a0, .int .u8 a1] w fun e w' => e = .returned (.bool r) ∧ Drawn0 w w' := by
  have H : (pouchref04_has.l0 k a0 a1 0) = some r := h
  clear h
  have H' := Aside0.mk H
  clear H
  go_enter Tryd.func108, Tryd.ntmps108
  go_wp2
  go_loopg [5] k (fun kq v5 w' => ∃ (x5_1 : Int), v5 = .int .i64 x5_1 ∧ Aside0 (pouchref04_has.l0 kq a0 a1 x5_1 = some r) ∧ Aside0 (kq ≤ k) ∧ Drawn0 w w')
  case atStart => exact ⟨(0), y7_, H', ⟨Nat.le_refl _⟩, y10_⟩
  case round =>
    clear H'
    try clear c1
    try clear p2
    obtain ⟨x5_1, rfl, HA, HK1, ⟨m1, rfl⟩⟩ := hrel
    cases gk with
    | zero => exact absurd HA.out (by simp [pouchref04_has.l0])
    | succ k1 =>
      have H := HA.out
      clear HA
      simp only [pouchref04_has.l0] at H
      by_cases c3 : x5_1 < (a0.size : Int)
      · rw [if_pos c3] at H
        have c3b0 := decide_eq_true c3
        clear c3
        by_cases c4 : 0 ≤ x5_1
        · rw [if_pos c4] at H
          have c4b0 := decide_eq_true c4
          clear c4
          by_cases c6 : (bt a0 x5_1) = a1
          · rw [if_pos c6] at H
            obtain ⟨c6b0, c6b1⟩ := eqt_ c6
            clear c6
            obtain rfl := Option.some.inj H
            have p5 : 0 ≤ (x5_1 : Int) := of_decide_eq_true y5_
            have q5 : x5_1 < (a0.size : Int) := of_decide_eq_true y5_
            have hx5 := bt_at a0 x5_1
            replace p5 := eq_true p5
            replace q5 := eq_true q5
            go_wp2
            go_ret
            exact ⟨y7_, y10_⟩
          · rw [if_neg c6] at H
            obtain ⟨c6b0, c6b1⟩ := eqf_ c6
            have H' := Aside0.mk H
            clear H
            have p5 : 0 ≤ (x5_1 : Int) := of_decide_eq_true y5_
            have q5 : x5_1 < (a0.size : Int) := of_decide_eq_true y5_
            have hx5 := bt_at a0 x5_1
            replace p5 := eq_true p5
            replace q5 := eq_true q5
            go_wp2
            go_roundg k1
            case measure => have := HK1.out; omega
            case rel => exact ⟨(wrap64 (x5_1 + 1)), y7_, H', ⟨y25_⟩, y10_⟩
        · rw [if_neg c4] at H
          exact absurd H (by simp)
      · rw [if_neg c3] at H
        have c3b0 := decide_eq_false c3
        clear c3
        obtain rfl := Option.some.inj H
        go_wp2
        go_ret
        exact ⟨y7_, y10_⟩
def pouchref04_Wild.f (k : Nat) (a0 : ByteArray) : Option (Bool) := (pouchref04_has.f k a0 43).bind fun t101 => (if t101 = true then (some true) else ((pouchref04_has.f k a0 35).bind fun t102 => (some t102)))
theorem pouchref04_Wild.mono : ∀ a0 k, LeO (pouchref04_Wild.f k a0) (pouchref04_Wild.f (k + 1) a0) := by
  intro a0 k
  unfold pouchref04_Wild.f
  repeat' first
      | (with_reducible exact pouchref04_has.mono _ _ _)
      | (with_reducible exact LeO.refl _)
      | (with_reducible exact LeO.none _)
      | (with_reducible refine LeO.ite ?_ ?_)
      | (with_reducible refine LeO.bind ?_ (fun _ => ?_))
      | exact pouchref04_has.mono _ _ _
      | exact LeO.none _
      | refine LeO.ite ?_ ?_
      | refine LeO.bind ?_ (fun _ => ?_)
theorem pouchref04_Wild.calls (k : Nat) (a0 : ByteArray) (r : Bool) (w : World) (h : pouchref04_Wild.f k a0 = some r) :
    Calls Tryd.prog 102 #[.string a0] w fun e w' => e = .returned (.bool r) ∧ Drawn0 w w' := by
  have H : ((pouchref04_has.f k a0 43).bind fun t101 => (if t101 = true then (some true) else ((pouchref04_has.f k a0 35).bind fun t102 => (some t102)))) = some r := h
  clear h
  replace H := Option.bind_eq_some_iff.mp H
  obtain ⟨t101, A20, H⟩ := H
  replace H : (if t101 = true then (some true) else ((pouchref04_has.f k a0 35).bind fun t102 => (some t102))) = some r := H
  have A2 := Aside0.mk A20
  clear A20
  by_cases c3 : t101 = true
  · subst c3
    have H1 : (some true) = some r := by rw [if_pos rfl] at H; exact H
    clear H
    have H := H1
    clear H1
    obtain rfl := Option.some.inj H
    go_enter Tryd.func102, Tryd.ntmps102
    go_wp2_with (first | ((with_reducible refine gate_callee (f := 108) rfl ?_); refine goesL_ (some 4) rfl rfl Tryd.func108 (by kernel_rfl) rfl #[.string a0, .int .u8 43] rfl y2_ ?_; (with_reducible refine (pouchref04_has.calls k a0 43 true _ A2.out).mono ?_); rintro e w' ⟨rfl, ⟨nd, rfl⟩⟩; refine ⟨_, rfl, ?_⟩))
    go_ret
    exact ⟨y7_, y10_⟩
  · replace c3 := Bool.eq_false_iff.mpr c3
    subst c3
    have H1 : ((pouchref04_has.f k a0 35).bind fun t102 => (some t102)) = some r := by rw [if_neg (show ¬ (false = true) by decide)] at H; exact H
    clear H
    have H := H1
    clear H1
    replace H := Option.bind_eq_some_iff.mp H
    obtain ⟨t102, A40, H⟩ := H
    replace H : (some t102) = some r := H
    have A4 := Aside0.mk A40
    clear A40
    obtain rfl := Option.some.inj H
    go_enter Tryd.func102, Tryd.ntmps102
    go_wp2_with (first | ((with_reducible refine gate_callee (f := 108) rfl ?_); refine goesL_ (some 4) rfl rfl Tryd.func108 (by kernel_rfl) rfl #[.string a0, .int .u8 43] rfl y2_ ?_; (with_reducible refine (pouchref04_has.calls k a0 43 false _ A2.out).mono ?_); rintro e w' ⟨rfl, ⟨nd, rfl⟩⟩; refine ⟨_, rfl, ?_⟩) | (go_at_call 108; (with_reducible refine (pouchref04_has.calls k a0 35 t102 _ A4.out).mono ?_); rintro e w' ⟨rfl, ⟨nd, rfl⟩⟩))
    go_ret
    exact ⟨y7_, y10_⟩
def pouchref04_Name.f (k : Nat) (a0 : ByteArray) : Option (Bool) := (pouchref02_Right.f k a0).bind fun t101 => (if t101 = true then (if (a0.size : Int) > 0 then ((pouchref04_Wild.f k a0).bind fun t102 => (some (!t102))) else (some false)) else (some false))
theorem pouchref04_Name.mono : ∀ a0 k, LeO (pouchref04_Name.f k a0) (pouchref04_Name.f (k + 1) a0) := by
  intro a0 k
  unfold pouchref04_Name.f
  repeat' first
      | (with_reducible exact pouchref02_Right.mono _ _)
      | (with_reducible exact pouchref04_Wild.mono _ _)
      | (with_reducible exact LeO.refl _)
      | (with_reducible exact LeO.none _)
      | (with_reducible refine LeO.ite ?_ ?_)
      | (with_reducible refine LeO.bind ?_ (fun _ => ?_))
      | exact pouchref02_Right.mono _ _
      | exact pouchref04_Wild.mono _ _
      | exact LeO.none _
      | refine LeO.ite ?_ ?_
      | refine LeO.bind ?_ (fun _ => ?_)
theorem pouchref04_Name.calls (k : Nat) (a0 : ByteArray) (r : Bool) (w : World) (h : pouchref04_Name.f k a0 = some r) :
    Calls Tryd.prog 86 #[.string a0] w fun e w' => e = .returned (.bool r) ∧ Drawn0 w w' := by
  have H : ((pouchref02_Right.f k a0).bind fun t101 => (if t101 = true then (if (a0.size : Int) > 0 then ((pouchref04_Wild.f k a0).bind fun t102 => (some (!t102))) else (some false)) else (some false))) = some r := h
  clear h
  replace H := Option.bind_eq_some_iff.mp H
  obtain ⟨t101, A20, H⟩ := H
  replace H : (if t101 = true then (if (a0.size : Int) > 0 then ((pouchref04_Wild.f k a0).bind fun t102 => (some (!t102))) else (some false)) else (some false)) = some r := H
  have A2 := Aside0.mk A20
  clear A20
  by_cases c3 : t101 = true
  · subst c3
    have H1 : (if (a0.size : Int) > 0 then ((pouchref04_Wild.f k a0).bind fun t102 => (some (!t102))) else (some false)) = some r := by rw [if_pos rfl] at H; exact H
    clear H
    have H := H1
    clear H1
    by_cases c4 : (a0.size : Int) > 0
    · rw [if_pos c4] at H
      have c4b0 := decide_eq_true c4
      have c4b1 : decide (0 < a0.size) = true := decide_eq_true (by omega)
      clear c4
      replace H := Option.bind_eq_some_iff.mp H
      obtain ⟨t102, A50, H⟩ := H
      replace H : (some (!t102)) = some r := H
      have A5 := Aside0.mk A50
      clear A50
      obtain rfl := Option.some.inj H
      go_enter Tryd.func86, Tryd.ntmps86
      go_wp2_with (first | ((with_reducible refine gate_callee (f := 68) rfl ?_); refine goesL_ (some 4) rfl rfl Tryd.func68 (by kernel_rfl) rfl #[.string a0] rfl y2_ ?_; (with_reducible refine (pouchref02_Right.calls k a0 true _ A2.out).mono ?_); rintro e w' ⟨rfl, ⟨nd, rfl⟩⟩; refine ⟨_, rfl, ?_⟩) | (go_at_call 102; (with_reducible refine (pouchref04_Wild.calls k a0 t102 _ A5.out).mono ?_); rintro e w' ⟨rfl, ⟨nd, rfl⟩⟩))
      go_ret
      exact ⟨y7_, y10_⟩
    · rw [if_neg c4] at H
      have c4b0 := decide_eq_false c4
      have c4b1 : decide (0 < a0.size) = false := decide_eq_false (by omega)
      clear c4
      obtain rfl := Option.some.inj H
      go_enter Tryd.func86, Tryd.ntmps86
      go_wp2_with (first | ((with_reducible refine gate_callee (f := 68) rfl ?_); refine goesL_ (some 4) rfl rfl Tryd.func68 (by kernel_rfl) rfl #[.string a0] rfl y2_ ?_; (with_reducible refine (pouchref02_Right.calls k a0 true _ A2.out).mono ?_); rintro e w' ⟨rfl, ⟨nd, rfl⟩⟩; refine ⟨_, rfl, ?_⟩))
      go_ret
      exact ⟨y7_, y10_⟩
  · replace c3 := Bool.eq_false_iff.mpr c3
    subst c3
    have H1 : (some false) = some r := by rw [if_neg (show ¬ (false = true) by decide)] at H; exact H
    clear H
    have H := H1
    clear H1
    obtain rfl := Option.some.inj H
    go_enter Tryd.func86, Tryd.ntmps86
    go_wp2_with (first | ((with_reducible refine gate_callee (f := 68) rfl ?_); refine goesL_ (some 4) rfl rfl Tryd.func68 (by kernel_rfl) rfl #[.string a0] rfl y2_ ?_; (with_reducible refine (pouchref02_Right.calls k a0 false _ A2.out).mono ?_); rintro e w' ⟨rfl, ⟨nd, rfl⟩⟩; refine ⟨_, rfl, ?_⟩))
    go_ret
    exact ⟨y7_, y10_⟩
mutual
def pouchref05_Value.j0 : Nat → Int → Bool → Int → Int → ByteArray → ByteArray → Option (Bool)
  | 0, _, _, _, _, _, _ => none
  | k + 1, x7, x8, x102000, x102001, x102002, x102003 => if x8 = true then (some (decide (x102001 < 2))) else (if x7 = 11 then (pouchref05_Value.j1 k x7 (x7 == 11) x102000 x102001 x102002 x102003) else (if x7 = 33 then (pouchref05_Value.j1 k x7 (x7 == 33) x102000 x102001 x102002 x102003) else (if x7 = 35 then (pouchref05_Value.j1 k x7 (x7 == 35) x102000 x102001 x102002 x102003) else (pouchref05_Value.j1 k x7 (x7 == 39) x102000 x102001 x102002 x102003))))
def pouchref05_Value.j1 : Nat → Int → Bool → Int → Int → ByteArray → ByteArray → Option (Bool)
  | 0, _, _, _, _, _, _ => none
  | k + 1, x7, x20, x102000, x102001, x102002, x102003 => if x20 = true then (some (x102001 != 0)) else (if x7 = 8 then ((pouchref04_Name.f k x102002).bind fun t103 => (some t103)) else (some true))
end
def pouchref05_Value.f (k : Nat) (a0_0 : Int) (a0_1 : Int) (a0_2 : ByteArray) (a0_3 : ByteArray) : Option (Bool) := (pouchref05_Right.f k a0_0 a0_1 a0_2 a0_3).bind fun t102 => (if t102 = true then (if a0_0 = 1 then (pouchref05_Value.j0 k a0_0 (a0_0 == 1) a0_0 a0_1 a0_2 a0_3) else (if a0_0 = 23 then (pouchref05_Value.j0 k a0_0 (a0_0 == 23) a0_0 a0_1 a0_2 a0_3) else (if a0_0 = 25 then (pouchref05_Value.j0 k a0_0 (a0_0 == 25) a0_0 a0_1 a0_2 a0_3) else (if a0_0 = 36 then (pouchref05_Value.j0 k a0_0 (a0_0 == 36) a0_0 a0_1 a0_2 a0_3) else (if a0_0 = 37 then (pouchref05_Value.j0 k a0_0 (a0_0 == 37) a0_0 a0_1 a0_2 a0_3) else (if a0_0 = 40 then (pouchref05_Value.j0 k a0_0 (a0_0 == 40) a0_0 a0_1 a0_2 a0_3) else (if a0_0 = 41 then (pouchref05_Value.j0 k a0_0 (a0_0 == 41) a0_0 a0_1 a0_2 a0_3) else (pouchref05_Value.j0 k a0_0 (a0_0 == 42) a0_0 a0_1 a0_2 a0_3)))))))) else (some false))
theorem z62m0 {p : Prop} (h : p := by
 repeat' first
 | (with_reducible exact ih0 _ _ _ _ _ _)
 | (with_reducible exact ih1 _ _ _ _ _ _)
 | (with_reducible exact pouchref04_Name.mono _ _)
 | (with_reducible exact pouchref05_Right.mono _ _ _ _ _)
 | (with_reducible exact LeO.refl _)
 | (with_reducible exact LeO.none _)
 | (with_reducible refine LeO.ite ?_ ?_)
 | (with_reducible refine LeO.bind ?_ (fun _ => ?_))
 | exact ih0 _ _ _ _ _ _
 | exact ih1 _ _ _ _ _ _
 | exact pouchref04_Name.mono _ _
 | exact pouchref05_Right.mono _ _ _ _ _
 | exact LeO.none _
 | refine LeO.ite ?_ ?_
 | refine LeO.bind ?_ (fun _ => ?_)) : p := h
theorem pouchref05_Value.mono_l : ∀ k, (∀ y0 y1 y2 y3 y4 y5, LeO (pouchref05_Value.j0 k y0 y1 y2 y3 y4 y5) (pouchref05_Value.j0 (k + 1) y0 y1 y2 y3 y4 y5)) ∧ (∀ y0 y1 y2 y3 y4 y5, LeO (pouchref05_Value.j1 k y0 y1 y2 y3 y4 y5) (pouchref05_Value.j1 (k + 1) y0 y1 y2 y3 y4 y5))
  | 0 => ⟨fun _ _ _ _ _ _ r h => by simp [pouchref05_Value.j0] at h, fun _ _ _ _ _ _ r h => by simp [pouchref05_Value.j1] at h⟩
  | k + 1 => by
    obtain ⟨ih0, ih1⟩ := pouchref05_Value.mono_l k
    refine ⟨?_, ?_⟩
    · intro y0 y1 y2 y3 y4 y5
      unfold pouchref05_Value.j0
      exact z62m0
    · intro y0 y1 y2 y3 y4 y5
      unfold pouchref05_Value.j1
      exact z62m0
theorem pouchref05_Value.mono : ∀ a0 a1 a2 a3 k, LeO (pouchref05_Value.f k a0 a1 a2 a3) (pouchref05_Value.f (k + 1) a0 a1 a2 a3) := by
  intro a0 a1 a2 a3 k
  obtain ⟨ih0, ih1⟩ := pouchref05_Value.mono_l k
  unfold pouchref05_Value.f
  exact z62m0
theorem z62z0 {p : Prop} (h : p := by have := HJ3.out; first | omega | exact Nat.le_refl _) : p := h
theorem pouchref05_Value.calls (k : Nat) (a0_0 : Int) (a0_1 : Int) (a0_2 : ByteArray) (a0_3 : ByteArray) (r : Bool) (w : World) (h : pouchref05_Value.f k a0_0 a0_1 a0_2 a0_3 = some r) :
  Calls Tryd.prog 62 #[.agg #[.int .u8 a0_0, .int .u32 a0_1, .string a0_2, .string a0_3]] w fun e w' => e = .returned (.bool r) ∧ Below w.heap.size w w' := by
 have hu58 := Tryd.underlying58
 have HB := Aside0.mk (Below.refl w.heap.size w)
 have H : ((pouchref05_Right.f k a0_0 a0_1 a0_2 a0_3).bind fun t102 => (if t102 = true then (if a0_0 = 1 then (pouchref05_Value.j0 k a0_0 (a0_0 == 1) a0_0 a0_1 a0_2 a0_3) else (if a0_0 = 23 then (pouchref05_Value.j0 k a0_0 (a0_0 == 23) a0_0 a0_1 a0_2 a0_3) else (if a0_0 = 25 then (pouchref05_Value.j0 k a0_0 (a0_0 == 25) a0_0 a0_1 a0_2 a0_3) else (if a0_0 = 36 then (pouchref05_Value.j0 k a0_0 (a0_0 == 36) a0_0 a0_1 a0_2 a0_3) else (if a0_0 = 37 then (pouchref05_Value.j0 k a0_0 (a0_0 == 37) a0_0 a0_1 a0_2 a0_3) else (if a0_0 = 40 then (pouchref05_Value.j0 k a0_0 (a0_0 == 40) a0_0 a0_1 a0_2 a0_3) else (if a0_0 = 41 then (pouchref05_Value.j0 k a0_0 (a0_0 == 41) a0_0 a0_1 a0_2 a0_3) else (pouchref05_Value.j0 k a0_0 (a0_0 == 42) a0_0 a0_1 a0_2 a0_3)))))))) else (some false))) = some r := h
 clear h
 replace H := Option.bind_eq_some_iff.mp H
 obtain ⟨t102, A20, H⟩ := H
 try dsimp -simprocs only at H
 have A2 := Aside0.mk A20
 clear A20
 by_cases c3 : t102 = true
 rotate_left
 ·replace c3 := Bool.eq_false_iff.mpr c3
  subst c3
  replace H : (some false) = some r := by rw [if_neg (show ¬ (false = true) by decide)] at H; exact H
  obtain rfl := Option.some.inj H
  go_enter Tryd.func62, Tryd.ntmps62
  go_wp2_with (first | ((with_reducible refine gate_dst (N := 1) rfl ?_); refine box_event ?hg (N := 1) ?hd (cs := #[.int .u8 a0_0, .int .u32 a0_1, .string a0_2, .string a0_3]) (t := 58) ?hr ?_; (case hd => rfl); (case hg => rfl); (case hr => first | (go_simp; done) | (go_simp; rfl)); intro gb101 hg w27 hbox hb; have n0_ := Aside0.mk (below_step y0_ hb); have n1_ := Aside0.mk (hbox); have n2_ := Aside0.mk ((by rw [hg]; exact (below_size y0_) : w.heap.size ≤ gb101)); have n3_ := Aside0.mk ((by rw [hg]; exact (below_size y0_) : w.heap.size ≤ gb101)); replace HB := n0_; have BK101 := n1_; have GW101 := n2_; have GE101 := n3_; clear n0_ n1_ n2_ n3_; clear hb hbox hg; obtain ⟨hcz28_0, hcz28_1, hcz28_2, hcz28_3⟩ := ccs4_ BK101.out) | ((with_reducible refine gate_callee (f := 38) rfl ?_); refine goesL_ (some 4) rfl rfl Tryd.func38 (by kernel_rfl) rfl #[.agg #[.int .u8 a0_0, .int .u32 a0_1, .string a0_2, .string a0_3]] rfl y2_ ?_; (with_reducible refine (pouchref05_Right.calls k a0_0 a0_1 a0_2 a0_3 false _ A2.out).mono ?_); rintro e w29 ⟨rfl, hb⟩; refine ⟨_, rfl, ?_⟩; have n0_ := Aside0.mk (blk_below (g := gb101) (o := .cells #[.int .u8 a0_0, .int .u32 a0_1, .string a0_2, .string a0_3] 58 (0, 0)) y3_ hb); have n1_ := Aside0.mk (below_step y1_ hb); replace BK101 := n0_; replace HB := n1_; clear n0_ n1_; clear hb))
  go_ret
  exact ⟨y4_, y1_⟩
 subst c3
 have H1 : (if a0_0 = 1 then (pouchref05_Value.j0 k a0_0 (a0_0 == 1) a0_0 a0_1 a0_2 a0_3) else (if a0_0 = 23 then (pouchref05_Value.j0 k a0_0 (a0_0 == 23) a0_0 a0_1 a0_2 a0_3) else (if a0_0 = 25 then (pouchref05_Value.j0 k a0_0 (a0_0 == 25) a0_0 a0_1 a0_2 a0_3) else (if a0_0 = 36 then (pouchref05_Value.j0 k a0_0 (a0_0 == 36) a0_0 a0_1 a0_2 a0_3) else (if a0_0 = 37 then (pouchref05_Value.j0 k a0_0 (a0_0 == 37) a0_0 a0_1 a0_2 a0_3) else (if a0_0 = 40 then (pouchref05_Value.j0 k a0_0 (a0_0 == 40) a0_0 a0_1 a0_2 a0_3) else (if a0_0 = 41 then (pouchref05_Value.j0 k a0_0 (a0_0 == 41) a0_0 a0_1 a0_2 a0_3) else (pouchref05_Value.j0 k a0_0 (a0_0 == 42) a0_0 a0_1 a0_2 a0_3)))))))) = some r := by rw [if_pos rfl] at H; exact H
 clear H
 have H := H1
 clear H1
 have HC4 := Aside0.mk H
 clear H
 go_enter Tryd.func62, Tryd.ntmps62
 go_upto_if 8 with (first | ((with_reducible refine gate_dst (N := 1) rfl ?_); refine box_event ?hg (N := 1) ?hd (cs := #[.int .u8 a0_0, .int .u32 a0_1, .string a0_2, .string a0_3]) (t := 58) ?hr ?_; (case hd => rfl); (case hg => rfl); (case hr => first | (go_simp; done) | (go_simp; rfl)); intro gb101 hg w5 hbox hb; have n0_ := Aside0.mk (below_step y0_ hb); have n1_ := Aside0.mk (hbox); have n2_ := Aside0.mk ((by rw [hg]; exact (below_size y0_) : w.heap.size ≤ gb101)); have n3_ := Aside0.mk ((by rw [hg]; exact (below_size y0_) : w.heap.size ≤ gb101)); replace HB := n0_; have BK101 := n1_; have GW101 := n2_; have GE101 := n3_; clear n0_ n1_ n2_ n3_; clear hb hbox hg; obtain ⟨hcz6_0, hcz6_1, hcz6_2, hcz6_3⟩ := ccs4_ BK101.out) | ((with_reducible refine gate_callee (f := 38) rfl ?_); refine goesL_ (some 4) rfl rfl Tryd.func38 (by kernel_rfl) rfl #[.agg #[.int .u8 a0_0, .int .u32 a0_1, .string a0_2, .string a0_3]] rfl y2_ ?_; (with_reducible refine (pouchref05_Right.calls k a0_0 a0_1 a0_2 a0_3 true _ A2.out).mono ?_); rintro e w7 ⟨rfl, hb⟩; refine ⟨_, rfl, ?_⟩; have n0_ := Aside0.mk (blk_below (g := gb101) (o := .cells #[.int .u8 a0_0, .int .u32 a0_1, .string a0_2, .string a0_3] 58 (0, 0)) y3_ hb); have n1_ := Aside0.mk (below_step y1_ hb); replace BK101 := n0_; replace HB := n1_; clear n0_ n1_; clear hb; obtain ⟨hcz8_0, hcz8_1, hcz8_2, hcz8_3⟩ := ccs4_ BK101.out))
 (try simp only [Act.put, List.setIfInBounds_toArray, List.set_cons_zero, List.set_cons_succ])
 go_cut [8] (fun v8 wc => ∃ (kq : Nat) (x8_3 : Bool), v8 = .bool x8_3 ∧ Aside0 (pouchref05_Value.j0 kq a0_0 x8_3 a0_0 a0_1 a0_2 a0_3 = some r) ∧ Aside0 (kq ≤ k) ∧ Aside0 (wc.heap[gb101]? = some (.cells #[.int .u8 a0_0, .int .u32 a0_1, .string a0_2, .string a0_3] 58 (0, 0))) ∧ Aside0 (Below w.heap.size w wc))
 case first =>
  have H := HC4.out
  clear HC4
  by_cases c9 : a0_0 = 1
  ·rw [if_pos c9] at H
   obtain ⟨c9b0, c9b1⟩ := eqt_ c9
   clear c9
   (first | rw [c9b0] | (simp only [i64_w, i32_w]; rw [c9b0]) | skip)
   have H' := Aside0.mk H
   clear H
   go_wp2
   go_meet
   case rel => exact ⟨_, ((a0_0 == 1)), y7_, H', ⟨y19_⟩, ⟨y3_⟩, ⟨y1_⟩⟩
  ·rw [if_neg c9] at H
   obtain ⟨c9b0, c9b1⟩ := eqf_ c9
   (first | rw [c9b0] | (simp only [i64_w, i32_w]; rw [c9b0]) | skip)
   by_cases c10 : a0_0 = 23
   ·rw [if_pos c10] at H
    obtain ⟨c10b0, c10b1⟩ := eqt_ c10
    clear c10
    have H' := Aside0.mk H
    clear H
    go_wp2
    go_meet
    case rel => exact ⟨_, ((a0_0 == 23)), y7_, H', ⟨y19_⟩, ⟨y3_⟩, ⟨y1_⟩⟩
   ·rw [if_neg c10] at H
    obtain ⟨c10b0, c10b1⟩ := eqf_ c10
    by_cases c11 : a0_0 = 25
    ·rw [if_pos c11] at H
     obtain ⟨c11b0, c11b1⟩ := eqt_ c11
     clear c11
     have H' := Aside0.mk H
     clear H
     go_wp2
     go_meet
     case rel => exact ⟨_, ((a0_0 == 25)), y7_, H', ⟨y19_⟩, ⟨y3_⟩, ⟨y1_⟩⟩
    ·rw [if_neg c11] at H
     obtain ⟨c11b0, c11b1⟩ := eqf_ c11
     by_cases c12 : a0_0 = 36
     ·rw [if_pos c12] at H
      obtain ⟨c12b0, c12b1⟩ := eqt_ c12
      clear c12
      have H' := Aside0.mk H
      clear H
      go_wp2
      go_meet
      case rel => exact ⟨_, ((a0_0 == 36)), y7_, H', ⟨y19_⟩, ⟨y3_⟩, ⟨y1_⟩⟩
     ·rw [if_neg c12] at H
      obtain ⟨c12b0, c12b1⟩ := eqf_ c12
      by_cases c13 : a0_0 = 37
      ·rw [if_pos c13] at H
       obtain ⟨c13b0, c13b1⟩ := eqt_ c13
       clear c13
       have H' := Aside0.mk H
       clear H
       go_wp2
       go_meet
       case rel => exact ⟨_, ((a0_0 == 37)), y7_, H', ⟨y19_⟩, ⟨y3_⟩, ⟨y1_⟩⟩
      ·rw [if_neg c13] at H
       obtain ⟨c13b0, c13b1⟩ := eqf_ c13
       by_cases c14 : a0_0 = 40
       ·rw [if_pos c14] at H
        obtain ⟨c14b0, c14b1⟩ := eqt_ c14
        clear c14
        have H' := Aside0.mk H
        clear H
        go_wp2
        go_meet
        case rel => exact ⟨_, ((a0_0 == 40)), y7_, H', ⟨y19_⟩, ⟨y3_⟩, ⟨y1_⟩⟩
       ·rw [if_neg c14] at H
        obtain ⟨c14b0, c14b1⟩ := eqf_ c14
        by_cases c15 : a0_0 = 41
        ·rw [if_pos c15] at H
         obtain ⟨c15b0, c15b1⟩ := eqt_ c15
         clear c15
         have H' := Aside0.mk H
         clear H
         go_wp2
         go_meet
         case rel => exact ⟨_, ((a0_0 == 41)), y7_, H', ⟨y19_⟩, ⟨y3_⟩, ⟨y1_⟩⟩
        ·rw [if_neg c15] at H
         obtain ⟨c15b0, c15b1⟩ := eqf_ c15
         have H' := Aside0.mk H
         clear H
         go_wp2
         go_meet
         case rel => exact ⟨_, ((a0_0 == 42)), y7_, H', ⟨y19_⟩, ⟨y3_⟩, ⟨y1_⟩⟩
 case rest =>
  clear HC4
  try clear c1
  try clear p2
  try clear c3
  try clear c6
  try clear c9
  try clear c9b0
  try clear c9b1
  try clear c10
  try clear c10b0
  try clear c10b1
  try clear c11
  try clear c11b0
  try clear c11b1
  try clear c12
  try clear c12b0
  try clear c12b1
  try clear c13
  try clear c13b0
  try clear c13b1
  try clear c14
  try clear c14b0
  try clear c14b1
  try clear c15
  try clear c15b0
  try clear c15b1
  try clear hcz6_0
  try clear hcz6_1
  try clear hcz6_2
  try clear hcz6_3
  try clear hcz8_0
  try clear hcz8_1
  try clear hcz8_2
  try clear hcz8_3
  try clear hfz6_0
  try clear hfz6_1
  try clear hfz6_2
  try clear hfz6_3
  try clear hfz8_0
  try clear hfz8_1
  try clear hfz8_2
  try clear hfz8_3
  obtain ⟨kq, x8_3, rfl, HA, HJ3, BK101, HB⟩ := hcut
  cases kq with
  | zero => exact absurd HA.out (by simp [pouchref05_Value.j0])
  | succ kj3 =>
   have H := HA.out
   clear HA
   simp only [pouchref05_Value.j0] at H
   by_cases c16 : x8_3 = true
   ·subst c16
    have H1 : (some (decide (a0_1 < 2))) = some r := by rw [if_pos rfl] at H; exact H
    clear H
    have H := H1
    clear H1
    obtain rfl := Option.some.inj H
    obtain ⟨hcz17_0, hcz17_1, hcz17_2, hcz17_3⟩ := ccs4_ BK101.out
    obtain ⟨hfz17_0, hfz17_1, hfz17_2, hfz17_3⟩ := fzs4_ BK101.out
    go_wp2
    go_ret
    exact ⟨y4_, y1_⟩
   ·replace c16 := Bool.eq_false_iff.mpr c16
    subst c16
    replace H : (if a0_0 = 11 then (pouchref05_Value.j1 kj3 a0_0 (a0_0 == 11) a0_0 a0_1 a0_2 a0_3) else (if a0_0 = 33 then (pouchref05_Value.j1 kj3 a0_0 (a0_0 == 33) a0_0 a0_1 a0_2 a0_3) else (if a0_0 = 35 then (pouchref05_Value.j1 kj3 a0_0 (a0_0 == 35) a0_0 a0_1 a0_2 a0_3) else (pouchref05_Value.j1 kj3 a0_0 (a0_0 == 39) a0_0 a0_1 a0_2 a0_3)))) = some r := by rw [if_neg (show ¬ (false = true) by decide)] at H; exact H
    have HC18 := Aside0.mk H
    clear H
    go_upto_if 20 with (fail)
    go_cut [20] (fun v20 wc => ∃ (kq : Nat) (x20_17 : Bool), v20 = .bool x20_17 ∧ Aside0 (pouchref05_Value.j1 kq a0_0 x20_17 a0_0 a0_1 a0_2 a0_3 = some r) ∧ Aside0 (kq ≤ kj3) ∧ Aside0 (wc.heap[gb101]? = some (.cells #[.int .u8 a0_0, .int .u32 a0_1, .string a0_2, .string a0_3] 58 (0, 0))) ∧ Aside0 (Below w.heap.size w wc))
    case first =>
     have H := HC18.out
     clear HC18
     by_cases c19 : a0_0 = 11
     ·rw [if_pos c19] at H
      obtain ⟨c19b0, c19b1⟩ := eqt_ c19
      clear c19
      (first | rw [c19b0] | (simp only [i64_w, i32_w]; rw [c19b0]) | skip)
      have H' := Aside0.mk H
      clear H
      go_wp2
      go_meet
      case rel => exact ⟨_, ((a0_0 == 11)), y7_, H', ⟨z62z0⟩, ⟨y3_⟩, ⟨y1_⟩⟩
     ·rw [if_neg c19] at H
      obtain ⟨c19b0, c19b1⟩ := eqf_ c19
      (first | rw [c19b0] | (simp only [i64_w, i32_w]; rw [c19b0]) | skip)
      by_cases c20 : a0_0 = 33
      ·rw [if_pos c20] at H
       obtain ⟨c20b0, c20b1⟩ := eqt_ c20
       clear c20
       have H' := Aside0.mk H
       clear H
       go_wp2
       go_meet
       case rel => exact ⟨_, ((a0_0 == 33)), y7_, H', ⟨z62z0⟩, ⟨y3_⟩, ⟨y1_⟩⟩
      ·rw [if_neg c20] at H
       obtain ⟨c20b0, c20b1⟩ := eqf_ c20
       by_cases c21 : a0_0 = 35
       ·rw [if_pos c21] at H
        obtain ⟨c21b0, c21b1⟩ := eqt_ c21
        clear c21
        have H' := Aside0.mk H
        clear H
        go_wp2
        go_meet
        case rel => exact ⟨_, ((a0_0 == 35)), y7_, H', ⟨z62z0⟩, ⟨y3_⟩, ⟨y1_⟩⟩
       ·rw [if_neg c21] at H
        obtain ⟨c21b0, c21b1⟩ := eqf_ c21
        have H' := Aside0.mk H
        clear H
        go_wp2
        go_meet
        case rel => exact ⟨_, ((a0_0 == 39)), y7_, H', ⟨z62z0⟩, ⟨y3_⟩, ⟨y1_⟩⟩
    case rest =>
     clear HC18
     try clear c1
     try clear c2
     try clear p2
     try clear c3
     try clear c6
     try clear c9
     try clear c9b0
     try clear c9b1
     try clear c10
     try clear c10b0
     try clear c10b1
     try clear c11
     try clear c11b0
     try clear c11b1
     try clear c12
     try clear c12b0
     try clear c12b1
     try clear c13
     try clear c13b0
     try clear c13b1
     try clear c14
     try clear c14b0
     try clear c14b1
     try clear c15
     try clear c15b0
     try clear c15b1
     try clear c16
     try clear c19
     try clear c19b0
     try clear c19b1
     try clear c20
     try clear c20b0
     try clear c20b1
     try clear c21
     try clear c21b0
     try clear c21b1
     try clear hcz17_0
     try clear hcz17_1
     try clear hcz17_2
     try clear hcz17_3
     try clear hcz6_0
     try clear hcz6_1
     try clear hcz6_2
     try clear hcz6_3
     try clear hcz8_0
     try clear hcz8_1
     try clear hcz8_2
     try clear hcz8_3
     try clear hfz17_0
     try clear hfz17_1
     try clear hfz17_2
     try clear hfz17_3
     try clear hfz6_0
     try clear hfz6_1
     try clear hfz6_2
     try clear hfz6_3
     try clear hfz8_0
     try clear hfz8_1
     try clear hfz8_2
     try clear hfz8_3
     try clear p2
     obtain ⟨kq, x20_17, rfl, HA, HJ17, BK101, HB⟩ := hcut
     cases kq with
     | zero => exact absurd HA.out (by simp [pouchref05_Value.j1])
     | succ kj17 =>
      have H := HA.out
      clear HA
      simp only [pouchref05_Value.j1] at H
      by_cases c22 : x20_17 = true
      ·subst c22
       have H1 : (some (a0_1 != 0)) = some r := by rw [if_pos rfl] at H; exact H
       clear H
       have H := H1
       clear H1
       obtain rfl := Option.some.inj H
       have hcz23_0 : wc.cell? ⟨gb101, 0, none⟩ = some (.int .u8 a0_0) := (blk_cell BK101.out 0).trans rfl
       have hcz23_1 : wc.cell? ⟨gb101, 1, none⟩ = some (.int .u32 a0_1) := (blk_cell BK101.out 1).trans rfl
       have hcz23_2 : wc.cell? ⟨gb101, 2, none⟩ = some (.string a0_2) := (blk_cell BK101.out 2).trans rfl
       have hcz23_3 : wc.cell? ⟨gb101, 3, none⟩ = some (.string a0_3) := (blk_cell BK101.out 3).trans rfl
       obtain ⟨hfz23_0, hfz23_1, hfz23_2, hfz23_3⟩ := fzs4_ BK101.out
       go_wp2
       go_ret
       exact ⟨y4_, y1_⟩
      ·replace c22 := Bool.eq_false_iff.mpr c22
       subst c22
       replace H : (if a0_0 = 8 then ((pouchref04_Name.f kj17 a0_2).bind fun t103 => (some t103)) else (some true)) = some r := by rw [if_neg (show ¬ (false = true) by decide)] at H; exact H
       by_cases c24 : a0_0 = 8
       ·rw [if_pos c24] at H
        obtain ⟨c24b0, c24b1⟩ := eqt_ c24
        clear c24
        replace H := Option.bind_eq_some_iff.mp H
        obtain ⟨t103, A250, H⟩ := H
        replace H : (some t103) = some r := H
        have A25 := Aside0.mk A250
        clear A250
        obtain rfl := Option.some.inj H
        have hcz26_0 : wc.cell? ⟨gb101, 0, none⟩ = some (.int .u8 a0_0) := (blk_cell BK101.out 0).trans rfl
        have hcz26_1 : wc.cell? ⟨gb101, 1, none⟩ = some (.int .u32 a0_1) := (blk_cell BK101.out 1).trans rfl
        have hcz26_2 : wc.cell? ⟨gb101, 2, none⟩ = some (.string a0_2) := (blk_cell BK101.out 2).trans rfl
        have hcz26_3 : wc.cell? ⟨gb101, 3, none⟩ = some (.string a0_3) := (blk_cell BK101.out 3).trans rfl
        obtain ⟨hfz26_0, hfz26_1, hfz26_2, hfz26_3⟩ := fzs4_ BK101.out
        go_wp2_with (first | ((with_reducible refine gate_callee (f := 86) rfl ?_); refine goesL_ (some 32) rfl rfl Tryd.func86 (by kernel_rfl) rfl #[.string a0_2] rfl y2_ ?_; (with_reducible refine (pouchref04_Name.calls kj17 a0_2 t103 _ A25.out).mono ?_); rintro e w' ⟨rfl, ⟨nd, rfl⟩⟩; refine ⟨_, rfl, ?_⟩))
        go_ret
        exact ⟨y4_, y1_⟩
       ·rw [if_neg c24] at H
        obtain ⟨c24b0, c24b1⟩ := eqf_ c24
        obtain rfl := Option.some.inj H
        go_wp2
        go_ret
        exact ⟨y4_, y1_⟩
end Go.Proofs.YtkmkgpigmldhnaaDoor.P
namespace Go.Proofs.YtkmkgpigmldhnaaDoor.P
open Go.RowKit Go.Proofs.YtkmkgpigmldhnaaDoorW.PrintWords Go.Proofs.YtkmkgpigmldhnaaDoorW.PrintLast Go.Proofs.YtkmkgpigmldhnaaDoorW.PrintMore
attribute [local go_sem] max2_int min2_int max_two min_two max_three min_three max_four min_four
mutual
def pouchref06_Check.l0 : Nat → Int → List (S58) → Int → Option (Bool)
  | 0, _, _, _ => none
  | k + 1, x0, x1, x5 => if x5 < (x1.length : Int) then (if 0 ≤ x5 then ((pouchref05_Value.f k ((rd_T58 x1 x5).f0) ((rd_T58 x1 x5).f1) ((rd_T58 x1 x5).f2) ((rd_T58 x1 x5).f3)).bind fun t114 => (if t114 = true then ((pouchref05_For.f k ((rd_T58 x1 x5).f0) x0).bind fun t116 => (pouchref06_Check.j1 k x0 x1 x5 (!t116))) else (pouchref06_Check.j1 k x0 x1 x5 true))) else (none)) else ((pouchref06_Get.f k x1 22).bind fun bt101 => ((pouchref06_Get.f k x1 21).bind fun bt107 => (if bt107.2.2.2.2 = true then (some true) else (some (!bt101.2.2.2.2)))))
def pouchref06_Check.j1 : Nat → Int → List (S58) → Int → Bool → Option (Bool)
  | 0, _, _, _, _ => none
  | k + 1, x0, x1, x5, x34 => if x34 = true then (some false) else (if x5 > 0 then (if 0 ≤ (wrap64 (x5 - 1)) then (if (wrap64 (x5 - 1)) < (x1.length : Int) then (if 0 ≤ x5 then (if x5 < (x1.length : Int) then (if ((rd_T58 x1 (wrap64 (x5 - 1))).f0) > ((rd_T58 x1 x5).f0) then (some false) else (if ((rd_T58 x1 (wrap64 (x5 - 1))).f0) = ((rd_T58 x1 x5).f0) then ((pouchref05_Often.f k ((rd_T58 x1 x5).f0) x0).bind fun t122 => (if t122 = true then (pouchref06_Check.l0 k x0 x1 (wrap64 (x5 + 1))) else (some false))) else (pouchref06_Check.l0 k x0 x1 (wrap64 (x5 + 1))))) else (none)) else (none)) else (none)) else (none)) else (pouchref06_Check.l0 k x0 x1 (wrap64 (x5 + 1))))
end
def pouchref06_Check.f (k : Nat) (a0 : Int) (l1 : List (S58)) : Option (Bool) := if (l1.length : Int) > 1024 then (some false) else (pouchref06_Check.l0 k a0 l1 0)
theorem z31m0 {p : Prop} (h : p := by
 repeat' first
 | (with_reducible exact ih0 _ _ _)
 | (with_reducible exact ih1 _ _ _ _)
 | (with_reducible exact pouchref05_For.mono _ _ _)
 | (with_reducible exact pouchref05_Often.mono _ _ _)
 | (with_reducible exact pouchref05_Value.mono _ _ _ _ _)
 | (with_reducible exact pouchref06_Get.mono _ _ _)
 | (with_reducible exact LeO.refl _)
 | (with_reducible exact LeO.none _)
 | (with_reducible refine LeO.ite ?_ ?_)
 | (with_reducible refine LeO.bind ?_ (fun _ => ?_))
 | exact ih0 _ _ _
 | exact ih1 _ _ _ _
 | exact pouchref05_For.mono _ _ _
 | exact pouchref05_Often.mono _ _ _
 | exact pouchref05_Value.mono _ _ _ _ _
 | exact pouchref06_Get.mono _ _ _
 | exact LeO.none _
 | refine LeO.ite ?_ ?_
 | refine LeO.bind ?_ (fun _ => ?_)) : p := h
theorem pouchref06_Check.mono_l : ∀ k, (∀ y0 y1 y2, LeO (pouchref06_Check.l0 k y0 y1 y2) (pouchref06_Check.l0 (k + 1) y0 y1 y2)) ∧ (∀ y0 y1 y2 y3, LeO (pouchref06_Check.j1 k y0 y1 y2 y3) (pouchref06_Check.j1 (k + 1) y0 y1 y2 y3))
  | 0 => ⟨fun _ _ _ r h => by simp [pouchref06_Check.l0] at h, fun _ _ _ _ r h => by simp [pouchref06_Check.j1] at h⟩
  | k + 1 => by
    obtain ⟨ih0, ih1⟩ := pouchref06_Check.mono_l k
    refine ⟨?_, ?_⟩
    · intro y0 y1 y2
      unfold pouchref06_Check.l0
      exact z31m0
    · intro y0 y1 y2 y3
      unfold pouchref06_Check.j1
      exact z31m0
theorem pouchref06_Check.mono : ∀ a0 a1 k, LeO (pouchref06_Check.f k a0 a1) (pouchref06_Check.f (k + 1) a0 a1) := by
  intro a0 a1 k
  obtain ⟨ih0, ih1⟩ := pouchref06_Check.mono_l k
  unfold pouchref06_Check.f
  exact z31m0
def pouchref06_Check.T8 : Bool × List (List Nat × List Nat) := (true, [([], []), ([0], [0]), ([1], [1]), ([2], [2]), ([2], [2]), ([4, 2], [2, 4]), ([3, 5, 2], [2, 3, 5]), ([6, 2], [2, 6]), ([7, 2], [2, 7]), ([2], [2]), ([2], [2]), ([9, 10, 2], [2, 9, 10]), ([11, 2], [2, 11]), ([12, 2], [2, 12]), ([8, 13, 2], [2, 8, 13]), ([14, 2, 2], [2, 14]), ([15], [15]), ([15], [15]), ([17, 15], [15, 17]), ([16, 18, 15], [15, 16, 18]), ([19, 15], [15, 19]), ([20, 15], [15, 20]), ([15], [15]), ([15], [15]), ([22, 23, 15], [15, 22, 23]), ([24, 15], [15, 24]), ([25, 15], [15, 25]), ([21, 26, 15], [15, 21, 26]), ([27, 15, 15], [15, 27]), ([28], [28]), ([28], [28]), ([29, 30, 28], [28, 29, 30]), ([31, 28], [28, 31]), ([32, 28], [28, 32]), ([28], [28]), ([33, 34, 28, 28], [28, 33, 34]), ([35, 28], [28, 35]), ([28, 36, 15], [15, 28, 36]), ([15, 37, 2], [2, 15, 37]), ([2, 38], [2, 38])])
def pouchref06_Check.B8 : List Nat := [0, 1, 3, 7, 7, 23, 63, 127, 255, 7, 7, 1543, 3591, 7687, 16383, 32767, 65535, 65535, 196607, 524287, 1048575, 2097151, 65535, 65535, 12648447, 29425663, 62980095, 134217727, 268435455, 536870911, 536870911, 2147483647, 4294967295, 8589934591, 536870911, 34359738367, 68719476735, 137438953471, 274877906943, 549755813887]
theorem pouchref06_Check.tab8 : rtab .any (opsOf Tryd.f31 8) = pouchref06_Check.T8 := by kernel_rfl
theorem pouchref06_Check.bits8 : waitsOk pouchref06_Check.T8.2 pouchref06_Check.B8 = true := by kernel_rfl
theorem z31z0 {p : Prop} (h : p := by exact Or.inl ⟨by rfl, by rintro w' ⟨s0, s1, s2, s3, s4, s5, s6, s7, s8, s9, s10, s11, s12, s13, s14, s15, s16, s17, s18, s19⟩; go_simp; with_reducible rfl⟩) : p := h
theorem z31z1 {p : Prop} (h : p := by exact Or.inl ⟨by rfl, by rintro w' ⟨s0, s1, s2, s3, s4, s5, s6, s7, s8, s9, s10, s11, s12, s13, s14, s15⟩; go_simp; with_reducible rfl⟩) : p := h
theorem z31z2 {p : Prop} (h : p := by repeat (first | exact (Kd.C_below HR1.out HB.out) | (with_reducible refine Kd.C_alloc ?_ _) | (with_reducible refine Kd.C_drewN ?_ _) | (with_reducible refine Kd.C_drew ?_))) : p := h
theorem z31z3 {p : Prop} (h : p := by first | rfl | (simp [errW_none, errW_some] <;> rfl) | (simp only [← hji15]; first | rfl | (simp [errW_none, errW_some] <;> rfl)) | (simp [*, errW_none, errW_some] <;> rfl)) : p := h
theorem z31z4 {p : Prop} (h : p := by first | (go_simp; done) | (go_simp; rfl)) : p := h
theorem z31z5 {p : Prop} (h : p := by exact Or.inl ⟨by rfl, by rintro w' ⟨s0, s1, s2, s3, s4, s5, s6, s7⟩; go_simp; with_reducible rfl⟩) : p := h
theorem z31z6 {p : Prop} (h : p := by have := HK1.out; have := HJ4.out; omega) : p := h
theorem pouchref06_Check.calls (k : Nat) (a0 : Int) (A1 : Option Addr) (c1 : Nat) (l1 : List (S58)) (r : Bool) (w : World) (hr1 : Kd.C k58 w A1 l1.length l1) (hc1 : l1.length ≤ c1) (h : pouchref06_Check.f k a0 l1 = some r) :
  Calls Tryd.prog 31 #[.int .i64 a0, .slice A1 l1.length c1] w fun e w' => e = .returned (.bool r) ∧ Below w.heap.size w w' := by
 have hu58 := Tryd.underlying58
 have HR1 := Aside0.mk hr1
 have HC1 := Aside0.mk hc1
 clear hr1 hc1
 have HB := Aside0.mk (Below.refl w.heap.size w)
 have H : (if (l1.length : Int) > 1024 then (some false) else (pouchref06_Check.l0 k a0 l1 0)) = some r := h
 clear h
 by_cases c3 : (l1.length : Int) > 1024
 ·rw [if_pos c3] at H
  have c3b0 := decide_eq_true c3
  have c3b1 : decide (1024 < l1.length) = true := decide_eq_true (by omega)
  clear c3
  obtain rfl := Option.some.inj H
  go_enter Tryd.func31, Tryd.ntmps31
  go_wp2
  go_ret
  exact ⟨y4_, y0_⟩
 rw [if_neg c3] at H
 have c3b0 := decide_eq_false c3
 have c3b1 : decide (1024 < l1.length) = false := decide_eq_false (by omega)
 clear c3
 have H' := Aside0.mk H
 clear H
 go_enter Tryd.func31, Tryd.ntmps31
 go_wp2
 go_loopg [5] k (fun kq v5 w' => ∃ (x5_1 : Int), v5 = .int .i64 x5_1 ∧ Aside0 (pouchref06_Check.l0 kq a0 l1 x5_1 = some r) ∧ Aside0 (kq ≤ k) ∧ Aside0 (Below w.heap.size w w'))
 case atStart => exact ⟨(0), y7_, H', ⟨Nat.le_refl _⟩, ⟨y0_⟩⟩
 case round =>
  clear H'
  try clear c1
  try clear p2
  try clear c3
  try clear c3b0
  try clear c3b1
  obtain ⟨x5_1, rfl, HA, HK1, HB⟩ := hrel
  cases gk with
  | zero => exact absurd HA.out (by simp [pouchref06_Check.l0])
  | succ k1 =>
   have H := HA.out
   clear HA
   simp only [pouchref06_Check.l0] at H
   by_cases c4 : x5_1 < (l1.length : Int)
   ·rw [if_pos c4] at H
    have c4b0 := decide_eq_true c4
    clear c4
    have HC5 := Aside0.mk H
    clear H
    go_upto_region 6 with (fail)
    go_cut [34] (fun v34 wc => ∃ (kq : Nat) (x34_4 : Bool), v34 = .bool x34_4 ∧ Aside0 (pouchref06_Check.j1 kq a0 l1 x5_1 x34_4 = some r) ∧ Aside0 (kq ≤ k1) ∧ Aside0 (Below w.heap.size w wc))
    case first =>
     have H := HC5.out
     clear HC5
     by_cases c6 : 0 ≤ x5_1
     ·rw [if_pos c6] at H
      have c6b0 := decide_eq_true c6
      clear c6
      (first | rw [c6b0] | (simp only [i64_w, i32_w]; rw [c6b0]) | skip)
      replace H := Option.bind_eq_some_iff.mp H
      obtain ⟨t114, A70, H⟩ := H
      try dsimp -simprocs only at H
      have A7 := Aside0.mk A70
      clear A70
      by_cases c8 : t114 = true
      ·subst c8
       have H1 : ((pouchref05_For.f k1 ((rd_T58 l1 x5_1).f0) a0).bind fun t116 => (pouchref06_Check.j1 k1 a0 l1 x5_1 (!t116))) = some r := by rw [if_pos rfl] at H; exact H
       clear H
       have H := H1
       clear H1
       replace H := Option.bind_eq_some_iff.mp H
       obtain ⟨t116, A90, H⟩ := H
       replace H : (pouchref06_Check.j1 k1 a0 l1 x5_1 (!t116)) = some r := H
       have A9 := Aside0.mk A90
       clear A90
       have H' := Aside0.mk H
       clear H
       have p113 : 0 ≤ (x5_1 : Int) := of_decide_eq_true y5_
       have q113 : x5_1 < (l1.length : Int) := of_decide_eq_true y5_
       obtain ⟨ad113, e113, hx113_0, hx113_1, hx113_2, hx113_3⟩ := at_T58 HR1.out x5_1 p113 q113
       cases e113
       replace hx113_0 := (HB.out.cell (World.block_lt_of_cell? w _ hx113_0)).trans hx113_0
       replace hx113_1 := (HB.out.cell (World.block_lt_of_cell? w _ hx113_1)).trans hx113_1
       replace hx113_2 := (HB.out.cell (World.block_lt_of_cell? w _ hx113_2)).trans hx113_2
       replace hx113_3 := (HB.out.cell (World.block_lt_of_cell? w _ hx113_3)).trans hx113_3
       replace p113 := eq_true p113
       replace q113 := eq_true q113
       go_wp2_with (first | ((with_reducible refine gate_callee (f := 62) rfl ?_); refine goesL_ (some 23) rfl rfl Tryd.func62 (by kernel_rfl) rfl #[.agg #[.int .u8 ((rd_T58 l1 x5_1).f0), .int .u32 ((rd_T58 l1 x5_1).f1), .string ((rd_T58 l1 x5_1).f2), .string ((rd_T58 l1 x5_1).f3)]] rfl y2_ ?_; (with_reducible refine (pouchref05_Value.calls k1 ((rd_T58 l1 x5_1).f0) ((rd_T58 l1 x5_1).f1) ((rd_T58 l1 x5_1).f2) ((rd_T58 l1 x5_1).f3) true _ A7.out).mono ?_); rintro e w10 ⟨rfl, hb⟩; refine ⟨_, rfl, ?_⟩; replace HB := Aside0.mk (below_step y0_ hb); clear hb; have p115 : 0 ≤ (x5_1 : Int) := of_decide_eq_true y5_; have q115 : x5_1 < (l1.length : Int) := of_decide_eq_true y5_; obtain ⟨ad115, e115, hx115_0, hx115_1, hx115_2, hx115_3⟩ := at_T58 HR1.out x5_1 p115 q115; obtain rfl : ad113 = ad115 := (by injection e115); replace hx115_0 := (HB.out.cell (World.block_lt_of_cell? w _ hx115_0)).trans hx115_0; replace hx115_1 := (HB.out.cell (World.block_lt_of_cell? w _ hx115_1)).trans hx115_1; replace hx115_2 := (HB.out.cell (World.block_lt_of_cell? w _ hx115_2)).trans hx115_2; replace hx115_3 := (HB.out.cell (World.block_lt_of_cell? w _ hx115_3)).trans hx115_3; replace p115 := eq_true p115; replace q115 := eq_true q115) | (go_at_call 63; (with_reducible refine (pouchref05_For.calls k1 ((rd_T58 l1 x5_1).f0) a0 t116 _ A9.out).mono ?_); rintro e w11 ⟨rfl, hb⟩; replace HB := Aside0.mk (below_step y0_ hb); clear hb))
       go_meet
       case rel => exact ⟨_, (!t116), y7_, H', ⟨y24_⟩, ⟨y0_⟩⟩
      ·replace c8 := Bool.eq_false_iff.mpr c8
       subst c8
       replace H : (pouchref06_Check.j1 k1 a0 l1 x5_1 true) = some r := by rw [if_neg (show ¬ (false = true) by decide)] at H; exact H
       have H' := Aside0.mk H
       clear H
       have p113 : 0 ≤ (x5_1 : Int) := of_decide_eq_true y5_
       have q113 : x5_1 < (l1.length : Int) := of_decide_eq_true y5_
       obtain ⟨ad113, e113, hx113_0, hx113_1, hx113_2, hx113_3⟩ := at_T58 HR1.out x5_1 p113 q113
       cases e113
       replace hx113_0 := (HB.out.cell (World.block_lt_of_cell? w _ hx113_0)).trans hx113_0
       replace hx113_1 := (HB.out.cell (World.block_lt_of_cell? w _ hx113_1)).trans hx113_1
       replace hx113_2 := (HB.out.cell (World.block_lt_of_cell? w _ hx113_2)).trans hx113_2
       replace hx113_3 := (HB.out.cell (World.block_lt_of_cell? w _ hx113_3)).trans hx113_3
       replace p113 := eq_true p113
       replace q113 := eq_true q113
       go_wp2_with (first | ((with_reducible refine gate_callee (f := 62) rfl ?_); refine goesL_ (some 23) rfl rfl Tryd.func62 (by kernel_rfl) rfl #[.agg #[.int .u8 ((rd_T58 l1 x5_1).f0), .int .u32 ((rd_T58 l1 x5_1).f1), .string ((rd_T58 l1 x5_1).f2), .string ((rd_T58 l1 x5_1).f3)]] rfl y2_ ?_; (with_reducible refine (pouchref05_Value.calls k1 ((rd_T58 l1 x5_1).f0) ((rd_T58 l1 x5_1).f1) ((rd_T58 l1 x5_1).f2) ((rd_T58 l1 x5_1).f3) false _ A7.out).mono ?_); rintro e w12 ⟨rfl, hb⟩; refine ⟨_, rfl, ?_⟩; replace HB := Aside0.mk (below_step y0_ hb); clear hb))
       go_meet
       case rel => exact ⟨_, (true), y7_, H', ⟨y24_⟩, ⟨y0_⟩⟩
     ·rw [if_neg c6] at H
      exact absurd H (by simp)
    case rest =>
     clear HC5
     try clear c1
     try clear p1
     try clear q1
     try clear hx1
     try clear p2
     try clear c3
     try clear c3b0
     try clear c3b1
     try clear c4
     try clear c4b0
     try clear c6
     try clear c6b0
     try clear c8
     try clear p11
     try clear q11
     try clear hx11
     try clear hx113_0
     try clear hx113_1
     try clear hx113_2
     try clear hx113_3
     try clear hx115_0
     try clear hx115_1
     try clear hx115_2
     try clear hx115_3
     try clear p113
     try clear p115
     try clear p2
     try clear q113
     try clear q115
     obtain ⟨kq, x34_4, rfl, HA, HJ4, HB⟩ := hcut
     cases kq with
     | zero => exact absurd HA.out (by simp [pouchref06_Check.j1])
     | succ kj4 =>
      have H := HA.out
      clear HA
      simp only [pouchref06_Check.j1] at H
      by_cases c13 : x34_4 = true
      ·subst c13
       have H1 : (some false) = some r := by rw [if_pos rfl] at H; exact H
       clear H
       have H := H1
       clear H1
       obtain rfl := Option.some.inj H
       go_wp2
       go_ret
       exact ⟨y4_, y0_⟩
      ·replace c13 := Bool.eq_false_iff.mpr c13
       subst c13
       replace H : (if x5_1 > 0 then (if 0 ≤ (wrap64 (x5_1 - 1)) then (if (wrap64 (x5_1 - 1)) < (l1.length : Int) then (if 0 ≤ x5_1 then (if x5_1 < (l1.length : Int) then (if ((rd_T58 l1 (wrap64 (x5_1 - 1))).f0) > ((rd_T58 l1 x5_1).f0) then (some false) else (if ((rd_T58 l1 (wrap64 (x5_1 - 1))).f0) = ((rd_T58 l1 x5_1).f0) then ((pouchref05_Often.f kj4 ((rd_T58 l1 x5_1).f0) a0).bind fun t122 => (if t122 = true then (pouchref06_Check.l0 kj4 a0 l1 (wrap64 (x5_1 + 1))) else (some false))) else (pouchref06_Check.l0 kj4 a0 l1 (wrap64 (x5_1 + 1))))) else (none)) else (none)) else (none)) else (none)) else (pouchref06_Check.l0 kj4 a0 l1 (wrap64 (x5_1 + 1)))) = some r := by rw [if_neg (show ¬ (false = true) by decide)] at H; exact H
       by_cases c14 : x5_1 > 0
       ·rw [if_pos c14] at H
        have c14b0 := decide_eq_true c14
        clear c14
        obtain ⟨ji15, hji15⟩ : ∃ j_ : Int, (wrap64 (x5_1 - 1)) = j_ := ⟨_, rfl⟩
        replace H : (if 0 ≤ (ji15) then (if (ji15) < (l1.length : Int) then (if 0 ≤ x5_1 then (if x5_1 < (l1.length : Int) then (if ((rd_T58 l1 (ji15)).f0) > ((rd_T58 l1 x5_1).f0) then (some false) else (if ((rd_T58 l1 (ji15)).f0) = ((rd_T58 l1 x5_1).f0) then ((pouchref05_Often.f kj4 ((rd_T58 l1 x5_1).f0) a0).bind fun t122 => (if t122 = true then (pouchref06_Check.l0 kj4 a0 l1 (wrap64 (x5_1 + 1))) else (some false))) else (pouchref06_Check.l0 kj4 a0 l1 (wrap64 (x5_1 + 1))))) else (none)) else (none)) else (none)) else (none)) = some r := by first | (rw [hji15] at H; exact H) | (simp only [hji15] at H ⊢; exact H)
        have hji15w : (IntKind.i64.wrap (x5_1 - 1)) = ji15 := (i64_w _).trans hji15
        by_cases c16 : 0 ≤ (ji15)
        ·rw [if_pos c16] at H
         have c16b0 := decide_eq_true c16
         clear c16
         by_cases c17 : (ji15) < (l1.length : Int)
         ·rw [if_pos c17] at H
          have c17b0 := decide_eq_true c17
          clear c17
          by_cases c18 : 0 ≤ x5_1
          ·rw [if_pos c18] at H
           have c18b0 := decide_eq_true c18
           clear c18
           by_cases c19 : x5_1 < (l1.length : Int)
           ·rw [if_pos c19] at H
            have c19b0 := decide_eq_true c19
            clear c19
            by_cases c20 : ((rd_T58 l1 (ji15)).f0) > ((rd_T58 l1 x5_1).f0)
            ·rw [if_pos c20] at H
             have c20b0 := decide_eq_true c20
             clear c20
             obtain rfl := Option.some.inj H
             try go_wp2
             have n0_ := Aside0.mk (below_drew1 HB.out)
             clear HB
             have HB := n0_
             clear n0_
             have p117 : 0 ≤ ((ji15) : Int) := of_decide_eq_true y5_
             have q117 : (ji15) < (l1.length : Int) := of_decide_eq_true y5_
             obtain ⟨ad117, e117, hx117_0, hx117_1, hx117_2, hx117_3⟩ := at_T58 HR1.out (ji15) p117 q117
             have hw117_3 := hx117_3
             have hw117_2 := hx117_2
             have hw117_1 := hx117_1
             have hw117_0 := hx117_0
             cases e117
             replace hx117_0 := (HB.out.cell (World.block_lt_of_cell? w _ hx117_0)).trans hx117_0
             replace hx117_1 := (HB.out.cell (World.block_lt_of_cell? w _ hx117_1)).trans hx117_1
             replace hx117_2 := (HB.out.cell (World.block_lt_of_cell? w _ hx117_2)).trans hx117_2
             replace hx117_3 := (HB.out.cell (World.block_lt_of_cell? w _ hx117_3)).trans hx117_3
             replace p117 := eq_true p117
             replace q117 := eq_true q117
             have p118 : 0 ≤ (x5_1 : Int) := of_decide_eq_true y5_
             have q118 : x5_1 < (l1.length : Int) := of_decide_eq_true y5_
             obtain ⟨ad118, e118, hx118_0, hx118_1, hx118_2, hx118_3⟩ := at_T58 HR1.out x5_1 p118 q118
             have hw118_3 := hx118_3
             have hw118_2 := hx118_2
             have hw118_1 := hx118_1
             have hw118_0 := hx118_0
             obtain rfl : ad117 = ad118 := (by injection e118)
             replace hx118_0 := (HB.out.cell (World.block_lt_of_cell? w _ hx118_0)).trans hx118_0
             replace hx118_1 := (HB.out.cell (World.block_lt_of_cell? w _ hx118_1)).trans hx118_1
             replace hx118_2 := (HB.out.cell (World.block_lt_of_cell? w _ hx118_2)).trans hx118_2
             replace hx118_3 := (HB.out.cell (World.block_lt_of_cell? w _ hx118_3)).trans hx118_3
             replace p118 := eq_true p118
             replace q118 := eq_true q118
             refine start_ (n := 40) (S := fun w' => w'.cell? (ad117.add (((ji15)).toNat * 4)) = some (.int .u8 ((rd_T58 l1 (ji15)).f0)) ∧ w'.cell? ⟨(ad117.add (((ji15)).toNat * 4)).block, (ad117.add (((ji15)).toNat * 4)).off + 1, none⟩ = some (.int .u32 ((rd_T58 l1 (ji15)).f1)) ∧ w'.cell? ⟨(ad117.add (((ji15)).toNat * 4)).block, (ad117.add (((ji15)).toNat * 4)).off + 2, none⟩ = some (.string ((rd_T58 l1 (ji15)).f2)) ∧ w'.cell? ⟨(ad117.add (((ji15)).toNat * 4)).block, (ad117.add (((ji15)).toNat * 4)).off + 3, none⟩ = some (.string ((rd_T58 l1 (ji15)).f3)) ∧ w'.cell? (ad117.add ((x5_1).toNat * 4)) = some (.int .u8 ((rd_T58 l1 x5_1).f0)) ∧ w'.cell? ⟨(ad117.add ((x5_1).toNat * 4)).block, (ad117.add ((x5_1).toNat * 4)).off + 1, none⟩ = some (.int .u32 ((rd_T58 l1 x5_1).f1)) ∧ w'.cell? ⟨(ad117.add ((x5_1).toNat * 4)).block, (ad117.add ((x5_1).toNat * 4)).off + 2, none⟩ = some (.string ((rd_T58 l1 x5_1).f2)) ∧ w'.cell? ⟨(ad117.add ((x5_1).toNat * 4)).block, (ad117.add ((x5_1).toNat * 4)).off + 3, none⟩ = some (.string ((rd_T58 l1 x5_1).f3))) (ds := []) (ba 40 0) (by kernel_rfl) rfl rfl ⟨((HB.out.cell (World.block_lt_of_cell? w _ hw117_0)).trans hw117_0), ((HB.out.cell (World.block_lt_of_cell? w _ hw117_1)).trans hw117_1), ((HB.out.cell (World.block_lt_of_cell? w _ hw117_2)).trans hw117_2), ((HB.out.cell (World.block_lt_of_cell? w _ hw117_3)).trans hw117_3), ((HB.out.cell (World.block_lt_of_cell? w _ hw118_0)).trans hw118_0), ((HB.out.cell (World.block_lt_of_cell? w _ hw118_1)).trans hw118_1), ((HB.out.cell (World.block_lt_of_cell? w _ hw118_2)).trans hw118_2), ((HB.out.cell (World.block_lt_of_cell? w _ hw118_3)).trans hw118_3)⟩ (fun hHeld => ?_); refine with_tabW pouchref06_Check.tab8 pouchref06_Check.bits8 (fun HT_ HW_ => ?_)
             generalize wc.drew = w21 at HB hx117_0 hx117_1 hx117_2 hx117_3 hx118_0 hx118_1 hx118_2 hx118_3 hHeld ⊢
             refine pq_ 0 35 1 ?_
             refine pq_ 1 36 3 ?_
             refine pq_ 2 37 7 ?_
             refine pq_ 3 38 15 ?_
             refine pq_ 4 39 31 ?_
             refine pq_ 5 40 63 ?_
             refine pq_ 6 41 127 ?_
             refine pq_ 7 42 255 ?_
             refine pq_ 9 44 767 ?_
             refine pq_ 10 45 1791 ?_
             refine pq_ 11 46 3839 ?_
             refine pq_ 12 47 7935 ?_
             refine tr_ 8 43 8191 ?_ (hy := z31z5)
             refine tr_ 13 48 16383 ?_ (hy := z31z5)
             refine pq_ 14 49 32767 ?_
             refine pq_ 15 50 65535 ?_
             refine uq_ 16 51 131071 ?_
             refine uq_ 17 52 262143 ?_
             refine uq_ 18 53 524287 ?_
             refine uq_ 19 54 1048575 ?_
             refine uq_ 20 55 2097151 ?_
             refine uq_ 21 56 4194303 ?_
             refine uq_ 22 57 8388607 ?_
             refine uq_ 23 58 16777215 ?_
             refine uq_ 24 59 33554431 ?_
             refine uq_ 25 60 67108863 ?_
             refine uq_ 26 61 134217727 ?_
             refine uq_ 27 62 268435455 ?_
             refine uq_ 28 63 536870911 ?_
             refine uq_ 29 64 1073741823 ?_
             refine uq_ 30 65 2147483647 ?_
             refine uq_ 31 66 4294967295 ?_
             refine uq_ 32 67 8589934591 ?_
             refine uq_ 33 68 17179869183 ?_
             refine uq_ 34 69 34359738367 ?_
             refine uq_ 35 70 68719476735 ?_
             refine uq_ 36 71 137438953471 ?_
             refine uq_ 37 72 274877906943 ?_
             refine pq_ 38 73 549755813887 ?_
             refine pq_ 39 74 1099511627775 ?_
             refine done_ (done_of HT_.out (by kernel_rfl)) ?_
             try go_wp2
             go_ret
             exact ⟨z31z3, y0_⟩
            ·rw [if_neg c20] at H
             have c20b0 := decide_eq_false c20
             clear c20
             by_cases c22 : ((rd_T58 l1 (ji15)).f0) = ((rd_T58 l1 x5_1).f0)
             ·rw [if_pos c22] at H
              obtain ⟨c22b0, c22b1⟩ := eqt_ c22
              clear c22
              replace H := Option.bind_eq_some_iff.mp H
              obtain ⟨t122, A230, H⟩ := H
              replace H : (if t122 = true then (pouchref06_Check.l0 kj4 a0 l1 (wrap64 (x5_1 + 1))) else (some false)) = some r := H
              have A23 := Aside0.mk A230
              clear A230
              by_cases c24 : t122 = true
              ·subst c24
               have H1 : (pouchref06_Check.l0 kj4 a0 l1 (wrap64 (x5_1 + 1))) = some r := by rw [if_pos rfl] at H; exact H
               clear H
               have H := H1
               clear H1
               have H' := Aside0.mk H
               clear H
               try go_wp2
               have n0_ := Aside0.mk (below_drew1 HB.out)
               clear HB
               have HB := n0_
               clear n0_
               have p117 : 0 ≤ ((ji15) : Int) := of_decide_eq_true y5_
               have q117 : (ji15) < (l1.length : Int) := of_decide_eq_true y5_
               obtain ⟨ad117, e117, hx117_0, hx117_1, hx117_2, hx117_3⟩ := at_T58 HR1.out (ji15) p117 q117
               have hw117_3 := hx117_3
               have hw117_2 := hx117_2
               have hw117_1 := hx117_1
               have hw117_0 := hx117_0
               cases e117
               replace hx117_0 := (HB.out.cell (World.block_lt_of_cell? w _ hx117_0)).trans hx117_0
               replace hx117_1 := (HB.out.cell (World.block_lt_of_cell? w _ hx117_1)).trans hx117_1
               replace hx117_2 := (HB.out.cell (World.block_lt_of_cell? w _ hx117_2)).trans hx117_2
               replace hx117_3 := (HB.out.cell (World.block_lt_of_cell? w _ hx117_3)).trans hx117_3
               replace p117 := eq_true p117
               replace q117 := eq_true q117
               have p118 : 0 ≤ (x5_1 : Int) := of_decide_eq_true y5_
               have q118 : x5_1 < (l1.length : Int) := of_decide_eq_true y5_
               obtain ⟨ad118, e118, hx118_0, hx118_1, hx118_2, hx118_3⟩ := at_T58 HR1.out x5_1 p118 q118
               have hw118_3 := hx118_3
               have hw118_2 := hx118_2
               have hw118_1 := hx118_1
               have hw118_0 := hx118_0
               obtain rfl : ad117 = ad118 := (by injection e118)
               replace hx118_0 := (HB.out.cell (World.block_lt_of_cell? w _ hx118_0)).trans hx118_0
               replace hx118_1 := (HB.out.cell (World.block_lt_of_cell? w _ hx118_1)).trans hx118_1
               replace hx118_2 := (HB.out.cell (World.block_lt_of_cell? w _ hx118_2)).trans hx118_2
               replace hx118_3 := (HB.out.cell (World.block_lt_of_cell? w _ hx118_3)).trans hx118_3
               replace p118 := eq_true p118
               replace q118 := eq_true q118
               have p119 : 0 ≤ ((ji15) : Int) := of_decide_eq_true y5_
               have q119 : (ji15) < (l1.length : Int) := of_decide_eq_true y5_
               obtain ⟨ad119, e119, hx119_0, hx119_1, hx119_2, hx119_3⟩ := at_T58 HR1.out (ji15) p119 q119
               have hw119_3 := hx119_3
               have hw119_2 := hx119_2
               have hw119_1 := hx119_1
               have hw119_0 := hx119_0
               obtain rfl : ad117 = ad119 := (by injection e119)
               replace hx119_0 := (HB.out.cell (World.block_lt_of_cell? w _ hx119_0)).trans hx119_0
               replace hx119_1 := (HB.out.cell (World.block_lt_of_cell? w _ hx119_1)).trans hx119_1
               replace hx119_2 := (HB.out.cell (World.block_lt_of_cell? w _ hx119_2)).trans hx119_2
               replace hx119_3 := (HB.out.cell (World.block_lt_of_cell? w _ hx119_3)).trans hx119_3
               replace p119 := eq_true p119
               replace q119 := eq_true q119
               have p120 : 0 ≤ (x5_1 : Int) := of_decide_eq_true y5_
               have q120 : x5_1 < (l1.length : Int) := of_decide_eq_true y5_
               obtain ⟨ad120, e120, hx120_0, hx120_1, hx120_2, hx120_3⟩ := at_T58 HR1.out x5_1 p120 q120
               have hw120_3 := hx120_3
               have hw120_2 := hx120_2
               have hw120_1 := hx120_1
               have hw120_0 := hx120_0
               obtain rfl : ad117 = ad120 := (by injection e120)
               replace hx120_0 := (HB.out.cell (World.block_lt_of_cell? w _ hx120_0)).trans hx120_0
               replace hx120_1 := (HB.out.cell (World.block_lt_of_cell? w _ hx120_1)).trans hx120_1
               replace hx120_2 := (HB.out.cell (World.block_lt_of_cell? w _ hx120_2)).trans hx120_2
               replace hx120_3 := (HB.out.cell (World.block_lt_of_cell? w _ hx120_3)).trans hx120_3
               replace p120 := eq_true p120
               replace q120 := eq_true q120
               have p121 : 0 ≤ (x5_1 : Int) := of_decide_eq_true y5_
               have q121 : x5_1 < (l1.length : Int) := of_decide_eq_true y5_
               obtain ⟨ad121, e121, hx121_0, hx121_1, hx121_2, hx121_3⟩ := at_T58 HR1.out x5_1 p121 q121
               have hw121_3 := hx121_3
               have hw121_2 := hx121_2
               have hw121_1 := hx121_1
               have hw121_0 := hx121_0
               obtain rfl : ad117 = ad121 := (by injection e121)
               replace hx121_0 := (HB.out.cell (World.block_lt_of_cell? w _ hx121_0)).trans hx121_0
               replace hx121_1 := (HB.out.cell (World.block_lt_of_cell? w _ hx121_1)).trans hx121_1
               replace hx121_2 := (HB.out.cell (World.block_lt_of_cell? w _ hx121_2)).trans hx121_2
               replace hx121_3 := (HB.out.cell (World.block_lt_of_cell? w _ hx121_3)).trans hx121_3
               replace p121 := eq_true p121
               replace q121 := eq_true q121
               refine start_ (n := 40) (S := fun w' => w'.cell? (ad117.add (((ji15)).toNat * 4)) = some (.int .u8 ((rd_T58 l1 (ji15)).f0)) ∧ w'.cell? ⟨(ad117.add (((ji15)).toNat * 4)).block, (ad117.add (((ji15)).toNat * 4)).off + 1, none⟩ = some (.int .u32 ((rd_T58 l1 (ji15)).f1)) ∧ w'.cell? ⟨(ad117.add (((ji15)).toNat * 4)).block, (ad117.add (((ji15)).toNat * 4)).off + 2, none⟩ = some (.string ((rd_T58 l1 (ji15)).f2)) ∧ w'.cell? ⟨(ad117.add (((ji15)).toNat * 4)).block, (ad117.add (((ji15)).toNat * 4)).off + 3, none⟩ = some (.string ((rd_T58 l1 (ji15)).f3)) ∧ w'.cell? (ad117.add ((x5_1).toNat * 4)) = some (.int .u8 ((rd_T58 l1 x5_1).f0)) ∧ w'.cell? ⟨(ad117.add ((x5_1).toNat * 4)).block, (ad117.add ((x5_1).toNat * 4)).off + 1, none⟩ = some (.int .u32 ((rd_T58 l1 x5_1).f1)) ∧ w'.cell? ⟨(ad117.add ((x5_1).toNat * 4)).block, (ad117.add ((x5_1).toNat * 4)).off + 2, none⟩ = some (.string ((rd_T58 l1 x5_1).f2)) ∧ w'.cell? ⟨(ad117.add ((x5_1).toNat * 4)).block, (ad117.add ((x5_1).toNat * 4)).off + 3, none⟩ = some (.string ((rd_T58 l1 x5_1).f3)) ∧ w'.cell? (ad117.add (((ji15)).toNat * 4)) = some (.int .u8 ((rd_T58 l1 (ji15)).f0)) ∧ w'.cell? ⟨(ad117.add (((ji15)).toNat * 4)).block, (ad117.add (((ji15)).toNat * 4)).off + 1, none⟩ = some (.int .u32 ((rd_T58 l1 (ji15)).f1)) ∧ w'.cell? ⟨(ad117.add (((ji15)).toNat * 4)).block, (ad117.add (((ji15)).toNat * 4)).off + 2, none⟩ = some (.string ((rd_T58 l1 (ji15)).f2)) ∧ w'.cell? ⟨(ad117.add (((ji15)).toNat * 4)).block, (ad117.add (((ji15)).toNat * 4)).off + 3, none⟩ = some (.string ((rd_T58 l1 (ji15)).f3)) ∧ w'.cell? (ad117.add ((x5_1).toNat * 4)) = some (.int .u8 ((rd_T58 l1 x5_1).f0)) ∧ w'.cell? ⟨(ad117.add ((x5_1).toNat * 4)).block, (ad117.add ((x5_1).toNat * 4)).off + 1, none⟩ = some (.int .u32 ((rd_T58 l1 x5_1).f1)) ∧ w'.cell? ⟨(ad117.add ((x5_1).toNat * 4)).block, (ad117.add ((x5_1).toNat * 4)).off + 2, none⟩ = some (.string ((rd_T58 l1 x5_1).f2)) ∧ w'.cell? ⟨(ad117.add ((x5_1).toNat * 4)).block, (ad117.add ((x5_1).toNat * 4)).off + 3, none⟩ = some (.string ((rd_T58 l1 x5_1).f3)) ∧ w'.cell? (ad117.add ((x5_1).toNat * 4)) = some (.int .u8 ((rd_T58 l1 x5_1).f0)) ∧ w'.cell? ⟨(ad117.add ((x5_1).toNat * 4)).block, (ad117.add ((x5_1).toNat * 4)).off + 1, none⟩ = some (.int .u32 ((rd_T58 l1 x5_1).f1)) ∧ w'.cell? ⟨(ad117.add ((x5_1).toNat * 4)).block, (ad117.add ((x5_1).toNat * 4)).off + 2, none⟩ = some (.string ((rd_T58 l1 x5_1).f2)) ∧ w'.cell? ⟨(ad117.add ((x5_1).toNat * 4)).block, (ad117.add ((x5_1).toNat * 4)).off + 3, none⟩ = some (.string ((rd_T58 l1 x5_1).f3))) (ds := []) (ba 40 0) (by kernel_rfl) rfl rfl ⟨((HB.out.cell (World.block_lt_of_cell? w _ hw117_0)).trans hw117_0), ((HB.out.cell (World.block_lt_of_cell? w _ hw117_1)).trans hw117_1), ((HB.out.cell (World.block_lt_of_cell? w _ hw117_2)).trans hw117_2), ((HB.out.cell (World.block_lt_of_cell? w _ hw117_3)).trans hw117_3), ((HB.out.cell (World.block_lt_of_cell? w _ hw118_0)).trans hw118_0), ((HB.out.cell (World.block_lt_of_cell? w _ hw118_1)).trans hw118_1), ((HB.out.cell (World.block_lt_of_cell? w _ hw118_2)).trans hw118_2), ((HB.out.cell (World.block_lt_of_cell? w _ hw118_3)).trans hw118_3), ((HB.out.cell (World.block_lt_of_cell? w _ hw119_0)).trans hw119_0), ((HB.out.cell (World.block_lt_of_cell? w _ hw119_1)).trans hw119_1), ((HB.out.cell (World.block_lt_of_cell? w _ hw119_2)).trans hw119_2), ((HB.out.cell (World.block_lt_of_cell? w _ hw119_3)).trans hw119_3), ((HB.out.cell (World.block_lt_of_cell? w _ hw120_0)).trans hw120_0), ((HB.out.cell (World.block_lt_of_cell? w _ hw120_1)).trans hw120_1), ((HB.out.cell (World.block_lt_of_cell? w _ hw120_2)).trans hw120_2), ((HB.out.cell (World.block_lt_of_cell? w _ hw120_3)).trans hw120_3), ((HB.out.cell (World.block_lt_of_cell? w _ hw121_0)).trans hw121_0), ((HB.out.cell (World.block_lt_of_cell? w _ hw121_1)).trans hw121_1), ((HB.out.cell (World.block_lt_of_cell? w _ hw121_2)).trans hw121_2), ((HB.out.cell (World.block_lt_of_cell? w _ hw121_3)).trans hw121_3)⟩ (fun hHeld => ?_); refine with_tabW pouchref06_Check.tab8 pouchref06_Check.bits8 (fun HT_ HW_ => ?_)
               generalize wc.drew = w25 at HB hx117_0 hx117_1 hx117_2 hx117_3 hx118_0 hx118_1 hx118_2 hx118_3 hx119_0 hx119_1 hx119_2 hx119_3 hx120_0 hx120_1 hx120_2 hx120_3 hx121_0 hx121_1 hx121_2 hx121_3 hHeld ⊢
               refine pq_ 0 35 1 ?_
               refine pq_ 1 36 3 ?_
               refine pq_ 2 37 7 ?_
               refine pq_ 3 38 15 ?_
               refine pq_ 4 39 31 ?_
               refine pq_ 5 40 63 ?_
               refine pq_ 6 41 127 ?_
               refine pq_ 7 42 255 ?_
               refine pq_ 9 44 767 ?_
               refine pq_ 10 45 1791 ?_
               refine pq_ 11 46 3839 ?_
               refine pq_ 12 47 7935 ?_
               refine tr_ 8 43 8191 ?_ (hy := z31z0)
               refine tr_ 13 48 16383 ?_ (hy := z31z0)
               refine pq_ 14 49 32767 ?_
               refine pq_ 15 50 65535 ?_
               refine pq_ 16 51 131071 ?_
               refine pq_ 17 52 262143 ?_
               refine pq_ 18 53 524287 ?_
               refine pq_ 19 54 1048575 ?_
               refine pq_ 20 55 2097151 ?_
               refine pq_ 22 57 6291455 ?_
               refine pq_ 23 58 14680063 ?_
               refine pq_ 24 59 31457279 ?_
               refine pq_ 25 60 65011711 ?_
               refine tr_ 21 56 67108863 ?_ (hy := z31z0)
               refine tr_ 26 61 134217727 ?_ (hy := z31z0)
               refine pq_ 27 62 268435455 ?_
               refine pq_ 28 63 536870911 ?_
               refine pq_ 29 64 1073741823 ?_
               refine pq_ 30 65 2147483647 ?_
               refine pq_ 31 66 4294967295 ?_
               refine pq_ 32 67 8589934591 ?_
               refine pq_ 34 69 25769803775 ?_
               refine tr_ 33 68 34359738367 ?_ (hy := z31z0)
               refine one_ (i := 35) (N := some 70) (ba 40 68719476735) rfl rfl (one_of HT_.out (by kernel_rfl)) (by decide) (fun K hK => ?_)
               refine goes_ Tryd.func51 (by kernel_rfl) rfl #[.int .u8 ((rd_T58 l1 x5_1).f0), .int .i64 a0] (by rfl) rfl rfl y2_ ?_
               with_reducible refine (pouchref05_Often.calls kj4 ((rd_T58 l1 x5_1).f0) a0 true _ A23.out).mono ?_
               rintro e w26 ⟨rfl, hb⟩
               refine ⟨_, rfl, ?_⟩
               have n0_ := Aside0.mk (below_step y0_ hb)
               clear HB
               have HB := n0_
               clear n0_
               (try clear hb)
               (try clear hb2)
               (try clear hk)
               (try clear hi)
               refine hK.out _ _ ⟨((HB.out.cell (World.block_lt_of_cell? w _ hw117_0)).trans hw117_0), ((HB.out.cell (World.block_lt_of_cell? w _ hw117_1)).trans hw117_1), ((HB.out.cell (World.block_lt_of_cell? w _ hw117_2)).trans hw117_2), ((HB.out.cell (World.block_lt_of_cell? w _ hw117_3)).trans hw117_3), ((HB.out.cell (World.block_lt_of_cell? w _ hw118_0)).trans hw118_0), ((HB.out.cell (World.block_lt_of_cell? w _ hw118_1)).trans hw118_1), ((HB.out.cell (World.block_lt_of_cell? w _ hw118_2)).trans hw118_2), ((HB.out.cell (World.block_lt_of_cell? w _ hw118_3)).trans hw118_3), ((HB.out.cell (World.block_lt_of_cell? w _ hw119_0)).trans hw119_0), ((HB.out.cell (World.block_lt_of_cell? w _ hw119_1)).trans hw119_1), ((HB.out.cell (World.block_lt_of_cell? w _ hw119_2)).trans hw119_2), ((HB.out.cell (World.block_lt_of_cell? w _ hw119_3)).trans hw119_3), ((HB.out.cell (World.block_lt_of_cell? w _ hw120_0)).trans hw120_0), ((HB.out.cell (World.block_lt_of_cell? w _ hw120_1)).trans hw120_1), ((HB.out.cell (World.block_lt_of_cell? w _ hw120_2)).trans hw120_2), ((HB.out.cell (World.block_lt_of_cell? w _ hw120_3)).trans hw120_3), ((HB.out.cell (World.block_lt_of_cell? w _ hw121_0)).trans hw121_0), ((HB.out.cell (World.block_lt_of_cell? w _ hw121_1)).trans hw121_1), ((HB.out.cell (World.block_lt_of_cell? w _ hw121_2)).trans hw121_2), ((HB.out.cell (World.block_lt_of_cell? w _ hw121_3)).trans hw121_3)⟩ (fun hHeld => ?_)
               clear hK K
               refine norm_ (a' := ?_) ?_ ?_
               rotate_left
               ·show Act.put _ (some 70) _ = _
                simp only [Act.put, List.setIfInBounds_toArray, List.set_cons_zero, List.set_cons_succ, i64_w, i32_w]
                rfl
               refine pq_ 36 71 137438953471 ?_
               refine pq_ 37 72 274877906943 ?_
               refine pq_ 38 73 549755813887 ?_
               refine pq_ 39 74 1099511627775 ?_
               refine done_ (done_of HT_.out (by kernel_rfl)) ?_
               try go_wp2
               go_roundg kj4
               case measure => have := HK1.out; have := HJ4.out; omega
               case rel => exact ⟨(wrap64 (x5_1 + 1)), y7_, H', ⟨z31z6⟩, ⟨y0_⟩⟩
              ·replace c24 := Bool.eq_false_iff.mpr c24
               subst c24
               replace H : (some false) = some r := by rw [if_neg (show ¬ (false = true) by decide)] at H; exact H
               obtain rfl := Option.some.inj H
               try go_wp2
               have n0_ := Aside0.mk (below_drew1 HB.out)
               clear HB
               have HB := n0_
               clear n0_
               have p117 : 0 ≤ ((ji15) : Int) := of_decide_eq_true y5_
               have q117 : (ji15) < (l1.length : Int) := of_decide_eq_true y5_
               obtain ⟨ad117, e117, hx117_0, hx117_1, hx117_2, hx117_3⟩ := at_T58 HR1.out (ji15) p117 q117
               have hw117_3 := hx117_3
               have hw117_2 := hx117_2
               have hw117_1 := hx117_1
               have hw117_0 := hx117_0
               cases e117
               replace hx117_0 := (HB.out.cell (World.block_lt_of_cell? w _ hx117_0)).trans hx117_0
               replace hx117_1 := (HB.out.cell (World.block_lt_of_cell? w _ hx117_1)).trans hx117_1
               replace hx117_2 := (HB.out.cell (World.block_lt_of_cell? w _ hx117_2)).trans hx117_2
               replace hx117_3 := (HB.out.cell (World.block_lt_of_cell? w _ hx117_3)).trans hx117_3
               replace p117 := eq_true p117
               replace q117 := eq_true q117
               have p118 : 0 ≤ (x5_1 : Int) := of_decide_eq_true y5_
               have q118 : x5_1 < (l1.length : Int) := of_decide_eq_true y5_
               obtain ⟨ad118, e118, hx118_0, hx118_1, hx118_2, hx118_3⟩ := at_T58 HR1.out x5_1 p118 q118
               have hw118_3 := hx118_3
               have hw118_2 := hx118_2
               have hw118_1 := hx118_1
               have hw118_0 := hx118_0
               obtain rfl : ad117 = ad118 := (by injection e118)
               replace hx118_0 := (HB.out.cell (World.block_lt_of_cell? w _ hx118_0)).trans hx118_0
               replace hx118_1 := (HB.out.cell (World.block_lt_of_cell? w _ hx118_1)).trans hx118_1
               replace hx118_2 := (HB.out.cell (World.block_lt_of_cell? w _ hx118_2)).trans hx118_2
               replace hx118_3 := (HB.out.cell (World.block_lt_of_cell? w _ hx118_3)).trans hx118_3
               replace p118 := eq_true p118
               replace q118 := eq_true q118
               have p119 : 0 ≤ ((ji15) : Int) := of_decide_eq_true y5_
               have q119 : (ji15) < (l1.length : Int) := of_decide_eq_true y5_
               obtain ⟨ad119, e119, hx119_0, hx119_1, hx119_2, hx119_3⟩ := at_T58 HR1.out (ji15) p119 q119
               have hw119_3 := hx119_3
               have hw119_2 := hx119_2
               have hw119_1 := hx119_1
               have hw119_0 := hx119_0
               obtain rfl : ad117 = ad119 := (by injection e119)
               replace hx119_0 := (HB.out.cell (World.block_lt_of_cell? w _ hx119_0)).trans hx119_0
               replace hx119_1 := (HB.out.cell (World.block_lt_of_cell? w _ hx119_1)).trans hx119_1
               replace hx119_2 := (HB.out.cell (World.block_lt_of_cell? w _ hx119_2)).trans hx119_2
               replace hx119_3 := (HB.out.cell (World.block_lt_of_cell? w _ hx119_3)).trans hx119_3
               replace p119 := eq_true p119
               replace q119 := eq_true q119
               have p120 : 0 ≤ (x5_1 : Int) := of_decide_eq_true y5_
               have q120 : x5_1 < (l1.length : Int) := of_decide_eq_true y5_
               obtain ⟨ad120, e120, hx120_0, hx120_1, hx120_2, hx120_3⟩ := at_T58 HR1.out x5_1 p120 q120
               have hw120_3 := hx120_3
               have hw120_2 := hx120_2
               have hw120_1 := hx120_1
               have hw120_0 := hx120_0
               obtain rfl : ad117 = ad120 := (by injection e120)
               replace hx120_0 := (HB.out.cell (World.block_lt_of_cell? w _ hx120_0)).trans hx120_0
               replace hx120_1 := (HB.out.cell (World.block_lt_of_cell? w _ hx120_1)).trans hx120_1
               replace hx120_2 := (HB.out.cell (World.block_lt_of_cell? w _ hx120_2)).trans hx120_2
               replace hx120_3 := (HB.out.cell (World.block_lt_of_cell? w _ hx120_3)).trans hx120_3
               replace p120 := eq_true p120
               replace q120 := eq_true q120
               have p121 : 0 ≤ (x5_1 : Int) := of_decide_eq_true y5_
               have q121 : x5_1 < (l1.length : Int) := of_decide_eq_true y5_
               obtain ⟨ad121, e121, hx121_0, hx121_1, hx121_2, hx121_3⟩ := at_T58 HR1.out x5_1 p121 q121
               have hw121_3 := hx121_3
               have hw121_2 := hx121_2
               have hw121_1 := hx121_1
               have hw121_0 := hx121_0
               obtain rfl : ad117 = ad121 := (by injection e121)
               replace hx121_0 := (HB.out.cell (World.block_lt_of_cell? w _ hx121_0)).trans hx121_0
               replace hx121_1 := (HB.out.cell (World.block_lt_of_cell? w _ hx121_1)).trans hx121_1
               replace hx121_2 := (HB.out.cell (World.block_lt_of_cell? w _ hx121_2)).trans hx121_2
               replace hx121_3 := (HB.out.cell (World.block_lt_of_cell? w _ hx121_3)).trans hx121_3
               replace p121 := eq_true p121
               replace q121 := eq_true q121
               refine start_ (n := 40) (S := fun w' => w'.cell? (ad117.add (((ji15)).toNat * 4)) = some (.int .u8 ((rd_T58 l1 (ji15)).f0)) ∧ w'.cell? ⟨(ad117.add (((ji15)).toNat * 4)).block, (ad117.add (((ji15)).toNat * 4)).off + 1, none⟩ = some (.int .u32 ((rd_T58 l1 (ji15)).f1)) ∧ w'.cell? ⟨(ad117.add (((ji15)).toNat * 4)).block, (ad117.add (((ji15)).toNat * 4)).off + 2, none⟩ = some (.string ((rd_T58 l1 (ji15)).f2)) ∧ w'.cell? ⟨(ad117.add (((ji15)).toNat * 4)).block, (ad117.add (((ji15)).toNat * 4)).off + 3, none⟩ = some (.string ((rd_T58 l1 (ji15)).f3)) ∧ w'.cell? (ad117.add ((x5_1).toNat * 4)) = some (.int .u8 ((rd_T58 l1 x5_1).f0)) ∧ w'.cell? ⟨(ad117.add ((x5_1).toNat * 4)).block, (ad117.add ((x5_1).toNat * 4)).off + 1, none⟩ = some (.int .u32 ((rd_T58 l1 x5_1).f1)) ∧ w'.cell? ⟨(ad117.add ((x5_1).toNat * 4)).block, (ad117.add ((x5_1).toNat * 4)).off + 2, none⟩ = some (.string ((rd_T58 l1 x5_1).f2)) ∧ w'.cell? ⟨(ad117.add ((x5_1).toNat * 4)).block, (ad117.add ((x5_1).toNat * 4)).off + 3, none⟩ = some (.string ((rd_T58 l1 x5_1).f3)) ∧ w'.cell? (ad117.add (((ji15)).toNat * 4)) = some (.int .u8 ((rd_T58 l1 (ji15)).f0)) ∧ w'.cell? ⟨(ad117.add (((ji15)).toNat * 4)).block, (ad117.add (((ji15)).toNat * 4)).off + 1, none⟩ = some (.int .u32 ((rd_T58 l1 (ji15)).f1)) ∧ w'.cell? ⟨(ad117.add (((ji15)).toNat * 4)).block, (ad117.add (((ji15)).toNat * 4)).off + 2, none⟩ = some (.string ((rd_T58 l1 (ji15)).f2)) ∧ w'.cell? ⟨(ad117.add (((ji15)).toNat * 4)).block, (ad117.add (((ji15)).toNat * 4)).off + 3, none⟩ = some (.string ((rd_T58 l1 (ji15)).f3)) ∧ w'.cell? (ad117.add ((x5_1).toNat * 4)) = some (.int .u8 ((rd_T58 l1 x5_1).f0)) ∧ w'.cell? ⟨(ad117.add ((x5_1).toNat * 4)).block, (ad117.add ((x5_1).toNat * 4)).off + 1, none⟩ = some (.int .u32 ((rd_T58 l1 x5_1).f1)) ∧ w'.cell? ⟨(ad117.add ((x5_1).toNat * 4)).block, (ad117.add ((x5_1).toNat * 4)).off + 2, none⟩ = some (.string ((rd_T58 l1 x5_1).f2)) ∧ w'.cell? ⟨(ad117.add ((x5_1).toNat * 4)).block, (ad117.add ((x5_1).toNat * 4)).off + 3, none⟩ = some (.string ((rd_T58 l1 x5_1).f3)) ∧ w'.cell? (ad117.add ((x5_1).toNat * 4)) = some (.int .u8 ((rd_T58 l1 x5_1).f0)) ∧ w'.cell? ⟨(ad117.add ((x5_1).toNat * 4)).block, (ad117.add ((x5_1).toNat * 4)).off + 1, none⟩ = some (.int .u32 ((rd_T58 l1 x5_1).f1)) ∧ w'.cell? ⟨(ad117.add ((x5_1).toNat * 4)).block, (ad117.add ((x5_1).toNat * 4)).off + 2, none⟩ = some (.string ((rd_T58 l1 x5_1).f2)) ∧ w'.cell? ⟨(ad117.add ((x5_1).toNat * 4)).block, (ad117.add ((x5_1).toNat * 4)).off + 3, none⟩ = some (.string ((rd_T58 l1 x5_1).f3))) (ds := []) (ba 40 0) (by kernel_rfl) rfl rfl ⟨((HB.out.cell (World.block_lt_of_cell? w _ hw117_0)).trans hw117_0), ((HB.out.cell (World.block_lt_of_cell? w _ hw117_1)).trans hw117_1), ((HB.out.cell (World.block_lt_of_cell? w _ hw117_2)).trans hw117_2), ((HB.out.cell (World.block_lt_of_cell? w _ hw117_3)).trans hw117_3), ((HB.out.cell (World.block_lt_of_cell? w _ hw118_0)).trans hw118_0), ((HB.out.cell (World.block_lt_of_cell? w _ hw118_1)).trans hw118_1), ((HB.out.cell (World.block_lt_of_cell? w _ hw118_2)).trans hw118_2), ((HB.out.cell (World.block_lt_of_cell? w _ hw118_3)).trans hw118_3), ((HB.out.cell (World.block_lt_of_cell? w _ hw119_0)).trans hw119_0), ((HB.out.cell (World.block_lt_of_cell? w _ hw119_1)).trans hw119_1), ((HB.out.cell (World.block_lt_of_cell? w _ hw119_2)).trans hw119_2), ((HB.out.cell (World.block_lt_of_cell? w _ hw119_3)).trans hw119_3), ((HB.out.cell (World.block_lt_of_cell? w _ hw120_0)).trans hw120_0), ((HB.out.cell (World.block_lt_of_cell? w _ hw120_1)).trans hw120_1), ((HB.out.cell (World.block_lt_of_cell? w _ hw120_2)).trans hw120_2), ((HB.out.cell (World.block_lt_of_cell? w _ hw120_3)).trans hw120_3), ((HB.out.cell (World.block_lt_of_cell? w _ hw121_0)).trans hw121_0), ((HB.out.cell (World.block_lt_of_cell? w _ hw121_1)).trans hw121_1), ((HB.out.cell (World.block_lt_of_cell? w _ hw121_2)).trans hw121_2), ((HB.out.cell (World.block_lt_of_cell? w _ hw121_3)).trans hw121_3)⟩ (fun hHeld => ?_); refine with_tabW pouchref06_Check.tab8 pouchref06_Check.bits8 (fun HT_ HW_ => ?_)
               generalize wc.drew = w27 at HB hx117_0 hx117_1 hx117_2 hx117_3 hx118_0 hx118_1 hx118_2 hx118_3 hx119_0 hx119_1 hx119_2 hx119_3 hx120_0 hx120_1 hx120_2 hx120_3 hx121_0 hx121_1 hx121_2 hx121_3 hHeld ⊢
               refine pq_ 0 35 1 ?_
               refine pq_ 1 36 3 ?_
               refine pq_ 2 37 7 ?_
               refine pq_ 3 38 15 ?_
               refine pq_ 4 39 31 ?_
               refine pq_ 5 40 63 ?_
               refine pq_ 6 41 127 ?_
               refine pq_ 7 42 255 ?_
               refine pq_ 9 44 767 ?_
               refine pq_ 10 45 1791 ?_
               refine pq_ 11 46 3839 ?_
               refine pq_ 12 47 7935 ?_
               refine tr_ 8 43 8191 ?_ (hy := z31z0)
               refine tr_ 13 48 16383 ?_ (hy := z31z0)
               refine pq_ 14 49 32767 ?_
               refine pq_ 15 50 65535 ?_
               refine pq_ 16 51 131071 ?_
               refine pq_ 17 52 262143 ?_
               refine pq_ 18 53 524287 ?_
               refine pq_ 19 54 1048575 ?_
               refine pq_ 20 55 2097151 ?_
               refine pq_ 22 57 6291455 ?_
               refine pq_ 23 58 14680063 ?_
               refine pq_ 24 59 31457279 ?_
               refine pq_ 25 60 65011711 ?_
               refine tr_ 21 56 67108863 ?_ (hy := z31z0)
               refine tr_ 26 61 134217727 ?_ (hy := z31z0)
               refine pq_ 27 62 268435455 ?_
               refine pq_ 28 63 536870911 ?_
               refine pq_ 29 64 1073741823 ?_
               refine pq_ 30 65 2147483647 ?_
               refine pq_ 31 66 4294967295 ?_
               refine pq_ 32 67 8589934591 ?_
               refine pq_ 34 69 25769803775 ?_
               refine tr_ 33 68 34359738367 ?_ (hy := z31z0)
               refine one_ (i := 35) (N := some 70) (ba 40 68719476735) rfl rfl (one_of HT_.out (by kernel_rfl)) (by decide) (fun K hK => ?_)
               refine goes_ Tryd.func51 (by kernel_rfl) rfl #[.int .u8 ((rd_T58 l1 x5_1).f0), .int .i64 a0] (by rfl) rfl rfl y2_ ?_
               with_reducible refine (pouchref05_Often.calls kj4 ((rd_T58 l1 x5_1).f0) a0 false _ A23.out).mono ?_
               rintro e w28 ⟨rfl, hb⟩
               refine ⟨_, rfl, ?_⟩
               have n0_ := Aside0.mk (below_step y0_ hb)
               clear HB
               have HB := n0_
               clear n0_
               (try clear hb)
               (try clear hb2)
               (try clear hk)
               (try clear hi)
               refine hK.out _ _ ⟨((HB.out.cell (World.block_lt_of_cell? w _ hw117_0)).trans hw117_0), ((HB.out.cell (World.block_lt_of_cell? w _ hw117_1)).trans hw117_1), ((HB.out.cell (World.block_lt_of_cell? w _ hw117_2)).trans hw117_2), ((HB.out.cell (World.block_lt_of_cell? w _ hw117_3)).trans hw117_3), ((HB.out.cell (World.block_lt_of_cell? w _ hw118_0)).trans hw118_0), ((HB.out.cell (World.block_lt_of_cell? w _ hw118_1)).trans hw118_1), ((HB.out.cell (World.block_lt_of_cell? w _ hw118_2)).trans hw118_2), ((HB.out.cell (World.block_lt_of_cell? w _ hw118_3)).trans hw118_3), ((HB.out.cell (World.block_lt_of_cell? w _ hw119_0)).trans hw119_0), ((HB.out.cell (World.block_lt_of_cell? w _ hw119_1)).trans hw119_1), ((HB.out.cell (World.block_lt_of_cell? w _ hw119_2)).trans hw119_2), ((HB.out.cell (World.block_lt_of_cell? w _ hw119_3)).trans hw119_3), ((HB.out.cell (World.block_lt_of_cell? w _ hw120_0)).trans hw120_0), ((HB.out.cell (World.block_lt_of_cell? w _ hw120_1)).trans hw120_1), ((HB.out.cell (World.block_lt_of_cell? w _ hw120_2)).trans hw120_2), ((HB.out.cell (World.block_lt_of_cell? w _ hw120_3)).trans hw120_3), ((HB.out.cell (World.block_lt_of_cell? w _ hw121_0)).trans hw121_0), ((HB.out.cell (World.block_lt_of_cell? w _ hw121_1)).trans hw121_1), ((HB.out.cell (World.block_lt_of_cell? w _ hw121_2)).trans hw121_2), ((HB.out.cell (World.block_lt_of_cell? w _ hw121_3)).trans hw121_3)⟩ (fun hHeld => ?_)
               clear hK K
               refine norm_ (a' := ?_) ?_ ?_
               rotate_left
               ·show Act.put _ (some 70) _ = _
                simp only [Act.put, List.setIfInBounds_toArray, List.set_cons_zero, List.set_cons_succ, i64_w, i32_w]
                rfl
               refine pq_ 36 71 137438953471 ?_
               refine pq_ 37 72 274877906943 ?_
               refine pq_ 38 73 549755813887 ?_
               refine pq_ 39 74 1099511627775 ?_
               refine done_ (done_of HT_.out (by kernel_rfl)) ?_
               try go_wp2
               go_ret
               exact ⟨z31z3, y0_⟩
             ·rw [if_neg c22] at H
              obtain ⟨c22b0, c22b1⟩ := eqf_ c22
              have H' := Aside0.mk H
              clear H
              try go_wp2
              have n0_ := Aside0.mk (below_drew1 HB.out)
              clear HB
              have HB := n0_
              clear n0_
              have p117 : 0 ≤ ((ji15) : Int) := of_decide_eq_true y5_
              have q117 : (ji15) < (l1.length : Int) := of_decide_eq_true y5_
              obtain ⟨ad117, e117, hx117_0, hx117_1, hx117_2, hx117_3⟩ := at_T58 HR1.out (ji15) p117 q117
              have hw117_3 := hx117_3
              have hw117_2 := hx117_2
              have hw117_1 := hx117_1
              have hw117_0 := hx117_0
              cases e117
              replace hx117_0 := (HB.out.cell (World.block_lt_of_cell? w _ hx117_0)).trans hx117_0
              replace hx117_1 := (HB.out.cell (World.block_lt_of_cell? w _ hx117_1)).trans hx117_1
              replace hx117_2 := (HB.out.cell (World.block_lt_of_cell? w _ hx117_2)).trans hx117_2
              replace hx117_3 := (HB.out.cell (World.block_lt_of_cell? w _ hx117_3)).trans hx117_3
              replace p117 := eq_true p117
              replace q117 := eq_true q117
              have p118 : 0 ≤ (x5_1 : Int) := of_decide_eq_true y5_
              have q118 : x5_1 < (l1.length : Int) := of_decide_eq_true y5_
              obtain ⟨ad118, e118, hx118_0, hx118_1, hx118_2, hx118_3⟩ := at_T58 HR1.out x5_1 p118 q118
              have hw118_3 := hx118_3
              have hw118_2 := hx118_2
              have hw118_1 := hx118_1
              have hw118_0 := hx118_0
              obtain rfl : ad117 = ad118 := (by injection e118)
              replace hx118_0 := (HB.out.cell (World.block_lt_of_cell? w _ hx118_0)).trans hx118_0
              replace hx118_1 := (HB.out.cell (World.block_lt_of_cell? w _ hx118_1)).trans hx118_1
              replace hx118_2 := (HB.out.cell (World.block_lt_of_cell? w _ hx118_2)).trans hx118_2
              replace hx118_3 := (HB.out.cell (World.block_lt_of_cell? w _ hx118_3)).trans hx118_3
              replace p118 := eq_true p118
              replace q118 := eq_true q118
              have p119 : 0 ≤ ((ji15) : Int) := of_decide_eq_true y5_
              have q119 : (ji15) < (l1.length : Int) := of_decide_eq_true y5_
              obtain ⟨ad119, e119, hx119_0, hx119_1, hx119_2, hx119_3⟩ := at_T58 HR1.out (ji15) p119 q119
              have hw119_3 := hx119_3
              have hw119_2 := hx119_2
              have hw119_1 := hx119_1
              have hw119_0 := hx119_0
              obtain rfl : ad117 = ad119 := (by injection e119)
              replace hx119_0 := (HB.out.cell (World.block_lt_of_cell? w _ hx119_0)).trans hx119_0
              replace hx119_1 := (HB.out.cell (World.block_lt_of_cell? w _ hx119_1)).trans hx119_1
              replace hx119_2 := (HB.out.cell (World.block_lt_of_cell? w _ hx119_2)).trans hx119_2
              replace hx119_3 := (HB.out.cell (World.block_lt_of_cell? w _ hx119_3)).trans hx119_3
              replace p119 := eq_true p119
              replace q119 := eq_true q119
              have p120 : 0 ≤ (x5_1 : Int) := of_decide_eq_true y5_
              have q120 : x5_1 < (l1.length : Int) := of_decide_eq_true y5_
              obtain ⟨ad120, e120, hx120_0, hx120_1, hx120_2, hx120_3⟩ := at_T58 HR1.out x5_1 p120 q120
              have hw120_3 := hx120_3
              have hw120_2 := hx120_2
              have hw120_1 := hx120_1
              have hw120_0 := hx120_0
              obtain rfl : ad117 = ad120 := (by injection e120)
              replace hx120_0 := (HB.out.cell (World.block_lt_of_cell? w _ hx120_0)).trans hx120_0
              replace hx120_1 := (HB.out.cell (World.block_lt_of_cell? w _ hx120_1)).trans hx120_1
              replace hx120_2 := (HB.out.cell (World.block_lt_of_cell? w _ hx120_2)).trans hx120_2
              replace hx120_3 := (HB.out.cell (World.block_lt_of_cell? w _ hx120_3)).trans hx120_3
              replace p120 := eq_true p120
              replace q120 := eq_true q120
              refine start_ (n := 40) (S := fun w' => w'.cell? (ad117.add (((ji15)).toNat * 4)) = some (.int .u8 ((rd_T58 l1 (ji15)).f0)) ∧ w'.cell? ⟨(ad117.add (((ji15)).toNat * 4)).block, (ad117.add (((ji15)).toNat * 4)).off + 1, none⟩ = some (.int .u32 ((rd_T58 l1 (ji15)).f1)) ∧ w'.cell? ⟨(ad117.add (((ji15)).toNat * 4)).block, (ad117.add (((ji15)).toNat * 4)).off + 2, none⟩ = some (.string ((rd_T58 l1 (ji15)).f2)) ∧ w'.cell? ⟨(ad117.add (((ji15)).toNat * 4)).block, (ad117.add (((ji15)).toNat * 4)).off + 3, none⟩ = some (.string ((rd_T58 l1 (ji15)).f3)) ∧ w'.cell? (ad117.add ((x5_1).toNat * 4)) = some (.int .u8 ((rd_T58 l1 x5_1).f0)) ∧ w'.cell? ⟨(ad117.add ((x5_1).toNat * 4)).block, (ad117.add ((x5_1).toNat * 4)).off + 1, none⟩ = some (.int .u32 ((rd_T58 l1 x5_1).f1)) ∧ w'.cell? ⟨(ad117.add ((x5_1).toNat * 4)).block, (ad117.add ((x5_1).toNat * 4)).off + 2, none⟩ = some (.string ((rd_T58 l1 x5_1).f2)) ∧ w'.cell? ⟨(ad117.add ((x5_1).toNat * 4)).block, (ad117.add ((x5_1).toNat * 4)).off + 3, none⟩ = some (.string ((rd_T58 l1 x5_1).f3)) ∧ w'.cell? (ad117.add (((ji15)).toNat * 4)) = some (.int .u8 ((rd_T58 l1 (ji15)).f0)) ∧ w'.cell? ⟨(ad117.add (((ji15)).toNat * 4)).block, (ad117.add (((ji15)).toNat * 4)).off + 1, none⟩ = some (.int .u32 ((rd_T58 l1 (ji15)).f1)) ∧ w'.cell? ⟨(ad117.add (((ji15)).toNat * 4)).block, (ad117.add (((ji15)).toNat * 4)).off + 2, none⟩ = some (.string ((rd_T58 l1 (ji15)).f2)) ∧ w'.cell? ⟨(ad117.add (((ji15)).toNat * 4)).block, (ad117.add (((ji15)).toNat * 4)).off + 3, none⟩ = some (.string ((rd_T58 l1 (ji15)).f3)) ∧ w'.cell? (ad117.add ((x5_1).toNat * 4)) = some (.int .u8 ((rd_T58 l1 x5_1).f0)) ∧ w'.cell? ⟨(ad117.add ((x5_1).toNat * 4)).block, (ad117.add ((x5_1).toNat * 4)).off + 1, none⟩ = some (.int .u32 ((rd_T58 l1 x5_1).f1)) ∧ w'.cell? ⟨(ad117.add ((x5_1).toNat * 4)).block, (ad117.add ((x5_1).toNat * 4)).off + 2, none⟩ = some (.string ((rd_T58 l1 x5_1).f2)) ∧ w'.cell? ⟨(ad117.add ((x5_1).toNat * 4)).block, (ad117.add ((x5_1).toNat * 4)).off + 3, none⟩ = some (.string ((rd_T58 l1 x5_1).f3))) (ds := []) (ba 40 0) (by kernel_rfl) rfl rfl ⟨((HB.out.cell (World.block_lt_of_cell? w _ hw117_0)).trans hw117_0), ((HB.out.cell (World.block_lt_of_cell? w _ hw117_1)).trans hw117_1), ((HB.out.cell (World.block_lt_of_cell? w _ hw117_2)).trans hw117_2), ((HB.out.cell (World.block_lt_of_cell? w _ hw117_3)).trans hw117_3), ((HB.out.cell (World.block_lt_of_cell? w _ hw118_0)).trans hw118_0), ((HB.out.cell (World.block_lt_of_cell? w _ hw118_1)).trans hw118_1), ((HB.out.cell (World.block_lt_of_cell? w _ hw118_2)).trans hw118_2), ((HB.out.cell (World.block_lt_of_cell? w _ hw118_3)).trans hw118_3), ((HB.out.cell (World.block_lt_of_cell? w _ hw119_0)).trans hw119_0), ((HB.out.cell (World.block_lt_of_cell? w _ hw119_1)).trans hw119_1), ((HB.out.cell (World.block_lt_of_cell? w _ hw119_2)).trans hw119_2), ((HB.out.cell (World.block_lt_of_cell? w _ hw119_3)).trans hw119_3), ((HB.out.cell (World.block_lt_of_cell? w _ hw120_0)).trans hw120_0), ((HB.out.cell (World.block_lt_of_cell? w _ hw120_1)).trans hw120_1), ((HB.out.cell (World.block_lt_of_cell? w _ hw120_2)).trans hw120_2), ((HB.out.cell (World.block_lt_of_cell? w _ hw120_3)).trans hw120_3)⟩ (fun hHeld => ?_); refine with_tabW pouchref06_Check.tab8 pouchref06_Check.bits8 (fun HT_ HW_ => ?_)
              generalize wc.drew = w29 at HB hx117_0 hx117_1 hx117_2 hx117_3 hx118_0 hx118_1 hx118_2 hx118_3 hx119_0 hx119_1 hx119_2 hx119_3 hx120_0 hx120_1 hx120_2 hx120_3 hHeld ⊢
              refine pq_ 0 35 1 ?_
              refine pq_ 1 36 3 ?_
              refine pq_ 2 37 7 ?_
              refine pq_ 3 38 15 ?_
              refine pq_ 4 39 31 ?_
              refine pq_ 5 40 63 ?_
              refine pq_ 6 41 127 ?_
              refine pq_ 7 42 255 ?_
              refine pq_ 9 44 767 ?_
              refine pq_ 10 45 1791 ?_
              refine pq_ 11 46 3839 ?_
              refine pq_ 12 47 7935 ?_
              refine tr_ 8 43 8191 ?_ (hy := z31z1)
              refine tr_ 13 48 16383 ?_ (hy := z31z1)
              refine pq_ 14 49 32767 ?_
              refine pq_ 15 50 65535 ?_
              refine pq_ 16 51 131071 ?_
              refine pq_ 17 52 262143 ?_
              refine pq_ 18 53 524287 ?_
              refine pq_ 19 54 1048575 ?_
              refine pq_ 20 55 2097151 ?_
              refine pq_ 22 57 6291455 ?_
              refine pq_ 23 58 14680063 ?_
              refine pq_ 24 59 31457279 ?_
              refine pq_ 25 60 65011711 ?_
              refine tr_ 21 56 67108863 ?_ (hy := z31z1)
              refine tr_ 26 61 134217727 ?_ (hy := z31z1)
              refine pq_ 27 62 268435455 ?_
              refine pq_ 28 63 536870911 ?_
              refine uq_ 29 64 1073741823 ?_
              refine uq_ 30 65 2147483647 ?_
              refine uq_ 31 66 4294967295 ?_
              refine uq_ 32 67 8589934591 ?_
              refine uq_ 33 68 17179869183 ?_
              refine uq_ 34 69 34359738367 ?_
              refine uq_ 35 70 68719476735 ?_
              refine uq_ 36 71 137438953471 ?_
              refine pq_ 37 72 274877906943 ?_
              refine pq_ 38 73 549755813887 ?_
              refine pq_ 39 74 1099511627775 ?_
              refine done_ (done_of HT_.out (by kernel_rfl)) ?_
              try go_wp2
              go_roundg kj4
              case measure => have := HK1.out; have := HJ4.out; omega
              case rel => exact ⟨(wrap64 (x5_1 + 1)), y7_, H', ⟨z31z6⟩, ⟨y0_⟩⟩
           ·rw [if_neg c19] at H
            exact absurd H (by simp)
          ·rw [if_neg c18] at H
           exact absurd H (by simp)
         ·rw [if_neg c17] at H
          exact absurd H (by simp)
        ·rw [if_neg c16] at H
         exact absurd H (by simp)
       ·rw [if_neg c14] at H
        have c14b0 := decide_eq_false c14
        clear c14
        have H' := Aside0.mk H
        clear H
        try go_wp2
        have n0_ := Aside0.mk (below_drew1 HB.out)
        clear HB
        have HB := n0_
        clear n0_
        refine start_ (n := 40) (S := fun w' => True) (ds := []) (ba 40 0) (by kernel_rfl) rfl rfl trivial (fun hHeld => ?_); refine with_tabW pouchref06_Check.tab8 pouchref06_Check.bits8 (fun HT_ HW_ => ?_)
        generalize wc.drew = w30 at HB hHeld ⊢
        refine pq_ 0 35 1 ?_
        refine pq_ 1 36 3 ?_
        refine pq_ 2 37 7 ?_
        refine uq_ 3 38 15 ?_
        refine uq_ 4 39 31 ?_
        refine uq_ 5 40 63 ?_
        refine uq_ 6 41 127 ?_
        refine uq_ 7 42 255 ?_
        refine uq_ 8 43 511 ?_
        refine uq_ 9 44 1023 ?_
        refine uq_ 10 45 2047 ?_
        refine uq_ 11 46 4095 ?_
        refine uq_ 12 47 8191 ?_
        refine uq_ 13 48 16383 ?_
        refine uq_ 14 49 32767 ?_
        refine uq_ 15 50 65535 ?_
        refine uq_ 16 51 131071 ?_
        refine uq_ 17 52 262143 ?_
        refine uq_ 18 53 524287 ?_
        refine uq_ 19 54 1048575 ?_
        refine uq_ 20 55 2097151 ?_
        refine uq_ 21 56 4194303 ?_
        refine uq_ 22 57 8388607 ?_
        refine uq_ 23 58 16777215 ?_
        refine uq_ 24 59 33554431 ?_
        refine uq_ 25 60 67108863 ?_
        refine uq_ 26 61 134217727 ?_
        refine uq_ 27 62 268435455 ?_
        refine uq_ 28 63 536870911 ?_
        refine uq_ 29 64 1073741823 ?_
        refine uq_ 30 65 2147483647 ?_
        refine uq_ 31 66 4294967295 ?_
        refine uq_ 32 67 8589934591 ?_
        refine uq_ 33 68 17179869183 ?_
        refine uq_ 34 69 34359738367 ?_
        refine uq_ 35 70 68719476735 ?_
        refine uq_ 36 71 137438953471 ?_
        refine uq_ 37 72 274877906943 ?_
        refine uq_ 38 73 549755813887 ?_
        refine pq_ 39 74 1099511627775 ?_
        refine done_ (done_of HT_.out (by kernel_rfl)) ?_
        try go_wp2
        go_roundg kj4
        case measure => have := HK1.out; have := HJ4.out; omega
        case rel => exact ⟨(wrap64 (x5_1 + 1)), y7_, H', ⟨z31z6⟩, ⟨y0_⟩⟩
   ·rw [if_neg c4] at H
    have c4b0 := decide_eq_false c4
    clear c4
    replace H := Option.bind_eq_some_iff.mp H
    obtain ⟨⟨t101, t102, t103, t104, t105⟩, A310, H⟩ := H
    replace H : ((pouchref06_Get.f k1 l1 21).bind fun bt107 => (if bt107.2.2.2.2 = true then (some true) else (some (!t105)))) = some r := H
    have A31 := Aside0.mk A310
    clear A310
    replace H := Option.bind_eq_some_iff.mp H
    obtain ⟨⟨t107, t108, t109, t110, t111⟩, A320, H⟩ := H
    replace H : (if t111 = true then (some true) else (some (!t105))) = some r := H
    have A32 := Aside0.mk A320
    clear A320
    by_cases c33 : t111 = true
    ·subst c33
     have H1 : (some true) = some r := by rw [if_pos rfl] at H; exact H
     clear H
     have H := H1
     clear H1
     obtain rfl := Option.some.inj H
     go_wp2_with (first | ((with_reducible refine gate_callee (f := 28) rfl ?_); refine goesL_ (some 77) rfl rfl Tryd.func28 (by kernel_rfl) rfl #[.slice A1 l1.length c1, .int .u8 22] rfl y2_ ?_; (with_reducible refine (pouchref06_Get.calls k1 _ _ l1 22 t101 t102 t103 t104 t105 _ ?side1 ?side2 A31.out).mono ?_); (case side1 => exact z31z2); (case side2 => exact HC1.out); rintro e w34 ⟨rfl, hb⟩; refine ⟨_, rfl, ?_⟩; replace HB := Aside0.mk (below_step y0_ hb); clear hb) | ((with_reducible refine gate_dst (N := 6) rfl ?_); refine box_event ?hg (N := 6) ?hd (cs := #[.int .u8 0, .int .u32 0, .string (⟨#[]⟩ : ByteArray), .string (⟨#[]⟩ : ByteArray)]) (t := 58) ?hr ?_; (case hd => rfl); (case hg => rfl); (case hr => exact z31z4); intro gb106 hg w35 hbox hb; have n0_ := Aside0.mk (below_step y0_ hb); have n1_ := Aside0.mk (hbox); have n2_ := Aside0.mk ((by rw [hg]; exact (below_size y0_) : w.heap.size ≤ gb106)); have n3_ := Aside0.mk ((by rw [hg]; exact (below_size y0_) : w.heap.size ≤ gb106)); replace HB := n0_; have BK106 := n1_; have GW106 := n2_; have GE106 := n3_; clear n0_ n1_ n2_ n3_; clear hb hbox hg; obtain ⟨hcz36_0, hcz36_1, hcz36_2, hcz36_3⟩ := ccs4_ BK106.out; obtain ⟨hfz36_0, hfz36_1, hfz36_2, hfz36_3⟩ := fzs4_ BK106.out) | ((with_reducible refine gate_callee (f := 28) rfl ?_); refine goesL_ (some 82) rfl rfl Tryd.func28 (by kernel_rfl) rfl #[.slice A1 l1.length c1, .int .u8 21] rfl y2_ ?_; (with_reducible refine (pouchref06_Get.calls k1 _ _ l1 21 t107 t108 t109 t110 true _ ?side1 ?side2 A32.out).mono ?_); (case side1 => exact Kd.C_below HR1.out y9_); (case side2 => exact HC1.out); rintro e w37 ⟨rfl, hb⟩; refine ⟨_, rfl, ?_⟩; have n0_ := Aside0.mk (blk_below (g := gb106) (o := .cells #[.int .u8 t101, .int .u32 t102, .string t103, .string t104] 58 (0, 0)) y11_ hb); have n1_ := Aside0.mk (below_step y9_ hb); replace BK106 := n0_; replace HB := n1_; clear n0_ n1_; clear hb) | ((with_reducible refine gate_dst (N := 8) rfl ?_); refine box_event ?hg (N := 8) ?hd (cs := #[.int .u8 0, .int .u32 0, .string (⟨#[]⟩ : ByteArray), .string (⟨#[]⟩ : ByteArray)]) (t := 58) ?hr ?_; (case hd => rfl); (case hg => rfl); (case hr => exact z31z4); intro gb112 hg w38 hbox hb; have n0_ := Aside0.mk (blk_below (g := gb106) (o := .cells #[.int .u8 t101, .int .u32 t102, .string t103, .string t104] 58 (0, 0)) y16_ hb); have n1_ := Aside0.mk (below_step y9_ hb); have n2_ := Aside0.mk (hbox); have n3_ := Aside0.mk ((by rw [hg]; exact (below_size y9_) : w.heap.size ≤ gb112)); have n4_ := Aside0.mk ((by rw [hg]; exact (below_size y9_) : w.heap.size ≤ gb112)); have n5_ := Aside0.mk ((by rw [hg]; exact Nat.ne_of_lt (blk_lt (g := gb106) (o := .cells #[.int .u8 t101, .int .u32 t102, .string t103, .string t104] 58 (0, 0)) y16_) : gb106 ≠ gb112)); have n6_ := Aside0.mk ((by rw [hg]; exact Nat.ne_of_gt (blk_lt (g := gb106) (o := .cells #[.int .u8 t101, .int .u32 t102, .string t103, .string t104] 58 (0, 0)) y16_) : gb112 ≠ gb106)); replace BK106 := n0_; replace HB := n1_; have BK112 := n2_; have GW112 := n3_; have GE112 := n4_; have NB106_112 := n5_; have NB112_106 := n6_; clear n0_ n1_ n2_ n3_ n4_ n5_ n6_; clear hb hbox hg; have hnb39 := NB112_106.out; have hnc39 := NB106_112.out; obtain ⟨hcz40_0, hcz40_1, hcz40_2, hcz40_3⟩ := ccs4_ BK112.out; obtain ⟨hfz40_0, hfz40_1, hfz40_2, hfz40_3⟩ := fzs4_ BK112.out))
     go_ret
     exact ⟨y4_, y17_⟩
    ·replace c33 := Bool.eq_false_iff.mpr c33
     subst c33
     replace H : (some (!t105)) = some r := by rw [if_neg (show ¬ (false = true) by decide)] at H; exact H
     obtain rfl := Option.some.inj H
     go_wp2_with (first | ((with_reducible refine gate_callee (f := 28) rfl ?_); refine goesL_ (some 77) rfl rfl Tryd.func28 (by kernel_rfl) rfl #[.slice A1 l1.length c1, .int .u8 22] rfl y2_ ?_; (with_reducible refine (pouchref06_Get.calls k1 _ _ l1 22 t101 t102 t103 t104 t105 _ ?side1 ?side2 A31.out).mono ?_); (case side1 => exact z31z2); (case side2 => exact HC1.out); rintro e w41 ⟨rfl, hb⟩; refine ⟨_, rfl, ?_⟩; replace HB := Aside0.mk (below_step y0_ hb); clear hb) | ((with_reducible refine gate_dst (N := 6) rfl ?_); refine box_event ?hg (N := 6) ?hd (cs := #[.int .u8 0, .int .u32 0, .string (⟨#[]⟩ : ByteArray), .string (⟨#[]⟩ : ByteArray)]) (t := 58) ?hr ?_; (case hd => rfl); (case hg => rfl); (case hr => exact z31z4); intro gb106 hg w42 hbox hb; have n0_ := Aside0.mk (below_step y0_ hb); have n1_ := Aside0.mk (hbox); have n2_ := Aside0.mk ((by rw [hg]; exact (below_size y0_) : w.heap.size ≤ gb106)); have n3_ := Aside0.mk ((by rw [hg]; exact (below_size y0_) : w.heap.size ≤ gb106)); replace HB := n0_; have BK106 := n1_; have GW106 := n2_; have GE106 := n3_; clear n0_ n1_ n2_ n3_; clear hb hbox hg; obtain ⟨hcz43_0, hcz43_1, hcz43_2, hcz43_3⟩ := ccs4_ BK106.out; obtain ⟨hfz43_0, hfz43_1, hfz43_2, hfz43_3⟩ := fzs4_ BK106.out) | ((with_reducible refine gate_callee (f := 28) rfl ?_); refine goesL_ (some 82) rfl rfl Tryd.func28 (by kernel_rfl) rfl #[.slice A1 l1.length c1, .int .u8 21] rfl y2_ ?_; (with_reducible refine (pouchref06_Get.calls k1 _ _ l1 21 t107 t108 t109 t110 false _ ?side1 ?side2 A32.out).mono ?_); (case side1 => exact Kd.C_below HR1.out y9_); (case side2 => exact HC1.out); rintro e w44 ⟨rfl, hb⟩; refine ⟨_, rfl, ?_⟩; have n0_ := Aside0.mk (blk_below (g := gb106) (o := .cells #[.int .u8 t101, .int .u32 t102, .string t103, .string t104] 58 (0, 0)) y11_ hb); have n1_ := Aside0.mk (below_step y9_ hb); replace BK106 := n0_; replace HB := n1_; clear n0_ n1_; clear hb) | ((with_reducible refine gate_dst (N := 8) rfl ?_); refine box_event ?hg (N := 8) ?hd (cs := #[.int .u8 0, .int .u32 0, .string (⟨#[]⟩ : ByteArray), .string (⟨#[]⟩ : ByteArray)]) (t := 58) ?hr ?_; (case hd => rfl); (case hg => rfl); (case hr => exact z31z4); intro gb112 hg w45 hbox hb; have n0_ := Aside0.mk (blk_below (g := gb106) (o := .cells #[.int .u8 t101, .int .u32 t102, .string t103, .string t104] 58 (0, 0)) y16_ hb); have n1_ := Aside0.mk (below_step y9_ hb); have n2_ := Aside0.mk (hbox); have n3_ := Aside0.mk ((by rw [hg]; exact (below_size y9_) : w.heap.size ≤ gb112)); have n4_ := Aside0.mk ((by rw [hg]; exact (below_size y9_) : w.heap.size ≤ gb112)); have n5_ := Aside0.mk ((by rw [hg]; exact Nat.ne_of_lt (blk_lt (g := gb106) (o := .cells #[.int .u8 t101, .int .u32 t102, .string t103, .string t104] 58 (0, 0)) y16_) : gb106 ≠ gb112)); have n6_ := Aside0.mk ((by rw [hg]; exact Nat.ne_of_gt (blk_lt (g := gb106) (o := .cells #[.int .u8 t101, .int .u32 t102, .string t103, .string t104] 58 (0, 0)) y16_) : gb112 ≠ gb106)); replace BK106 := n0_; replace HB := n1_; have BK112 := n2_; have GW112 := n3_; have GE112 := n4_; have NB106_112 := n5_; have NB112_106 := n6_; clear n0_ n1_ n2_ n3_ n4_ n5_ n6_; clear hb hbox hg; have hnb46 := NB112_106.out; have hnc46 := NB106_112.out; obtain ⟨hcz47_0, hcz47_1, hcz47_2, hcz47_3⟩ := ccs4_ BK112.out; obtain ⟨hfz47_0, hfz47_1, hfz47_2, hfz47_3⟩ := fzs4_ BK112.out))
     go_ret
     exact ⟨y4_, y17_⟩
end Go.Proofs.YtkmkgpigmldhnaaDoor.P
namespace Go.Proofs.YtkmkgpigmldhnaaDoor.P
open Go.RowKit Go.Proofs.YtkmkgpigmldhnaaDoorW.PrintWords Go.Proofs.YtkmkgpigmldhnaaDoorW.PrintLast Go.Proofs.YtkmkgpigmldhnaaDoorW.PrintMore
attribute [local go_sem] max2_int min2_int max_two min_two max_three min_three max_four min_four
theorem eqA60 (d : Nat) (w : World) (x0 y0 : Int) (x1 y1 : Int) (x2 y2 : ByteArray) (x3 y3 : ByteArray) :
    (Op.equalIn (d + 2) 60 (.agg #[.int .u8 x0, .int .u32 x1, .string x2, .string x3]) (.agg #[.int .u8 y0, .int .u32 y1, .string y2, .string y3])).run Tryd.prog w = .ok (x0 == y0 && (x1 == y1 && (x2.toList == y2.toList && (x3.toList == y3.toList)))) w := by
  refine eqA_of Tryd.underlying60 (by kernel_rfl) ?_
  refine eqf_cons (by rfl) (by go_simp; rfl) (by go_simp; rfl) (by go_simp) ?_
  refine eqf_cons (by rfl) (by go_simp; rfl) (by go_simp; rfl) (by go_simp) ?_
  refine eqf_cons (by rfl) (by go_simp; rfl) (by go_simp; rfl) (by go_simp) ?_
  exact eqf_last (by rfl) (by go_simp; rfl) (by go_simp; rfl) (by go_simp)
end Go.Proofs.YtkmkgpigmldhnaaDoor.P
namespace Go.Proofs.YtkmkgpigmldhnaaDoor.P
open Go.RowKit Go.Proofs.YtkmkgpigmldhnaaDoorW.PrintWords Go.Proofs.YtkmkgpigmldhnaaDoorW.PrintLast Go.Proofs.YtkmkgpigmldhnaaDoorW.PrintMore
attribute [local go_sem] max2_int min2_int max_two min_two max_three min_three max_four min_four
attribute [local go_sem high] eqA60
def slices_Equal_prop_Prop_prop_Prop.l0 : Nat → List (S60) → List (S60) → Int → Int → Option (Bool)
  | 0, _, _, _, _ => none
  | k + 1, x0, x1, x12, x13 => if x13 < x12 then (if 0 ≤ x13 then (if x13 < (x0.length : Int) then (if x13 < (x1.length : Int) then (if (!(((rd_T60 x0 x13).f0) == ((rd_T60 x1 x13).f0)) || (!(((rd_T60 x0 x13).f1) == ((rd_T60 x1 x13).f1)) || (!((((rd_T60 x0 x13).f2).toList) == (((rd_T60 x1 x13).f2).toList)) || (!((((rd_T60 x0 x13).f3).toList) == (((rd_T60 x1 x13).f3).toList)))))) = true then (some false) else (slices_Equal_prop_Prop_prop_Prop.l0 k x0 x1 x12 (wrap64 (x13 + 1)))) else (none)) else (none)) else (none)) else (some true)
def slices_Equal_prop_Prop_prop_Prop.f (k : Nat) (l0 : List (S60)) (l1 : List (S60)) : Option (Bool) := if (l0.length : Int) = (l1.length : Int) then (slices_Equal_prop_Prop_prop_Prop.l0 k l0 l1 (l0.length : Int) 0) else (some false)
theorem z64m0 {p : Prop} (h : p := by
 repeat' first
 | (with_reducible exact ih0 _ _ _ _)
 | (with_reducible exact LeO.refl _)
 | (with_reducible exact LeO.none _)
 | (with_reducible refine LeO.ite ?_ ?_)
 | (with_reducible refine LeO.bind ?_ (fun _ => ?_))
 | exact ih0 _ _ _ _
 | exact LeO.none _
 | refine LeO.ite ?_ ?_
 | refine LeO.bind ?_ (fun _ => ?_)) : p := h
theorem slices_Equal_prop_Prop_prop_Prop.mono_l : ∀ k, (∀ y0 y1 y2 y3, LeO (slices_Equal_prop_Prop_prop_Prop.l0 k y0 y1 y2 y3) (slices_Equal_prop_Prop_prop_Prop.l0 (k + 1) y0 y1 y2 y3))
  | 0 => fun _ _ _ _ r h => by simp [slices_Equal_prop_Prop_prop_Prop.l0] at h
  | k + 1 => by
    have ih0 := slices_Equal_prop_Prop_prop_Prop.mono_l k
    · intro y0 y1 y2 y3
      unfold slices_Equal_prop_Prop_prop_Prop.l0
      exact z64m0
theorem slices_Equal_prop_Prop_prop_Prop.mono : ∀ a0 a1 k, LeO (slices_Equal_prop_Prop_prop_Prop.f k a0 a1) (slices_Equal_prop_Prop_prop_Prop.f (k + 1) a0 a1) := by
  intro a0 a1 k
  have ih0 := slices_Equal_prop_Prop_prop_Prop.mono_l k
  unfold slices_Equal_prop_Prop_prop_Prop.f
  exact z64m0
theorem slices_Equal_prop_Prop_prop_Prop.calls (k : Nat) (A0 : Option Addr) (c0 : Nat) (l0 : List (S60)) (A1 : Option Addr) (c1 : Nat) (l1 : List (S60)) (r : Bool) (w : World) (hr0 : Kd.C k60 w A0 l0.length l0) (hc0 : l0.length ≤ c0) (hr1 : Kd.C k60 w A1 l1.length l1) (hc1 : l1.length ≤ c1) (h : slices_Equal_prop_Prop_prop_Prop.f k l0 l1 = some r) :
    Calls Tryd.prog 64 #[.slice A0 l0.length c0, .slice A1 l1.length c1] w fun e w' => e = .returned (.bool r) ∧ Drawn0 w w' := by
  have hu60 := Tryd.underlying60
  have HR0 := Aside0.mk hr0
  have HC0 := Aside0.mk hc0
  clear hr0 hc0
  have HR1 := Aside0.mk hr1
  have HC1 := Aside0.mk hc1
  clear hr1 hc1
  have H : (if (l0.length : Int) = (l1.length : Int) then (slices_Equal_prop_Prop_prop_Prop.l0 k l0 l1 (l0.length : Int) 0) else (some false)) = some r := h
  clear h
  by_cases c3 : (l0.length : Int) = (l1.length : Int)
  · rw [if_pos c3] at H
    obtain ⟨c3b0, c3b1⟩ := eqt_ c3
    have c3b2 : (l0.length == l1.length) = true := by first | simpa using c3 | (simp at c3 ⊢; omega)
    clear c3
    have H' := Aside0.mk H
    clear H
    go_enter Tryd.func64, Tryd.ntmps64
    go_wp2
    repeat (go_quiet (fail); try go_wp2)
    go_loopg [13] k (fun kq v13 w' => ∃ (x13_1 : Int), v13 = .int .i64 x13_1 ∧ Aside0 (slices_Equal_prop_Prop_prop_Prop.l0 kq l0 l1 (l0.length : Int) x13_1 = some r) ∧ Aside0 (kq ≤ k) ∧ Drawn0 w w')
    case atStart => exact ⟨(0), y7_, H', ⟨Nat.le_refl _⟩, y10_⟩
    case round =>
      clear H'
      try clear c1
      try clear p2
      try clear c3
      try clear c3b0
      try clear c3b1
      try clear c3b2
      obtain ⟨x13_1, rfl, HA, HK1, ⟨m1, rfl⟩⟩ := hrel
      cases gk with
      | zero => exact absurd HA.out (by simp [slices_Equal_prop_Prop_prop_Prop.l0])
      | succ k1 =>
        have H := HA.out
        clear HA
        simp only [slices_Equal_prop_Prop_prop_Prop.l0] at H
        by_cases c4 : x13_1 < (l0.length : Int)
        · rw [if_pos c4] at H
          have c4b0 := decide_eq_true c4
          clear c4
          by_cases c5 : 0 ≤ x13_1
          · rw [if_pos c5] at H
            have c5b0 := decide_eq_true c5
            clear c5
            by_cases c6 : x13_1 < (l0.length : Int)
            · rw [if_pos c6] at H
              have c6b0 := decide_eq_true c6
              clear c6
              by_cases c7 : x13_1 < (l1.length : Int)
              · rw [if_pos c7] at H
                have c7b0 := decide_eq_true c7
                clear c7
                by_cases c8 : (!(((rd_T60 l0 x13_1).f0) == ((rd_T60 l1 x13_1).f0)) || (!(((rd_T60 l0 x13_1).f1) == ((rd_T60 l1 x13_1).f1)) || (!((((rd_T60 l0 x13_1).f2).toList) == (((rd_T60 l1 x13_1).f2).toList)) || (!((((rd_T60 l0 x13_1).f3).toList) == (((rd_T60 l1 x13_1).f3).toList)))))) = true
                · rw [if_pos c8] at H
                  have c8b0 : (!(((rd_T60 l0 x13_1).f0) == ((rd_T60 l1 x13_1).f0)) || (!(((rd_T60 l0 x13_1).f1) == ((rd_T60 l1 x13_1).f1)) || (!((((rd_T60 l0 x13_1).f2).toList) == (((rd_T60 l1 x13_1).f2).toList)) || (!((((rd_T60 l0 x13_1).f3).toList) == (((rd_T60 l1 x13_1).f3).toList)))))) = true := c8
                  clear c8
                  obtain rfl := Option.some.inj H
                  have p101 : 0 ≤ (x13_1 : Int) := of_decide_eq_true y5_
                  have q101 : x13_1 < (l0.length : Int) := of_decide_eq_true y5_
                  obtain ⟨ad101, e101, hx101_0, hx101_1, hx101_2, hx101_3⟩ := at_T60 HR0.out x13_1 p101 q101
                  cases e101
                  replace p101 := eq_true p101
                  replace q101 := eq_true q101
                  have p102 : 0 ≤ (x13_1 : Int) := of_decide_eq_true y5_
                  have q102 : x13_1 < (l1.length : Int) := of_decide_eq_true y5_
                  obtain ⟨ad102, e102, hx102_0, hx102_1, hx102_2, hx102_3⟩ := at_T60 HR1.out x13_1 p102 q102
                  cases e102
                  replace p102 := eq_true p102
                  replace q102 := eq_true q102
                  go_wp2
                  repeat (go_quiet (fail); try go_wp2)
                  go_ret
                  exact ⟨y7_, y10_⟩
                · rw [if_neg c8] at H
                  have c8b0 : (!(((rd_T60 l0 x13_1).f0) == ((rd_T60 l1 x13_1).f0)) || (!(((rd_T60 l0 x13_1).f1) == ((rd_T60 l1 x13_1).f1)) || (!((((rd_T60 l0 x13_1).f2).toList) == (((rd_T60 l1 x13_1).f2).toList)) || (!((((rd_T60 l0 x13_1).f3).toList) == (((rd_T60 l1 x13_1).f3).toList)))))) = false := by simpa using c8
                  clear c8
                  have H' := Aside0.mk H
                  clear H
                  have p101 : 0 ≤ (x13_1 : Int) := of_decide_eq_true y5_
                  have q101 : x13_1 < (l0.length : Int) := of_decide_eq_true y5_
                  obtain ⟨ad101, e101, hx101_0, hx101_1, hx101_2, hx101_3⟩ := at_T60 HR0.out x13_1 p101 q101
                  cases e101
                  replace p101 := eq_true p101
                  replace q101 := eq_true q101
                  have p102 : 0 ≤ (x13_1 : Int) := of_decide_eq_true y5_
                  have q102 : x13_1 < (l1.length : Int) := of_decide_eq_true y5_
                  obtain ⟨ad102, e102, hx102_0, hx102_1, hx102_2, hx102_3⟩ := at_T60 HR1.out x13_1 p102 q102
                  cases e102
                  replace p102 := eq_true p102
                  replace q102 := eq_true q102
                  go_wp2
                  repeat (go_quiet (fail); try go_wp2)
                  go_roundg k1
                  case measure => have := HK1.out; omega
                  case rel => exact ⟨(wrap64 (x13_1 + 1)), y7_, H', ⟨y25_⟩, y10_⟩
              · rw [if_neg c7] at H
                exact absurd H (by simp)
            · rw [if_neg c6] at H
              exact absurd H (by simp)
          · rw [if_neg c5] at H
            exact absurd H (by simp)
        · rw [if_neg c4] at H
          have c4b0 := decide_eq_false c4
          clear c4
          obtain rfl := Option.some.inj H
          go_wp2
          repeat (go_quiet (fail); try go_wp2)
          go_ret
          exact ⟨y7_, y10_⟩
  · rw [if_neg c3] at H
    obtain ⟨c3b0, c3b1⟩ := eqf_ c3
    have c3b2 : (l0.length == l1.length) = false := by first | simpa using c3 | (simp at c3 ⊢; omega)
    obtain rfl := Option.some.inj H
    go_enter Tryd.func64, Tryd.ntmps64
    go_wp2
    repeat (go_quiet (fail); try go_wp2)
    go_ret
    exact ⟨y7_, y10_⟩
end Go.Proofs.YtkmkgpigmldhnaaDoor.P
namespace Go.Proofs.YtkmkgpigmldhnaaDoor.P
open Go.RowKit Go.Proofs.YtkmkgpigmldhnaaDoorW.PrintWords Go.Proofs.YtkmkgpigmldhnaaDoorW.PrintLast Go.Proofs.YtkmkgpigmldhnaaDoorW.PrintMore
attribute [local go_sem] max2_int min2_int max_two min_two max_three min_three max_four min_four
def props_Same.f (k : Nat) (l0 : List (S60)) (l1 : List (S60)) : Option (Bool) := (slices_Equal_prop_Prop_prop_Prop.f k l0 l1).bind fun t101 => (some t101)
theorem props_Same.mono : ∀ a0 a1 k, LeO (props_Same.f k a0 a1) (props_Same.f (k + 1) a0 a1) := by
  intro a0 a1 k
  unfold props_Same.f
  repeat' first
      | (with_reducible exact slices_Equal_prop_Prop_prop_Prop.mono _ _ _)
      | (with_reducible exact LeO.refl _)
      | (with_reducible exact LeO.none _)
      | (with_reducible refine LeO.ite ?_ ?_)
      | (with_reducible refine LeO.bind ?_ (fun _ => ?_))
      | exact slices_Equal_prop_Prop_prop_Prop.mono _ _ _
      | exact LeO.none _
      | refine LeO.ite ?_ ?_
      | refine LeO.bind ?_ (fun _ => ?_)
theorem props_Same.calls (k : Nat) (A0 : Option Addr) (c0 : Nat) (l0 : List (S60)) (A1 : Option Addr) (c1 : Nat) (l1 : List (S60)) (r : Bool) (w : World) (hr0 : Kd.C k60 w A0 l0.length l0) (hc0 : l0.length ≤ c0) (hr1 : Kd.C k60 w A1 l1.length l1) (hc1 : l1.length ≤ c1) (h : props_Same.f k l0 l1 = some r) :
    Calls Tryd.prog 33 #[.slice A0 l0.length c0, .slice A1 l1.length c1] w fun e w' => e = .returned (.bool r) ∧ Drawn0 w w' := by
  have HR0 := Aside0.mk hr0
  have HC0 := Aside0.mk hc0
  clear hr0 hc0
  have HR1 := Aside0.mk hr1
  have HC1 := Aside0.mk hc1
  clear hr1 hc1
  have H : ((slices_Equal_prop_Prop_prop_Prop.f k l0 l1).bind fun t101 => (some t101)) = some r := h
  clear h
  replace H := Option.bind_eq_some_iff.mp H
  obtain ⟨t101, A30, H⟩ := H
  replace H : (some t101) = some r := H
  have A3 := Aside0.mk A30
  clear A30
  obtain rfl := Option.some.inj H
  go_enter Tryd.func33, Tryd.ntmps33
  go_wp2_with (first | ((with_reducible refine gate_callee (f := 64) rfl ?_); refine goesL_ (some 7) rfl rfl Tryd.func64 (by kernel_rfl) rfl #[.slice A0 l0.length c0, .slice A1 l1.length c1] rfl y2_ ?_; (with_reducible refine (slices_Equal_prop_Prop_prop_Prop.calls k _ _ l0 _ _ l1 t101 _ ?side1 ?side2 ?side3 ?side4 A3.out).mono ?_); (case side1 => repeat (first | exact HR0.out | (with_reducible refine Kd.C_alloc ?_ _) | (with_reducible refine Kd.C_drewN ?_ _) | (with_reducible refine Kd.C_drew ?_))); (case side2 => exact HC0.out); (case side3 => repeat (first | exact HR1.out | (with_reducible refine Kd.C_alloc ?_ _) | (with_reducible refine Kd.C_drewN ?_ _) | (with_reducible refine Kd.C_drew ?_))); (case side4 => exact HC1.out); rintro e w' ⟨rfl, ⟨nd, rfl⟩⟩; refine ⟨_, rfl, ?_⟩))
  go_ret
  exact ⟨y7_, y10_⟩
def pouchlaw06_few.l0 : Nat → List (S58) → Int → Option (Bool)
  | 0, _, _ => none
  | k + 1, x0, x3 => if x3 < (x0.length : Int) then (if 0 ≤ x3 then (if (((rd_T58 x0 x3).f2).size : Int) > 200 then (some false) else (if (((rd_T58 x0 x3).f3).size : Int) > 200 then (some false) else (pouchlaw06_few.l0 k x0 (wrap64 (x3 + 1))))) else (none)) else (some (decide ((x0.length : Int) ≤ 30)))
def pouchlaw06_few.f (k : Nat) (l0 : List (S58)) : Option (Bool) := pouchlaw06_few.l0 k l0 0
theorem z9m0 {p : Prop} (h : p := by
 repeat' first
 | (with_reducible exact ih0 _ _)
 | (with_reducible exact LeO.refl _)
 | (with_reducible exact LeO.none _)
 | (with_reducible refine LeO.ite ?_ ?_)
 | (with_reducible refine LeO.bind ?_ (fun _ => ?_))
 | exact ih0 _ _
 | exact LeO.none _
 | refine LeO.ite ?_ ?_
 | refine LeO.bind ?_ (fun _ => ?_)) : p := h
theorem pouchlaw06_few.mono_l : ∀ k, (∀ y0 y1, LeO (pouchlaw06_few.l0 k y0 y1) (pouchlaw06_few.l0 (k + 1) y0 y1))
  | 0 => fun _ _ r h => by simp [pouchlaw06_few.l0] at h
  | k + 1 => by
    have ih0 := pouchlaw06_few.mono_l k
    · intro y0 y1
      unfold pouchlaw06_few.l0
      exact z9m0
theorem pouchlaw06_few.mono : ∀ a0 k, LeO (pouchlaw06_few.f k a0) (pouchlaw06_few.f (k + 1) a0) := by
  intro a0 k
  have ih0 := pouchlaw06_few.mono_l k
  unfold pouchlaw06_few.f
  exact z9m0
theorem pouchlaw06_few.calls (k : Nat) (A0 : Option Addr) (c0 : Nat) (l0 : List (S58)) (r : Bool) (w : World) (hr0 : Kd.C k58 w A0 l0.length l0) (hc0 : l0.length ≤ c0) (h : pouchlaw06_few.f k l0 = some r) :
    Calls Tryd.prog 9 #[.slice A0 l0.length c0] w fun e w' => e = .returned (.bool r) ∧ Drawn0 w w' := by
  have HR0 := Aside0.mk hr0
  have HC0 := Aside0.mk hc0
  clear hr0 hc0
  have H : (pouchlaw06_few.l0 k l0 0) = some r := h
  clear h
  have H' := Aside0.mk H
  clear H
  go_enter Tryd.func9, Tryd.ntmps9
  go_wp2
  go_loopg [3] k (fun kq v3 w' => ∃ (x3_1 : Int), v3 = .int .i64 x3_1 ∧ Aside0 (pouchlaw06_few.l0 kq l0 x3_1 = some r) ∧ Aside0 (kq ≤ k) ∧ Drawn0 w w')
  case atStart => exact ⟨(0), y7_, H', ⟨Nat.le_refl _⟩, y10_⟩
  case round =>
    clear H'
    obtain ⟨x3_1, rfl, HA, HK1, ⟨m1, rfl⟩⟩ := hrel
    cases gk with
    | zero => exact absurd HA.out (by simp [pouchlaw06_few.l0])
    | succ k1 =>
      have H := HA.out
      clear HA
      simp only [pouchlaw06_few.l0] at H
      by_cases c2 : x3_1 < (l0.length : Int)
      · rw [if_pos c2] at H
        have c2b0 := decide_eq_true c2
        clear c2
        by_cases c3 : 0 ≤ x3_1
        · rw [if_pos c3] at H
          have c3b0 := decide_eq_true c3
          clear c3
          by_cases c4 : (((rd_T58 l0 x3_1).f2).size : Int) > 200
          · rw [if_pos c4] at H
            have c4b0 := decide_eq_true c4
            have c4b1 : decide (200 < ((rd_T58 l0 x3_1).f2).size) = true := decide_eq_true (by omega)
            clear c4
            obtain rfl := Option.some.inj H
            have p101 : 0 ≤ (x3_1 : Int) := of_decide_eq_true y5_
            have q101 : x3_1 < (l0.length : Int) := of_decide_eq_true y5_
            obtain ⟨ad101, e101, hx101_0, hx101_1, hx101_2, hx101_3⟩ := at_T58 HR0.out x3_1 p101 q101
            cases e101
            replace p101 := eq_true p101
            replace q101 := eq_true q101
            go_wp2
            go_ret
            exact ⟨y7_, y10_⟩
          · rw [if_neg c4] at H
            have c4b0 := decide_eq_false c4
            have c4b1 : decide (200 < ((rd_T58 l0 x3_1).f2).size) = false := decide_eq_false (by omega)
            clear c4
            by_cases c5 : (((rd_T58 l0 x3_1).f3).size : Int) > 200
            · rw [if_pos c5] at H
              have c5b0 := decide_eq_true c5
              have c5b1 : decide (200 < ((rd_T58 l0 x3_1).f3).size) = true := decide_eq_true (by omega)
              clear c5
              obtain rfl := Option.some.inj H
              have p101 : 0 ≤ (x3_1 : Int) := of_decide_eq_true y5_
              have q101 : x3_1 < (l0.length : Int) := of_decide_eq_true y5_
              obtain ⟨ad101, e101, hx101_0, hx101_1, hx101_2, hx101_3⟩ := at_T58 HR0.out x3_1 p101 q101
              cases e101
              replace p101 := eq_true p101
              replace q101 := eq_true q101
              have p102 : 0 ≤ (x3_1 : Int) := of_decide_eq_true y5_
              have q102 : x3_1 < (l0.length : Int) := of_decide_eq_true y5_
              obtain ⟨ad102, e102, hx102_0, hx102_1, hx102_2, hx102_3⟩ := at_T58 HR0.out x3_1 p102 q102
              obtain rfl : ad101 = ad102 := (by injection e102)
              replace p102 := eq_true p102
              replace q102 := eq_true q102
              go_wp2
              go_ret
              exact ⟨y7_, y10_⟩
            · rw [if_neg c5] at H
              have c5b0 := decide_eq_false c5
              have c5b1 : decide (200 < ((rd_T58 l0 x3_1).f3).size) = false := decide_eq_false (by omega)
              clear c5
              have H' := Aside0.mk H
              clear H
              have p101 : 0 ≤ (x3_1 : Int) := of_decide_eq_true y5_
              have q101 : x3_1 < (l0.length : Int) := of_decide_eq_true y5_
              obtain ⟨ad101, e101, hx101_0, hx101_1, hx101_2, hx101_3⟩ := at_T58 HR0.out x3_1 p101 q101
              cases e101
              replace p101 := eq_true p101
              replace q101 := eq_true q101
              have p102 : 0 ≤ (x3_1 : Int) := of_decide_eq_true y5_
              have q102 : x3_1 < (l0.length : Int) := of_decide_eq_true y5_
              obtain ⟨ad102, e102, hx102_0, hx102_1, hx102_2, hx102_3⟩ := at_T58 HR0.out x3_1 p102 q102
              obtain rfl : ad101 = ad102 := (by injection e102)
              replace p102 := eq_true p102
              replace q102 := eq_true q102
              go_wp2
              go_roundg k1
              case measure => have := HK1.out; omega
              case rel => exact ⟨(wrap64 (x3_1 + 1)), y7_, H', ⟨y25_⟩, y10_⟩
        · rw [if_neg c3] at H
          exact absurd H (by simp)
      · rw [if_neg c2] at H
        have c2b0 := decide_eq_false c2
        clear c2
        obtain rfl := Option.some.inj H
        go_wp2
        go_ret
        exact ⟨y7_, y10_⟩
end Go.Proofs.YtkmkgpigmldhnaaDoor.P
