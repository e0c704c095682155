import Derived.Lib.IndexAny
import Derived.Lib.IndexMore
import Derived.Lib.SplitLaws
import Derived.Lib.ValidLaws
import Derived.Test.YtbaipppmefencaaDoorCTopicDeeper0
import Derived.Test.YtbaipppmefencaaDoorCTopicDeeper1
import Derived.Test.YtbaipppmefencaaDoorCTopicDeeper2
namespace Go.Proofs.YtbaipppmefencaaDoor.P
open Go.RowKit Go.Proofs.YtbaipppmefencaaDoorW.PrintWords Go.Proofs.YtbaipppmefencaaDoorW.PrintLast Go.Proofs.YtbaipppmefencaaDoorW.PrintMore
attribute [local go_sem] max2_int min2_int max_two min_two max_three min_three max_four min_four
set_option linter.unusedVariables false
set_option linter.unusedSimpArgs false

/-! ### pouchref04_FixFilter: function 15 -/
mutual
def pouchref04_FixFilter.j1 : Nat → ByteArray → ByteArray → Option (ByteArray)
  | 0, _, _ => none
  | k + 1, x0, x4 => if (x0.size : Int) > 0 then (if 0 < (x0.size : Int) then (pouchref04_FixFilter.j2 k x0 x4 (decide ((bt x0 0) ≥ 200))) else (none)) else (pouchref04_FixFilter.j2 k x0 x4 false)
def pouchref04_FixFilter.j2 : Nat → ByteArray → ByteArray → Bool → Option (ByteArray)
  | 0, _, _, _ => none
  | k + 1, x0, x4, x35 => if x35 = true then (if x4.size + 2 ≤ 9223372036854775807 then (pouchref04_FixFilter.j3 k x0 (x4 ++ (⟨#[47, 35]⟩ : ByteArray))) else (none)) else (pouchref04_FixFilter.j3 k x0 x4)
def pouchref04_FixFilter.j3 : Nat → ByteArray → ByteArray → Option (ByteArray)
  | 0, _, _ => none
  | k + 1, x0, x4 => if (x0.size : Int) > 1 then (if 1 < (x0.size : Int) then (pouchref04_FixFilter.j4 k x0 x4 (decide ((bt x0 1) ≥ 200))) else (none)) else (pouchref04_FixFilter.j4 k x0 x4 false)
def pouchref04_FixFilter.j4 : Nat → ByteArray → ByteArray → Bool → Option (ByteArray)
  | 0, _, _, _ => none
  | k + 1, x0, x4, x45 => if x45 = true then (if 9 + x4.size ≤ 9223372036854775807 then (if (x0.size : Int) > 2 then (if 2 < (x0.size : Int) then (if (bt x0 2) ≥ 220 then (some (⟨#[35]⟩ : ByteArray)) else (some ((⟨#[36, 115, 104, 97, 114, 101, 47, 103, 47]⟩ : ByteArray) ++ x4))) else (none)) else (some ((⟨#[36, 115, 104, 97, 114, 101, 47, 103, 47]⟩ : ByteArray) ++ x4))) else (none)) else (if (x0.size : Int) > 2 then (if 2 < (x0.size : Int) then (if (bt x0 2) ≥ 220 then (some (⟨#[35]⟩ : ByteArray)) else (some x4)) else (none)) else (some x4))
def pouchref04_FixFilter.l0 : Nat → ByteArray → List ByteArray → ByteArray → Int → Option (ByteArray)
  | 0, _, _, _, _ => none
  | k + 1, x0, x3, x4, x5 => if x5 < (x0.size : Int) then (if x5 < 6 then (if x4.size + 1 ≤ 9223372036854775807 then (if 0 ≤ x5 then (if 0 ≤ (Int.tmod (wrap64 (bt x0 x5)) 8) then (if (Int.tmod (wrap64 (bt x0 x5)) 8) < (x3.length : Int) then (if (x4 ++ (⟨#[47]⟩ : ByteArray)).size + (rdOf ByteArray.empty x3 (Int.tmod (wrap64 (bt x0 x5)) 8)).size ≤ 9223372036854775807 then (pouchref04_FixFilter.l0 k x0 x3 ((x4 ++ (⟨#[47]⟩ : ByteArray)) ++ (rdOf ByteArray.empty x3 (Int.tmod (wrap64 (bt x0 x5)) 8))) (wrap64 (x5 + 1))) else (none)) else (none)) else (none)) else (none)) else (none)) else (pouchref04_FixFilter.j1 k x0 x4)) else (pouchref04_FixFilter.j1 k x0 x4)
end
def pouchref04_FixFilter.f (k : Nat) (a0 : ByteArray) : Option (ByteArray) := pouchref04_FixFilter.l0 k a0 (([(⟨#[97]⟩ : ByteArray), (⟨#[43]⟩ : ByteArray), (⟨#[98]⟩ : ByteArray), (⟨#[]⟩ : ByteArray), (⟨#[99]⟩ : ByteArray), (⟨#[97]⟩ : ByteArray), (⟨#[43]⟩ : ByteArray), (⟨#[98]⟩ : ByteArray)] : List ByteArray)) (⟨#[116]⟩ : ByteArray) 0
theorem pouchref04_FixFilter.mono_l : ∀ k, (∀ y0 y1, LeO (pouchref04_FixFilter.j1 k y0 y1) (pouchref04_FixFilter.j1 (k + 1) y0 y1)) ∧ (∀ y0 y1 y2, LeO (pouchref04_FixFilter.j2 k y0 y1 y2) (pouchref04_FixFilter.j2 (k + 1) y0 y1 y2)) ∧ (∀ y0 y1, LeO (pouchref04_FixFilter.j3 k y0 y1) (pouchref04_FixFilter.j3 (k + 1) y0 y1)) ∧ (∀ y0 y1 y2, LeO (pouchref04_FixFilter.j4 k y0 y1 y2) (pouchref04_FixFilter.j4 (k + 1) y0 y1 y2)) ∧ (∀ y0 y1 y2 y3, LeO (pouchref04_FixFilter.l0 k y0 y1 y2 y3) (pouchref04_FixFilter.l0 (k + 1) y0 y1 y2 y3))
  | 0 => ⟨fun _ _ r h => by simp [pouchref04_FixFilter.j1] at h, fun _ _ _ r h => by simp [pouchref04_FixFilter.j2] at h, fun _ _ r h => by simp [pouchref04_FixFilter.j3] at h, fun _ _ _ r h => by simp [pouchref04_FixFilter.j4] at h, fun _ _ _ _ r h => by simp [pouchref04_FixFilter.l0] at h⟩
  | k + 1 => by
    obtain ⟨ih0, ih1, ih2, ih3, ih4⟩ := pouchref04_FixFilter.mono_l k
    refine ⟨?_, ?_, ?_, ?_, ?_⟩
    · intro y0 y1
      unfold pouchref04_FixFilter.j1
      repeat' first
      | (with_reducible exact ih0 _ _)
      | (with_reducible exact ih1 _ _ _)
      | (with_reducible exact ih2 _ _)
      | (with_reducible exact ih3 _ _ _)
      | (with_reducible exact ih4 _ _ _ _)
      | (with_reducible exact LeO.refl _)
      | (with_reducible exact LeO.none _)
      | (with_reducible refine LeO.ite ?_ ?_)
      | (with_reducible refine LeO.bind ?_ (fun _ => ?_))
      | exact ih0 _ _
      | exact ih1 _ _ _
      | exact ih2 _ _
      | exact ih3 _ _ _
      | exact ih4 _ _ _ _
      | exact LeO.none _
      | refine LeO.ite ?_ ?_
      | refine LeO.bind ?_ (fun _ => ?_)
    · intro y0 y1 y2
      unfold pouchref04_FixFilter.j2
      repeat' first
      | (with_reducible exact ih0 _ _)
      | (with_reducible exact ih1 _ _ _)
      | (with_reducible exact ih2 _ _)
      | (with_reducible exact ih3 _ _ _)
      | (with_reducible exact ih4 _ _ _ _)
      | (with_reducible exact LeO.refl _)
      | (with_reducible exact LeO.none _)
      | (with_reducible refine LeO.ite ?_ ?_)
      | (with_reducible refine LeO.bind ?_ (fun _ => ?_))
      | exact ih0 _ _
      | exact ih1 _ _ _
      | exact ih2 _ _
      | exact ih3 _ _ _
      | exact ih4 _ _ _ _
      | exact LeO.none _
      | refine LeO.ite ?_ ?_
      | refine LeO.bind ?_ (fun _ => ?_)
    · intro y0 y1
      unfold pouchref04_FixFilter.j3
      repeat' first
      | (with_reducible exact ih0 _ _)
      | (with_reducible exact ih1 _ _ _)
      | (with_reducible exact ih2 _ _)
      | (with_reducible exact ih3 _ _ _)
      | (with_reducible exact ih4 _ _ _ _)
      | (with_reducible exact LeO.refl _)
      | (with_reducible exact LeO.none _)
      | (with_reducible refine LeO.ite ?_ ?_)
      | (with_reducible refine LeO.bind ?_ (fun _ => ?_))
      | exact ih0 _ _
      | exact ih1 _ _ _
      | exact ih2 _ _
      | exact ih3 _ _ _
      | exact ih4 _ _ _ _
      | exact LeO.none _
      | refine LeO.ite ?_ ?_
      | refine LeO.bind ?_ (fun _ => ?_)
    · intro y0 y1 y2
      unfold pouchref04_FixFilter.j4
      repeat' first
      | (with_reducible exact ih0 _ _)
      | (with_reducible exact ih1 _ _ _)
      | (with_reducible exact ih2 _ _)
      | (with_reducible exact ih3 _ _ _)
      | (with_reducible exact ih4 _ _ _ _)
      | (with_reducible exact LeO.refl _)
      | (with_reducible exact LeO.none _)
      | (with_reducible refine LeO.ite ?_ ?_)
      | (with_reducible refine LeO.bind ?_ (fun _ => ?_))
      | exact ih0 _ _
      | exact ih1 _ _ _
      | exact ih2 _ _
      | exact ih3 _ _ _
      | exact ih4 _ _ _ _
      | exact LeO.none _
      | refine LeO.ite ?_ ?_
      | refine LeO.bind ?_ (fun _ => ?_)
    · intro y0 y1 y2 y3
      unfold pouchref04_FixFilter.l0
      repeat' first
      | (with_reducible exact ih0 _ _)
      | (with_reducible exact ih1 _ _ _)
      | (with_reducible exact ih2 _ _)
      | (with_reducible exact ih3 _ _ _)
      | (with_reducible exact ih4 _ _ _ _)
      | (with_reducible exact LeO.refl _)
      | (with_reducible exact LeO.none _)
      | (with_reducible refine LeO.ite ?_ ?_)
      | (with_reducible refine LeO.bind ?_ (fun _ => ?_))
      | exact ih0 _ _
      | exact ih1 _ _ _
      | exact ih2 _ _
      | exact ih3 _ _ _
      | exact ih4 _ _ _ _
      | exact LeO.none _
      | refine LeO.ite ?_ ?_
      | refine LeO.bind ?_ (fun _ => ?_)
theorem pouchref04_FixFilter.mono : ∀ a0 k, LeO (pouchref04_FixFilter.f k a0) (pouchref04_FixFilter.f (k + 1) a0) := by
  intro a0 k
  obtain ⟨ih0, ih1, ih2, ih3, ih4⟩ := pouchref04_FixFilter.mono_l k
  unfold pouchref04_FixFilter.f
  repeat' first
      | (with_reducible exact ih0 _ _)
      | (with_reducible exact ih1 _ _ _)
      | (with_reducible exact ih2 _ _)
      | (with_reducible exact ih3 _ _ _)
      | (with_reducible exact ih4 _ _ _ _)
      | (with_reducible exact LeO.refl _)
      | (with_reducible exact LeO.none _)
      | (with_reducible refine LeO.ite ?_ ?_)
      | (with_reducible refine LeO.bind ?_ (fun _ => ?_))
      | exact ih0 _ _
      | exact ih1 _ _ _
      | exact ih2 _ _
      | exact ih3 _ _ _
      | exact ih4 _ _ _ _
      | exact LeO.none _
      | refine LeO.ite ?_ ?_
      | refine LeO.bind ?_ (fun _ => ?_)
set_option maxHeartbeats 8000000 in
set_option maxRecDepth 100000 in
theorem pouchref04_FixFilter.calls (k : Nat) (a0 : ByteArray) (r : ByteArray) (w : World) (h : pouchref04_FixFilter.f k a0 = some r) :
    Calls Tryd.prog 15 #[.string a0] w fun e w' => e = .returned (.string r) ∧ Below w.heap.size w w' := by
  have HB := Aside0.mk (Below.refl w.heap.size w)
  have H : (pouchref04_FixFilter.l0 k a0 (([(⟨#[97]⟩ : ByteArray), (⟨#[43]⟩ : ByteArray), (⟨#[98]⟩ : ByteArray), (⟨#[]⟩ : ByteArray), (⟨#[99]⟩ : ByteArray), (⟨#[97]⟩ : ByteArray), (⟨#[43]⟩ : ByteArray), (⟨#[98]⟩ : ByteArray)] : List ByteArray)) (⟨#[116]⟩ : ByteArray) 0) = some r := h
  clear h
  obtain ⟨y184, hy184⟩ : ∃ y_ : List ByteArray, y_ = (([(⟨#[97]⟩ : ByteArray), (⟨#[43]⟩ : ByteArray), (⟨#[98]⟩ : ByteArray), (⟨#[]⟩ : ByteArray), (⟨#[99]⟩ : ByteArray), (⟨#[97]⟩ : ByteArray), (⟨#[43]⟩ : ByteArray), (⟨#[98]⟩ : ByteArray)] : List ByteArray)) := ⟨_, rfl⟩
  replace H : (pouchref04_FixFilter.l0 k a0 y184 (⟨#[116]⟩ : ByteArray) 0) = some r := by first | (rw [hy184]; with_reducible exact H) | (have H2_ := (Option.bind_some _ _).symm.trans H; rw [hy184]; with_reducible exact H2_) | (have H2_ := (Option.bind_some _ _).symm.trans H; with_reducible exact H2_) | with_reducible exact H | (rw [hy184]; exact H) | exact H
  have Ny184 := Aside0.mk hy184
  clear hy184
  have HC2 := Aside0.mk H
  clear H
  go_enter Tryd.func15, Tryd.ntmps15
  go_upto_block 0 with (first | ((with_reducible refine gate_dst (N := 6) rfl ?_); refine Kd.R_lit Kd.string _ 9 ?hg (N := 6) ?hd (xs := ([(⟨#[97]⟩ : ByteArray), (⟨#[43]⟩ : ByteArray), (⟨#[98]⟩ : ByteArray), (⟨#[]⟩ : ByteArray), (⟨#[99]⟩ : ByteArray), (⟨#[97]⟩ : ByteArray), (⟨#[43]⟩ : ByteArray), (⟨#[98]⟩ : ByteArray)] : List ByteArray)) (inner := [.string (⟨#[97]⟩ : ByteArray), .string (⟨#[43]⟩ : ByteArray), .string (⟨#[98]⟩ : ByteArray), .string (⟨#[]⟩ : ByteArray), .string (⟨#[99]⟩ : ByteArray), .string (⟨#[97]⟩ : ByteArray), .string (⟨#[43]⟩ : ByteArray), .string (⟨#[98]⟩ : ByteArray)]) (ok := fun _ => True) (okp := fun _ => True) ?hr ?hp (fun _ hk => hk) trivial (Below.refl _ _) (Nat.le_refl _) (by simp) ?_; (case hd => rfl); (case hg => rfl); (case hr => first | (go_simp; done) | (go_simp; rfl)); (case hp => exact (Reps.one (show Kd.M Kd.string _ _ _ (⟨#[97]⟩ : ByteArray) [.string (⟨#[97]⟩ : ByteArray)] from rfl) (Reps.one (show Kd.M Kd.string _ _ _ (⟨#[43]⟩ : ByteArray) [.string (⟨#[43]⟩ : ByteArray)] from rfl) (Reps.one (show Kd.M Kd.string _ _ _ (⟨#[98]⟩ : ByteArray) [.string (⟨#[98]⟩ : ByteArray)] from rfl) (Reps.one (show Kd.M Kd.string _ _ _ (⟨#[]⟩ : ByteArray) [.string (⟨#[]⟩ : ByteArray)] from rfl) (Reps.one (show Kd.M Kd.string _ _ _ (⟨#[99]⟩ : ByteArray) [.string (⟨#[99]⟩ : ByteArray)] from rfl) (Reps.one (show Kd.M Kd.string _ _ _ (⟨#[97]⟩ : ByteArray) [.string (⟨#[97]⟩ : ByteArray)] from rfl) (Reps.one (show Kd.M Kd.string _ _ _ (⟨#[43]⟩ : ByteArray) [.string (⟨#[43]⟩ : ByteArray)] from rfl) (Reps.one (show Kd.M Kd.string _ _ _ (⟨#[98]⟩ : ByteArray) [.string (⟨#[98]⟩ : ByteArray)] from rfl) (Reps.none _ _)))))))))); intro v185 w3 ho4 hb hg_ hnew_; clear hg_ hnew_; (first | rw [← Ny184.out] at ho4 | (simp only [Int.reduceToNat] at ho4; rw [← Ny184.out] at ho4)); have n0_ := Aside0.mk (Kd.R_lower ho4 (below_size (by repeat (first | (with_reducible first | exact HB.out | apply below_alloc | apply pw_below_drewN | apply below_drew1) | exact HB.out)))); have n1_ := Aside0.mk (below_step (by repeat (first | (with_reducible first | exact HB.out | apply below_alloc | apply pw_below_drewN | apply below_drew1) | exact HB.out)) hb); clear HB; have HO186 := n0_; have HB := n1_; clear n0_ n1_; clear hb ho4))
  (try simp only [Act.put, List.setIfInBounds_toArray, List.set_cons_zero, List.set_cons_succ])
  go_cut [4] (fun v4 wc => ∃ (kq : Nat) (x4_1 : ByteArray), v4 = .string x4_1 ∧ Aside0 (pouchref04_FixFilter.j1 kq a0 x4_1 = some r) ∧ Aside0 (kq ≤ k) ∧ Aside0 (Below w.heap.size w wc))
  case first =>
    have H := HC2.out
    clear HC2
    have H' := Aside0.mk H
    clear H
    go_wp2
    go_loopg [4, 5] k (fun kq v4 v5 w' => ∃ (x4_1 : ByteArray) (x5_1 : Int), v4 = .string x4_1 ∧ v5 = .int .i64 x5_1 ∧ Aside0 (pouchref04_FixFilter.l0 kq a0 y184 x4_1 x5_1 = some r) ∧ Aside0 (kq ≤ k) ∧ Aside0 (Kd.R Kd.string 9 w' w.heap.size (fun _ => True) v185 y184) ∧ Aside0 (Below w.heap.size w w'))
    case atStart => exact ⟨((⟨#[116]⟩ : ByteArray)), (0), (by first | rfl | (simp; done) | (simp [*]; done)), (by first | rfl | (simp; done) | (simp [*]; done)), H', ⟨Nat.le_refl _⟩, ⟨by (with_reducible repeat (first | apply Kd.R_alloc | apply Kd.R_drewN | apply Kd.R_drew)); exact HO186.out⟩, ⟨by repeat (first | (with_reducible first | exact HB.out | apply below_alloc | apply pw_below_drewN | apply below_drew1) | exact HB.out)⟩⟩
    case round =>
      clear H'
      try clear c1
      try clear p2
      obtain ⟨x4_1, x5_1, rfl, rfl, HA, HK1, HO_3, HB⟩ := hrel
      cases gk with
      | zero => exact absurd HA.out (by simp [pouchref04_FixFilter.l0])
      | succ k1 =>
        have H := HA.out
        clear HA
        simp only [pouchref04_FixFilter.l0] at H
        by_cases c5 : x5_1 < (a0.size : Int)
        · rw [if_pos c5] at H
          have c5b0 : decide (x5_1 < (a0.size : Int)) = true := decide_eq_true c5
          clear c5
          (first | rw [c5b0] | (simp only [i64_w, i32_w]; rw [c5b0]) | skip)
          by_cases c6 : x5_1 < 6
          · rw [if_pos c6] at H
            have c6b0 : decide (x5_1 < 6) = true := decide_eq_true c6
            clear c6
            by_cases c7 : x4_1.size + 1 ≤ 9223372036854775807
            · rw [if_pos c7] at H
              have c7b0 := eq_true c7
              have c7b1 : decide (x4_1.size + 1 ≤ 9223372036854775807) = true := decide_eq_true c7
              try have c7b2 : (9223372036854775807 < x4_1.size + 1) = False := eq_false (Nat.not_lt.2 c7)
              by_cases c8 : 0 ≤ x5_1
              · rw [if_pos c8] at H
                have c8b0 : decide (0 ≤ x5_1) = true := decide_eq_true c8
                clear c8
                obtain ⟨ji10, hji10⟩ : ∃ j_ : Int, (Int.tmod (wrap64 (bt a0 x5_1)) 8) = j_ := ⟨_, rfl⟩
                replace H : (if 0 ≤ (ji10) then (if (ji10) < (y184.length : Int) then (if (x4_1 ++ (⟨#[47]⟩ : ByteArray)).size + (rdOf ByteArray.empty y184 (ji10)).size ≤ 9223372036854775807 then (pouchref04_FixFilter.l0 k1 a0 y184 ((x4_1 ++ (⟨#[47]⟩ : ByteArray)) ++ (rdOf ByteArray.empty y184 (ji10))) (wrap64 (x5_1 + 1))) else (none)) else (none)) else (none)) = some r := by first | (rw [hji10] at H; exact H) | (simp only [hji10] at H ⊢; exact H)
                by_cases c11 : 0 ≤ (ji10)
                · rw [if_pos c11] at H
                  have c11b0 : decide (0 ≤ (ji10)) = true := decide_eq_true c11
                  clear c11
                  by_cases c12 : (ji10) < (y184.length : Int)
                  · rw [if_pos c12] at H
                    have c12b0 : decide ((ji10) < (y184.length : Int)) = true := decide_eq_true c12
                    clear c12
                    by_cases c13 : (x4_1 ++ (⟨#[47]⟩ : ByteArray)).size + (rdOf ByteArray.empty y184 (ji10)).size ≤ 9223372036854775807
                    · rw [if_pos c13] at H
                      have c13b0 := eq_true c13
                      have c13b1 : decide ((x4_1 ++ (⟨#[47]⟩ : ByteArray)).size + (rdOf ByteArray.empty y184 (ji10)).size ≤ 9223372036854775807) = true := decide_eq_true c13
                      try have c13b2 : (9223372036854775807 < (x4_1 ++ (⟨#[47]⟩ : ByteArray)).size + (rdOf ByteArray.empty y184 (ji10)).size) = False := eq_false (Nat.not_lt.2 c13)
                      try (have c13b5 := c13b2; simp only [ByteArray.size_append, show (⟨#[47]⟩ : ByteArray).size = 1 from rfl] at c13b5)
                      try (have c13b6 := c13b1; simp only [ByteArray.size_append, show (⟨#[47]⟩ : ByteArray).size = 1 from rfl] at c13b6)
                      try (have c13b9 := c13; simp only [ByteArray.size_append, show (⟨#[47]⟩ : ByteArray).size = 1 from rfl] at c13b9)
                      have H' := Aside0.mk H
                      clear H
                      have p9 : 0 ≤ (x5_1 : Int) := of_decide_eq_true (by first | (with_reducible assumption) | assumption)
                      have q9 : x5_1 < (a0.size : Int) := of_decide_eq_true (by first | (with_reducible assumption) | assumption)
                      have hx9 := bt_at a0 x5_1
                      replace p9 := eq_true p9
                      replace q9 := eq_true q9
                      obtain ⟨Ao14, co14, eo14⟩ := Kd.R_slice HO_3.out
                      subst eo14
                      have p187 : 0 ≤ ((ji10) : Int) := of_decide_eq_true (by first | (with_reducible assumption) | assumption)
                      have q187 : (ji10) < (y184.length : Int) := of_decide_eq_true (by first | (with_reducible assumption) | assumption)
                      obtain ⟨ad187, e187, hx187_0⟩ := Kd.at_string (Kd.R_reads' HO_3.out).2.2 (ji10) p187 q187
                      cases e187
                      replace p187 := eq_true p187
                      replace q187 := eq_true q187
                      go_wp2
                      go_roundg k1
                      case measure => have := HK1.out; omega
                      case rel => exact ⟨((x4_1 ++ (⟨#[47]⟩ : ByteArray)) ++ (rdOf ByteArray.empty y184 (ji10))), (wrap64 (x5_1 + 1)), (by first | rfl | (simp; done) | (simp only [← hji10] <;> (first | rfl | simp)) | (simp [*]; done)), (by first | rfl | (simp; done) | (simp [*]; done)), H', ⟨by have := HK1.out; omega⟩, ⟨by (with_reducible repeat (first | apply Kd.R_alloc | apply Kd.R_drewN | apply Kd.R_drew)); exact HO_3.out⟩, ⟨by repeat (first | (with_reducible first | exact HB.out | apply below_alloc | apply pw_below_drewN | apply below_drew1) | exact HB.out)⟩⟩
                    · rw [if_neg c13] at H
                      exact absurd H (by simp)
                  · rw [if_neg c12] at H
                    exact absurd H (by simp)
                · rw [if_neg c11] at H
                  exact absurd H (by simp)
              · rw [if_neg c8] at H
                exact absurd H (by simp)
            · rw [if_neg c7] at H
              exact absurd H (by simp)
          · rw [if_neg c6] at H
            have c6b0 : decide (x5_1 < 6) = false := decide_eq_false c6
            clear c6
            have H' := Aside0.mk H
            clear H
            go_wp2
            go_meet
            case rel => exact ⟨_, (x4_1), (by first | rfl | (simp; done) | (simp [*]; done)), H', ⟨by have := HK1.out; first | omega | exact Nat.le_refl _⟩, ⟨by repeat (first | (with_reducible first | exact HB.out | apply below_alloc | apply pw_below_drewN | apply below_drew1) | exact HB.out)⟩⟩
        · rw [if_neg c5] at H
          have c5b0 : decide (x5_1 < (a0.size : Int)) = false := decide_eq_false c5
          clear c5
          (first | rw [c5b0] | (simp only [i64_w, i32_w]; rw [c5b0]) | skip)
          have H' := Aside0.mk H
          clear H
          go_wp2
          go_meet
          case rel => exact ⟨_, (x4_1), (by first | rfl | (simp; done) | (simp [*]; done)), H', ⟨by have := HK1.out; first | omega | exact Nat.le_refl _⟩, ⟨by repeat (first | (with_reducible first | exact HB.out | apply below_alloc | apply pw_below_drewN | apply below_drew1) | exact HB.out)⟩⟩
  case rest =>
    clear HC2
    try clear c1
    try clear p1
    try clear q1
    try clear hx1
    try clear p2
    try clear c5
    try clear c5b0
    try clear c6
    try clear c6b0
    try clear p6
    try clear c7
    try clear c7b0
    try clear c7b1
    try clear c7b2
    try clear c8
    try clear c8b0
    try clear p9
    try clear q9
    try clear hx9
    try clear c11
    try clear c11b0
    try clear c12
    try clear c12b0
    try clear c13
    try clear c13b0
    try clear c13b1
    try clear c13b2
    try clear hx187_0
    try clear p187
    try clear p2
    try clear p9
    try clear q187
    try clear q9
    obtain ⟨kq, x4_1, rfl, HA, HJ1, HB⟩ := hcut
    cases kq with
    | zero => exact absurd HA.out (by simp [pouchref04_FixFilter.j1])
    | succ kj1 =>
      have H := HA.out
      clear HA
      simp only [pouchref04_FixFilter.j1] at H
      have HC15 := Aside0.mk H
      clear H
      go_upto_region 7 with (fail)
      go_cut [35] (fun v35 wc => ∃ (kq : Nat) (x35_14 : Bool), v35 = .bool x35_14 ∧ Aside0 (pouchref04_FixFilter.j2 kq a0 x4_1 x35_14 = some r) ∧ Aside0 (kq ≤ kj1) ∧ Aside0 (Below w.heap.size w wc))
      case first =>
        have H := HC15.out
        clear HC15
        by_cases c16 : (a0.size : Int) > 0
        · rw [if_pos c16] at H
          have c16b0 : decide (0 < (a0.size : Int)) = true := decide_eq_true c16
          have c16b1 : decide (0 < a0.size) = true := decide_eq_true (by omega)
          clear c16
          (first | rw [c16b0] | (simp only [i64_w, i32_w]; rw [c16b0]) | skip)
          by_cases c17 : 0 < (a0.size : Int)
          · rw [if_pos c17] at H
            have c17b0 : decide (0 < (a0.size : Int)) = true := decide_eq_true c17
            have c17b1 : decide (0 < a0.size) = true := decide_eq_true (by omega)
            clear c17
            have H' := Aside0.mk H
            clear H
            have p18 : 0 ≤ (0 : Int) := (by omega)
            have q18 : 0 < a0.size := (by have : (0 : Int) < (a0.size : Int) := of_decide_eq_true (by first | (with_reducible assumption) | assumption); omega)
            have hx18 : ∀ h : 0 < a0.size, ((a0[0]'h).toNat : Int) = bt a0 0 := bt_at a0 0
            clear p18
            have qi18 : (0 < (a0.size : Int)) = True := eq_true (of_decide_eq_true (by first | (with_reducible assumption) | assumption))
            replace q18 := eq_true q18
            go_wp2
            go_meet
            case rel => exact ⟨_, (decide ((bt a0 0) ≥ 200)), (by first | rfl | (simp; done) | (simp [*]; done)), H', ⟨by have := HJ1.out; first | omega | exact Nat.le_refl _⟩, ⟨by repeat (first | (with_reducible first | exact HB.out | apply below_alloc | apply pw_below_drewN | apply below_drew1) | exact HB.out)⟩⟩
          · rw [if_neg c17] at H
            exact absurd H (by simp)
        · rw [if_neg c16] at H
          have c16b0 : decide (0 < (a0.size : Int)) = false := decide_eq_false c16
          have c16b1 : decide (0 < a0.size) = false := decide_eq_false (by omega)
          clear c16
          (first | rw [c16b0] | (simp only [i64_w, i32_w]; rw [c16b0]) | skip)
          have H' := Aside0.mk H
          clear H
          go_wp2
          go_meet
          case rel => exact ⟨_, (false), (by first | rfl | (simp; done) | (simp [*]; done)), H', ⟨by have := HJ1.out; first | omega | exact Nat.le_refl _⟩, ⟨by repeat (first | (with_reducible first | exact HB.out | apply below_alloc | apply pw_below_drewN | apply below_drew1) | exact HB.out)⟩⟩
      case rest =>
        clear HC15
        try clear c1
        try clear p1
        try clear q1
        try clear hx1
        try clear qi1
        try clear p2
        try clear c5
        try clear c5b0
        try clear c6
        try clear c6b0
        try clear p6
        try clear c7
        try clear c7b0
        try clear c7b1
        try clear c7b2
        try clear c8
        try clear c8b0
        try clear p9
        try clear q9
        try clear hx9
        try clear c11
        try clear c11b0
        try clear c12
        try clear c12b0
        try clear c13
        try clear c13b0
        try clear c13b1
        try clear c13b2
        try clear c15
        try clear c16
        try clear c16b0
        try clear c16b1
        try clear c17
        try clear c17b0
        try clear c17b1
        try clear p18
        try clear q18
        try clear hx18
        try clear qi18
        try clear hx187_0
        try clear p1
        try clear p18
        try clear p187
        try clear p2
        try clear p6
        try clear p9
        try clear q1
        try clear q18
        try clear q187
        try clear q9
        obtain ⟨kq, x35_14, rfl, HA, HJ14, HB⟩ := hcut
        cases kq with
        | zero => exact absurd HA.out (by simp [pouchref04_FixFilter.j2])
        | succ kj14 =>
          have H := HA.out
          clear HA
          simp only [pouchref04_FixFilter.j2] at H
          have HC19 := Aside0.mk H
          clear H
          go_upto_if 35 with (fail)
          go_cut [4] (fun v4 wc => ∃ (kq : Nat) (x4_18 : ByteArray), v4 = .string x4_18 ∧ Aside0 (pouchref04_FixFilter.j3 kq a0 x4_18 = some r) ∧ Aside0 (kq ≤ kj14) ∧ Aside0 (Below w.heap.size w wc))
          case first =>
            have H := HC19.out
            clear HC19
            by_cases c20 : x35_14 = true
            · subst c20
              have H1 : (if x4_1.size + 2 ≤ 9223372036854775807 then (pouchref04_FixFilter.j3 kj14 a0 (x4_1 ++ (⟨#[47, 35]⟩ : ByteArray))) else (none)) = some r := by rw [if_pos rfl] at H; exact H
              clear H
              have H := H1
              clear H1
              by_cases c21 : x4_1.size + 2 ≤ 9223372036854775807
              · rw [if_pos c21] at H
                have c21b0 := eq_true c21
                have c21b1 : decide (x4_1.size + 2 ≤ 9223372036854775807) = true := decide_eq_true c21
                try have c21b2 : (9223372036854775807 < x4_1.size + 2) = False := eq_false (Nat.not_lt.2 c21)
                have H' := Aside0.mk H
                clear H
                go_wp2
                go_meet
                case rel => exact ⟨_, (x4_1 ++ (⟨#[47, 35]⟩ : ByteArray)), (by first | rfl | (simp; done) | (simp [*]; done)), H', ⟨by have := HJ1.out; have := HJ14.out; first | omega | exact Nat.le_refl _⟩, ⟨by repeat (first | (with_reducible first | exact HB.out | apply below_alloc | apply pw_below_drewN | apply below_drew1) | exact HB.out)⟩⟩
              · rw [if_neg c21] at H
                exact absurd H (by simp)
            · replace c20 := Bool.eq_false_iff.mpr c20
              subst c20
              have H1 : (pouchref04_FixFilter.j3 kj14 a0 x4_1) = some r := by rw [if_neg (show ¬ (false = true) by decide)] at H; exact H
              clear H
              have H := H1
              clear H1
              have H' := Aside0.mk H
              clear H
              go_wp2
              go_meet
              case rel => exact ⟨_, (x4_1), (by first | rfl | (simp; done) | (simp [*]; done)), H', ⟨by have := HJ1.out; have := HJ14.out; first | omega | exact Nat.le_refl _⟩, ⟨by repeat (first | (with_reducible first | exact HB.out | apply below_alloc | apply pw_below_drewN | apply below_drew1) | exact HB.out)⟩⟩
          case rest =>
            clear HC19
            try clear c1
            try clear p1
            try clear q1
            try clear hx1
            try clear qi1
            try clear c2
            try clear p2
            try clear c5
            try clear c5b0
            try clear c6
            try clear c6b0
            try clear p6
            try clear c7
            try clear c7b0
            try clear c7b1
            try clear c7b2
            try clear c8
            try clear c8b0
            try clear p9
            try clear q9
            try clear hx9
            try clear c11
            try clear c11b0
            try clear c12
            try clear c12b0
            try clear c13
            try clear c13b0
            try clear c13b1
            try clear c13b2
            try clear c15
            try clear c16
            try clear c16b0
            try clear c16b1
            try clear c17
            try clear c17b0
            try clear c17b1
            try clear p18
            try clear q18
            try clear hx18
            try clear qi18
            try clear c20
            try clear c21
            try clear c21b0
            try clear c21b1
            try clear c21b2
            try clear hx187_0
            try clear p1
            try clear p18
            try clear p187
            try clear p2
            try clear p6
            try clear p9
            try clear q1
            try clear q18
            try clear q187
            try clear q9
            obtain ⟨kq, x4_18, rfl, HA, HJ18, HB⟩ := hcut
            cases kq with
            | zero => exact absurd HA.out (by simp [pouchref04_FixFilter.j3])
            | succ kj18 =>
              have H := HA.out
              clear HA
              simp only [pouchref04_FixFilter.j3] at H
              have HC22 := Aside0.mk H
              clear H
              go_upto_region 9 with (fail)
              go_cut [45] (fun v45 wc => ∃ (kq : Nat) (x45_21 : Bool), v45 = .bool x45_21 ∧ Aside0 (pouchref04_FixFilter.j4 kq a0 x4_18 x45_21 = some r) ∧ Aside0 (kq ≤ kj18) ∧ Aside0 (Below w.heap.size w wc))
              case first =>
                have H := HC22.out
                clear HC22
                by_cases c23 : (a0.size : Int) > 1
                · rw [if_pos c23] at H
                  have c23b0 : decide (1 < (a0.size : Int)) = true := decide_eq_true c23
                  have c23b1 : decide (1 < a0.size) = true := decide_eq_true (by omega)
                  clear c23
                  (first | rw [c23b0] | (simp only [i64_w, i32_w]; rw [c23b0]) | skip)
                  by_cases c24 : 1 < (a0.size : Int)
                  · rw [if_pos c24] at H
                    have c24b0 : decide (1 < (a0.size : Int)) = true := decide_eq_true c24
                    have c24b1 : decide (1 < a0.size) = true := decide_eq_true (by omega)
                    clear c24
                    have H' := Aside0.mk H
                    clear H
                    have p25 : 0 ≤ (1 : Int) := (by omega)
                    have q25 : 1 < a0.size := (by have : (1 : Int) < (a0.size : Int) := of_decide_eq_true (by first | (with_reducible assumption) | assumption); omega)
                    have hx25 : ∀ h : 1 < a0.size, ((a0[1]'h).toNat : Int) = bt a0 1 := bt_at a0 1
                    clear p25
                    have qi25 : (1 < (a0.size : Int)) = True := eq_true (of_decide_eq_true (by first | (with_reducible assumption) | assumption))
                    replace q25 := eq_true q25
                    go_wp2
                    go_meet
                    case rel => exact ⟨_, (decide ((bt a0 1) ≥ 200)), (by first | rfl | (simp; done) | (simp [*]; done)), H', ⟨by have := HJ1.out; have := HJ14.out; have := HJ18.out; first | omega | exact Nat.le_refl _⟩, ⟨by repeat (first | (with_reducible first | exact HB.out | apply below_alloc | apply pw_below_drewN | apply below_drew1) | exact HB.out)⟩⟩
                  · rw [if_neg c24] at H
                    exact absurd H (by simp)
                · rw [if_neg c23] at H
                  have c23b0 : decide (1 < (a0.size : Int)) = false := decide_eq_false c23
                  have c23b1 : decide (1 < a0.size) = false := decide_eq_false (by omega)
                  clear c23
                  (first | rw [c23b0] | (simp only [i64_w, i32_w]; rw [c23b0]) | skip)
                  have H' := Aside0.mk H
                  clear H
                  go_wp2
                  go_meet
                  case rel => exact ⟨_, (false), (by first | rfl | (simp; done) | (simp [*]; done)), H', ⟨by have := HJ1.out; have := HJ14.out; have := HJ18.out; first | omega | exact Nat.le_refl _⟩, ⟨by repeat (first | (with_reducible first | exact HB.out | apply below_alloc | apply pw_below_drewN | apply below_drew1) | exact HB.out)⟩⟩
              case rest =>
                clear HC22
                try clear c1
                try clear p1
                try clear q1
                try clear hx1
                try clear qi1
                try clear c2
                try clear p2
                try clear q2
                try clear hx2
                try clear qi2
                try clear c5
                try clear c5b0
                try clear c6
                try clear c6b0
                try clear p6
                try clear c7
                try clear c7b0
                try clear c7b1
                try clear c7b2
                try clear c8
                try clear c8b0
                try clear p9
                try clear q9
                try clear hx9
                try clear c11
                try clear c11b0
                try clear c12
                try clear c12b0
                try clear c13
                try clear c13b0
                try clear c13b1
                try clear c13b2
                try clear c15
                try clear c16
                try clear c16b0
                try clear c16b1
                try clear c17
                try clear c17b0
                try clear c17b1
                try clear p18
                try clear q18
                try clear hx18
                try clear qi18
                try clear c20
                try clear c21
                try clear c21b0
                try clear c21b1
                try clear c21b2
                try clear c23
                try clear c23b0
                try clear c23b1
                try clear c24
                try clear c24b0
                try clear c24b1
                try clear p25
                try clear q25
                try clear hx25
                try clear qi25
                try clear hx187_0
                try clear p1
                try clear p18
                try clear p187
                try clear p2
                try clear p25
                try clear p6
                try clear p9
                try clear q1
                try clear q18
                try clear q187
                try clear q25
                try clear q9
                obtain ⟨kq, x45_21, rfl, HA, HJ21, HB⟩ := hcut
                cases kq with
                | zero => exact absurd HA.out (by simp [pouchref04_FixFilter.j4])
                | succ kj21 =>
                  have H := HA.out
                  clear HA
                  simp only [pouchref04_FixFilter.j4] at H
                  by_cases c26 : x45_21 = true
                  · subst c26
                    have H1 : (if 9 + x4_18.size ≤ 9223372036854775807 then (if (a0.size : Int) > 2 then (if 2 < (a0.size : Int) then (if (bt a0 2) ≥ 220 then (some (⟨#[35]⟩ : ByteArray)) else (some ((⟨#[36, 115, 104, 97, 114, 101, 47, 103, 47]⟩ : ByteArray) ++ x4_18))) else (none)) else (some ((⟨#[36, 115, 104, 97, 114, 101, 47, 103, 47]⟩ : ByteArray) ++ x4_18))) else (none)) = some r := by rw [if_pos rfl] at H; exact H
                    clear H
                    have H := H1
                    clear H1
                    by_cases c27 : 9 + x4_18.size ≤ 9223372036854775807
                    · rw [if_pos c27] at H
                      have c27b0 := eq_true c27
                      have c27b1 : decide (9 + x4_18.size ≤ 9223372036854775807) = true := decide_eq_true c27
                      try have c27b2 : (9223372036854775807 < 9 + x4_18.size) = False := eq_false (Nat.not_lt.2 c27)
                      by_cases c28 : (a0.size : Int) > 2
                      · rw [if_pos c28] at H
                        have c28b0 : decide (2 < (a0.size : Int)) = true := decide_eq_true c28
                        have c28b1 : decide (2 < a0.size) = true := decide_eq_true (by omega)
                        clear c28
                        by_cases c29 : 2 < (a0.size : Int)
                        · rw [if_pos c29] at H
                          have c29b0 : decide (2 < (a0.size : Int)) = true := decide_eq_true c29
                          have c29b1 : decide (2 < a0.size) = true := decide_eq_true (by omega)
                          clear c29
                          by_cases c31 : (bt a0 2) ≥ 220
                          · rw [if_pos c31] at H
                            have c31b0 : decide (220 ≤ (bt a0 2)) = true := decide_eq_true c31
                            clear c31
                            obtain rfl := Option.some.inj H
                            have p30 : 0 ≤ (2 : Int) := (by omega)
                            have q30 : 2 < a0.size := (by have : (2 : Int) < (a0.size : Int) := of_decide_eq_true (by first | (with_reducible assumption) | assumption); omega)
                            have hx30 : ∀ h : 2 < a0.size, ((a0[2]'h).toNat : Int) = bt a0 2 := bt_at a0 2
                            clear p30
                            have qi30 : (2 < (a0.size : Int)) = True := eq_true (of_decide_eq_true (by first | (with_reducible assumption) | assumption))
                            replace q30 := eq_true q30
                            go_wp2
                            go_ret
                            exact ⟨by first | rfl | (simp [errW_none, errW_some] <;> rfl) | (simp [*, errW_none, errW_some] <;> rfl), by repeat (first | (with_reducible first | exact HB.out | apply below_alloc | apply pw_below_drewN | apply below_drew1) | exact HB.out)⟩
                          · rw [if_neg c31] at H
                            have c31b0 : decide (220 ≤ (bt a0 2)) = false := decide_eq_false c31
                            clear c31
                            obtain rfl := Option.some.inj H
                            have p30 : 0 ≤ (2 : Int) := (by omega)
                            have q30 : 2 < a0.size := (by have : (2 : Int) < (a0.size : Int) := of_decide_eq_true (by first | (with_reducible assumption) | assumption); omega)
                            have hx30 : ∀ h : 2 < a0.size, ((a0[2]'h).toNat : Int) = bt a0 2 := bt_at a0 2
                            clear p30
                            have qi30 : (2 < (a0.size : Int)) = True := eq_true (of_decide_eq_true (by first | (with_reducible assumption) | assumption))
                            replace q30 := eq_true q30
                            go_wp2
                            go_ret
                            exact ⟨by first | rfl | (simp [errW_none, errW_some] <;> rfl) | (simp [*, errW_none, errW_some] <;> rfl), by repeat (first | (with_reducible first | exact HB.out | apply below_alloc | apply pw_below_drewN | apply below_drew1) | exact HB.out)⟩
                        · rw [if_neg c29] at H
                          exact absurd H (by simp)
                      · rw [if_neg c28] at H
                        have c28b0 : decide (2 < (a0.size : Int)) = false := decide_eq_false c28
                        have c28b1 : decide (2 < a0.size) = false := decide_eq_false (by omega)
                        clear c28
                        obtain rfl := Option.some.inj H
                        go_wp2
                        go_ret
                        exact ⟨by first | rfl | (simp [errW_none, errW_some] <;> rfl) | (simp [*, errW_none, errW_some] <;> rfl), by repeat (first | (with_reducible first | exact HB.out | apply below_alloc | apply pw_below_drewN | apply below_drew1) | exact HB.out)⟩
                    · rw [if_neg c27] at H
                      exact absurd H (by simp)
                  · replace c26 := Bool.eq_false_iff.mpr c26
                    subst c26
                    have H1 : (if (a0.size : Int) > 2 then (if 2 < (a0.size : Int) then (if (bt a0 2) ≥ 220 then (some (⟨#[35]⟩ : ByteArray)) else (some x4_18)) else (none)) else (some x4_18)) = some r := by rw [if_neg (show ¬ (false = true) by decide)] at H; exact H
                    clear H
                    have H := H1
                    clear H1
                    by_cases c32 : (a0.size : Int) > 2
                    · rw [if_pos c32] at H
                      have c32b0 : decide (2 < (a0.size : Int)) = true := decide_eq_true c32
                      have c32b1 : decide (2 < a0.size) = true := decide_eq_true (by omega)
                      clear c32
                      by_cases c33 : 2 < (a0.size : Int)
                      · rw [if_pos c33] at H
                        have c33b0 : decide (2 < (a0.size : Int)) = true := decide_eq_true c33
                        have c33b1 : decide (2 < a0.size) = true := decide_eq_true (by omega)
                        clear c33
                        by_cases c35 : (bt a0 2) ≥ 220
                        · rw [if_pos c35] at H
                          have c35b0 : decide (220 ≤ (bt a0 2)) = true := decide_eq_true c35
                          clear c35
                          obtain rfl := Option.some.inj H
                          have p34 : 0 ≤ (2 : Int) := (by omega)
                          have q34 : 2 < a0.size := (by have : (2 : Int) < (a0.size : Int) := of_decide_eq_true (by first | (with_reducible assumption) | assumption); omega)
                          have hx34 : ∀ h : 2 < a0.size, ((a0[2]'h).toNat : Int) = bt a0 2 := bt_at a0 2
                          clear p34
                          have qi34 : (2 < (a0.size : Int)) = True := eq_true (of_decide_eq_true (by first | (with_reducible assumption) | assumption))
                          replace q34 := eq_true q34
                          go_wp2
                          go_ret
                          exact ⟨by first | rfl | (simp [errW_none, errW_some] <;> rfl) | (simp [*, errW_none, errW_some] <;> rfl), by repeat (first | (with_reducible first | exact HB.out | apply below_alloc | apply pw_below_drewN | apply below_drew1) | exact HB.out)⟩
                        · rw [if_neg c35] at H
                          have c35b0 : decide (220 ≤ (bt a0 2)) = false := decide_eq_false c35
                          clear c35
                          obtain rfl := Option.some.inj H
                          have p34 : 0 ≤ (2 : Int) := (by omega)
                          have q34 : 2 < a0.size := (by have : (2 : Int) < (a0.size : Int) := of_decide_eq_true (by first | (with_reducible assumption) | assumption); omega)
                          have hx34 : ∀ h : 2 < a0.size, ((a0[2]'h).toNat : Int) = bt a0 2 := bt_at a0 2
                          clear p34
                          have qi34 : (2 < (a0.size : Int)) = True := eq_true (of_decide_eq_true (by first | (with_reducible assumption) | assumption))
                          replace q34 := eq_true q34
                          go_wp2
                          go_ret
                          exact ⟨by first | rfl | (simp [errW_none, errW_some] <;> rfl) | (simp [*, errW_none, errW_some] <;> rfl), by repeat (first | (with_reducible first | exact HB.out | apply below_alloc | apply pw_below_drewN | apply below_drew1) | exact HB.out)⟩
                      · rw [if_neg c33] at H
                        exact absurd H (by simp)
                    · rw [if_neg c32] at H
                      have c32b0 : decide (2 < (a0.size : Int)) = false := decide_eq_false c32
                      have c32b1 : decide (2 < a0.size) = false := decide_eq_false (by omega)
                      clear c32
                      obtain rfl := Option.some.inj H
                      go_wp2
                      go_ret
                      exact ⟨by first | rfl | (simp [errW_none, errW_some] <;> rfl) | (simp [*, errW_none, errW_some] <;> rfl), by repeat (first | (with_reducible first | exact HB.out | apply below_alloc | apply pw_below_drewN | apply below_drew1) | exact HB.out)⟩

end Go.Proofs.YtbaipppmefencaaDoor.P

namespace Go.Proofs.YtbaipppmefencaaDoor.P
open Go.RowKit Go.Proofs.YtbaipppmefencaaDoorW.PrintWords Go.Proofs.YtbaipppmefencaaDoorW.PrintLast Go.Proofs.YtbaipppmefencaaDoorW.PrintMore
attribute [local go_sem] max2_int min2_int max_two min_two max_three min_three max_four min_four
set_option linter.unusedVariables false
set_option linter.unusedSimpArgs false

/-! ### pouchlaw04_TopicDeeper: function 4 -/
def pouchlaw04_TopicDeeper.f (k : Nat) (a0 : ByteArray) (a1 : ByteArray) : Option (Bool) := if 0 ≤ (mn (a0.size : Int) 6) then (if (mn (a0.size : Int) 6) ≤ (a0.size : Int) then ((pouchref04_FixFilter.f k (a0.extract 0 ((mn (a0.size : Int) 6) : Int).toNat)).bind fun t188 => ((pouchref04_Fix.f k a1).bind fun t189 => (if 2 + t189.size ≤ 9223372036854775807 then (if 0 ≤ (wrap64 ((t188.size : Int) - 1)) then (if (wrap64 ((t188.size : Int) - 1)) < (t188.size : Int) then (if (bt t188 (wrap64 ((t188.size : Int) - 1))) = 35 then ((pouchlaw04_told.f k).bind fun t190 => (some t190)) else ((topic_Match.f k t188 ((⟨#[116, 47]⟩ : ByteArray) ++ t189)).bind fun t191 => ((pouchlaw04_told.f k).bind fun t192 => (if t192 = true then (if t188.size + 2 ≤ 9223372036854775807 then (if ((⟨#[116, 47]⟩ : ByteArray) ++ t189).size + 2 ≤ 9223372036854775807 then ((topic_Match.f k (t188 ++ (⟨#[47, 120]⟩ : ByteArray)) (((⟨#[116, 47]⟩ : ByteArray) ++ t189) ++ (⟨#[47, 120]⟩ : ByteArray))).bind fun t193 => (if (t193 == t191) = true then ((topic_Match.f k (t188 ++ (⟨#[47, 120]⟩ : ByteArray)) (((⟨#[116, 47]⟩ : ByteArray) ++ t189) ++ (⟨#[47, 121]⟩ : ByteArray))).bind fun t194 => (if t194 = true then (some false) else ((topic_Match.f k (t188 ++ (⟨#[47, 43]⟩ : ByteArray)) (((⟨#[116, 47]⟩ : ByteArray) ++ t189) ++ (⟨#[47, 121]⟩ : ByteArray))).bind fun t195 => (if (t195 == t191) = true then (if t191 = true then (if ((⟨#[116, 47]⟩ : ByteArray) ++ t189).size + 4 ≤ 9223372036854775807 then ((topic_Match.f k (t188 ++ (⟨#[47, 35]⟩ : ByteArray)) (((⟨#[116, 47]⟩ : ByteArray) ++ t189) ++ (⟨#[47, 121, 47, 122]⟩ : ByteArray))).bind fun t196 => (some t196)) else (none)) else (some true)) else (some false))))) else (some false))) else (none)) else (none)) else (some false))))) else (none)) else (none)) else (none)))) else (none)) else (none)
theorem pouchlaw04_TopicDeeper.mono : ∀ a0 a1 k, LeO (pouchlaw04_TopicDeeper.f k a0 a1) (pouchlaw04_TopicDeeper.f (k + 1) a0 a1) := by
  intro a0 a1 k
  unfold pouchlaw04_TopicDeeper.f
  repeat' first
      | (with_reducible exact pouchlaw04_told.mono _)
      | (with_reducible exact pouchref04_Fix.mono _ _)
      | (with_reducible exact pouchref04_FixFilter.mono _ _)
      | (with_reducible exact topic_Match.mono _ _ _)
      | (with_reducible exact LeO.refl _)
      | (with_reducible exact LeO.none _)
      | (with_reducible refine LeO.ite ?_ ?_)
      | (with_reducible refine LeO.bind ?_ (fun _ => ?_))
      | exact pouchlaw04_told.mono _
      | exact pouchref04_Fix.mono _ _
      | exact pouchref04_FixFilter.mono _ _
      | exact topic_Match.mono _ _ _
      | exact LeO.none _
      | refine LeO.ite ?_ ?_
      | refine LeO.bind ?_ (fun _ => ?_)
set_option maxHeartbeats 8000000 in
set_option maxRecDepth 100000 in
theorem pouchlaw04_TopicDeeper.calls (k : Nat) (a0 : ByteArray) (a1 : ByteArray) (r : Bool) (w : World) (hG : GW w) (h : pouchlaw04_TopicDeeper.f k a0 a1 = some r) :
    Calls Tryd.prog 4 #[.string a0, .string a1] w fun e w' => e = .returned (.bool r) ∧ Below w.heap.size w w' := by
  have HB := Aside0.mk (Below.refl w.heap.size w)
  have HG := Aside0.mk hG
  clear hG
  have H : (if 0 ≤ (mn (a0.size : Int) 6) then (if (mn (a0.size : Int) 6) ≤ (a0.size : Int) then ((pouchref04_FixFilter.f k (a0.extract 0 ((mn (a0.size : Int) 6) : Int).toNat)).bind fun t188 => ((pouchref04_Fix.f k a1).bind fun t189 => (if 2 + t189.size ≤ 9223372036854775807 then (if 0 ≤ (wrap64 ((t188.size : Int) - 1)) then (if (wrap64 ((t188.size : Int) - 1)) < (t188.size : Int) then (if (bt t188 (wrap64 ((t188.size : Int) - 1))) = 35 then ((pouchlaw04_told.f k).bind fun t190 => (some t190)) else ((topic_Match.f k t188 ((⟨#[116, 47]⟩ : ByteArray) ++ t189)).bind fun t191 => ((pouchlaw04_told.f k).bind fun t192 => (if t192 = true then (if t188.size + 2 ≤ 9223372036854775807 then (if ((⟨#[116, 47]⟩ : ByteArray) ++ t189).size + 2 ≤ 9223372036854775807 then ((topic_Match.f k (t188 ++ (⟨#[47, 120]⟩ : ByteArray)) (((⟨#[116, 47]⟩ : ByteArray) ++ t189) ++ (⟨#[47, 120]⟩ : ByteArray))).bind fun t193 => (if (t193 == t191) = true then ((topic_Match.f k (t188 ++ (⟨#[47, 120]⟩ : ByteArray)) (((⟨#[116, 47]⟩ : ByteArray) ++ t189) ++ (⟨#[47, 121]⟩ : ByteArray))).bind fun t194 => (if t194 = true then (some false) else ((topic_Match.f k (t188 ++ (⟨#[47, 43]⟩ : ByteArray)) (((⟨#[116, 47]⟩ : ByteArray) ++ t189) ++ (⟨#[47, 121]⟩ : ByteArray))).bind fun t195 => (if (t195 == t191) = true then (if t191 = true then (if ((⟨#[116, 47]⟩ : ByteArray) ++ t189).size + 4 ≤ 9223372036854775807 then ((topic_Match.f k (t188 ++ (⟨#[47, 35]⟩ : ByteArray)) (((⟨#[116, 47]⟩ : ByteArray) ++ t189) ++ (⟨#[47, 121, 47, 122]⟩ : ByteArray))).bind fun t196 => (some t196)) else (none)) else (some true)) else (some false))))) else (some false))) else (none)) else (none)) else (some false))))) else (none)) else (none)) else (none)))) else (none)) else (none)) = some r := h
  clear h
  obtain ⟨ji3, hji3⟩ : ∃ j_ : Int, (mn (a0.size : Int) 6) = j_ := ⟨_, rfl⟩
  replace H : (if 0 ≤ (ji3) then (if (ji3) ≤ (a0.size : Int) then ((pouchref04_FixFilter.f k (a0.extract 0 ((ji3) : Int).toNat)).bind fun t188 => ((pouchref04_Fix.f k a1).bind fun t189 => (if 2 + t189.size ≤ 9223372036854775807 then (if 0 ≤ (wrap64 ((t188.size : Int) - 1)) then (if (wrap64 ((t188.size : Int) - 1)) < (t188.size : Int) then (if (bt t188 (wrap64 ((t188.size : Int) - 1))) = 35 then ((pouchlaw04_told.f k).bind fun t190 => (some t190)) else ((topic_Match.f k t188 ((⟨#[116, 47]⟩ : ByteArray) ++ t189)).bind fun t191 => ((pouchlaw04_told.f k).bind fun t192 => (if t192 = true then (if t188.size + 2 ≤ 9223372036854775807 then (if ((⟨#[116, 47]⟩ : ByteArray) ++ t189).size + 2 ≤ 9223372036854775807 then ((topic_Match.f k (t188 ++ (⟨#[47, 120]⟩ : ByteArray)) (((⟨#[116, 47]⟩ : ByteArray) ++ t189) ++ (⟨#[47, 120]⟩ : ByteArray))).bind fun t193 => (if (t193 == t191) = true then ((topic_Match.f k (t188 ++ (⟨#[47, 120]⟩ : ByteArray)) (((⟨#[116, 47]⟩ : ByteArray) ++ t189) ++ (⟨#[47, 121]⟩ : ByteArray))).bind fun t194 => (if t194 = true then (some false) else ((topic_Match.f k (t188 ++ (⟨#[47, 43]⟩ : ByteArray)) (((⟨#[116, 47]⟩ : ByteArray) ++ t189) ++ (⟨#[47, 121]⟩ : ByteArray))).bind fun t195 => (if (t195 == t191) = true then (if t191 = true then (if ((⟨#[116, 47]⟩ : ByteArray) ++ t189).size + 4 ≤ 9223372036854775807 then ((topic_Match.f k (t188 ++ (⟨#[47, 35]⟩ : ByteArray)) (((⟨#[116, 47]⟩ : ByteArray) ++ t189) ++ (⟨#[47, 121, 47, 122]⟩ : ByteArray))).bind fun t196 => (some t196)) else (none)) else (some true)) else (some false))))) else (some false))) else (none)) else (none)) else (some false))))) else (none)) else (none)) else (none)))) else (none)) else (none)) = some r := by first | (rw [hji3] at H; exact H) | (simp only [hji3] at H ⊢; exact H)
  (try (have hji3h : ji3 ≤ 6 := by (rw [← hji3]; unfold mn; (repeat' split) <;> omega)))
  (try (have hji3g : ji3 ≤ 64 := by omega))
  (try (have hji3l : 0 ≤ ji3 := by (rw [← hji3]; unfold mn; (repeat' split) <;> omega)))
  (try (have hji3m : 0 ≤ ji3 := by omega))
  have hji3_ : (if 6 < (a0.size : Int) then 6 else (a0.size : Int)) = ji3 := hji3
  by_cases c4 : 0 ≤ (ji3)
  · rw [if_pos c4] at H
    have c4b0 := eq_true c4
    have c4b1 : decide (0 ≤ (ji3)) = true := decide_eq_true c4
    clear c4
    by_cases c5 : (ji3) ≤ (a0.size : Int)
    · rw [if_pos c5] at H
      have c5b0 := eq_true c5
      have c5b1 : decide ((ji3) ≤ (a0.size : Int)) = true := decide_eq_true c5
      clear c5
      replace H := Option.bind_eq_some_iff.mp H
      obtain ⟨t188, A60, H⟩ := H
      replace H : ((pouchref04_Fix.f k a1).bind fun t189 => (if 2 + t189.size ≤ 9223372036854775807 then (if 0 ≤ (wrap64 ((t188.size : Int) - 1)) then (if (wrap64 ((t188.size : Int) - 1)) < (t188.size : Int) then (if (bt t188 (wrap64 ((t188.size : Int) - 1))) = 35 then ((pouchlaw04_told.f k).bind fun t190 => (some t190)) else ((topic_Match.f k t188 ((⟨#[116, 47]⟩ : ByteArray) ++ t189)).bind fun t191 => ((pouchlaw04_told.f k).bind fun t192 => (if t192 = true then (if t188.size + 2 ≤ 9223372036854775807 then (if ((⟨#[116, 47]⟩ : ByteArray) ++ t189).size + 2 ≤ 9223372036854775807 then ((topic_Match.f k (t188 ++ (⟨#[47, 120]⟩ : ByteArray)) (((⟨#[116, 47]⟩ : ByteArray) ++ t189) ++ (⟨#[47, 120]⟩ : ByteArray))).bind fun t193 => (if (t193 == t191) = true then ((topic_Match.f k (t188 ++ (⟨#[47, 120]⟩ : ByteArray)) (((⟨#[116, 47]⟩ : ByteArray) ++ t189) ++ (⟨#[47, 121]⟩ : ByteArray))).bind fun t194 => (if t194 = true then (some false) else ((topic_Match.f k (t188 ++ (⟨#[47, 43]⟩ : ByteArray)) (((⟨#[116, 47]⟩ : ByteArray) ++ t189) ++ (⟨#[47, 121]⟩ : ByteArray))).bind fun t195 => (if (t195 == t191) = true then (if t191 = true then (if ((⟨#[116, 47]⟩ : ByteArray) ++ t189).size + 4 ≤ 9223372036854775807 then ((topic_Match.f k (t188 ++ (⟨#[47, 35]⟩ : ByteArray)) (((⟨#[116, 47]⟩ : ByteArray) ++ t189) ++ (⟨#[47, 121, 47, 122]⟩ : ByteArray))).bind fun t196 => (some t196)) else (none)) else (some true)) else (some false))))) else (some false))) else (none)) else (none)) else (some false))))) else (none)) else (none)) else (none))) = some r := H
      have A6 := Aside0.mk A60
      clear A60
      replace H := Option.bind_eq_some_iff.mp H
      obtain ⟨t189, A70, H⟩ := H
      replace H : (if 2 + t189.size ≤ 9223372036854775807 then (if 0 ≤ (wrap64 ((t188.size : Int) - 1)) then (if (wrap64 ((t188.size : Int) - 1)) < (t188.size : Int) then (if (bt t188 (wrap64 ((t188.size : Int) - 1))) = 35 then ((pouchlaw04_told.f k).bind fun t190 => (some t190)) else ((topic_Match.f k t188 ((⟨#[116, 47]⟩ : ByteArray) ++ t189)).bind fun t191 => ((pouchlaw04_told.f k).bind fun t192 => (if t192 = true then (if t188.size + 2 ≤ 9223372036854775807 then (if ((⟨#[116, 47]⟩ : ByteArray) ++ t189).size + 2 ≤ 9223372036854775807 then ((topic_Match.f k (t188 ++ (⟨#[47, 120]⟩ : ByteArray)) (((⟨#[116, 47]⟩ : ByteArray) ++ t189) ++ (⟨#[47, 120]⟩ : ByteArray))).bind fun t193 => (if (t193 == t191) = true then ((topic_Match.f k (t188 ++ (⟨#[47, 120]⟩ : ByteArray)) (((⟨#[116, 47]⟩ : ByteArray) ++ t189) ++ (⟨#[47, 121]⟩ : ByteArray))).bind fun t194 => (if t194 = true then (some false) else ((topic_Match.f k (t188 ++ (⟨#[47, 43]⟩ : ByteArray)) (((⟨#[116, 47]⟩ : ByteArray) ++ t189) ++ (⟨#[47, 121]⟩ : ByteArray))).bind fun t195 => (if (t195 == t191) = true then (if t191 = true then (if ((⟨#[116, 47]⟩ : ByteArray) ++ t189).size + 4 ≤ 9223372036854775807 then ((topic_Match.f k (t188 ++ (⟨#[47, 35]⟩ : ByteArray)) (((⟨#[116, 47]⟩ : ByteArray) ++ t189) ++ (⟨#[47, 121, 47, 122]⟩ : ByteArray))).bind fun t196 => (some t196)) else (none)) else (some true)) else (some false))))) else (some false))) else (none)) else (none)) else (some false))))) else (none)) else (none)) else (none)) = some r := H
      have A7 := Aside0.mk A70
      clear A70
      by_cases c8 : 2 + t189.size ≤ 9223372036854775807
      · rw [if_pos c8] at H
        have c8b0 := eq_true c8
        have c8b1 : decide (2 + t189.size ≤ 9223372036854775807) = true := decide_eq_true c8
        try have c8b2 : (9223372036854775807 < 2 + t189.size) = False := eq_false (Nat.not_lt.2 c8)
        obtain ⟨ji9, hji9⟩ : ∃ j_ : Int, (wrap64 ((t188.size : Int) - 1)) = j_ := ⟨_, rfl⟩
        replace H : (if 0 ≤ (ji9) then (if (ji9) < (t188.size : Int) then (if (bt t188 (ji9)) = 35 then ((pouchlaw04_told.f k).bind fun t190 => (some t190)) else ((topic_Match.f k t188 ((⟨#[116, 47]⟩ : ByteArray) ++ t189)).bind fun t191 => ((pouchlaw04_told.f k).bind fun t192 => (if t192 = true then (if t188.size + 2 ≤ 9223372036854775807 then (if ((⟨#[116, 47]⟩ : ByteArray) ++ t189).size + 2 ≤ 9223372036854775807 then ((topic_Match.f k (t188 ++ (⟨#[47, 120]⟩ : ByteArray)) (((⟨#[116, 47]⟩ : ByteArray) ++ t189) ++ (⟨#[47, 120]⟩ : ByteArray))).bind fun t193 => (if (t193 == t191) = true then ((topic_Match.f k (t188 ++ (⟨#[47, 120]⟩ : ByteArray)) (((⟨#[116, 47]⟩ : ByteArray) ++ t189) ++ (⟨#[47, 121]⟩ : ByteArray))).bind fun t194 => (if t194 = true then (some false) else ((topic_Match.f k (t188 ++ (⟨#[47, 43]⟩ : ByteArray)) (((⟨#[116, 47]⟩ : ByteArray) ++ t189) ++ (⟨#[47, 121]⟩ : ByteArray))).bind fun t195 => (if (t195 == t191) = true then (if t191 = true then (if ((⟨#[116, 47]⟩ : ByteArray) ++ t189).size + 4 ≤ 9223372036854775807 then ((topic_Match.f k (t188 ++ (⟨#[47, 35]⟩ : ByteArray)) (((⟨#[116, 47]⟩ : ByteArray) ++ t189) ++ (⟨#[47, 121, 47, 122]⟩ : ByteArray))).bind fun t196 => (some t196)) else (none)) else (some true)) else (some false))))) else (some false))) else (none)) else (none)) else (some false))))) else (none)) else (none)) = some r := by first | (rw [hji9] at H; exact H) | (simp only [hji9] at H ⊢; exact H)
        (try rw [hji9] at A6)
        (try rw [hji9] at A7)
        have hji9w : (IntKind.i64.wrap ((t188.size : Int) - 1)) = ji9 := (i64_w _).trans hji9
        by_cases c10 : 0 ≤ (ji9)
        · rw [if_pos c10] at H
          have c10b0 : decide (0 ≤ (ji9)) = true := decide_eq_true c10
          clear c10
          by_cases c11 : (ji9) < (t188.size : Int)
          · rw [if_pos c11] at H
            have c11b0 : decide ((ji9) < (t188.size : Int)) = true := decide_eq_true c11
            clear c11
            by_cases c13 : (bt t188 (ji9)) = 35
            · rw [if_pos c13] at H
              have c13b0 : ((bt t188 (ji9)) == 35) = true := beq_iff_eq.mpr c13
              have c13b1 : ((bt t188 (ji9)) != 35) = false := bne_eq_false_iff_eq.mpr c13
              clear c13
              replace H := Option.bind_eq_some_iff.mp H
              obtain ⟨t190, A140, H⟩ := H
              replace H : (some t190) = some r := H
              have A14 := Aside0.mk A140
              clear A140
              obtain rfl := Option.some.inj H
              go_enter Tryd.func4, Tryd.ntmps4
              go_wp2_with (first | ((with_reducible refine gate_callee (f := 15) rfl ?_); refine goesL_ (some 13) rfl rfl Tryd.func15 (by kernel_rfl) rfl #[.string (a0.extract 0 ((ji3) : Int).toNat)] rfl (by (try simp only [List.map_toArray, List.map_cons, List.map_nil]); first | done | (simp only [hji3]; rfl) | rfl | (simp only [List.length_drop, List.length_take]; rfl)) ?_; (with_reducible refine (pouchref04_FixFilter.calls k (a0.extract 0 ((ji3) : Int).toNat) t188 _ A6.out).mono ?_); rintro e w15 ⟨rfl, hb⟩; refine ⟨_, rfl, ?_⟩; have n0_ := Aside0.mk (below_step (by repeat (first | (with_reducible first | exact HB.out | apply below_alloc | apply pw_below_drewN | apply below_drew1) | exact HB.out)) hb); clear HB; have HB := n0_; clear n0_; (try clear hb); (try clear hb2); (try clear hk); (try clear hi)) | ((with_reducible refine gate_callee (f := 11) rfl ?_); refine goesL_ (some 15) rfl rfl Tryd.func11 (by kernel_rfl) rfl #[.string a1] rfl (by (try simp only [List.map_toArray, List.map_cons, List.map_nil]); first | done | rfl | (simp only [List.length_drop, List.length_take]; rfl)) ?_; (with_reducible refine (pouchref04_Fix.calls k a1 t189 _ A7.out).mono ?_); rintro e w16 ⟨rfl, hb⟩; refine ⟨_, rfl, ?_⟩; have n0_ := Aside0.mk (below_step (by repeat (first | (with_reducible first | exact HB.out | apply below_alloc | apply pw_below_drewN | apply below_drew1) | exact HB.out)) hb); clear HB; have HB := n0_; clear n0_; (try clear hb); (try clear hb2); (try clear hk); (try clear hi); have p12 : 0 ≤ ((ji9) : Int) := of_decide_eq_true (by first | (with_reducible assumption) | assumption); have q12 : (ji9) < (t188.size : Int) := of_decide_eq_true (by first | (with_reducible assumption) | assumption); have hx12 := bt_at t188 (ji9); replace p12 := eq_true p12; replace q12 := eq_true q12) | ((with_reducible refine gate_callee (f := 13) rfl ?_); refine goesL_ (some 23) rfl rfl Tryd.func13 (by kernel_rfl) rfl #[] rfl (by (try simp only [List.map_toArray, List.map_cons, List.map_nil]); first | done | rfl | (simp only [List.length_drop, List.length_take]; rfl)) ?_; (with_reducible refine (pouchlaw04_told.calls k  t190 _ ?side1 A14.out).mono ?_); (case side1 => exact GW.below HG.out (by repeat (first | (with_reducible first | exact HB.out | apply below_alloc | apply pw_below_drewN | apply below_drew1) | exact HB.out))); rintro e w17 ⟨rfl, hb⟩; refine ⟨_, rfl, ?_⟩; have n0_ := Aside0.mk (below_step (by repeat (first | (with_reducible first | exact HB.out | apply below_alloc | apply pw_below_drewN | apply below_drew1) | exact HB.out)) hb); clear HB; have HB := n0_; clear n0_; (try clear hb); (try clear hb2); (try clear hk); (try clear hi)))
              go_ret
              exact ⟨by first | rfl | (simp [errW_none, errW_some] <;> rfl) | (simp only [← hji3, ← hji9]; first | rfl | (simp [errW_none, errW_some] <;> rfl)) | (simp [*, errW_none, errW_some] <;> rfl), by repeat (first | (with_reducible first | exact HB.out | apply below_alloc | apply pw_below_drewN | apply below_drew1) | exact HB.out)⟩
            · rw [if_neg c13] at H
              have c13b0 : ((bt t188 (ji9)) == 35) = false := beq_eq_false_iff_ne.mpr c13
              have c13b1 : ((bt t188 (ji9)) != 35) = true := bne_iff_ne.mpr c13
              replace H := Option.bind_eq_some_iff.mp H
              obtain ⟨t191, A180, H⟩ := H
              replace H : ((pouchlaw04_told.f k).bind fun t192 => (if t192 = true then (if t188.size + 2 ≤ 9223372036854775807 then (if ((⟨#[116, 47]⟩ : ByteArray) ++ t189).size + 2 ≤ 9223372036854775807 then ((topic_Match.f k (t188 ++ (⟨#[47, 120]⟩ : ByteArray)) (((⟨#[116, 47]⟩ : ByteArray) ++ t189) ++ (⟨#[47, 120]⟩ : ByteArray))).bind fun t193 => (if (t193 == t191) = true then ((topic_Match.f k (t188 ++ (⟨#[47, 120]⟩ : ByteArray)) (((⟨#[116, 47]⟩ : ByteArray) ++ t189) ++ (⟨#[47, 121]⟩ : ByteArray))).bind fun t194 => (if t194 = true then (some false) else ((topic_Match.f k (t188 ++ (⟨#[47, 43]⟩ : ByteArray)) (((⟨#[116, 47]⟩ : ByteArray) ++ t189) ++ (⟨#[47, 121]⟩ : ByteArray))).bind fun t195 => (if (t195 == t191) = true then (if t191 = true then (if ((⟨#[116, 47]⟩ : ByteArray) ++ t189).size + 4 ≤ 9223372036854775807 then ((topic_Match.f k (t188 ++ (⟨#[47, 35]⟩ : ByteArray)) (((⟨#[116, 47]⟩ : ByteArray) ++ t189) ++ (⟨#[47, 121, 47, 122]⟩ : ByteArray))).bind fun t196 => (some t196)) else (none)) else (some true)) else (some false))))) else (some false))) else (none)) else (none)) else (some false))) = some r := H
              have A18 := Aside0.mk A180
              clear A180
              replace H := Option.bind_eq_some_iff.mp H
              obtain ⟨t192, A190, H⟩ := H
              replace H : (if t192 = true then (if t188.size + 2 ≤ 9223372036854775807 then (if ((⟨#[116, 47]⟩ : ByteArray) ++ t189).size + 2 ≤ 9223372036854775807 then ((topic_Match.f k (t188 ++ (⟨#[47, 120]⟩ : ByteArray)) (((⟨#[116, 47]⟩ : ByteArray) ++ t189) ++ (⟨#[47, 120]⟩ : ByteArray))).bind fun t193 => (if (t193 == t191) = true then ((topic_Match.f k (t188 ++ (⟨#[47, 120]⟩ : ByteArray)) (((⟨#[116, 47]⟩ : ByteArray) ++ t189) ++ (⟨#[47, 121]⟩ : ByteArray))).bind fun t194 => (if t194 = true then (some false) else ((topic_Match.f k (t188 ++ (⟨#[47, 43]⟩ : ByteArray)) (((⟨#[116, 47]⟩ : ByteArray) ++ t189) ++ (⟨#[47, 121]⟩ : ByteArray))).bind fun t195 => (if (t195 == t191) = true then (if t191 = true then (if ((⟨#[116, 47]⟩ : ByteArray) ++ t189).size + 4 ≤ 9223372036854775807 then ((topic_Match.f k (t188 ++ (⟨#[47, 35]⟩ : ByteArray)) (((⟨#[116, 47]⟩ : ByteArray) ++ t189) ++ (⟨#[47, 121, 47, 122]⟩ : ByteArray))).bind fun t196 => (some t196)) else (none)) else (some true)) else (some false))))) else (some false))) else (none)) else (none)) else (some false)) = some r := H
              have A19 := Aside0.mk A190
              clear A190
              by_cases c20 : t192 = true
              · subst c20
                have H1 : (if t188.size + 2 ≤ 9223372036854775807 then (if ((⟨#[116, 47]⟩ : ByteArray) ++ t189).size + 2 ≤ 9223372036854775807 then ((topic_Match.f k (t188 ++ (⟨#[47, 120]⟩ : ByteArray)) (((⟨#[116, 47]⟩ : ByteArray) ++ t189) ++ (⟨#[47, 120]⟩ : ByteArray))).bind fun t193 => (if (t193 == t191) = true then ((topic_Match.f k (t188 ++ (⟨#[47, 120]⟩ : ByteArray)) (((⟨#[116, 47]⟩ : ByteArray) ++ t189) ++ (⟨#[47, 121]⟩ : ByteArray))).bind fun t194 => (if t194 = true then (some false) else ((topic_Match.f k (t188 ++ (⟨#[47, 43]⟩ : ByteArray)) (((⟨#[116, 47]⟩ : ByteArray) ++ t189) ++ (⟨#[47, 121]⟩ : ByteArray))).bind fun t195 => (if (t195 == t191) = true then (if t191 = true then (if ((⟨#[116, 47]⟩ : ByteArray) ++ t189).size + 4 ≤ 9223372036854775807 then ((topic_Match.f k (t188 ++ (⟨#[47, 35]⟩ : ByteArray)) (((⟨#[116, 47]⟩ : ByteArray) ++ t189) ++ (⟨#[47, 121, 47, 122]⟩ : ByteArray))).bind fun t196 => (some t196)) else (none)) else (some true)) else (some false))))) else (some false))) else (none)) else (none)) = some r := by rw [if_pos rfl] at H; exact H
                clear H
                have H := H1
                clear H1
                by_cases c21 : t188.size + 2 ≤ 9223372036854775807
                · rw [if_pos c21] at H
                  have c21b0 := eq_true c21
                  have c21b1 : decide (t188.size + 2 ≤ 9223372036854775807) = true := decide_eq_true c21
                  try have c21b2 : (9223372036854775807 < t188.size + 2) = False := eq_false (Nat.not_lt.2 c21)
                  by_cases c22 : ((⟨#[116, 47]⟩ : ByteArray) ++ t189).size + 2 ≤ 9223372036854775807
                  · rw [if_pos c22] at H
                    have c22b0 := eq_true c22
                    have c22b1 : decide (((⟨#[116, 47]⟩ : ByteArray) ++ t189).size + 2 ≤ 9223372036854775807) = true := decide_eq_true c22
                    try have c22b2 : (9223372036854775807 < ((⟨#[116, 47]⟩ : ByteArray) ++ t189).size + 2) = False := eq_false (Nat.not_lt.2 c22)
                    try (have c22b5 := c22b2; simp only [ByteArray.size_append, show (⟨#[116, 47]⟩ : ByteArray).size = 2 from rfl] at c22b5)
                    try (have c22b6 := c22b1; simp only [ByteArray.size_append, show (⟨#[116, 47]⟩ : ByteArray).size = 2 from rfl] at c22b6)
                    try (have c22b9 := c22; simp only [ByteArray.size_append, show (⟨#[116, 47]⟩ : ByteArray).size = 2 from rfl] at c22b9)
                    replace H := Option.bind_eq_some_iff.mp H
                    obtain ⟨t193, A230, H⟩ := H
                    replace H : (if (t193 == t191) = true then ((topic_Match.f k (t188 ++ (⟨#[47, 120]⟩ : ByteArray)) (((⟨#[116, 47]⟩ : ByteArray) ++ t189) ++ (⟨#[47, 121]⟩ : ByteArray))).bind fun t194 => (if t194 = true then (some false) else ((topic_Match.f k (t188 ++ (⟨#[47, 43]⟩ : ByteArray)) (((⟨#[116, 47]⟩ : ByteArray) ++ t189) ++ (⟨#[47, 121]⟩ : ByteArray))).bind fun t195 => (if (t195 == t191) = true then (if t191 = true then (if ((⟨#[116, 47]⟩ : ByteArray) ++ t189).size + 4 ≤ 9223372036854775807 then ((topic_Match.f k (t188 ++ (⟨#[47, 35]⟩ : ByteArray)) (((⟨#[116, 47]⟩ : ByteArray) ++ t189) ++ (⟨#[47, 121, 47, 122]⟩ : ByteArray))).bind fun t196 => (some t196)) else (none)) else (some true)) else (some false))))) else (some false)) = some r := H
                    have A23 := Aside0.mk A230
                    clear A230
                    by_cases c24 : (t193 == t191) = true
                    · rw [if_pos c24] at H
                      have c24b0 : (t193 == t191) = true := c24
                      (try (have c24b1 : decide (t193 = t191) = true := by simpa using c24))
                      (try (have c24b2 : (t193 == t191) = true := by simpa using c24))
                      clear c24
                      replace H := Option.bind_eq_some_iff.mp H
                      obtain ⟨t194, A250, H⟩ := H
                      replace H : (if t194 = true then (some false) else ((topic_Match.f k (t188 ++ (⟨#[47, 43]⟩ : ByteArray)) (((⟨#[116, 47]⟩ : ByteArray) ++ t189) ++ (⟨#[47, 121]⟩ : ByteArray))).bind fun t195 => (if (t195 == t191) = true then (if t191 = true then (if ((⟨#[116, 47]⟩ : ByteArray) ++ t189).size + 4 ≤ 9223372036854775807 then ((topic_Match.f k (t188 ++ (⟨#[47, 35]⟩ : ByteArray)) (((⟨#[116, 47]⟩ : ByteArray) ++ t189) ++ (⟨#[47, 121, 47, 122]⟩ : ByteArray))).bind fun t196 => (some t196)) else (none)) else (some true)) else (some false)))) = some r := H
                      have A25 := Aside0.mk A250
                      clear A250
                      by_cases c26 : t194 = true
                      · subst c26
                        have H1 : (some false) = some r := by rw [if_pos rfl] at H; exact H
                        clear H
                        have H := H1
                        clear H1
                        obtain rfl := Option.some.inj H
                        go_enter Tryd.func4, Tryd.ntmps4
                        go_wp2_with (first | ((with_reducible refine gate_callee (f := 15) rfl ?_); refine goesL_ (some 13) rfl rfl Tryd.func15 (by kernel_rfl) rfl #[.string (a0.extract 0 ((ji3) : Int).toNat)] rfl (by (try simp only [List.map_toArray, List.map_cons, List.map_nil]); first | done | (simp only [hji3]; rfl) | rfl | (simp only [List.length_drop, List.length_take]; rfl)) ?_; (with_reducible refine (pouchref04_FixFilter.calls k (a0.extract 0 ((ji3) : Int).toNat) t188 _ A6.out).mono ?_); rintro e w27 ⟨rfl, hb⟩; refine ⟨_, rfl, ?_⟩; have n0_ := Aside0.mk (below_step (by repeat (first | (with_reducible first | exact HB.out | apply below_alloc | apply pw_below_drewN | apply below_drew1) | exact HB.out)) hb); clear HB; have HB := n0_; clear n0_; (try clear hb); (try clear hb2); (try clear hk); (try clear hi)) | ((with_reducible refine gate_callee (f := 11) rfl ?_); refine goesL_ (some 15) rfl rfl Tryd.func11 (by kernel_rfl) rfl #[.string a1] rfl (by (try simp only [List.map_toArray, List.map_cons, List.map_nil]); first | done | rfl | (simp only [List.length_drop, List.length_take]; rfl)) ?_; (with_reducible refine (pouchref04_Fix.calls k a1 t189 _ A7.out).mono ?_); rintro e w28 ⟨rfl, hb⟩; refine ⟨_, rfl, ?_⟩; have n0_ := Aside0.mk (below_step (by repeat (first | (with_reducible first | exact HB.out | apply below_alloc | apply pw_below_drewN | apply below_drew1) | exact HB.out)) hb); clear HB; have HB := n0_; clear n0_; (try clear hb); (try clear hb2); (try clear hk); (try clear hi); have p12 : 0 ≤ ((ji9) : Int) := of_decide_eq_true (by first | (with_reducible assumption) | assumption); have q12 : (ji9) < (t188.size : Int) := of_decide_eq_true (by first | (with_reducible assumption) | assumption); have hx12 := bt_at t188 (ji9); replace p12 := eq_true p12; replace q12 := eq_true q12) | ((with_reducible refine gate_callee (f := 14) rfl ?_); refine goesL_ (some 26) rfl rfl Tryd.func14 (by kernel_rfl) rfl #[.string t188, .string ((⟨#[116, 47]⟩ : ByteArray) ++ t189)] rfl (by (try simp only [List.map_toArray, List.map_cons, List.map_nil]); first | done | rfl | (simp only [List.length_drop, List.length_take]; rfl)) ?_; (with_reducible refine (topic_Match.calls k t188 ((⟨#[116, 47]⟩ : ByteArray) ++ t189) t191 _ ?side1 A18.out).mono ?_); (case side1 => exact GW.below HG.out (by repeat (first | (with_reducible first | exact HB.out | apply below_alloc | apply pw_below_drewN | apply below_drew1) | exact HB.out))); rintro e w29 ⟨rfl, hb⟩; refine ⟨_, rfl, ?_⟩; have n0_ := Aside0.mk (below_step (by repeat (first | (with_reducible first | exact HB.out | apply below_alloc | apply pw_below_drewN | apply below_drew1) | exact HB.out)) hb); clear HB; have HB := n0_; clear n0_; (try clear hb); (try clear hb2); (try clear hk); (try clear hi)) | ((with_reducible refine gate_callee (f := 13) rfl ?_); refine goesL_ (some 27) rfl rfl Tryd.func13 (by kernel_rfl) rfl #[] rfl (by (try simp only [List.map_toArray, List.map_cons, List.map_nil]); first | done | rfl | (simp only [List.length_drop, List.length_take]; rfl)) ?_; (with_reducible refine (pouchlaw04_told.calls k  true _ ?side1 A19.out).mono ?_); (case side1 => exact GW.below HG.out (by repeat (first | (with_reducible first | exact HB.out | apply below_alloc | apply pw_below_drewN | apply below_drew1) | exact HB.out))); rintro e w30 ⟨rfl, hb⟩; refine ⟨_, rfl, ?_⟩; have n0_ := Aside0.mk (below_step (by repeat (first | (with_reducible first | exact HB.out | apply below_alloc | apply pw_below_drewN | apply below_drew1) | exact HB.out)) hb); clear HB; have HB := n0_; clear n0_; (try clear hb); (try clear hb2); (try clear hk); (try clear hi)) | (go_at_call 14; (with_reducible refine (topic_Match.calls k (t188 ++ (⟨#[47, 120]⟩ : ByteArray)) (((⟨#[116, 47]⟩ : ByteArray) ++ t189) ++ (⟨#[47, 120]⟩ : ByteArray)) t193 _ ?side1 A23.out).mono ?_); (case side1 => exact GW.below HG.out (by repeat (first | (with_reducible first | exact HB.out | apply below_alloc | apply pw_below_drewN | apply below_drew1) | exact HB.out))); rintro e w31 ⟨rfl, hb⟩; have n0_ := Aside0.mk (below_step (by repeat (first | (with_reducible first | exact HB.out | apply below_alloc | apply pw_below_drewN | apply below_drew1) | exact HB.out)) hb); clear HB; have HB := n0_; clear n0_; (try clear hb); (try clear hb2); (try clear hk); (try clear hi)) | (go_at_call 14; (with_reducible refine (topic_Match.calls k (t188 ++ (⟨#[47, 120]⟩ : ByteArray)) (((⟨#[116, 47]⟩ : ByteArray) ++ t189) ++ (⟨#[47, 121]⟩ : ByteArray)) true _ ?side1 A25.out).mono ?_); (case side1 => exact GW.below HG.out (by repeat (first | (with_reducible first | exact HB.out | apply below_alloc | apply pw_below_drewN | apply below_drew1) | exact HB.out))); rintro e w32 ⟨rfl, hb⟩; have n0_ := Aside0.mk (below_step (by repeat (first | (with_reducible first | exact HB.out | apply below_alloc | apply pw_below_drewN | apply below_drew1) | exact HB.out)) hb); clear HB; have HB := n0_; clear n0_; (try clear hb); (try clear hb2); (try clear hk); (try clear hi)))
                        go_ret
                        exact ⟨by first | rfl | (simp [errW_none, errW_some] <;> rfl) | (simp only [← hji3, ← hji9]; first | rfl | (simp [errW_none, errW_some] <;> rfl)) | (simp [*, errW_none, errW_some] <;> rfl), by repeat (first | (with_reducible first | exact HB.out | apply below_alloc | apply pw_below_drewN | apply below_drew1) | exact HB.out)⟩
                      · replace c26 := Bool.eq_false_iff.mpr c26
                        subst c26
                        have H1 : ((topic_Match.f k (t188 ++ (⟨#[47, 43]⟩ : ByteArray)) (((⟨#[116, 47]⟩ : ByteArray) ++ t189) ++ (⟨#[47, 121]⟩ : ByteArray))).bind fun t195 => (if (t195 == t191) = true then (if t191 = true then (if ((⟨#[116, 47]⟩ : ByteArray) ++ t189).size + 4 ≤ 9223372036854775807 then ((topic_Match.f k (t188 ++ (⟨#[47, 35]⟩ : ByteArray)) (((⟨#[116, 47]⟩ : ByteArray) ++ t189) ++ (⟨#[47, 121, 47, 122]⟩ : ByteArray))).bind fun t196 => (some t196)) else (none)) else (some true)) else (some false))) = some r := by rw [if_neg (show ¬ (false = true) by decide)] at H; exact H
                        clear H
                        have H := H1
                        clear H1
                        replace H := Option.bind_eq_some_iff.mp H
                        obtain ⟨t195, A330, H⟩ := H
                        replace H : (if (t195 == t191) = true then (if t191 = true then (if ((⟨#[116, 47]⟩ : ByteArray) ++ t189).size + 4 ≤ 9223372036854775807 then ((topic_Match.f k (t188 ++ (⟨#[47, 35]⟩ : ByteArray)) (((⟨#[116, 47]⟩ : ByteArray) ++ t189) ++ (⟨#[47, 121, 47, 122]⟩ : ByteArray))).bind fun t196 => (some t196)) else (none)) else (some true)) else (some false)) = some r := H
                        have A33 := Aside0.mk A330
                        clear A330
                        by_cases c34 : (t195 == t191) = true
                        · rw [if_pos c34] at H
                          have c34b0 : (t195 == t191) = true := c34
                          (try (have c34b1 : decide (t195 = t191) = true := by simpa using c34))
                          (try (have c34b2 : (t195 == t191) = true := by simpa using c34))
                          clear c34
                          by_cases c35 : t191 = true
                          · subst c35
                            have H1 : (if ((⟨#[116, 47]⟩ : ByteArray) ++ t189).size + 4 ≤ 9223372036854775807 then ((topic_Match.f k (t188 ++ (⟨#[47, 35]⟩ : ByteArray)) (((⟨#[116, 47]⟩ : ByteArray) ++ t189) ++ (⟨#[47, 121, 47, 122]⟩ : ByteArray))).bind fun t196 => (some t196)) else (none)) = some r := by rw [if_pos rfl] at H; exact H
                            clear H
                            have H := H1
                            clear H1
                            by_cases c36 : ((⟨#[116, 47]⟩ : ByteArray) ++ t189).size + 4 ≤ 9223372036854775807
                            · rw [if_pos c36] at H
                              have c36b0 := eq_true c36
                              have c36b1 : decide (((⟨#[116, 47]⟩ : ByteArray) ++ t189).size + 4 ≤ 9223372036854775807) = true := decide_eq_true c36
                              try have c36b2 : (9223372036854775807 < ((⟨#[116, 47]⟩ : ByteArray) ++ t189).size + 4) = False := eq_false (Nat.not_lt.2 c36)
                              try (have c36b5 := c36b2; simp only [ByteArray.size_append, show (⟨#[116, 47]⟩ : ByteArray).size = 2 from rfl] at c36b5)
                              try (have c36b6 := c36b1; simp only [ByteArray.size_append, show (⟨#[116, 47]⟩ : ByteArray).size = 2 from rfl] at c36b6)
                              try (have c36b9 := c36; simp only [ByteArray.size_append, show (⟨#[116, 47]⟩ : ByteArray).size = 2 from rfl] at c36b9)
                              replace H := Option.bind_eq_some_iff.mp H
                              obtain ⟨t196, A370, H⟩ := H
                              replace H : (some t196) = some r := H
                              have A37 := Aside0.mk A370
                              clear A370
                              obtain rfl := Option.some.inj H
                              go_enter Tryd.func4, Tryd.ntmps4
                              go_wp2_with (first | ((with_reducible refine gate_callee (f := 15) rfl ?_); refine goesL_ (some 13) rfl rfl Tryd.func15 (by kernel_rfl) rfl #[.string (a0.extract 0 ((ji3) : Int).toNat)] rfl (by (try simp only [List.map_toArray, List.map_cons, List.map_nil]); first | done | (simp only [hji3]; rfl) | rfl | (simp only [List.length_drop, List.length_take]; rfl)) ?_; (with_reducible refine (pouchref04_FixFilter.calls k (a0.extract 0 ((ji3) : Int).toNat) t188 _ A6.out).mono ?_); rintro e w38 ⟨rfl, hb⟩; refine ⟨_, rfl, ?_⟩; have n0_ := Aside0.mk (below_step (by repeat (first | (with_reducible first | exact HB.out | apply below_alloc | apply pw_below_drewN | apply below_drew1) | exact HB.out)) hb); clear HB; have HB := n0_; clear n0_; (try clear hb); (try clear hb2); (try clear hk); (try clear hi)) | ((with_reducible refine gate_callee (f := 11) rfl ?_); refine goesL_ (some 15) rfl rfl Tryd.func11 (by kernel_rfl) rfl #[.string a1] rfl (by (try simp only [List.map_toArray, List.map_cons, List.map_nil]); first | done | rfl | (simp only [List.length_drop, List.length_take]; rfl)) ?_; (with_reducible refine (pouchref04_Fix.calls k a1 t189 _ A7.out).mono ?_); rintro e w39 ⟨rfl, hb⟩; refine ⟨_, rfl, ?_⟩; have n0_ := Aside0.mk (below_step (by repeat (first | (with_reducible first | exact HB.out | apply below_alloc | apply pw_below_drewN | apply below_drew1) | exact HB.out)) hb); clear HB; have HB := n0_; clear n0_; (try clear hb); (try clear hb2); (try clear hk); (try clear hi); have p12 : 0 ≤ ((ji9) : Int) := of_decide_eq_true (by first | (with_reducible assumption) | assumption); have q12 : (ji9) < (t188.size : Int) := of_decide_eq_true (by first | (with_reducible assumption) | assumption); have hx12 := bt_at t188 (ji9); replace p12 := eq_true p12; replace q12 := eq_true q12) | ((with_reducible refine gate_callee (f := 14) rfl ?_); refine goesL_ (some 26) rfl rfl Tryd.func14 (by kernel_rfl) rfl #[.string t188, .string ((⟨#[116, 47]⟩ : ByteArray) ++ t189)] rfl (by (try simp only [List.map_toArray, List.map_cons, List.map_nil]); first | done | rfl | (simp only [List.length_drop, List.length_take]; rfl)) ?_; (with_reducible refine (topic_Match.calls k t188 ((⟨#[116, 47]⟩ : ByteArray) ++ t189) true _ ?side1 A18.out).mono ?_); (case side1 => exact GW.below HG.out (by repeat (first | (with_reducible first | exact HB.out | apply below_alloc | apply pw_below_drewN | apply below_drew1) | exact HB.out))); rintro e w40 ⟨rfl, hb⟩; refine ⟨_, rfl, ?_⟩; have n0_ := Aside0.mk (below_step (by repeat (first | (with_reducible first | exact HB.out | apply below_alloc | apply pw_below_drewN | apply below_drew1) | exact HB.out)) hb); clear HB; have HB := n0_; clear n0_; (try clear hb); (try clear hb2); (try clear hk); (try clear hi)) | ((with_reducible refine gate_callee (f := 13) rfl ?_); refine goesL_ (some 27) rfl rfl Tryd.func13 (by kernel_rfl) rfl #[] rfl (by (try simp only [List.map_toArray, List.map_cons, List.map_nil]); first | done | rfl | (simp only [List.length_drop, List.length_take]; rfl)) ?_; (with_reducible refine (pouchlaw04_told.calls k  true _ ?side1 A19.out).mono ?_); (case side1 => exact GW.below HG.out (by repeat (first | (with_reducible first | exact HB.out | apply below_alloc | apply pw_below_drewN | apply below_drew1) | exact HB.out))); rintro e w41 ⟨rfl, hb⟩; refine ⟨_, rfl, ?_⟩; have n0_ := Aside0.mk (below_step (by repeat (first | (with_reducible first | exact HB.out | apply below_alloc | apply pw_below_drewN | apply below_drew1) | exact HB.out)) hb); clear HB; have HB := n0_; clear n0_; (try clear hb); (try clear hb2); (try clear hk); (try clear hi)) | (go_at_call 14; (with_reducible refine (topic_Match.calls k (t188 ++ (⟨#[47, 120]⟩ : ByteArray)) (((⟨#[116, 47]⟩ : ByteArray) ++ t189) ++ (⟨#[47, 120]⟩ : ByteArray)) t193 _ ?side1 A23.out).mono ?_); (case side1 => exact GW.below HG.out (by repeat (first | (with_reducible first | exact HB.out | apply below_alloc | apply pw_below_drewN | apply below_drew1) | exact HB.out))); rintro e w42 ⟨rfl, hb⟩; have n0_ := Aside0.mk (below_step (by repeat (first | (with_reducible first | exact HB.out | apply below_alloc | apply pw_below_drewN | apply below_drew1) | exact HB.out)) hb); clear HB; have HB := n0_; clear n0_; (try clear hb); (try clear hb2); (try clear hk); (try clear hi)) | (go_at_call 14; (with_reducible refine (topic_Match.calls k (t188 ++ (⟨#[47, 120]⟩ : ByteArray)) (((⟨#[116, 47]⟩ : ByteArray) ++ t189) ++ (⟨#[47, 121]⟩ : ByteArray)) false _ ?side1 A25.out).mono ?_); (case side1 => exact GW.below HG.out (by repeat (first | (with_reducible first | exact HB.out | apply below_alloc | apply pw_below_drewN | apply below_drew1) | exact HB.out))); rintro e w43 ⟨rfl, hb⟩; have n0_ := Aside0.mk (below_step (by repeat (first | (with_reducible first | exact HB.out | apply below_alloc | apply pw_below_drewN | apply below_drew1) | exact HB.out)) hb); clear HB; have HB := n0_; clear n0_; (try clear hb); (try clear hb2); (try clear hk); (try clear hi)) | (go_at_call 14; (with_reducible refine (topic_Match.calls k (t188 ++ (⟨#[47, 43]⟩ : ByteArray)) (((⟨#[116, 47]⟩ : ByteArray) ++ t189) ++ (⟨#[47, 121]⟩ : ByteArray)) t195 _ ?side1 A33.out).mono ?_); (case side1 => exact GW.below HG.out (by repeat (first | (with_reducible first | exact HB.out | apply below_alloc | apply pw_below_drewN | apply below_drew1) | exact HB.out))); rintro e w44 ⟨rfl, hb⟩; have n0_ := Aside0.mk (below_step (by repeat (first | (with_reducible first | exact HB.out | apply below_alloc | apply pw_below_drewN | apply below_drew1) | exact HB.out)) hb); clear HB; have HB := n0_; clear n0_; (try clear hb); (try clear hb2); (try clear hk); (try clear hi)) | (go_at_call 14; (with_reducible refine (topic_Match.calls k (t188 ++ (⟨#[47, 35]⟩ : ByteArray)) (((⟨#[116, 47]⟩ : ByteArray) ++ t189) ++ (⟨#[47, 121, 47, 122]⟩ : ByteArray)) t196 _ ?side1 A37.out).mono ?_); (case side1 => exact GW.below HG.out (by repeat (first | (with_reducible first | exact HB.out | apply below_alloc | apply pw_below_drewN | apply below_drew1) | exact HB.out))); rintro e w45 ⟨rfl, hb⟩; have n0_ := Aside0.mk (below_step (by repeat (first | (with_reducible first | exact HB.out | apply below_alloc | apply pw_below_drewN | apply below_drew1) | exact HB.out)) hb); clear HB; have HB := n0_; clear n0_; (try clear hb); (try clear hb2); (try clear hk); (try clear hi)))
                              go_ret
                              exact ⟨by first | rfl | (simp [errW_none, errW_some] <;> rfl) | (simp only [← hji3, ← hji9]; first | rfl | (simp [errW_none, errW_some] <;> rfl)) | (simp [*, errW_none, errW_some] <;> rfl), by repeat (first | (with_reducible first | exact HB.out | apply below_alloc | apply pw_below_drewN | apply below_drew1) | exact HB.out)⟩
                            · rw [if_neg c36] at H
                              exact absurd H (by simp)
                          · replace c35 := Bool.eq_false_iff.mpr c35
                            subst c35
                            have H1 : (some true) = some r := by rw [if_neg (show ¬ (false = true) by decide)] at H; exact H
                            clear H
                            have H := H1
                            clear H1
                            obtain rfl := Option.some.inj H
                            go_enter Tryd.func4, Tryd.ntmps4
                            go_wp2_with (first | ((with_reducible refine gate_callee (f := 15) rfl ?_); refine goesL_ (some 13) rfl rfl Tryd.func15 (by kernel_rfl) rfl #[.string (a0.extract 0 ((ji3) : Int).toNat)] rfl (by (try simp only [List.map_toArray, List.map_cons, List.map_nil]); first | done | (simp only [hji3]; rfl) | rfl | (simp only [List.length_drop, List.length_take]; rfl)) ?_; (with_reducible refine (pouchref04_FixFilter.calls k (a0.extract 0 ((ji3) : Int).toNat) t188 _ A6.out).mono ?_); rintro e w46 ⟨rfl, hb⟩; refine ⟨_, rfl, ?_⟩; have n0_ := Aside0.mk (below_step (by repeat (first | (with_reducible first | exact HB.out | apply below_alloc | apply pw_below_drewN | apply below_drew1) | exact HB.out)) hb); clear HB; have HB := n0_; clear n0_; (try clear hb); (try clear hb2); (try clear hk); (try clear hi)) | ((with_reducible refine gate_callee (f := 11) rfl ?_); refine goesL_ (some 15) rfl rfl Tryd.func11 (by kernel_rfl) rfl #[.string a1] rfl (by (try simp only [List.map_toArray, List.map_cons, List.map_nil]); first | done | rfl | (simp only [List.length_drop, List.length_take]; rfl)) ?_; (with_reducible refine (pouchref04_Fix.calls k a1 t189 _ A7.out).mono ?_); rintro e w47 ⟨rfl, hb⟩; refine ⟨_, rfl, ?_⟩; have n0_ := Aside0.mk (below_step (by repeat (first | (with_reducible first | exact HB.out | apply below_alloc | apply pw_below_drewN | apply below_drew1) | exact HB.out)) hb); clear HB; have HB := n0_; clear n0_; (try clear hb); (try clear hb2); (try clear hk); (try clear hi); have p12 : 0 ≤ ((ji9) : Int) := of_decide_eq_true (by first | (with_reducible assumption) | assumption); have q12 : (ji9) < (t188.size : Int) := of_decide_eq_true (by first | (with_reducible assumption) | assumption); have hx12 := bt_at t188 (ji9); replace p12 := eq_true p12; replace q12 := eq_true q12) | ((with_reducible refine gate_callee (f := 14) rfl ?_); refine goesL_ (some 26) rfl rfl Tryd.func14 (by kernel_rfl) rfl #[.string t188, .string ((⟨#[116, 47]⟩ : ByteArray) ++ t189)] rfl (by (try simp only [List.map_toArray, List.map_cons, List.map_nil]); first | done | rfl | (simp only [List.length_drop, List.length_take]; rfl)) ?_; (with_reducible refine (topic_Match.calls k t188 ((⟨#[116, 47]⟩ : ByteArray) ++ t189) false _ ?side1 A18.out).mono ?_); (case side1 => exact GW.below HG.out (by repeat (first | (with_reducible first | exact HB.out | apply below_alloc | apply pw_below_drewN | apply below_drew1) | exact HB.out))); rintro e w48 ⟨rfl, hb⟩; refine ⟨_, rfl, ?_⟩; have n0_ := Aside0.mk (below_step (by repeat (first | (with_reducible first | exact HB.out | apply below_alloc | apply pw_below_drewN | apply below_drew1) | exact HB.out)) hb); clear HB; have HB := n0_; clear n0_; (try clear hb); (try clear hb2); (try clear hk); (try clear hi)) | ((with_reducible refine gate_callee (f := 13) rfl ?_); refine goesL_ (some 27) rfl rfl Tryd.func13 (by kernel_rfl) rfl #[] rfl (by (try simp only [List.map_toArray, List.map_cons, List.map_nil]); first | done | rfl | (simp only [List.length_drop, List.length_take]; rfl)) ?_; (with_reducible refine (pouchlaw04_told.calls k  true _ ?side1 A19.out).mono ?_); (case side1 => exact GW.below HG.out (by repeat (first | (with_reducible first | exact HB.out | apply below_alloc | apply pw_below_drewN | apply below_drew1) | exact HB.out))); rintro e w49 ⟨rfl, hb⟩; refine ⟨_, rfl, ?_⟩; have n0_ := Aside0.mk (below_step (by repeat (first | (with_reducible first | exact HB.out | apply below_alloc | apply pw_below_drewN | apply below_drew1) | exact HB.out)) hb); clear HB; have HB := n0_; clear n0_; (try clear hb); (try clear hb2); (try clear hk); (try clear hi)) | (go_at_call 14; (with_reducible refine (topic_Match.calls k (t188 ++ (⟨#[47, 120]⟩ : ByteArray)) (((⟨#[116, 47]⟩ : ByteArray) ++ t189) ++ (⟨#[47, 120]⟩ : ByteArray)) t193 _ ?side1 A23.out).mono ?_); (case side1 => exact GW.below HG.out (by repeat (first | (with_reducible first | exact HB.out | apply below_alloc | apply pw_below_drewN | apply below_drew1) | exact HB.out))); rintro e w50 ⟨rfl, hb⟩; have n0_ := Aside0.mk (below_step (by repeat (first | (with_reducible first | exact HB.out | apply below_alloc | apply pw_below_drewN | apply below_drew1) | exact HB.out)) hb); clear HB; have HB := n0_; clear n0_; (try clear hb); (try clear hb2); (try clear hk); (try clear hi)) | (go_at_call 14; (with_reducible refine (topic_Match.calls k (t188 ++ (⟨#[47, 120]⟩ : ByteArray)) (((⟨#[116, 47]⟩ : ByteArray) ++ t189) ++ (⟨#[47, 121]⟩ : ByteArray)) false _ ?side1 A25.out).mono ?_); (case side1 => exact GW.below HG.out (by repeat (first | (with_reducible first | exact HB.out | apply below_alloc | apply pw_below_drewN | apply below_drew1) | exact HB.out))); rintro e w51 ⟨rfl, hb⟩; have n0_ := Aside0.mk (below_step (by repeat (first | (with_reducible first | exact HB.out | apply below_alloc | apply pw_below_drewN | apply below_drew1) | exact HB.out)) hb); clear HB; have HB := n0_; clear n0_; (try clear hb); (try clear hb2); (try clear hk); (try clear hi)) | (go_at_call 14; (with_reducible refine (topic_Match.calls k (t188 ++ (⟨#[47, 43]⟩ : ByteArray)) (((⟨#[116, 47]⟩ : ByteArray) ++ t189) ++ (⟨#[47, 121]⟩ : ByteArray)) t195 _ ?side1 A33.out).mono ?_); (case side1 => exact GW.below HG.out (by repeat (first | (with_reducible first | exact HB.out | apply below_alloc | apply pw_below_drewN | apply below_drew1) | exact HB.out))); rintro e w52 ⟨rfl, hb⟩; have n0_ := Aside0.mk (below_step (by repeat (first | (with_reducible first | exact HB.out | apply below_alloc | apply pw_below_drewN | apply below_drew1) | exact HB.out)) hb); clear HB; have HB := n0_; clear n0_; (try clear hb); (try clear hb2); (try clear hk); (try clear hi)))
                            go_ret
                            exact ⟨by first | rfl | (simp [errW_none, errW_some] <;> rfl) | (simp only [← hji3, ← hji9]; first | rfl | (simp [errW_none, errW_some] <;> rfl)) | (simp [*, errW_none, errW_some] <;> rfl), by repeat (first | (with_reducible first | exact HB.out | apply below_alloc | apply pw_below_drewN | apply below_drew1) | exact HB.out)⟩
                        · rw [if_neg c34] at H
                          have c34b0 : (t195 == t191) = false := by simpa using c34
                          (try (have c34b1 : decide (t195 = t191) = false := by simpa using c34))
                          (try (have c34b2 : (t195 == t191) = false := by simpa using c34))
                          (try (have c34b3 : ¬ (t195 = t191) := by simpa using c34))
                          clear c34
                          obtain rfl := Option.some.inj H
                          go_enter Tryd.func4, Tryd.ntmps4
                          go_wp2_with (first | ((with_reducible refine gate_callee (f := 15) rfl ?_); refine goesL_ (some 13) rfl rfl Tryd.func15 (by kernel_rfl) rfl #[.string (a0.extract 0 ((ji3) : Int).toNat)] rfl (by (try simp only [List.map_toArray, List.map_cons, List.map_nil]); first | done | (simp only [hji3]; rfl) | rfl | (simp only [List.length_drop, List.length_take]; rfl)) ?_; (with_reducible refine (pouchref04_FixFilter.calls k (a0.extract 0 ((ji3) : Int).toNat) t188 _ A6.out).mono ?_); rintro e w53 ⟨rfl, hb⟩; refine ⟨_, rfl, ?_⟩; have n0_ := Aside0.mk (below_step (by repeat (first | (with_reducible first | exact HB.out | apply below_alloc | apply pw_below_drewN | apply below_drew1) | exact HB.out)) hb); clear HB; have HB := n0_; clear n0_; (try clear hb); (try clear hb2); (try clear hk); (try clear hi)) | ((with_reducible refine gate_callee (f := 11) rfl ?_); refine goesL_ (some 15) rfl rfl Tryd.func11 (by kernel_rfl) rfl #[.string a1] rfl (by (try simp only [List.map_toArray, List.map_cons, List.map_nil]); first | done | rfl | (simp only [List.length_drop, List.length_take]; rfl)) ?_; (with_reducible refine (pouchref04_Fix.calls k a1 t189 _ A7.out).mono ?_); rintro e w54 ⟨rfl, hb⟩; refine ⟨_, rfl, ?_⟩; have n0_ := Aside0.mk (below_step (by repeat (first | (with_reducible first | exact HB.out | apply below_alloc | apply pw_below_drewN | apply below_drew1) | exact HB.out)) hb); clear HB; have HB := n0_; clear n0_; (try clear hb); (try clear hb2); (try clear hk); (try clear hi); have p12 : 0 ≤ ((ji9) : Int) := of_decide_eq_true (by first | (with_reducible assumption) | assumption); have q12 : (ji9) < (t188.size : Int) := of_decide_eq_true (by first | (with_reducible assumption) | assumption); have hx12 := bt_at t188 (ji9); replace p12 := eq_true p12; replace q12 := eq_true q12) | ((with_reducible refine gate_callee (f := 14) rfl ?_); refine goesL_ (some 26) rfl rfl Tryd.func14 (by kernel_rfl) rfl #[.string t188, .string ((⟨#[116, 47]⟩ : ByteArray) ++ t189)] rfl (by (try simp only [List.map_toArray, List.map_cons, List.map_nil]); first | done | rfl | (simp only [List.length_drop, List.length_take]; rfl)) ?_; (with_reducible refine (topic_Match.calls k t188 ((⟨#[116, 47]⟩ : ByteArray) ++ t189) t191 _ ?side1 A18.out).mono ?_); (case side1 => exact GW.below HG.out (by repeat (first | (with_reducible first | exact HB.out | apply below_alloc | apply pw_below_drewN | apply below_drew1) | exact HB.out))); rintro e w55 ⟨rfl, hb⟩; refine ⟨_, rfl, ?_⟩; have n0_ := Aside0.mk (below_step (by repeat (first | (with_reducible first | exact HB.out | apply below_alloc | apply pw_below_drewN | apply below_drew1) | exact HB.out)) hb); clear HB; have HB := n0_; clear n0_; (try clear hb); (try clear hb2); (try clear hk); (try clear hi)) | ((with_reducible refine gate_callee (f := 13) rfl ?_); refine goesL_ (some 27) rfl rfl Tryd.func13 (by kernel_rfl) rfl #[] rfl (by (try simp only [List.map_toArray, List.map_cons, List.map_nil]); first | done | rfl | (simp only [List.length_drop, List.length_take]; rfl)) ?_; (with_reducible refine (pouchlaw04_told.calls k  true _ ?side1 A19.out).mono ?_); (case side1 => exact GW.below HG.out (by repeat (first | (with_reducible first | exact HB.out | apply below_alloc | apply pw_below_drewN | apply below_drew1) | exact HB.out))); rintro e w56 ⟨rfl, hb⟩; refine ⟨_, rfl, ?_⟩; have n0_ := Aside0.mk (below_step (by repeat (first | (with_reducible first | exact HB.out | apply below_alloc | apply pw_below_drewN | apply below_drew1) | exact HB.out)) hb); clear HB; have HB := n0_; clear n0_; (try clear hb); (try clear hb2); (try clear hk); (try clear hi)) | (go_at_call 14; (with_reducible refine (topic_Match.calls k (t188 ++ (⟨#[47, 120]⟩ : ByteArray)) (((⟨#[116, 47]⟩ : ByteArray) ++ t189) ++ (⟨#[47, 120]⟩ : ByteArray)) t193 _ ?side1 A23.out).mono ?_); (case side1 => exact GW.below HG.out (by repeat (first | (with_reducible first | exact HB.out | apply below_alloc | apply pw_below_drewN | apply below_drew1) | exact HB.out))); rintro e w57 ⟨rfl, hb⟩; have n0_ := Aside0.mk (below_step (by repeat (first | (with_reducible first | exact HB.out | apply below_alloc | apply pw_below_drewN | apply below_drew1) | exact HB.out)) hb); clear HB; have HB := n0_; clear n0_; (try clear hb); (try clear hb2); (try clear hk); (try clear hi)) | (go_at_call 14; (with_reducible refine (topic_Match.calls k (t188 ++ (⟨#[47, 120]⟩ : ByteArray)) (((⟨#[116, 47]⟩ : ByteArray) ++ t189) ++ (⟨#[47, 121]⟩ : ByteArray)) false _ ?side1 A25.out).mono ?_); (case side1 => exact GW.below HG.out (by repeat (first | (with_reducible first | exact HB.out | apply below_alloc | apply pw_below_drewN | apply below_drew1) | exact HB.out))); rintro e w58 ⟨rfl, hb⟩; have n0_ := Aside0.mk (below_step (by repeat (first | (with_reducible first | exact HB.out | apply below_alloc | apply pw_below_drewN | apply below_drew1) | exact HB.out)) hb); clear HB; have HB := n0_; clear n0_; (try clear hb); (try clear hb2); (try clear hk); (try clear hi)) | (go_at_call 14; (with_reducible refine (topic_Match.calls k (t188 ++ (⟨#[47, 43]⟩ : ByteArray)) (((⟨#[116, 47]⟩ : ByteArray) ++ t189) ++ (⟨#[47, 121]⟩ : ByteArray)) t195 _ ?side1 A33.out).mono ?_); (case side1 => exact GW.below HG.out (by repeat (first | (with_reducible first | exact HB.out | apply below_alloc | apply pw_below_drewN | apply below_drew1) | exact HB.out))); rintro e w59 ⟨rfl, hb⟩; have n0_ := Aside0.mk (below_step (by repeat (first | (with_reducible first | exact HB.out | apply below_alloc | apply pw_below_drewN | apply below_drew1) | exact HB.out)) hb); clear HB; have HB := n0_; clear n0_; (try clear hb); (try clear hb2); (try clear hk); (try clear hi)))
                          go_ret
                          exact ⟨by first | rfl | (simp [errW_none, errW_some] <;> rfl) | (simp only [← hji3, ← hji9]; first | rfl | (simp [errW_none, errW_some] <;> rfl)) | (simp [*, errW_none, errW_some] <;> rfl), by repeat (first | (with_reducible first | exact HB.out | apply below_alloc | apply pw_below_drewN | apply below_drew1) | exact HB.out)⟩
                    · rw [if_neg c24] at H
                      have c24b0 : (t193 == t191) = false := by simpa using c24
                      (try (have c24b1 : decide (t193 = t191) = false := by simpa using c24))
                      (try (have c24b2 : (t193 == t191) = false := by simpa using c24))
                      (try (have c24b3 : ¬ (t193 = t191) := by simpa using c24))
                      clear c24
                      obtain rfl := Option.some.inj H
                      go_enter Tryd.func4, Tryd.ntmps4
                      go_wp2_with (first | ((with_reducible refine gate_callee (f := 15) rfl ?_); refine goesL_ (some 13) rfl rfl Tryd.func15 (by kernel_rfl) rfl #[.string (a0.extract 0 ((ji3) : Int).toNat)] rfl (by (try simp only [List.map_toArray, List.map_cons, List.map_nil]); first | done | (simp only [hji3]; rfl) | rfl | (simp only [List.length_drop, List.length_take]; rfl)) ?_; (with_reducible refine (pouchref04_FixFilter.calls k (a0.extract 0 ((ji3) : Int).toNat) t188 _ A6.out).mono ?_); rintro e w60 ⟨rfl, hb⟩; refine ⟨_, rfl, ?_⟩; have n0_ := Aside0.mk (below_step (by repeat (first | (with_reducible first | exact HB.out | apply below_alloc | apply pw_below_drewN | apply below_drew1) | exact HB.out)) hb); clear HB; have HB := n0_; clear n0_; (try clear hb); (try clear hb2); (try clear hk); (try clear hi)) | ((with_reducible refine gate_callee (f := 11) rfl ?_); refine goesL_ (some 15) rfl rfl Tryd.func11 (by kernel_rfl) rfl #[.string a1] rfl (by (try simp only [List.map_toArray, List.map_cons, List.map_nil]); first | done | rfl | (simp only [List.length_drop, List.length_take]; rfl)) ?_; (with_reducible refine (pouchref04_Fix.calls k a1 t189 _ A7.out).mono ?_); rintro e w61 ⟨rfl, hb⟩; refine ⟨_, rfl, ?_⟩; have n0_ := Aside0.mk (below_step (by repeat (first | (with_reducible first | exact HB.out | apply below_alloc | apply pw_below_drewN | apply below_drew1) | exact HB.out)) hb); clear HB; have HB := n0_; clear n0_; (try clear hb); (try clear hb2); (try clear hk); (try clear hi); have p12 : 0 ≤ ((ji9) : Int) := of_decide_eq_true (by first | (with_reducible assumption) | assumption); have q12 : (ji9) < (t188.size : Int) := of_decide_eq_true (by first | (with_reducible assumption) | assumption); have hx12 := bt_at t188 (ji9); replace p12 := eq_true p12; replace q12 := eq_true q12) | ((with_reducible refine gate_callee (f := 14) rfl ?_); refine goesL_ (some 26) rfl rfl Tryd.func14 (by kernel_rfl) rfl #[.string t188, .string ((⟨#[116, 47]⟩ : ByteArray) ++ t189)] rfl (by (try simp only [List.map_toArray, List.map_cons, List.map_nil]); first | done | rfl | (simp only [List.length_drop, List.length_take]; rfl)) ?_; (with_reducible refine (topic_Match.calls k t188 ((⟨#[116, 47]⟩ : ByteArray) ++ t189) t191 _ ?side1 A18.out).mono ?_); (case side1 => exact GW.below HG.out (by repeat (first | (with_reducible first | exact HB.out | apply below_alloc | apply pw_below_drewN | apply below_drew1) | exact HB.out))); rintro e w62 ⟨rfl, hb⟩; refine ⟨_, rfl, ?_⟩; have n0_ := Aside0.mk (below_step (by repeat (first | (with_reducible first | exact HB.out | apply below_alloc | apply pw_below_drewN | apply below_drew1) | exact HB.out)) hb); clear HB; have HB := n0_; clear n0_; (try clear hb); (try clear hb2); (try clear hk); (try clear hi)) | ((with_reducible refine gate_callee (f := 13) rfl ?_); refine goesL_ (some 27) rfl rfl Tryd.func13 (by kernel_rfl) rfl #[] rfl (by (try simp only [List.map_toArray, List.map_cons, List.map_nil]); first | done | rfl | (simp only [List.length_drop, List.length_take]; rfl)) ?_; (with_reducible refine (pouchlaw04_told.calls k  true _ ?side1 A19.out).mono ?_); (case side1 => exact GW.below HG.out (by repeat (first | (with_reducible first | exact HB.out | apply below_alloc | apply pw_below_drewN | apply below_drew1) | exact HB.out))); rintro e w63 ⟨rfl, hb⟩; refine ⟨_, rfl, ?_⟩; have n0_ := Aside0.mk (below_step (by repeat (first | (with_reducible first | exact HB.out | apply below_alloc | apply pw_below_drewN | apply below_drew1) | exact HB.out)) hb); clear HB; have HB := n0_; clear n0_; (try clear hb); (try clear hb2); (try clear hk); (try clear hi)) | (go_at_call 14; (with_reducible refine (topic_Match.calls k (t188 ++ (⟨#[47, 120]⟩ : ByteArray)) (((⟨#[116, 47]⟩ : ByteArray) ++ t189) ++ (⟨#[47, 120]⟩ : ByteArray)) t193 _ ?side1 A23.out).mono ?_); (case side1 => exact GW.below HG.out (by repeat (first | (with_reducible first | exact HB.out | apply below_alloc | apply pw_below_drewN | apply below_drew1) | exact HB.out))); rintro e w64 ⟨rfl, hb⟩; have n0_ := Aside0.mk (below_step (by repeat (first | (with_reducible first | exact HB.out | apply below_alloc | apply pw_below_drewN | apply below_drew1) | exact HB.out)) hb); clear HB; have HB := n0_; clear n0_; (try clear hb); (try clear hb2); (try clear hk); (try clear hi)))
                      go_ret
                      exact ⟨by first | rfl | (simp [errW_none, errW_some] <;> rfl) | (simp only [← hji3, ← hji9]; first | rfl | (simp [errW_none, errW_some] <;> rfl)) | (simp [*, errW_none, errW_some] <;> rfl), by repeat (first | (with_reducible first | exact HB.out | apply below_alloc | apply pw_below_drewN | apply below_drew1) | exact HB.out)⟩
                  · rw [if_neg c22] at H
                    exact absurd H (by simp)
                · rw [if_neg c21] at H
                  exact absurd H (by simp)
              · replace c20 := Bool.eq_false_iff.mpr c20
                subst c20
                have H1 : (some false) = some r := by rw [if_neg (show ¬ (false = true) by decide)] at H; exact H
                clear H
                have H := H1
                clear H1
                obtain rfl := Option.some.inj H
                go_enter Tryd.func4, Tryd.ntmps4
                go_wp2_with (first | ((with_reducible refine gate_callee (f := 15) rfl ?_); refine goesL_ (some 13) rfl rfl Tryd.func15 (by kernel_rfl) rfl #[.string (a0.extract 0 ((ji3) : Int).toNat)] rfl (by (try simp only [List.map_toArray, List.map_cons, List.map_nil]); first | done | (simp only [hji3]; rfl) | rfl | (simp only [List.length_drop, List.length_take]; rfl)) ?_; (with_reducible refine (pouchref04_FixFilter.calls k (a0.extract 0 ((ji3) : Int).toNat) t188 _ A6.out).mono ?_); rintro e w65 ⟨rfl, hb⟩; refine ⟨_, rfl, ?_⟩; have n0_ := Aside0.mk (below_step (by repeat (first | (with_reducible first | exact HB.out | apply below_alloc | apply pw_below_drewN | apply below_drew1) | exact HB.out)) hb); clear HB; have HB := n0_; clear n0_; (try clear hb); (try clear hb2); (try clear hk); (try clear hi)) | ((with_reducible refine gate_callee (f := 11) rfl ?_); refine goesL_ (some 15) rfl rfl Tryd.func11 (by kernel_rfl) rfl #[.string a1] rfl (by (try simp only [List.map_toArray, List.map_cons, List.map_nil]); first | done | rfl | (simp only [List.length_drop, List.length_take]; rfl)) ?_; (with_reducible refine (pouchref04_Fix.calls k a1 t189 _ A7.out).mono ?_); rintro e w66 ⟨rfl, hb⟩; refine ⟨_, rfl, ?_⟩; have n0_ := Aside0.mk (below_step (by repeat (first | (with_reducible first | exact HB.out | apply below_alloc | apply pw_below_drewN | apply below_drew1) | exact HB.out)) hb); clear HB; have HB := n0_; clear n0_; (try clear hb); (try clear hb2); (try clear hk); (try clear hi); have p12 : 0 ≤ ((ji9) : Int) := of_decide_eq_true (by first | (with_reducible assumption) | assumption); have q12 : (ji9) < (t188.size : Int) := of_decide_eq_true (by first | (with_reducible assumption) | assumption); have hx12 := bt_at t188 (ji9); replace p12 := eq_true p12; replace q12 := eq_true q12) | ((with_reducible refine gate_callee (f := 14) rfl ?_); refine goesL_ (some 26) rfl rfl Tryd.func14 (by kernel_rfl) rfl #[.string t188, .string ((⟨#[116, 47]⟩ : ByteArray) ++ t189)] rfl (by (try simp only [List.map_toArray, List.map_cons, List.map_nil]); first | done | rfl | (simp only [List.length_drop, List.length_take]; rfl)) ?_; (with_reducible refine (topic_Match.calls k t188 ((⟨#[116, 47]⟩ : ByteArray) ++ t189) t191 _ ?side1 A18.out).mono ?_); (case side1 => exact GW.below HG.out (by repeat (first | (with_reducible first | exact HB.out | apply below_alloc | apply pw_below_drewN | apply below_drew1) | exact HB.out))); rintro e w67 ⟨rfl, hb⟩; refine ⟨_, rfl, ?_⟩; have n0_ := Aside0.mk (below_step (by repeat (first | (with_reducible first | exact HB.out | apply below_alloc | apply pw_below_drewN | apply below_drew1) | exact HB.out)) hb); clear HB; have HB := n0_; clear n0_; (try clear hb); (try clear hb2); (try clear hk); (try clear hi)) | ((with_reducible refine gate_callee (f := 13) rfl ?_); refine goesL_ (some 27) rfl rfl Tryd.func13 (by kernel_rfl) rfl #[] rfl (by (try simp only [List.map_toArray, List.map_cons, List.map_nil]); first | done | rfl | (simp only [List.length_drop, List.length_take]; rfl)) ?_; (with_reducible refine (pouchlaw04_told.calls k  false _ ?side1 A19.out).mono ?_); (case side1 => exact GW.below HG.out (by repeat (first | (with_reducible first | exact HB.out | apply below_alloc | apply pw_below_drewN | apply below_drew1) | exact HB.out))); rintro e w68 ⟨rfl, hb⟩; refine ⟨_, rfl, ?_⟩; have n0_ := Aside0.mk (below_step (by repeat (first | (with_reducible first | exact HB.out | apply below_alloc | apply pw_below_drewN | apply below_drew1) | exact HB.out)) hb); clear HB; have HB := n0_; clear n0_; (try clear hb); (try clear hb2); (try clear hk); (try clear hi)))
                go_ret
                exact ⟨by first | rfl | (simp [errW_none, errW_some] <;> rfl) | (simp only [← hji3, ← hji9]; first | rfl | (simp [errW_none, errW_some] <;> rfl)) | (simp [*, errW_none, errW_some] <;> rfl), by repeat (first | (with_reducible first | exact HB.out | apply below_alloc | apply pw_below_drewN | apply below_drew1) | exact HB.out)⟩
          · rw [if_neg c11] at H
            exact absurd H (by simp)
        · rw [if_neg c10] at H
          exact absurd H (by simp)
      · rw [if_neg c8] at H
        exact absurd H (by simp)
    · rw [if_neg c5] at H
      exact absurd H (by simp)
  · rw [if_neg c4] at H
    exact absurd H (by simp)

end Go.Proofs.YtbaipppmefencaaDoor.P

namespace Go.Proofs.YtbaipppmefencaaDoor.Mq
open Go.Lib

/-! ### texts, levels, names and filters, over lists of bytes: plain Lean -/
/-- What stands between slashes. -/
def lv : List UInt8 → List (List UInt8)
  | [] => [[]]
  | c :: s => if c = 47 then [] :: lv s else (c :: (lv s).headD []) :: (lv s).tail
theorem lv_ne (s : List UInt8) : lv s ≠ [] := by
  cases s with
  | nil => simp [lv]
  | cons c s => unfold lv; split <;> simp
theorem lv_head (s : List UInt8) : (lv s).headD [] :: (lv s).tail = lv s := by
  cases h : lv s with
  | nil => exact absurd h (lv_ne s)
  | cons a t => rfl
theorem lv_cons_slash (s : List UInt8) : lv (47 :: s) = [] :: lv s := by rw [lv, if_pos rfl]
theorem lv_cons (c : UInt8) (s : List UInt8) (h : c ≠ 47) : lv (c :: s) = (c :: (lv s).headD []) :: (lv s).tail := by rw [lv, if_neg h]
theorem lv_join (a b : List UInt8) : lv (a ++ 47 :: b) = lv a ++ lv b := by
  induction a with
  | nil => exact lv_cons_slash b
  | cons c a ih =>
    rw [List.cons_append]
    by_cases h : c = 47
    · subst h; rw [lv_cons_slash, lv_cons_slash, ih]; rfl
    · rw [lv_cons c _ h, lv_cons c a h, ih]
      cases hl : lv a with
      | nil => exact absurd hl (lv_ne a)
      | cons x t => rfl
/-- A level, a slash, what comes behind. -/
theorem lv_slash (a b : List UInt8) (h : (47 : UInt8) ∉ a) : lv (a ++ 47 :: b) = a :: lv b := by
  induction a with
  | nil => simp [lv]
  | cons c a ih =>
    rw [List.mem_cons, not_or] at h
    rw [List.cons_append, lv, if_neg (fun e => h.1 e.symm), ih h.2]
    rfl
theorem lv_one (a : List UInt8) (h : (47 : UInt8) ∉ a) : lv a = [a] := by
  induction a with
  | nil => rfl
  | cons c a ih =>
    rw [List.mem_cons, not_or] at h
    rw [lv, if_neg (fun e => h.1 e.symm), ih h.2]
    rfl
theorem cases_slash (s : List UInt8) : ((47 : UInt8) ∉ s) ∨ ∃ a b, s = a ++ 47 :: b ∧ (47 : UInt8) ∉ a := by
  induction s with
  | nil => exact .inl (by simp)
  | cons c s ih =>
    by_cases hc : c = 47
    · exact .inr ⟨[], s, by simp [hc], by simp⟩
    · rcases ih with h | ⟨a, b, rfl, h⟩
      · exact .inl (by simp [h, Ne.symm hc])
      · exact .inr ⟨c :: a, b, rfl, by simp [h, Ne.symm hc]⟩
theorem occ_slash (s : List UInt8) (j : Nat) (b : UInt8) (hb : s[j]? = some b) : occAt s [47] j = (b == 47) := by
  unfold occAt
  rw [List.drop_eq_getElem_cons (List.getElem?_eq_some_iff.1 hb).1, (List.getElem?_eq_some_iff.1 hb).2]
  simp only [List.isPrefixOf, Bool.and_true]
  rw [Bool.eq_iff_iff, beq_iff_eq, beq_iff_eq]; exact eq_comm
theorem index_no (s : List UInt8) (h : (47 : UInt8) ∉ s) : index s [47] = -1 := by
  apply index_none
  intro j hj
  by_cases e : j < s.length
  · rw [occ_slash s j s[j] (List.getElem?_eq_getElem e)]
    rw [beq_eq_false_iff_ne]
    exact fun e2 => h (e2 ▸ List.getElem_mem e)
  · unfold occAt
    rw [List.drop_eq_nil_of_le (by omega)]
    rfl
theorem index_at (a b : List UInt8) (h : (47 : UInt8) ∉ a) : index (a ++ 47 :: b) [47] = a.length := by
  apply index_first
  · simp
  · rw [occ_slash _ _ 47 (by simp)]; rfl
  · intro j hj
    rw [occ_slash _ j a[j] (by rw [List.getElem?_append_left hj]; exact List.getElem?_eq_getElem hj)]
    rw [beq_eq_false_iff_ne]
    exact fun e2 => h (e2 ▸ List.getElem_mem hj)
theorem split_lv : ∀ (n : Nat) (s : List UInt8), s.length ≤ n → splitK [47] 0 (count s [47]) s = lv s
  | n, s, hn => by
    rcases cases_slash s with h | ⟨a, b, rfl, h⟩
    · rw [count_miss (index_no s h), lv_one s h]; rfl
    · have hi := index_at a b h
      have hl : a.length + 1 + b.length = (a ++ 47 :: b).length := by simp; omega
      cases n with
      | zero => omega
      | succ n =>
        rw [count_hit (by simp) hi, Nat.add_comm 1, splitK, if_neg (by rw [hi]; simp), hi, lv_slash a b h]
        have e1 : (a ++ 47 :: b).take ((a.length : Int).toNat + 0) = a := by simp
        have e2 : (a ++ 47 :: b).drop (a.length + [(47 : UInt8)].length) = b := by simp
        have e3 : (a ++ 47 :: b).drop ((a.length : Int).toNat + [(47 : UInt8)].length) = b := by simp
        rw [e1, e2, e3, split_lv n b (by omega)]
theorem cut_no (s : List UInt8) (h : (47 : UInt8) ∉ s) : cut s [47] = (s, [], false) := by
  unfold cut; rw [index_no s h]; rfl
theorem cut_at (a b : List UInt8) (h : (47 : UInt8) ∉ a) : cut (a ++ 47 :: b) [47] = (a, b, true) := by
  unfold cut; rw [index_at a b h, if_pos (by omega)]; simp

def wildB (s : List UInt8) : Bool := s.contains 43 || s.contains 35
theorem wild_any (s : List UInt8) : decide (0 ≤ indexAny s [43, 35]) = wildB s := by
  induction s with
  | nil => rfl
  | cons b l ih =>
    have hge := indexAny_ge [43, 35] l
    rw [show indexAny (b :: l) [43, 35] = if ([43, 35] : List UInt8).contains b then 0 else if indexAny l [43, 35] == -1 then -1 else indexAny l [43, 35] + 1 from rfl]
    by_cases hb : ([43, 35] : List UInt8).contains b = true
    · rw [if_pos hb]
      have : b = 43 ∨ b = 35 := by simpa using hb
      rcases this with rfl | rfl <;> simp [wildB]
    · rw [if_neg hb]
      have : ¬ b = 43 ∧ ¬ b = 35 := by simpa using hb
      unfold wildB at *
      rw [List.contains_cons, List.contains_cons, show ((43 : UInt8) == b) = false from beq_eq_false_iff_ne.2 (Ne.symm this.1), show ((35 : UInt8) == b) = false from beq_eq_false_iff_ne.2 (Ne.symm this.2), Bool.false_or, Bool.false_or, ← ih]
      by_cases h1 : indexAny l [43, 35] = -1
      · rw [h1]; rfl
      · rw [if_neg (by simpa using h1), decide_eq_true (by omega), decide_eq_true (by omega)]
def rightB (s : List UInt8) : Bool := decide (s.length ≤ 65535) && (validD s && !s.contains 0)
def nameB (s : List UInt8) : Bool := !s.isEmpty && (rightB s && !wildB s)
def plainL : List (List UInt8) → Bool
  | [] => true
  | x :: r => (decide (x = [43]) || (decide (x = [35]) && r.isEmpty) || !wildB x) && plainL r
def plainB (s : List UInt8) : Bool := !s.isEmpty && plainL (lv s)
/-- "$share/" -/
def shareP : List UInt8 := [36, 115, 104, 97, 114, 101, 47]
def sharedB (s : List UInt8) : Bool := shareP.isPrefixOf s
def filterB (s : List UInt8) : Bool :=
  rightB s && if sharedB s then (cut (s.drop 7) [47]).2.2 && (!(cut (s.drop 7) [47]).1.isEmpty && (!wildB (cut (s.drop 7) [47]).1 && plainB (cut (s.drop 7) [47]).2.1)) else plainB s
def matchL : List (List UInt8) → List (List UInt8) → Bool
  | [], n => n.isEmpty
  | x :: f, n => if x = [35] then true else match n with
    | [] => false
    | y :: n' => (decide (x = [43]) || decide (x = y)) && matchL f n'
theorem matchL_all (f n : List (List UInt8)) : matchL ([35] :: f) n = true := by unfold matchL; rw [if_pos rfl]
theorem matchL_none (x : List UInt8) (f : List (List UInt8)) (h : x ≠ [35]) : matchL (x :: f) [] = false := by unfold matchL; rw [if_neg h]
theorem matchL_step (x y : List UInt8) (f n : List (List UInt8)) (h : x ≠ [35]) : matchL (x :: f) (y :: n) = ((decide (x = [43]) || decide (x = y)) && matchL f n) := by
  rw [show matchL (x :: f) (y :: n) = if x = [35] then true else ((decide (x = [43]) || decide (x = y)) && matchL f n) from rfl, if_neg h]
def target (s : List UInt8) : List UInt8 := if sharedB s then (cut (s.drop 7) [47]).2.1 else s
def matchB (f n : List UInt8) : Bool :=
  filterB f && (nameB n && (!(decide (n.head? = some 36) && wildB ((target f).take 1)) && matchL (lv (target f)) (lv n)))
theorem contains_zero (s : List UInt8) : Go.Lib.contains s [0] = s.contains 0 := by
  unfold Go.Lib.contains
  induction s with
  | nil => rfl
  | cons b l ih =>
    have hge := index_ge l [0]
    rw [show index (b :: l) [0] = if ([0] : List UInt8).isPrefixOf (b :: l) then 0 else if index l [0] == -1 then -1 else index l [0] + 1 from rfl]
    by_cases hb : b = 0
    · subst hb; simp
    · have h1 : ([0] : List UInt8).isPrefixOf (b :: l) = false := by show ((0 : UInt8) == b && List.isPrefixOf [] l) = false; rw [beq_eq_false_iff_ne.2 (Ne.symm hb)]; rfl
      rw [h1, List.contains_cons, show ((0 : UInt8) == b) = false from beq_eq_false_iff_ne.2 (Ne.symm hb), Bool.false_or, ← ih]
      by_cases h2 : index l [0] = -1
      · rw [h2]; rfl
      · rw [if_neg (by decide), if_neg (by simpa using h2), decide_eq_true (by omega), decide_eq_true (by omega)]
end Go.Proofs.YtbaipppmefencaaDoor.Mq

namespace Go.Proofs.YtbaipppmefencaaDoor.Mq
open Go.RowKit Go.Lib Go.Proofs.YtbaipppmefencaaDoor.P Go.Proofs.YtbaipppmefencaaDoorW.PrintWords

/-! ### what the printed functions of topic answer -/
abbrev dl (s : ByteArray) : List UInt8 := s.data.toList
theorem dl_size (s : ByteArray) : (dl s).length = s.size := (Go.Lib.size_eq s).symm
theorem toList_dl (s : ByteArray) : s.toList = dl s := Go.Lib.toList_data s
theorem wrap_nat (i : Nat) (h : i < 4611686018427387904) : wrap64 ((i : Int) + 1) = ((i + 1 : Nat) : Int) := by unfold wrap64; omega
theorem rd_at (L : List ByteArray) (i : Nat) (h : i < L.length) : rdOf ByteArray.empty L (i : Int) = L[i] := by
  unfold rdOf; simp [h]
theorem wild_f (a : ByteArray) (h : a.size < 4294967281) : topic_Wild.f a = some (wildB (dl a)) := by
  unfold topic_Wild.f strings_ContainsAny.f strings_IndexAny.f
  rw [if_pos rfl, if_pos h]
  simp only [Option.bind_some]
  rw [← wild_any]
theorem right_f (a : ByteArray) : text_Right.f a = some (rightB (dl a)) := by
  unfold text_Right.f rightB
  rw [dl_size]
  by_cases h : a.size ≤ 65535
  · rw [if_pos (by omega), decide_eq_true h, Bool.true_and]
    unfold utf8_ValidString.f strings_Contains.f
    rw [if_pos (by omega), if_pos (by omega)]
    simp only [Option.bind_some]
    show (if validD (dl a) = true then some (!Go.Lib.contains (dl a) [0]) else some false) = _
    rw [contains_zero]
    cases validD (dl a) <;> simp
  · rw [if_neg (by omega), decide_eq_false h, Bool.false_and]
theorem right_small {a : ByteArray} (h : rightB (dl a) = true) : a.size ≤ 65535 := by
  unfold rightB at h
  rw [dl_size] at h
  simp only [Bool.and_eq_true, decide_eq_true_eq] at h
  exact h.1
theorem name_f (a : ByteArray) : topic_Name.f a = some (nameB (dl a)) := by
  unfold topic_Name.f nameB
  rw [toList_dl, right_f]
  by_cases h : dl a = []
  · rw [if_pos h, h]; rfl
  · rw [if_neg h, show (dl a).isEmpty = false by simpa using h]
    simp only [Option.bind_some, Bool.not_false, Bool.true_and]
    cases hr : rightB (dl a)
    · simp
    · rw [if_pos rfl, wild_f a (by have := right_small hr; omega)]; simp
theorem prefix_f (a b : ByteArray) : stringslite_HasPrefix.f a b = some ((dl b).isPrefixOf (dl a)) := by
  unfold stringslite_HasPrefix.f
  by_cases h : b.size ≤ a.size
  · rw [if_pos (by omega), if_pos (by omega), if_pos (by omega)]
    congr 1
    rw [toList_dl, toList_dl, Int.toNat_natCast]
    have e : dl (a.extract 0 b.size) = (dl a).take (dl b).length := by
      rw [dl_size]; simp [dl, ByteArray.data_extract, Array.toList_extract]
    rw [e, Bool.eq_iff_iff, beq_iff_eq, List.isPrefixOf_iff_prefix, List.prefix_iff_eq_take]
    exact eq_comm
  · rw [if_neg (by omega)]
    congr 1
    symm
    rw [Bool.eq_false_iff]
    intro h2
    have h3 := (List.isPrefixOf_iff_prefix.1 h2).length_le
    rw [dl_size, dl_size] at h3
    exact h h3
theorem dl_extract (a : ByteArray) (n : Nat) : dl (a.extract n a.size) = (dl a).drop n := Go.Lib.ext_list a n
theorem cutPrefix_f (a b : ByteArray) : strings_CutPrefix.f a b = some (if (dl b).isPrefixOf (dl a) = true then (a.extract b.size a.size, true) else (a, false)) := by
  unfold strings_CutPrefix.f stringslite_CutPrefix.f
  rw [prefix_f]
  simp only [Option.bind_some]
  cases h : (dl b).isPrefixOf (dl a)
  · simp
  · have h3 := (List.isPrefixOf_iff_prefix.1 h).length_le
    rw [dl_size, dl_size] at h3
    rw [if_pos rfl, if_pos (by omega), if_pos (by omega), Int.toNat_natCast]; rfl
def sl : ByteArray := ⟨#[47]⟩
theorem split_f (a : ByteArray) (h : a.size < 4294967281) : ∃ L, strings_Split.f a (⟨#[47]⟩ : ByteArray) = some L ∧ L.map dl = lv (dl a) := by
  refine ⟨splitB sl 0 (countB a sl) a, ?_, ?_⟩
  · unfold strings_Split.f
    rw [if_pos h, if_pos (by decide)]; rfl
  · rw [show (splitB sl 0 (countB a sl) a).map dl = splitK [47] 0 (countB a sl) (dl a) from splitB_data sl 0 _ a]
    exact split_lv _ _ (Nat.le_refl _)
theorem cut_f (a : ByteArray) (h : a.size < 4294967281) : strings_Cut.f a (⟨#[47]⟩ : ByteArray) = some (⟨(cut (dl a) [47]).1.toArray⟩, ⟨(cut (dl a) [47]).2.1.toArray⟩, (cut (dl a) [47]).2.2) := by
  unfold strings_Cut.f; rw [if_pos h]
theorem mk_dl (l : List UInt8) : dl ⟨l.toArray⟩ = l := rfl
theorem mk_size (l : List UInt8) : (⟨l.toArray⟩ : ByteArray).size = l.length := by simp [ByteArray.size]
theorem lv_len (s : List UInt8) : (lv s).length ≤ s.length + 1 := by
  induction s with
  | nil => simp [lv]
  | cons c s ih =>
    by_cases h : c = 47
    · subst h; rw [lv_cons_slash]; simp; omega
    · rw [lv_cons c s h]
      have := lv_ne s
      cases hl : lv s with
      | nil => exact absurd hl this
      | cons x t => rw [hl] at ih; simp at ih ⊢; omega
theorem lv_mem_len (s : List UInt8) : ∀ x ∈ lv s, x.length ≤ s.length := by
  induction s with
  | nil => simp [lv]
  | cons c s ih =>
    intro x hx
    by_cases h : c = 47
    · subst h; rw [lv_cons_slash] at hx
      rcases List.mem_cons.1 hx with rfl | hx
      · simp
      · have := ih x hx; simp; omega
    · rw [lv_cons c s h] at hx
      have := lv_ne s
      cases hl : lv s with
      | nil => exact absurd hl this
      | cons y t =>
        rw [hl] at hx ih
        rcases List.mem_cons.1 hx with rfl | hx
        · have := ih y (by simp); simp at this ⊢; omega
        · have := ih x (by simp at hx; simp [hx]); simp; omega
theorem piece_size {a : ByteArray} {L : List ByteArray} (hL : L.map dl = lv (dl a)) (i : Nat) (h : i < L.length) : L[i].size ≤ a.size := by
  have := lv_mem_len (dl a) (dl L[i]) (by rw [← hL]; exact List.mem_map.2 ⟨_, List.getElem_mem h, rfl⟩)
  rw [dl_size, dl_size] at this
  exact this
theorem pieces_len {a : ByteArray} {L : List ByteArray} (hL : L.map dl = lv (dl a)) : L.length ≤ a.size + 1 := by
  have := lv_len (dl a)
  rw [← hL, List.length_map, dl_size] at this
  exact this
theorem drop_map (L : List ByteArray) (i : Nat) (h : i < L.length) : (L.drop i).map dl = dl L[i] :: (L.drop (i + 1)).map dl := by
  rw [List.drop_eq_getElem_cons h]; rfl

theorem plain_l0 (L : List ByteArray) (hs : ∀ i (h : i < L.length), L[i].size < 4294967281) (hlen : L.length < 4611686018427387904) : ∀ (d i : Nat), i + d = L.length →
    Ev (fun k => topic_plain.l0 k L L (L.length : Int) (i : Int)) (plainL ((L.drop i).map dl))
  | 0, i, hd => by
    obtain rfl : i = L.length := by omega
    rw [List.drop_length]
    exact Ev.step (f := fun _ => some true) (fun k => by simp only [topic_plain.l0]; rw [if_neg (by omega)]) (Ev.now _)
  | d + 1, i, hd => by
    have hi : i < L.length := by omega
    have ih := plain_l0 L hs hlen d (i + 1) (by omega)
    rw [drop_map L i hi]
    have hr := rd_at L i hi
    have hw := wild_f L[i] (hs i hi)
    have hj : ∀ b, Ev (fun k => topic_plain.j1 k L L[i] L (L.length : Int) (i : Int) b) ((b || !wildB (dl L[i])) && plainL ((L.drop (i + 1)).map dl)) := fun b => by
      cases b with
      | true => exact Ev.step (fun k => by simp only [topic_plain.j1, if_true]; rw [wrap_nat i (by omega)]) (by simpa using ih)
      | false =>
        refine Ev.step (f := fun k => if wildB (dl L[i]) = true then some false else topic_plain.l0 k L L (L.length : Int) ((i + 1 : Nat) : Int)) (fun k => by simp only [topic_plain.j1]; rw [if_neg (by decide), hw, wrap_nat i (by omega)]; rfl) ?_
        cases wildB (dl L[i])
        · simpa using ih
        · simpa using Ev.now false
    have he : (L.drop (i + 1)).map dl = [] ↔ i + 1 = L.length := by
      rw [List.map_eq_nil_iff, List.drop_eq_nil_iff]; omega
    have hstep : ∀ b, (decide (dl L[i] = [43]) || (decide (dl L[i] = [35]) && ((L.drop (i + 1)).map dl).isEmpty) || !wildB (dl L[i])) = (b || !wildB (dl L[i])) →
        (∀ k, topic_plain.l0 (k + 1) L L (L.length : Int) (i : Int) = topic_plain.j1 k L L[i] L (L.length : Int) (i : Int) b) →
        Ev (fun k => topic_plain.l0 k L L (L.length : Int) (i : Int)) (plainL (dl L[i] :: (L.drop (i + 1)).map dl)) := fun b hb hk => by
      rw [plainL, hb]
      exact Ev.step hk (hj b)
    have hopen : ∀ k, topic_plain.l0 (k + 1) L L (L.length : Int) (i : Int) = if dl L[i] = ([43] : List UInt8) then topic_plain.j1 k L L[i] L (L.length : Int) (i : Int) (dl L[i] == ([43] : List UInt8)) else if dl L[i] = ([35] : List UInt8) then topic_plain.j1 k L L[i] L (L.length : Int) (i : Int) ((i : Int) == wrap64 ((L.length : Int) - 1)) else topic_plain.j1 k L L[i] L (L.length : Int) (i : Int) false := fun k => by
      simp only [topic_plain.l0]
      rw [if_pos (by omega), if_pos (by omega), if_pos (by omega), hr, toList_dl]
    by_cases h1 : dl L[i] = [43]
    · exact hstep true (by rw [h1]; rfl) (fun k => by rw [hopen k, if_pos h1, h1]; rfl)
    · by_cases h2 : dl L[i] = [35]
      · refine hstep ((i : Int) == wrap64 ((L.length : Int) - 1)) ?_ (fun k => by rw [hopen k, if_neg h1, if_pos h2])
        rw [decide_eq_false h1, decide_eq_true h2, Bool.false_or, Bool.true_and]
        congr 1
        rw [Bool.eq_iff_iff, List.isEmpty_iff, he, beq_iff_eq]
        unfold wrap64; omega
      · exact hstep false (by rw [decide_eq_false h1, decide_eq_false h2]; rfl) (fun k => by rw [hopen k, if_neg h1, if_neg h2])
theorem plain_f (a : ByteArray) (h : a.size < 4294967281) : Ev (fun k => topic_plain.f k a) (plainB (dl a)) := by
  unfold topic_plain.f plainB
  rw [toList_dl]
  by_cases he : dl a = []
  · rw [he]; simp only [if_true]; exact Ev.now false
  · simp only [if_neg he, show (dl a).isEmpty = false by simpa using he, Bool.not_false, Bool.true_and]
    obtain ⟨L, hf, hL⟩ := split_f a h
    rw [hf, ← hL]
    have hp := piece_size hL
    have hq := pieces_len hL
    exact plain_l0 L (fun i hi => by have := hp i hi; omega) (by omega) L.length 0 (by omega)
end Go.Proofs.YtbaipppmefencaaDoor.Mq

namespace Go.Proofs.YtbaipppmefencaaDoor.P
open Go.RowKit Go.Proofs.YtbaipppmefencaaDoorW.PrintWords Go.Proofs.YtbaipppmefencaaDoorW.PrintLast Go.Proofs.YtbaipppmefencaaDoorW.PrintMore
attribute [local go_sem] max2_int min2_int max_two min_two max_three min_three max_four min_four
set_option linter.unusedVariables false
set_option linter.unusedSimpArgs false

/-! ### pouchref04_Levels: function 12 -/
def pouchref04_Levels.l0 : Nat → ByteArray → List ByteArray → Int → Int → Option (List ByteArray)
  | 0, _, _, _, _ => none
  | k + 1, x0, x3, x4, x5 => if x5 ≤ (x0.size : Int) then (if x5 = (x0.size : Int) then (if 0 ≤ x4 then (if x4 ≤ x5 then (if x3.length < 8796093022208 then (pouchref04_Levels.l0 k x0 (x3 ++ [x0.extract (x4 : Int).toNat (x5 : Int).toNat]) (wrap64 (x5 + 1)) (wrap64 (x5 + 1))) else (none)) else (none)) else (none)) else (if 0 ≤ x5 then (if x5 < (x0.size : Int) then (if (bt x0 x5) = 47 then (if 0 ≤ x4 then (if x4 ≤ x5 then (if x3.length < 8796093022208 then (pouchref04_Levels.l0 k x0 (x3 ++ [x0.extract (x4 : Int).toNat (x5 : Int).toNat]) (wrap64 (x5 + 1)) (wrap64 (x5 + 1))) else (none)) else (none)) else (none)) else (pouchref04_Levels.l0 k x0 x3 x4 (wrap64 (x5 + 1)))) else (none)) else (none))) else (some x3)
def pouchref04_Levels.f (k : Nat) (a0 : ByteArray) : Option (List ByteArray) := pouchref04_Levels.l0 k a0 ([] : List ByteArray) 0 0
theorem pouchref04_Levels.mono_l : ∀ k, (∀ y0 y1 y2 y3, LeO (pouchref04_Levels.l0 k y0 y1 y2 y3) (pouchref04_Levels.l0 (k + 1) y0 y1 y2 y3))
  | 0 => fun _ _ _ _ r h => by simp [pouchref04_Levels.l0] at h
  | k + 1 => by
    have ih0 := pouchref04_Levels.mono_l k
    · intro y0 y1 y2 y3
      unfold pouchref04_Levels.l0
      repeat' first
      | (with_reducible exact ih0 _ _ _ _)
      | (with_reducible exact LeO.refl _)
      | (with_reducible exact LeO.none _)
      | (with_reducible refine LeO.ite ?_ ?_)
      | (with_reducible refine LeO.bind ?_ (fun _ => ?_))
      | exact ih0 _ _ _ _
      | exact LeO.none _
      | refine LeO.ite ?_ ?_
      | refine LeO.bind ?_ (fun _ => ?_)
theorem pouchref04_Levels.mono : ∀ a0 k, LeO (pouchref04_Levels.f k a0) (pouchref04_Levels.f (k + 1) a0) := by
  intro a0 k
  have ih0 := pouchref04_Levels.mono_l k
  unfold pouchref04_Levels.f
  repeat' first
      | (with_reducible exact ih0 _ _ _ _)
      | (with_reducible exact LeO.refl _)
      | (with_reducible exact LeO.none _)
      | (with_reducible refine LeO.ite ?_ ?_)
      | (with_reducible refine LeO.bind ?_ (fun _ => ?_))
      | exact ih0 _ _ _ _
      | exact LeO.none _
      | refine LeO.ite ?_ ?_
      | refine LeO.bind ?_ (fun _ => ?_)
set_option maxHeartbeats 8000000 in
set_option maxRecDepth 100000 in
theorem pouchref04_Levels.calls (k : Nat) (a0 : ByteArray) (r : List ByteArray) (w : World) (h : pouchref04_Levels.f k a0 = some r) :
    Calls Tryd.prog 12 #[.string a0] w fun e w' => ∃ v0_ : Value, e = .returned (v0_) ∧ Kd.R Kd.string 9 w' w.heap.size (fun _ => True) v0_ r ∧ Below w.heap.size w w' := by
  have HB := Aside0.mk (Below.refl w.heap.size w)
  have H : (pouchref04_Levels.l0 k a0 ([] : List ByteArray) 0 0) = some r := h
  clear h
  have H' := Aside0.mk H
  clear H
  go_enter Tryd.func12, Tryd.ntmps12
  go_wp2
  go_loopg [3, 4, 5] k (fun kq v3 v4 v5 w' => ∃ (x3_1 : List ByteArray) (x4_1 : Int) (x5_1 : Int), v4 = .int .i64 x4_1 ∧ v5 = .int .i64 x5_1 ∧ Aside0 (pouchref04_Levels.l0 kq a0 x3_1 x4_1 x5_1 = some r) ∧ Aside0 (kq ≤ k) ∧ Aside0 (Kd.R Kd.string 9 w' w.heap.size (fun _ => True) v3 x3_1) ∧ Aside0 (Below w.heap.size w w'))
  case atStart => exact ⟨(([] : List ByteArray)), (0), (0), (by first | rfl | (simp; done) | (simp [*]; done)), (by first | rfl | (simp; done) | (simp [*]; done)), H', ⟨Nat.le_refl _⟩, ⟨by first | exact Kd.R_nil _ _ _ _ _ | exact Kd.N_nil _ _ _ _ _ | exact Kd.V_nil _ _ _ _ _ | exact Kd.Q_nil _ _ _ _ _ | exact Kd.S_nil _ _ _ _ _⟩, ⟨by repeat (first | (with_reducible first | exact HB.out | apply below_alloc | apply pw_below_drewN | apply below_drew1) | exact HB.out)⟩⟩
  case round =>
    clear H'
    try clear c1
    obtain ⟨x3_1, x4_1, x5_1, rfl, rfl, HA, HK1, HO_3, HB⟩ := hrel
    cases gk with
    | zero => exact absurd HA.out (by simp [pouchref04_Levels.l0])
    | succ k1 =>
      have H := HA.out
      clear HA
      simp only [pouchref04_Levels.l0] at H
      by_cases c2 : x5_1 ≤ (a0.size : Int)
      · rw [if_pos c2] at H
        have c2b0 : decide (x5_1 ≤ (a0.size : Int)) = true := decide_eq_true c2
        clear c2
        by_cases c3 : x5_1 = (a0.size : Int)
        · rw [if_pos c3] at H
          have c3b0 : (x5_1 == (a0.size : Int)) = true := beq_iff_eq.mpr c3
          have c3b1 : (x5_1 != (a0.size : Int)) = false := bne_eq_false_iff_eq.mpr c3
          clear c3
          by_cases c4 : 0 ≤ x4_1
          · rw [if_pos c4] at H
            have c4b0 := eq_true c4
            have c4b1 : decide (0 ≤ x4_1) = true := decide_eq_true c4
            clear c4
            by_cases c5 : x4_1 ≤ x5_1
            · rw [if_pos c5] at H
              have c5b0 := eq_true c5
              have c5b1 : decide (x4_1 ≤ x5_1) = true := decide_eq_true c5
              clear c5
              have c6b0 := eq_true (of_decide_eq_true (by first | (with_reducible assumption) | assumption) : x5_1 ≤ (a0.size : Int))
              by_cases c7 : x3_1.length < 8796093022208
              · rw [if_pos c7] at H
                have LMc7 := Aside0.mk c7
                clear c7
                obtain ⟨y105, hy105⟩ : ∃ y_ : List ByteArray, y_ = (x3_1 ++ [a0.extract (x4_1 : Int).toNat (x5_1 : Int).toNat]) := ⟨_, rfl⟩
                replace H : (pouchref04_Levels.l0 k1 a0 y105 (wrap64 (x5_1 + 1)) (wrap64 (x5_1 + 1))) = some r := by first | (rw [hy105]; with_reducible exact H) | (have H2_ := (Option.bind_some _ _).symm.trans H; rw [hy105]; with_reducible exact H2_) | (have H2_ := (Option.bind_some _ _).symm.trans H; with_reducible exact H2_) | with_reducible exact H | (rw [hy105]; exact H) | exact H
                have Ny105 := Aside0.mk hy105
                clear hy105
                have H' := Aside0.mk H
                clear H
                go_wp2_with (first | ((with_reducible refine gate_builtin (b := .append) (xs := #[.tmp 22, .tmp 27]) rfl ?_); at_builtin; refine Kd.R_append Kd.string (w0 := w) w.heap.size rfl (.tmp 22) (.tmp 27) 23 9 (.string ⟨#[]⟩) 16 rfl Tryd.underlying23 info9 rfl (by decide) (by omega) u3 x3_1 (a0.extract (x4_1 : Int).toNat (x5_1 : Int).toNat) [.string (a0.extract (x4_1 : Int).toNat (x5_1 : Int).toNat)] (fun _ => True) (fun _ => False) rfl rfl ?aP (fun _ hk => hk.elim) ?aF ?aO ?aB ?aS ?aL ?_; (case aP => exact rfl); (case aB => exact (by repeat (first | (with_reducible first | exact HB.out | apply below_alloc | apply pw_below_drewN | apply below_drew1) | exact HB.out))); (case aF => exact (fun _ _ => trivial)); (case aO => exact (by (with_reducible repeat (first | apply Kd.R_alloc | apply Kd.R_drewN | apply Kd.R_drew)); exact HO_3.out)); (case aS => exact (below_size (by repeat (first | (with_reducible first | exact HB.out | apply below_alloc | apply pw_below_drewN | apply below_drew1) | exact HB.out)))); (case aL => have := LMc7.out; omega); intro v106 w8 ho hb hg hat; rw [← Ny105.out] at ho; have n0_ := Aside0.mk (hb); have n1_ := Aside0.mk (ho); clear HB; clear HO_3; have HB := n0_; have HO107 := n1_; clear n0_ n1_; clear ho hb hg hat))
                go_roundg k1
                case measure => have := HK1.out; omega
                case rel => exact ⟨(y105), (wrap64 (x5_1 + 1)), (wrap64 (x5_1 + 1)), (by first | rfl | (simp; done) | (simp [*]; done)), (by first | rfl | (simp; done) | (simp [*]; done)), H', ⟨by have := HK1.out; omega⟩, ⟨by (with_reducible repeat (first | apply Kd.R_alloc | apply Kd.R_drewN | apply Kd.R_drew)); exact HO107.out⟩, ⟨by repeat (first | (with_reducible first | exact HB.out | apply below_alloc | apply pw_below_drewN | apply below_drew1) | exact HB.out)⟩⟩
              · rw [if_neg c7] at H
                exact absurd H (by simp)
            · rw [if_neg c5] at H
              exact absurd H (by simp)
          · rw [if_neg c4] at H
            exact absurd H (by simp)
        · rw [if_neg c3] at H
          have c3b0 : (x5_1 == (a0.size : Int)) = false := beq_eq_false_iff_ne.mpr c3
          have c3b1 : (x5_1 != (a0.size : Int)) = true := bne_iff_ne.mpr c3
          by_cases c9 : 0 ≤ x5_1
          · rw [if_pos c9] at H
            have c9b0 : decide (0 ≤ x5_1) = true := decide_eq_true c9
            clear c9
            by_cases c10 : x5_1 < (a0.size : Int)
            · rw [if_pos c10] at H
              have c10b0 : decide (x5_1 < (a0.size : Int)) = true := decide_eq_true c10
              clear c10
              by_cases c12 : (bt a0 x5_1) = 47
              · rw [if_pos c12] at H
                have c12b0 : ((bt a0 x5_1) == 47) = true := beq_iff_eq.mpr c12
                have c12b1 : ((bt a0 x5_1) != 47) = false := bne_eq_false_iff_eq.mpr c12
                clear c12
                by_cases c13 : 0 ≤ x4_1
                · rw [if_pos c13] at H
                  have c13b0 := eq_true c13
                  have c13b1 : decide (0 ≤ x4_1) = true := decide_eq_true c13
                  clear c13
                  by_cases c14 : x4_1 ≤ x5_1
                  · rw [if_pos c14] at H
                    have c14b0 := eq_true c14
                    have c14b1 : decide (x4_1 ≤ x5_1) = true := decide_eq_true c14
                    clear c14
                    have c15b0 := eq_true (of_decide_eq_true (by first | (with_reducible assumption) | assumption) : x5_1 ≤ (a0.size : Int))
                    by_cases c16 : x3_1.length < 8796093022208
                    · rw [if_pos c16] at H
                      have LMc16 := Aside0.mk c16
                      clear c16
                      obtain ⟨y108, hy108⟩ : ∃ y_ : List ByteArray, y_ = (x3_1 ++ [a0.extract (x4_1 : Int).toNat (x5_1 : Int).toNat]) := ⟨_, rfl⟩
                      replace H : (pouchref04_Levels.l0 k1 a0 y108 (wrap64 (x5_1 + 1)) (wrap64 (x5_1 + 1))) = some r := by first | (rw [hy108]; with_reducible exact H) | (have H2_ := (Option.bind_some _ _).symm.trans H; rw [hy108]; with_reducible exact H2_) | (have H2_ := (Option.bind_some _ _).symm.trans H; with_reducible exact H2_) | with_reducible exact H | (rw [hy108]; exact H) | exact H
                      have Ny108 := Aside0.mk hy108
                      clear hy108
                      have H' := Aside0.mk H
                      clear H
                      have p11 : 0 ≤ (x5_1 : Int) := of_decide_eq_true (by first | (with_reducible assumption) | assumption)
                      have q11 : x5_1 < (a0.size : Int) := of_decide_eq_true (by first | (with_reducible assumption) | assumption)
                      have hx11 := bt_at a0 x5_1
                      replace p11 := eq_true p11
                      replace q11 := eq_true q11
                      go_wp2_with (first | ((with_reducible refine gate_builtin (b := .append) (xs := #[.tmp 22, .tmp 27]) rfl ?_); at_builtin; refine Kd.R_append Kd.string (w0 := w) w.heap.size rfl (.tmp 22) (.tmp 27) 23 9 (.string ⟨#[]⟩) 16 rfl Tryd.underlying23 info9 rfl (by decide) (by omega) u3 x3_1 (a0.extract (x4_1 : Int).toNat (x5_1 : Int).toNat) [.string (a0.extract (x4_1 : Int).toNat (x5_1 : Int).toNat)] (fun _ => True) (fun _ => False) rfl rfl ?aP (fun _ hk => hk.elim) ?aF ?aO ?aB ?aS ?aL ?_; (case aP => exact rfl); (case aB => exact (by repeat (first | (with_reducible first | exact HB.out | apply below_alloc | apply pw_below_drewN | apply below_drew1) | exact HB.out))); (case aF => exact (fun _ _ => trivial)); (case aO => exact (by (with_reducible repeat (first | apply Kd.R_alloc | apply Kd.R_drewN | apply Kd.R_drew)); exact HO_3.out)); (case aS => exact (below_size (by repeat (first | (with_reducible first | exact HB.out | apply below_alloc | apply pw_below_drewN | apply below_drew1) | exact HB.out)))); (case aL => have := LMc16.out; omega); intro v109 w17 ho hb hg hat; rw [← Ny108.out] at ho; have n0_ := Aside0.mk (hb); have n1_ := Aside0.mk (ho); clear HB; clear HO_3; have HB := n0_; have HO110 := n1_; clear n0_ n1_; clear ho hb hg hat))
                      go_roundg k1
                      case measure => have := HK1.out; omega
                      case rel => exact ⟨(y108), (wrap64 (x5_1 + 1)), (wrap64 (x5_1 + 1)), (by first | rfl | (simp; done) | (simp [*]; done)), (by first | rfl | (simp; done) | (simp [*]; done)), H', ⟨by have := HK1.out; omega⟩, ⟨by (with_reducible repeat (first | apply Kd.R_alloc | apply Kd.R_drewN | apply Kd.R_drew)); exact HO110.out⟩, ⟨by repeat (first | (with_reducible first | exact HB.out | apply below_alloc | apply pw_below_drewN | apply below_drew1) | exact HB.out)⟩⟩
                    · rw [if_neg c16] at H
                      exact absurd H (by simp)
                  · rw [if_neg c14] at H
                    exact absurd H (by simp)
                · rw [if_neg c13] at H
                  exact absurd H (by simp)
              · rw [if_neg c12] at H
                have c12b0 : ((bt a0 x5_1) == 47) = false := beq_eq_false_iff_ne.mpr c12
                have c12b1 : ((bt a0 x5_1) != 47) = true := bne_iff_ne.mpr c12
                have H' := Aside0.mk H
                clear H
                have p11 : 0 ≤ (x5_1 : Int) := of_decide_eq_true (by first | (with_reducible assumption) | assumption)
                have q11 : x5_1 < (a0.size : Int) := of_decide_eq_true (by first | (with_reducible assumption) | assumption)
                have hx11 := bt_at a0 x5_1
                replace p11 := eq_true p11
                replace q11 := eq_true q11
                go_wp2
                go_roundg k1
                case measure => have := HK1.out; omega
                case rel => exact ⟨(x3_1), (x4_1), (wrap64 (x5_1 + 1)), (by first | rfl | (simp; done) | (simp [*]; done)), (by first | rfl | (simp; done) | (simp [*]; done)), H', ⟨by have := HK1.out; omega⟩, ⟨by (with_reducible repeat (first | apply Kd.R_alloc | apply Kd.R_drewN | apply Kd.R_drew)); exact HO_3.out⟩, ⟨by repeat (first | (with_reducible first | exact HB.out | apply below_alloc | apply pw_below_drewN | apply below_drew1) | exact HB.out)⟩⟩
            · rw [if_neg c10] at H
              exact absurd H (by simp)
          · rw [if_neg c9] at H
            exact absurd H (by simp)
      · rw [if_neg c2] at H
        have c2b0 : decide (x5_1 ≤ (a0.size : Int)) = false := decide_eq_false c2
        clear c2
        obtain rfl := Option.some.inj H
        go_wp2
        go_ret
        exact ⟨_, by first | rfl | (simp [errW_none, errW_some] <;> rfl) | (simp [*, errW_none, errW_some] <;> rfl), by (with_reducible repeat (first | apply Kd.R_alloc | apply Kd.R_drewN | apply Kd.R_drew)); exact HO_3.out, by repeat (first | (with_reducible first | exact HB.out | apply below_alloc | apply pw_below_drewN | apply below_drew1) | exact HB.out)⟩

end Go.Proofs.YtbaipppmefencaaDoor.P

namespace Go.Proofs.YtbaipppmefencaaDoor.Mq
open Go.RowKit Go.Lib Go.Proofs.YtbaipppmefencaaDoor.P Go.Proofs.YtbaipppmefencaaDoorW.PrintWords

/-! ### filters, shares, and who wants what -/
theorem cut_len (s sep : List UInt8) : (cut s sep).1.length ≤ s.length ∧ (cut s sep).2.1.length ≤ s.length := by
  unfold cut
  split
  · simp; omega
  · simp
theorem share_dl : dl (⟨#[36, 115, 104, 97, 114, 101, 47]⟩ : ByteArray) = shareP := rfl
theorem share_f (a : ByteArray) : strings_CutPrefix.f a (⟨#[36, 115, 104, 97, 114, 101, 47]⟩ : ByteArray) = some (if sharedB (dl a) = true then (a.extract 7 a.size, true) else (a, false)) := by
  rw [cutPrefix_f, share_dl]; rfl
theorem filter_f (a : ByteArray) : Ev (fun k => topic_Filter.f k a) (filterB (dl a)) := by
  unfold topic_Filter.f filterB
  rw [right_f, share_f]
  simp only [Option.bind_some]
  cases hr : rightB (dl a)
  · simpa using Ev.now false
  · have hs := right_small hr
    rw [Bool.true_and]
    simp only [if_true]
    cases hsh : sharedB (dl a)
    · simp only [Bool.false_eq_true, if_false]
      exact Ev.bind (plain_f a (by omega)) (Ev.now _)
    · simp only [if_true]
      have hz : (a.extract 7 a.size).size < 4294967281 := by have := Go.Lib.ext_size a 7; omega
      rw [cut_f _ hz, dl_extract]
      simp only [Option.bind_some]
      have hl := cut_len ((dl a).drop 7) [47]
      have hd : ((dl a).drop 7).length ≤ 65535 := by rw [List.length_drop, dl_size]; omega
      cases hc : (cut ((dl a).drop 7) [47]).2.2
      · simpa using Ev.now false
      · simp only [if_true, Bool.true_and]
        rw [toList_dl, mk_dl]
        by_cases he : (cut ((dl a).drop 7) [47]).1 = []
        · simp only [he, if_true]; simpa using Ev.now false
        · simp only [if_neg he, show ((cut ((dl a).drop 7) [47]).1).isEmpty = false by simpa using he, Bool.not_false, Bool.true_and]
          rw [wild_f _ (by rw [mk_size]; omega), mk_dl]
          simp only [Option.bind_some]
          cases wildB (cut ((dl a).drop 7) [47]).1
          · simp only [Bool.false_eq_true, if_false, Bool.not_false, Bool.true_and]
            have := plain_f ⟨(cut ((dl a).drop 7) [47]).2.1.toArray⟩ (by rw [mk_size]; omega)
            rw [mk_dl] at this
            exact Ev.bind this (Ev.now _)
          · simpa using Ev.now false
theorem filter_right {s : List UInt8} (h : filterB s = true) : rightB s = true := by
  unfold filterB at h
  rw [Bool.and_eq_true] at h
  exact h.1
theorem filter_cut {s : List UInt8} (h : filterB s = true) (hs : sharedB s = true) : (cut (s.drop 7) [47]).2.2 = true := by
  unfold filterB at h
  rw [Bool.and_eq_true, if_pos hs, Bool.and_eq_true] at h
  exact h.2.1
/-- Of a filter: whose share, of what. -/
theorem shared_f (a : ByteArray) : Ev (fun k => topic_Shared.f k a) (if sharedB (dl a) = true then (if filterB (dl a) = true then (⟨(cut ((dl a).drop 7) [47]).1.toArray⟩, ⟨(cut ((dl a).drop 7) [47]).2.1.toArray⟩, (cut ((dl a).drop 7) [47]).2.2) else ((⟨#[]⟩ : ByteArray), (⟨#[]⟩ : ByteArray), false)) else ((⟨#[]⟩ : ByteArray), (⟨#[]⟩ : ByteArray), false)) := by
  unfold topic_Shared.f
  rw [share_f]
  simp only [Option.bind_some]
  cases hsh : sharedB (dl a)
  · simp only [Bool.false_eq_true, if_false]; exact Ev.now _
  · simp only [if_true]
    refine Ev.bind (filter_f a) ?_
    cases hf : filterB (dl a)
    · simp only [Bool.false_eq_true, if_false]; exact Ev.now _
    · simp only [if_true]
      have := right_small (filter_right hf)
      rw [cut_f _ (by have := Go.Lib.ext_size a 7; omega), dl_extract]
      exact Ev.now _
theorem match_l0 (F M : List ByteArray) (hF : F.length < 4611686018427387904) (hM : M.length < 4611686018427387904) : ∀ (d i : Nat), i + d = F.length → i ≤ M.length →
    Ev (fun k => topic_Match.l0 k F M F (F.length : Int) (i : Int)) (matchL ((F.drop i).map dl) ((M.drop i).map dl))
  | 0, i, hd, hm => by
    obtain rfl : i = F.length := by omega
    rw [List.drop_length]
    refine Ev.step (f := fun _ => some ((F.length : Int) == (M.length : Int))) (fun k => by simp only [topic_Match.l0]; rw [if_neg (by omega)]) ?_
    rw [show matchL (([] : List ByteArray).map dl) ((M.drop F.length).map dl) = ((F.length : Int) == (M.length : Int)) from ?_]
    · exact Ev.now _
    · show ((M.drop F.length).map dl).isEmpty = _
      rw [Bool.eq_iff_iff, List.isEmpty_iff, List.map_eq_nil_iff, List.drop_eq_nil_iff, beq_iff_eq]
      omega
  | d + 1, i, hd, hm => by
    have hi : i < F.length := by omega
    rw [drop_map F i hi]
    have hr := rd_at F i hi
    have hopen : ∀ k, topic_Match.l0 (k + 1) F M F (F.length : Int) (i : Int) = if dl F[i] = ([35] : List UInt8) then some true else if (i : Int) ≥ (M.length : Int) then some false else if dl F[i] = ([43] : List UInt8) then topic_Match.l0 k F M F (F.length : Int) ((i + 1 : Nat) : Int) else if (i : Int) < (M.length : Int) then (if dl F[i] = (rdOf ByteArray.empty M (i : Int)).toList then topic_Match.l0 k F M F (F.length : Int) ((i + 1 : Nat) : Int) else some false) else none := fun k => by
      simp only [topic_Match.l0]
      rw [if_pos (by omega), if_pos (by omega), if_pos (by omega), hr, toList_dl, wrap_nat i (by omega)]
    by_cases h1 : dl F[i] = [35]
    · refine Ev.step (f := fun _ => some true) (fun k => by rw [hopen k, if_pos h1]) ?_
      rw [h1, matchL_all]
      exact Ev.now _
    · by_cases h2 : i < M.length
      · have ih := match_l0 F M hF hM d (i + 1) (by omega) (by omega)
        rw [drop_map M i h2, matchL_step _ _ _ _ h1]
        have hrm := rd_at M i h2
        by_cases h3 : dl F[i] = [43]
        · rw [decide_eq_true h3, Bool.true_or, Bool.true_and]
          exact Ev.step (fun k => by rw [hopen k, if_neg h1, if_neg (by omega), if_pos h3]) ih
        · rw [decide_eq_false h3, Bool.false_or]
          by_cases h4 : dl F[i] = dl M[i]
          · rw [decide_eq_true h4, Bool.true_and]
            exact Ev.step (fun k => by rw [hopen k, if_neg h1, if_neg (by omega), if_neg h3, if_pos (by omega), hrm, toList_dl, if_pos h4]) ih
          · rw [decide_eq_false h4, Bool.false_and]
            exact Ev.step (f := fun _ => some false) (fun k => by rw [hopen k, if_neg h1, if_neg (by omega), if_neg h3, if_pos (by omega), hrm, toList_dl, if_neg h4]) (Ev.now _)
      · have : M.drop i = [] := List.drop_eq_nil_of_le (by omega)
        rw [this, List.map_nil, matchL_none _ _ h1]
        exact Ev.step (f := fun _ => some false) (fun k => by rw [hopen k, if_neg h1, if_pos (by omega)]) (Ev.now _)
theorem match_j2 (a b : ByteArray) (ha : a.size < 4294967281) (hb : b.size < 4294967281) (t : Bool) : Ev (fun k => topic_Match.j2 k a b t) (!t && matchL (lv (dl a)) (lv (dl b))) := by
  cases t with
  | true => exact Ev.step (f := fun _ => some false) (fun k => by simp only [topic_Match.j2, if_true]) (by simpa using Ev.now false)
  | false =>
    obtain ⟨F, hf, hF⟩ := split_f a ha
    obtain ⟨M, hm, hM⟩ := split_f b hb
    have h1 := pieces_len hF
    have h2 := pieces_len hM
    refine Ev.step (f := fun k => topic_Match.l0 k F M F (F.length : Int) 0) (fun k => by simp only [topic_Match.j2]; rw [if_neg (by decide), hf]; simp only [Option.bind_some]; rw [hm]; simp only [Option.bind_some]) ?_
    rw [← hF, ← hM]
    simpa using match_l0 F M (by omega) (by omega) F.length 0 (by omega) (by omega)
theorem match_j1 (a b : ByteArray) (ha : a.size < 4294967281) (hb : b.size < 4294967281) (h1 : dl b ≠ []) (h0 : dl a ≠ []) : Ev (fun k => topic_Match.j1 k a b) (!(decide ((dl b).head? = some 36) && wildB ((dl a).take 1)) && matchL (lv (dl a)) (lv (dl b))) := by
  have hp : strings_HasPrefix.f b (⟨#[36]⟩ : ByteArray) = some (decide ((dl b).head? = some 36)) := by
    unfold strings_HasPrefix.f
    rw [prefix_f]
    simp only [Option.bind_some]
    congr 1
    cases hb2 : dl b with
    | nil => exact absurd hb2 h1
    | cons c t =>
      show ((36 : UInt8) == c && List.isPrefixOf [] t) = _
      rw [show List.isPrefixOf ([] : List UInt8) t = true by cases t <;> rfl, Bool.and_true, Bool.eq_iff_iff]
      simp only [List.head?_cons, Option.some.injEq, beq_iff_eq, decide_eq_true_eq]
      exact eq_comm
  have hsz : 1 ≤ a.size := by
    rw [← dl_size]
    cases h : dl a with
    | nil => exact absurd h h0
    | cons _ _ => simp
  by_cases hd : (dl b).head? = some 36
  · have hx : dl (a.extract 0 1) = (dl a).take 1 := by simp [dl, ByteArray.data_extract, Array.toList_extract]
    have hw := wild_f (a.extract 0 1) (by rw [← dl_size, hx]; simp; omega)
    rw [hx] at hw
    rw [decide_eq_true hd, Bool.true_and]
    exact Ev.step (fun k => by simp only [topic_Match.j1]; rw [hp, decide_eq_true hd]; simp only [Option.bind_some, if_true]; rw [if_pos (by decide), if_pos (by omega), hw]; simp only [Option.bind_some]) (match_j2 a b ha hb _)
  · rw [decide_eq_false hd, Bool.false_and]
    exact Ev.step (fun k => by simp only [topic_Match.j1]; rw [hp, decide_eq_false hd]; simp only [Option.bind_some]; rw [if_neg (by decide)]) (match_j2 a b ha hb _)
theorem plainB_ne {s : List UInt8} (h : plainB s = true) : s ≠ [] := by
  rintro rfl; simp [plainB] at h
theorem target_ne {s : List UInt8} (h : filterB s = true) : target s ≠ [] := by
  unfold target
  unfold filterB at h
  rw [Bool.and_eq_true] at h
  by_cases hs : sharedB s = true
  · rw [if_pos hs]
    have h2 := h.2
    rw [if_pos hs] at h2
    simp only [Bool.and_eq_true] at h2
    exact plainB_ne h2.2.2.2
  · rw [if_neg hs]
    have h2 := h.2
    rw [if_neg hs] at h2
    exact plainB_ne h2
theorem match_f (a b : ByteArray) : Ev (fun k => topic_Match.f k a b) (matchB (dl a) (dl b)) := by
  unfold topic_Match.f matchB
  refine Ev.bind (filter_f a) ?_
  have hno : Ev (fun k => topic_Match.j0 k a b true) false := Ev.step (f := fun _ => some false) (fun k => by simp only [topic_Match.j0, if_true]) (Ev.now _)
  cases hf : filterB (dl a)
  · simpa using hno
  · simp only [if_true, Bool.true_and]
    rw [name_f]
    simp only [Option.bind_some]
    cases hn : nameB (dl b)
    · simpa using hno
    · simp only [Bool.not_true, Bool.true_and]
      have h1 : dl b ≠ [] := by intro h; rw [h] at hn; simp [nameB] at hn
      have hb : b.size ≤ 65535 := by
        unfold nameB at hn
        simp only [Bool.and_eq_true] at hn
        exact right_small hn.2.1
      have ha := right_small (filter_right hf)
      have ht := target_ne hf
      refine Ev.step (f := fun k => (topic_Shared.f k a).bind fun bt143 => if bt143.2.2 = true then topic_Match.j1 k bt143.2.1 b else topic_Match.j1 k a b) (fun k => by simp only [topic_Match.j0]; rw [if_neg (by decide)]) ?_
      refine Ev.bind (shared_f a) ?_
      unfold target at ht ⊢
      by_cases hs : sharedB (dl a) = true
      · have hc := filter_cut hf hs
        simp only [if_pos hs, if_pos hf] at ht ⊢
        rw [hc]
        simp only [if_true]
        have hl := cut_len ((dl a).drop 7) [47]
        have hd : ((dl a).drop 7).length ≤ 65535 := by rw [List.length_drop, dl_size]; omega
        exact match_j1 ⟨(cut ((dl a).drop 7) [47]).2.1.toArray⟩ b (by rw [mk_size]; omega) (by omega) h1 ht
      · simp only [if_neg hs] at ht ⊢
        exact match_j1 a b (by omega) (by omega) h1 ht

/-! ### the reference's levels -/
theorem bt_dl (s : ByteArray) (i : Nat) (h : i < s.size) : ∃ c : UInt8, (dl s)[i]? = some c ∧ bt s (i : Int) = (c.toNat : Int) := by
  refine ⟨s[i], Go.Lib.data_getElem? s i h, ?_⟩
  unfold bt; simp [h]
theorem levels_l0 (s : ByteArray) (hs : s.size < 4294967281) : ∀ (d : Nat) (acc : List ByteArray) (m i : Nat), i + d = s.size → m ≤ i → acc.length + (i - m) ≤ i + 1 → (∀ j, m ≤ j → j < i → (dl s)[j]? ≠ some 47) →
    ∃ L, Ev (fun k => pouchref04_Levels.l0 k s acc (m : Int) (i : Int)) (acc ++ L) ∧ L.map dl = lv ((dl s).drop m)
  | 0, acc, m, i, hd, hm, hl, hno => by
    obtain rfl : i = s.size := by omega
    refine ⟨[s.extract m s.size], ?_, ?_⟩
    · refine Ev.step (fun k => by
        simp only [pouchref04_Levels.l0]
        rw [if_pos (by omega), if_pos trivial, if_pos (by omega), if_pos (by omega), if_pos (by omega), Int.toNat_natCast, Int.toNat_natCast, wrap_nat _ (by omega)]) ?_
      exact Ev.step (f := fun _ => some (acc ++ [s.extract m s.size])) (fun k => by simp only [pouchref04_Levels.l0]; rw [if_neg (by omega)]) (Ev.now _)
    · rw [lv_one]
      · simp only [List.map_cons, List.map_nil, dl_extract]
      · intro h
        obtain ⟨j, hj⟩ := List.mem_iff_getElem?.1 h
        rw [List.getElem?_drop] at hj
        have hlt : m + j < s.size := by
          rw [← dl_size]
          exact (List.getElem?_eq_some_iff.1 hj).1
        exact hno (m + j) (by omega) (by omega) hj
  | d + 1, acc, m, i, hd, hm, hl, hno => by
    have hi : i < s.size := by omega
    obtain ⟨c, hc, hb⟩ := bt_dl s i hi
    by_cases h47 : c = 47
    · obtain ⟨L, hE, hL⟩ := levels_l0 s hs d (acc ++ [s.extract m i]) (i + 1) (i + 1) (by omega) (Nat.le_refl _) (by simp; omega) (fun j h1 h2 => by omega)
      refine ⟨s.extract m i :: L, ?_, ?_⟩
      · rw [show acc ++ s.extract m i :: L = (acc ++ [s.extract m i]) ++ L by simp]
        refine Ev.step (fun k => by
          simp only [pouchref04_Levels.l0]
          rw [if_pos (by omega), if_neg (by omega), if_pos (by omega), if_pos (by omega), hb, if_pos (by rw [h47]; rfl), if_pos (by omega), if_pos (by omega), if_pos (by omega), Int.toNat_natCast, Int.toNat_natCast, wrap_nat _ (by omega)]) hE
      · rw [List.map_cons, hL]
        have e : (dl s).drop m = dl (s.extract m i) ++ 47 :: (dl s).drop (i + 1) := by
          have h1 : dl (s.extract m i) = ((dl s).drop m).take (i - m) := by
            simp [dl, ByteArray.data_extract, Array.toList_extract, List.take_drop, Nat.add_sub_cancel' hm]
          rw [h1]
          have h2 : 47 :: (dl s).drop (i + 1) = ((dl s).drop m).drop (i - m) := by
            rw [List.drop_drop, Nat.add_sub_cancel' hm]
            have hlt : i < (dl s).length := by rw [dl_size]; exact hi
            rw [List.drop_eq_getElem_cons hlt, (List.getElem?_eq_some_iff.1 hc).2, h47]
          rw [h2, List.take_append_drop]
        rw [e, lv_slash]
        intro h
        obtain ⟨j, hj⟩ := List.mem_iff_getElem?.1 h
        have h1 : dl (s.extract m i) = ((dl s).drop m).take (i - m) := by
          simp [dl, ByteArray.data_extract, Array.toList_extract, List.take_drop, Nat.add_sub_cancel' hm]
        rw [h1] at hj
        rw [List.getElem?_take] at hj
        split at hj
        · rw [List.getElem?_drop] at hj
          exact hno (m + j) (by omega) (by omega) hj
        · cases hj
    · obtain ⟨L, hE, hL⟩ := levels_l0 s hs d acc m (i + 1) (by omega) (by omega) (by omega) (fun j h1 h2 h3 => by
        by_cases e : j = i
        · subst e; rw [hc] at h3; exact h47 (Option.some.inj h3)
        · exact hno j h1 (by omega) h3)
      refine ⟨L, ?_, hL⟩
      refine Ev.step (fun k => by
        simp only [pouchref04_Levels.l0]
        rw [if_pos (by omega), if_neg (by omega), if_pos (by omega), if_pos (by omega), hb, if_neg (fun h => h47 (UInt8.toNat_inj.1 (by have : (47 : UInt8).toNat = 47 := rfl; omega))), wrap_nat _ (by omega)]) hE
theorem levels_f (s : ByteArray) (hs : s.size < 4294967281) : ∃ L, Ev (fun k => pouchref04_Levels.f k s) L ∧ L.map dl = lv (dl s) := by
  obtain ⟨L, h1, h2⟩ := levels_l0 s hs s.size [] 0 0 (by omega) (Nat.le_refl _) (by simp) (fun j h1 h2 => by omega)
  exact ⟨L, by simpa [pouchref04_Levels.f] using h1, by simpa using h2⟩
end Go.Proofs.YtbaipppmefencaaDoor.Mq

namespace Go.Proofs.YtbaipppmefencaaDoor.Mq
open Go.RowKit Go.Lib Go.Proofs.YtbaipppmefencaaDoor.P Go.Proofs.YtbaipppmefencaaDoorW.PrintWords

/-! ### texts that are right by their making -/
/-- ASCII signs but 0, and the one sign of two bytes. -/
inductive Gv : List UInt8 → Prop
  | nil : Gv []
  | one (c : UInt8) (s : List UInt8) : 0 < c.toNat → c.toNat < 128 → Gv s → Gv (c :: s)
  | two (s : List UInt8) : Gv s → Gv (195 :: 164 :: s)
theorem Gv.append {a b : List UInt8} (ha : Gv a) (hb : Gv b) : Gv (a ++ b) := by
  induction ha with
  | nil => exact hb
  | one c s h0 h1 _ ih => exact .one c _ h0 h1 ih
  | two s _ ih => exact .two _ ih
theorem valid_two (s : List UInt8) : validD (195 :: 164 :: s) = validD s := by
  rw [validD_lead (195 :: 164 :: s) (by simp) (show 128 ≤ (195 : UInt8).toNat by decide)]
  have e : checkN (195 :: 164 :: s).length (([195, 164] ++ s).getD 1 0).toNat (([195, 164] ++ s).getD 2 0).toNat (([195, 164] ++ s).getD 3 0).toNat (firstT (([195, 164] ++ s).getD 0 0).toNat % 8) (accLo (firstT (([195, 164] ++ s).getD 0 0).toNat / 16)) (accHi (firstT (([195, 164] ++ s).getD 0 0).toNat / 16)) = some 2 := by
    have e1 : (([195, 164] ++ s).getD 0 0).toNat = 195 := rfl
    have e2 : (([195, 164] ++ s).getD 1 0).toNat = 164 := rfl
    have e3 : firstT 195 % 8 = 2 := by decide
    have e4 : accLo (firstT 195 / 16) = 128 := by decide
    have e5 : accHi (firstT 195 / 16) = 191 := by decide
    rw [e1, e2, e3, e4, e5]
    unfold checkN
    rw [if_pos rfl, if_neg (by simp)]
  have e' : checkN (195 :: 164 :: s).length ((195 :: 164 :: s).getD 1 0).toNat ((195 :: 164 :: s).getD 2 0).toNat ((195 :: 164 :: s).getD 3 0).toNat (firstT ((195 :: 164 :: s).getD 0 0).toNat % 8) (accLo (firstT ((195 :: 164 :: s).getD 0 0).toNat / 16)) (accHi (firstT ((195 :: 164 :: s).getD 0 0).toNat / 16)) = some 2 := e
  rw [e']; rfl
theorem Gv.valid {s : List UInt8} (h : Gv s) : validD s = true := by
  induction h with
  | nil => rfl
  | one c s _ h1 _ ih => rw [validD_cons c s h1]; exact ih
  | two s _ ih => rw [valid_two]; exact ih
theorem Gv.zero {s : List UInt8} (h : Gv s) : s.contains 0 = false := by
  induction h with
  | nil => rfl
  | one c s h0 _ _ ih =>
    rw [List.contains_cons, ih, Bool.or_false, beq_eq_false_iff_ne]
    rintro rfl
    exact absurd h0 (by decide)
  | two s _ ih => rw [List.contains_cons, List.contains_cons, ih]; rfl
theorem Gv.right {s : List UInt8} (h : Gv s) (hl : s.length ≤ 65535) : rightB s = true := by
  unfold rightB
  rw [decide_eq_true hl, h.valid, h.zero]; rfl
/-- The signs of a name that is made: a b c d e, the slash, the sign of two bytes. -/
inductive Gd : List UInt8 → Prop
  | nil : Gd []
  | one (c : UInt8) (s : List UInt8) : c ∈ ([97, 98, 99, 100, 101, 47, 116] : List UInt8) → Gd s → Gd (c :: s)
  | two (s : List UInt8) : Gd s → Gd (195 :: 164 :: s)
theorem Gd.append {a b : List UInt8} (ha : Gd a) (hb : Gd b) : Gd (a ++ b) := by
  induction ha with
  | nil => exact hb
  | one c s h0 _ ih => exact .one c _ h0 ih
  | two s _ ih => exact .two _ ih
theorem Gd.gv {s : List UInt8} (h : Gd s) : Gv s := by
  induction h with
  | nil => exact .nil
  | one c s h0 _ ih =>
    refine .one c s ?_ ?_ ih <;> simp only [List.mem_cons, List.mem_nil_iff, or_false] at h0 <;> rcases h0 with rfl | rfl | rfl | rfl | rfl | rfl | rfl <;> decide
  | two s _ ih => exact .two s ih
theorem Gd.mem {s : List UInt8} (h : Gd s) : ∀ c ∈ s, c ∈ ([97, 98, 99, 100, 101, 47, 116, 195, 164] : List UInt8) := by
  induction h with
  | nil => intro c hc; cases hc
  | one d s h0 _ ih =>
    intro c hc
    rcases List.mem_cons.1 hc with rfl | hc
    · simp only [List.mem_cons, List.mem_nil_iff, or_false] at h0
      rcases h0 with rfl | rfl | rfl | rfl | rfl | rfl | rfl <;> decide
    · exact ih c hc
  | two s _ ih =>
    intro c hc
    rcases List.mem_cons.1 hc with rfl | hc
    · decide
    · rcases List.mem_cons.1 hc with rfl | hc
      · decide
      · exact ih c hc
theorem Gd.not {s : List UInt8} (h : Gd s) (c : UInt8) (hc : c ∉ ([97, 98, 99, 100, 101, 47, 116, 195, 164] : List UInt8)) : c ∉ s := fun h2 => hc (h.mem c h2)
theorem wild_no {s : List UInt8} (h1 : (43 : UInt8) ∉ s) (h2 : (35 : UInt8) ∉ s) : wildB s = false := by
  unfold wildB
  simp [h1, h2]
theorem Gd.wild {s : List UInt8} (h : Gd s) : wildB s = false := wild_no (h.not 43 (by decide)) (h.not 35 (by decide))
theorem Gd.name {s : List UInt8} (h : Gd s) (h0 : s ≠ []) (hl : s.length ≤ 65535) : nameB s = true := by
  unfold nameB
  rw [h.gv.right hl, h.wild, show s.isEmpty = false by simpa using h0]; rfl
theorem lv_noslash (s : List UInt8) : ∀ x ∈ lv s, (47 : UInt8) ∉ x := by
  induction s with
  | nil => simp [lv]
  | cons c s ih =>
    intro x hx
    by_cases h : c = 47
    · subst h; rw [lv_cons_slash] at hx
      rcases List.mem_cons.1 hx with rfl | hx
      · simp
      · exact ih x hx
    · rw [lv_cons c s h] at hx
      have := lv_ne s
      cases hl : lv s with
      | nil => exact absurd hl this
      | cons y t =>
        rw [hl] at hx ih
        rcases List.mem_cons.1 hx with rfl | hx
        · have := ih y (by simp); simp [Ne.symm h, this]
        · exact ih x (by simp at hx; simp [hx])
theorem lv_sub (s : List UInt8) : ∀ x ∈ lv s, ∀ c ∈ x, c ∈ s := by
  induction s with
  | nil => simp [lv]
  | cons d s ih =>
    intro x hx c hc
    by_cases h : d = 47
    · subst h; rw [lv_cons_slash] at hx
      rcases List.mem_cons.1 hx with rfl | hx
      · cases hc
      · exact List.mem_cons_of_mem _ (ih x hx c hc)
    · rw [lv_cons d s h] at hx
      have := lv_ne s
      cases hl : lv s with
      | nil => exact absurd hl this
      | cons y t =>
        rw [hl] at hx ih
        rcases List.mem_cons.1 hx with rfl | hx
        · rcases List.mem_cons.1 hc with rfl | hc
          · simp
          · exact List.mem_cons_of_mem _ (ih y (by simp) c hc)
        · exact List.mem_cons_of_mem _ (ih x (by simp at hx; simp [hx]) c hc)
theorem Gd.levels {s : List UInt8} (h : Gd s) : ∀ x ∈ lv s, Gd x := by
  induction h with
  | nil => intro x hx; simp [lv] at hx; subst hx; exact .nil
  | one c s h0 _ ih =>
    intro x hx
    by_cases h : c = 47
    · subst h; rw [lv_cons_slash] at hx
      rcases List.mem_cons.1 hx with rfl | hx
      · exact .nil
      · exact ih x hx
    · rw [lv_cons c s h] at hx
      have := lv_ne s
      cases hl : lv s with
      | nil => exact absurd hl this
      | cons y t =>
        rw [hl] at hx ih
        rcases List.mem_cons.1 hx with rfl | hx
        · exact .one c y h0 (ih y (by simp))
        · exact ih x (by simp at hx; simp [hx])
  | two s _ ih =>
    intro x hx
    rw [lv_cons 195 _ (by decide), lv_cons 164 _ (by decide)] at hx
    have := lv_ne s
    cases hl : lv s with
    | nil => exact absurd hl this
    | cons y t =>
      rw [hl] at hx ih
      rcases List.mem_cons.1 hx with rfl | hx
      · exact .two y (ih y (by simp))
      · exact ih x (by simp at hx; simp [hx])
/-- Levels, with slashes between. -/
def jn : List (List UInt8) → List UInt8
  | [] => []
  | [x] => x
  | x :: y :: r => x ++ 47 :: jn (y :: r)
theorem jn_cons (x : List UInt8) (r : List (List UInt8)) (h : r ≠ []) : jn (x :: r) = x ++ 47 :: jn r := by
  cases r with
  | nil => exact absurd rfl h
  | cons y r => rfl
theorem jn_lv (s : List UInt8) : jn (lv s) = s := by
  induction s with
  | nil => rfl
  | cons c s ih =>
    have hne := lv_ne s
    by_cases h : c = 47
    · subst h; rw [lv_cons_slash, jn_cons _ _ hne, ih]; rfl
    · rw [lv_cons c s h]
      cases hl : lv s with
      | nil => exact absurd hl hne
      | cons y t =>
        rw [hl] at ih
        cases t with
        | nil => simpa [jn] using ih
        | cons z t => rw [← ih]; rfl
theorem lv_jn : ∀ (L : List (List UInt8)), L ≠ [] → (∀ x ∈ L, (47 : UInt8) ∉ x) → lv (jn L) = L
  | [], h, _ => absurd rfl h
  | [x], _, h => lv_one x (h x (by simp))
  | x :: y :: r, _, h => by
    rw [jn_cons x (y :: r) (by simp), lv_slash x _ (h x (by simp)), lv_jn (y :: r) (by simp) (fun z hz => h z (by simp [hz]))]
theorem jn_snoc : ∀ (L : List (List UInt8)) (x : List UInt8), L ≠ [] → jn (L ++ [x]) = jn L ++ 47 :: x
  | [], _, h => absurd rfl h
  | [y], x, _ => rfl
  | y :: z :: r, x, _ => by
    rw [List.cons_append, jn_cons y ((z :: r) ++ [x]) (by simp), jn_snoc (z :: r) x (by simp), jn_cons y (z :: r) (by simp)]; simp
theorem Gv.jn : ∀ (L : List (List UInt8)), (∀ x ∈ L, Gv x) → Gv (Mq.jn L)
  | [], _ => .nil
  | [x], h => h x (by simp)
  | x :: y :: r, h => by
    rw [jn_cons x (y :: r) (by simp)]
    exact (h x (by simp)).append (.one 47 _ (by decide) (by decide) (Gv.jn (y :: r) (fun z hz => h z (by simp [hz]))))
theorem plainL_of : ∀ (L : List (List UInt8)), (∀ x ∈ L, x = [43] ∨ wildB x = false) → plainL L = true
  | [], _ => rfl
  | x :: r, h => by
    rw [plainL, plainL_of r (fun y hy => h y (by simp [hy])), Bool.and_true]
    rcases h x (by simp) with rfl | h
    · rfl
    · rw [h]; simp
theorem plainL_hash : ∀ (L : List (List UInt8)), (∀ x ∈ L, x = [43] ∨ wildB x = false) → plainL (L ++ [[35]]) = true
  | [], _ => rfl
  | x :: r, h => by
    rw [List.cons_append, plainL, plainL_hash r (fun y hy => h y (by simp [hy])), Bool.and_true]
    rcases h x (by simp) with rfl | h
    · rfl
    · rw [h]; simp
theorem matchL_self : ∀ (L : List (List UInt8)), matchL L L = true
  | [] => rfl
  | x :: r => by
    by_cases h : x = [35]
    · subst h; exact matchL_all _ _
    · rw [matchL_step _ _ _ _ h, matchL_self r, decide_eq_true rfl]; simp
theorem matchL_set : ∀ (L : List (List UInt8)) (k : Nat), matchL (L.set k [43]) L = true
  | [], _ => rfl
  | x :: r, 0 => by rw [List.set_cons_zero, matchL_step _ _ _ _ (by decide), matchL_self r]; rfl
  | x :: r, k + 1 => by
    rw [List.set_cons_succ]
    by_cases h : x = [35]
    · subst h; exact matchL_all _ _
    · rw [matchL_step _ _ _ _ h, matchL_set r k, decide_eq_true rfl]; simp
theorem matchL_hash : ∀ (L : List (List UInt8)) (k : Nat), matchL (L.take k ++ [[35]]) L = true
  | [], k => by simp; exact matchL_all _ _
  | x :: r, 0 => by simp; exact matchL_all _ _
  | x :: r, k + 1 => by
    rw [List.take_succ_cons, List.cons_append]
    by_cases h : x = [35]
    · subst h; exact matchL_all _ _
    · rw [matchL_step _ _ _ _ h, matchL_hash r k, decide_eq_true rfl]; simp
/-- A filter that is none of a share. -/
theorem filter_plain {s : List UInt8} (h0 : s ≠ []) (hg : rightB s = true) (hs : sharedB s = false) (hp : plainL (lv s) = true) : filterB s = true := by
  unfold filterB plainB
  rw [hg, hs, hp, show s.isEmpty = false by simpa using h0]; rfl
theorem match_plain {f n : List UInt8} (hf : filterB f = true) (hs : sharedB f = false) (hn : nameB n = true) (h : n.head? ≠ some 36) (hm : matchL (lv f) (lv n) = true) : matchB f n = true := by
  unfold matchB target
  rw [hf, hn, hs, decide_eq_false h]
  simpa using hm
theorem shared_head {s : List UInt8} (h : s.head? ≠ some 36) : sharedB s = false := by
  unfold sharedB shareP
  cases s with
  | nil => rfl
  | cons c s =>
    have : ¬ c = 36 := by simpa using h
    show ((36 : UInt8) == c && _) = false
    rw [show ((36 : UInt8) == c) = false from beq_eq_false_iff_ne.2 (Ne.symm this)]; rfl
theorem Gd.head {s : List UInt8} (h : Gd s) : s.head? ≠ some 36 := fun h2 => h.not 36 (by decide) (List.mem_of_mem_head? h2)

/-! ### the reference's names out of any bytes -/
def signs : List ByteArray := [(⟨#[97]⟩ : ByteArray), (⟨#[98]⟩ : ByteArray), (⟨#[47]⟩ : ByteArray), (⟨#[99]⟩ : ByteArray), (⟨#[100]⟩ : ByteArray), (⟨#[47]⟩ : ByteArray), (⟨#[195, 164]⟩ : ByteArray), (⟨#[101]⟩ : ByteArray)]
theorem signs_gd (j : Nat) (h : j < 8) : Gd (dl (rdOf ByteArray.empty signs (j : Int))) ∧ (rdOf ByteArray.empty signs (j : Int)).size ≤ 2 ∧ dl (rdOf ByteArray.empty signs (j : Int)) ≠ [] := by
  match j, h with
  | 0, _ => exact ⟨.one 97 _ (by decide) .nil, by decide, by decide⟩
  | 1, _ => exact ⟨.one 98 _ (by decide) .nil, by decide, by decide⟩
  | 2, _ => exact ⟨.one 47 _ (by decide) .nil, by decide, by decide⟩
  | 3, _ => exact ⟨.one 99 _ (by decide) .nil, by decide, by decide⟩
  | 4, _ => exact ⟨.one 100 _ (by decide) .nil, by decide, by decide⟩
  | 5, _ => exact ⟨.one 47 _ (by decide) .nil, by decide, by decide⟩
  | 6, _ => exact ⟨.two _ .nil, by decide, by decide⟩
  | 7, _ => exact ⟨.one 101 _ (by decide) .nil, by decide, by decide⟩
theorem dl_append (a b : ByteArray) : dl (a ++ b) = dl a ++ dl b := by simp [dl, ByteArray.data_append]
theorem byte_idx (s : ByteArray) (i : Nat) (h : i < s.size) : ∃ j : Nat, j < 8 ∧ Int.tmod (wrap64 (bt s (i : Int))) 8 = (j : Int) := by
  obtain ⟨c, _, hb⟩ := bt_dl s i h
  have hc := c.toNat_lt
  refine ⟨c.toNat % 8, by omega, ?_⟩
  rw [hb, show wrap64 (c.toNat : Int) = (c.toNat : Int) by unfold wrap64; omega, Int.tmod_eq_emod_of_nonneg (by omega)]
  omega
theorem fix_l0 (s : ByteArray) : ∀ (d i : Nat) (x : ByteArray), i + d = 8 → Gd (dl x) → x.size ≤ 2 * i →
    ∃ r, Ev (fun k => pouchref04_Fix.l0 k s signs x (i : Int)) r ∧ Gd (dl r) ∧ dl r ≠ [] ∧ r.size ≤ 16 := by
  have hend : ∀ x : ByteArray, Gd (dl x) → x.size ≤ 16 → ∃ r, Ev (fun _ : Nat => if x.toList = ([] : List UInt8) then some (⟨#[97]⟩ : ByteArray) else some x) r ∧ Gd (dl r) ∧ dl r ≠ [] ∧ r.size ≤ 16 := fun x hg hz => by
    rw [toList_dl]
    by_cases h : dl x = []
    · simp only [if_pos h]; exact ⟨_, Ev.now _, .one 97 _ (by decide) .nil, by decide, by decide⟩
    · simp only [if_neg h]; exact ⟨_, Ev.now _, hg, h, hz⟩
  intro d
  induction d with
  | zero =>
    intro i x hd hg hz
    obtain rfl : i = 8 := by omega
    obtain ⟨r, hr, h⟩ := hend x hg (by omega)
    refine ⟨r, Ev.step (fun k => ?_) hr, h⟩
    simp only [pouchref04_Fix.l0]
    by_cases h1 : ((8 : Nat) : Int) < (s.size : Int)
    · rw [if_pos h1, if_neg (by decide)]
    · rw [if_neg h1]
  | succ d ih =>
    intro i x hd hg hz
    by_cases h1 : i < s.size
    · obtain ⟨j, hj, hb⟩ := byte_idx s i h1
      obtain ⟨g1, g2, g3⟩ := signs_gd j hj
      obtain ⟨r, hr, h⟩ := ih (i + 1) (x ++ rdOf ByteArray.empty signs (j : Int)) (by omega) (by rw [dl_append]; exact hg.append g1) (by rw [ByteArray.size_append]; omega)
      refine ⟨r, Ev.step (fun k => ?_) hr, h⟩
      simp only [pouchref04_Fix.l0]
      rw [show ((signs.length : Nat) : Int) = 8 from rfl, hb, wrap_nat i (by omega), if_pos (by omega), if_pos (by omega), if_pos (by omega), if_neg (by decide), if_pos (by omega), if_pos (by omega), if_pos (by omega)]
    · obtain ⟨r, hr, h⟩ := hend x hg (by omega)
      refine ⟨r, Ev.step (fun k => ?_) hr, h⟩
      simp only [pouchref04_Fix.l0]
      rw [if_neg (by omega)]
theorem fix_f (s : ByteArray) : ∃ r, Ev (fun k => pouchref04_Fix.f k s) r ∧ Gd (dl r) ∧ dl r ≠ [] ∧ r.size ≤ 16 := by
  obtain ⟨r, hr, h⟩ := fix_l0 s 8 0 (⟨#[]⟩ : ByteArray) (by omega) .nil (by decide)
  exact ⟨r, hr, h⟩
end Go.Proofs.YtbaipppmefencaaDoor.Mq

namespace Go.Proofs.YtbaipppmefencaaDoor.Mq
open Go.RowKit Go.Lib Go.Proofs.YtbaipppmefencaaDoor.P Go.Proofs.YtbaipppmefencaaDoorW.PrintWords

theorem told_f : Ev (fun k => pouchlaw04_told.f k) true := by
  have h : ∀ k : Nat, True := fun _ => trivial
  unfold pouchlaw04_told.f
  refine Ev.bind (shared_f _) ?_
  refine Ev.bind (match_f _ _) ?_
  rw [show matchB (dl (⟨#[97, 47, 43, 47, 99]⟩ : ByteArray)) (dl (⟨#[97, 47, 98, 47, 99]⟩ : ByteArray)) = true by decide +kernel]
  simp only [if_true]
  refine Ev.bind (match_f _ _) ?_
  rw [show matchB (dl (⟨#[97, 47, 43, 47, 99]⟩ : ByteArray)) (dl (⟨#[97, 47, 47, 99]⟩ : ByteArray)) = true by decide +kernel]
  simp only [if_true]
  refine Ev.bind (match_f _ _) ?_
  rw [show matchB (dl (⟨#[97, 47, 43, 47, 99]⟩ : ByteArray)) (dl (⟨#[97, 47, 98]⟩ : ByteArray)) = false by decide +kernel]
  simp only [Bool.false_eq_true, if_false]
  refine Ev.bind (match_f _ _) ?_
  rw [show matchB (dl (⟨#[97, 47, 35]⟩ : ByteArray)) (dl (⟨#[97]⟩ : ByteArray)) = true by decide +kernel]
  simp only [if_true]
  refine Ev.bind (match_f _ _) ?_
  rw [show matchB (dl (⟨#[35]⟩ : ByteArray)) (dl (⟨#[36, 120]⟩ : ByteArray)) = false by decide +kernel]
  simp only [Bool.false_eq_true, if_false]
  rw [show sharedB (dl (⟨#[36, 115, 104, 97, 114, 101, 47, 103, 47, 97, 47, 43]⟩ : ByteArray)) = true by decide +kernel, show filterB (dl (⟨#[36, 115, 104, 97, 114, 101, 47, 103, 47, 97, 47, 43]⟩ : ByteArray)) = true by decide +kernel]
  simp only [if_true]
  rw [toList_dl, toList_dl, mk_dl, mk_dl, show cut (List.drop 7 (dl (⟨#[36, 115, 104, 97, 114, 101, 47, 103, 47, 97, 47, 43]⟩ : ByteArray))) [47] = ([103], [97, 47, 43], true) by decide +kernel]
  simp only [if_true]
  refine Ev.bind (filter_f _) ?_
  rw [show filterB (dl (⟨#[97, 47, 35, 47, 98]⟩ : ByteArray)) = false by decide +kernel]
  simp only [Bool.false_eq_true, if_false]
  refine Ev.bind (filter_f _) ?_
  rw [show filterB (dl (⟨#[36, 115, 104, 97, 114, 101, 47, 103]⟩ : ByteArray)) = false by decide +kernel]
  simp only [Bool.false_eq_true, if_false]
  rw [name_f, name_f, show nameB (dl (⟨#[97]⟩ : ByteArray)) = true by decide +kernel, show nameB (dl (⟨#[43]⟩ : ByteArray)) = false by decide +kernel]
  exact Ev.now _
end Go.Proofs.YtbaipppmefencaaDoor.Mq

namespace Go.Proofs.YtbaipppmefencaaDoor.Pure
open Go.RowKit Go.Lib Go.Proofs.YtbaipppmefencaaDoor.P Go.Proofs.YtbaipppmefencaaDoor.Mq Go.Proofs.YtbaipppmefencaaDoorW.PrintWords

/-! ### levels that join, and who wants whom -/
theorem jn_mem (c : UInt8) (hc : c ≠ 47) : ∀ (L : List (List UInt8)), (∀ x ∈ L, c ∉ x) → c ∉ jn L := by
  intro L
  induction L with
  | nil => intro _ h; cases h
  | cons x r ih =>
    intro hx
    cases r with
    | nil => exact hx x (by simp)
    | cons y r =>
      rw [jn_cons x (y :: r) (by simp)]
      intro h
      rcases List.mem_append.1 h with h | h
      · exact hx x (by simp) h
      · rcases List.mem_cons.1 h with h | h
        · exact hc h
        · exact ih (fun z hz => hx z (by simp [hz])) h
theorem jn_head (L : List (List UInt8)) (h : L.head? = some [116]) : (jn L).head? = some 116 ∧ jn L ≠ [] ∧ L ≠ [] := by
  cases L with
  | nil => cases h
  | cons x r =>
    have : x = [116] := by simpa using h
    subst this
    cases r with
    | nil => exact ⟨rfl, by simp [jn], by simp⟩
    | cons y r => rw [jn_cons _ _ (by simp)]; exact ⟨rfl, by simp, by simp⟩
theorem wild_split {s : List UInt8} (h : wildB s = false) : (43 : UInt8) ∉ s ∧ (35 : UInt8) ∉ s := by
  unfold wildB at h
  simpa using h
/-- Levels of a name. -/
structure NameL (N : List (List UInt8)) : Prop where
  head : N.head? = some [116]
  slash : ∀ x ∈ N, (47 : UInt8) ∉ x
  gv : ∀ x ∈ N, Gv x
  wild : ∀ x ∈ N, wildB x = false
  size : (jn N).length ≤ 60000
/-- Levels of a filter. -/
structure FiltL (L : List (List UInt8)) : Prop where
  head : L.head? = some [116]
  slash : ∀ x ∈ L, (47 : UInt8) ∉ x
  gv : ∀ x ∈ L, Gv x
  plain : plainL L = true
  size : (jn L).length ≤ 60000
def sg (b : Bool) : List UInt8 := if b then [36, 115, 104, 97, 114, 101, 47, 103, 47] else []
theorem name_jn {N : List (List UInt8)} (h : NameL N) : nameB (jn N) = true := by
  obtain ⟨h1, h2, _⟩ := jn_head N h.head
  unfold nameB
  rw [(Gv.jn N h.gv).right (by have := h.size; omega), wild_no (jn_mem 43 (by decide) N fun x hx => (wild_split (h.wild x hx)).1) (jn_mem 35 (by decide) N fun x hx => (wild_split (h.wild x hx)).2), show (jn N).isEmpty = false by simpa using h2]; rfl
theorem match_both (b : Bool) {L N : List (List UInt8)} (hL : FiltL L) (hN : NameL N) : matchB (sg b ++ jn L) (jn N) = matchL L N := by
  obtain ⟨h1, h2, h3⟩ := jn_head L hL.head
  obtain ⟨g1, g2, g3⟩ := jn_head N hN.head
  have el := lv_jn L h3 hL.slash
  have en := lv_jn N g3 hN.slash
  have hd : (jn N).head? ≠ some 36 := by rw [g1]; decide
  have hlz := hL.size
  have hp : plainB (jn L) = true := by
    unfold plainB
    rw [el, hL.plain, show (jn L).isEmpty = false by simpa using h2]; rfl
  cases b with
  | false =>
    rw [show sg false = [] from rfl, List.nil_append]
    have hsh := shared_head (s := jn L) (by rw [h1]; decide)
    have hf : filterB (jn L) = true := filter_plain h2 ((Gv.jn L hL.gv).right (by omega)) hsh (by rw [el]; exact hL.plain)
    unfold matchB target
    rw [hf, hsh, name_jn hN, decide_eq_false hd]
    simp only [Bool.false_eq_true, if_false]
    rw [el, en]; simp
  | true =>
    have hsg : sg true = [36, 115, 104, 97, 114, 101, 47, 103, 47] := rfl
    rw [hsg]
    have hsh : sharedB ([36, 115, 104, 97, 114, 101, 47, 103, 47] ++ jn L) = true := by
      unfold sharedB shareP
      rw [List.isPrefixOf_iff_prefix]
      exact ⟨[103, 47] ++ jn L, by simp⟩
    have hc : cut (([36, 115, 104, 97, 114, 101, 47, 103, 47] ++ jn L).drop 7) [47] = ([103], jn L, true) := cut_at [103] (jn L) (by decide)
    have hgv : Gv ([36, 115, 104, 97, 114, 101, 47, 103, 47] ++ jn L) := by
      refine Gv.append ?_ (Gv.jn L hL.gv)
      repeat (first | exact .nil | refine .one _ _ (by decide) (by decide) ?_)
    have hf : filterB ([36, 115, 104, 97, 114, 101, 47, 103, 47] ++ jn L) = true := by
      unfold filterB
      rw [hgv.right (by simp; omega), if_pos hsh, hc, hp]; rfl
    unfold matchB target
    rw [hf, if_pos hsh, hc, name_jn hN, decide_eq_false hd]
    rw [el, en]; simp
theorem matchL_snoc (x y : List UInt8) (hx : x ≠ [35]) : ∀ (F N : List (List UInt8)), (∀ z ∈ F, z ≠ [35]) → matchL (F ++ [x]) (N ++ [y]) = ((decide (x = [43]) || decide (x = y)) && matchL F N)
  | [], [], _ => matchL_step x y [] [] hx
  | [], n :: N, _ => by
    rw [List.nil_append, List.cons_append, matchL_step _ _ _ _ hx]
    have h1 : matchL [] (N ++ [y]) = false := by show (N ++ [y]).isEmpty = false; simp
    have h2 : matchL [] (n :: N) = false := rfl
    rw [h1, h2]; simp
  | f :: F, [], h => by
    have hf := h f (by simp)
    rw [List.cons_append, List.nil_append, matchL_step _ _ _ _ hf, matchL_none _ _ hf, Bool.and_false]
    have : matchL (F ++ [x]) [] = false := by
      cases F with
      | nil => exact matchL_none _ _ hx
      | cons g F => exact matchL_none _ _ (h g (by simp))
    rw [this, Bool.and_false]
  | f :: F, n :: N, h => by
    have hf := h f (by simp)
    rw [List.cons_append, List.cons_append, matchL_step _ _ _ _ hf, matchL_step _ _ _ _ hf, matchL_snoc x y hx F N (fun z hz => h z (by simp [hz]))]
    cases decide (x = [43]) <;> cases decide (x = y) <;> cases decide (f = [43]) <;> cases decide (f = n) <;> simp
theorem matchL_more : ∀ (F N M : List (List UInt8)), (∀ z ∈ F, z ≠ [35]) → matchL F N = true → matchL (F ++ [[35]]) (N ++ M) = true
  | [], N, M, _, _ => matchL_all [] (N ++ M)
  | f :: F, [], M, h, hm => by rw [matchL_none _ _ (h f (by simp))] at hm; cases hm
  | f :: F, n :: N, M, h, hm => by
    have hf := h f (by simp)
    rw [matchL_step _ _ _ _ hf, Bool.and_eq_true] at hm
    rw [List.cons_append, List.cons_append, matchL_step _ _ _ _ hf, hm.1, matchL_more F N M (fun z hz => h z (by simp [hz])) hm.2]; rfl
theorem plainL_snoc (x : List UInt8) (hx : x = [43] ∨ x = [35] ∨ wildB x = false) : ∀ (F : List (List UInt8)), (∀ z ∈ F, z = [43] ∨ wildB z = false) → plainL (F ++ [x]) = true
  | [], _ => by
    rw [List.nil_append, plainL]
    rcases hx with rfl | rfl | h
    · rfl
    · rfl
    · rw [h]; simp [plainL]
  | f :: F, h => by
    rw [List.cons_append, plainL, plainL_snoc x hx F (fun z hz => h z (by simp [hz])), Bool.and_true]
    rcases h f (by simp) with rfl | h2
    · rfl
    · rw [h2]; simp

/-! ### the filter that is made -/
/-- Levels with no '#'. -/
structure Base (L : List (List UInt8)) : Prop where
  head : L.head? = some [116]
  slash : ∀ x ∈ L, (47 : UInt8) ∉ x
  gv : ∀ x ∈ L, Gv x
  wild : ∀ x ∈ L, x = [43] ∨ wildB x = false
theorem Base.no {L : List (List UInt8)} (h : Base L) : ∀ x ∈ L, x ≠ [35] := fun x hx e => by
  rcases h.wild x hx with h | h
  · rw [e] at h; exact absurd h (by decide)
  · rw [e] at h; exact absurd h (by decide)
theorem Base.snoc {L : List (List UInt8)} (h : Base L) (x : List UInt8) (h1 : (47 : UInt8) ∉ x) (h2 : Gv x) (h3 : x = [43] ∨ wildB x = false) : Base (L ++ [x]) := by
  refine ⟨?_, fun y hy => ?_, fun y hy => ?_, fun y hy => ?_⟩
  · rw [List.head?_append, h.head]; rfl
  all_goals rcases List.mem_append.1 hy with hy | hy
  · exact h.slash y hy
  · simp at hy; subst hy; exact h1
  · exact h.gv y hy
  · simp at hy; subst hy; exact h2
  · exact h.wild y hy
  · simp at hy; subst hy; exact h3
theorem Base.filt {L : List (List UInt8)} (h : Base L) (hz : (jn L).length ≤ 60000) : FiltL L := ⟨h.head, h.slash, h.gv, plainL_of L h.wild, hz⟩
theorem Base.filtx {L : List (List UInt8)} (h : Base L) (x : List UInt8) (h1 : (47 : UInt8) ∉ x) (h2 : Gv x) (h3 : x = [43] ∨ x = [35] ∨ wildB x = false) (hz : (jn (L ++ [x])).length ≤ 60000) : FiltL (L ++ [x]) := by
  refine ⟨?_, fun y hy => ?_, fun y hy => ?_, plainL_snoc x h3 L h.wild, hz⟩
  · rw [List.head?_append, h.head]; rfl
  all_goals rcases List.mem_append.1 hy with hy | hy
  · exact h.slash y hy
  · simp at hy; subst hy; exact h1
  · exact h.gv y hy
  · simp at hy; subst hy; exact h2
theorem NameL.snoc {N : List (List UInt8)} (h : NameL N) (x : List UInt8) (h1 : (47 : UInt8) ∉ x) (h2 : Gv x) (h3 : wildB x = false) (hz : (jn (N ++ [x])).length ≤ 60000) : NameL (N ++ [x]) := by
  refine ⟨?_, fun y hy => ?_, fun y hy => ?_, fun y hy => ?_, hz⟩
  · rw [List.head?_append, h.head]; rfl
  all_goals rcases List.mem_append.1 hy with hy | hy
  · exact h.slash y hy
  · simp at hy; subst hy; exact h1
  · exact h.gv y hy
  · simp at hy; subst hy; exact h2
  · exact h.wild y hy
  · simp at hy; subst hy; exact h3
def places : List ByteArray := [(⟨#[97]⟩ : ByteArray), (⟨#[43]⟩ : ByteArray), (⟨#[98]⟩ : ByteArray), (⟨#[]⟩ : ByteArray), (⟨#[99]⟩ : ByteArray), (⟨#[97]⟩ : ByteArray), (⟨#[43]⟩ : ByteArray), (⟨#[98]⟩ : ByteArray)]
theorem one_gv (c : UInt8) (h0 : 0 < c.toNat) (h1 : c.toNat < 128) : Gv [c] := .one c _ h0 h1 .nil
theorem places_ok (j : Nat) (h : j < 8) : (rdOf ByteArray.empty places (j : Int)).size ≤ 1 ∧ (47 : UInt8) ∉ dl (rdOf ByteArray.empty places (j : Int)) ∧ Gv (dl (rdOf ByteArray.empty places (j : Int))) ∧ (dl (rdOf ByteArray.empty places (j : Int)) = [43] ∨ wildB (dl (rdOf ByteArray.empty places (j : Int))) = false) := by
  match j, h with
  | 0, _ => exact ⟨by decide, by decide, one_gv 97 (by decide) (by decide), .inr (by decide)⟩
  | 1, _ => exact ⟨by decide, by decide, one_gv 43 (by decide) (by decide), .inl (by decide)⟩
  | 2, _ => exact ⟨by decide, by decide, one_gv 98 (by decide) (by decide), .inr (by decide)⟩
  | 3, _ => exact ⟨by decide, by decide, .nil, .inr (by decide)⟩
  | 4, _ => exact ⟨by decide, by decide, one_gv 99 (by decide) (by decide), .inr (by decide)⟩
  | 5, _ => exact ⟨by decide, by decide, one_gv 97 (by decide) (by decide), .inr (by decide)⟩
  | 6, _ => exact ⟨by decide, by decide, one_gv 43 (by decide) (by decide), .inl (by decide)⟩
  | 7, _ => exact ⟨by decide, by decide, one_gv 98 (by decide) (by decide), .inr (by decide)⟩
/-- What is made: it ends with '#', or it is of levels with none. -/
def Made (r : ByteArray) : Prop := dl r ≠ [] ∧ r.size ≤ 40 ∧ ((dl r).getLast? = some 35 ∨ ∃ b L, Base L ∧ dl r = sg b ++ jn L)
theorem made_j4 (s x : ByteArray) (b : Bool) (hx : dl x ≠ []) (hz : x.size ≤ 20) (h : (dl x).getLast? = some 35 ∨ ∃ L, Base L ∧ dl x = jn L) : ∃ r, Ev (fun k => pouchref04_FixFilter.j4 k s x b) r ∧ Made r := by
  have m0 : Made (⟨#[35]⟩ : ByteArray) := ⟨by decide, by decide, .inl rfl⟩
  have m1 : Made x := by
    refine ⟨hx, by omega, ?_⟩
    rcases h with h | ⟨L, h1, h2⟩
    · exact .inl h
    · exact .inr ⟨false, L, h1, h2⟩
  have m2 : Made ((⟨#[36, 115, 104, 97, 114, 101, 47, 103, 47]⟩ : ByteArray) ++ x) := by
    refine ⟨by rw [dl_append]; simp [hx], by rw [ByteArray.size_append]; have : (⟨#[36, 115, 104, 97, 114, 101, 47, 103, 47]⟩ : ByteArray).size = 9 := rfl; omega, ?_⟩
    rw [dl_append]
    rcases h with h | ⟨L, h1, h2⟩
    · exact .inl (by rw [List.getLast?_append, h]; rfl)
    · exact .inr ⟨true, L, h1, by rw [h2]; rfl⟩
  cases b with
  | true =>
    by_cases h2 : (s.size : Int) > 2
    · by_cases h3 : bt s 2 ≥ 220
      · exact ⟨_, Ev.step (f := fun _ => some (⟨#[35]⟩ : ByteArray)) (fun k => by simp only [pouchref04_FixFilter.j4]; rw [if_pos trivial, if_pos (by omega), if_pos h2, if_pos (by omega), if_pos h3]) (Ev.now _), m0⟩
      · exact ⟨_, Ev.step (f := fun _ => some _) (fun k => by simp only [pouchref04_FixFilter.j4]; rw [if_pos trivial, if_pos (by omega), if_pos h2, if_pos (by omega), if_neg h3]) (Ev.now _), m2⟩
    · exact ⟨_, Ev.step (f := fun _ => some _) (fun k => by simp only [pouchref04_FixFilter.j4]; rw [if_pos trivial, if_pos (by omega), if_neg h2]) (Ev.now _), m2⟩
  | false =>
    by_cases h2 : (s.size : Int) > 2
    · by_cases h3 : bt s 2 ≥ 220
      · exact ⟨_, Ev.step (f := fun _ => some (⟨#[35]⟩ : ByteArray)) (fun k => by simp only [pouchref04_FixFilter.j4]; rw [if_neg (by decide), if_pos h2, if_pos (by omega), if_pos h3]) (Ev.now _), m0⟩
      · exact ⟨_, Ev.step (f := fun _ => some _) (fun k => by simp only [pouchref04_FixFilter.j4]; rw [if_neg (by decide), if_pos h2, if_pos (by omega), if_neg h3]) (Ev.now _), m1⟩
    · exact ⟨_, Ev.step (f := fun _ => some _) (fun k => by simp only [pouchref04_FixFilter.j4]; rw [if_neg (by decide), if_neg h2]) (Ev.now _), m1⟩
theorem made_j3 (s x : ByteArray) (hx : dl x ≠ []) (hz : x.size ≤ 20) (h : (dl x).getLast? = some 35 ∨ ∃ L, Base L ∧ dl x = jn L) : ∃ r, Ev (fun k => pouchref04_FixFilter.j3 k s x) r ∧ Made r := by
  by_cases h2 : (s.size : Int) > 1
  · obtain ⟨r, hr, hm⟩ := made_j4 s x (decide (bt s 1 ≥ 200)) hx hz h
    exact ⟨r, Ev.step (fun k => by simp only [pouchref04_FixFilter.j3]; rw [if_pos h2, if_pos (by omega)]) hr, hm⟩
  · obtain ⟨r, hr, hm⟩ := made_j4 s x false hx hz h
    exact ⟨r, Ev.step (fun k => by simp only [pouchref04_FixFilter.j3]; rw [if_neg h2]) hr, hm⟩
theorem made_j2 (s x : ByteArray) (b : Bool) (hx : dl x ≠ []) (hz : x.size ≤ 18) (h : ∃ L, Base L ∧ dl x = jn L) : ∃ r, Ev (fun k => pouchref04_FixFilter.j2 k s x b) r ∧ Made r := by
  cases b with
  | true =>
    obtain ⟨r, hr, hm⟩ := made_j3 s (x ++ (⟨#[47, 35]⟩ : ByteArray)) (by rw [dl_append]; simp [hx]) (by rw [ByteArray.size_append]; have : (⟨#[47, 35]⟩ : ByteArray).size = 2 := rfl; omega) (.inl (by rw [dl_append, List.getLast?_append]; rfl))
    exact ⟨r, Ev.step (fun k => by simp only [pouchref04_FixFilter.j2]; rw [if_pos trivial, if_pos (by omega)]) hr, hm⟩
  | false =>
    obtain ⟨r, hr, hm⟩ := made_j3 s x hx (by omega) (.inr h)
    exact ⟨r, Ev.step (fun k => by simp only [pouchref04_FixFilter.j2]; rw [if_neg (by decide)]) hr, hm⟩
theorem made_j1 (s x : ByteArray) (hx : dl x ≠ []) (hz : x.size ≤ 18) (h : ∃ L, Base L ∧ dl x = jn L) : ∃ r, Ev (fun k => pouchref04_FixFilter.j1 k s x) r ∧ Made r := by
  by_cases h2 : (s.size : Int) > 0
  · obtain ⟨r, hr, hm⟩ := made_j2 s x (decide (bt s 0 ≥ 200)) hx hz h
    exact ⟨r, Ev.step (fun k => by simp only [pouchref04_FixFilter.j1]; rw [if_pos h2, if_pos (by omega)]) hr, hm⟩
  · obtain ⟨r, hr, hm⟩ := made_j2 s x false hx hz h
    exact ⟨r, Ev.step (fun k => by simp only [pouchref04_FixFilter.j1]; rw [if_neg h2]) hr, hm⟩
theorem made_l0 (s : ByteArray) : ∀ (d i : Nat) (x : ByteArray) (L : List (List UInt8)), i + d = 6 → Base L → dl x = jn L → x.size ≤ 1 + 2 * i →
    ∃ r, Ev (fun k => pouchref04_FixFilter.l0 k s places x (i : Int)) r ∧ Made r := by
  have hend : ∀ (x : ByteArray) (L : List (List UInt8)), Base L → dl x = jn L → x.size ≤ 18 → ∃ r, Ev (fun k => pouchref04_FixFilter.j1 k s x) r ∧ Made r := fun x L hb he hz =>
    made_j1 s x (by rw [he]; exact (jn_head L hb.head).2.1) hz ⟨L, hb, he⟩
  intro d
  induction d with
  | zero =>
    intro i x L hd hb he hz
    obtain rfl : i = 6 := by omega
    obtain ⟨r, hr, h⟩ := hend x L hb he (by omega)
    refine ⟨r, Ev.step (fun k => ?_) hr, h⟩
    simp only [pouchref04_FixFilter.l0]
    by_cases h1 : ((6 : Nat) : Int) < (s.size : Int)
    · rw [if_pos h1, if_neg (by decide)]
    · rw [if_neg h1]
  | succ d ih =>
    intro i x L hd hb he hz
    by_cases h1 : i < s.size
    · obtain ⟨j, hj, hbt⟩ := byte_idx s i h1
      obtain ⟨g1, g2, g3, g4⟩ := places_ok j hj
      have s47 : (⟨#[47]⟩ : ByteArray).size = 1 := rfl
      obtain ⟨r, hr, h⟩ := ih (i + 1) ((x ++ (⟨#[47]⟩ : ByteArray)) ++ rdOf ByteArray.empty places (j : Int)) (L ++ [dl (rdOf ByteArray.empty places (j : Int))]) (by omega) (hb.snoc _ g2 g3 g4) (by rw [dl_append, dl_append, he, jn_snoc _ _ (jn_head L hb.head).2.2, show dl (⟨#[47]⟩ : ByteArray) = [47] from rfl]; simp) (by rw [ByteArray.size_append, ByteArray.size_append]; omega)
      refine ⟨r, Ev.step (fun k => ?_) hr, h⟩
      simp only [pouchref04_FixFilter.l0]
      rw [show ((places.length : Nat) : Int) = 8 from rfl, hbt, wrap_nat i (by omega), if_pos (by omega), if_pos (by omega), if_pos (by omega), if_pos (by omega), if_pos (by omega), if_pos (by omega), if_pos (by rw [ByteArray.size_append]; omega)]
    · obtain ⟨r, hr, h⟩ := hend x L hb he (by omega)
      refine ⟨r, Ev.step (fun k => ?_) hr, h⟩
      simp only [pouchref04_FixFilter.l0]
      rw [if_neg (by omega)]
theorem fixfilter_f (s : ByteArray) : ∃ r, Ev (fun k => pouchref04_FixFilter.f k s) r ∧ Made r := by
  obtain ⟨r, hr, h⟩ := made_l0 s 6 0 (⟨#[116]⟩ : ByteArray) [[116]] (by omega) ⟨rfl, by decide, fun x hx => by simp at hx; subst hx; exact one_gv 116 (by decide) (by decide), fun x hx => by simp at hx; subst hx; exact .inr (by decide)⟩ rfl (by decide)
  exact ⟨r, hr, h⟩

/-! ### the law -/
theorem TopicDeeper (a0 a1 : ByteArray) (_ : a0.size ≤ 140737488351232) (_ : a1.size ≤ 140737488351232) : ∃ k, pouchlaw04_TopicDeeper.f k a0 a1 = some true := by
  refine Ev.rounds (g := fun k => pouchlaw04_TopicDeeper.f k a0 a1) ?_
  unfold pouchlaw04_TopicDeeper.f
  simp only [show 0 ≤ mn (a0.size : Int) 6 by unfold mn; split <;> omega, show mn (a0.size : Int) 6 ≤ (a0.size : Int) by unfold mn; split <;> omega, if_true]
  obtain ⟨f, hf, f0, fz, hm⟩ := fixfilter_f (a0.extract 0 ((mn (a0.size : Int) 6) : Int).toNat)
  obtain ⟨s, hs, hg, h0, hz⟩ := fix_f a1
  refine Ev.bind hf (Ev.bind hs ?_)
  have fpos : 1 ≤ f.size := by
    rw [← dl_size]
    cases h : dl f with
    | nil => exact absurd h f0
    | cons _ _ => simp
  simp only [show 2 + s.size ≤ 9223372036854775807 by omega, show wrap64 ((f.size : Int) - 1) = ((f.size - 1 : Nat) : Int) by unfold wrap64; omega, show (0 : Int) ≤ ((f.size - 1 : Nat) : Int) by omega, show ((f.size - 1 : Nat) : Int) < (f.size : Int) by omega, if_true]
  obtain ⟨c, hc, hb⟩ := bt_dl f (f.size - 1) (by omega)
  rw [hb]
  have hlast : (dl f).getLast? = some c := by rw [List.getLast?_eq_getElem?, dl_size, hc]
  by_cases h35 : c = 35
  · simp only [show ((c.toNat : Nat) : Int) = 35 by rw [h35]; rfl, if_true]
    exact Ev.bind told_f (Ev.now _)
  simp only [show ¬ ((c.toNat : Nat) : Int) = 35 from fun h => h35 (UInt8.toNat_inj.1 (by have : (35 : UInt8).toNat = 35 := rfl; omega)), if_false]
  rcases hm with hm | ⟨b, L, hL, he⟩
  · rw [hlast] at hm; exact absurd (Option.some.inj hm) h35
  have hN : NameL ([116] :: lv (dl s)) := by
    refine ⟨rfl, fun x hx => ?_, fun x hx => ?_, fun x hx => ?_, ?_⟩
    · rcases List.mem_cons.1 hx with rfl | hx
      · decide
      · exact lv_noslash _ x hx
    · rcases List.mem_cons.1 hx with rfl | hx
      · exact one_gv 116 (by decide) (by decide)
      · exact (hg.levels x hx).gv
    · rcases List.mem_cons.1 hx with rfl | hx
      · decide
      · exact (hg.levels x hx).wild
    · rw [jn_cons _ _ (lv_ne _), jn_lv]
      simp only [List.length_append, List.length_cons, List.length_nil, dl_size]; omega
  have en : dl ((⟨#[116, 47]⟩ : ByteArray) ++ s) = jn ([116] :: lv (dl s)) := by
    rw [dl_append, jn_cons _ _ (lv_ne _), jn_lv]; rfl
  have zn : ((⟨#[116, 47]⟩ : ByteArray) ++ s).size ≤ 18 := by rw [ByteArray.size_append]; have : (⟨#[116, 47]⟩ : ByteArray).size = 2 := rfl; omega
  have zj : (jn ([116] :: lv (dl s))).length ≤ 18 := by rw [← en, dl_size]; omega
  have zf : (jn L).length ≤ 40 := by
    have := congrArg List.length he
    rw [List.length_append, dl_size] at this; omega
  obtain ⟨l1, l2, l3⟩ := jn_head L hL.head
  have jl : ∀ x : List UInt8, jn (L ++ [x]) = jn L ++ 47 :: x := fun x => jn_snoc L x l3
  have jn1 : ∀ x : List UInt8, jn (([116] :: lv (dl s)) ++ [x]) = jn ([116] :: lv (dl s)) ++ 47 :: x := fun x => jn_snoc _ x (by simp)
  have kx : ∀ (F : List (List UInt8)) (M : List (List UInt8)) (p q : ByteArray), dl p = sg b ++ jn F → dl q = jn M → FiltL F → NameL M → Ev (fun k => topic_Match.f k p q) (matchL F M) := fun F M p q h1 h2 h3 h4 => by
    have := match_f p q
    rw [h1, h2, match_both b h3 h4] at this; exact this
  have fx : ∀ x : List UInt8, x = [120] ∨ x = [43] ∨ x = [35] → FiltL (L ++ [x]) := fun x hx => by
    refine hL.filtx x ?_ ?_ ?_ ?_
    · rcases hx with rfl | rfl | rfl <;> decide
    · rcases hx with rfl | rfl | rfl <;> exact one_gv _ (by decide) (by decide)
    · rcases hx with rfl | rfl | rfl
      · exact .inr (.inr (by decide))
      · exact .inl rfl
      · exact .inr (.inl rfl)
    · rw [jl]; rcases hx with rfl | rfl | rfl <;> simp <;> omega
  have nx : ∀ x : List UInt8, x = [120] ∨ x = [121] → NameL (([116] :: lv (dl s)) ++ [x]) := fun x hx => by
    refine hN.snoc x ?_ ?_ ?_ ?_
    · rcases hx with rfl | rfl <;> decide
    · rcases hx with rfl | rfl <;> exact one_gv _ (by decide) (by decide)
    · rcases hx with rfl | rfl <;> decide
    · rw [jn1]; rcases hx with rfl | rfl <;> simp [-List.length_cons] at zj ⊢ <;> simp at zj ⊢ <;> omega
  have nyz : NameL ((([116] :: lv (dl s)) ++ [[121]]) ++ [[122]]) := by
    refine (nx [121] (.inr rfl)).snoc [122] (by decide) (one_gv _ (by decide) (by decide)) (by decide) ?_
    rw [jn_snoc _ _ (by simp), jn1]
    simp only [List.length_append, List.length_cons, List.length_nil] at zj ⊢; omega
  have m0 := kx L _ f _ he en (hL.filt (by omega)) hN
  refine Ev.bind m0 ?_
  refine Ev.bind told_f ?_
  simp only [show f.size + 2 ≤ 9223372036854775807 by omega, show ((⟨#[116, 47]⟩ : ByteArray) ++ s).size + 2 ≤ 9223372036854775807 by omega, if_true]
  have efx : ∀ (x : ByteArray) (y : List UInt8), dl x = 47 :: y → dl (f ++ x) = sg b ++ jn (L ++ [y]) := fun x y h => by
    rw [dl_append, he, h, jl]; simp
  have enx : ∀ (x : ByteArray) (y : List UInt8), dl x = 47 :: y → dl (((⟨#[116, 47]⟩ : ByteArray) ++ s) ++ x) = jn (([116] :: lv (dl s)) ++ [y]) := fun x y h => by
    rw [dl_append, en, h, jn1]
  refine Ev.bind (kx (L ++ [[120]]) (([116] :: lv (dl s)) ++ [[120]]) _ _ (efx _ _ rfl) (enx _ _ rfl) (fx _ (.inl rfl)) (nx _ (.inl rfl))) ?_
  rw [matchL_snoc [120] [120] (by decide) _ _ hL.no, decide_eq_true (rfl : ([120] : List UInt8) = [120]), Bool.or_true, Bool.true_and]
  simp only [beq_self_eq_true, if_true]
  refine Ev.bind (kx (L ++ [[120]]) (([116] :: lv (dl s)) ++ [[121]]) _ _ (efx _ _ rfl) (enx _ _ rfl) (fx _ (.inl rfl)) (nx _ (.inr rfl))) ?_
  rw [matchL_snoc [120] [121] (by decide) _ _ hL.no, show (decide (([120] : List UInt8) = [43]) || decide (([120] : List UInt8) = [121])) = false by decide, Bool.false_and]
  simp only [Bool.false_eq_true, if_false]
  refine Ev.bind (kx (L ++ [[43]]) (([116] :: lv (dl s)) ++ [[121]]) _ _ (efx _ _ rfl) (enx _ _ rfl) (fx _ (.inr (.inl rfl))) (nx _ (.inr rfl))) ?_
  rw [matchL_snoc [43] [121] (by decide) _ _ hL.no, show (decide (([43] : List UInt8) = [43]) || decide (([43] : List UInt8) = [121])) = true by decide, Bool.true_and]
  simp only [beq_self_eq_true, if_true]
  cases hmm : matchL L ([116] :: lv (dl s)) with
  | false => simp only [Bool.false_eq_true, if_false]; exact Ev.now _
  | true =>
    simp only [show ((⟨#[116, 47]⟩ : ByteArray) ++ s).size + 4 ≤ 9223372036854775807 by omega, if_true]
    refine Ev.bind (kx (L ++ [[35]]) ((([116] :: lv (dl s)) ++ [[121]]) ++ [[122]]) _ _ (efx _ _ rfl) ?_ (fx _ (.inr (.inr rfl))) nyz) ?_
    · rw [dl_append, en, jn_snoc _ _ (by simp), jn1]
      show _ ++ [47, 121, 47, 122] = _
      simp
    · rw [List.append_assoc, matchL_more _ _ _ hL.no hmm]
      exact Ev.now _
end Go.Proofs.YtbaipppmefencaaDoor.Pure
