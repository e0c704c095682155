import Derived.Lib.IndexAny
import Derived.Lib.IndexMore
import Derived.Lib.SplitLaws
import Derived.Lib.ValidLaws
import Derived.Test.YtbaipppmefencaaDoorCTopicSelves0
import Derived.Test.YtbaipppmefencaaDoorCTopicSelves1
import Derived.Test.YtbaipppmefencaaDoorCTopicSelves2
namespace Go.Proofs.YtbaipppmefencaaDoor.P
open Go.RowKit Go.Proofs.YtbaipppmefencaaDoorW.PrintWords Go.Proofs.YtbaipppmefencaaDoorW.PrintLast Go.Proofs.YtbaipppmefencaaDoorW.PrintMore
attribute [local go_sem] max2_int min2_int max_two min_two max_three min_three max_four min_four
set_option linter.unusedVariables false
set_option linter.unusedSimpArgs false

/-! ### pouchlaw04_TopicSelves: function 3 -/
mutual
def pouchlaw04_TopicSelves.l0 : Nat → ByteArray → List ByteArray → Int → ByteArray → ByteArray → Int → Option (Bool)
  | 0, _, _, _, _, _, _ => none
  | k + 1, x0, x5, x6, x7, x8, x9 => if x9 < (x5.length : Int) then (if 0 ≤ x9 then (if x9 = x6 then (pouchlaw04_TopicSelves.j1 k x0 x5 x6 x7 x8 x9 (⟨#[43]⟩ : ByteArray)) else (pouchlaw04_TopicSelves.j1 k x0 x5 x6 x7 x8 x9 (rdOf ByteArray.empty x5 x9))) else (none)) else ((pouchlaw04_told.f k).bind fun t175 => (if t175 = true then ((topic_Match.f k x0 x0).bind fun t176 => (if t176 = true then ((topic_Match.f k x7 x0).bind fun t177 => (if t177 = true then (if x8.size + 1 ≤ 9223372036854775807 then ((topic_Match.f k (x8 ++ (⟨#[35]⟩ : ByteArray)) x0).bind fun t178 => (if t178 = true then (if 9 + x7.size ≤ 9223372036854775807 then ((topic_Match.f k ((⟨#[36, 115, 104, 97, 114, 101, 47, 120, 47]⟩ : ByteArray) ++ x7) x0).bind fun t179 => (if t179 = true then ((topic_Match.f k (⟨#[35]⟩ : ByteArray) x0).bind fun t180 => (if t180 = true then (if 1 + x0.size ≤ 9223372036854775807 then ((topic_Match.f k (⟨#[35]⟩ : ByteArray) ((⟨#[36]⟩ : ByteArray) ++ x0)).bind fun t181 => (if t181 = true then (some false) else ((topic_Match.f k (⟨#[43, 47, 35]⟩ : ByteArray) ((⟨#[36]⟩ : ByteArray) ++ x0)).bind fun t182 => (if t182 = true then (some false) else ((topic_Match.f k ((⟨#[36]⟩ : ByteArray) ++ x0) ((⟨#[36]⟩ : ByteArray) ++ x0)).bind fun t183 => (some t183)))))) else (none)) else (some false))) else (some false))) else (none)) else (some false))) else (none)) else (some false))) else (some false))) else (some false)))
def pouchlaw04_TopicSelves.j1 : Nat → ByteArray → List ByteArray → Int → ByteArray → ByteArray → Int → ByteArray → Option (Bool)
  | 0, _, _, _, _, _, _, _ => none
  | k + 1, x0, x5, x6, x7, x8, x9, x10 => if x9 > 0 then (if x7.size + 1 ≤ 9223372036854775807 then (if (x7 ++ (⟨#[47]⟩ : ByteArray)).size + x10.size ≤ 9223372036854775807 then (if x9 < x6 then (if 0 ≤ x9 then (if x9 < (x5.length : Int) then (if x8.size + (rdOf ByteArray.empty x5 x9).size ≤ 9223372036854775807 then (if (x8 ++ (rdOf ByteArray.empty x5 x9)).size + 1 ≤ 9223372036854775807 then (pouchlaw04_TopicSelves.l0 k x0 x5 x6 ((x7 ++ (⟨#[47]⟩ : ByteArray)) ++ x10) ((x8 ++ (rdOf ByteArray.empty x5 x9)) ++ (⟨#[47]⟩ : ByteArray)) (wrap64 (x9 + 1))) else (none)) else (none)) else (none)) else (none)) else (pouchlaw04_TopicSelves.l0 k x0 x5 x6 ((x7 ++ (⟨#[47]⟩ : ByteArray)) ++ x10) x8 (wrap64 (x9 + 1)))) else (none)) else (none)) else (if x7.size + x10.size ≤ 9223372036854775807 then (if x9 < x6 then (if 0 ≤ x9 then (if x9 < (x5.length : Int) then (if x8.size + (rdOf ByteArray.empty x5 x9).size ≤ 9223372036854775807 then (if (x8 ++ (rdOf ByteArray.empty x5 x9)).size + 1 ≤ 9223372036854775807 then (pouchlaw04_TopicSelves.l0 k x0 x5 x6 (x7 ++ x10) ((x8 ++ (rdOf ByteArray.empty x5 x9)) ++ (⟨#[47]⟩ : ByteArray)) (wrap64 (x9 + 1))) else (none)) else (none)) else (none)) else (none)) else (pouchlaw04_TopicSelves.l0 k x0 x5 x6 (x7 ++ x10) x8 (wrap64 (x9 + 1)))) else (none))
end
def pouchlaw04_TopicSelves.f (k : Nat) (a0 : ByteArray) (a1 : Int) : Option (Bool) := (pouchref04_Fix.f k a0).bind fun t168 => ((pouchref04_Levels.f k t168).bind fun t169 => (if (IntKind.u64.wrap ((t169.length : Int))) = 0 then (none) else (pouchlaw04_TopicSelves.l0 k t168 t169 (wrap64 (Int.tmod (IntKind.u64.wrap (a1)) (IntKind.u64.wrap ((t169.length : Int))))) (⟨#[]⟩ : ByteArray) (⟨#[]⟩ : ByteArray) 0)))
theorem pouchlaw04_TopicSelves.mono_l : ∀ k, (∀ y0 y1 y2 y3 y4 y5, LeO (pouchlaw04_TopicSelves.l0 k y0 y1 y2 y3 y4 y5) (pouchlaw04_TopicSelves.l0 (k + 1) y0 y1 y2 y3 y4 y5)) ∧ (∀ y0 y1 y2 y3 y4 y5 y6, LeO (pouchlaw04_TopicSelves.j1 k y0 y1 y2 y3 y4 y5 y6) (pouchlaw04_TopicSelves.j1 (k + 1) y0 y1 y2 y3 y4 y5 y6))
  | 0 => ⟨fun _ _ _ _ _ _ r h => by simp [pouchlaw04_TopicSelves.l0] at h, fun _ _ _ _ _ _ _ r h => by simp [pouchlaw04_TopicSelves.j1] at h⟩
  | k + 1 => by
    obtain ⟨ih0, ih1⟩ := pouchlaw04_TopicSelves.mono_l k
    refine ⟨?_, ?_⟩
    · intro y0 y1 y2 y3 y4 y5
      unfold pouchlaw04_TopicSelves.l0
      repeat' first
      | (with_reducible exact ih0 _ _ _ _ _ _)
      | (with_reducible exact ih1 _ _ _ _ _ _ _)
      | (with_reducible exact pouchlaw04_told.mono _)
      | (with_reducible exact pouchref04_Fix.mono _ _)
      | (with_reducible exact pouchref04_Levels.mono _ _)
      | (with_reducible exact topic_Match.mono _ _ _)
      | (with_reducible exact LeO.refl _)
      | (with_reducible exact LeO.none _)
      | (with_reducible refine LeO.ite ?_ ?_)
      | (with_reducible refine LeO.bind ?_ (fun _ => ?_))
      | exact ih0 _ _ _ _ _ _
      | exact ih1 _ _ _ _ _ _ _
      | exact pouchlaw04_told.mono _
      | exact pouchref04_Fix.mono _ _
      | exact pouchref04_Levels.mono _ _
      | exact topic_Match.mono _ _ _
      | exact LeO.none _
      | refine LeO.ite ?_ ?_
      | refine LeO.bind ?_ (fun _ => ?_)
    · intro y0 y1 y2 y3 y4 y5 y6
      unfold pouchlaw04_TopicSelves.j1
      repeat' first
      | (with_reducible exact ih0 _ _ _ _ _ _)
      | (with_reducible exact ih1 _ _ _ _ _ _ _)
      | (with_reducible exact pouchlaw04_told.mono _)
      | (with_reducible exact pouchref04_Fix.mono _ _)
      | (with_reducible exact pouchref04_Levels.mono _ _)
      | (with_reducible exact topic_Match.mono _ _ _)
      | (with_reducible exact LeO.refl _)
      | (with_reducible exact LeO.none _)
      | (with_reducible refine LeO.ite ?_ ?_)
      | (with_reducible refine LeO.bind ?_ (fun _ => ?_))
      | exact ih0 _ _ _ _ _ _
      | exact ih1 _ _ _ _ _ _ _
      | exact pouchlaw04_told.mono _
      | exact pouchref04_Fix.mono _ _
      | exact pouchref04_Levels.mono _ _
      | exact topic_Match.mono _ _ _
      | exact LeO.none _
      | refine LeO.ite ?_ ?_
      | refine LeO.bind ?_ (fun _ => ?_)
theorem pouchlaw04_TopicSelves.mono : ∀ a0 a1 k, LeO (pouchlaw04_TopicSelves.f k a0 a1) (pouchlaw04_TopicSelves.f (k + 1) a0 a1) := by
  intro a0 a1 k
  obtain ⟨ih0, ih1⟩ := pouchlaw04_TopicSelves.mono_l k
  unfold pouchlaw04_TopicSelves.f
  repeat' first
      | (with_reducible exact ih0 _ _ _ _ _ _)
      | (with_reducible exact ih1 _ _ _ _ _ _ _)
      | (with_reducible exact pouchlaw04_told.mono _)
      | (with_reducible exact pouchref04_Fix.mono _ _)
      | (with_reducible exact pouchref04_Levels.mono _ _)
      | (with_reducible exact topic_Match.mono _ _ _)
      | (with_reducible exact LeO.refl _)
      | (with_reducible exact LeO.none _)
      | (with_reducible refine LeO.ite ?_ ?_)
      | (with_reducible refine LeO.bind ?_ (fun _ => ?_))
      | exact ih0 _ _ _ _ _ _
      | exact ih1 _ _ _ _ _ _ _
      | exact pouchlaw04_told.mono _
      | exact pouchref04_Fix.mono _ _
      | exact pouchref04_Levels.mono _ _
      | exact topic_Match.mono _ _ _
      | exact LeO.none _
      | refine LeO.ite ?_ ?_
      | refine LeO.bind ?_ (fun _ => ?_)
set_option maxHeartbeats 8000000 in
set_option maxRecDepth 100000 in
theorem pouchlaw04_TopicSelves.calls (k : Nat) (a0 : ByteArray) (a1 : Int) (r : Bool) (w : World) (hG : GW w) (h : pouchlaw04_TopicSelves.f k a0 a1 = some r) :
    Calls Tryd.prog 3 #[.string a0, .int .i64 a1] w fun e w' => e = .returned (.bool r) ∧ Below w.heap.size w w' := by
  have HB := Aside0.mk (Below.refl w.heap.size w)
  have HG := Aside0.mk hG
  clear hG
  have H : ((pouchref04_Fix.f k a0).bind fun t168 => ((pouchref04_Levels.f k t168).bind fun t169 => (if (IntKind.u64.wrap ((t169.length : Int))) = 0 then (none) else (pouchlaw04_TopicSelves.l0 k t168 t169 (wrap64 (Int.tmod (IntKind.u64.wrap (a1)) (IntKind.u64.wrap ((t169.length : Int))))) (⟨#[]⟩ : ByteArray) (⟨#[]⟩ : ByteArray) 0)))) = some r := h
  clear h
  replace H := Option.bind_eq_some_iff.mp H
  obtain ⟨t168, A30, H⟩ := H
  replace H : ((pouchref04_Levels.f k t168).bind fun t169 => (if (IntKind.u64.wrap ((t169.length : Int))) = 0 then (none) else (pouchlaw04_TopicSelves.l0 k t168 t169 (wrap64 (Int.tmod (IntKind.u64.wrap (a1)) (IntKind.u64.wrap ((t169.length : Int))))) (⟨#[]⟩ : ByteArray) (⟨#[]⟩ : ByteArray) 0))) = some r := H
  have A3 := Aside0.mk A30
  clear A30
  replace H := Option.bind_eq_some_iff.mp H
  obtain ⟨t169, A40, H⟩ := H
  replace H : (if (IntKind.u64.wrap ((t169.length : Int))) = 0 then (none) else (pouchlaw04_TopicSelves.l0 k t168 t169 (wrap64 (Int.tmod (IntKind.u64.wrap (a1)) (IntKind.u64.wrap ((t169.length : Int))))) (⟨#[]⟩ : ByteArray) (⟨#[]⟩ : ByteArray) 0)) = some r := H
  have A4 := Aside0.mk A40
  clear A40
  by_cases c5 : (IntKind.u64.wrap ((t169.length : Int))) = 0
  · rw [if_pos c5] at H
    exact absurd H (by simp)
  · rw [if_neg c5] at H
    have c5b0 : ((IntKind.u64.wrap ((t169.length : Int))) == 0) = false := beq_eq_false_iff_ne.mpr c5
    have c5b1 : ((IntKind.u64.wrap ((t169.length : Int))) != 0) = true := bne_iff_ne.mpr c5
    have H' := Aside0.mk H
    clear H
    go_enter Tryd.func3, Tryd.ntmps3
    go_wp2_with (first | ((with_reducible refine gate_callee (f := 11) rfl ?_); refine goesL_ (some 12) rfl rfl Tryd.func11 (by kernel_rfl) rfl #[.string a0] rfl (by (try simp only [List.map_toArray, List.map_cons, List.map_nil]); first | done | rfl | (simp only [List.length_drop, List.length_take]; rfl)) ?_; (with_reducible refine (pouchref04_Fix.calls k a0 t168 _ A3.out).mono ?_); rintro e w6 ⟨rfl, hb⟩; refine ⟨_, rfl, ?_⟩; have n0_ := Aside0.mk (below_step (by repeat (first | (with_reducible first | exact HB.out | apply below_alloc | apply pw_below_drewN | apply below_drew1) | exact HB.out)) hb); clear HB; have HB := n0_; clear n0_; (try clear hb); (try clear hb2); (try clear hk); (try clear hi)) | ((with_reducible refine gate_callee (f := 12) rfl ?_); refine goesL_ (some 14) rfl rfl Tryd.func12 (by kernel_rfl) rfl #[.string t168] rfl (by (try simp only [List.map_toArray, List.map_cons, List.map_nil]); first | done | rfl | (simp only [List.length_drop, List.length_take]; rfl)) ?_; (with_reducible refine (pouchref04_Levels.calls k t168 t169 _ A4.out).mono ?_); rintro e w7 ⟨v170, rfl, ho0, hb⟩; refine ⟨_, rfl, ?_⟩; have n0_ := Aside0.mk (Kd.R_lower ho0 (below_size (by repeat (first | (with_reducible first | exact HB.out | apply below_alloc | apply pw_below_drewN | apply below_drew1) | exact HB.out)))); have n1_ := Aside0.mk (below_step (by repeat (first | (with_reducible first | exact HB.out | apply below_alloc | apply pw_below_drewN | apply below_drew1) | exact HB.out)) hb); clear HB; have HO171 := n0_; have HB := n1_; clear n0_ n1_; (try clear hb); (try clear hb2); (try clear hk); (try clear hi); (try clear ho0); obtain ⟨Ao8, co8, eo8⟩ := Kd.R_slice HO171.out; subst eo8))
    go_loopg [7, 8, 9] k (fun kq v7 v8 v9 w' => ∃ (x7_1 : ByteArray) (x8_1 : ByteArray) (x9_1 : Int), v7 = .string x7_1 ∧ v8 = .string x8_1 ∧ v9 = .int .i64 x9_1 ∧ Aside0 (pouchlaw04_TopicSelves.l0 kq t168 t169 (wrap64 (Int.tmod (IntKind.u64.wrap (a1)) (IntKind.u64.wrap ((t169.length : Int))))) x7_1 x8_1 x9_1 = some r) ∧ Aside0 (kq ≤ k) ∧ Aside0 (Kd.R Kd.string 9 w' w.heap.size (fun _ => True) (.slice Ao8 t169.length co8) t169) ∧ Aside0 (Below w.heap.size w w'))
    case atStart => exact ⟨((⟨#[]⟩ : ByteArray)), ((⟨#[]⟩ : ByteArray)), (0), (by first | rfl | (simp; done) | (simp [*]; done)), (by first | rfl | (simp; done) | (simp [*]; done)), (by first | rfl | (simp; done) | (simp [*]; done)), H', ⟨Nat.le_refl _⟩, ⟨by (with_reducible repeat (first | apply Kd.R_alloc | apply Kd.R_drewN | apply Kd.R_drew)); exact HO171.out⟩, ⟨by repeat (first | (with_reducible first | exact HB.out | apply below_alloc | apply pw_below_drewN | apply below_drew1) | exact HB.out)⟩⟩
    case round =>
      clear H'
      try clear c1
      try clear p2
      try clear c3
      try clear c5
      try clear c5b0
      try clear c5b1
      try clear p6
      obtain ⟨x7_1, x8_1, x9_1, rfl, rfl, rfl, HA, HK1, HO_5, HB⟩ := hrel
      cases gk with
      | zero => exact absurd HA.out (by simp [pouchlaw04_TopicSelves.l0])
      | succ k1 =>
        have H := HA.out
        clear HA
        simp only [pouchlaw04_TopicSelves.l0] at H
        by_cases c9 : x9_1 < (t169.length : Int)
        · rw [if_pos c9] at H
          have c9b0 : decide (x9_1 < (t169.length : Int)) = true := decide_eq_true c9
          clear c9
          by_cases c10 : 0 ≤ x9_1
          · rw [if_pos c10] at H
            have c10b0 : decide (0 ≤ x9_1) = true := decide_eq_true c10
            clear c10
            have HC11 := Aside0.mk H
            clear H
            have p172 : 0 ≤ (x9_1 : Int) := of_decide_eq_true (by first | (with_reducible assumption) | assumption)
            have q172 : x9_1 < (t169.length : Int) := of_decide_eq_true (by first | (with_reducible assumption) | assumption)
            obtain ⟨ad172, e172, hx172_0⟩ := Kd.at_string (Kd.R_reads' HO_5.out).2.2 x9_1 p172 q172
            cases e172
            replace p172 := eq_true p172
            replace q172 := eq_true q172
            go_upto_if 34 with (fail)
            go_cut [10] (fun v10 wc => ∃ (kq : Nat) (x10_10 : ByteArray), v10 = .string x10_10 ∧ Aside0 (pouchlaw04_TopicSelves.j1 kq t168 t169 (wrap64 (Int.tmod (IntKind.u64.wrap (a1)) (IntKind.u64.wrap ((t169.length : Int))))) x7_1 x8_1 x9_1 x10_10 = some r) ∧ Aside0 (kq ≤ k1) ∧ Aside0 (Kd.R Kd.string 9 wc w.heap.size (fun _ => True) (.slice (some ad172) t169.length co8) t169) ∧ Aside0 (Below w.heap.size w wc))
            case first =>
              have H := HC11.out
              clear HC11
              by_cases c12 : x9_1 = (wrap64 (Int.tmod (IntKind.u64.wrap (a1)) (IntKind.u64.wrap ((t169.length : Int)))))
              · rw [if_pos c12] at H
                have c12b0 : (x9_1 == (wrap64 (Int.tmod (IntKind.u64.wrap (a1)) (IntKind.u64.wrap ((t169.length : Int)))))) = true := beq_iff_eq.mpr c12
                have c12b1 : (x9_1 != (wrap64 (Int.tmod (IntKind.u64.wrap (a1)) (IntKind.u64.wrap ((t169.length : Int)))))) = false := bne_eq_false_iff_eq.mpr c12
                clear c12
                (first | rw [c12b0] | (simp only [i64_w, i32_w]; rw [c12b0]) | skip)
                have H' := Aside0.mk H
                clear H
                go_wp2
                go_meet
                case rel => exact ⟨_, ((⟨#[43]⟩ : ByteArray)), (by first | rfl | (simp; done) | (simp [*]; done)), H', ⟨by have := HK1.out; first | omega | exact Nat.le_refl _⟩, ⟨by (with_reducible repeat (first | apply Kd.R_alloc | apply Kd.R_drewN | apply Kd.R_drew)); exact HO_5.out⟩, ⟨by repeat (first | (with_reducible first | exact HB.out | apply below_alloc | apply pw_below_drewN | apply below_drew1) | exact HB.out)⟩⟩
              · rw [if_neg c12] at H
                have c12b0 : (x9_1 == (wrap64 (Int.tmod (IntKind.u64.wrap (a1)) (IntKind.u64.wrap ((t169.length : Int)))))) = false := beq_eq_false_iff_ne.mpr c12
                have c12b1 : (x9_1 != (wrap64 (Int.tmod (IntKind.u64.wrap (a1)) (IntKind.u64.wrap ((t169.length : Int)))))) = true := bne_iff_ne.mpr c12
                (first | rw [c12b0] | (simp only [i64_w, i32_w]; rw [c12b0]) | skip)
                have H' := Aside0.mk H
                clear H
                go_wp2
                go_meet
                case rel => exact ⟨_, (rdOf ByteArray.empty t169 x9_1), (by first | rfl | (simp; done) | (simp [*]; done)), H', ⟨by have := HK1.out; first | omega | exact Nat.le_refl _⟩, ⟨by (with_reducible repeat (first | apply Kd.R_alloc | apply Kd.R_drewN | apply Kd.R_drew)); exact HO_5.out⟩, ⟨by repeat (first | (with_reducible first | exact HB.out | apply below_alloc | apply pw_below_drewN | apply below_drew1) | exact HB.out)⟩⟩
            case rest =>
              clear HC11
              try clear c1
              try clear p1
              try clear q1
              try clear hx1
              try clear p2
              try clear c3
              try clear c5
              try clear c5b0
              try clear c5b1
              try clear p6
              try clear c9
              try clear c9b0
              try clear c10
              try clear c10b0
              try clear c11
              try clear c12
              try clear c12b0
              try clear c12b1
              try clear hx172_0
              try clear p172
              try clear p2
              try clear p6
              try clear q172
              obtain ⟨kq, x10_10, rfl, HA, HJ10, HO_5, HB⟩ := hcut
              cases kq with
              | zero => exact absurd HA.out (by simp [pouchlaw04_TopicSelves.j1])
              | succ kj10 =>
                have H := HA.out
                clear HA
                simp only [pouchlaw04_TopicSelves.j1] at H
                by_cases c13 : x9_1 > 0
                · rw [if_pos c13] at H
                  have c13b0 : decide (0 < x9_1) = true := decide_eq_true c13
                  clear c13
                  by_cases c14 : x7_1.size + 1 ≤ 9223372036854775807
                  · rw [if_pos c14] at H
                    have c14b0 := eq_true c14
                    have c14b1 : decide (x7_1.size + 1 ≤ 9223372036854775807) = true := decide_eq_true c14
                    try have c14b2 : (9223372036854775807 < x7_1.size + 1) = False := eq_false (Nat.not_lt.2 c14)
                    by_cases c15 : (x7_1 ++ (⟨#[47]⟩ : ByteArray)).size + x10_10.size ≤ 9223372036854775807
                    · rw [if_pos c15] at H
                      have c15b0 := eq_true c15
                      have c15b1 : decide ((x7_1 ++ (⟨#[47]⟩ : ByteArray)).size + x10_10.size ≤ 9223372036854775807) = true := decide_eq_true c15
                      try have c15b2 : (9223372036854775807 < (x7_1 ++ (⟨#[47]⟩ : ByteArray)).size + x10_10.size) = False := eq_false (Nat.not_lt.2 c15)
                      try (have c15b5 := c15b2; simp only [ByteArray.size_append, show (⟨#[47]⟩ : ByteArray).size = 1 from rfl] at c15b5)
                      try (have c15b6 := c15b1; simp only [ByteArray.size_append, show (⟨#[47]⟩ : ByteArray).size = 1 from rfl] at c15b6)
                      try (have c15b9 := c15; simp only [ByteArray.size_append, show (⟨#[47]⟩ : ByteArray).size = 1 from rfl] at c15b9)
                      by_cases c16 : x9_1 < (wrap64 (Int.tmod (IntKind.u64.wrap (a1)) (IntKind.u64.wrap ((t169.length : Int)))))
                      · rw [if_pos c16] at H
                        have c16b0 : decide (x9_1 < (wrap64 (Int.tmod (IntKind.u64.wrap (a1)) (IntKind.u64.wrap ((t169.length : Int)))))) = true := decide_eq_true c16
                        clear c16
                        by_cases c17 : 0 ≤ x9_1
                        · rw [if_pos c17] at H
                          have c17b0 : decide (0 ≤ x9_1) = true := decide_eq_true c17
                          clear c17
                          by_cases c18 : x9_1 < (t169.length : Int)
                          · rw [if_pos c18] at H
                            have c18b0 : decide (x9_1 < (t169.length : Int)) = true := decide_eq_true c18
                            clear c18
                            by_cases c19 : x8_1.size + (rdOf ByteArray.empty t169 x9_1).size ≤ 9223372036854775807
                            · rw [if_pos c19] at H
                              have c19b0 := eq_true c19
                              have c19b1 : decide (x8_1.size + (rdOf ByteArray.empty t169 x9_1).size ≤ 9223372036854775807) = true := decide_eq_true c19
                              try have c19b2 : (9223372036854775807 < x8_1.size + (rdOf ByteArray.empty t169 x9_1).size) = False := eq_false (Nat.not_lt.2 c19)
                              by_cases c20 : (x8_1 ++ (rdOf ByteArray.empty t169 x9_1)).size + 1 ≤ 9223372036854775807
                              · rw [if_pos c20] at H
                                have c20b0 := eq_true c20
                                have c20b1 : decide ((x8_1 ++ (rdOf ByteArray.empty t169 x9_1)).size + 1 ≤ 9223372036854775807) = true := decide_eq_true c20
                                try have c20b2 : (9223372036854775807 < (x8_1 ++ (rdOf ByteArray.empty t169 x9_1)).size + 1) = False := eq_false (Nat.not_lt.2 c20)
                                try (have c20b5 := c20b2; simp only [ByteArray.size_append] at c20b5)
                                try (have c20b6 := c20b1; simp only [ByteArray.size_append] at c20b6)
                                try (have c20b9 := c20; simp only [ByteArray.size_append] at c20b9)
                                have H' := Aside0.mk H
                                clear H
                                have p173 : 0 ≤ (x9_1 : Int) := of_decide_eq_true (by first | (with_reducible assumption) | assumption)
                                have q173 : x9_1 < (t169.length : Int) := of_decide_eq_true (by first | (with_reducible assumption) | assumption)
                                obtain ⟨ad173, e173, hx173_0⟩ := Kd.at_string (Kd.R_reads' HO_5.out).2.2 x9_1 p173 q173
                                obtain rfl : ad172 = ad173 := (by injection e173)
                                replace p173 := eq_true p173
                                replace q173 := eq_true q173
                                go_wp2
                                go_roundg kj10
                                case measure => have := HK1.out; have := HJ10.out; omega
                                case rel => exact ⟨((x7_1 ++ (⟨#[47]⟩ : ByteArray)) ++ x10_10), ((x8_1 ++ (rdOf ByteArray.empty t169 x9_1)) ++ (⟨#[47]⟩ : ByteArray)), (wrap64 (x9_1 + 1)), (by first | rfl | (simp; done) | (simp [*]; done)), (by first | rfl | (simp; done) | (simp [*]; done)), (by first | rfl | (simp; done) | (simp [*]; done)), H', ⟨by have := HK1.out; have := HJ10.out; omega⟩, ⟨by (with_reducible repeat (first | apply Kd.R_alloc | apply Kd.R_drewN | apply Kd.R_drew)); exact HO_5.out⟩, ⟨by repeat (first | (with_reducible first | exact HB.out | apply below_alloc | apply pw_below_drewN | apply below_drew1) | exact HB.out)⟩⟩
                              · rw [if_neg c20] at H
                                exact absurd H (by simp)
                            · rw [if_neg c19] at H
                              exact absurd H (by simp)
                          · rw [if_neg c18] at H
                            exact absurd H (by simp)
                        · rw [if_neg c17] at H
                          exact absurd H (by simp)
                      · rw [if_neg c16] at H
                        have c16b0 : decide (x9_1 < (wrap64 (Int.tmod (IntKind.u64.wrap (a1)) (IntKind.u64.wrap ((t169.length : Int)))))) = false := decide_eq_false c16
                        clear c16
                        have H' := Aside0.mk H
                        clear H
                        go_wp2
                        go_roundg kj10
                        case measure => have := HK1.out; have := HJ10.out; omega
                        case rel => exact ⟨((x7_1 ++ (⟨#[47]⟩ : ByteArray)) ++ x10_10), (x8_1), (wrap64 (x9_1 + 1)), (by first | rfl | (simp; done) | (simp [*]; done)), (by first | rfl | (simp; done) | (simp [*]; done)), (by first | rfl | (simp; done) | (simp [*]; done)), H', ⟨by have := HK1.out; have := HJ10.out; omega⟩, ⟨by (with_reducible repeat (first | apply Kd.R_alloc | apply Kd.R_drewN | apply Kd.R_drew)); exact HO_5.out⟩, ⟨by repeat (first | (with_reducible first | exact HB.out | apply below_alloc | apply pw_below_drewN | apply below_drew1) | exact HB.out)⟩⟩
                    · rw [if_neg c15] at H
                      exact absurd H (by simp)
                  · rw [if_neg c14] at H
                    exact absurd H (by simp)
                · rw [if_neg c13] at H
                  have c13b0 : decide (0 < x9_1) = false := decide_eq_false c13
                  clear c13
                  by_cases c21 : x7_1.size + x10_10.size ≤ 9223372036854775807
                  · rw [if_pos c21] at H
                    have c21b0 := eq_true c21
                    have c21b1 : decide (x7_1.size + x10_10.size ≤ 9223372036854775807) = true := decide_eq_true c21
                    try have c21b2 : (9223372036854775807 < x7_1.size + x10_10.size) = False := eq_false (Nat.not_lt.2 c21)
                    by_cases c22 : x9_1 < (wrap64 (Int.tmod (IntKind.u64.wrap (a1)) (IntKind.u64.wrap ((t169.length : Int)))))
                    · rw [if_pos c22] at H
                      have c22b0 : decide (x9_1 < (wrap64 (Int.tmod (IntKind.u64.wrap (a1)) (IntKind.u64.wrap ((t169.length : Int)))))) = true := decide_eq_true c22
                      clear c22
                      by_cases c23 : 0 ≤ x9_1
                      · rw [if_pos c23] at H
                        have c23b0 : decide (0 ≤ x9_1) = true := decide_eq_true c23
                        clear c23
                        by_cases c24 : x9_1 < (t169.length : Int)
                        · rw [if_pos c24] at H
                          have c24b0 : decide (x9_1 < (t169.length : Int)) = true := decide_eq_true c24
                          clear c24
                          by_cases c25 : x8_1.size + (rdOf ByteArray.empty t169 x9_1).size ≤ 9223372036854775807
                          · rw [if_pos c25] at H
                            have c25b0 := eq_true c25
                            have c25b1 : decide (x8_1.size + (rdOf ByteArray.empty t169 x9_1).size ≤ 9223372036854775807) = true := decide_eq_true c25
                            try have c25b2 : (9223372036854775807 < x8_1.size + (rdOf ByteArray.empty t169 x9_1).size) = False := eq_false (Nat.not_lt.2 c25)
                            by_cases c26 : (x8_1 ++ (rdOf ByteArray.empty t169 x9_1)).size + 1 ≤ 9223372036854775807
                            · rw [if_pos c26] at H
                              have c26b0 := eq_true c26
                              have c26b1 : decide ((x8_1 ++ (rdOf ByteArray.empty t169 x9_1)).size + 1 ≤ 9223372036854775807) = true := decide_eq_true c26
                              try have c26b2 : (9223372036854775807 < (x8_1 ++ (rdOf ByteArray.empty t169 x9_1)).size + 1) = False := eq_false (Nat.not_lt.2 c26)
                              try (have c26b5 := c26b2; simp only [ByteArray.size_append] at c26b5)
                              try (have c26b6 := c26b1; simp only [ByteArray.size_append] at c26b6)
                              try (have c26b9 := c26; simp only [ByteArray.size_append] at c26b9)
                              have H' := Aside0.mk H
                              clear H
                              have p174 : 0 ≤ (x9_1 : Int) := of_decide_eq_true (by first | (with_reducible assumption) | assumption)
                              have q174 : x9_1 < (t169.length : Int) := of_decide_eq_true (by first | (with_reducible assumption) | assumption)
                              obtain ⟨ad174, e174, hx174_0⟩ := Kd.at_string (Kd.R_reads' HO_5.out).2.2 x9_1 p174 q174
                              obtain rfl : ad172 = ad174 := (by injection e174)
                              replace p174 := eq_true p174
                              replace q174 := eq_true q174
                              go_wp2
                              go_roundg kj10
                              case measure => have := HK1.out; have := HJ10.out; omega
                              case rel => exact ⟨(x7_1 ++ x10_10), ((x8_1 ++ (rdOf ByteArray.empty t169 x9_1)) ++ (⟨#[47]⟩ : ByteArray)), (wrap64 (x9_1 + 1)), (by first | rfl | (simp; done) | (simp [*]; done)), (by first | rfl | (simp; done) | (simp [*]; done)), (by first | rfl | (simp; done) | (simp [*]; done)), H', ⟨by have := HK1.out; have := HJ10.out; omega⟩, ⟨by (with_reducible repeat (first | apply Kd.R_alloc | apply Kd.R_drewN | apply Kd.R_drew)); exact HO_5.out⟩, ⟨by repeat (first | (with_reducible first | exact HB.out | apply below_alloc | apply pw_below_drewN | apply below_drew1) | exact HB.out)⟩⟩
                            · rw [if_neg c26] at H
                              exact absurd H (by simp)
                          · rw [if_neg c25] at H
                            exact absurd H (by simp)
                        · rw [if_neg c24] at H
                          exact absurd H (by simp)
                      · rw [if_neg c23] at H
                        exact absurd H (by simp)
                    · rw [if_neg c22] at H
                      have c22b0 : decide (x9_1 < (wrap64 (Int.tmod (IntKind.u64.wrap (a1)) (IntKind.u64.wrap ((t169.length : Int)))))) = false := decide_eq_false c22
                      clear c22
                      have H' := Aside0.mk H
                      clear H
                      go_wp2
                      go_roundg kj10
                      case measure => have := HK1.out; have := HJ10.out; omega
                      case rel => exact ⟨(x7_1 ++ x10_10), (x8_1), (wrap64 (x9_1 + 1)), (by first | rfl | (simp; done) | (simp [*]; done)), (by first | rfl | (simp; done) | (simp [*]; done)), (by first | rfl | (simp; done) | (simp [*]; done)), H', ⟨by have := HK1.out; have := HJ10.out; omega⟩, ⟨by (with_reducible repeat (first | apply Kd.R_alloc | apply Kd.R_drewN | apply Kd.R_drew)); exact HO_5.out⟩, ⟨by repeat (first | (with_reducible first | exact HB.out | apply below_alloc | apply pw_below_drewN | apply below_drew1) | exact HB.out)⟩⟩
                  · rw [if_neg c21] at H
                    exact absurd H (by simp)
          · rw [if_neg c10] at H
            exact absurd H (by simp)
        · rw [if_neg c9] at H
          have c9b0 : decide (x9_1 < (t169.length : Int)) = false := decide_eq_false c9
          clear c9
          replace H := Option.bind_eq_some_iff.mp H
          obtain ⟨t175, A270, H⟩ := H
          replace H : (if t175 = true then ((topic_Match.f k1 t168 t168).bind fun t176 => (if t176 = true then ((topic_Match.f k1 x7_1 t168).bind fun t177 => (if t177 = true then (if x8_1.size + 1 ≤ 9223372036854775807 then ((topic_Match.f k1 (x8_1 ++ (⟨#[35]⟩ : ByteArray)) t168).bind fun t178 => (if t178 = true then (if 9 + x7_1.size ≤ 9223372036854775807 then ((topic_Match.f k1 ((⟨#[36, 115, 104, 97, 114, 101, 47, 120, 47]⟩ : ByteArray) ++ x7_1) t168).bind fun t179 => (if t179 = true then ((topic_Match.f k1 (⟨#[35]⟩ : ByteArray) t168).bind fun t180 => (if t180 = true then (if 1 + t168.size ≤ 9223372036854775807 then ((topic_Match.f k1 (⟨#[35]⟩ : ByteArray) ((⟨#[36]⟩ : ByteArray) ++ t168)).bind fun t181 => (if t181 = true then (some false) else ((topic_Match.f k1 (⟨#[43, 47, 35]⟩ : ByteArray) ((⟨#[36]⟩ : ByteArray) ++ t168)).bind fun t182 => (if t182 = true then (some false) else ((topic_Match.f k1 ((⟨#[36]⟩ : ByteArray) ++ t168) ((⟨#[36]⟩ : ByteArray) ++ t168)).bind fun t183 => (some t183)))))) else (none)) else (some false))) else (some false))) else (none)) else (some false))) else (none)) else (some false))) else (some false))) else (some false)) = some r := H
          have A27 := Aside0.mk A270
          clear A270
          by_cases c28 : t175 = true
          · subst c28
            have H1 : ((topic_Match.f k1 t168 t168).bind fun t176 => (if t176 = true then ((topic_Match.f k1 x7_1 t168).bind fun t177 => (if t177 = true then (if x8_1.size + 1 ≤ 9223372036854775807 then ((topic_Match.f k1 (x8_1 ++ (⟨#[35]⟩ : ByteArray)) t168).bind fun t178 => (if t178 = true then (if 9 + x7_1.size ≤ 9223372036854775807 then ((topic_Match.f k1 ((⟨#[36, 115, 104, 97, 114, 101, 47, 120, 47]⟩ : ByteArray) ++ x7_1) t168).bind fun t179 => (if t179 = true then ((topic_Match.f k1 (⟨#[35]⟩ : ByteArray) t168).bind fun t180 => (if t180 = true then (if 1 + t168.size ≤ 9223372036854775807 then ((topic_Match.f k1 (⟨#[35]⟩ : ByteArray) ((⟨#[36]⟩ : ByteArray) ++ t168)).bind fun t181 => (if t181 = true then (some false) else ((topic_Match.f k1 (⟨#[43, 47, 35]⟩ : ByteArray) ((⟨#[36]⟩ : ByteArray) ++ t168)).bind fun t182 => (if t182 = true then (some false) else ((topic_Match.f k1 ((⟨#[36]⟩ : ByteArray) ++ t168) ((⟨#[36]⟩ : ByteArray) ++ t168)).bind fun t183 => (some t183)))))) else (none)) else (some false))) else (some false))) else (none)) else (some false))) else (none)) else (some false))) else (some false))) = some r := by rw [if_pos rfl] at H; exact H
            clear H
            have H := H1
            clear H1
            replace H := Option.bind_eq_some_iff.mp H
            obtain ⟨t176, A290, H⟩ := H
            replace H : (if t176 = true then ((topic_Match.f k1 x7_1 t168).bind fun t177 => (if t177 = true then (if x8_1.size + 1 ≤ 9223372036854775807 then ((topic_Match.f k1 (x8_1 ++ (⟨#[35]⟩ : ByteArray)) t168).bind fun t178 => (if t178 = true then (if 9 + x7_1.size ≤ 9223372036854775807 then ((topic_Match.f k1 ((⟨#[36, 115, 104, 97, 114, 101, 47, 120, 47]⟩ : ByteArray) ++ x7_1) t168).bind fun t179 => (if t179 = true then ((topic_Match.f k1 (⟨#[35]⟩ : ByteArray) t168).bind fun t180 => (if t180 = true then (if 1 + t168.size ≤ 9223372036854775807 then ((topic_Match.f k1 (⟨#[35]⟩ : ByteArray) ((⟨#[36]⟩ : ByteArray) ++ t168)).bind fun t181 => (if t181 = true then (some false) else ((topic_Match.f k1 (⟨#[43, 47, 35]⟩ : ByteArray) ((⟨#[36]⟩ : ByteArray) ++ t168)).bind fun t182 => (if t182 = true then (some false) else ((topic_Match.f k1 ((⟨#[36]⟩ : ByteArray) ++ t168) ((⟨#[36]⟩ : ByteArray) ++ t168)).bind fun t183 => (some t183)))))) else (none)) else (some false))) else (some false))) else (none)) else (some false))) else (none)) else (some false))) else (some false)) = some r := H
            have A29 := Aside0.mk A290
            clear A290
            by_cases c30 : t176 = true
            · subst c30
              have H1 : ((topic_Match.f k1 x7_1 t168).bind fun t177 => (if t177 = true then (if x8_1.size + 1 ≤ 9223372036854775807 then ((topic_Match.f k1 (x8_1 ++ (⟨#[35]⟩ : ByteArray)) t168).bind fun t178 => (if t178 = true then (if 9 + x7_1.size ≤ 9223372036854775807 then ((topic_Match.f k1 ((⟨#[36, 115, 104, 97, 114, 101, 47, 120, 47]⟩ : ByteArray) ++ x7_1) t168).bind fun t179 => (if t179 = true then ((topic_Match.f k1 (⟨#[35]⟩ : ByteArray) t168).bind fun t180 => (if t180 = true then (if 1 + t168.size ≤ 9223372036854775807 then ((topic_Match.f k1 (⟨#[35]⟩ : ByteArray) ((⟨#[36]⟩ : ByteArray) ++ t168)).bind fun t181 => (if t181 = true then (some false) else ((topic_Match.f k1 (⟨#[43, 47, 35]⟩ : ByteArray) ((⟨#[36]⟩ : ByteArray) ++ t168)).bind fun t182 => (if t182 = true then (some false) else ((topic_Match.f k1 ((⟨#[36]⟩ : ByteArray) ++ t168) ((⟨#[36]⟩ : ByteArray) ++ t168)).bind fun t183 => (some t183)))))) else (none)) else (some false))) else (some false))) else (none)) else (some false))) else (none)) else (some false))) = some r := by rw [if_pos rfl] at H; exact H
              clear H
              have H := H1
              clear H1
              replace H := Option.bind_eq_some_iff.mp H
              obtain ⟨t177, A310, H⟩ := H
              replace H : (if t177 = true then (if x8_1.size + 1 ≤ 9223372036854775807 then ((topic_Match.f k1 (x8_1 ++ (⟨#[35]⟩ : ByteArray)) t168).bind fun t178 => (if t178 = true then (if 9 + x7_1.size ≤ 9223372036854775807 then ((topic_Match.f k1 ((⟨#[36, 115, 104, 97, 114, 101, 47, 120, 47]⟩ : ByteArray) ++ x7_1) t168).bind fun t179 => (if t179 = true then ((topic_Match.f k1 (⟨#[35]⟩ : ByteArray) t168).bind fun t180 => (if t180 = true then (if 1 + t168.size ≤ 9223372036854775807 then ((topic_Match.f k1 (⟨#[35]⟩ : ByteArray) ((⟨#[36]⟩ : ByteArray) ++ t168)).bind fun t181 => (if t181 = true then (some false) else ((topic_Match.f k1 (⟨#[43, 47, 35]⟩ : ByteArray) ((⟨#[36]⟩ : ByteArray) ++ t168)).bind fun t182 => (if t182 = true then (some false) else ((topic_Match.f k1 ((⟨#[36]⟩ : ByteArray) ++ t168) ((⟨#[36]⟩ : ByteArray) ++ t168)).bind fun t183 => (some t183)))))) else (none)) else (some false))) else (some false))) else (none)) else (some false))) else (none)) else (some false)) = some r := H
              have A31 := Aside0.mk A310
              clear A310
              by_cases c32 : t177 = true
              · subst c32
                have H1 : (if x8_1.size + 1 ≤ 9223372036854775807 then ((topic_Match.f k1 (x8_1 ++ (⟨#[35]⟩ : ByteArray)) t168).bind fun t178 => (if t178 = true then (if 9 + x7_1.size ≤ 9223372036854775807 then ((topic_Match.f k1 ((⟨#[36, 115, 104, 97, 114, 101, 47, 120, 47]⟩ : ByteArray) ++ x7_1) t168).bind fun t179 => (if t179 = true then ((topic_Match.f k1 (⟨#[35]⟩ : ByteArray) t168).bind fun t180 => (if t180 = true then (if 1 + t168.size ≤ 9223372036854775807 then ((topic_Match.f k1 (⟨#[35]⟩ : ByteArray) ((⟨#[36]⟩ : ByteArray) ++ t168)).bind fun t181 => (if t181 = true then (some false) else ((topic_Match.f k1 (⟨#[43, 47, 35]⟩ : ByteArray) ((⟨#[36]⟩ : ByteArray) ++ t168)).bind fun t182 => (if t182 = true then (some false) else ((topic_Match.f k1 ((⟨#[36]⟩ : ByteArray) ++ t168) ((⟨#[36]⟩ : ByteArray) ++ t168)).bind fun t183 => (some t183)))))) else (none)) else (some false))) else (some false))) else (none)) else (some false))) else (none)) = some r := by rw [if_pos rfl] at H; exact H
                clear H
                have H := H1
                clear H1
                by_cases c33 : x8_1.size + 1 ≤ 9223372036854775807
                · rw [if_pos c33] at H
                  have c33b0 := eq_true c33
                  have c33b1 : decide (x8_1.size + 1 ≤ 9223372036854775807) = true := decide_eq_true c33
                  try have c33b2 : (9223372036854775807 < x8_1.size + 1) = False := eq_false (Nat.not_lt.2 c33)
                  replace H := Option.bind_eq_some_iff.mp H
                  obtain ⟨t178, A340, H⟩ := H
                  replace H : (if t178 = true then (if 9 + x7_1.size ≤ 9223372036854775807 then ((topic_Match.f k1 ((⟨#[36, 115, 104, 97, 114, 101, 47, 120, 47]⟩ : ByteArray) ++ x7_1) t168).bind fun t179 => (if t179 = true then ((topic_Match.f k1 (⟨#[35]⟩ : ByteArray) t168).bind fun t180 => (if t180 = true then (if 1 + t168.size ≤ 9223372036854775807 then ((topic_Match.f k1 (⟨#[35]⟩ : ByteArray) ((⟨#[36]⟩ : ByteArray) ++ t168)).bind fun t181 => (if t181 = true then (some false) else ((topic_Match.f k1 (⟨#[43, 47, 35]⟩ : ByteArray) ((⟨#[36]⟩ : ByteArray) ++ t168)).bind fun t182 => (if t182 = true then (some false) else ((topic_Match.f k1 ((⟨#[36]⟩ : ByteArray) ++ t168) ((⟨#[36]⟩ : ByteArray) ++ t168)).bind fun t183 => (some t183)))))) else (none)) else (some false))) else (some false))) else (none)) else (some false)) = some r := H
                  have A34 := Aside0.mk A340
                  clear A340
                  by_cases c35 : t178 = true
                  · subst c35
                    have H1 : (if 9 + x7_1.size ≤ 9223372036854775807 then ((topic_Match.f k1 ((⟨#[36, 115, 104, 97, 114, 101, 47, 120, 47]⟩ : ByteArray) ++ x7_1) t168).bind fun t179 => (if t179 = true then ((topic_Match.f k1 (⟨#[35]⟩ : ByteArray) t168).bind fun t180 => (if t180 = true then (if 1 + t168.size ≤ 9223372036854775807 then ((topic_Match.f k1 (⟨#[35]⟩ : ByteArray) ((⟨#[36]⟩ : ByteArray) ++ t168)).bind fun t181 => (if t181 = true then (some false) else ((topic_Match.f k1 (⟨#[43, 47, 35]⟩ : ByteArray) ((⟨#[36]⟩ : ByteArray) ++ t168)).bind fun t182 => (if t182 = true then (some false) else ((topic_Match.f k1 ((⟨#[36]⟩ : ByteArray) ++ t168) ((⟨#[36]⟩ : ByteArray) ++ t168)).bind fun t183 => (some t183)))))) else (none)) else (some false))) else (some false))) else (none)) = some r := by rw [if_pos rfl] at H; exact H
                    clear H
                    have H := H1
                    clear H1
                    by_cases c36 : 9 + x7_1.size ≤ 9223372036854775807
                    · rw [if_pos c36] at H
                      have c36b0 := eq_true c36
                      have c36b1 : decide (9 + x7_1.size ≤ 9223372036854775807) = true := decide_eq_true c36
                      try have c36b2 : (9223372036854775807 < 9 + x7_1.size) = False := eq_false (Nat.not_lt.2 c36)
                      replace H := Option.bind_eq_some_iff.mp H
                      obtain ⟨t179, A370, H⟩ := H
                      replace H : (if t179 = true then ((topic_Match.f k1 (⟨#[35]⟩ : ByteArray) t168).bind fun t180 => (if t180 = true then (if 1 + t168.size ≤ 9223372036854775807 then ((topic_Match.f k1 (⟨#[35]⟩ : ByteArray) ((⟨#[36]⟩ : ByteArray) ++ t168)).bind fun t181 => (if t181 = true then (some false) else ((topic_Match.f k1 (⟨#[43, 47, 35]⟩ : ByteArray) ((⟨#[36]⟩ : ByteArray) ++ t168)).bind fun t182 => (if t182 = true then (some false) else ((topic_Match.f k1 ((⟨#[36]⟩ : ByteArray) ++ t168) ((⟨#[36]⟩ : ByteArray) ++ t168)).bind fun t183 => (some t183)))))) else (none)) else (some false))) else (some false)) = some r := H
                      have A37 := Aside0.mk A370
                      clear A370
                      by_cases c38 : t179 = true
                      · subst c38
                        have H1 : ((topic_Match.f k1 (⟨#[35]⟩ : ByteArray) t168).bind fun t180 => (if t180 = true then (if 1 + t168.size ≤ 9223372036854775807 then ((topic_Match.f k1 (⟨#[35]⟩ : ByteArray) ((⟨#[36]⟩ : ByteArray) ++ t168)).bind fun t181 => (if t181 = true then (some false) else ((topic_Match.f k1 (⟨#[43, 47, 35]⟩ : ByteArray) ((⟨#[36]⟩ : ByteArray) ++ t168)).bind fun t182 => (if t182 = true then (some false) else ((topic_Match.f k1 ((⟨#[36]⟩ : ByteArray) ++ t168) ((⟨#[36]⟩ : ByteArray) ++ t168)).bind fun t183 => (some t183)))))) else (none)) else (some false))) = some r := by rw [if_pos rfl] at H; exact H
                        clear H
                        have H := H1
                        clear H1
                        replace H := Option.bind_eq_some_iff.mp H
                        obtain ⟨t180, A390, H⟩ := H
                        replace H : (if t180 = true then (if 1 + t168.size ≤ 9223372036854775807 then ((topic_Match.f k1 (⟨#[35]⟩ : ByteArray) ((⟨#[36]⟩ : ByteArray) ++ t168)).bind fun t181 => (if t181 = true then (some false) else ((topic_Match.f k1 (⟨#[43, 47, 35]⟩ : ByteArray) ((⟨#[36]⟩ : ByteArray) ++ t168)).bind fun t182 => (if t182 = true then (some false) else ((topic_Match.f k1 ((⟨#[36]⟩ : ByteArray) ++ t168) ((⟨#[36]⟩ : ByteArray) ++ t168)).bind fun t183 => (some t183)))))) else (none)) else (some false)) = some r := H
                        have A39 := Aside0.mk A390
                        clear A390
                        by_cases c40 : t180 = true
                        · subst c40
                          have H1 : (if 1 + t168.size ≤ 9223372036854775807 then ((topic_Match.f k1 (⟨#[35]⟩ : ByteArray) ((⟨#[36]⟩ : ByteArray) ++ t168)).bind fun t181 => (if t181 = true then (some false) else ((topic_Match.f k1 (⟨#[43, 47, 35]⟩ : ByteArray) ((⟨#[36]⟩ : ByteArray) ++ t168)).bind fun t182 => (if t182 = true then (some false) else ((topic_Match.f k1 ((⟨#[36]⟩ : ByteArray) ++ t168) ((⟨#[36]⟩ : ByteArray) ++ t168)).bind fun t183 => (some t183)))))) else (none)) = some r := by rw [if_pos rfl] at H; exact H
                          clear H
                          have H := H1
                          clear H1
                          by_cases c41 : 1 + t168.size ≤ 9223372036854775807
                          · rw [if_pos c41] at H
                            have c41b0 := eq_true c41
                            have c41b1 : decide (1 + t168.size ≤ 9223372036854775807) = true := decide_eq_true c41
                            try have c41b2 : (9223372036854775807 < 1 + t168.size) = False := eq_false (Nat.not_lt.2 c41)
                            replace H := Option.bind_eq_some_iff.mp H
                            obtain ⟨t181, A420, H⟩ := H
                            replace H : (if t181 = true then (some false) else ((topic_Match.f k1 (⟨#[43, 47, 35]⟩ : ByteArray) ((⟨#[36]⟩ : ByteArray) ++ t168)).bind fun t182 => (if t182 = true then (some false) else ((topic_Match.f k1 ((⟨#[36]⟩ : ByteArray) ++ t168) ((⟨#[36]⟩ : ByteArray) ++ t168)).bind fun t183 => (some t183))))) = some r := H
                            have A42 := Aside0.mk A420
                            clear A420
                            by_cases c43 : t181 = true
                            · subst c43
                              have H1 : (some false) = some r := by rw [if_pos rfl] at H; exact H
                              clear H
                              have H := H1
                              clear H1
                              obtain rfl := Option.some.inj H
                              go_wp2_with (first | ((with_reducible refine gate_callee (f := 13) rfl ?_); refine goesL_ (some 52) rfl rfl Tryd.func13 (by kernel_rfl) rfl #[] rfl (by (try simp only [List.map_toArray, List.map_cons, List.map_nil]); first | done | rfl | (simp only [List.length_drop, List.length_take]; rfl)) ?_; (with_reducible refine (pouchlaw04_told.calls k1  true _ ?side1 A27.out).mono ?_); (case side1 => exact GW.below HG.out (by repeat (first | (with_reducible first | exact HB.out | apply below_alloc | apply pw_below_drewN | apply below_drew1) | exact HB.out))); rintro e w44 ⟨rfl, hb⟩; refine ⟨_, rfl, ?_⟩; have n0_ := Aside0.mk (Kd.R_below (by (with_reducible repeat (first | apply Kd.R_alloc | apply Kd.R_drewN | apply Kd.R_drew)); exact HO_5.out) hb); have n1_ := Aside0.mk (below_step (by repeat (first | (with_reducible first | exact HB.out | apply below_alloc | apply pw_below_drewN | apply below_drew1) | exact HB.out)) hb); clear HO_5; clear HB; have HO_5 := n0_; have HB := n1_; clear n0_ n1_; (try clear hb); (try clear hb2); (try clear hk); (try clear hi)) | (go_at_call 14; (with_reducible refine (topic_Match.calls k1 t168 t168 true _ ?side1 A29.out).mono ?_); (case side1 => exact GW.below HG.out (by repeat (first | (with_reducible first | exact HB.out | apply below_alloc | apply pw_below_drewN | apply below_drew1) | exact HB.out))); rintro e w45 ⟨rfl, hb⟩; have n0_ := Aside0.mk (Kd.R_below (by (with_reducible repeat (first | apply Kd.R_alloc | apply Kd.R_drewN | apply Kd.R_drew)); exact HO_5.out) hb); have n1_ := Aside0.mk (below_step (by repeat (first | (with_reducible first | exact HB.out | apply below_alloc | apply pw_below_drewN | apply below_drew1) | exact HB.out)) hb); clear HO_5; clear HB; have HO_5 := n0_; have HB := n1_; clear n0_ n1_; (try clear hb); (try clear hb2); (try clear hk); (try clear hi)) | (go_at_call 14; (with_reducible refine (topic_Match.calls k1 x7_1 t168 true _ ?side1 A31.out).mono ?_); (case side1 => exact GW.below HG.out (by repeat (first | (with_reducible first | exact HB.out | apply below_alloc | apply pw_below_drewN | apply below_drew1) | exact HB.out))); rintro e w46 ⟨rfl, hb⟩; have n0_ := Aside0.mk (Kd.R_below (by (with_reducible repeat (first | apply Kd.R_alloc | apply Kd.R_drewN | apply Kd.R_drew)); exact HO_5.out) hb); have n1_ := Aside0.mk (below_step (by repeat (first | (with_reducible first | exact HB.out | apply below_alloc | apply pw_below_drewN | apply below_drew1) | exact HB.out)) hb); clear HO_5; clear HB; have HO_5 := n0_; have HB := n1_; clear n0_ n1_; (try clear hb); (try clear hb2); (try clear hk); (try clear hi)) | (go_at_call 14; (with_reducible refine (topic_Match.calls k1 (x8_1 ++ (⟨#[35]⟩ : ByteArray)) t168 true _ ?side1 A34.out).mono ?_); (case side1 => exact GW.below HG.out (by repeat (first | (with_reducible first | exact HB.out | apply below_alloc | apply pw_below_drewN | apply below_drew1) | exact HB.out))); rintro e w47 ⟨rfl, hb⟩; have n0_ := Aside0.mk (Kd.R_below (by (with_reducible repeat (first | apply Kd.R_alloc | apply Kd.R_drewN | apply Kd.R_drew)); exact HO_5.out) hb); have n1_ := Aside0.mk (below_step (by repeat (first | (with_reducible first | exact HB.out | apply below_alloc | apply pw_below_drewN | apply below_drew1) | exact HB.out)) hb); clear HO_5; clear HB; have HO_5 := n0_; have HB := n1_; clear n0_ n1_; (try clear hb); (try clear hb2); (try clear hk); (try clear hi)) | (go_at_call 14; (with_reducible refine (topic_Match.calls k1 ((⟨#[36, 115, 104, 97, 114, 101, 47, 120, 47]⟩ : ByteArray) ++ x7_1) t168 true _ ?side1 A37.out).mono ?_); (case side1 => exact GW.below HG.out (by repeat (first | (with_reducible first | exact HB.out | apply below_alloc | apply pw_below_drewN | apply below_drew1) | exact HB.out))); rintro e w48 ⟨rfl, hb⟩; have n0_ := Aside0.mk (Kd.R_below (by (with_reducible repeat (first | apply Kd.R_alloc | apply Kd.R_drewN | apply Kd.R_drew)); exact HO_5.out) hb); have n1_ := Aside0.mk (below_step (by repeat (first | (with_reducible first | exact HB.out | apply below_alloc | apply pw_below_drewN | apply below_drew1) | exact HB.out)) hb); clear HO_5; clear HB; have HO_5 := n0_; have HB := n1_; clear n0_ n1_; (try clear hb); (try clear hb2); (try clear hk); (try clear hi)) | (go_at_call 14; (with_reducible refine (topic_Match.calls k1 (⟨#[35]⟩ : ByteArray) t168 true _ ?side1 A39.out).mono ?_); (case side1 => exact GW.below HG.out (by repeat (first | (with_reducible first | exact HB.out | apply below_alloc | apply pw_below_drewN | apply below_drew1) | exact HB.out))); rintro e w49 ⟨rfl, hb⟩; have n0_ := Aside0.mk (Kd.R_below (by (with_reducible repeat (first | apply Kd.R_alloc | apply Kd.R_drewN | apply Kd.R_drew)); exact HO_5.out) hb); have n1_ := Aside0.mk (below_step (by repeat (first | (with_reducible first | exact HB.out | apply below_alloc | apply pw_below_drewN | apply below_drew1) | exact HB.out)) hb); clear HO_5; clear HB; have HO_5 := n0_; have HB := n1_; clear n0_ n1_; (try clear hb); (try clear hb2); (try clear hk); (try clear hi)) | (go_at_call 14; (with_reducible refine (topic_Match.calls k1 (⟨#[35]⟩ : ByteArray) ((⟨#[36]⟩ : ByteArray) ++ t168) true _ ?side1 A42.out).mono ?_); (case side1 => exact GW.below HG.out (by repeat (first | (with_reducible first | exact HB.out | apply below_alloc | apply pw_below_drewN | apply below_drew1) | exact HB.out))); rintro e w50 ⟨rfl, hb⟩; have n0_ := Aside0.mk (Kd.R_below (by (with_reducible repeat (first | apply Kd.R_alloc | apply Kd.R_drewN | apply Kd.R_drew)); exact HO_5.out) hb); have n1_ := Aside0.mk (below_step (by repeat (first | (with_reducible first | exact HB.out | apply below_alloc | apply pw_below_drewN | apply below_drew1) | exact HB.out)) hb); clear HO_5; clear HB; have HO_5 := n0_; have HB := n1_; clear n0_ n1_; (try clear hb); (try clear hb2); (try clear hk); (try clear hi)))
                              go_ret
                              exact ⟨by first | rfl | (simp [errW_none, errW_some] <;> rfl) | (simp [*, errW_none, errW_some] <;> rfl), by repeat (first | (with_reducible first | exact HB.out | apply below_alloc | apply pw_below_drewN | apply below_drew1) | exact HB.out)⟩
                            · replace c43 := Bool.eq_false_iff.mpr c43
                              subst c43
                              have H1 : ((topic_Match.f k1 (⟨#[43, 47, 35]⟩ : ByteArray) ((⟨#[36]⟩ : ByteArray) ++ t168)).bind fun t182 => (if t182 = true then (some false) else ((topic_Match.f k1 ((⟨#[36]⟩ : ByteArray) ++ t168) ((⟨#[36]⟩ : ByteArray) ++ t168)).bind fun t183 => (some t183)))) = some r := by rw [if_neg (show ¬ (false = true) by decide)] at H; exact H
                              clear H
                              have H := H1
                              clear H1
                              replace H := Option.bind_eq_some_iff.mp H
                              obtain ⟨t182, A510, H⟩ := H
                              replace H : (if t182 = true then (some false) else ((topic_Match.f k1 ((⟨#[36]⟩ : ByteArray) ++ t168) ((⟨#[36]⟩ : ByteArray) ++ t168)).bind fun t183 => (some t183))) = some r := H
                              have A51 := Aside0.mk A510
                              clear A510
                              by_cases c52 : t182 = true
                              · subst c52
                                have H1 : (some false) = some r := by rw [if_pos rfl] at H; exact H
                                clear H
                                have H := H1
                                clear H1
                                obtain rfl := Option.some.inj H
                                go_wp2_with (first | ((with_reducible refine gate_callee (f := 13) rfl ?_); refine goesL_ (some 52) rfl rfl Tryd.func13 (by kernel_rfl) rfl #[] rfl (by (try simp only [List.map_toArray, List.map_cons, List.map_nil]); first | done | rfl | (simp only [List.length_drop, List.length_take]; rfl)) ?_; (with_reducible refine (pouchlaw04_told.calls k1  true _ ?side1 A27.out).mono ?_); (case side1 => exact GW.below HG.out (by repeat (first | (with_reducible first | exact HB.out | apply below_alloc | apply pw_below_drewN | apply below_drew1) | exact HB.out))); rintro e w53 ⟨rfl, hb⟩; refine ⟨_, rfl, ?_⟩; have n0_ := Aside0.mk (Kd.R_below (by (with_reducible repeat (first | apply Kd.R_alloc | apply Kd.R_drewN | apply Kd.R_drew)); exact HO_5.out) hb); have n1_ := Aside0.mk (below_step (by repeat (first | (with_reducible first | exact HB.out | apply below_alloc | apply pw_below_drewN | apply below_drew1) | exact HB.out)) hb); clear HO_5; clear HB; have HO_5 := n0_; have HB := n1_; clear n0_ n1_; (try clear hb); (try clear hb2); (try clear hk); (try clear hi)) | (go_at_call 14; (with_reducible refine (topic_Match.calls k1 t168 t168 true _ ?side1 A29.out).mono ?_); (case side1 => exact GW.below HG.out (by repeat (first | (with_reducible first | exact HB.out | apply below_alloc | apply pw_below_drewN | apply below_drew1) | exact HB.out))); rintro e w54 ⟨rfl, hb⟩; have n0_ := Aside0.mk (Kd.R_below (by (with_reducible repeat (first | apply Kd.R_alloc | apply Kd.R_drewN | apply Kd.R_drew)); exact HO_5.out) hb); have n1_ := Aside0.mk (below_step (by repeat (first | (with_reducible first | exact HB.out | apply below_alloc | apply pw_below_drewN | apply below_drew1) | exact HB.out)) hb); clear HO_5; clear HB; have HO_5 := n0_; have HB := n1_; clear n0_ n1_; (try clear hb); (try clear hb2); (try clear hk); (try clear hi)) | (go_at_call 14; (with_reducible refine (topic_Match.calls k1 x7_1 t168 true _ ?side1 A31.out).mono ?_); (case side1 => exact GW.below HG.out (by repeat (first | (with_reducible first | exact HB.out | apply below_alloc | apply pw_below_drewN | apply below_drew1) | exact HB.out))); rintro e w55 ⟨rfl, hb⟩; have n0_ := Aside0.mk (Kd.R_below (by (with_reducible repeat (first | apply Kd.R_alloc | apply Kd.R_drewN | apply Kd.R_drew)); exact HO_5.out) hb); have n1_ := Aside0.mk (below_step (by repeat (first | (with_reducible first | exact HB.out | apply below_alloc | apply pw_below_drewN | apply below_drew1) | exact HB.out)) hb); clear HO_5; clear HB; have HO_5 := n0_; have HB := n1_; clear n0_ n1_; (try clear hb); (try clear hb2); (try clear hk); (try clear hi)) | (go_at_call 14; (with_reducible refine (topic_Match.calls k1 (x8_1 ++ (⟨#[35]⟩ : ByteArray)) t168 true _ ?side1 A34.out).mono ?_); (case side1 => exact GW.below HG.out (by repeat (first | (with_reducible first | exact HB.out | apply below_alloc | apply pw_below_drewN | apply below_drew1) | exact HB.out))); rintro e w56 ⟨rfl, hb⟩; have n0_ := Aside0.mk (Kd.R_below (by (with_reducible repeat (first | apply Kd.R_alloc | apply Kd.R_drewN | apply Kd.R_drew)); exact HO_5.out) hb); have n1_ := Aside0.mk (below_step (by repeat (first | (with_reducible first | exact HB.out | apply below_alloc | apply pw_below_drewN | apply below_drew1) | exact HB.out)) hb); clear HO_5; clear HB; have HO_5 := n0_; have HB := n1_; clear n0_ n1_; (try clear hb); (try clear hb2); (try clear hk); (try clear hi)) | (go_at_call 14; (with_reducible refine (topic_Match.calls k1 ((⟨#[36, 115, 104, 97, 114, 101, 47, 120, 47]⟩ : ByteArray) ++ x7_1) t168 true _ ?side1 A37.out).mono ?_); (case side1 => exact GW.below HG.out (by repeat (first | (with_reducible first | exact HB.out | apply below_alloc | apply pw_below_drewN | apply below_drew1) | exact HB.out))); rintro e w57 ⟨rfl, hb⟩; have n0_ := Aside0.mk (Kd.R_below (by (with_reducible repeat (first | apply Kd.R_alloc | apply Kd.R_drewN | apply Kd.R_drew)); exact HO_5.out) hb); have n1_ := Aside0.mk (below_step (by repeat (first | (with_reducible first | exact HB.out | apply below_alloc | apply pw_below_drewN | apply below_drew1) | exact HB.out)) hb); clear HO_5; clear HB; have HO_5 := n0_; have HB := n1_; clear n0_ n1_; (try clear hb); (try clear hb2); (try clear hk); (try clear hi)) | (go_at_call 14; (with_reducible refine (topic_Match.calls k1 (⟨#[35]⟩ : ByteArray) t168 true _ ?side1 A39.out).mono ?_); (case side1 => exact GW.below HG.out (by repeat (first | (with_reducible first | exact HB.out | apply below_alloc | apply pw_below_drewN | apply below_drew1) | exact HB.out))); rintro e w58 ⟨rfl, hb⟩; have n0_ := Aside0.mk (Kd.R_below (by (with_reducible repeat (first | apply Kd.R_alloc | apply Kd.R_drewN | apply Kd.R_drew)); exact HO_5.out) hb); have n1_ := Aside0.mk (below_step (by repeat (first | (with_reducible first | exact HB.out | apply below_alloc | apply pw_below_drewN | apply below_drew1) | exact HB.out)) hb); clear HO_5; clear HB; have HO_5 := n0_; have HB := n1_; clear n0_ n1_; (try clear hb); (try clear hb2); (try clear hk); (try clear hi)) | (go_at_call 14; (with_reducible refine (topic_Match.calls k1 (⟨#[35]⟩ : ByteArray) ((⟨#[36]⟩ : ByteArray) ++ t168) false _ ?side1 A42.out).mono ?_); (case side1 => exact GW.below HG.out (by repeat (first | (with_reducible first | exact HB.out | apply below_alloc | apply pw_below_drewN | apply below_drew1) | exact HB.out))); rintro e w59 ⟨rfl, hb⟩; have n0_ := Aside0.mk (Kd.R_below (by (with_reducible repeat (first | apply Kd.R_alloc | apply Kd.R_drewN | apply Kd.R_drew)); exact HO_5.out) hb); have n1_ := Aside0.mk (below_step (by repeat (first | (with_reducible first | exact HB.out | apply below_alloc | apply pw_below_drewN | apply below_drew1) | exact HB.out)) hb); clear HO_5; clear HB; have HO_5 := n0_; have HB := n1_; clear n0_ n1_; (try clear hb); (try clear hb2); (try clear hk); (try clear hi)) | (go_at_call 14; (with_reducible refine (topic_Match.calls k1 (⟨#[43, 47, 35]⟩ : ByteArray) ((⟨#[36]⟩ : ByteArray) ++ t168) true _ ?side1 A51.out).mono ?_); (case side1 => exact GW.below HG.out (by repeat (first | (with_reducible first | exact HB.out | apply below_alloc | apply pw_below_drewN | apply below_drew1) | exact HB.out))); rintro e w60 ⟨rfl, hb⟩; have n0_ := Aside0.mk (Kd.R_below (by (with_reducible repeat (first | apply Kd.R_alloc | apply Kd.R_drewN | apply Kd.R_drew)); exact HO_5.out) hb); have n1_ := Aside0.mk (below_step (by repeat (first | (with_reducible first | exact HB.out | apply below_alloc | apply pw_below_drewN | apply below_drew1) | exact HB.out)) hb); clear HO_5; clear HB; have HO_5 := n0_; have HB := n1_; clear n0_ n1_; (try clear hb); (try clear hb2); (try clear hk); (try clear hi)))
                                go_ret
                                exact ⟨by first | rfl | (simp [errW_none, errW_some] <;> rfl) | (simp [*, errW_none, errW_some] <;> rfl), by repeat (first | (with_reducible first | exact HB.out | apply below_alloc | apply pw_below_drewN | apply below_drew1) | exact HB.out)⟩
                              · replace c52 := Bool.eq_false_iff.mpr c52
                                subst c52
                                have H1 : ((topic_Match.f k1 ((⟨#[36]⟩ : ByteArray) ++ t168) ((⟨#[36]⟩ : ByteArray) ++ t168)).bind fun t183 => (some t183)) = some r := by rw [if_neg (show ¬ (false = true) by decide)] at H; exact H
                                clear H
                                have H := H1
                                clear H1
                                replace H := Option.bind_eq_some_iff.mp H
                                obtain ⟨t183, A610, H⟩ := H
                                replace H : (some t183) = some r := H
                                have A61 := Aside0.mk A610
                                clear A610
                                obtain rfl := Option.some.inj H
                                go_wp2_with (first | ((with_reducible refine gate_callee (f := 13) rfl ?_); refine goesL_ (some 52) rfl rfl Tryd.func13 (by kernel_rfl) rfl #[] rfl (by (try simp only [List.map_toArray, List.map_cons, List.map_nil]); first | done | rfl | (simp only [List.length_drop, List.length_take]; rfl)) ?_; (with_reducible refine (pouchlaw04_told.calls k1  true _ ?side1 A27.out).mono ?_); (case side1 => exact GW.below HG.out (by repeat (first | (with_reducible first | exact HB.out | apply below_alloc | apply pw_below_drewN | apply below_drew1) | exact HB.out))); rintro e w62 ⟨rfl, hb⟩; refine ⟨_, rfl, ?_⟩; have n0_ := Aside0.mk (Kd.R_below (by (with_reducible repeat (first | apply Kd.R_alloc | apply Kd.R_drewN | apply Kd.R_drew)); exact HO_5.out) hb); have n1_ := Aside0.mk (below_step (by repeat (first | (with_reducible first | exact HB.out | apply below_alloc | apply pw_below_drewN | apply below_drew1) | exact HB.out)) hb); clear HO_5; clear HB; have HO_5 := n0_; have HB := n1_; clear n0_ n1_; (try clear hb); (try clear hb2); (try clear hk); (try clear hi)) | (go_at_call 14; (with_reducible refine (topic_Match.calls k1 t168 t168 true _ ?side1 A29.out).mono ?_); (case side1 => exact GW.below HG.out (by repeat (first | (with_reducible first | exact HB.out | apply below_alloc | apply pw_below_drewN | apply below_drew1) | exact HB.out))); rintro e w63 ⟨rfl, hb⟩; have n0_ := Aside0.mk (Kd.R_below (by (with_reducible repeat (first | apply Kd.R_alloc | apply Kd.R_drewN | apply Kd.R_drew)); exact HO_5.out) hb); have n1_ := Aside0.mk (below_step (by repeat (first | (with_reducible first | exact HB.out | apply below_alloc | apply pw_below_drewN | apply below_drew1) | exact HB.out)) hb); clear HO_5; clear HB; have HO_5 := n0_; have HB := n1_; clear n0_ n1_; (try clear hb); (try clear hb2); (try clear hk); (try clear hi)) | (go_at_call 14; (with_reducible refine (topic_Match.calls k1 x7_1 t168 true _ ?side1 A31.out).mono ?_); (case side1 => exact GW.below HG.out (by repeat (first | (with_reducible first | exact HB.out | apply below_alloc | apply pw_below_drewN | apply below_drew1) | exact HB.out))); rintro e w64 ⟨rfl, hb⟩; have n0_ := Aside0.mk (Kd.R_below (by (with_reducible repeat (first | apply Kd.R_alloc | apply Kd.R_drewN | apply Kd.R_drew)); exact HO_5.out) hb); have n1_ := Aside0.mk (below_step (by repeat (first | (with_reducible first | exact HB.out | apply below_alloc | apply pw_below_drewN | apply below_drew1) | exact HB.out)) hb); clear HO_5; clear HB; have HO_5 := n0_; have HB := n1_; clear n0_ n1_; (try clear hb); (try clear hb2); (try clear hk); (try clear hi)) | (go_at_call 14; (with_reducible refine (topic_Match.calls k1 (x8_1 ++ (⟨#[35]⟩ : ByteArray)) t168 true _ ?side1 A34.out).mono ?_); (case side1 => exact GW.below HG.out (by repeat (first | (with_reducible first | exact HB.out | apply below_alloc | apply pw_below_drewN | apply below_drew1) | exact HB.out))); rintro e w65 ⟨rfl, hb⟩; have n0_ := Aside0.mk (Kd.R_below (by (with_reducible repeat (first | apply Kd.R_alloc | apply Kd.R_drewN | apply Kd.R_drew)); exact HO_5.out) hb); have n1_ := Aside0.mk (below_step (by repeat (first | (with_reducible first | exact HB.out | apply below_alloc | apply pw_below_drewN | apply below_drew1) | exact HB.out)) hb); clear HO_5; clear HB; have HO_5 := n0_; have HB := n1_; clear n0_ n1_; (try clear hb); (try clear hb2); (try clear hk); (try clear hi)) | (go_at_call 14; (with_reducible refine (topic_Match.calls k1 ((⟨#[36, 115, 104, 97, 114, 101, 47, 120, 47]⟩ : ByteArray) ++ x7_1) t168 true _ ?side1 A37.out).mono ?_); (case side1 => exact GW.below HG.out (by repeat (first | (with_reducible first | exact HB.out | apply below_alloc | apply pw_below_drewN | apply below_drew1) | exact HB.out))); rintro e w66 ⟨rfl, hb⟩; have n0_ := Aside0.mk (Kd.R_below (by (with_reducible repeat (first | apply Kd.R_alloc | apply Kd.R_drewN | apply Kd.R_drew)); exact HO_5.out) hb); have n1_ := Aside0.mk (below_step (by repeat (first | (with_reducible first | exact HB.out | apply below_alloc | apply pw_below_drewN | apply below_drew1) | exact HB.out)) hb); clear HO_5; clear HB; have HO_5 := n0_; have HB := n1_; clear n0_ n1_; (try clear hb); (try clear hb2); (try clear hk); (try clear hi)) | (go_at_call 14; (with_reducible refine (topic_Match.calls k1 (⟨#[35]⟩ : ByteArray) t168 true _ ?side1 A39.out).mono ?_); (case side1 => exact GW.below HG.out (by repeat (first | (with_reducible first | exact HB.out | apply below_alloc | apply pw_below_drewN | apply below_drew1) | exact HB.out))); rintro e w67 ⟨rfl, hb⟩; have n0_ := Aside0.mk (Kd.R_below (by (with_reducible repeat (first | apply Kd.R_alloc | apply Kd.R_drewN | apply Kd.R_drew)); exact HO_5.out) hb); have n1_ := Aside0.mk (below_step (by repeat (first | (with_reducible first | exact HB.out | apply below_alloc | apply pw_below_drewN | apply below_drew1) | exact HB.out)) hb); clear HO_5; clear HB; have HO_5 := n0_; have HB := n1_; clear n0_ n1_; (try clear hb); (try clear hb2); (try clear hk); (try clear hi)) | (go_at_call 14; (with_reducible refine (topic_Match.calls k1 (⟨#[35]⟩ : ByteArray) ((⟨#[36]⟩ : ByteArray) ++ t168) false _ ?side1 A42.out).mono ?_); (case side1 => exact GW.below HG.out (by repeat (first | (with_reducible first | exact HB.out | apply below_alloc | apply pw_below_drewN | apply below_drew1) | exact HB.out))); rintro e w68 ⟨rfl, hb⟩; have n0_ := Aside0.mk (Kd.R_below (by (with_reducible repeat (first | apply Kd.R_alloc | apply Kd.R_drewN | apply Kd.R_drew)); exact HO_5.out) hb); have n1_ := Aside0.mk (below_step (by repeat (first | (with_reducible first | exact HB.out | apply below_alloc | apply pw_below_drewN | apply below_drew1) | exact HB.out)) hb); clear HO_5; clear HB; have HO_5 := n0_; have HB := n1_; clear n0_ n1_; (try clear hb); (try clear hb2); (try clear hk); (try clear hi)) | (go_at_call 14; (with_reducible refine (topic_Match.calls k1 (⟨#[43, 47, 35]⟩ : ByteArray) ((⟨#[36]⟩ : ByteArray) ++ t168) false _ ?side1 A51.out).mono ?_); (case side1 => exact GW.below HG.out (by repeat (first | (with_reducible first | exact HB.out | apply below_alloc | apply pw_below_drewN | apply below_drew1) | exact HB.out))); rintro e w69 ⟨rfl, hb⟩; have n0_ := Aside0.mk (Kd.R_below (by (with_reducible repeat (first | apply Kd.R_alloc | apply Kd.R_drewN | apply Kd.R_drew)); exact HO_5.out) hb); have n1_ := Aside0.mk (below_step (by repeat (first | (with_reducible first | exact HB.out | apply below_alloc | apply pw_below_drewN | apply below_drew1) | exact HB.out)) hb); clear HO_5; clear HB; have HO_5 := n0_; have HB := n1_; clear n0_ n1_; (try clear hb); (try clear hb2); (try clear hk); (try clear hi)) | (go_at_call 14; (with_reducible refine (topic_Match.calls k1 ((⟨#[36]⟩ : ByteArray) ++ t168) ((⟨#[36]⟩ : ByteArray) ++ t168) t183 _ ?side1 A61.out).mono ?_); (case side1 => exact GW.below HG.out (by repeat (first | (with_reducible first | exact HB.out | apply below_alloc | apply pw_below_drewN | apply below_drew1) | exact HB.out))); rintro e w70 ⟨rfl, hb⟩; have n0_ := Aside0.mk (Kd.R_below (by (with_reducible repeat (first | apply Kd.R_alloc | apply Kd.R_drewN | apply Kd.R_drew)); exact HO_5.out) hb); have n1_ := Aside0.mk (below_step (by repeat (first | (with_reducible first | exact HB.out | apply below_alloc | apply pw_below_drewN | apply below_drew1) | exact HB.out)) hb); clear HO_5; clear HB; have HO_5 := n0_; have HB := n1_; clear n0_ n1_; (try clear hb); (try clear hb2); (try clear hk); (try clear hi)))
                                go_ret
                                exact ⟨by first | rfl | (simp [errW_none, errW_some] <;> rfl) | (simp [*, errW_none, errW_some] <;> rfl), by repeat (first | (with_reducible first | exact HB.out | apply below_alloc | apply pw_below_drewN | apply below_drew1) | exact HB.out)⟩
                          · rw [if_neg c41] at H
                            exact absurd H (by simp)
                        · replace c40 := Bool.eq_false_iff.mpr c40
                          subst c40
                          have H1 : (some false) = some r := by rw [if_neg (show ¬ (false = true) by decide)] at H; exact H
                          clear H
                          have H := H1
                          clear H1
                          obtain rfl := Option.some.inj H
                          go_wp2_with (first | ((with_reducible refine gate_callee (f := 13) rfl ?_); refine goesL_ (some 52) rfl rfl Tryd.func13 (by kernel_rfl) rfl #[] rfl (by (try simp only [List.map_toArray, List.map_cons, List.map_nil]); first | done | rfl | (simp only [List.length_drop, List.length_take]; rfl)) ?_; (with_reducible refine (pouchlaw04_told.calls k1  true _ ?side1 A27.out).mono ?_); (case side1 => exact GW.below HG.out (by repeat (first | (with_reducible first | exact HB.out | apply below_alloc | apply pw_below_drewN | apply below_drew1) | exact HB.out))); rintro e w71 ⟨rfl, hb⟩; refine ⟨_, rfl, ?_⟩; have n0_ := Aside0.mk (Kd.R_below (by (with_reducible repeat (first | apply Kd.R_alloc | apply Kd.R_drewN | apply Kd.R_drew)); exact HO_5.out) hb); have n1_ := Aside0.mk (below_step (by repeat (first | (with_reducible first | exact HB.out | apply below_alloc | apply pw_below_drewN | apply below_drew1) | exact HB.out)) hb); clear HO_5; clear HB; have HO_5 := n0_; have HB := n1_; clear n0_ n1_; (try clear hb); (try clear hb2); (try clear hk); (try clear hi)) | (go_at_call 14; (with_reducible refine (topic_Match.calls k1 t168 t168 true _ ?side1 A29.out).mono ?_); (case side1 => exact GW.below HG.out (by repeat (first | (with_reducible first | exact HB.out | apply below_alloc | apply pw_below_drewN | apply below_drew1) | exact HB.out))); rintro e w72 ⟨rfl, hb⟩; have n0_ := Aside0.mk (Kd.R_below (by (with_reducible repeat (first | apply Kd.R_alloc | apply Kd.R_drewN | apply Kd.R_drew)); exact HO_5.out) hb); have n1_ := Aside0.mk (below_step (by repeat (first | (with_reducible first | exact HB.out | apply below_alloc | apply pw_below_drewN | apply below_drew1) | exact HB.out)) hb); clear HO_5; clear HB; have HO_5 := n0_; have HB := n1_; clear n0_ n1_; (try clear hb); (try clear hb2); (try clear hk); (try clear hi)) | (go_at_call 14; (with_reducible refine (topic_Match.calls k1 x7_1 t168 true _ ?side1 A31.out).mono ?_); (case side1 => exact GW.below HG.out (by repeat (first | (with_reducible first | exact HB.out | apply below_alloc | apply pw_below_drewN | apply below_drew1) | exact HB.out))); rintro e w73 ⟨rfl, hb⟩; have n0_ := Aside0.mk (Kd.R_below (by (with_reducible repeat (first | apply Kd.R_alloc | apply Kd.R_drewN | apply Kd.R_drew)); exact HO_5.out) hb); have n1_ := Aside0.mk (below_step (by repeat (first | (with_reducible first | exact HB.out | apply below_alloc | apply pw_below_drewN | apply below_drew1) | exact HB.out)) hb); clear HO_5; clear HB; have HO_5 := n0_; have HB := n1_; clear n0_ n1_; (try clear hb); (try clear hb2); (try clear hk); (try clear hi)) | (go_at_call 14; (with_reducible refine (topic_Match.calls k1 (x8_1 ++ (⟨#[35]⟩ : ByteArray)) t168 true _ ?side1 A34.out).mono ?_); (case side1 => exact GW.below HG.out (by repeat (first | (with_reducible first | exact HB.out | apply below_alloc | apply pw_below_drewN | apply below_drew1) | exact HB.out))); rintro e w74 ⟨rfl, hb⟩; have n0_ := Aside0.mk (Kd.R_below (by (with_reducible repeat (first | apply Kd.R_alloc | apply Kd.R_drewN | apply Kd.R_drew)); exact HO_5.out) hb); have n1_ := Aside0.mk (below_step (by repeat (first | (with_reducible first | exact HB.out | apply below_alloc | apply pw_below_drewN | apply below_drew1) | exact HB.out)) hb); clear HO_5; clear HB; have HO_5 := n0_; have HB := n1_; clear n0_ n1_; (try clear hb); (try clear hb2); (try clear hk); (try clear hi)) | (go_at_call 14; (with_reducible refine (topic_Match.calls k1 ((⟨#[36, 115, 104, 97, 114, 101, 47, 120, 47]⟩ : ByteArray) ++ x7_1) t168 true _ ?side1 A37.out).mono ?_); (case side1 => exact GW.below HG.out (by repeat (first | (with_reducible first | exact HB.out | apply below_alloc | apply pw_below_drewN | apply below_drew1) | exact HB.out))); rintro e w75 ⟨rfl, hb⟩; have n0_ := Aside0.mk (Kd.R_below (by (with_reducible repeat (first | apply Kd.R_alloc | apply Kd.R_drewN | apply Kd.R_drew)); exact HO_5.out) hb); have n1_ := Aside0.mk (below_step (by repeat (first | (with_reducible first | exact HB.out | apply below_alloc | apply pw_below_drewN | apply below_drew1) | exact HB.out)) hb); clear HO_5; clear HB; have HO_5 := n0_; have HB := n1_; clear n0_ n1_; (try clear hb); (try clear hb2); (try clear hk); (try clear hi)) | (go_at_call 14; (with_reducible refine (topic_Match.calls k1 (⟨#[35]⟩ : ByteArray) t168 false _ ?side1 A39.out).mono ?_); (case side1 => exact GW.below HG.out (by repeat (first | (with_reducible first | exact HB.out | apply below_alloc | apply pw_below_drewN | apply below_drew1) | exact HB.out))); rintro e w76 ⟨rfl, hb⟩; have n0_ := Aside0.mk (Kd.R_below (by (with_reducible repeat (first | apply Kd.R_alloc | apply Kd.R_drewN | apply Kd.R_drew)); exact HO_5.out) hb); have n1_ := Aside0.mk (below_step (by repeat (first | (with_reducible first | exact HB.out | apply below_alloc | apply pw_below_drewN | apply below_drew1) | exact HB.out)) hb); clear HO_5; clear HB; have HO_5 := n0_; have HB := n1_; clear n0_ n1_; (try clear hb); (try clear hb2); (try clear hk); (try clear hi)))
                          go_ret
                          exact ⟨by first | rfl | (simp [errW_none, errW_some] <;> rfl) | (simp [*, errW_none, errW_some] <;> rfl), by repeat (first | (with_reducible first | exact HB.out | apply below_alloc | apply pw_below_drewN | apply below_drew1) | exact HB.out)⟩
                      · replace c38 := Bool.eq_false_iff.mpr c38
                        subst c38
                        have H1 : (some false) = some r := by rw [if_neg (show ¬ (false = true) by decide)] at H; exact H
                        clear H
                        have H := H1
                        clear H1
                        obtain rfl := Option.some.inj H
                        go_wp2_with (first | ((with_reducible refine gate_callee (f := 13) rfl ?_); refine goesL_ (some 52) rfl rfl Tryd.func13 (by kernel_rfl) rfl #[] rfl (by (try simp only [List.map_toArray, List.map_cons, List.map_nil]); first | done | rfl | (simp only [List.length_drop, List.length_take]; rfl)) ?_; (with_reducible refine (pouchlaw04_told.calls k1  true _ ?side1 A27.out).mono ?_); (case side1 => exact GW.below HG.out (by repeat (first | (with_reducible first | exact HB.out | apply below_alloc | apply pw_below_drewN | apply below_drew1) | exact HB.out))); rintro e w77 ⟨rfl, hb⟩; refine ⟨_, rfl, ?_⟩; have n0_ := Aside0.mk (Kd.R_below (by (with_reducible repeat (first | apply Kd.R_alloc | apply Kd.R_drewN | apply Kd.R_drew)); exact HO_5.out) hb); have n1_ := Aside0.mk (below_step (by repeat (first | (with_reducible first | exact HB.out | apply below_alloc | apply pw_below_drewN | apply below_drew1) | exact HB.out)) hb); clear HO_5; clear HB; have HO_5 := n0_; have HB := n1_; clear n0_ n1_; (try clear hb); (try clear hb2); (try clear hk); (try clear hi)) | (go_at_call 14; (with_reducible refine (topic_Match.calls k1 t168 t168 true _ ?side1 A29.out).mono ?_); (case side1 => exact GW.below HG.out (by repeat (first | (with_reducible first | exact HB.out | apply below_alloc | apply pw_below_drewN | apply below_drew1) | exact HB.out))); rintro e w78 ⟨rfl, hb⟩; have n0_ := Aside0.mk (Kd.R_below (by (with_reducible repeat (first | apply Kd.R_alloc | apply Kd.R_drewN | apply Kd.R_drew)); exact HO_5.out) hb); have n1_ := Aside0.mk (below_step (by repeat (first | (with_reducible first | exact HB.out | apply below_alloc | apply pw_below_drewN | apply below_drew1) | exact HB.out)) hb); clear HO_5; clear HB; have HO_5 := n0_; have HB := n1_; clear n0_ n1_; (try clear hb); (try clear hb2); (try clear hk); (try clear hi)) | (go_at_call 14; (with_reducible refine (topic_Match.calls k1 x7_1 t168 true _ ?side1 A31.out).mono ?_); (case side1 => exact GW.below HG.out (by repeat (first | (with_reducible first | exact HB.out | apply below_alloc | apply pw_below_drewN | apply below_drew1) | exact HB.out))); rintro e w79 ⟨rfl, hb⟩; have n0_ := Aside0.mk (Kd.R_below (by (with_reducible repeat (first | apply Kd.R_alloc | apply Kd.R_drewN | apply Kd.R_drew)); exact HO_5.out) hb); have n1_ := Aside0.mk (below_step (by repeat (first | (with_reducible first | exact HB.out | apply below_alloc | apply pw_below_drewN | apply below_drew1) | exact HB.out)) hb); clear HO_5; clear HB; have HO_5 := n0_; have HB := n1_; clear n0_ n1_; (try clear hb); (try clear hb2); (try clear hk); (try clear hi)) | (go_at_call 14; (with_reducible refine (topic_Match.calls k1 (x8_1 ++ (⟨#[35]⟩ : ByteArray)) t168 true _ ?side1 A34.out).mono ?_); (case side1 => exact GW.below HG.out (by repeat (first | (with_reducible first | exact HB.out | apply below_alloc | apply pw_below_drewN | apply below_drew1) | exact HB.out))); rintro e w80 ⟨rfl, hb⟩; have n0_ := Aside0.mk (Kd.R_below (by (with_reducible repeat (first | apply Kd.R_alloc | apply Kd.R_drewN | apply Kd.R_drew)); exact HO_5.out) hb); have n1_ := Aside0.mk (below_step (by repeat (first | (with_reducible first | exact HB.out | apply below_alloc | apply pw_below_drewN | apply below_drew1) | exact HB.out)) hb); clear HO_5; clear HB; have HO_5 := n0_; have HB := n1_; clear n0_ n1_; (try clear hb); (try clear hb2); (try clear hk); (try clear hi)) | (go_at_call 14; (with_reducible refine (topic_Match.calls k1 ((⟨#[36, 115, 104, 97, 114, 101, 47, 120, 47]⟩ : ByteArray) ++ x7_1) t168 false _ ?side1 A37.out).mono ?_); (case side1 => exact GW.below HG.out (by repeat (first | (with_reducible first | exact HB.out | apply below_alloc | apply pw_below_drewN | apply below_drew1) | exact HB.out))); rintro e w81 ⟨rfl, hb⟩; have n0_ := Aside0.mk (Kd.R_below (by (with_reducible repeat (first | apply Kd.R_alloc | apply Kd.R_drewN | apply Kd.R_drew)); exact HO_5.out) hb); have n1_ := Aside0.mk (below_step (by repeat (first | (with_reducible first | exact HB.out | apply below_alloc | apply pw_below_drewN | apply below_drew1) | exact HB.out)) hb); clear HO_5; clear HB; have HO_5 := n0_; have HB := n1_; clear n0_ n1_; (try clear hb); (try clear hb2); (try clear hk); (try clear hi)))
                        go_ret
                        exact ⟨by first | rfl | (simp [errW_none, errW_some] <;> rfl) | (simp [*, errW_none, errW_some] <;> rfl), by repeat (first | (with_reducible first | exact HB.out | apply below_alloc | apply pw_below_drewN | apply below_drew1) | exact HB.out)⟩
                    · rw [if_neg c36] at H
                      exact absurd H (by simp)
                  · replace c35 := Bool.eq_false_iff.mpr c35
                    subst c35
                    have H1 : (some false) = some r := by rw [if_neg (show ¬ (false = true) by decide)] at H; exact H
                    clear H
                    have H := H1
                    clear H1
                    obtain rfl := Option.some.inj H
                    go_wp2_with (first | ((with_reducible refine gate_callee (f := 13) rfl ?_); refine goesL_ (some 52) rfl rfl Tryd.func13 (by kernel_rfl) rfl #[] rfl (by (try simp only [List.map_toArray, List.map_cons, List.map_nil]); first | done | rfl | (simp only [List.length_drop, List.length_take]; rfl)) ?_; (with_reducible refine (pouchlaw04_told.calls k1  true _ ?side1 A27.out).mono ?_); (case side1 => exact GW.below HG.out (by repeat (first | (with_reducible first | exact HB.out | apply below_alloc | apply pw_below_drewN | apply below_drew1) | exact HB.out))); rintro e w82 ⟨rfl, hb⟩; refine ⟨_, rfl, ?_⟩; have n0_ := Aside0.mk (Kd.R_below (by (with_reducible repeat (first | apply Kd.R_alloc | apply Kd.R_drewN | apply Kd.R_drew)); exact HO_5.out) hb); have n1_ := Aside0.mk (below_step (by repeat (first | (with_reducible first | exact HB.out | apply below_alloc | apply pw_below_drewN | apply below_drew1) | exact HB.out)) hb); clear HO_5; clear HB; have HO_5 := n0_; have HB := n1_; clear n0_ n1_; (try clear hb); (try clear hb2); (try clear hk); (try clear hi)) | (go_at_call 14; (with_reducible refine (topic_Match.calls k1 t168 t168 true _ ?side1 A29.out).mono ?_); (case side1 => exact GW.below HG.out (by repeat (first | (with_reducible first | exact HB.out | apply below_alloc | apply pw_below_drewN | apply below_drew1) | exact HB.out))); rintro e w83 ⟨rfl, hb⟩; have n0_ := Aside0.mk (Kd.R_below (by (with_reducible repeat (first | apply Kd.R_alloc | apply Kd.R_drewN | apply Kd.R_drew)); exact HO_5.out) hb); have n1_ := Aside0.mk (below_step (by repeat (first | (with_reducible first | exact HB.out | apply below_alloc | apply pw_below_drewN | apply below_drew1) | exact HB.out)) hb); clear HO_5; clear HB; have HO_5 := n0_; have HB := n1_; clear n0_ n1_; (try clear hb); (try clear hb2); (try clear hk); (try clear hi)) | (go_at_call 14; (with_reducible refine (topic_Match.calls k1 x7_1 t168 true _ ?side1 A31.out).mono ?_); (case side1 => exact GW.below HG.out (by repeat (first | (with_reducible first | exact HB.out | apply below_alloc | apply pw_below_drewN | apply below_drew1) | exact HB.out))); rintro e w84 ⟨rfl, hb⟩; have n0_ := Aside0.mk (Kd.R_below (by (with_reducible repeat (first | apply Kd.R_alloc | apply Kd.R_drewN | apply Kd.R_drew)); exact HO_5.out) hb); have n1_ := Aside0.mk (below_step (by repeat (first | (with_reducible first | exact HB.out | apply below_alloc | apply pw_below_drewN | apply below_drew1) | exact HB.out)) hb); clear HO_5; clear HB; have HO_5 := n0_; have HB := n1_; clear n0_ n1_; (try clear hb); (try clear hb2); (try clear hk); (try clear hi)) | (go_at_call 14; (with_reducible refine (topic_Match.calls k1 (x8_1 ++ (⟨#[35]⟩ : ByteArray)) t168 false _ ?side1 A34.out).mono ?_); (case side1 => exact GW.below HG.out (by repeat (first | (with_reducible first | exact HB.out | apply below_alloc | apply pw_below_drewN | apply below_drew1) | exact HB.out))); rintro e w85 ⟨rfl, hb⟩; have n0_ := Aside0.mk (Kd.R_below (by (with_reducible repeat (first | apply Kd.R_alloc | apply Kd.R_drewN | apply Kd.R_drew)); exact HO_5.out) hb); have n1_ := Aside0.mk (below_step (by repeat (first | (with_reducible first | exact HB.out | apply below_alloc | apply pw_below_drewN | apply below_drew1) | exact HB.out)) hb); clear HO_5; clear HB; have HO_5 := n0_; have HB := n1_; clear n0_ n1_; (try clear hb); (try clear hb2); (try clear hk); (try clear hi)))
                    go_ret
                    exact ⟨by first | rfl | (simp [errW_none, errW_some] <;> rfl) | (simp [*, errW_none, errW_some] <;> rfl), by repeat (first | (with_reducible first | exact HB.out | apply below_alloc | apply pw_below_drewN | apply below_drew1) | exact HB.out)⟩
                · rw [if_neg c33] at H
                  exact absurd H (by simp)
              · replace c32 := Bool.eq_false_iff.mpr c32
                subst c32
                have H1 : (some false) = some r := by rw [if_neg (show ¬ (false = true) by decide)] at H; exact H
                clear H
                have H := H1
                clear H1
                obtain rfl := Option.some.inj H
                go_wp2_with (first | ((with_reducible refine gate_callee (f := 13) rfl ?_); refine goesL_ (some 52) rfl rfl Tryd.func13 (by kernel_rfl) rfl #[] rfl (by (try simp only [List.map_toArray, List.map_cons, List.map_nil]); first | done | rfl | (simp only [List.length_drop, List.length_take]; rfl)) ?_; (with_reducible refine (pouchlaw04_told.calls k1  true _ ?side1 A27.out).mono ?_); (case side1 => exact GW.below HG.out (by repeat (first | (with_reducible first | exact HB.out | apply below_alloc | apply pw_below_drewN | apply below_drew1) | exact HB.out))); rintro e w86 ⟨rfl, hb⟩; refine ⟨_, rfl, ?_⟩; have n0_ := Aside0.mk (Kd.R_below (by (with_reducible repeat (first | apply Kd.R_alloc | apply Kd.R_drewN | apply Kd.R_drew)); exact HO_5.out) hb); have n1_ := Aside0.mk (below_step (by repeat (first | (with_reducible first | exact HB.out | apply below_alloc | apply pw_below_drewN | apply below_drew1) | exact HB.out)) hb); clear HO_5; clear HB; have HO_5 := n0_; have HB := n1_; clear n0_ n1_; (try clear hb); (try clear hb2); (try clear hk); (try clear hi)) | (go_at_call 14; (with_reducible refine (topic_Match.calls k1 t168 t168 true _ ?side1 A29.out).mono ?_); (case side1 => exact GW.below HG.out (by repeat (first | (with_reducible first | exact HB.out | apply below_alloc | apply pw_below_drewN | apply below_drew1) | exact HB.out))); rintro e w87 ⟨rfl, hb⟩; have n0_ := Aside0.mk (Kd.R_below (by (with_reducible repeat (first | apply Kd.R_alloc | apply Kd.R_drewN | apply Kd.R_drew)); exact HO_5.out) hb); have n1_ := Aside0.mk (below_step (by repeat (first | (with_reducible first | exact HB.out | apply below_alloc | apply pw_below_drewN | apply below_drew1) | exact HB.out)) hb); clear HO_5; clear HB; have HO_5 := n0_; have HB := n1_; clear n0_ n1_; (try clear hb); (try clear hb2); (try clear hk); (try clear hi)) | (go_at_call 14; (with_reducible refine (topic_Match.calls k1 x7_1 t168 false _ ?side1 A31.out).mono ?_); (case side1 => exact GW.below HG.out (by repeat (first | (with_reducible first | exact HB.out | apply below_alloc | apply pw_below_drewN | apply below_drew1) | exact HB.out))); rintro e w88 ⟨rfl, hb⟩; have n0_ := Aside0.mk (Kd.R_below (by (with_reducible repeat (first | apply Kd.R_alloc | apply Kd.R_drewN | apply Kd.R_drew)); exact HO_5.out) hb); have n1_ := Aside0.mk (below_step (by repeat (first | (with_reducible first | exact HB.out | apply below_alloc | apply pw_below_drewN | apply below_drew1) | exact HB.out)) hb); clear HO_5; clear HB; have HO_5 := n0_; have HB := n1_; clear n0_ n1_; (try clear hb); (try clear hb2); (try clear hk); (try clear hi)))
                go_ret
                exact ⟨by first | rfl | (simp [errW_none, errW_some] <;> rfl) | (simp [*, errW_none, errW_some] <;> rfl), by repeat (first | (with_reducible first | exact HB.out | apply below_alloc | apply pw_below_drewN | apply below_drew1) | exact HB.out)⟩
            · replace c30 := Bool.eq_false_iff.mpr c30
              subst c30
              have H1 : (some false) = some r := by rw [if_neg (show ¬ (false = true) by decide)] at H; exact H
              clear H
              have H := H1
              clear H1
              obtain rfl := Option.some.inj H
              go_wp2_with (first | ((with_reducible refine gate_callee (f := 13) rfl ?_); refine goesL_ (some 52) rfl rfl Tryd.func13 (by kernel_rfl) rfl #[] rfl (by (try simp only [List.map_toArray, List.map_cons, List.map_nil]); first | done | rfl | (simp only [List.length_drop, List.length_take]; rfl)) ?_; (with_reducible refine (pouchlaw04_told.calls k1  true _ ?side1 A27.out).mono ?_); (case side1 => exact GW.below HG.out (by repeat (first | (with_reducible first | exact HB.out | apply below_alloc | apply pw_below_drewN | apply below_drew1) | exact HB.out))); rintro e w89 ⟨rfl, hb⟩; refine ⟨_, rfl, ?_⟩; have n0_ := Aside0.mk (Kd.R_below (by (with_reducible repeat (first | apply Kd.R_alloc | apply Kd.R_drewN | apply Kd.R_drew)); exact HO_5.out) hb); have n1_ := Aside0.mk (below_step (by repeat (first | (with_reducible first | exact HB.out | apply below_alloc | apply pw_below_drewN | apply below_drew1) | exact HB.out)) hb); clear HO_5; clear HB; have HO_5 := n0_; have HB := n1_; clear n0_ n1_; (try clear hb); (try clear hb2); (try clear hk); (try clear hi)) | (go_at_call 14; (with_reducible refine (topic_Match.calls k1 t168 t168 false _ ?side1 A29.out).mono ?_); (case side1 => exact GW.below HG.out (by repeat (first | (with_reducible first | exact HB.out | apply below_alloc | apply pw_below_drewN | apply below_drew1) | exact HB.out))); rintro e w90 ⟨rfl, hb⟩; have n0_ := Aside0.mk (Kd.R_below (by (with_reducible repeat (first | apply Kd.R_alloc | apply Kd.R_drewN | apply Kd.R_drew)); exact HO_5.out) hb); have n1_ := Aside0.mk (below_step (by repeat (first | (with_reducible first | exact HB.out | apply below_alloc | apply pw_below_drewN | apply below_drew1) | exact HB.out)) hb); clear HO_5; clear HB; have HO_5 := n0_; have HB := n1_; clear n0_ n1_; (try clear hb); (try clear hb2); (try clear hk); (try clear hi)))
              go_ret
              exact ⟨by first | rfl | (simp [errW_none, errW_some] <;> rfl) | (simp [*, errW_none, errW_some] <;> rfl), by repeat (first | (with_reducible first | exact HB.out | apply below_alloc | apply pw_below_drewN | apply below_drew1) | exact HB.out)⟩
          · replace c28 := Bool.eq_false_iff.mpr c28
            subst c28
            have H1 : (some false) = some r := by rw [if_neg (show ¬ (false = true) by decide)] at H; exact H
            clear H
            have H := H1
            clear H1
            obtain rfl := Option.some.inj H
            go_wp2_with (first | ((with_reducible refine gate_callee (f := 13) rfl ?_); refine goesL_ (some 52) rfl rfl Tryd.func13 (by kernel_rfl) rfl #[] rfl (by (try simp only [List.map_toArray, List.map_cons, List.map_nil]); first | done | rfl | (simp only [List.length_drop, List.length_take]; rfl)) ?_; (with_reducible refine (pouchlaw04_told.calls k1  false _ ?side1 A27.out).mono ?_); (case side1 => exact GW.below HG.out (by repeat (first | (with_reducible first | exact HB.out | apply below_alloc | apply pw_below_drewN | apply below_drew1) | exact HB.out))); rintro e w91 ⟨rfl, hb⟩; refine ⟨_, rfl, ?_⟩; have n0_ := Aside0.mk (Kd.R_below (by (with_reducible repeat (first | apply Kd.R_alloc | apply Kd.R_drewN | apply Kd.R_drew)); exact HO_5.out) hb); have n1_ := Aside0.mk (below_step (by repeat (first | (with_reducible first | exact HB.out | apply below_alloc | apply pw_below_drewN | apply below_drew1) | exact HB.out)) hb); clear HO_5; clear HB; have HO_5 := n0_; have HB := n1_; clear n0_ n1_; (try clear hb); (try clear hb2); (try clear hk); (try clear hi)))
            go_ret
            exact ⟨by first | rfl | (simp [errW_none, errW_some] <;> rfl) | (simp [*, errW_none, errW_some] <;> rfl), by repeat (first | (with_reducible first | exact HB.out | apply below_alloc | apply pw_below_drewN | apply below_drew1) | exact HB.out)⟩

end Go.Proofs.YtbaipppmefencaaDoor.P

namespace Go.Proofs.YtbaipppmefencaaDoor.Mq
open Go.Lib

/-! ### texts, levels, names and filters, over lists of bytes: plain Lean -/
/-- What stands between slashes. -/
def lv : List UInt8 → List (List UInt8)
  | [] => [[]]
  | c :: s => if c = 47 then [] :: lv s else (c :: (lv s).headD []) :: (lv s).tail
theorem lv_ne (s : List UInt8) : lv s ≠ [] := by
  cases s with
  | nil => simp [lv]
  | cons c s => unfold lv; split <;> simp
theorem lv_head (s : List UInt8) : (lv s).headD [] :: (lv s).tail = lv s := by
  cases h : lv s with
  | nil => exact absurd h (lv_ne s)
  | cons a t => rfl
theorem lv_cons_slash (s : List UInt8) : lv (47 :: s) = [] :: lv s := by rw [lv, if_pos rfl]
theorem lv_cons (c : UInt8) (s : List UInt8) (h : c ≠ 47) : lv (c :: s) = (c :: (lv s).headD []) :: (lv s).tail := by rw [lv, if_neg h]
theorem lv_join (a b : List UInt8) : lv (a ++ 47 :: b) = lv a ++ lv b := by
  induction a with
  | nil => exact lv_cons_slash b
  | cons c a ih =>
    rw [List.cons_append]
    by_cases h : c = 47
    · subst h; rw [lv_cons_slash, lv_cons_slash, ih]; rfl
    · rw [lv_cons c _ h, lv_cons c a h, ih]
      cases hl : lv a with
      | nil => exact absurd hl (lv_ne a)
      | cons x t => rfl
/-- A level, a slash, what comes behind. -/
theorem lv_slash (a b : List UInt8) (h : (47 : UInt8) ∉ a) : lv (a ++ 47 :: b) = a :: lv b := by
  induction a with
  | nil => simp [lv]
  | cons c a ih =>
    rw [List.mem_cons, not_or] at h
    rw [List.cons_append, lv, if_neg (fun e => h.1 e.symm), ih h.2]
    rfl
theorem lv_one (a : List UInt8) (h : (47 : UInt8) ∉ a) : lv a = [a] := by
  induction a with
  | nil => rfl
  | cons c a ih =>
    rw [List.mem_cons, not_or] at h
    rw [lv, if_neg (fun e => h.1 e.symm), ih h.2]
    rfl
theorem cases_slash (s : List UInt8) : ((47 : UInt8) ∉ s) ∨ ∃ a b, s = a ++ 47 :: b ∧ (47 : UInt8) ∉ a := by
  induction s with
  | nil => exact .inl (by simp)
  | cons c s ih =>
    by_cases hc : c = 47
    · exact .inr ⟨[], s, by simp [hc], by simp⟩
    · rcases ih with h | ⟨a, b, rfl, h⟩
      · exact .inl (by simp [h, Ne.symm hc])
      · exact .inr ⟨c :: a, b, rfl, by simp [h, Ne.symm hc]⟩
theorem occ_slash (s : List UInt8) (j : Nat) (b : UInt8) (hb : s[j]? = some b) : occAt s [47] j = (b == 47) := by
  unfold occAt
  rw [List.drop_eq_getElem_cons (List.getElem?_eq_some_iff.1 hb).1, (List.getElem?_eq_some_iff.1 hb).2]
  simp only [List.isPrefixOf, Bool.and_true]
  rw [Bool.eq_iff_iff, beq_iff_eq, beq_iff_eq]; exact eq_comm
theorem index_no (s : List UInt8) (h : (47 : UInt8) ∉ s) : index s [47] = -1 := by
  apply index_none
  intro j hj
  by_cases e : j < s.length
  · rw [occ_slash s j s[j] (List.getElem?_eq_getElem e)]
    rw [beq_eq_false_iff_ne]
    exact fun e2 => h (e2 ▸ List.getElem_mem e)
  · unfold occAt
    rw [List.drop_eq_nil_of_le (by omega)]
    rfl
theorem index_at (a b : List UInt8) (h : (47 : UInt8) ∉ a) : index (a ++ 47 :: b) [47] = a.length := by
  apply index_first
  · simp
  · rw [occ_slash _ _ 47 (by simp)]; rfl
  · intro j hj
    rw [occ_slash _ j a[j] (by rw [List.getElem?_append_left hj]; exact List.getElem?_eq_getElem hj)]
    rw [beq_eq_false_iff_ne]
    exact fun e2 => h (e2 ▸ List.getElem_mem hj)
theorem split_lv : ∀ (n : Nat) (s : List UInt8), s.length ≤ n → splitK [47] 0 (count s [47]) s = lv s
  | n, s, hn => by
    rcases cases_slash s with h | ⟨a, b, rfl, h⟩
    · rw [count_miss (index_no s h), lv_one s h]; rfl
    · have hi := index_at a b h
      have hl : a.length + 1 + b.length = (a ++ 47 :: b).length := by simp; omega
      cases n with
      | zero => omega
      | succ n =>
        rw [count_hit (by simp) hi, Nat.add_comm 1, splitK, if_neg (by rw [hi]; simp), hi, lv_slash a b h]
        have e1 : (a ++ 47 :: b).take ((a.length : Int).toNat + 0) = a := by simp
        have e2 : (a ++ 47 :: b).drop (a.length + [(47 : UInt8)].length) = b := by simp
        have e3 : (a ++ 47 :: b).drop ((a.length : Int).toNat + [(47 : UInt8)].length) = b := by simp
        rw [e1, e2, e3, split_lv n b (by omega)]
theorem cut_no (s : List UInt8) (h : (47 : UInt8) ∉ s) : cut s [47] = (s, [], false) := by
  unfold cut; rw [index_no s h]; rfl
theorem cut_at (a b : List UInt8) (h : (47 : UInt8) ∉ a) : cut (a ++ 47 :: b) [47] = (a, b, true) := by
  unfold cut; rw [index_at a b h, if_pos (by omega)]; simp

def wildB (s : List UInt8) : Bool := s.contains 43 || s.contains 35
theorem wild_any (s : List UInt8) : decide (0 ≤ indexAny s [43, 35]) = wildB s := by
  induction s with
  | nil => rfl
  | cons b l ih =>
    have hge := indexAny_ge [43, 35] l
    rw [show indexAny (b :: l) [43, 35] = if ([43, 35] : List UInt8).contains b then 0 else if indexAny l [43, 35] == -1 then -1 else indexAny l [43, 35] + 1 from rfl]
    by_cases hb : ([43, 35] : List UInt8).contains b = true
    · rw [if_pos hb]
      have : b = 43 ∨ b = 35 := by simpa using hb
      rcases this with rfl | rfl <;> simp [wildB]
    · rw [if_neg hb]
      have : ¬ b = 43 ∧ ¬ b = 35 := by simpa using hb
      unfold wildB at *
      rw [List.contains_cons, List.contains_cons, show ((43 : UInt8) == b) = false from beq_eq_false_iff_ne.2 (Ne.symm this.1), show ((35 : UInt8) == b) = false from beq_eq_false_iff_ne.2 (Ne.symm this.2), Bool.false_or, Bool.false_or, ← ih]
      by_cases h1 : indexAny l [43, 35] = -1
      · rw [h1]; rfl
      · rw [if_neg (by simpa using h1), decide_eq_true (by omega), decide_eq_true (by omega)]
def rightB (s : List UInt8) : Bool := decide (s.length ≤ 65535) && (validD s && !s.contains 0)
def nameB (s : List UInt8) : Bool := !s.isEmpty && (rightB s && !wildB s)
def plainL : List (List UInt8) → Bool
  | [] => true
  | x :: r => (decide (x = [43]) || (decide (x = [35]) && r.isEmpty) || !wildB x) && plainL r
def plainB (s : List UInt8) : Bool := !s.isEmpty && plainL (lv s)
/-- "$share/" -/
def shareP : List UInt8 := [36, 115, 104, 97, 114, 101, 47]
def sharedB (s : List UInt8) : Bool := shareP.isPrefixOf s
def filterB (s : List UInt8) : Bool :=
  rightB s && if sharedB s then (cut (s.drop 7) [47]).2.2 && (!(cut (s.drop 7) [47]).1.isEmpty && (!wildB (cut (s.drop 7) [47]).1 && plainB (cut (s.drop 7) [47]).2.1)) else plainB s
def matchL : List (List UInt8) → List (List UInt8) → Bool
  | [], n => n.isEmpty
  | x :: f, n => if x = [35] then true else match n with
    | [] => false
    | y :: n' => (decide (x = [43]) || decide (x = y)) && matchL f n'
theorem matchL_all (f n : List (List UInt8)) : matchL ([35] :: f) n = true := by unfold matchL; rw [if_pos rfl]
theorem matchL_none (x : List UInt8) (f : List (List UInt8)) (h : x ≠ [35]) : matchL (x :: f) [] = false := by unfold matchL; rw [if_neg h]
theorem matchL_step (x y : List UInt8) (f n : List (List UInt8)) (h : x ≠ [35]) : matchL (x :: f) (y :: n) = ((decide (x = [43]) || decide (x = y)) && matchL f n) := by
  rw [show matchL (x :: f) (y :: n) = if x = [35] then true else ((decide (x = [43]) || decide (x = y)) && matchL f n) from rfl, if_neg h]
def target (s : List UInt8) : List UInt8 := if sharedB s then (cut (s.drop 7) [47]).2.1 else s
def matchB (f n : List UInt8) : Bool :=
  filterB f && (nameB n && (!(decide (n.head? = some 36) && wildB ((target f).take 1)) && matchL (lv (target f)) (lv n)))
theorem contains_zero (s : List UInt8) : Go.Lib.contains s [0] = s.contains 0 := by
  unfold Go.Lib.contains
  induction s with
  | nil => rfl
  | cons b l ih =>
    have hge := index_ge l [0]
    rw [show index (b :: l) [0] = if ([0] : List UInt8).isPrefixOf (b :: l) then 0 else if index l [0] == -1 then -1 else index l [0] + 1 from rfl]
    by_cases hb : b = 0
    · subst hb; simp
    · have h1 : ([0] : List UInt8).isPrefixOf (b :: l) = false := by show ((0 : UInt8) == b && List.isPrefixOf [] l) = false; rw [beq_eq_false_iff_ne.2 (Ne.symm hb)]; rfl
      rw [h1, List.contains_cons, show ((0 : UInt8) == b) = false from beq_eq_false_iff_ne.2 (Ne.symm hb), Bool.false_or, ← ih]
      by_cases h2 : index l [0] = -1
      · rw [h2]; rfl
      · rw [if_neg (by decide), if_neg (by simpa using h2), decide_eq_true (by omega), decide_eq_true (by omega)]
end Go.Proofs.YtbaipppmefencaaDoor.Mq

namespace Go.Proofs.YtbaipppmefencaaDoor.Mq
open Go.RowKit Go.Lib Go.Proofs.YtbaipppmefencaaDoor.P Go.Proofs.YtbaipppmefencaaDoorW.PrintWords

/-! ### what the printed functions of topic answer -/
abbrev dl (s : ByteArray) : List UInt8 := s.data.toList
theorem dl_size (s : ByteArray) : (dl s).length = s.size := (Go.Lib.size_eq s).symm
theorem toList_dl (s : ByteArray) : s.toList = dl s := Go.Lib.toList_data s
theorem wrap_nat (i : Nat) (h : i < 4611686018427387904) : wrap64 ((i : Int) + 1) = ((i + 1 : Nat) : Int) := by unfold wrap64; omega
theorem rd_at (L : List ByteArray) (i : Nat) (h : i < L.length) : rdOf ByteArray.empty L (i : Int) = L[i] := by
  unfold rdOf; simp [h]
theorem wild_f (a : ByteArray) (h : a.size < 4294967281) : topic_Wild.f a = some (wildB (dl a)) := by
  unfold topic_Wild.f strings_ContainsAny.f strings_IndexAny.f
  rw [if_pos rfl, if_pos h]
  simp only [Option.bind_some]
  rw [← wild_any]
theorem right_f (a : ByteArray) : text_Right.f a = some (rightB (dl a)) := by
  unfold text_Right.f rightB
  rw [dl_size]
  by_cases h : a.size ≤ 65535
  · rw [if_pos (by omega), decide_eq_true h, Bool.true_and]
    unfold utf8_ValidString.f strings_Contains.f
    rw [if_pos (by omega), if_pos (by omega)]
    simp only [Option.bind_some]
    show (if validD (dl a) = true then some (!Go.Lib.contains (dl a) [0]) else some false) = _
    rw [contains_zero]
    cases validD (dl a) <;> simp
  · rw [if_neg (by omega), decide_eq_false h, Bool.false_and]
theorem right_small {a : ByteArray} (h : rightB (dl a) = true) : a.size ≤ 65535 := by
  unfold rightB at h
  rw [dl_size] at h
  simp only [Bool.and_eq_true, decide_eq_true_eq] at h
  exact h.1
theorem name_f (a : ByteArray) : topic_Name.f a = some (nameB (dl a)) := by
  unfold topic_Name.f nameB
  rw [toList_dl, right_f]
  by_cases h : dl a = []
  · rw [if_pos h, h]; rfl
  · rw [if_neg h, show (dl a).isEmpty = false by simpa using h]
    simp only [Option.bind_some, Bool.not_false, Bool.true_and]
    cases hr : rightB (dl a)
    · simp
    · rw [if_pos rfl, wild_f a (by have := right_small hr; omega)]; simp
theorem prefix_f (a b : ByteArray) : stringslite_HasPrefix.f a b = some ((dl b).isPrefixOf (dl a)) := by
  unfold stringslite_HasPrefix.f
  by_cases h : b.size ≤ a.size
  · rw [if_pos (by omega), if_pos (by omega), if_pos (by omega)]
    congr 1
    rw [toList_dl, toList_dl, Int.toNat_natCast]
    have e : dl (a.extract 0 b.size) = (dl a).take (dl b).length := by
      rw [dl_size]; simp [dl, ByteArray.data_extract, Array.toList_extract]
    rw [e, Bool.eq_iff_iff, beq_iff_eq, List.isPrefixOf_iff_prefix, List.prefix_iff_eq_take]
    exact eq_comm
  · rw [if_neg (by omega)]
    congr 1
    symm
    rw [Bool.eq_false_iff]
    intro h2
    have h3 := (List.isPrefixOf_iff_prefix.1 h2).length_le
    rw [dl_size, dl_size] at h3
    exact h h3
theorem dl_extract (a : ByteArray) (n : Nat) : dl (a.extract n a.size) = (dl a).drop n := Go.Lib.ext_list a n
theorem cutPrefix_f (a b : ByteArray) : strings_CutPrefix.f a b = some (if (dl b).isPrefixOf (dl a) = true then (a.extract b.size a.size, true) else (a, false)) := by
  unfold strings_CutPrefix.f stringslite_CutPrefix.f
  rw [prefix_f]
  simp only [Option.bind_some]
  cases h : (dl b).isPrefixOf (dl a)
  · simp
  · have h3 := (List.isPrefixOf_iff_prefix.1 h).length_le
    rw [dl_size, dl_size] at h3
    rw [if_pos rfl, if_pos (by omega), if_pos (by omega), Int.toNat_natCast]; rfl
def sl : ByteArray := ⟨#[47]⟩
theorem split_f (a : ByteArray) (h : a.size < 4294967281) : ∃ L, strings_Split.f a (⟨#[47]⟩ : ByteArray) = some L ∧ L.map dl = lv (dl a) := by
  refine ⟨splitB sl 0 (countB a sl) a, ?_, ?_⟩
  · unfold strings_Split.f
    rw [if_pos h, if_pos (by decide)]; rfl
  · rw [show (splitB sl 0 (countB a sl) a).map dl = splitK [47] 0 (countB a sl) (dl a) from splitB_data sl 0 _ a]
    exact split_lv _ _ (Nat.le_refl _)
theorem cut_f (a : ByteArray) (h : a.size < 4294967281) : strings_Cut.f a (⟨#[47]⟩ : ByteArray) = some (⟨(cut (dl a) [47]).1.toArray⟩, ⟨(cut (dl a) [47]).2.1.toArray⟩, (cut (dl a) [47]).2.2) := by
  unfold strings_Cut.f; rw [if_pos h]
theorem mk_dl (l : List UInt8) : dl ⟨l.toArray⟩ = l := rfl
theorem mk_size (l : List UInt8) : (⟨l.toArray⟩ : ByteArray).size = l.length := by simp [ByteArray.size]
theorem lv_len (s : List UInt8) : (lv s).length ≤ s.length + 1 := by
  induction s with
  | nil => simp [lv]
  | cons c s ih =>
    by_cases h : c = 47
    · subst h; rw [lv_cons_slash]; simp; omega
    · rw [lv_cons c s h]
      have := lv_ne s
      cases hl : lv s with
      | nil => exact absurd hl this
      | cons x t => rw [hl] at ih; simp at ih ⊢; omega
theorem lv_mem_len (s : List UInt8) : ∀ x ∈ lv s, x.length ≤ s.length := by
  induction s with
  | nil => simp [lv]
  | cons c s ih =>
    intro x hx
    by_cases h : c = 47
    · subst h; rw [lv_cons_slash] at hx
      rcases List.mem_cons.1 hx with rfl | hx
      · simp
      · have := ih x hx; simp; omega
    · rw [lv_cons c s h] at hx
      have := lv_ne s
      cases hl : lv s with
      | nil => exact absurd hl this
      | cons y t =>
        rw [hl] at hx ih
        rcases List.mem_cons.1 hx with rfl | hx
        · have := ih y (by simp); simp at this ⊢; omega
        · have := ih x (by simp at hx; simp [hx]); simp; omega
theorem piece_size {a : ByteArray} {L : List ByteArray} (hL : L.map dl = lv (dl a)) (i : Nat) (h : i < L.length) : L[i].size ≤ a.size := by
  have := lv_mem_len (dl a) (dl L[i]) (by rw [← hL]; exact List.mem_map.2 ⟨_, List.getElem_mem h, rfl⟩)
  rw [dl_size, dl_size] at this
  exact this
theorem pieces_len {a : ByteArray} {L : List ByteArray} (hL : L.map dl = lv (dl a)) : L.length ≤ a.size + 1 := by
  have := lv_len (dl a)
  rw [← hL, List.length_map, dl_size] at this
  exact this
theorem drop_map (L : List ByteArray) (i : Nat) (h : i < L.length) : (L.drop i).map dl = dl L[i] :: (L.drop (i + 1)).map dl := by
  rw [List.drop_eq_getElem_cons h]; rfl

theorem plain_l0 (L : List ByteArray) (hs : ∀ i (h : i < L.length), L[i].size < 4294967281) (hlen : L.length < 4611686018427387904) : ∀ (d i : Nat), i + d = L.length →
    Ev (fun k => topic_plain.l0 k L L (L.length : Int) (i : Int)) (plainL ((L.drop i).map dl))
  | 0, i, hd => by
    obtain rfl : i = L.length := by omega
    rw [List.drop_length]
    exact Ev.step (f := fun _ => some true) (fun k => by simp only [topic_plain.l0]; rw [if_neg (by omega)]) (Ev.now _)
  | d + 1, i, hd => by
    have hi : i < L.length := by omega
    have ih := plain_l0 L hs hlen d (i + 1) (by omega)
    rw [drop_map L i hi]
    have hr := rd_at L i hi
    have hw := wild_f L[i] (hs i hi)
    have hj : ∀ b, Ev (fun k => topic_plain.j1 k L L[i] L (L.length : Int) (i : Int) b) ((b || !wildB (dl L[i])) && plainL ((L.drop (i + 1)).map dl)) := fun b => by
      cases b with
      | true => exact Ev.step (fun k => by simp only [topic_plain.j1, if_true]; rw [wrap_nat i (by omega)]) (by simpa using ih)
      | false =>
        refine Ev.step (f := fun k => if wildB (dl L[i]) = true then some false else topic_plain.l0 k L L (L.length : Int) ((i + 1 : Nat) : Int)) (fun k => by simp only [topic_plain.j1]; rw [if_neg (by decide), hw, wrap_nat i (by omega)]; rfl) ?_
        cases wildB (dl L[i])
        · simpa using ih
        · simpa using Ev.now false
    have he : (L.drop (i + 1)).map dl = [] ↔ i + 1 = L.length := by
      rw [List.map_eq_nil_iff, List.drop_eq_nil_iff]; omega
    have hstep : ∀ b, (decide (dl L[i] = [43]) || (decide (dl L[i] = [35]) && ((L.drop (i + 1)).map dl).isEmpty) || !wildB (dl L[i])) = (b || !wildB (dl L[i])) →
        (∀ k, topic_plain.l0 (k + 1) L L (L.length : Int) (i : Int) = topic_plain.j1 k L L[i] L (L.length : Int) (i : Int) b) →
        Ev (fun k => topic_plain.l0 k L L (L.length : Int) (i : Int)) (plainL (dl L[i] :: (L.drop (i + 1)).map dl)) := fun b hb hk => by
      rw [plainL, hb]
      exact Ev.step hk (hj b)
    have hopen : ∀ k, topic_plain.l0 (k + 1) L L (L.length : Int) (i : Int) = if dl L[i] = ([43] : List UInt8) then topic_plain.j1 k L L[i] L (L.length : Int) (i : Int) (dl L[i] == ([43] : List UInt8)) else if dl L[i] = ([35] : List UInt8) then topic_plain.j1 k L L[i] L (L.length : Int) (i : Int) ((i : Int) == wrap64 ((L.length : Int) - 1)) else topic_plain.j1 k L L[i] L (L.length : Int) (i : Int) false := fun k => by
      simp only [topic_plain.l0]
      rw [if_pos (by omega), if_pos (by omega), if_pos (by omega), hr, toList_dl]
    by_cases h1 : dl L[i] = [43]
    · exact hstep true (by rw [h1]; rfl) (fun k => by rw [hopen k, if_pos h1, h1]; rfl)
    · by_cases h2 : dl L[i] = [35]
      · refine hstep ((i : Int) == wrap64 ((L.length : Int) - 1)) ?_ (fun k => by rw [hopen k, if_neg h1, if_pos h2])
        rw [decide_eq_false h1, decide_eq_true h2, Bool.false_or, Bool.true_and]
        congr 1
        rw [Bool.eq_iff_iff, List.isEmpty_iff, he, beq_iff_eq]
        unfold wrap64; omega
      · exact hstep false (by rw [decide_eq_false h1, decide_eq_false h2]; rfl) (fun k => by rw [hopen k, if_neg h1, if_neg h2])
theorem plain_f (a : ByteArray) (h : a.size < 4294967281) : Ev (fun k => topic_plain.f k a) (plainB (dl a)) := by
  unfold topic_plain.f plainB
  rw [toList_dl]
  by_cases he : dl a = []
  · rw [he]; simp only [if_true]; exact Ev.now false
  · simp only [if_neg he, show (dl a).isEmpty = false by simpa using he, Bool.not_false, Bool.true_and]
    obtain ⟨L, hf, hL⟩ := split_f a h
    rw [hf, ← hL]
    have hp := piece_size hL
    have hq := pieces_len hL
    exact plain_l0 L (fun i hi => by have := hp i hi; omega) (by omega) L.length 0 (by omega)
end Go.Proofs.YtbaipppmefencaaDoor.Mq

namespace Go.Proofs.YtbaipppmefencaaDoor.Mq
open Go.RowKit Go.Lib Go.Proofs.YtbaipppmefencaaDoor.P Go.Proofs.YtbaipppmefencaaDoorW.PrintWords

/-! ### filters, shares, and who wants what -/
theorem cut_len (s sep : List UInt8) : (cut s sep).1.length ≤ s.length ∧ (cut s sep).2.1.length ≤ s.length := by
  unfold cut
  split
  · simp; omega
  · simp
theorem share_dl : dl (⟨#[36, 115, 104, 97, 114, 101, 47]⟩ : ByteArray) = shareP := rfl
theorem share_f (a : ByteArray) : strings_CutPrefix.f a (⟨#[36, 115, 104, 97, 114, 101, 47]⟩ : ByteArray) = some (if sharedB (dl a) = true then (a.extract 7 a.size, true) else (a, false)) := by
  rw [cutPrefix_f, share_dl]; rfl
theorem filter_f (a : ByteArray) : Ev (fun k => topic_Filter.f k a) (filterB (dl a)) := by
  unfold topic_Filter.f filterB
  rw [right_f, share_f]
  simp only [Option.bind_some]
  cases hr : rightB (dl a)
  · simpa using Ev.now false
  · have hs := right_small hr
    rw [Bool.true_and]
    simp only [if_true]
    cases hsh : sharedB (dl a)
    · simp only [Bool.false_eq_true, if_false]
      exact Ev.bind (plain_f a (by omega)) (Ev.now _)
    · simp only [if_true]
      have hz : (a.extract 7 a.size).size < 4294967281 := by have := Go.Lib.ext_size a 7; omega
      rw [cut_f _ hz, dl_extract]
      simp only [Option.bind_some]
      have hl := cut_len ((dl a).drop 7) [47]
      have hd : ((dl a).drop 7).length ≤ 65535 := by rw [List.length_drop, dl_size]; omega
      cases hc : (cut ((dl a).drop 7) [47]).2.2
      · simpa using Ev.now false
      · simp only [if_true, Bool.true_and]
        rw [toList_dl, mk_dl]
        by_cases he : (cut ((dl a).drop 7) [47]).1 = []
        · simp only [he, if_true]; simpa using Ev.now false
        · simp only [if_neg he, show ((cut ((dl a).drop 7) [47]).1).isEmpty = false by simpa using he, Bool.not_false, Bool.true_and]
          rw [wild_f _ (by rw [mk_size]; omega), mk_dl]
          simp only [Option.bind_some]
          cases wildB (cut ((dl a).drop 7) [47]).1
          · simp only [Bool.false_eq_true, if_false, Bool.not_false, Bool.true_and]
            have := plain_f ⟨(cut ((dl a).drop 7) [47]).2.1.toArray⟩ (by rw [mk_size]; omega)
            rw [mk_dl] at this
            exact Ev.bind this (Ev.now _)
          · simpa using Ev.now false
theorem filter_right {s : List UInt8} (h : filterB s = true) : rightB s = true := by
  unfold filterB at h
  rw [Bool.and_eq_true] at h
  exact h.1
theorem filter_cut {s : List UInt8} (h : filterB s = true) (hs : sharedB s = true) : (cut (s.drop 7) [47]).2.2 = true := by
  unfold filterB at h
  rw [Bool.and_eq_true, if_pos hs, Bool.and_eq_true] at h
  exact h.2.1
/-- Of a filter: whose share, of what. -/
theorem shared_f (a : ByteArray) : Ev (fun k => topic_Shared.f k a) (if sharedB (dl a) = true then (if filterB (dl a) = true then (⟨(cut ((dl a).drop 7) [47]).1.toArray⟩, ⟨(cut ((dl a).drop 7) [47]).2.1.toArray⟩, (cut ((dl a).drop 7) [47]).2.2) else ((⟨#[]⟩ : ByteArray), (⟨#[]⟩ : ByteArray), false)) else ((⟨#[]⟩ : ByteArray), (⟨#[]⟩ : ByteArray), false)) := by
  unfold topic_Shared.f
  rw [share_f]
  simp only [Option.bind_some]
  cases hsh : sharedB (dl a)
  · simp only [Bool.false_eq_true, if_false]; exact Ev.now _
  · simp only [if_true]
    refine Ev.bind (filter_f a) ?_
    cases hf : filterB (dl a)
    · simp only [Bool.false_eq_true, if_false]; exact Ev.now _
    · simp only [if_true]
      have := right_small (filter_right hf)
      rw [cut_f _ (by have := Go.Lib.ext_size a 7; omega), dl_extract]
      exact Ev.now _
theorem match_l0 (F M : List ByteArray) (hF : F.length < 4611686018427387904) (hM : M.length < 4611686018427387904) : ∀ (d i : Nat), i + d = F.length → i ≤ M.length →
    Ev (fun k => topic_Match.l0 k F M F (F.length : Int) (i : Int)) (matchL ((F.drop i).map dl) ((M.drop i).map dl))
  | 0, i, hd, hm => by
    obtain rfl : i = F.length := by omega
    rw [List.drop_length]
    refine Ev.step (f := fun _ => some ((F.length : Int) == (M.length : Int))) (fun k => by simp only [topic_Match.l0]; rw [if_neg (by omega)]) ?_
    rw [show matchL (([] : List ByteArray).map dl) ((M.drop F.length).map dl) = ((F.length : Int) == (M.length : Int)) from ?_]
    · exact Ev.now _
    · show ((M.drop F.length).map dl).isEmpty = _
      rw [Bool.eq_iff_iff, List.isEmpty_iff, List.map_eq_nil_iff, List.drop_eq_nil_iff, beq_iff_eq]
      omega
  | d + 1, i, hd, hm => by
    have hi : i < F.length := by omega
    rw [drop_map F i hi]
    have hr := rd_at F i hi
    have hopen : ∀ k, topic_Match.l0 (k + 1) F M F (F.length : Int) (i : Int) = if dl F[i] = ([35] : List UInt8) then some true else if (i : Int) ≥ (M.length : Int) then some false else if dl F[i] = ([43] : List UInt8) then topic_Match.l0 k F M F (F.length : Int) ((i + 1 : Nat) : Int) else if (i : Int) < (M.length : Int) then (if dl F[i] = (rdOf ByteArray.empty M (i : Int)).toList then topic_Match.l0 k F M F (F.length : Int) ((i + 1 : Nat) : Int) else some false) else none := fun k => by
      simp only [topic_Match.l0]
      rw [if_pos (by omega), if_pos (by omega), if_pos (by omega), hr, toList_dl, wrap_nat i (by omega)]
    by_cases h1 : dl F[i] = [35]
    · refine Ev.step (f := fun _ => some true) (fun k => by rw [hopen k, if_pos h1]) ?_
      rw [h1, matchL_all]
      exact Ev.now _
    · by_cases h2 : i < M.length
      · have ih := match_l0 F M hF hM d (i + 1) (by omega) (by omega)
        rw [drop_map M i h2, matchL_step _ _ _ _ h1]
        have hrm := rd_at M i h2
        by_cases h3 : dl F[i] = [43]
        · rw [decide_eq_true h3, Bool.true_or, Bool.true_and]
          exact Ev.step (fun k => by rw [hopen k, if_neg h1, if_neg (by omega), if_pos h3]) ih
        · rw [decide_eq_false h3, Bool.false_or]
          by_cases h4 : dl F[i] = dl M[i]
          · rw [decide_eq_true h4, Bool.true_and]
            exact Ev.step (fun k => by rw [hopen k, if_neg h1, if_neg (by omega), if_neg h3, if_pos (by omega), hrm, toList_dl, if_pos h4]) ih
          · rw [decide_eq_false h4, Bool.false_and]
            exact Ev.step (f := fun _ => some false) (fun k => by rw [hopen k, if_neg h1, if_neg (by omega), if_neg h3, if_pos (by omega), hrm, toList_dl, if_neg h4]) (Ev.now _)
      · have : M.drop i = [] := List.drop_eq_nil_of_le (by omega)
        rw [this, List.map_nil, matchL_none _ _ h1]
        exact Ev.step (f := fun _ => some false) (fun k => by rw [hopen k, if_neg h1, if_pos (by omega)]) (Ev.now _)
theorem match_j2 (a b : ByteArray) (ha : a.size < 4294967281) (hb : b.size < 4294967281) (t : Bool) : Ev (fun k => topic_Match.j2 k a b t) (!t && matchL (lv (dl a)) (lv (dl b))) := by
  cases t with
  | true => exact Ev.step (f := fun _ => some false) (fun k => by simp only [topic_Match.j2, if_true]) (by simpa using Ev.now false)
  | false =>
    obtain ⟨F, hf, hF⟩ := split_f a ha
    obtain ⟨M, hm, hM⟩ := split_f b hb
    have h1 := pieces_len hF
    have h2 := pieces_len hM
    refine Ev.step (f := fun k => topic_Match.l0 k F M F (F.length : Int) 0) (fun k => by simp only [topic_Match.j2]; rw [if_neg (by decide), hf]; simp only [Option.bind_some]; rw [hm]; simp only [Option.bind_some]) ?_
    rw [← hF, ← hM]
    simpa using match_l0 F M (by omega) (by omega) F.length 0 (by omega) (by omega)
theorem match_j1 (a b : ByteArray) (ha : a.size < 4294967281) (hb : b.size < 4294967281) (h1 : dl b ≠ []) (h0 : dl a ≠ []) : Ev (fun k => topic_Match.j1 k a b) (!(decide ((dl b).head? = some 36) && wildB ((dl a).take 1)) && matchL (lv (dl a)) (lv (dl b))) := by
  have hp : strings_HasPrefix.f b (⟨#[36]⟩ : ByteArray) = some (decide ((dl b).head? = some 36)) := by
    unfold strings_HasPrefix.f
    rw [prefix_f]
    simp only [Option.bind_some]
    congr 1
    cases hb2 : dl b with
    | nil => exact absurd hb2 h1
    | cons c t =>
      show ((36 : UInt8) == c && List.isPrefixOf [] t) = _
      rw [show List.isPrefixOf ([] : List UInt8) t = true by cases t <;> rfl, Bool.and_true, Bool.eq_iff_iff]
      simp only [List.head?_cons, Option.some.injEq, beq_iff_eq, decide_eq_true_eq]
      exact eq_comm
  have hsz : 1 ≤ a.size := by
    rw [← dl_size]
    cases h : dl a with
    | nil => exact absurd h h0
    | cons _ _ => simp
  by_cases hd : (dl b).head? = some 36
  · have hx : dl (a.extract 0 1) = (dl a).take 1 := by simp [dl, ByteArray.data_extract, Array.toList_extract]
    have hw := wild_f (a.extract 0 1) (by rw [← dl_size, hx]; simp; omega)
    rw [hx] at hw
    rw [decide_eq_true hd, Bool.true_and]
    exact Ev.step (fun k => by simp only [topic_Match.j1]; rw [hp, decide_eq_true hd]; simp only [Option.bind_some, if_true]; rw [if_pos (by decide), if_pos (by omega), hw]; simp only [Option.bind_some]) (match_j2 a b ha hb _)
  · rw [decide_eq_false hd, Bool.false_and]
    exact Ev.step (fun k => by simp only [topic_Match.j1]; rw [hp, decide_eq_false hd]; simp only [Option.bind_some]; rw [if_neg (by decide)]) (match_j2 a b ha hb _)
theorem plainB_ne {s : List UInt8} (h : plainB s = true) : s ≠ [] := by
  rintro rfl; simp [plainB] at h
theorem target_ne {s : List UInt8} (h : filterB s = true) : target s ≠ [] := by
  unfold target
  unfold filterB at h
  rw [Bool.and_eq_true] at h
  by_cases hs : sharedB s = true
  · rw [if_pos hs]
    have h2 := h.2
    rw [if_pos hs] at h2
    simp only [Bool.and_eq_true] at h2
    exact plainB_ne h2.2.2.2
  · rw [if_neg hs]
    have h2 := h.2
    rw [if_neg hs] at h2
    exact plainB_ne h2
theorem match_f (a b : ByteArray) : Ev (fun k => topic_Match.f k a b) (matchB (dl a) (dl b)) := by
  unfold topic_Match.f matchB
  refine Ev.bind (filter_f a) ?_
  have hno : Ev (fun k => topic_Match.j0 k a b true) false := Ev.step (f := fun _ => some false) (fun k => by simp only [topic_Match.j0, if_true]) (Ev.now _)
  cases hf : filterB (dl a)
  · simpa using hno
  · simp only [if_true, Bool.true_and]
    rw [name_f]
    simp only [Option.bind_some]
    cases hn : nameB (dl b)
    · simpa using hno
    · simp only [Bool.not_true, Bool.true_and]
      have h1 : dl b ≠ [] := by intro h; rw [h] at hn; simp [nameB] at hn
      have hb : b.size ≤ 65535 := by
        unfold nameB at hn
        simp only [Bool.and_eq_true] at hn
        exact right_small hn.2.1
      have ha := right_small (filter_right hf)
      have ht := target_ne hf
      refine Ev.step (f := fun k => (topic_Shared.f k a).bind fun bt143 => if bt143.2.2 = true then topic_Match.j1 k bt143.2.1 b else topic_Match.j1 k a b) (fun k => by simp only [topic_Match.j0]; rw [if_neg (by decide)]) ?_
      refine Ev.bind (shared_f a) ?_
      unfold target at ht ⊢
      by_cases hs : sharedB (dl a) = true
      · have hc := filter_cut hf hs
        simp only [if_pos hs, if_pos hf] at ht ⊢
        rw [hc]
        simp only [if_true]
        have hl := cut_len ((dl a).drop 7) [47]
        have hd : ((dl a).drop 7).length ≤ 65535 := by rw [List.length_drop, dl_size]; omega
        exact match_j1 ⟨(cut ((dl a).drop 7) [47]).2.1.toArray⟩ b (by rw [mk_size]; omega) (by omega) h1 ht
      · simp only [if_neg hs] at ht ⊢
        exact match_j1 a b (by omega) (by omega) h1 ht

/-! ### the reference's levels -/
theorem bt_dl (s : ByteArray) (i : Nat) (h : i < s.size) : ∃ c : UInt8, (dl s)[i]? = some c ∧ bt s (i : Int) = (c.toNat : Int) := by
  refine ⟨s[i], Go.Lib.data_getElem? s i h, ?_⟩
  unfold bt; simp [h]
theorem levels_l0 (s : ByteArray) (hs : s.size < 4294967281) : ∀ (d : Nat) (acc : List ByteArray) (m i : Nat), i + d = s.size → m ≤ i → acc.length + (i - m) ≤ i + 1 → (∀ j, m ≤ j → j < i → (dl s)[j]? ≠ some 47) →
    ∃ L, Ev (fun k => pouchref04_Levels.l0 k s acc (m : Int) (i : Int)) (acc ++ L) ∧ L.map dl = lv ((dl s).drop m)
  | 0, acc, m, i, hd, hm, hl, hno => by
    obtain rfl : i = s.size := by omega
    refine ⟨[s.extract m s.size], ?_, ?_⟩
    · refine Ev.step (fun k => by
        simp only [pouchref04_Levels.l0]
        rw [if_pos (by omega), if_pos trivial, if_pos (by omega), if_pos (by omega), if_pos (by omega), Int.toNat_natCast, Int.toNat_natCast, wrap_nat _ (by omega)]) ?_
      exact Ev.step (f := fun _ => some (acc ++ [s.extract m s.size])) (fun k => by simp only [pouchref04_Levels.l0]; rw [if_neg (by omega)]) (Ev.now _)
    · rw [lv_one]
      · simp only [List.map_cons, List.map_nil, dl_extract]
      · intro h
        obtain ⟨j, hj⟩ := List.mem_iff_getElem?.1 h
        rw [List.getElem?_drop] at hj
        have hlt : m + j < s.size := by
          rw [← dl_size]
          exact (List.getElem?_eq_some_iff.1 hj).1
        exact hno (m + j) (by omega) (by omega) hj
  | d + 1, acc, m, i, hd, hm, hl, hno => by
    have hi : i < s.size := by omega
    obtain ⟨c, hc, hb⟩ := bt_dl s i hi
    by_cases h47 : c = 47
    · obtain ⟨L, hE, hL⟩ := levels_l0 s hs d (acc ++ [s.extract m i]) (i + 1) (i + 1) (by omega) (Nat.le_refl _) (by simp; omega) (fun j h1 h2 => by omega)
      refine ⟨s.extract m i :: L, ?_, ?_⟩
      · rw [show acc ++ s.extract m i :: L = (acc ++ [s.extract m i]) ++ L by simp]
        refine Ev.step (fun k => by
          simp only [pouchref04_Levels.l0]
          rw [if_pos (by omega), if_neg (by omega), if_pos (by omega), if_pos (by omega), hb, if_pos (by rw [h47]; rfl), if_pos (by omega), if_pos (by omega), if_pos (by omega), Int.toNat_natCast, Int.toNat_natCast, wrap_nat _ (by omega)]) hE
      · rw [List.map_cons, hL]
        have e : (dl s).drop m = dl (s.extract m i) ++ 47 :: (dl s).drop (i + 1) := by
          have h1 : dl (s.extract m i) = ((dl s).drop m).take (i - m) := by
            simp [dl, ByteArray.data_extract, Array.toList_extract, List.take_drop, Nat.add_sub_cancel' hm]
          rw [h1]
          have h2 : 47 :: (dl s).drop (i + 1) = ((dl s).drop m).drop (i - m) := by
            rw [List.drop_drop, Nat.add_sub_cancel' hm]
            have hlt : i < (dl s).length := by rw [dl_size]; exact hi
            rw [List.drop_eq_getElem_cons hlt, (List.getElem?_eq_some_iff.1 hc).2, h47]
          rw [h2, List.take_append_drop]
        rw [e, lv_slash]
        intro h
        obtain ⟨j, hj⟩ := List.mem_iff_getElem?.1 h
        have h1 : dl (s.extract m i) = ((dl s).drop m).take (i - m) := by
          simp [dl, ByteArray.data_extract, Array.toList_extract, List.take_drop, Nat.add_sub_cancel' hm]
        rw [h1] at hj
        rw [List.getElem?_take] at hj
        split at hj
        · rw [List.getElem?_drop] at hj
          exact hno (m + j) (by omega) (by omega) hj
        · cases hj
    · obtain ⟨L, hE, hL⟩ := levels_l0 s hs d acc m (i + 1) (by omega) (by omega) (by omega) (fun j h1 h2 h3 => by
        by_cases e : j = i
        · subst e; rw [hc] at h3; exact h47 (Option.some.inj h3)
        · exact hno j h1 (by omega) h3)
      refine ⟨L, ?_, hL⟩
      refine Ev.step (fun k => by
        simp only [pouchref04_Levels.l0]
        rw [if_pos (by omega), if_neg (by omega), if_pos (by omega), if_pos (by omega), hb, if_neg (fun h => h47 (UInt8.toNat_inj.1 (by have : (47 : UInt8).toNat = 47 := rfl; omega))), wrap_nat _ (by omega)]) hE
theorem levels_f (s : ByteArray) (hs : s.size < 4294967281) : ∃ L, Ev (fun k => pouchref04_Levels.f k s) L ∧ L.map dl = lv (dl s) := by
  obtain ⟨L, h1, h2⟩ := levels_l0 s hs s.size [] 0 0 (by omega) (Nat.le_refl _) (by simp) (fun j h1 h2 => by omega)
  exact ⟨L, by simpa [pouchref04_Levels.f] using h1, by simpa using h2⟩
end Go.Proofs.YtbaipppmefencaaDoor.Mq

namespace Go.Proofs.YtbaipppmefencaaDoor.Mq
open Go.RowKit Go.Lib Go.Proofs.YtbaipppmefencaaDoor.P Go.Proofs.YtbaipppmefencaaDoorW.PrintWords

/-! ### texts that are right by their making -/
/-- ASCII signs but 0, and the one sign of two bytes. -/
inductive Gv : List UInt8 → Prop
  | nil : Gv []
  | one (c : UInt8) (s : List UInt8) : 0 < c.toNat → c.toNat < 128 → Gv s → Gv (c :: s)
  | two (s : List UInt8) : Gv s → Gv (195 :: 164 :: s)
theorem Gv.append {a b : List UInt8} (ha : Gv a) (hb : Gv b) : Gv (a ++ b) := by
  induction ha with
  | nil => exact hb
  | one c s h0 h1 _ ih => exact .one c _ h0 h1 ih
  | two s _ ih => exact .two _ ih
theorem valid_two (s : List UInt8) : validD (195 :: 164 :: s) = validD s := by
  rw [validD_lead (195 :: 164 :: s) (by simp) (show 128 ≤ (195 : UInt8).toNat by decide)]
  have e : checkN (195 :: 164 :: s).length (([195, 164] ++ s).getD 1 0).toNat (([195, 164] ++ s).getD 2 0).toNat (([195, 164] ++ s).getD 3 0).toNat (firstT (([195, 164] ++ s).getD 0 0).toNat % 8) (accLo (firstT (([195, 164] ++ s).getD 0 0).toNat / 16)) (accHi (firstT (([195, 164] ++ s).getD 0 0).toNat / 16)) = some 2 := by
    have e1 : (([195, 164] ++ s).getD 0 0).toNat = 195 := rfl
    have e2 : (([195, 164] ++ s).getD 1 0).toNat = 164 := rfl
    have e3 : firstT 195 % 8 = 2 := by decide
    have e4 : accLo (firstT 195 / 16) = 128 := by decide
    have e5 : accHi (firstT 195 / 16) = 191 := by decide
    rw [e1, e2, e3, e4, e5]
    unfold checkN
    rw [if_pos rfl, if_neg (by simp)]
  have e' : checkN (195 :: 164 :: s).length ((195 :: 164 :: s).getD 1 0).toNat ((195 :: 164 :: s).getD 2 0).toNat ((195 :: 164 :: s).getD 3 0).toNat (firstT ((195 :: 164 :: s).getD 0 0).toNat % 8) (accLo (firstT ((195 :: 164 :: s).getD 0 0).toNat / 16)) (accHi (firstT ((195 :: 164 :: s).getD 0 0).toNat / 16)) = some 2 := e
  rw [e']; rfl
theorem Gv.valid {s : List UInt8} (h : Gv s) : validD s = true := by
  induction h with
  | nil => rfl
  | one c s _ h1 _ ih => rw [validD_cons c s h1]; exact ih
  | two s _ ih => rw [valid_two]; exact ih
theorem Gv.zero {s : List UInt8} (h : Gv s) : s.contains 0 = false := by
  induction h with
  | nil => rfl
  | one c s h0 _ _ ih =>
    rw [List.contains_cons, ih, Bool.or_false, beq_eq_false_iff_ne]
    rintro rfl
    exact absurd h0 (by decide)
  | two s _ ih => rw [List.contains_cons, List.contains_cons, ih]; rfl
theorem Gv.right {s : List UInt8} (h : Gv s) (hl : s.length ≤ 65535) : rightB s = true := by
  unfold rightB
  rw [decide_eq_true hl, h.valid, h.zero]; rfl
/-- The signs of a name that is made: a b c d e, the slash, the sign of two bytes. -/
inductive Gd : List UInt8 → Prop
  | nil : Gd []
  | one (c : UInt8) (s : List UInt8) : c ∈ ([97, 98, 99, 100, 101, 47, 116] : List UInt8) → Gd s → Gd (c :: s)
  | two (s : List UInt8) : Gd s → Gd (195 :: 164 :: s)
theorem Gd.append {a b : List UInt8} (ha : Gd a) (hb : Gd b) : Gd (a ++ b) := by
  induction ha with
  | nil => exact hb
  | one c s h0 _ ih => exact .one c _ h0 ih
  | two s _ ih => exact .two _ ih
theorem Gd.gv {s : List UInt8} (h : Gd s) : Gv s := by
  induction h with
  | nil => exact .nil
  | one c s h0 _ ih =>
    refine .one c s ?_ ?_ ih <;> simp only [List.mem_cons, List.mem_nil_iff, or_false] at h0 <;> rcases h0 with rfl | rfl | rfl | rfl | rfl | rfl | rfl <;> decide
  | two s _ ih => exact .two s ih
theorem Gd.mem {s : List UInt8} (h : Gd s) : ∀ c ∈ s, c ∈ ([97, 98, 99, 100, 101, 47, 116, 195, 164] : List UInt8) := by
  induction h with
  | nil => intro c hc; cases hc
  | one d s h0 _ ih =>
    intro c hc
    rcases List.mem_cons.1 hc with rfl | hc
    · simp only [List.mem_cons, List.mem_nil_iff, or_false] at h0
      rcases h0 with rfl | rfl | rfl | rfl | rfl | rfl | rfl <;> decide
    · exact ih c hc
  | two s _ ih =>
    intro c hc
    rcases List.mem_cons.1 hc with rfl | hc
    · decide
    · rcases List.mem_cons.1 hc with rfl | hc
      · decide
      · exact ih c hc
theorem Gd.not {s : List UInt8} (h : Gd s) (c : UInt8) (hc : c ∉ ([97, 98, 99, 100, 101, 47, 116, 195, 164] : List UInt8)) : c ∉ s := fun h2 => hc (h.mem c h2)
theorem wild_no {s : List UInt8} (h1 : (43 : UInt8) ∉ s) (h2 : (35 : UInt8) ∉ s) : wildB s = false := by
  unfold wildB
  simp [h1, h2]
theorem Gd.wild {s : List UInt8} (h : Gd s) : wildB s = false := wild_no (h.not 43 (by decide)) (h.not 35 (by decide))
theorem Gd.name {s : List UInt8} (h : Gd s) (h0 : s ≠ []) (hl : s.length ≤ 65535) : nameB s = true := by
  unfold nameB
  rw [h.gv.right hl, h.wild, show s.isEmpty = false by simpa using h0]; rfl
theorem lv_noslash (s : List UInt8) : ∀ x ∈ lv s, (47 : UInt8) ∉ x := by
  induction s with
  | nil => simp [lv]
  | cons c s ih =>
    intro x hx
    by_cases h : c = 47
    · subst h; rw [lv_cons_slash] at hx
      rcases List.mem_cons.1 hx with rfl | hx
      · simp
      · exact ih x hx
    · rw [lv_cons c s h] at hx
      have := lv_ne s
      cases hl : lv s with
      | nil => exact absurd hl this
      | cons y t =>
        rw [hl] at hx ih
        rcases List.mem_cons.1 hx with rfl | hx
        · have := ih y (by simp); simp [Ne.symm h, this]
        · exact ih x (by simp at hx; simp [hx])
theorem lv_sub (s : List UInt8) : ∀ x ∈ lv s, ∀ c ∈ x, c ∈ s := by
  induction s with
  | nil => simp [lv]
  | cons d s ih =>
    intro x hx c hc
    by_cases h : d = 47
    · subst h; rw [lv_cons_slash] at hx
      rcases List.mem_cons.1 hx with rfl | hx
      · cases hc
      · exact List.mem_cons_of_mem _ (ih x hx c hc)
    · rw [lv_cons d s h] at hx
      have := lv_ne s
      cases hl : lv s with
      | nil => exact absurd hl this
      | cons y t =>
        rw [hl] at hx ih
        rcases List.mem_cons.1 hx with rfl | hx
        · rcases List.mem_cons.1 hc with rfl | hc
          · simp
          · exact List.mem_cons_of_mem _ (ih y (by simp) c hc)
        · exact List.mem_cons_of_mem _ (ih x (by simp at hx; simp [hx]) c hc)
theorem Gd.levels {s : List UInt8} (h : Gd s) : ∀ x ∈ lv s, Gd x := by
  induction h with
  | nil => intro x hx; simp [lv] at hx; subst hx; exact .nil
  | one c s h0 _ ih =>
    intro x hx
    by_cases h : c = 47
    · subst h; rw [lv_cons_slash] at hx
      rcases List.mem_cons.1 hx with rfl | hx
      · exact .nil
      · exact ih x hx
    · rw [lv_cons c s h] at hx
      have := lv_ne s
      cases hl : lv s with
      | nil => exact absurd hl this
      | cons y t =>
        rw [hl] at hx ih
        rcases List.mem_cons.1 hx with rfl | hx
        · exact .one c y h0 (ih y (by simp))
        · exact ih x (by simp at hx; simp [hx])
  | two s _ ih =>
    intro x hx
    rw [lv_cons 195 _ (by decide), lv_cons 164 _ (by decide)] at hx
    have := lv_ne s
    cases hl : lv s with
    | nil => exact absurd hl this
    | cons y t =>
      rw [hl] at hx ih
      rcases List.mem_cons.1 hx with rfl | hx
      · exact .two y (ih y (by simp))
      · exact ih x (by simp at hx; simp [hx])
/-- Levels, with slashes between. -/
def jn : List (List UInt8) → List UInt8
  | [] => []
  | [x] => x
  | x :: y :: r => x ++ 47 :: jn (y :: r)
theorem jn_cons (x : List UInt8) (r : List (List UInt8)) (h : r ≠ []) : jn (x :: r) = x ++ 47 :: jn r := by
  cases r with
  | nil => exact absurd rfl h
  | cons y r => rfl
theorem jn_lv (s : List UInt8) : jn (lv s) = s := by
  induction s with
  | nil => rfl
  | cons c s ih =>
    have hne := lv_ne s
    by_cases h : c = 47
    · subst h; rw [lv_cons_slash, jn_cons _ _ hne, ih]; rfl
    · rw [lv_cons c s h]
      cases hl : lv s with
      | nil => exact absurd hl hne
      | cons y t =>
        rw [hl] at ih
        cases t with
        | nil => simpa [jn] using ih
        | cons z t => rw [← ih]; rfl
theorem lv_jn : ∀ (L : List (List UInt8)), L ≠ [] → (∀ x ∈ L, (47 : UInt8) ∉ x) → lv (jn L) = L
  | [], h, _ => absurd rfl h
  | [x], _, h => lv_one x (h x (by simp))
  | x :: y :: r, _, h => by
    rw [jn_cons x (y :: r) (by simp), lv_slash x _ (h x (by simp)), lv_jn (y :: r) (by simp) (fun z hz => h z (by simp [hz]))]
theorem jn_snoc : ∀ (L : List (List UInt8)) (x : List UInt8), L ≠ [] → jn (L ++ [x]) = jn L ++ 47 :: x
  | [], _, h => absurd rfl h
  | [y], x, _ => rfl
  | y :: z :: r, x, _ => by
    rw [List.cons_append, jn_cons y ((z :: r) ++ [x]) (by simp), jn_snoc (z :: r) x (by simp), jn_cons y (z :: r) (by simp)]; simp
theorem Gv.jn : ∀ (L : List (List UInt8)), (∀ x ∈ L, Gv x) → Gv (Mq.jn L)
  | [], _ => .nil
  | [x], h => h x (by simp)
  | x :: y :: r, h => by
    rw [jn_cons x (y :: r) (by simp)]
    exact (h x (by simp)).append (.one 47 _ (by decide) (by decide) (Gv.jn (y :: r) (fun z hz => h z (by simp [hz]))))
theorem plainL_of : ∀ (L : List (List UInt8)), (∀ x ∈ L, x = [43] ∨ wildB x = false) → plainL L = true
  | [], _ => rfl
  | x :: r, h => by
    rw [plainL, plainL_of r (fun y hy => h y (by simp [hy])), Bool.and_true]
    rcases h x (by simp) with rfl | h
    · rfl
    · rw [h]; simp
theorem plainL_hash : ∀ (L : List (List UInt8)), (∀ x ∈ L, x = [43] ∨ wildB x = false) → plainL (L ++ [[35]]) = true
  | [], _ => rfl
  | x :: r, h => by
    rw [List.cons_append, plainL, plainL_hash r (fun y hy => h y (by simp [hy])), Bool.and_true]
    rcases h x (by simp) with rfl | h
    · rfl
    · rw [h]; simp
theorem matchL_self : ∀ (L : List (List UInt8)), matchL L L = true
  | [] => rfl
  | x :: r => by
    by_cases h : x = [35]
    · subst h; exact matchL_all _ _
    · rw [matchL_step _ _ _ _ h, matchL_self r, decide_eq_true rfl]; simp
theorem matchL_set : ∀ (L : List (List UInt8)) (k : Nat), matchL (L.set k [43]) L = true
  | [], _ => rfl
  | x :: r, 0 => by rw [List.set_cons_zero, matchL_step _ _ _ _ (by decide), matchL_self r]; rfl
  | x :: r, k + 1 => by
    rw [List.set_cons_succ]
    by_cases h : x = [35]
    · subst h; exact matchL_all _ _
    · rw [matchL_step _ _ _ _ h, matchL_set r k, decide_eq_true rfl]; simp
theorem matchL_hash : ∀ (L : List (List UInt8)) (k : Nat), matchL (L.take k ++ [[35]]) L = true
  | [], k => by simp; exact matchL_all _ _
  | x :: r, 0 => by simp; exact matchL_all _ _
  | x :: r, k + 1 => by
    rw [List.take_succ_cons, List.cons_append]
    by_cases h : x = [35]
    · subst h; exact matchL_all _ _
    · rw [matchL_step _ _ _ _ h, matchL_hash r k, decide_eq_true rfl]; simp
/-- A filter that is none of a share. -/
theorem filter_plain {s : List UInt8} (h0 : s ≠ []) (hg : rightB s = true) (hs : sharedB s = false) (hp : plainL (lv s) = true) : filterB s = true := by
  unfold filterB plainB
  rw [hg, hs, hp, show s.isEmpty = false by simpa using h0]; rfl
theorem match_plain {f n : List UInt8} (hf : filterB f = true) (hs : sharedB f = false) (hn : nameB n = true) (h : n.head? ≠ some 36) (hm : matchL (lv f) (lv n) = true) : matchB f n = true := by
  unfold matchB target
  rw [hf, hn, hs, decide_eq_false h]
  simpa using hm
theorem shared_head {s : List UInt8} (h : s.head? ≠ some 36) : sharedB s = false := by
  unfold sharedB shareP
  cases s with
  | nil => rfl
  | cons c s =>
    have : ¬ c = 36 := by simpa using h
    show ((36 : UInt8) == c && _) = false
    rw [show ((36 : UInt8) == c) = false from beq_eq_false_iff_ne.2 (Ne.symm this)]; rfl
theorem Gd.head {s : List UInt8} (h : Gd s) : s.head? ≠ some 36 := fun h2 => h.not 36 (by decide) (List.mem_of_mem_head? h2)

/-! ### the reference's names out of any bytes -/
def signs : List ByteArray := [(⟨#[97]⟩ : ByteArray), (⟨#[98]⟩ : ByteArray), (⟨#[47]⟩ : ByteArray), (⟨#[99]⟩ : ByteArray), (⟨#[100]⟩ : ByteArray), (⟨#[47]⟩ : ByteArray), (⟨#[195, 164]⟩ : ByteArray), (⟨#[101]⟩ : ByteArray)]
theorem signs_gd (j : Nat) (h : j < 8) : Gd (dl (rdOf ByteArray.empty signs (j : Int))) ∧ (rdOf ByteArray.empty signs (j : Int)).size ≤ 2 ∧ dl (rdOf ByteArray.empty signs (j : Int)) ≠ [] := by
  match j, h with
  | 0, _ => exact ⟨.one 97 _ (by decide) .nil, by decide, by decide⟩
  | 1, _ => exact ⟨.one 98 _ (by decide) .nil, by decide, by decide⟩
  | 2, _ => exact ⟨.one 47 _ (by decide) .nil, by decide, by decide⟩
  | 3, _ => exact ⟨.one 99 _ (by decide) .nil, by decide, by decide⟩
  | 4, _ => exact ⟨.one 100 _ (by decide) .nil, by decide, by decide⟩
  | 5, _ => exact ⟨.one 47 _ (by decide) .nil, by decide, by decide⟩
  | 6, _ => exact ⟨.two _ .nil, by decide, by decide⟩
  | 7, _ => exact ⟨.one 101 _ (by decide) .nil, by decide, by decide⟩
theorem dl_append (a b : ByteArray) : dl (a ++ b) = dl a ++ dl b := by simp [dl, ByteArray.data_append]
theorem byte_idx (s : ByteArray) (i : Nat) (h : i < s.size) : ∃ j : Nat, j < 8 ∧ Int.tmod (wrap64 (bt s (i : Int))) 8 = (j : Int) := by
  obtain ⟨c, _, hb⟩ := bt_dl s i h
  have hc := c.toNat_lt
  refine ⟨c.toNat % 8, by omega, ?_⟩
  rw [hb, show wrap64 (c.toNat : Int) = (c.toNat : Int) by unfold wrap64; omega, Int.tmod_eq_emod_of_nonneg (by omega)]
  omega
theorem fix_l0 (s : ByteArray) : ∀ (d i : Nat) (x : ByteArray), i + d = 8 → Gd (dl x) → x.size ≤ 2 * i →
    ∃ r, Ev (fun k => pouchref04_Fix.l0 k s signs x (i : Int)) r ∧ Gd (dl r) ∧ dl r ≠ [] ∧ r.size ≤ 16 := by
  have hend : ∀ x : ByteArray, Gd (dl x) → x.size ≤ 16 → ∃ r, Ev (fun _ : Nat => if x.toList = ([] : List UInt8) then some (⟨#[97]⟩ : ByteArray) else some x) r ∧ Gd (dl r) ∧ dl r ≠ [] ∧ r.size ≤ 16 := fun x hg hz => by
    rw [toList_dl]
    by_cases h : dl x = []
    · simp only [if_pos h]; exact ⟨_, Ev.now _, .one 97 _ (by decide) .nil, by decide, by decide⟩
    · simp only [if_neg h]; exact ⟨_, Ev.now _, hg, h, hz⟩
  intro d
  induction d with
  | zero =>
    intro i x hd hg hz
    obtain rfl : i = 8 := by omega
    obtain ⟨r, hr, h⟩ := hend x hg (by omega)
    refine ⟨r, Ev.step (fun k => ?_) hr, h⟩
    simp only [pouchref04_Fix.l0]
    by_cases h1 : ((8 : Nat) : Int) < (s.size : Int)
    · rw [if_pos h1, if_neg (by decide)]
    · rw [if_neg h1]
  | succ d ih =>
    intro i x hd hg hz
    by_cases h1 : i < s.size
    · obtain ⟨j, hj, hb⟩ := byte_idx s i h1
      obtain ⟨g1, g2, g3⟩ := signs_gd j hj
      obtain ⟨r, hr, h⟩ := ih (i + 1) (x ++ rdOf ByteArray.empty signs (j : Int)) (by omega) (by rw [dl_append]; exact hg.append g1) (by rw [ByteArray.size_append]; omega)
      refine ⟨r, Ev.step (fun k => ?_) hr, h⟩
      simp only [pouchref04_Fix.l0]
      rw [show ((signs.length : Nat) : Int) = 8 from rfl, hb, wrap_nat i (by omega), if_pos (by omega), if_pos (by omega), if_pos (by omega), if_neg (by decide), if_pos (by omega), if_pos (by omega), if_pos (by omega)]
    · obtain ⟨r, hr, h⟩ := hend x hg (by omega)
      refine ⟨r, Ev.step (fun k => ?_) hr, h⟩
      simp only [pouchref04_Fix.l0]
      rw [if_neg (by omega)]
theorem fix_f (s : ByteArray) : ∃ r, Ev (fun k => pouchref04_Fix.f k s) r ∧ Gd (dl r) ∧ dl r ≠ [] ∧ r.size ≤ 16 := by
  obtain ⟨r, hr, h⟩ := fix_l0 s 8 0 (⟨#[]⟩ : ByteArray) (by omega) .nil (by decide)
  exact ⟨r, hr, h⟩
end Go.Proofs.YtbaipppmefencaaDoor.Mq

namespace Go.Proofs.YtbaipppmefencaaDoor.Pure
open Go.RowKit Go.Lib Go.Proofs.YtbaipppmefencaaDoor.P Go.Proofs.YtbaipppmefencaaDoor.Mq Go.Proofs.YtbaipppmefencaaDoorW.PrintWords

theorem told_f : Ev (fun k => pouchlaw04_told.f k) true := by
  have h : ∀ k : Nat, True := fun _ => trivial
  unfold pouchlaw04_told.f
  refine Ev.bind (shared_f _) ?_
  refine Ev.bind (match_f _ _) ?_
  rw [show matchB (dl (⟨#[97, 47, 43, 47, 99]⟩ : ByteArray)) (dl (⟨#[97, 47, 98, 47, 99]⟩ : ByteArray)) = true by decide +kernel]
  simp only [if_true]
  refine Ev.bind (match_f _ _) ?_
  rw [show matchB (dl (⟨#[97, 47, 43, 47, 99]⟩ : ByteArray)) (dl (⟨#[97, 47, 47, 99]⟩ : ByteArray)) = true by decide +kernel]
  simp only [if_true]
  refine Ev.bind (match_f _ _) ?_
  rw [show matchB (dl (⟨#[97, 47, 43, 47, 99]⟩ : ByteArray)) (dl (⟨#[97, 47, 98]⟩ : ByteArray)) = false by decide +kernel]
  simp only [Bool.false_eq_true, if_false]
  refine Ev.bind (match_f _ _) ?_
  rw [show matchB (dl (⟨#[97, 47, 35]⟩ : ByteArray)) (dl (⟨#[97]⟩ : ByteArray)) = true by decide +kernel]
  simp only [if_true]
  refine Ev.bind (match_f _ _) ?_
  rw [show matchB (dl (⟨#[35]⟩ : ByteArray)) (dl (⟨#[36, 120]⟩ : ByteArray)) = false by decide +kernel]
  simp only [Bool.false_eq_true, if_false]
  rw [show sharedB (dl (⟨#[36, 115, 104, 97, 114, 101, 47, 103, 47, 97, 47, 43]⟩ : ByteArray)) = true by decide +kernel, show filterB (dl (⟨#[36, 115, 104, 97, 114, 101, 47, 103, 47, 97, 47, 43]⟩ : ByteArray)) = true by decide +kernel]
  simp only [if_true]
  rw [toList_dl, toList_dl, mk_dl, mk_dl, show cut (List.drop 7 (dl (⟨#[36, 115, 104, 97, 114, 101, 47, 103, 47, 97, 47, 43]⟩ : ByteArray))) [47] = ([103], [97, 47, 43], true) by decide +kernel]
  simp only [if_true]
  refine Ev.bind (filter_f _) ?_
  rw [show filterB (dl (⟨#[97, 47, 35, 47, 98]⟩ : ByteArray)) = false by decide +kernel]
  simp only [Bool.false_eq_true, if_false]
  refine Ev.bind (filter_f _) ?_
  rw [show filterB (dl (⟨#[36, 115, 104, 97, 114, 101, 47, 103]⟩ : ByteArray)) = false by decide +kernel]
  simp only [Bool.false_eq_true, if_false]
  rw [name_f, name_f, show nameB (dl (⟨#[97]⟩ : ByteArray)) = true by decide +kernel, show nameB (dl (⟨#[43]⟩ : ByteArray)) = false by decide +kernel]
  exact Ev.now _

/-! ### the three filters of the law, over lists -/
theorem take_set (L : List (List UInt8)) (k i : Nat) (h : i < L.length) : (L.set k [43]).take (i + 1) = (L.set k [43]).take i ++ [if i = k then [43] else L[i]] := by
  rw [List.take_succ_eq_append_getElem (by simpa using h)]
  congr 2
  rw [List.getElem_set]
  by_cases e : k = i
  · rw [if_pos e, if_pos e.symm]
  · rw [if_neg e, if_neg (Ne.symm e)]
def pre (L : List (List UInt8)) : List UInt8 := L.flatMap fun x => x ++ [47]
theorem pre_jn (L : List (List UInt8)) : pre L ++ [35] = jn (L ++ [[35]]) := by
  induction L with
  | nil => rfl
  | cons x r ih =>
    rw [List.cons_append, jn_cons _ _ (by simp), ← ih]
    simp [pre]
theorem m_self {s : List UInt8} (hg : Gd s) (h0 : s ≠ []) (hl : s.length ≤ 1000) : matchB s s = true := by
  have hp : plainL (lv s) = true := plainL_of _ (fun x hx => .inr (hg.levels x hx).wild)
  exact match_plain (filter_plain h0 (hg.gv.right (by omega)) (shared_head hg.head) hp) (shared_head hg.head) (hg.name h0 (by omega)) hg.head (matchL_self _)
theorem set_facts {s : List UInt8} (hg : Gd s) (_ : s ≠ []) (_ : s.length ≤ 1000) (k : Nat) : (∀ x ∈ (lv s).set k [43], x = [43] ∨ wildB x = false) ∧ (∀ x ∈ (lv s).set k [43], (47 : UInt8) ∉ x) ∧ (∀ x ∈ (lv s).set k [43], Gv x) ∧ (lv s).set k [43] ≠ [] := by
  refine ⟨fun x hx => ?_, fun x hx => ?_, fun x hx => ?_, fun h => lv_ne s (by simpa using h)⟩
  all_goals rcases List.mem_or_eq_of_mem_set hx with hx | rfl
  · exact .inr (hg.levels x hx).wild
  · exact .inl rfl
  · exact lv_noslash s x hx
  · decide
  · exact (hg.levels x hx).gv
  · exact .one 43 _ (by decide) (by decide) .nil
theorem head_set {s : List UInt8} (hg : Gd s) (_ : s ≠ []) (_ : s.length ≤ 1000) (k : Nat) : (jn ((lv s).set k [43])).head? ≠ some 36 := by
  intro h
  have hm : (36 : UInt8) ∈ jn ((lv s).set k [43]) := List.mem_of_mem_head? h
  have key : ∀ (L : List (List UInt8)), (∀ x ∈ L, (36 : UInt8) ∉ x) → (36 : UInt8) ∉ jn L := by
    intro L
    induction L with
    | nil => intro _ h; cases h
    | cons x r ih =>
      intro hx
      cases r with
      | nil => exact hx x (by simp)
      | cons y r =>
        rw [jn_cons x (y :: r) (by simp)]
        intro h
        rcases List.mem_append.1 h with h | h
        · exact hx x (by simp) h
        · rcases List.mem_cons.1 h with h | h
          · exact absurd h (by decide)
          · exact ih (fun z hz => hx z (by simp [hz])) h
  refine key _ (fun x hx => ?_) hm
  rcases List.mem_or_eq_of_mem_set hx with hx | rfl
  · exact fun h => hg.not 36 (by decide) (lv_sub s x hx 36 h)
  · decide
theorem m_set {s : List UInt8} (hg : Gd s) (h0 : s ≠ []) (hl : s.length ≤ 1000) (k : Nat) (hz : (jn ((lv s).set k [43])).length ≤ 60000) : filterB (jn ((lv s).set k [43])) = true ∧ plainB (jn ((lv s).set k [43])) = true ∧ matchB (jn ((lv s).set k [43])) s = true := by
  obtain ⟨f1, f2, f3, f4⟩ := set_facts hg h0 hl k
  have hlv := lv_jn _ f4 f2
  have hsh := shared_head (head_set hg h0 hl k)
  have hne : jn ((lv s).set k [43]) ≠ [] := by
    intro h
    rw [h] at hlv
    have h2 : (lv s).set k [43] = [[]] := hlv.symm
    cases hv : lv s with
    | nil => exact lv_ne s hv
    | cons x r =>
      rw [hv] at h2
      cases k with
      | zero => simp at h2
      | succ k =>
        rw [List.set_cons_succ] at h2
        injection h2 with h3 h4
        have hr : r = [] := by simpa using h4
        have := jn_lv s
        rw [hv, h3, hr] at this
        exact h0 this.symm
  have hp := plainL_of _ f1
  rw [← hlv] at hp
  have hf := filter_plain hne ((Gv.jn _ f3).right (by omega)) hsh hp
  refine ⟨hf, ?_, match_plain hf hsh (hg.name h0 (by omega)) hg.head ?_⟩
  · unfold plainB
    rw [hp, show (jn ((lv s).set k [43])).isEmpty = false by simpa using hne]; rfl
  · rw [hlv]; exact matchL_set _ _
theorem m_hash {s : List UInt8} (hg : Gd s) (h0 : s ≠ []) (hl : s.length ≤ 1000) (k : Nat) (hz : (pre ((lv s).take k) ++ [35]).length ≤ 60000) : matchB (pre ((lv s).take k) ++ [35]) s = true := by
  rw [pre_jn] at hz ⊢
  have hm : ∀ x ∈ (lv s).take k, x ∈ lv s := fun x hx => List.mem_of_mem_take hx
  have f2 : ∀ x ∈ (lv s).take k ++ [[35]], (47 : UInt8) ∉ x := fun x hx => by
    rcases List.mem_append.1 hx with hx | hx
    · exact lv_noslash s x (hm x hx)
    · simp at hx; subst hx; decide
  have f3 : ∀ x ∈ (lv s).take k ++ [[35]], Gv x := fun x hx => by
    rcases List.mem_append.1 hx with hx | hx
    · exact (hg.levels x (hm x hx)).gv
    · simp at hx; subst hx; exact .one 35 _ (by decide) (by decide) .nil
  have hlv := lv_jn _ (by simp) f2
  have hp : plainL ((lv s).take k ++ [[35]]) = true := plainL_hash _ (fun x hx => .inr (hg.levels x (hm x hx)).wild)
  have hhead : (jn ((lv s).take k ++ [[35]])).head? ≠ some 36 := by
    cases hv : (lv s).take k with
    | nil => decide
    | cons x r =>
      rw [List.cons_append, jn_cons _ _ (by simp)]
      cases x with
      | nil => intro h; exact absurd (Option.some.inj h) (by decide)
      | cons c x =>
        intro h
        have hc : c = 36 := by simpa using h
        have : (c :: x) ∈ lv s := hm _ (by rw [hv]; simp)
        exact hg.not 36 (by decide) (lv_sub s _ this 36 (by simp [hc]))
  have hne : jn ((lv s).take k ++ [[35]]) ≠ [] := by rw [← pre_jn]; simp
  rw [← hlv] at hp
  have hsh := shared_head hhead
  exact match_plain (filter_plain hne ((Gv.jn _ f3).right (by omega)) hsh hp) hsh (hg.name h0 (by omega)) hg.head (by rw [hlv]; exact matchL_hash _ _)
theorem m_all {s : List UInt8} (hg : Gd s) (h0 : s ≠ []) (hl : s.length ≤ 1000) : matchB [35] s = true := by
  have := m_hash hg h0 hl 0 (by simp [pre])
  simpa [pre] using this
/-- "$share/x/" ahead of a filter. -/
theorem m_share {s : List UInt8} (hg : Gd s) (h0 : s ≠ []) (hl : s.length ≤ 1000) (f : List UInt8) (hf : plainB f = true) (hr : Gv f) (hz : f.length ≤ 60000) (hm : matchL (lv f) (lv s) = true) : matchB ([36, 115, 104, 97, 114, 101, 47, 120, 47] ++ f) s = true := by
  have hsh : sharedB ([36, 115, 104, 97, 114, 101, 47, 120, 47] ++ f) = true := by
    unfold sharedB shareP
    rw [List.isPrefixOf_iff_prefix]
    exact ⟨[120, 47] ++ f, by simp⟩
  have hc : cut (([36, 115, 104, 97, 114, 101, 47, 120, 47] ++ f).drop 7) [47] = ([120], f, true) := cut_at [120] f (by decide)
  have hgv : Gv ([36, 115, 104, 97, 114, 101, 47, 120, 47] ++ f) := by
    refine Gv.append ?_ hr
    repeat (first | exact .nil | refine .one _ _ (by decide) (by decide) ?_)
  have hfil : filterB ([36, 115, 104, 97, 114, 101, 47, 120, 47] ++ f) = true := by
    unfold filterB
    rw [hgv.right (by simp; omega), if_pos hsh, hc, hf]; rfl
  unfold matchB target
  rw [hfil, if_pos hsh, hc, hg.name h0 (by omega), hm, decide_eq_false hg.head]; rfl
theorem dollar_name {s : List UInt8} (hg : Gd s) (_ : s ≠ []) (hl : s.length ≤ 1000) : nameB (36 :: s) = true := by
  unfold nameB
  rw [(Gv.one 36 s (by decide) (by decide) hg.gv).right (by simp; omega), wild_no (by simp [hg.not 43 (by decide)]) (by simp [hg.not 35 (by decide)])]; rfl
theorem m_dollar {s : List UInt8} (_ : Gd s) (_ : s ≠ []) (_ : s.length ≤ 1000) (f : List UInt8) (h : wildB ((target f).take 1) = true) : matchB f (36 :: s) = false := by
  unfold matchB
  rw [h, show decide ((36 :: s).head? = some 36) = true by simp]
  simp
theorem m_dself {s : List UInt8} (hg : Gd s) (h0 : s ≠ []) (hl : s.length ≤ 1000) : matchB (36 :: s) (36 :: s) = true := by
  have hsh : sharedB (36 :: s) = false := by
    unfold sharedB shareP
    cases s with
    | nil => exact absurd rfl h0
    | cons c s =>
      have : c ≠ 115 := fun e => hg.not 115 (by decide) (by simp [e])
      show ((36 : UInt8) == 36 && ((115 : UInt8) == c && _)) = false
      rw [show ((115 : UInt8) == c) = false from beq_eq_false_iff_ne.2 (Ne.symm this)]; rfl
  have hp : plainL (lv (36 :: s)) = true := by
    rw [lv_cons 36 s (by decide)]
    refine plainL_of _ (fun x hx => .inr ?_)
    have := lv_ne s
    cases hv : lv s with
    | nil => exact absurd hv this
    | cons y t =>
      rw [hv] at hx
      rcases List.mem_cons.1 hx with rfl | hx
      · have hy := hg.levels y (by rw [hv]; simp)
        exact wild_no (by simp [hy.not 43 (by decide)]) (by simp [hy.not 35 (by decide)])
      · exact (hg.levels x (by rw [hv]; simp at hx; simp [hx])).wild
  have hf := filter_plain (by simp) ((Gv.one 36 s (by decide) (by decide) hg.gv).right (by simp; omega)) hsh hp
  unfold matchB target
  rw [hf, hsh, dollar_name hg h0 hl]
  simp only [Bool.false_eq_true, if_false]
  rw [matchL_self]
  simp [wildB]

/-! ### the law -/
theorem last_part (x0 x7 x8 : ByteArray) (L : List ByteArray) (κ : Int) (n : Nat) (_ : L.length ≤ n) (hg : Gd (dl x0)) (h0 : dl x0 ≠ []) (hz : x0.size ≤ 16) (hz7 : x7.size ≤ 1000) (hz8 : x8.size ≤ 1000) (k : Nat)
    (h7 : dl x7 = jn ((lv (dl x0)).set k [43])) (h8 : dl x8 = pre ((lv (dl x0)).take k)) (hnn : (n : Int) = (L.length : Int)) :
    Ev (fun j => pouchlaw04_TopicSelves.l0 j x0 L κ x7 x8 (n : Int)) true := by
  have hl : (dl x0).length ≤ 1000 := by rw [dl_size]; omega
  have s7 : (dl x7).length ≤ 60000 := by rw [dl_size]; omega
  have s8 : (dl x8).length ≤ 1000 := by rw [dl_size]; omega
  obtain ⟨q1, q2, q3⟩ := m_set hg h0 hl k (by rw [← h7]; omega)
  have q4 := m_hash hg h0 hl k (by rw [← h8]; simp; omega)
  have q5 := m_all hg h0 hl
  have hlv : lv (dl x7) = (lv (dl x0)).set k [43] := by
    obtain ⟨_, f2, _, f4⟩ := set_facts hg h0 hl k
    rw [h7]; exact lv_jn _ f4 f2
  have hgv : Gv (dl x7) := by
    obtain ⟨_, _, f3, _⟩ := set_facts hg h0 hl k
    rw [h7]; exact Gv.jn _ f3
  have q6 := m_share hg h0 hl (dl x7) (by rw [h7]; exact q2) hgv (by omega) (by rw [hlv]; exact matchL_set _ _)
  have q7 := m_dollar hg h0 hl [35] (by decide)
  have q8 := m_dollar hg h0 hl [43, 47, 35] (by decide)
  have q9 := m_dself hg h0 hl
  have q0 := m_self hg h0 hl
  refine Ev.step (fun j => by simp only [pouchlaw04_TopicSelves.l0]; rw [if_neg (by omega)]) ?_
  refine Ev.bind told_f ?_
  simp only [if_true]
  refine Ev.bind (match_f _ _) ?_
  rw [q0]
  simp only [if_true]
  refine Ev.bind (match_f _ _) ?_
  rw [h7, q3]
  simp only [if_true]
  simp only [show x8.size + 1 ≤ 9223372036854775807 by omega, if_true]
  refine Ev.bind (match_f _ _) ?_
  rw [show dl (x8 ++ (⟨#[35]⟩ : ByteArray)) = pre ((lv (dl x0)).take k) ++ [35] by rw [dl_append, h8], q4]
  simp only [if_true]
  simp only [show 9 + x7.size ≤ 9223372036854775807 by omega, if_true]
  refine Ev.bind (match_f _ _) ?_
  rw [show dl ((⟨#[36, 115, 104, 97, 114, 101, 47, 120, 47]⟩ : ByteArray) ++ x7) = [36, 115, 104, 97, 114, 101, 47, 120, 47] ++ dl x7 by rw [dl_append], q6]
  simp only [if_true]
  refine Ev.bind (match_f _ _) ?_
  rw [show dl (⟨#[35]⟩ : ByteArray) = [35] from rfl, q5]
  simp only [if_true]
  simp only [show 1 + x0.size ≤ 9223372036854775807 by omega, if_true]
  have hd : dl ((⟨#[36]⟩ : ByteArray) ++ x0) = 36 :: dl x0 := by rw [dl_append]; rfl
  refine Ev.bind (match_f _ _) ?_
  rw [hd, show dl (⟨#[35]⟩ : ByteArray) = [35] from rfl, q7]
  simp only [Bool.false_eq_true, if_false]
  refine Ev.bind (match_f _ _) ?_
  rw [hd, show dl (⟨#[43, 47, 35]⟩ : ByteArray) = [43, 47, 35] from rfl, q8]
  simp only [Bool.false_eq_true, if_false]
  refine Ev.bind (match_f _ _) ?_
  rw [hd, q9]
  exact Ev.now _
theorem pre_snoc (L : List (List UInt8)) (x : List UInt8) : pre (L ++ [x]) = pre L ++ x ++ [47] := by simp [pre]
theorem loop_part (x0 : ByteArray) (L : List ByteArray) (hL : L.map dl = lv (dl x0)) (hg : Gd (dl x0)) (h0 : dl x0 ≠ []) (hz : x0.size ≤ 16) (k : Nat) (hk : k < L.length) :
    ∀ (d i : Nat) (x7 x8 : ByteArray), i + d = L.length → dl x7 = jn (((lv (dl x0)).set k [43]).take i) → dl x8 = pre ((lv (dl x0)).take (min i k)) → x7.size ≤ 20 * i → x8.size ≤ 20 * i →
    Ev (fun j => pouchlaw04_TopicSelves.l0 j x0 L (k : Int) x7 x8 (i : Int)) true
  | 0, i, x7, x8, hd, h7, h8, z7, z8 => by
    have hlen := pieces_len hL
    have hn : L.length = (lv (dl x0)).length := by rw [← hL]; simp
    obtain rfl : i = L.length := by omega
    refine last_part x0 x7 x8 L (k : Int) L.length (Nat.le_refl _) hg h0 hz (by omega) (by omega) k ?_ ?_ rfl
    · rw [h7, List.take_of_length_le (by simp; omega)]
    · rw [h8, Nat.min_eq_right (by omega)]
  | d + 1, i, x7, x8, hd, h7, h8, z7, z8 => by
    have hlen := pieces_len hL
    have hn : L.length = (lv (dl x0)).length := by rw [← hL]; simp
    have hi : i < L.length := by omega
    have hi2 : i < (lv (dl x0)).length := by omega
    have hp := piece_size hL i hi
    have hr := rd_at L i hi
    have hpiece : dl L[i] = (lv (dl x0))[i] := by
      have : (L.map dl)[i]'(by simpa using hi) = (lv (dl x0))[i] := by congr 1
      simpa using this
    -- what joins: '+' in the place k, else the level
    have hj : ∀ x10 : ByteArray, dl x10 = (if i = k then [43] else (lv (dl x0))[i]) → x10.size ≤ 16 →
        Ev (fun j => pouchlaw04_TopicSelves.j1 j x0 L (k : Int) x7 x8 (i : Int) x10) true := fun x10 h10 z10 => by
      have h7' : ∀ y : ByteArray, dl y = (if i = 0 then dl x10 else dl x7 ++ 47 :: dl x10) → dl y = jn (((lv (dl x0)).set k [43]).take (i + 1)) := fun y hy => by
        rw [take_set _ _ _ hi2, hy, h10]
        by_cases hi0 : i = 0
        · subst hi0; rw [if_pos rfl]; rfl
        · rw [if_neg hi0, jn_snoc _ _ (by intro h; have := congrArg List.length h; rw [List.length_take, List.length_set, List.length_nil] at this; omega), h7]
      have key : ∀ y7 : ByteArray, dl y7 = (if i = 0 then dl x10 else dl x7 ++ 47 :: dl x10) → y7.size ≤ 20 * (i + 1) →
          (i < k → ∀ y8 : ByteArray, y8 = (x8 ++ L[i]) ++ (⟨#[47]⟩ : ByteArray) → Ev (fun j => pouchlaw04_TopicSelves.l0 j x0 L (k : Int) y7 y8 ((i + 1 : Nat) : Int)) true) ∧
          (¬ i < k → Ev (fun j => pouchlaw04_TopicSelves.l0 j x0 L (k : Int) y7 x8 ((i + 1 : Nat) : Int)) true) := fun y7 hy7 zy7 => by
        refine ⟨fun hik y8 hy8 => ?_, fun hik => ?_⟩
        · refine loop_part x0 L hL hg h0 hz k hk d (i + 1) y7 y8 (by omega) (h7' y7 hy7) ?_ zy7 ?_
          · rw [hy8, dl_append, dl_append, h8, hpiece, Nat.min_eq_left (by omega), Nat.min_eq_left (by omega), List.take_succ_eq_append_getElem hi2, pre_snoc]
          · rw [hy8, ByteArray.size_append, ByteArray.size_append]
            have : (⟨#[47]⟩ : ByteArray).size = 1 := rfl
            omega
        · refine loop_part x0 L hL hg h0 hz k hk d (i + 1) y7 x8 (by omega) (h7' y7 hy7) ?_ zy7 (by omega)
          rw [h8, Nat.min_eq_right (by omega), Nat.min_eq_right (by omega)]
      have s47 : (⟨#[47]⟩ : ByteArray).size = 1 := rfl
      by_cases hi0 : i = 0
      · obtain ⟨ka, kb⟩ := key (x7 ++ x10) (by rw [if_pos hi0, dl_append, h7]; subst hi0; rfl) (by rw [ByteArray.size_append]; omega)
        by_cases hik : i < k
        · refine Ev.step (fun j => ?_) (ka hik _ rfl)
          simp only [pouchlaw04_TopicSelves.j1]
          rw [hr, wrap_nat i (by omega), if_neg (by omega), if_pos (by omega), if_pos (by omega), if_pos (by omega), if_pos (by omega), if_pos (by omega), if_pos (by rw [ByteArray.size_append]; omega)]
        · refine Ev.step (fun j => ?_) (kb hik)
          simp only [pouchlaw04_TopicSelves.j1]
          rw [wrap_nat i (by omega), if_neg (by omega), if_pos (by omega), if_neg (by omega)]
      · obtain ⟨ka, kb⟩ := key ((x7 ++ (⟨#[47]⟩ : ByteArray)) ++ x10) (by rw [if_neg hi0, dl_append, dl_append, show dl (⟨#[47]⟩ : ByteArray) = [47] from rfl]; simp) (by rw [ByteArray.size_append, ByteArray.size_append]; omega)
        by_cases hik : i < k
        · refine Ev.step (fun j => ?_) (ka hik _ rfl)
          simp only [pouchlaw04_TopicSelves.j1]
          rw [hr, wrap_nat i (by omega), if_pos (by omega), if_pos (by omega), if_pos (by rw [ByteArray.size_append]; omega), if_pos (by omega), if_pos (by omega), if_pos (by omega), if_pos (by omega), if_pos (by rw [ByteArray.size_append]; omega)]
        · refine Ev.step (fun j => ?_) (kb hik)
          simp only [pouchlaw04_TopicSelves.j1]
          rw [wrap_nat i (by omega), if_pos (by omega), if_pos (by omega), if_pos (by rw [ByteArray.size_append]; omega), if_neg (by omega)]
    by_cases hik : i = k
    · refine Ev.step (fun j => ?_) (hj (⟨#[43]⟩ : ByteArray) (by rw [if_pos hik]) (by decide))
      simp only [pouchlaw04_TopicSelves.l0]
      rw [if_pos (by omega), if_pos (by omega), if_pos (by omega)]
    · refine Ev.step (fun j => ?_) (hj L[i] (by rw [if_neg hik, hpiece]) (by omega))
      simp only [pouchlaw04_TopicSelves.l0]
      rw [if_pos (by omega), if_pos (by omega), if_neg (by omega), hr]
theorem u64_range (a : Int) : 0 ≤ IntKind.u64.wrap a ∧ IntKind.u64.wrap a < 18446744073709551616 := by
  unfold IntKind.wrap
  simp [IntKind.bits, IntKind.signed]
  omega
theorem TopicSelves (a0 : ByteArray) (a1 : Int) (_ : a0.size ≤ 140737488351232) (_ : (Lit.int .i64 a1).wf = true) : ∃ k, pouchlaw04_TopicSelves.f k a0 a1 = some true := by
  refine Ev.rounds (g := fun k => pouchlaw04_TopicSelves.f k a0 a1) ?_
  unfold pouchlaw04_TopicSelves.f
  obtain ⟨s, hs, hg, h0, hz⟩ := fix_f a0
  obtain ⟨L, hLe, hL⟩ := levels_f s (by omega)
  refine Ev.bind hs (Ev.bind hLe ?_)
  have hlen := pieces_len hL
  have hn : L.length = (lv (dl s)).length := by rw [← hL]; simp
  have hpos : 0 < L.length := by
    rw [hn]
    exact List.length_pos_iff.2 (lv_ne _)
  have hw : IntKind.u64.wrap (L.length : Int) = (L.length : Int) := by
    unfold IntKind.wrap
    simp [IntKind.bits, IntKind.signed]
    omega
  obtain ⟨r0, r1⟩ := u64_range a1
  simp only [hw]
  simp only [show ¬ ((L.length : Int) = 0) by omega, if_false]
  obtain ⟨κ, hκ⟩ : ∃ κ : Nat, (Int.tmod (IntKind.u64.wrap a1) (L.length : Int)) = (κ : Int) ∧ κ < L.length := by
    refine ⟨((IntKind.u64.wrap a1) % (L.length : Int)).toNat, ?_, ?_⟩
    · rw [Int.tmod_eq_emod_of_nonneg r0]
      have := Int.emod_nonneg (IntKind.u64.wrap a1) (show (L.length : Int) ≠ 0 by omega)
      omega
    · have := Int.emod_lt_of_pos (IntKind.u64.wrap a1) (show (0 : Int) < (L.length : Int) by omega)
      have := Int.emod_nonneg (IntKind.u64.wrap a1) (show (L.length : Int) ≠ 0 by omega)
      omega
  rw [hκ.1, show wrap64 (κ : Int) = (κ : Int) by unfold wrap64; omega]
  exact loop_part s L hL hg h0 hz κ hκ.2 L.length 0 (⟨#[]⟩ : ByteArray) (⟨#[]⟩ : ByteArray) (by omega) (by simp [jn]) (by simp [pre]) (by decide) (by decide)
end Go.Proofs.YtbaipppmefencaaDoor.Pure
