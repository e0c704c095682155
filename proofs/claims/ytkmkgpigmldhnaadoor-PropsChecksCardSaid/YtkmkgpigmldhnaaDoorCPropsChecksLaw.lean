/- The law PropsChecks of the given program returns true at every input, and leaves its arguments as they were. Condition: the two listed tables of unicode/utf8 hold what the program's text lays in them (the card ties it). -/
import Derived.Below
import Derived.ChangeOld
import Derived.OpenShut
import Derived.ProofKit
import Derived.SevenTiedAt
import Derived.ShutString
import Derived.SizedLaws
import Derived.Test.YtkmkgpigmldhnaaDoorCards
import Derived.Test.YtkmkgpigmldhnaaDoorRows
import Derived.Test.YtkmkgpigmldhnaaDoorTie
import Derived.WalkKit
import Derived.Test.YtkmkgpigmldhnaaDoorCPropsChecks0
import Derived.Test.YtkmkgpigmldhnaaDoorCPropsChecks1
import Derived.Test.YtkmkgpigmldhnaaDoorCPropsChecks2
import Derived.Test.YtkmkgpigmldhnaaDoorCPropsChecks3
import Derived.Test.YtkmkgpigmldhnaaDoorCPropsChecks4
import Derived.Test.YtkmkgpigmldhnaaDoorCPropsChecks5
import Derived.Test.YtkmkgpigmldhnaaDoorCPropsChecks6
namespace Go.Proofs.YtkmkgpigmldhnaaDoor.propsChecks
open Go.ChangeShapes Go.WideShapes Go.ChangeAt Go.RowKit Go.Lib Go.Shelf
open Go.ChangeMaps (open_string shut_string)
set_option linter.unusedVariables false
open Go.Proofs.YtkmkgpigmldhnaaDoorW.PrintWords
theorem laidOut : laidOutB Tryd.prog = true := by kernel_rfl
def IsRow (k : IntKind) (w : World) (a : Option Addr) (len cap : Nat) (zs : List Int) : Prop :=
  (a = none ∧ len = 0 ∧ cap = 0 ∧ zs = []) ∨
  ∃ x, a = some x ∧ len ≤ cap ∧ cap ≤ maxLen ∧ zs.length = cap ∧ (∀ i, i < zs.length → w.cell? (x.add i) = some (.int k (zs.getD i 0))) ∧ ∀ n ∈ zs, (Lit.int k n).wf = true
/-- One input that fits. -/
theorem witness_row (os : Os) {H : Type} (enc : TypeId × Value → H) :
    (OpenSpec.ofChange Rows.propsChecksSpec).preRow enc Tryd.prog Tryd.f7 Rows.propsChecksRow.domain false Rows.propsChecksRow.laid ((Row.laidWorld os).forCall (fun _ _ => 0) ⟨#[], #[.int .i64 0, .slice none 0 0, .int .u8 0], []⟩).memory #[.int .i64 0, .slice none 0 0, .int .u8 0] := by
  have hw : (DataW.whole enc Tryd.prog ((Row.laidWorld os).forCall (fun _ _ => 0) ⟨#[], #[.int .i64 0, .slice none 0 0, .int .u8 0], []⟩).memory Tryd.f7.params.toList (OpenSpec.ofChange Rows.propsChecksSpec).vars false (#[.int .i64 0, .slice none 0 0, .int .u8 0] : Array Value).toList 8).map (fun x => (x.1, x.2.1)) =
      some ([.lit (.int .i64 0), .nil, .lit (.int .u8 0)], []) := by kernel_rfl
  obtain ⟨⟨x1, x2, x3⟩, hx, hx1⟩ := Option.map_eq_some_iff.1 hw
  simp only [Prod.mk.injEq] at hx1
  obtain ⟨rfl, rfl⟩ := hx1
  exact OpenSpec.preRow_of_cond 8 hx (by kernel_rfl) (fun k hk => by cases hk) (by kernel_rfl) (Row.laid_met os _)
set_option maxRecDepth 100000 in
set_option maxHeartbeats 2000000 in
theorem lifted (os : Os) (started : os.Started) (H : Type) (enc : TypeId × Value → H) (F : Stop.Interp) :
    ReturnsInHanded {} Tryd.checked os 7 .any ((OpenSpec.ofChange Rows.propsChecksSpec).preRow enc Tryd.prog Tryd.f7 Rows.propsChecksRow.domain false Rows.propsChecksRow.laid) (((OpenSpec.ofChange Rows.propsChecksSpec).at F).post enc Tryd.prog Tryd.f7 false true false false) := by
  refine returnsInHanded_of_row (C := Tryd.checked) (s := (OpenSpec.ofChange Rows.propsChecksSpec)) Row.own started (by kernel_rfl) Tryd.func7
    (witness_row_atRef (enc := enc) (C := Tryd.checked) false (Row.laidWorld os) #[.int .i64 0, .slice none 0 0, .int .u8 0] rfl (by kernel_rfl) (by kernel_rfl) (by kernel_rfl) (witness_row os enc)) ?_
  intro W base args ds gs before hval0 hW _ _ hsz0 hL hS _
  have hG := Row.gw_of hL hS
  clear hL hS
  have hsz : (DataW.weightsEach Tryd.prog (Tryd.f7.params.toList ++ (OpenSpec.ofChange Rows.propsChecksSpec).bare.plain.varTypes Tryd.prog) (ds ++ gs)).all (· ≤ reachBytes) = true := hsz0
  have hval : ∀ (j : Nat) t v, Tryd.f7.params[j]? = some t → args[j]? = some v → Value.okWide Tryd.prog W .any base t v := hval0
  have hW' := hW
  obtain ⟨p, q, hA0, hV, rfl, _, _⟩ := hW
  have hA : DataW.TrodAll enc Tryd.prog W 0 (fun _ => true) true Tryd.f7.params.toList args.toList ds p := hA0
  rw [Tryd.params7] at hA hval hsz
  obtain ⟨v0, vs0, d0, ds0, p0, q0, hargs, rfl, rfl, h0, r0⟩ := trodAll_cons hA
  obtain ⟨v1, vs1, d1, ds1, p1, q1, rfl, rfl, rfl, h1, r1⟩ := trodAll_cons r0
  obtain ⟨v2, vs2, d2, ds2, p2, q2, rfl, rfl, rfl, h2, r2⟩ := trodAll_cons r1
  obtain ⟨rfl, rfl, rfl⟩ := trodAll_nil r2
  obtain rfl : args = #[v0, v1, v2] := by cases args; simp_all
  obtain ⟨rfl, rfl⟩ := trodVars_none hV
  obtain ⟨a0, rfl, rfl, rfl, w0⟩ := open_int Tryd.underlying3 (hval 0 3 v0 rfl rfl) h0
  obtain ⟨a1, len1, cap1, rfl⟩ := okWide_slice Tryd.underlying22 (hval 1 22 v1 rfl rfl)
  have k1 := h1
  have lt1 : ∀ x ∈ p1, x.block < W.heap.size := by obtain ⟨m, hm⟩ := k1; exact DataW.trod_lt m _ _ _ hm
  obtain ⟨l1, rfl, hc1, hr1, y1, hp1⟩ := P.open_props hsz (j := 1) rfl rfl h1
  obtain ⟨a2, rfl, rfl, rfl, w2⟩ := open_int Tryd.underlying5 (hval 2 5 v2 rfl rfl) h2
  clear hA0 hval0 hsz0 hsz
  obtain ⟨k, hk⟩ := Pure.PropsChecks a0 l1 a2 w0 y1 hp1 w2
  refine (P.pouchlaw06_PropsChecks.calls0 k a0 _ _ l1 a2 true W hr1 hc1 hG rfl hk).mono ?_
  rintro e W' ⟨rfl, bel⟩
  exact ⟨_, rfl, _, _, _, [], _, [], hW', trodAll_mk1 (shut_bool Tryd.underlying4 _), (trodAll_cons_mk (shut_int Tryd.underlying3 w0) (trodAll_cons_mk (Below.trod laidOut (by kernel_rfl) (of_decide_eq_true (by kernel_rfl)) k1 bel lt1) (trodAll_cons_mk (shut_int Tryd.underlying5 w2) trodAll_mk0))), rfl, bel.frame _, fun h => by cases h⟩
theorem over : Rows.PropsChecksSaid :=
  OpenClaim.holds_of_cond 7 Tryd.f7 rfl rfl rfl rfl rfl rfl rfl ⟨rfl, rfl, rfl, rfl, rfl⟩ rfl rfl rfl rfl rfl (by kernel_rfl) Tryd.func7 (by kernel_rfl)
    (of_decide_eq_true (by kernel_rfl)) (by unfold Func.isWrapper; rw [if_neg (of_decide_eq_false (by kernel_rfl))]; exact ⟨rfl, rfl⟩)
    (fun os started H enc _ F0 => by rw [OpenClaim.pre_eq_preRow]; exact lifted os started H enc F0)
theorem card : Rows.PropsChecksCardSaid :=
  Claim7.holds_tied_plain_at .later [] [.data, .pinned] true (true, "1fc63ec3e48d14704e3571bc238f28d2a16390d8f95b205a1cf836fbb7346d2f") false
    over (fun _ h => by cases h) (by kernel_rfl) (fun _ h => by cases h) propsChecks_row_tie rfl ⟨rfl, rfl⟩ (by kernel_rfl) rfl
    (fun f fn hf hfn => by
      obtain rfl : f = 7 := Option.some.inj ((show Tryd.prog.funcNamed "pouch/pouchlaw06.PropsChecks" = some 7 by kernel_rfl).symm.trans hf) |>.symm
      obtain rfl : fn = Tryd.f7 := (Option.some.inj (Tryd.func7.symm.trans hfn)).symm
      exact ⟨by kernel_rfl, fun j t ht => by
        rw [Tryd.params7] at ht
        rcases j with _ | j
        · have h3 : 3 = t := by simpa using ht
          subst h3
          exact (show Tryd.prog.wantsStandIn 3 = false by kernel_rfl)
        rcases j with _ | j
        · have h3 : 22 = t := by simpa using ht
          subst h3
          exact (show Tryd.prog.wantsStandIn 22 = false by kernel_rfl)
        rcases j with _ | j
        · have h3 : 5 = t := by simpa using ht
          subst h3
          exact (show Tryd.prog.wantsStandIn 5 = false by kernel_rfl)
        · simp at ht⟩)
    (by kernel_rfl)
#print axioms card
end Go.Proofs.YtkmkgpigmldhnaaDoor.propsChecks
namespace Go.Proofs.YtkmkgpigmldhnaaDoor
/-- The tied card of PropsChecks. -/
theorem propsChecks_card_holds : Rows.PropsChecksCardSaid := propsChecks.card
end Go.Proofs.YtkmkgpigmldhnaaDoor
