import Derived.Deep.Slices
import Derived.KernelRfl
import Derived.Lib.SmallJoins
import Derived.SizedLaws
import Derived.Test.YtkmkgpigmldhnaaDoorCPropsChecks0
import Derived.Test.YtkmkgpigmldhnaaDoorCPropsChecks1
import Derived.Test.YtkmkgpigmldhnaaDoorCPropsChecks2
import Derived.Test.YtkmkgpigmldhnaaDoorCPropsChecks3
import Derived.Test.YtkmkgpigmldhnaaDoorCPropsChecks4
import Derived.Test.YtkmkgpigmldhnaaDoorCPropsChecks5
set_option linter.unusedVariables false
set_option linter.unusedSimpArgs false
set_option maxHeartbeats 8000000
set_option maxRecDepth 100000
namespace Go.Proofs.YtkmkgpigmldhnaaDoor.P
open Go Go.RowKit Go.Deep Go.Lib Go.Joins Go.ChangeShapes Go.WideShapes Go.Proofs.YtkmkgpigmldhnaaDoorW.PrintWords
theorem list4 {α : Type} {cs : List α} (h : cs.length = 4) : ∃ c0 c1 c2 c3, cs = [c0, c1, c2, c3] := by
 match cs, h with
 | [c0, c1, c2, c3], _ => exact ⟨c0, c1, c2, c3, rfl⟩
instance instOP : Inhabited S58 := ⟨z58⟩
def PropOk (p : S58) : Prop := (0 ≤ p.f0 ∧ p.f0 < 256) ∧ (0 ≤ p.f1 ∧ p.f1 < 4294967296) ∧ p.f2.size ≤ maxLen ∧ p.f3.size ≤ maxLen
theorem cellsP : Tryd.prog.cellsOf 58 = 4 := by kernel_rfl
theorem bytesP : Tryd.prog.bytesOf 58 = 40 := by kernel_rfl
section
variable {H : Type} {enc : TypeId × Value → H} {W : World} {base : Nat} {sp : Nat → Bool} {held : Bool}
theorem open_prop {n : Nat} {cs : List Value} {y : DataW H × List MemPlace} (h : DataW.trod enc Tryd.prog W base sp held n 58 cs = some y) :
  ∃ p : S58, PropOk p ∧ cs = [.int .u8 p.f0, .int .u32 p.f1, .string p.f2, .string p.f3] := by
 obtain ⟨y0, y1, y2, y3, k, _, hl, g0, g1, g2, g3⟩ := trod_struct4 Tryd.underlying58 h
 rw [cellsP] at hl
 obtain ⟨v0, v1, v2, v3, rfl⟩ := list4 hl
 obtain ⟨n0, e0, _, w0⟩ := DataW.trod_int (k := .u8) (by kernel_rfl) g0
 obtain ⟨n1, e1, _, w1⟩ := DataW.trod_int (k := .u32) (by kernel_rfl) g1
 obtain ⟨s2, e2, _, w2⟩ := DataW.trod_string (by kernel_rfl) g2
 obtain ⟨s3, e3, _, w3⟩ := DataW.trod_string (by kernel_rfl) g3
 have c0 : [v0] = [Value.int .u8 n0] := by
  rw [show Tryd.prog.cellsOf _ = 1 from (show Tryd.prog.cellsOf 5 = 1 by kernel_rfl)] at e0
  exact e0
 have c1 : [v1] = [Value.int .u32 n1] := by
  rw [show Tryd.prog.cellsOf _ = 1 from (show Tryd.prog.cellsOf 56 = 1 by kernel_rfl)] at e1
  exact e1
 have c2 : [v2] = [Value.string s2] := by
  rw [show Tryd.prog.cellsOf _ = 1 from (show Tryd.prog.cellsOf 9 = 1 by kernel_rfl)] at e2
  exact e2
 have c3 : [v3] = [Value.string s3] := by
  rw [show Tryd.prog.cellsOf _ = 1 from (show Tryd.prog.cellsOf 9 = 1 by kernel_rfl)] at e3
  exact e3
 simp only [List.cons.injEq, and_true] at c0 c1 c2 c3
 subst c0 c1 c2 c3
 rw [Lit.wf, Bool.and_eq_true, decide_eq_true_eq, decide_eq_true_eq] at w0 w1
 rw [show IntKind.u8.min = 0 from rfl, show IntKind.u8.max = 255 by decide] at w0
 rw [show IntKind.u32.min = 0 from rfl, show IntKind.u32.max = 4294967295 by decide] at w1
 exact ⟨⟨n0, n1, s2, s3⟩, ⟨⟨w0.1, show n0 < 256 by omega⟩, ⟨w1.1, show n1 < 4294967296 by omega⟩, w2, w3⟩, rfl⟩
theorem open_props {a : Option Addr} {len cap : Nat} {d : DataW H} {ps : List MemPlace} {ts : List TypeId} {ds : List (DataW H)} {j : Nat}
  (hsz : (DataW.weightsEach Tryd.prog ts ds).all (· ≤ reachBytes) = true) (ht : ts[j]? = some 22) (hd : ds[j]? = some d)
  (h : DataW.Trod enc Tryd.prog W base sp held 22 (.slice a len cap) d ps) :
  ∃ l : List S58, len = l.length ∧ len ≤ cap ∧ Kd.C k58 W a l.length l ∧ l.length * 40 ≤ 140737488351232 ∧ ∀ p ∈ l, PropOk p := by
 obtain ⟨fuel, hf⟩ := h
 rcases open_slice Tryd.underlying22 hf with ⟨hcs, hx⟩ | ⟨x, l, c, m, n, D, Pl, hcs, hb, hl, hm, hmm, hx, hcell⟩
 ·simp [Value.cells] at hcs
  obtain ⟨rfl, rfl, rfl⟩ := hcs
  exact ⟨[], rfl, Nat.le_refl _, Kd.C_nil _ _, by decide, by simp⟩
 ·simp [Value.cells] at hcs
  obtain ⟨rfl, rfl, rfl⟩ := hcs
  have hlm : len ≤ m := by rw [hmm]; split <;> omega
  obtain ⟨hx1, _⟩ := Prod.mk.inj hx
  subst hx1
  have z := sized_slice hsz ht hd Tryd.underlying22
  rw [bytesP, List.length_map, List.length_range] at z
  have z2 : len * 40 ≤ 140737488351232 := Nat.le_trans (Nat.mul_le_mul_right _ (Nat.le_add_right _ _)) z
  have each : ∀ i, i < len → ∃ p : S58, PropOk p ∧ ∀ j u, ([.int .u8 p.f0, .int .u32 p.f1, .string p.f2, .string p.f3] : List Value)[j]? = some u → W.cell? (x.add (i * 4 + j)) = some u := by
   intro i hi
   obtain ⟨cs', h1, h2⟩ := hcell i (by omega)
   rw [cellsP] at h1
   obtain ⟨_, hlen, hc⟩ := World.cells?_some h1
   obtain ⟨p, hp, rfl⟩ := open_prop h2
   refine ⟨p, hp, fun j u hu => ?_⟩
   have hj : j < 4 := by have := (List.getElem?_eq_some_iff.1 hu).1; simpa using this
   have := hc j hj
   rw [Go.Deep.add_add] at this
   rw [this]; exact hu
  obtain ⟨f, hff⟩ := choose_lt each
  refine ⟨(List.range len).map f, by simp, hl, ⟨rfl, by simp; omega, fun _ => ⟨x, rfl, fun j p hp => ⟨_, rfl, k58_mk W p, fun i u hu => ?_⟩⟩⟩, by simpa using z2, fun p hp => ?_⟩
  ·obtain ⟨h1, h2⟩ := List.getElem?_eq_some_iff.1 hp
   rw [List.getElem_map, List.getElem_range] at h2
   subst h2
   exact (hff j (by simpa using h1)).2 i u hu
  ·obtain ⟨i, hi, rfl⟩ := List.mem_map.1 hp
   exact (hff i (List.mem_range.1 hi)).1
end
end Go.Proofs.YtkmkgpigmldhnaaDoor.P
namespace Go.Proofs.YtkmkgpigmldhnaaDoor.Pure
open Go Go.RowKit Go.Lib Go.Proofs.YtkmkgpigmldhnaaDoorW.PrintWords Go.Proofs.YtkmkgpigmldhnaaDoorW.PrintLast Go.Proofs.YtkmkgpigmldhnaaDoorW.PrintMore
open Go.Proofs.YtkmkgpigmldhnaaDoor.P Go.Proofs.YtkmkgpigmldhnaaDoor.Pr
theorem PropsChecks (a0 : Int) (l1 : List S58) (a2 : Int) (_h0 : (Lit.int .i64 a0).wf = true) (hy : l1.length * 40 ≤ 140737488351232) (hp : ∀ p ∈ l1, PropOk p) (_hw : (Lit.int .u8 a2).wf = true) : ∃ k, pouchlaw06_PropsChecks.f k a0 l1 a2 = some true := by
 refine Ev.rounds ?_
 have hw : WfR l1 := fun p h => (hp p h).1
 obtain ⟨b, hb, hbt⟩ := few_ev l1 (by omega)
 unfold pouchlaw06_PropsChecks.f
 refine Ev.bind hb ?_
 cases b
 ·exact Ev.congr (fun k => if_neg (by decide)) (Ev.bind told_ev (Ev.now _))
 have hl : l1.length ≤ 30 := (hbt rfl).1
 have hsl := srt_len l1
 refine Ev.congr (fun k => if_pos rfl) (Ev.bind (to_ev l1 (by omega)) (Ev.bind (now fun _ => get_prog l1 a2 (by omega)) (Ev.bind (get_ref l1 a2 (by omega)) (Ev.bind (now fun _ => sort_prog l1 (by omega)) (Ev.bind told_ev (Ev.congr (fun k => if_pos rfl) (Ev.bind (check_prog a0 l1) (Ev.bind (check_ref a0 l1 hw) ?_))))))))
 refine Ev.congr (fun k => if_pos (by simp)) (Ev.congr (fun k => if_pos (by simp)) (Ev.bind (now fun _ => rfl) (Ev.congr (fun k => if_pos (by simp)) ?_)))
 have h1 := from_ev ((Srt.srt keyR l1).map toS) (by rw [List.length_map, hsl]; omega)
 rw [map_fr_to] at h1
 have h2 := from_ev (l1.map toS) (by rw [List.length_map]; omega)
 rw [map_fr_to] at h2
 have h3 := sort_ref l1 (by omega)
 have h4 := same_ref (Srt.srt keyR l1) (Srt.srt keyR l1) (by omega)
 rw [sameR_refl] at h4
 have h5 := same_ref l1 l1 (by omega)
 rw [sameR_refl] at h5
 refine Ev.bind h1 (Ev.bind h3 (Ev.bind h4 (Ev.congr (fun k => if_pos rfl) (Ev.bind (same_prog l1 (Srt.srt keyR l1) (by omega)) (Ev.bind h3 (Ev.bind (same_ref l1 (Srt.srt keyR l1) (by omega)) (Ev.congr (fun k => if_pos (by simp)) (Ev.bind h2 (Ev.bind h5 (Ev.now _))))))))))
end Go.Proofs.YtkmkgpigmldhnaaDoor.Pure
