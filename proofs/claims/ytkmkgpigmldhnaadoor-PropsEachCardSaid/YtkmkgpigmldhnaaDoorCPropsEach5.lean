import Derived.Lib.EndianBits
import Derived.Lib.IndexAny
import Derived.Lib.IndexMore
import Derived.Lib.SplitLaws
import Derived.Lib.ValidLaws
import Derived.Lib.Varint
import Derived.Test.YtkmkgpigmldhnaaDoorCPropsEach0
import Derived.Test.YtkmkgpigmldhnaaDoorCPropsEach1
import Derived.Test.YtkmkgpigmldhnaaDoorCPropsEach2
import Derived.Test.YtkmkgpigmldhnaaDoorCPropsEach3
import Derived.Test.YtkmkgpigmldhnaaDoorCPropsEach4
namespace Go.Proofs.YtkmkgpigmldhnaaDoor.P
open Go.RowKit Go.Proofs.YtkmkgpigmldhnaaDoorW.PrintWords Go.Proofs.YtkmkgpigmldhnaaDoorW.PrintLast Go.Proofs.YtkmkgpigmldhnaaDoorW.PrintMore
attribute [local go_sem] max2_int min2_int max_two min_two max_three min_three max_four min_four
set_option linter.unusedVariables false
set_option linter.unusedSimpArgs false
mutual
def pouchref06_Next.j1 : Nat → ByteArray → Int → Int → Int → Int → ByteArray → ByteArray → Option (Int × Int × ByteArray × ByteArray × Int)
  | 0, _, _, _, _, _, _, _ => none
  | k + 1, x103000, x103001, x103002, x108000, x108001, x108002, x108003 => if x103002 = 0 then ((pouchref05_Right.f k x108000 x108001 x108002 x108003).bind fun t137 => (if t137 = true then (some (x108000, x108001, x108002, x108003, x103001)) else (some (0, 0, (⟨#[]⟩ : ByteArray), (⟨#[]⟩ : ByteArray), 0)))) else (some (0, 0, (⟨#[]⟩ : ByteArray), (⟨#[]⟩ : ByteArray), 0))
def pouchref06_Next.j0 : Nat → Int → Bool → ByteArray → Int → Int → Int → Int → ByteArray → ByteArray → Option (Int × Int × ByteArray × ByteArray × Int)
  | 0, _, _, _, _, _, _, _, _, _ => none
  | k + 1, x15, x42, x103000, x103001, x103002, x108000, x108001, x108002, x108003 => if x42 = true then ((pouchref01_Reader_Bin.f k x103000 x103001 x103002).bind fun bt125 => (pouchref06_Next.j1 k bt125.2.1 bt125.2.2.1 bt125.2.2.2 x108000 x108001 bt125.1 x108003)) else (if x15 = 7 then ((pouchref01_Reader_Bin.f k x103000 x103001 x103002).bind fun bt129 => ((pouchref01_Reader_Bin.f k bt129.2.1 bt129.2.2.1 bt129.2.2.2).bind fun bt133 => (pouchref06_Next.j1 k bt133.2.1 bt133.2.2.1 bt133.2.2.2 x108000 x108001 bt129.1 bt133.1))) else (pouchref06_Next.j1 k x103000 x103001 x103002 x108000 x108001 x108002 x108003))
end
def pouchref06_Next.f (k : Nat) (a0 : ByteArray) : Option (Int × Int × ByteArray × ByteArray × Int) := (pouchref01_Reader_Num.f k a0 0 0 1).bind fun bt103 => ((pouchref05_Type.f k ((bt103.1) % 256)).bind fun t108 => (if t108 = 0 then (some (0, 0, (⟨#[]⟩ : ByteArray), (⟨#[]⟩ : ByteArray), 0)) else (if t108 = 1 then ((pouchref01_Reader_Num.f k bt103.2.1 bt103.2.2.1 bt103.2.2.2 1).bind fun bt109 => (pouchref06_Next.j1 k bt109.2.1 bt109.2.2.1 bt109.2.2.2 ((bt103.1) % 256) ((bt109.1) % 4294967296) (⟨#[]⟩ : ByteArray) (⟨#[]⟩ : ByteArray))) else (if t108 = 2 then ((pouchref01_Reader_Num.f k bt103.2.1 bt103.2.2.1 bt103.2.2.2 2).bind fun bt113 => (pouchref06_Next.j1 k bt113.2.1 bt113.2.2.1 bt113.2.2.2 ((bt103.1) % 256) ((bt113.1) % 4294967296) (⟨#[]⟩ : ByteArray) (⟨#[]⟩ : ByteArray))) else (if t108 = 3 then ((pouchref01_Reader_Num.f k bt103.2.1 bt103.2.2.1 bt103.2.2.2 4).bind fun bt117 => (pouchref06_Next.j1 k bt117.2.1 bt117.2.2.1 bt117.2.2.2 ((bt103.1) % 256) ((bt117.1) % 4294967296) (⟨#[]⟩ : ByteArray) (⟨#[]⟩ : ByteArray))) else (if t108 = 4 then ((pouchref01_Reader_Var.f k bt103.2.1 bt103.2.2.1 bt103.2.2.2).bind fun bt121 => (pouchref06_Next.j1 k bt121.2.1 bt121.2.2.1 bt121.2.2.2 ((bt103.1) % 256) bt121.1 (⟨#[]⟩ : ByteArray) (⟨#[]⟩ : ByteArray))) else (if t108 = 5 then (pouchref06_Next.j0 k t108 (t108 == 5) bt103.2.1 bt103.2.2.1 bt103.2.2.2 ((bt103.1) % 256) 0 (⟨#[]⟩ : ByteArray) (⟨#[]⟩ : ByteArray)) else (pouchref06_Next.j0 k t108 (t108 == 6) bt103.2.1 bt103.2.2.1 bt103.2.2.2 ((bt103.1) % 256) 0 (⟨#[]⟩ : ByteArray) (⟨#[]⟩ : ByteArray)))))))))
theorem z49m0 {p : Prop} (h : p := by
 repeat' first
 | (with_reducible exact ih0 _ _ _ _ _ _ _)
 | (with_reducible exact ih1 _ _ _ _ _ _ _ _ _)
 | (with_reducible exact pouchref01_Reader_Bin.mono _ _ _ _)
 | (with_reducible exact pouchref01_Reader_Num.mono _ _ _ _ _)
 | (with_reducible exact pouchref01_Reader_Var.mono _ _ _ _)
 | (with_reducible exact pouchref05_Right.mono _ _ _ _ _)
 | (with_reducible exact pouchref05_Type.mono _ _)
 | (with_reducible exact LeO.refl _)
 | (with_reducible exact LeO.none _)
 | (with_reducible refine LeO.ite ?_ ?_)
 | (with_reducible refine LeO.bind ?_ (fun _ => ?_))
 | exact ih0 _ _ _ _ _ _ _
 | exact ih1 _ _ _ _ _ _ _ _ _
 | exact pouchref01_Reader_Bin.mono _ _ _ _
 | exact pouchref01_Reader_Num.mono _ _ _ _ _
 | exact pouchref01_Reader_Var.mono _ _ _ _
 | exact pouchref05_Right.mono _ _ _ _ _
 | exact pouchref05_Type.mono _ _
 | exact LeO.none _
 | refine LeO.ite ?_ ?_
 | refine LeO.bind ?_ (fun _ => ?_)) : p := h
theorem pouchref06_Next.mono_l : ∀ k, (∀ y0 y1 y2 y3 y4 y5 y6, LeO (pouchref06_Next.j1 k y0 y1 y2 y3 y4 y5 y6) (pouchref06_Next.j1 (k + 1) y0 y1 y2 y3 y4 y5 y6)) ∧ (∀ y0 y1 y2 y3 y4 y5 y6 y7 y8, LeO (pouchref06_Next.j0 k y0 y1 y2 y3 y4 y5 y6 y7 y8) (pouchref06_Next.j0 (k + 1) y0 y1 y2 y3 y4 y5 y6 y7 y8))
  | 0 => ⟨fun _ _ _ _ _ _ _ r h => by simp [pouchref06_Next.j1] at h, fun _ _ _ _ _ _ _ _ _ r h => by simp [pouchref06_Next.j0] at h⟩
  | k + 1 => by
    obtain ⟨ih0, ih1⟩ := pouchref06_Next.mono_l k
    refine ⟨?_, ?_⟩
    · intro y0 y1 y2 y3 y4 y5 y6
      unfold pouchref06_Next.j1
      exact z49m0
    · intro y0 y1 y2 y3 y4 y5 y6 y7 y8
      unfold pouchref06_Next.j0
      exact z49m0
theorem pouchref06_Next.mono : ∀ a0 k, LeO (pouchref06_Next.f k a0) (pouchref06_Next.f (k + 1) a0) := by
  intro a0 k
  obtain ⟨ih0, ih1⟩ := pouchref06_Next.mono_l k
  unfold pouchref06_Next.f
  exact z49m0
theorem z49z0 {p : Prop} (h : p := by (with_reducible repeat (first | refine blk_drewN ?_ _ | refine blk_drew ?_ | refine blk_alloc ?_ _)); refine blk_put (cs := #[.int .u8 ((t103) % 256), .int .u32 0, .string (⟨#[]⟩ : ByteArray), .string (⟨#[]⟩ : ByteArray)]) ?_ 3 _ rfl; (with_reducible repeat (first | refine blk_drewN ?_ _ | refine blk_drew ?_ | refine blk_alloc ?_ _)); refine blk_put (cs := #[.int .u8 ((t103) % 256), .int .u32 0, .string (⟨#[]⟩ : ByteArray), .string (⟨#[]⟩ : ByteArray)]) ?_ 2 _ rfl; (with_reducible repeat (first | refine blk_drewN ?_ _ | refine blk_drew ?_ | refine blk_alloc ?_ _)); refine blk_put (cs := #[.int .u8 ((t103) % 256), .int .u32 0, .string (⟨#[]⟩ : ByteArray), .string (⟨#[]⟩ : ByteArray)]) ?_ 1 _ rfl; (with_reducible repeat (first | refine blk_drewN ?_ _ | refine blk_drew ?_ | refine blk_alloc ?_ _)); refine blk_put (cs := #[.int .u8 0, .int .u32 0, .string (⟨#[]⟩ : ByteArray), .string (⟨#[]⟩ : ByteArray)]) ?_ 0 _ rfl; (with_reducible repeat (first | refine blk_drewN ?_ _ | refine blk_drew ?_ | refine blk_alloc ?_ _)); exact BK107.out) : p := h
theorem z49z1 {p : Prop} (h : p := by (with_reducible repeat (first | refine blk_drewN ?_ _ | refine blk_drew ?_ | refine blk_alloc ?_ _)); refine blk_far ?_ NB101_107.out _; (with_reducible repeat (first | refine blk_drewN ?_ _ | refine blk_drew ?_ | refine blk_alloc ?_ _)); refine blk_far ?_ NB101_107.out _; (with_reducible repeat (first | refine blk_drewN ?_ _ | refine blk_drew ?_ | refine blk_alloc ?_ _)); refine blk_far ?_ NB101_107.out _; (with_reducible repeat (first | refine blk_drewN ?_ _ | refine blk_drew ?_ | refine blk_alloc ?_ _)); refine blk_far ?_ NB101_107.out _; (with_reducible repeat (first | refine blk_drewN ?_ _ | refine blk_drew ?_ | refine blk_alloc ?_ _)); exact BK101.out) : p := h
theorem z49z2 {p : Prop} (h : p := by repeat (first | (with_reducible first | exact HI102.out | apply IsS45.alloc | apply IsS45.drewN | apply IsS45.drew | apply IsS45.set_0 | apply IsS45.set_1 | apply IsS45.set_2 | refine IsS45.far ?_ NB102_101.out _ | refine IsS45.far ?_ NB102_107.out _) | exact HI102.out)) : p := h
theorem z49z3 {p : Prop} (h : p := by repeat (first | (with_reducible first | exact HB.out | apply below_alloc | apply pw_below_drewN | apply below_drew1 | refine below_set ?_ (IsS45.ge HI102.out) | refine below_set ?_ GE101.out | refine below_set ?_ GE107.out) | exact HB.out)) : p := h
theorem z49z4 {p : Prop} (h : p := by (with_reducible repeat (first | refine blk_drewN ?_ _ | refine blk_drew ?_ | refine blk_alloc ?_ _)); exact BK101.out) : p := h
theorem z49z5 {p : Prop} (h : p := by (try simp only [List.map_toArray, List.map_cons, List.map_nil]); first | done | rfl | (simp only [List.length_drop, List.length_take]; rfl)) : p := h
theorem z49z6 {p : Prop} (h : p := by (with_reducible repeat (first | refine blk_drewN ?_ _ | refine blk_drew ?_ | refine blk_alloc ?_ _)); refine blk_put (cs := #[.int .u8 0, .int .u32 0, .string (⟨#[]⟩ : ByteArray), .string x102003_3]) ?_ 3 _ rfl; (with_reducible repeat (first | refine blk_drewN ?_ _ | refine blk_drew ?_ | refine blk_alloc ?_ _)); refine blk_put (cs := #[.int .u8 0, .int .u32 0, .string x102002_3, .string x102003_3]) ?_ 2 _ rfl; (with_reducible repeat (first | refine blk_drewN ?_ _ | refine blk_drew ?_ | refine blk_alloc ?_ _)); refine blk_put (cs := #[.int .u8 0, .int .u32 x102001_3, .string x102002_3, .string x102003_3]) ?_ 1 _ rfl; (with_reducible repeat (first | refine blk_drewN ?_ _ | refine blk_drew ?_ | refine blk_alloc ?_ _)); refine blk_put (cs := #[.int .u8 x102000_3, .int .u32 x102001_3, .string x102002_3, .string x102003_3]) ?_ 0 _ rfl; (with_reducible repeat (first | refine blk_drewN ?_ _ | refine blk_drew ?_ | refine blk_alloc ?_ _)); exact BK101.out) : p := h
theorem z49z7 {p : Prop} (h : p := by repeat (first | (with_reducible first | exact HB.out | apply below_alloc | apply pw_below_drewN | apply below_drew1 | refine below_set ?_ (IsS45.ge HI102.out) | refine below_set ?_ GE101.out) | exact HB.out)) : p := h
theorem z49z8 {p : Prop} (h : p := by (with_reducible repeat (first | refine blk_drewN ?_ _ | refine blk_drew ?_ | refine blk_alloc ?_ _)); exact BK107.out) : p := h
theorem z49z9 {p : Prop} (h : p := by repeat (first | (with_reducible first | exact HB.out | apply below_alloc | apply pw_below_drewN | apply below_drew1) | exact HB.out)) : p := h
theorem z49z10 {p : Prop} (h : p := by repeat (first | (with_reducible first | exact HB.out | apply below_alloc | apply pw_below_drewN | apply below_drew1 | refine below_set ?_ GE101.out) | exact HB.out)) : p := h
set_option maxHeartbeats 8000000 in
set_option maxRecDepth 100000 in
theorem pouchref06_Next.calls (k : Nat) (a0 : ByteArray) (r1 : Int) (r2 : Int) (r3 : ByteArray) (r4 : ByteArray) (r5 : Int) (w : World) (h : pouchref06_Next.f k a0 = some (r1, r2, r3, r4, r5)) :
  Calls Tryd.prog 49 #[.string a0] w fun e w' => e = .returned (.tuple #[.agg #[.int .u8 r1, .int .u32 r2, .string r3, .string r4], .int .i64 r5]) ∧ Below w.heap.size w w' := by
 have hu58 := Tryd.underlying58
 have hu45 := Tryd.underlying45
 have HB := Aside0.mk (Below.refl w.heap.size w)
 have H : ((pouchref01_Reader_Num.f k a0 0 0 1).bind fun bt103 => ((pouchref05_Type.f k ((bt103.1) % 256)).bind fun t108 => (if t108 = 0 then (some (0, 0, (⟨#[]⟩ : ByteArray), (⟨#[]⟩ : ByteArray), 0)) else (if t108 = 1 then ((pouchref01_Reader_Num.f k bt103.2.1 bt103.2.2.1 bt103.2.2.2 1).bind fun bt109 => (pouchref06_Next.j1 k bt109.2.1 bt109.2.2.1 bt109.2.2.2 ((bt103.1) % 256) ((bt109.1) % 4294967296) (⟨#[]⟩ : ByteArray) (⟨#[]⟩ : ByteArray))) else (if t108 = 2 then ((pouchref01_Reader_Num.f k bt103.2.1 bt103.2.2.1 bt103.2.2.2 2).bind fun bt113 => (pouchref06_Next.j1 k bt113.2.1 bt113.2.2.1 bt113.2.2.2 ((bt103.1) % 256) ((bt113.1) % 4294967296) (⟨#[]⟩ : ByteArray) (⟨#[]⟩ : ByteArray))) else (if t108 = 3 then ((pouchref01_Reader_Num.f k bt103.2.1 bt103.2.2.1 bt103.2.2.2 4).bind fun bt117 => (pouchref06_Next.j1 k bt117.2.1 bt117.2.2.1 bt117.2.2.2 ((bt103.1) % 256) ((bt117.1) % 4294967296) (⟨#[]⟩ : ByteArray) (⟨#[]⟩ : ByteArray))) else (if t108 = 4 then ((pouchref01_Reader_Var.f k bt103.2.1 bt103.2.2.1 bt103.2.2.2).bind fun bt121 => (pouchref06_Next.j1 k bt121.2.1 bt121.2.2.1 bt121.2.2.2 ((bt103.1) % 256) bt121.1 (⟨#[]⟩ : ByteArray) (⟨#[]⟩ : ByteArray))) else (if t108 = 5 then (pouchref06_Next.j0 k t108 (t108 == 5) bt103.2.1 bt103.2.2.1 bt103.2.2.2 ((bt103.1) % 256) 0 (⟨#[]⟩ : ByteArray) (⟨#[]⟩ : ByteArray)) else (pouchref06_Next.j0 k t108 (t108 == 6) bt103.2.1 bt103.2.2.1 bt103.2.2.2 ((bt103.1) % 256) 0 (⟨#[]⟩ : ByteArray) (⟨#[]⟩ : ByteArray)))))))))) = some (r1, r2, r3, r4, r5) := h
 clear h
 replace H := Option.bind_eq_some_iff.mp H
 obtain ⟨⟨t103, t104, t105, t106⟩, A20, H⟩ := H
 replace H : ((pouchref05_Type.f k ((t103) % 256)).bind fun t108 => (if t108 = 0 then (some (0, 0, (⟨#[]⟩ : ByteArray), (⟨#[]⟩ : ByteArray), 0)) else (if t108 = 1 then ((pouchref01_Reader_Num.f k t104 t105 t106 1).bind fun bt109 => (pouchref06_Next.j1 k bt109.2.1 bt109.2.2.1 bt109.2.2.2 ((t103) % 256) ((bt109.1) % 4294967296) (⟨#[]⟩ : ByteArray) (⟨#[]⟩ : ByteArray))) else (if t108 = 2 then ((pouchref01_Reader_Num.f k t104 t105 t106 2).bind fun bt113 => (pouchref06_Next.j1 k bt113.2.1 bt113.2.2.1 bt113.2.2.2 ((t103) % 256) ((bt113.1) % 4294967296) (⟨#[]⟩ : ByteArray) (⟨#[]⟩ : ByteArray))) else (if t108 = 3 then ((pouchref01_Reader_Num.f k t104 t105 t106 4).bind fun bt117 => (pouchref06_Next.j1 k bt117.2.1 bt117.2.2.1 bt117.2.2.2 ((t103) % 256) ((bt117.1) % 4294967296) (⟨#[]⟩ : ByteArray) (⟨#[]⟩ : ByteArray))) else (if t108 = 4 then ((pouchref01_Reader_Var.f k t104 t105 t106).bind fun bt121 => (pouchref06_Next.j1 k bt121.2.1 bt121.2.2.1 bt121.2.2.2 ((t103) % 256) bt121.1 (⟨#[]⟩ : ByteArray) (⟨#[]⟩ : ByteArray))) else (if t108 = 5 then (pouchref06_Next.j0 k t108 (t108 == 5) t104 t105 t106 ((t103) % 256) 0 (⟨#[]⟩ : ByteArray) (⟨#[]⟩ : ByteArray)) else (pouchref06_Next.j0 k t108 (t108 == 6) t104 t105 t106 ((t103) % 256) 0 (⟨#[]⟩ : ByteArray) (⟨#[]⟩ : ByteArray))))))))) = some (r1, r2, r3, r4, r5) := H
 have A2 := Aside0.mk A20
 clear A20
 replace H := Option.bind_eq_some_iff.mp H
 obtain ⟨t108, A30, H⟩ := H
 replace H : (if t108 = 0 then (some (0, 0, (⟨#[]⟩ : ByteArray), (⟨#[]⟩ : ByteArray), 0)) else (if t108 = 1 then ((pouchref01_Reader_Num.f k t104 t105 t106 1).bind fun bt109 => (pouchref06_Next.j1 k bt109.2.1 bt109.2.2.1 bt109.2.2.2 ((t103) % 256) ((bt109.1) % 4294967296) (⟨#[]⟩ : ByteArray) (⟨#[]⟩ : ByteArray))) else (if t108 = 2 then ((pouchref01_Reader_Num.f k t104 t105 t106 2).bind fun bt113 => (pouchref06_Next.j1 k bt113.2.1 bt113.2.2.1 bt113.2.2.2 ((t103) % 256) ((bt113.1) % 4294967296) (⟨#[]⟩ : ByteArray) (⟨#[]⟩ : ByteArray))) else (if t108 = 3 then ((pouchref01_Reader_Num.f k t104 t105 t106 4).bind fun bt117 => (pouchref06_Next.j1 k bt117.2.1 bt117.2.2.1 bt117.2.2.2 ((t103) % 256) ((bt117.1) % 4294967296) (⟨#[]⟩ : ByteArray) (⟨#[]⟩ : ByteArray))) else (if t108 = 4 then ((pouchref01_Reader_Var.f k t104 t105 t106).bind fun bt121 => (pouchref06_Next.j1 k bt121.2.1 bt121.2.2.1 bt121.2.2.2 ((t103) % 256) bt121.1 (⟨#[]⟩ : ByteArray) (⟨#[]⟩ : ByteArray))) else (if t108 = 5 then (pouchref06_Next.j0 k t108 (t108 == 5) t104 t105 t106 ((t103) % 256) 0 (⟨#[]⟩ : ByteArray) (⟨#[]⟩ : ByteArray)) else (pouchref06_Next.j0 k t108 (t108 == 6) t104 t105 t106 ((t103) % 256) 0 (⟨#[]⟩ : ByteArray) (⟨#[]⟩ : ByteArray)))))))) = some (r1, r2, r3, r4, r5) := H
 have A3 := Aside0.mk A30
 clear A30
 have HC4 := Aside0.mk H
 clear H
 go_enter Tryd.func49, Tryd.ntmps49
 go_upto_block 0 with (first | ((with_reducible refine gate_dst (N := 2) rfl ?_); refine box_event ?hg (N := 2) ?hd (cs := #[.int .u8 0, .int .u32 0, .string (⟨#[]⟩ : ByteArray), .string (⟨#[]⟩ : ByteArray)]) (t := 58) ?hr ?_; (case hd => rfl); (case hg => rfl); (case hr => first | (go_simp; done) | (go_simp; rfl)); intro gb101 hg w5 hbox hb; have n0_ := Aside0.mk (below_step z49z9 hb); have n1_ := Aside0.mk (hbox); have n2_ := Aside0.mk ((by rw [hg]; exact (below_size z49z9) : w.heap.size ≤ gb101)); have n3_ := Aside0.mk ((by rw [hg]; exact (below_size z49z9) : w.heap.size ≤ gb101)); replace HB := n0_; have BK101 := n1_; have GW101 := n2_; have GE101 := n3_; clear n0_ n1_ n2_ n3_; clear hb hbox hg) | ((with_reducible refine gate_dst (N := 8) rfl ?_); refine box_event ?hg (N := 8) ?hd (cs := #[.string a0, .int .i64 0, .int .i64 0]) (t := 45) ?hr ?_; (case hd => rfl); (case hg => rfl); (case hr => first | (go_simp; done) | (go_simp; rfl)); intro gb102 hg w6 hbox hb; have hi : IsS45 w w6 gb102 a0 0 0 := ⟨hbox, (by rw [hg]; exact (below_size z49z10))⟩; have n0_ := Aside0.mk (blk_below (g := gb101) (o := .cells #[.int .u8 0, .int .u32 0, .string (⟨#[]⟩ : ByteArray), .string (⟨#[]⟩ : ByteArray)] 58 (0, 0)) z49z4 hb); have n1_ := Aside0.mk (below_step z49z10 hb); have n2_ := Aside0.mk (hi); have n3_ := Aside0.mk (IsS45.ne_blk hi (blk_below (g := gb101) (o := .cells #[.int .u8 0, .int .u32 0, .string (⟨#[]⟩ : ByteArray), .string (⟨#[]⟩ : ByteArray)] 58 (0, 0)) z49z4 hb) (by decide)); have n4_ := Aside0.mk (Ne.symm (IsS45.ne_blk hi (blk_below (g := gb101) (o := .cells #[.int .u8 0, .int .u32 0, .string (⟨#[]⟩ : ByteArray), .string (⟨#[]⟩ : ByteArray)] 58 (0, 0)) z49z4 hb) (by decide))); replace BK101 := n0_; replace HB := n1_; have HI102 := n2_; have NB102_101 := n3_; have NB101_102 := n4_; clear n0_ n1_ n2_ n3_ n4_; clear hb hbox hg hi) | ((with_reducible refine gate_callee (f := 76) rfl ?_); refine goesL_ (some 10) rfl rfl Tryd.func76 (by kernel_rfl) rfl #[.pointer (some ⟨gb102, 0, none⟩), .int .i64 1] rfl z49z5 ?_; (with_reducible refine (pouchref01_Reader_Num.calls k gb102 a0 0 0 1 t103 t104 t105 t106 w _ ?side1 ?side2 A2.out).mono ?_); (case side1 => repeat (first | (with_reducible first | exact HI102.out | apply IsS45.alloc | apply IsS45.drewN | apply IsS45.drew | apply IsS45.set_0 | apply IsS45.set_1 | apply IsS45.set_2 | refine IsS45.far ?_ NB102_101.out _) | exact HI102.out)); (case side2 => repeat (first | (with_reducible first | exact HB.out | apply below_alloc | apply pw_below_drewN | apply below_drew1 | refine below_set ?_ (IsS45.ge HI102.out) | refine below_set ?_ GE101.out) | exact HB.out)); rintro e w7 ⟨rfl, hi, hb, hk⟩; refine ⟨_, rfl, ?_⟩; have n0_ := Aside0.mk (KeepBut.blk hk (g' := gb101) (o := .cells #[.int .u8 0, .int .u32 0, .string (⟨#[]⟩ : ByteArray), .string (⟨#[]⟩ : ByteArray)] 58 (0, 0)) z49z4 NB101_102.out (by simp)); have n1_ := Aside0.mk (hb); have n2_ := Aside0.mk (hi); replace BK101 := n0_; replace HB := n1_; replace HI102 := n2_; clear n0_ n1_ n2_; clear hb hk hi) | ((with_reducible refine gate_dst (N := 5) rfl ?_); refine box_event ?hg (N := 5) ?hd (cs := #[.int .u8 0, .int .u32 0, .string (⟨#[]⟩ : ByteArray), .string (⟨#[]⟩ : ByteArray)]) (t := 58) ?hr ?_; (case hd => rfl); (case hg => rfl); (case hr => first | (go_simp; done) | (go_simp; rfl)); intro gb107 hg w8 hbox hb; have n0_ := Aside0.mk (blk_below (g := gb101) (o := .cells #[.int .u8 0, .int .u32 0, .string (⟨#[]⟩ : ByteArray), .string (⟨#[]⟩ : ByteArray)] 58 (0, 0)) z49z4 hb); have n1_ := Aside0.mk (IsS45.below (by repeat (first | (with_reducible first | exact HI102.out | apply IsS45.alloc | apply IsS45.drewN | apply IsS45.drew | apply IsS45.set_0 | apply IsS45.set_1 | apply IsS45.set_2 | refine IsS45.far ?_ NB102_101.out _) | exact HI102.out)) hb); have n2_ := Aside0.mk (below_step z49z7 hb); have n3_ := Aside0.mk (hbox); have n4_ := Aside0.mk ((by rw [hg]; exact (below_size z49z7) : w.heap.size ≤ gb107)); have n5_ := Aside0.mk ((by rw [hg]; exact (below_size z49z7) : w.heap.size ≤ gb107)); have n6_ := Aside0.mk ((by rw [hg]; exact Nat.ne_of_lt (blk_lt (g := gb101) (o := .cells #[.int .u8 0, .int .u32 0, .string (⟨#[]⟩ : ByteArray), .string (⟨#[]⟩ : ByteArray)] 58 (0, 0)) z49z4) : gb101 ≠ gb107)); have n7_ := Aside0.mk ((by rw [hg]; exact Nat.ne_of_gt (blk_lt (g := gb101) (o := .cells #[.int .u8 0, .int .u32 0, .string (⟨#[]⟩ : ByteArray), .string (⟨#[]⟩ : ByteArray)] 58 (0, 0)) z49z4) : gb107 ≠ gb101)); have n8_ := Aside0.mk ((by rw [hg]; exact Nat.ne_of_lt (IsS45.lt (show IsS45 w _ gb102 t104 t105 t106 from by repeat (first | (with_reducible first | exact HI102.out | apply IsS45.alloc | apply IsS45.drewN | apply IsS45.drew | apply IsS45.set_0 | apply IsS45.set_1 | apply IsS45.set_2 | refine IsS45.far ?_ NB102_101.out _) | exact HI102.out))) : gb102 ≠ gb107)); have n9_ := Aside0.mk ((by rw [hg]; exact Nat.ne_of_gt (IsS45.lt (show IsS45 w _ gb102 t104 t105 t106 from by repeat (first | (with_reducible first | exact HI102.out | apply IsS45.alloc | apply IsS45.drewN | apply IsS45.drew | apply IsS45.set_0 | apply IsS45.set_1 | apply IsS45.set_2 | refine IsS45.far ?_ NB102_101.out _) | exact HI102.out))) : gb107 ≠ gb102)); replace BK101 := n0_; replace HI102 := n1_; replace HB := n2_; have BK107 := n3_; have GW107 := n4_; have GE107 := n5_; have NB101_107 := n6_; have NB107_101 := n7_; have NB102_107 := n8_; have NB107_102 := n9_; clear n0_ n1_ n2_ n3_ n4_ n5_ n6_ n7_ n8_ n9_; clear hb hbox hg; have hnb9 := NB107_101.out; have hnc9 := NB101_107.out; have hnb10 := NB107_102.out; have hnc10 := NB102_107.out; have hcz11_0 := cc4_0 BK107.out; have hcz11_1 := cc4_1 BK107.out; have hcz11_2 := cc4_2 BK107.out; have hcz11_3 := cc4_3 BK107.out; have hfz11_0 := blk_frozen BK107.out 0; have hfz11_1 := blk_frozen BK107.out 1; have hfz11_2 := blk_frozen BK107.out 2; have hfz11_3 := blk_frozen BK107.out 3) | ((with_reducible refine gate_callee (f := 67) rfl ?_); refine goesL_ (some 15) rfl rfl Tryd.func67 (by kernel_rfl) rfl #[.int .u8 ((t103) % 256)] rfl z49z5 ?_; (with_reducible refine (pouchref05_Type.calls k ((t103) % 256) t108 _ A3.out).mono ?_); rintro e w' ⟨rfl, ⟨nd, rfl⟩⟩; refine ⟨_, rfl, ?_⟩))
 (try simp only [Act.put, List.setIfInBounds_toArray, List.set_cons_zero, List.set_cons_succ])
 go_cut [] (fun wc => ∃ (kq : Nat) (x102000_3 : Int) (x102001_3 : Int) (x102002_3 : ByteArray) (x102003_3 : ByteArray) (x103000_3 : ByteArray) (x103001_3 : Int) (x103002_3 : Int) (x108001_3 : Int) (x108002_3 : ByteArray) (x108003_3 : ByteArray), Aside0 (pouchref06_Next.j1 kq x103000_3 x103001_3 x103002_3 ((t103) % 256) x108001_3 x108002_3 x108003_3 = some (r1, r2, r3, r4, r5)) ∧ Aside0 (kq ≤ k) ∧ Aside0 (wc.heap[gb101]? = some (.cells #[.int .u8 x102000_3, .int .u32 x102001_3, .string x102002_3, .string x102003_3] 58 (0, 0))) ∧ Aside0 (wc.heap[gb107]? = some (.cells #[.int .u8 ((t103) % 256), .int .u32 x108001_3, .string x108002_3, .string x108003_3] 58 (0, 0))) ∧ Aside0 (IsS45 w wc gb102 x103000_3 x103001_3 x103002_3) ∧ Aside0 (Below w.heap.size w wc))
 case first =>
  have H := HC4.out
  clear HC4
  by_cases c12 : t108 = 0
  ·rw [if_pos c12] at H
   have c12b0 : (t108 == 0) = true := beq_iff_eq.mpr c12
   have c12b1 : (t108 != 0) = false := bne_eq_false_iff_eq.mpr c12
   clear c12
   (first | rw [c12b0] | (simp only [i64_w, i32_w]; rw [c12b0]) | skip)
   simp only [Option.some.injEq, Prod.mk.injEq] at H
   obtain ⟨rfl, rfl, rfl, rfl, rfl⟩ := H
   have hnb13 := NB101_107.out
   have hnc13 := NB107_101.out
   have hnb14 := NB101_102.out
   have hnc14 := NB102_101.out
   have hcz15_0 := cc4_0 BK101.out
   have hcz15_1 := cc4_1 BK101.out
   have hcz15_2 := cc4_2 BK101.out
   have hcz15_3 := cc4_3 BK101.out
   have hfz15_0 := blk_frozen BK101.out 0
   have hfz15_1 := blk_frozen BK101.out 1
   have hfz15_2 := blk_frozen BK101.out 2
   have hfz15_3 := blk_frozen BK101.out 3
   go_wp2
   refine bodyPost_ret (results_ct rfl _ _ gb101 58 #[.int .u8 0, .int .u32 0, .string (⟨#[]⟩ : ByteArray), .string (⟨#[]⟩ : ByteArray)] (0, 0) _ rfl (by (with_reducible repeat (first | refine blk_drewN ?_ _ | refine blk_drew ?_ | refine blk_alloc ?_ _)); refine blk_put (cs := #[.int .u8 0, .int .u32 0, .string (⟨#[]⟩ : ByteArray), .string (⟨#[]⟩ : ByteArray)]) ?_ 3 _ rfl; (with_reducible repeat (first | refine blk_drewN ?_ _ | refine blk_drew ?_ | refine blk_alloc ?_ _)); refine blk_put (cs := #[.int .u8 0, .int .u32 0, .string (⟨#[]⟩ : ByteArray), .string (⟨#[]⟩ : ByteArray)]) ?_ 2 _ rfl; (with_reducible repeat (first | refine blk_drewN ?_ _ | refine blk_drew ?_ | refine blk_alloc ?_ _)); refine blk_put (cs := #[.int .u8 0, .int .u32 0, .string (⟨#[]⟩ : ByteArray), .string (⟨#[]⟩ : ByteArray)]) ?_ 1 _ rfl; (with_reducible repeat (first | refine blk_drewN ?_ _ | refine blk_drew ?_ | refine blk_alloc ?_ _)); refine blk_put (cs := #[.int .u8 0, .int .u32 0, .string (⟨#[]⟩ : ByteArray), .string (⟨#[]⟩ : ByteArray)]) ?_ 0 _ rfl; (with_reducible repeat (first | refine blk_drewN ?_ _ | refine blk_drew ?_ | refine blk_alloc ?_ _)); refine blk_far ?_ NB101_107.out _; (with_reducible repeat (first | refine blk_drewN ?_ _ | refine blk_drew ?_ | refine blk_alloc ?_ _)); refine blk_far ?_ NB101_107.out _; (with_reducible repeat (first | refine blk_drewN ?_ _ | refine blk_drew ?_ | refine blk_alloc ?_ _)); refine blk_far ?_ NB101_107.out _; (with_reducible repeat (first | refine blk_drewN ?_ _ | refine blk_drew ?_ | refine blk_alloc ?_ _)); refine blk_far ?_ NB101_107.out _; (with_reducible repeat (first | refine blk_drewN ?_ _ | refine blk_drew ?_ | refine blk_alloc ?_ _)); exact BK101.out) Tryd.underlying58 rfl (by kernel_rfl)) rfl ?_
   exact ⟨by first | rfl | (simp [errW_none, errW_some] <;> rfl) | (simp [*, errW_none, errW_some] <;> rfl), by repeat (first | (with_reducible first | exact HB.out | apply below_alloc | apply pw_below_drewN | apply below_drew1 | refine below_set ?_ (IsS45.ge HI102.out) | refine below_set ?_ GE101.out | refine below_set ?_ GE107.out) | exact HB.out)⟩
  ·rw [if_neg c12] at H
   have c12b0 : (t108 == 0) = false := beq_eq_false_iff_ne.mpr c12
   have c12b1 : (t108 != 0) = true := bne_iff_ne.mpr c12
   (first | rw [c12b0] | (simp only [i64_w, i32_w]; rw [c12b0]) | skip)
   by_cases c16 : t108 = 1
   ·rw [if_pos c16] at H
    have c16b0 : (t108 == 1) = true := beq_iff_eq.mpr c16
    have c16b1 : (t108 != 1) = false := bne_eq_false_iff_eq.mpr c16
    clear c16
    replace H := Option.bind_eq_some_iff.mp H
    obtain ⟨⟨t109, t110, t111, t112⟩, A170, H⟩ := H
    replace H : (pouchref06_Next.j1 k t110 t111 t112 ((t103) % 256) ((t109) % 4294967296) (⟨#[]⟩ : ByteArray) (⟨#[]⟩ : ByteArray)) = some (r1, r2, r3, r4, r5) := H
    have A17 := Aside0.mk A170
    clear A170
    have H' := Aside0.mk H
    clear H
    go_wp2_with (first | ((with_reducible refine gate_callee (f := 76) rfl ?_); refine goesL_ (some 22) rfl rfl Tryd.func76 (by kernel_rfl) rfl #[.pointer (some ⟨gb102, 0, none⟩), .int .i64 1] rfl z49z5 ?_; (with_reducible refine (pouchref01_Reader_Num.calls k gb102 t104 t105 t106 1 t109 t110 t111 t112 w _ ?side1 ?side2 A17.out).mono ?_); (case side1 => exact z49z2); (case side2 => exact z49z3); rintro e w18 ⟨rfl, hi, hb, hk⟩; refine ⟨_, rfl, ?_⟩; have n0_ := Aside0.mk (KeepBut.blk hk (g' := gb101) (o := .cells #[.int .u8 0, .int .u32 0, .string (⟨#[]⟩ : ByteArray), .string (⟨#[]⟩ : ByteArray)] 58 (0, 0)) z49z1 NB101_102.out (by simp)); have n1_ := Aside0.mk (KeepBut.blk hk (g' := gb107) (o := .cells #[.int .u8 ((t103) % 256), .int .u32 0, .string (⟨#[]⟩ : ByteArray), .string (⟨#[]⟩ : ByteArray)] 58 (0, 0)) z49z0 NB107_102.out (by simp)); have n2_ := Aside0.mk (hb); have n3_ := Aside0.mk (hi); replace BK101 := n0_; replace BK107 := n1_; replace HB := n2_; replace HI102 := n3_; clear n0_ n1_ n2_ n3_; clear hb hk hi; have hnb19 := NB107_101.out; have hnc19 := NB101_107.out; have hnb20 := NB107_102.out; have hnc20 := NB102_107.out; have hcz21_0 := cc4_0 BK107.out; have hcz21_1 := cc4_1 BK107.out; have hcz21_2 := cc4_2 BK107.out; have hcz21_3 := cc4_3 BK107.out; have hfz21_0 := blk_frozen BK107.out 0; have hfz21_1 := blk_frozen BK107.out 1; have hfz21_2 := blk_frozen BK107.out 2; have hfz21_3 := blk_frozen BK107.out 3))
    go_meet
    case rel => exact ⟨_, (0), (0), ((⟨#[]⟩ : ByteArray)), ((⟨#[]⟩ : ByteArray)), (t110), (t111), (t112), ((t109) % 4294967296), ((⟨#[]⟩ : ByteArray)), ((⟨#[]⟩ : ByteArray)), H', ⟨by first | omega | exact Nat.le_refl _⟩, ⟨by (with_reducible repeat (first | refine blk_drewN ?_ _ | refine blk_drew ?_ | refine blk_alloc ?_ _)); refine blk_far ?_ NB101_107.out _; (with_reducible repeat (first | refine blk_drewN ?_ _ | refine blk_drew ?_ | refine blk_alloc ?_ _)); exact BK101.out⟩, ⟨by (with_reducible repeat (first | refine blk_drewN ?_ _ | refine blk_drew ?_ | refine blk_alloc ?_ _)); refine blk_put (cs := #[.int .u8 ((t103) % 256), .int .u32 0, .string (⟨#[]⟩ : ByteArray), .string (⟨#[]⟩ : ByteArray)]) ?_ 1 _ rfl; (with_reducible repeat (first | refine blk_drewN ?_ _ | refine blk_drew ?_ | refine blk_alloc ?_ _)); exact BK107.out⟩, ⟨by repeat (first | (with_reducible first | exact HI102.out | apply IsS45.alloc | apply IsS45.drewN | apply IsS45.drew | apply IsS45.set_0 | apply IsS45.set_1 | apply IsS45.set_2 | refine IsS45.far ?_ NB102_101.out _ | refine IsS45.far ?_ NB102_107.out _) | exact HI102.out)⟩, ⟨by repeat (first | (with_reducible first | exact HB.out | apply below_alloc | apply pw_below_drewN | apply below_drew1 | refine below_set ?_ (IsS45.ge HI102.out) | refine below_set ?_ GE101.out | refine below_set ?_ GE107.out) | exact HB.out)⟩⟩
   ·rw [if_neg c16] at H
    have c16b0 : (t108 == 1) = false := beq_eq_false_iff_ne.mpr c16
    have c16b1 : (t108 != 1) = true := bne_iff_ne.mpr c16
    by_cases c22 : t108 = 2
    ·rw [if_pos c22] at H
     have c22b0 : (t108 == 2) = true := beq_iff_eq.mpr c22
     have c22b1 : (t108 != 2) = false := bne_eq_false_iff_eq.mpr c22
     clear c22
     replace H := Option.bind_eq_some_iff.mp H
     obtain ⟨⟨t113, t114, t115, t116⟩, A230, H⟩ := H
     replace H : (pouchref06_Next.j1 k t114 t115 t116 ((t103) % 256) ((t113) % 4294967296) (⟨#[]⟩ : ByteArray) (⟨#[]⟩ : ByteArray)) = some (r1, r2, r3, r4, r5) := H
     have A23 := Aside0.mk A230
     clear A230
     have H' := Aside0.mk H
     clear H
     go_wp2_with (first | ((with_reducible refine gate_callee (f := 76) rfl ?_); refine goesL_ (some 28) rfl rfl Tryd.func76 (by kernel_rfl) rfl #[.pointer (some ⟨gb102, 0, none⟩), .int .i64 2] rfl z49z5 ?_; (with_reducible refine (pouchref01_Reader_Num.calls k gb102 t104 t105 t106 2 t113 t114 t115 t116 w _ ?side1 ?side2 A23.out).mono ?_); (case side1 => exact z49z2); (case side2 => exact z49z3); rintro e w24 ⟨rfl, hi, hb, hk⟩; refine ⟨_, rfl, ?_⟩; have n0_ := Aside0.mk (KeepBut.blk hk (g' := gb101) (o := .cells #[.int .u8 0, .int .u32 0, .string (⟨#[]⟩ : ByteArray), .string (⟨#[]⟩ : ByteArray)] 58 (0, 0)) z49z1 NB101_102.out (by simp)); have n1_ := Aside0.mk (KeepBut.blk hk (g' := gb107) (o := .cells #[.int .u8 ((t103) % 256), .int .u32 0, .string (⟨#[]⟩ : ByteArray), .string (⟨#[]⟩ : ByteArray)] 58 (0, 0)) z49z0 NB107_102.out (by simp)); have n2_ := Aside0.mk (hb); have n3_ := Aside0.mk (hi); replace BK101 := n0_; replace BK107 := n1_; replace HB := n2_; replace HI102 := n3_; clear n0_ n1_ n2_ n3_; clear hb hk hi; have hnb25 := NB107_101.out; have hnc25 := NB101_107.out; have hnb26 := NB107_102.out; have hnc26 := NB102_107.out; have hcz27_0 := cc4_0 BK107.out; have hcz27_1 := cc4_1 BK107.out; have hcz27_2 := cc4_2 BK107.out; have hcz27_3 := cc4_3 BK107.out; have hfz27_0 := blk_frozen BK107.out 0; have hfz27_1 := blk_frozen BK107.out 1; have hfz27_2 := blk_frozen BK107.out 2; have hfz27_3 := blk_frozen BK107.out 3))
     go_meet
     case rel => exact ⟨_, (0), (0), ((⟨#[]⟩ : ByteArray)), ((⟨#[]⟩ : ByteArray)), (t114), (t115), (t116), ((t113) % 4294967296), ((⟨#[]⟩ : ByteArray)), ((⟨#[]⟩ : ByteArray)), H', ⟨by first | omega | exact Nat.le_refl _⟩, ⟨by (with_reducible repeat (first | refine blk_drewN ?_ _ | refine blk_drew ?_ | refine blk_alloc ?_ _)); refine blk_far ?_ NB101_107.out _; (with_reducible repeat (first | refine blk_drewN ?_ _ | refine blk_drew ?_ | refine blk_alloc ?_ _)); exact BK101.out⟩, ⟨by (with_reducible repeat (first | refine blk_drewN ?_ _ | refine blk_drew ?_ | refine blk_alloc ?_ _)); refine blk_put (cs := #[.int .u8 ((t103) % 256), .int .u32 0, .string (⟨#[]⟩ : ByteArray), .string (⟨#[]⟩ : ByteArray)]) ?_ 1 _ rfl; (with_reducible repeat (first | refine blk_drewN ?_ _ | refine blk_drew ?_ | refine blk_alloc ?_ _)); exact BK107.out⟩, ⟨by repeat (first | (with_reducible first | exact HI102.out | apply IsS45.alloc | apply IsS45.drewN | apply IsS45.drew | apply IsS45.set_0 | apply IsS45.set_1 | apply IsS45.set_2 | refine IsS45.far ?_ NB102_101.out _ | refine IsS45.far ?_ NB102_107.out _) | exact HI102.out)⟩, ⟨by repeat (first | (with_reducible first | exact HB.out | apply below_alloc | apply pw_below_drewN | apply below_drew1 | refine below_set ?_ (IsS45.ge HI102.out) | refine below_set ?_ GE101.out | refine below_set ?_ GE107.out) | exact HB.out)⟩⟩
    ·rw [if_neg c22] at H
     have c22b0 : (t108 == 2) = false := beq_eq_false_iff_ne.mpr c22
     have c22b1 : (t108 != 2) = true := bne_iff_ne.mpr c22
     by_cases c28 : t108 = 3
     ·rw [if_pos c28] at H
      have c28b0 : (t108 == 3) = true := beq_iff_eq.mpr c28
      have c28b1 : (t108 != 3) = false := bne_eq_false_iff_eq.mpr c28
      clear c28
      replace H := Option.bind_eq_some_iff.mp H
      obtain ⟨⟨t117, t118, t119, t120⟩, A290, H⟩ := H
      replace H : (pouchref06_Next.j1 k t118 t119 t120 ((t103) % 256) ((t117) % 4294967296) (⟨#[]⟩ : ByteArray) (⟨#[]⟩ : ByteArray)) = some (r1, r2, r3, r4, r5) := H
      have A29 := Aside0.mk A290
      clear A290
      have H' := Aside0.mk H
      clear H
      go_wp2_with (first | ((with_reducible refine gate_callee (f := 76) rfl ?_); refine goesL_ (some 34) rfl rfl Tryd.func76 (by kernel_rfl) rfl #[.pointer (some ⟨gb102, 0, none⟩), .int .i64 4] rfl z49z5 ?_; (with_reducible refine (pouchref01_Reader_Num.calls k gb102 t104 t105 t106 4 t117 t118 t119 t120 w _ ?side1 ?side2 A29.out).mono ?_); (case side1 => exact z49z2); (case side2 => exact z49z3); rintro e w30 ⟨rfl, hi, hb, hk⟩; refine ⟨_, rfl, ?_⟩; have n0_ := Aside0.mk (KeepBut.blk hk (g' := gb101) (o := .cells #[.int .u8 0, .int .u32 0, .string (⟨#[]⟩ : ByteArray), .string (⟨#[]⟩ : ByteArray)] 58 (0, 0)) z49z1 NB101_102.out (by simp)); have n1_ := Aside0.mk (KeepBut.blk hk (g' := gb107) (o := .cells #[.int .u8 ((t103) % 256), .int .u32 0, .string (⟨#[]⟩ : ByteArray), .string (⟨#[]⟩ : ByteArray)] 58 (0, 0)) z49z0 NB107_102.out (by simp)); have n2_ := Aside0.mk (hb); have n3_ := Aside0.mk (hi); replace BK101 := n0_; replace BK107 := n1_; replace HB := n2_; replace HI102 := n3_; clear n0_ n1_ n2_ n3_; clear hb hk hi; have hnb31 := NB107_101.out; have hnc31 := NB101_107.out; have hnb32 := NB107_102.out; have hnc32 := NB102_107.out; have hcz33_0 := cc4_0 BK107.out; have hcz33_1 := cc4_1 BK107.out; have hcz33_2 := cc4_2 BK107.out; have hcz33_3 := cc4_3 BK107.out; have hfz33_0 := blk_frozen BK107.out 0; have hfz33_1 := blk_frozen BK107.out 1; have hfz33_2 := blk_frozen BK107.out 2; have hfz33_3 := blk_frozen BK107.out 3))
      go_meet
      case rel => exact ⟨_, (0), (0), ((⟨#[]⟩ : ByteArray)), ((⟨#[]⟩ : ByteArray)), (t118), (t119), (t120), ((t117) % 4294967296), ((⟨#[]⟩ : ByteArray)), ((⟨#[]⟩ : ByteArray)), H', ⟨by first | omega | exact Nat.le_refl _⟩, ⟨by (with_reducible repeat (first | refine blk_drewN ?_ _ | refine blk_drew ?_ | refine blk_alloc ?_ _)); refine blk_far ?_ NB101_107.out _; (with_reducible repeat (first | refine blk_drewN ?_ _ | refine blk_drew ?_ | refine blk_alloc ?_ _)); exact BK101.out⟩, ⟨by (with_reducible repeat (first | refine blk_drewN ?_ _ | refine blk_drew ?_ | refine blk_alloc ?_ _)); refine blk_put (cs := #[.int .u8 ((t103) % 256), .int .u32 0, .string (⟨#[]⟩ : ByteArray), .string (⟨#[]⟩ : ByteArray)]) ?_ 1 _ rfl; (with_reducible repeat (first | refine blk_drewN ?_ _ | refine blk_drew ?_ | refine blk_alloc ?_ _)); exact BK107.out⟩, ⟨by repeat (first | (with_reducible first | exact HI102.out | apply IsS45.alloc | apply IsS45.drewN | apply IsS45.drew | apply IsS45.set_0 | apply IsS45.set_1 | apply IsS45.set_2 | refine IsS45.far ?_ NB102_101.out _ | refine IsS45.far ?_ NB102_107.out _) | exact HI102.out)⟩, ⟨by repeat (first | (with_reducible first | exact HB.out | apply below_alloc | apply pw_below_drewN | apply below_drew1 | refine below_set ?_ (IsS45.ge HI102.out) | refine below_set ?_ GE101.out | refine below_set ?_ GE107.out) | exact HB.out)⟩⟩
     ·rw [if_neg c28] at H
      have c28b0 : (t108 == 3) = false := beq_eq_false_iff_ne.mpr c28
      have c28b1 : (t108 != 3) = true := bne_iff_ne.mpr c28
      by_cases c34 : t108 = 4
      ·rw [if_pos c34] at H
       have c34b0 : (t108 == 4) = true := beq_iff_eq.mpr c34
       have c34b1 : (t108 != 4) = false := bne_eq_false_iff_eq.mpr c34
       clear c34
       replace H := Option.bind_eq_some_iff.mp H
       obtain ⟨⟨t121, t122, t123, t124⟩, A350, H⟩ := H
       replace H : (pouchref06_Next.j1 k t122 t123 t124 ((t103) % 256) t121 (⟨#[]⟩ : ByteArray) (⟨#[]⟩ : ByteArray)) = some (r1, r2, r3, r4, r5) := H
       have A35 := Aside0.mk A350
       clear A350
       have H' := Aside0.mk H
       clear H
       go_wp2_with (first | ((with_reducible refine gate_callee (f := 46) rfl ?_); refine goesL_ (some 40) rfl rfl Tryd.func46 (by kernel_rfl) rfl #[.pointer (some ⟨gb102, 0, none⟩)] rfl z49z5 ?_; (with_reducible refine (pouchref01_Reader_Var.calls k gb102 t104 t105 t106 t121 t122 t123 t124 w _ ?side1 ?side2 A35.out).mono ?_); (case side1 => exact z49z2); (case side2 => exact z49z3); rintro e w36 ⟨rfl, hi, hb, hk⟩; refine ⟨_, rfl, ?_⟩; have n0_ := Aside0.mk (KeepBut.blk hk (g' := gb101) (o := .cells #[.int .u8 0, .int .u32 0, .string (⟨#[]⟩ : ByteArray), .string (⟨#[]⟩ : ByteArray)] 58 (0, 0)) z49z1 NB101_102.out (by simp)); have n1_ := Aside0.mk (KeepBut.blk hk (g' := gb107) (o := .cells #[.int .u8 ((t103) % 256), .int .u32 0, .string (⟨#[]⟩ : ByteArray), .string (⟨#[]⟩ : ByteArray)] 58 (0, 0)) z49z0 NB107_102.out (by simp)); have n2_ := Aside0.mk (hb); have n3_ := Aside0.mk (hi); replace BK101 := n0_; replace BK107 := n1_; replace HB := n2_; replace HI102 := n3_; clear n0_ n1_ n2_ n3_; clear hb hk hi; have hnb37 := NB107_101.out; have hnc37 := NB101_107.out; have hnb38 := NB107_102.out; have hnc38 := NB102_107.out; have hcz39_0 := cc4_0 BK107.out; have hcz39_1 := cc4_1 BK107.out; have hcz39_2 := cc4_2 BK107.out; have hcz39_3 := cc4_3 BK107.out; have hfz39_0 := blk_frozen BK107.out 0; have hfz39_1 := blk_frozen BK107.out 1; have hfz39_2 := blk_frozen BK107.out 2; have hfz39_3 := blk_frozen BK107.out 3))
       go_meet
       case rel => exact ⟨_, (0), (0), ((⟨#[]⟩ : ByteArray)), ((⟨#[]⟩ : ByteArray)), (t122), (t123), (t124), (t121), ((⟨#[]⟩ : ByteArray)), ((⟨#[]⟩ : ByteArray)), H', ⟨by first | omega | exact Nat.le_refl _⟩, ⟨by (with_reducible repeat (first | refine blk_drewN ?_ _ | refine blk_drew ?_ | refine blk_alloc ?_ _)); refine blk_far ?_ NB101_107.out _; (with_reducible repeat (first | refine blk_drewN ?_ _ | refine blk_drew ?_ | refine blk_alloc ?_ _)); exact BK101.out⟩, ⟨by (with_reducible repeat (first | refine blk_drewN ?_ _ | refine blk_drew ?_ | refine blk_alloc ?_ _)); refine blk_put (cs := #[.int .u8 ((t103) % 256), .int .u32 0, .string (⟨#[]⟩ : ByteArray), .string (⟨#[]⟩ : ByteArray)]) ?_ 1 _ rfl; (with_reducible repeat (first | refine blk_drewN ?_ _ | refine blk_drew ?_ | refine blk_alloc ?_ _)); exact BK107.out⟩, ⟨by repeat (first | (with_reducible first | exact HI102.out | apply IsS45.alloc | apply IsS45.drewN | apply IsS45.drew | apply IsS45.set_0 | apply IsS45.set_1 | apply IsS45.set_2 | refine IsS45.far ?_ NB102_101.out _ | refine IsS45.far ?_ NB102_107.out _) | exact HI102.out)⟩, ⟨by repeat (first | (with_reducible first | exact HB.out | apply below_alloc | apply pw_below_drewN | apply below_drew1 | refine below_set ?_ (IsS45.ge HI102.out) | refine below_set ?_ GE101.out | refine below_set ?_ GE107.out) | exact HB.out)⟩⟩
      ·rw [if_neg c34] at H
       have c34b0 : (t108 == 4) = false := beq_eq_false_iff_ne.mpr c34
       have c34b1 : (t108 != 4) = true := bne_iff_ne.mpr c34
       have HC40 := Aside0.mk H
       clear H
       go_upto_if 42 with (fail)
       go_cut [42] (fun v42 wc => ∃ (kq : Nat) (x42_39 : Bool), v42 = .bool x42_39 ∧ Aside0 (pouchref06_Next.j0 kq t108 x42_39 t104 t105 t106 ((t103) % 256) 0 (⟨#[]⟩ : ByteArray) (⟨#[]⟩ : ByteArray) = some (r1, r2, r3, r4, r5)) ∧ Aside0 (kq ≤ k) ∧ Aside0 (wc.heap[gb101]? = some (.cells #[.int .u8 0, .int .u32 0, .string (⟨#[]⟩ : ByteArray), .string (⟨#[]⟩ : ByteArray)] 58 (0, 0))) ∧ Aside0 (wc.heap[gb107]? = some (.cells #[.int .u8 ((t103) % 256), .int .u32 0, .string (⟨#[]⟩ : ByteArray), .string (⟨#[]⟩ : ByteArray)] 58 (0, 0))) ∧ Aside0 (IsS45 w wc gb102 t104 t105 t106) ∧ Aside0 (Below w.heap.size w wc))
       case first =>
        have H := HC40.out
        clear HC40
        by_cases c41 : t108 = 5
        ·rw [if_pos c41] at H
         have c41b0 : (t108 == 5) = true := beq_iff_eq.mpr c41
         have c41b1 : (t108 != 5) = false := bne_eq_false_iff_eq.mpr c41
         clear c41
         (first | rw [c41b0] | (simp only [i64_w, i32_w]; rw [c41b0]) | skip)
         have H' := Aside0.mk H
         clear H
         go_wp2
         go_meet
         case rel => exact ⟨_, ((t108 == 5)), (by first | rfl | (simp; done) | (simp [*]; done)), H', ⟨by first | omega | exact Nat.le_refl _⟩, ⟨by (with_reducible repeat (first | refine blk_drewN ?_ _ | refine blk_drew ?_ | refine blk_alloc ?_ _)); refine blk_far ?_ NB101_107.out _; (with_reducible repeat (first | refine blk_drewN ?_ _ | refine blk_drew ?_ | refine blk_alloc ?_ _)); refine blk_far ?_ NB101_107.out _; (with_reducible repeat (first | refine blk_drewN ?_ _ | refine blk_drew ?_ | refine blk_alloc ?_ _)); refine blk_far ?_ NB101_107.out _; (with_reducible repeat (first | refine blk_drewN ?_ _ | refine blk_drew ?_ | refine blk_alloc ?_ _)); refine blk_far ?_ NB101_107.out _; (with_reducible repeat (first | refine blk_drewN ?_ _ | refine blk_drew ?_ | refine blk_alloc ?_ _)); exact BK101.out⟩, ⟨by (with_reducible repeat (first | refine blk_drewN ?_ _ | refine blk_drew ?_ | refine blk_alloc ?_ _)); refine blk_put (cs := #[.int .u8 ((t103) % 256), .int .u32 0, .string (⟨#[]⟩ : ByteArray), .string (⟨#[]⟩ : ByteArray)]) ?_ 3 _ rfl; (with_reducible repeat (first | refine blk_drewN ?_ _ | refine blk_drew ?_ | refine blk_alloc ?_ _)); refine blk_put (cs := #[.int .u8 ((t103) % 256), .int .u32 0, .string (⟨#[]⟩ : ByteArray), .string (⟨#[]⟩ : ByteArray)]) ?_ 2 _ rfl; (with_reducible repeat (first | refine blk_drewN ?_ _ | refine blk_drew ?_ | refine blk_alloc ?_ _)); refine blk_put (cs := #[.int .u8 ((t103) % 256), .int .u32 0, .string (⟨#[]⟩ : ByteArray), .string (⟨#[]⟩ : ByteArray)]) ?_ 1 _ rfl; (with_reducible repeat (first | refine blk_drewN ?_ _ | refine blk_drew ?_ | refine blk_alloc ?_ _)); refine blk_put (cs := #[.int .u8 0, .int .u32 0, .string (⟨#[]⟩ : ByteArray), .string (⟨#[]⟩ : ByteArray)]) ?_ 0 _ rfl; (with_reducible repeat (first | refine blk_drewN ?_ _ | refine blk_drew ?_ | refine blk_alloc ?_ _)); exact BK107.out⟩, ⟨by repeat (first | (with_reducible first | exact HI102.out | apply IsS45.alloc | apply IsS45.drewN | apply IsS45.drew | apply IsS45.set_0 | apply IsS45.set_1 | apply IsS45.set_2 | refine IsS45.far ?_ NB102_101.out _ | refine IsS45.far ?_ NB102_107.out _) | exact HI102.out)⟩, ⟨by repeat (first | (with_reducible first | exact HB.out | apply below_alloc | apply pw_below_drewN | apply below_drew1 | refine below_set ?_ (IsS45.ge HI102.out) | refine below_set ?_ GE101.out | refine below_set ?_ GE107.out) | exact HB.out)⟩⟩
        ·rw [if_neg c41] at H
         have c41b0 : (t108 == 5) = false := beq_eq_false_iff_ne.mpr c41
         have c41b1 : (t108 != 5) = true := bne_iff_ne.mpr c41
         (first | rw [c41b0] | (simp only [i64_w, i32_w]; rw [c41b0]) | skip)
         have H' := Aside0.mk H
         clear H
         go_wp2
         go_meet
         case rel => exact ⟨_, ((t108 == 6)), (by first | rfl | (simp; done) | (simp [*]; done)), H', ⟨by first | omega | exact Nat.le_refl _⟩, ⟨by (with_reducible repeat (first | refine blk_drewN ?_ _ | refine blk_drew ?_ | refine blk_alloc ?_ _)); refine blk_far ?_ NB101_107.out _; (with_reducible repeat (first | refine blk_drewN ?_ _ | refine blk_drew ?_ | refine blk_alloc ?_ _)); refine blk_far ?_ NB101_107.out _; (with_reducible repeat (first | refine blk_drewN ?_ _ | refine blk_drew ?_ | refine blk_alloc ?_ _)); refine blk_far ?_ NB101_107.out _; (with_reducible repeat (first | refine blk_drewN ?_ _ | refine blk_drew ?_ | refine blk_alloc ?_ _)); refine blk_far ?_ NB101_107.out _; (with_reducible repeat (first | refine blk_drewN ?_ _ | refine blk_drew ?_ | refine blk_alloc ?_ _)); exact BK101.out⟩, ⟨by (with_reducible repeat (first | refine blk_drewN ?_ _ | refine blk_drew ?_ | refine blk_alloc ?_ _)); refine blk_put (cs := #[.int .u8 ((t103) % 256), .int .u32 0, .string (⟨#[]⟩ : ByteArray), .string (⟨#[]⟩ : ByteArray)]) ?_ 3 _ rfl; (with_reducible repeat (first | refine blk_drewN ?_ _ | refine blk_drew ?_ | refine blk_alloc ?_ _)); refine blk_put (cs := #[.int .u8 ((t103) % 256), .int .u32 0, .string (⟨#[]⟩ : ByteArray), .string (⟨#[]⟩ : ByteArray)]) ?_ 2 _ rfl; (with_reducible repeat (first | refine blk_drewN ?_ _ | refine blk_drew ?_ | refine blk_alloc ?_ _)); refine blk_put (cs := #[.int .u8 ((t103) % 256), .int .u32 0, .string (⟨#[]⟩ : ByteArray), .string (⟨#[]⟩ : ByteArray)]) ?_ 1 _ rfl; (with_reducible repeat (first | refine blk_drewN ?_ _ | refine blk_drew ?_ | refine blk_alloc ?_ _)); refine blk_put (cs := #[.int .u8 0, .int .u32 0, .string (⟨#[]⟩ : ByteArray), .string (⟨#[]⟩ : ByteArray)]) ?_ 0 _ rfl; (with_reducible repeat (first | refine blk_drewN ?_ _ | refine blk_drew ?_ | refine blk_alloc ?_ _)); exact BK107.out⟩, ⟨by repeat (first | (with_reducible first | exact HI102.out | apply IsS45.alloc | apply IsS45.drewN | apply IsS45.drew | apply IsS45.set_0 | apply IsS45.set_1 | apply IsS45.set_2 | refine IsS45.far ?_ NB102_101.out _ | refine IsS45.far ?_ NB102_107.out _) | exact HI102.out)⟩, ⟨by repeat (first | (with_reducible first | exact HB.out | apply below_alloc | apply pw_below_drewN | apply below_drew1 | refine below_set ?_ (IsS45.ge HI102.out) | refine below_set ?_ GE101.out | refine below_set ?_ GE107.out) | exact HB.out)⟩⟩
       case rest =>
        clear HC40
        try clear c1
        try clear c2
        try clear p2
        try clear c3
        try clear c4
        try clear c6
        try clear c7
        try clear c9
        try clear c10
        try clear c12
        try clear c12b0
        try clear c12b1
        try clear c13
        try clear c14
        try clear c16
        try clear c16b0
        try clear c16b1
        try clear c19
        try clear c20
        try clear c22
        try clear c22b0
        try clear c22b1
        try clear c25
        try clear c26
        try clear c28
        try clear c28b0
        try clear c28b1
        try clear c31
        try clear c32
        try clear c34
        try clear c34b0
        try clear c34b1
        try clear c37
        try clear c38
        try clear c41
        try clear c41b0
        try clear c41b1
        try clear hcz11_0
        try clear hcz11_1
        try clear hcz11_2
        try clear hcz11_3
        try clear hcz15_0
        try clear hcz15_1
        try clear hcz15_2
        try clear hcz15_3
        try clear hcz21_0
        try clear hcz21_1
        try clear hcz21_2
        try clear hcz21_3
        try clear hcz27_0
        try clear hcz27_1
        try clear hcz27_2
        try clear hcz27_3
        try clear hcz33_0
        try clear hcz33_1
        try clear hcz33_2
        try clear hcz33_3
        try clear hcz39_0
        try clear hcz39_1
        try clear hcz39_2
        try clear hcz39_3
        try clear hfz11_0
        try clear hfz11_1
        try clear hfz11_2
        try clear hfz11_3
        try clear hfz15_0
        try clear hfz15_1
        try clear hfz15_2
        try clear hfz15_3
        try clear hfz21_0
        try clear hfz21_1
        try clear hfz21_2
        try clear hfz21_3
        try clear hfz27_0
        try clear hfz27_1
        try clear hfz27_2
        try clear hfz27_3
        try clear hfz33_0
        try clear hfz33_1
        try clear hfz33_2
        try clear hfz33_3
        try clear hfz39_0
        try clear hfz39_1
        try clear hfz39_2
        try clear hfz39_3
        obtain ⟨kq, x42_39, rfl, HA, HJ39, BK101, BK107, HI102, HB⟩ := hcut
        cases kq with
        | zero => exact absurd HA.out (by simp [pouchref06_Next.j0])
        | succ kj39 =>
         have H := HA.out
         clear HA
         simp only [pouchref06_Next.j0] at H
         by_cases c42 : x42_39 = true
         ·subst c42
          have H1 : ((pouchref01_Reader_Bin.f kj39 t104 t105 t106).bind fun bt125 => (pouchref06_Next.j1 kj39 bt125.2.1 bt125.2.2.1 bt125.2.2.2 ((t103) % 256) 0 bt125.1 (⟨#[]⟩ : ByteArray))) = some (r1, r2, r3, r4, r5) := by rw [if_pos rfl] at H; exact H
          clear H
          have H := H1
          clear H1
          replace H := Option.bind_eq_some_iff.mp H
          obtain ⟨⟨t125, t126, t127, t128⟩, A430, H⟩ := H
          replace H : (pouchref06_Next.j1 kj39 t126 t127 t128 ((t103) % 256) 0 t125 (⟨#[]⟩ : ByteArray)) = some (r1, r2, r3, r4, r5) := H
          have A43 := Aside0.mk A430
          clear A430
          have H' := Aside0.mk H
          clear H
          go_wp2_with (first | ((with_reducible refine gate_callee (f := 77) rfl ?_); refine goesL_ (some 46) rfl rfl Tryd.func77 (by kernel_rfl) rfl #[.pointer (some ⟨gb102, 0, none⟩)] rfl z49z5 ?_; (with_reducible refine (pouchref01_Reader_Bin.calls kj39 gb102 t104 t105 t106 t125 t126 t127 t128 w _ ?side1 ?side2 A43.out).mono ?_); (case side1 => exact z49z2); (case side2 => exact z49z3); rintro e w44 ⟨rfl, hi, hb, hk⟩; refine ⟨_, rfl, ?_⟩; have n0_ := Aside0.mk (KeepBut.blk hk (g' := gb101) (o := .cells #[.int .u8 0, .int .u32 0, .string (⟨#[]⟩ : ByteArray), .string (⟨#[]⟩ : ByteArray)] 58 (0, 0)) z49z4 NB101_102.out (by simp)); have n1_ := Aside0.mk (KeepBut.blk hk (g' := gb107) (o := .cells #[.int .u8 ((t103) % 256), .int .u32 0, .string (⟨#[]⟩ : ByteArray), .string (⟨#[]⟩ : ByteArray)] 58 (0, 0)) z49z8 NB107_102.out (by simp)); have n2_ := Aside0.mk (hb); have n3_ := Aside0.mk (hi); replace BK101 := n0_; replace BK107 := n1_; replace HB := n2_; replace HI102 := n3_; clear n0_ n1_ n2_ n3_; clear hb hk hi; have hnb45 := NB107_101.out; have hnc45 := NB101_107.out; have hnb46 := NB107_102.out; have hnc46 := NB102_107.out; have hcz47_0 := cc4_0 BK107.out; have hcz47_1 := cc4_1 BK107.out; have hcz47_2 := cc4_2 BK107.out; have hcz47_3 := cc4_3 BK107.out; have hfz47_0 := blk_frozen BK107.out 0; have hfz47_1 := blk_frozen BK107.out 1; have hfz47_2 := blk_frozen BK107.out 2; have hfz47_3 := blk_frozen BK107.out 3))
          go_meet
          case rel => exact ⟨_, (0), (0), ((⟨#[]⟩ : ByteArray)), ((⟨#[]⟩ : ByteArray)), (t126), (t127), (t128), (0), (t125), ((⟨#[]⟩ : ByteArray)), H', ⟨by have := HJ39.out; first | omega | exact Nat.le_refl _⟩, ⟨by (with_reducible repeat (first | refine blk_drewN ?_ _ | refine blk_drew ?_ | refine blk_alloc ?_ _)); refine blk_far ?_ NB101_107.out _; (with_reducible repeat (first | refine blk_drewN ?_ _ | refine blk_drew ?_ | refine blk_alloc ?_ _)); exact BK101.out⟩, ⟨by (with_reducible repeat (first | refine blk_drewN ?_ _ | refine blk_drew ?_ | refine blk_alloc ?_ _)); refine blk_put (cs := #[.int .u8 ((t103) % 256), .int .u32 0, .string (⟨#[]⟩ : ByteArray), .string (⟨#[]⟩ : ByteArray)]) ?_ 2 _ rfl; (with_reducible repeat (first | refine blk_drewN ?_ _ | refine blk_drew ?_ | refine blk_alloc ?_ _)); exact BK107.out⟩, ⟨by repeat (first | (with_reducible first | exact HI102.out | apply IsS45.alloc | apply IsS45.drewN | apply IsS45.drew | apply IsS45.set_0 | apply IsS45.set_1 | apply IsS45.set_2 | refine IsS45.far ?_ NB102_101.out _ | refine IsS45.far ?_ NB102_107.out _) | exact HI102.out)⟩, ⟨by repeat (first | (with_reducible first | exact HB.out | apply below_alloc | apply pw_below_drewN | apply below_drew1 | refine below_set ?_ (IsS45.ge HI102.out) | refine below_set ?_ GE101.out | refine below_set ?_ GE107.out) | exact HB.out)⟩⟩
         ·replace c42 := Bool.eq_false_iff.mpr c42
          subst c42
          have H1 : (if t108 = 7 then ((pouchref01_Reader_Bin.f kj39 t104 t105 t106).bind fun bt129 => ((pouchref01_Reader_Bin.f kj39 bt129.2.1 bt129.2.2.1 bt129.2.2.2).bind fun bt133 => (pouchref06_Next.j1 kj39 bt133.2.1 bt133.2.2.1 bt133.2.2.2 ((t103) % 256) 0 bt129.1 bt133.1))) else (pouchref06_Next.j1 kj39 t104 t105 t106 ((t103) % 256) 0 (⟨#[]⟩ : ByteArray) (⟨#[]⟩ : ByteArray))) = some (r1, r2, r3, r4, r5) := by rw [if_neg (show ¬ (false = true) by decide)] at H; exact H
          clear H
          have H := H1
          clear H1
          by_cases c48 : t108 = 7
          ·rw [if_pos c48] at H
           have c48b0 : (t108 == 7) = true := beq_iff_eq.mpr c48
           have c48b1 : (t108 != 7) = false := bne_eq_false_iff_eq.mpr c48
           clear c48
           replace H := Option.bind_eq_some_iff.mp H
           obtain ⟨⟨t129, t130, t131, t132⟩, A490, H⟩ := H
           replace H : ((pouchref01_Reader_Bin.f kj39 t130 t131 t132).bind fun bt133 => (pouchref06_Next.j1 kj39 bt133.2.1 bt133.2.2.1 bt133.2.2.2 ((t103) % 256) 0 t129 bt133.1)) = some (r1, r2, r3, r4, r5) := H
           have A49 := Aside0.mk A490
           clear A490
           replace H := Option.bind_eq_some_iff.mp H
           obtain ⟨⟨t133, t134, t135, t136⟩, A500, H⟩ := H
           replace H : (pouchref06_Next.j1 kj39 t134 t135 t136 ((t103) % 256) 0 t129 t133) = some (r1, r2, r3, r4, r5) := H
           have A50 := Aside0.mk A500
           clear A500
           have H' := Aside0.mk H
           clear H
           go_wp2_with (first | ((with_reducible refine gate_callee (f := 77) rfl ?_); refine goesL_ (some 51) rfl rfl Tryd.func77 (by kernel_rfl) rfl #[.pointer (some ⟨gb102, 0, none⟩)] rfl z49z5 ?_; (with_reducible refine (pouchref01_Reader_Bin.calls kj39 gb102 t104 t105 t106 t129 t130 t131 t132 w _ ?side1 ?side2 A49.out).mono ?_); (case side1 => exact z49z2); (case side2 => exact z49z3); rintro e w51 ⟨rfl, hi, hb, hk⟩; refine ⟨_, rfl, ?_⟩; have n0_ := Aside0.mk (KeepBut.blk hk (g' := gb101) (o := .cells #[.int .u8 0, .int .u32 0, .string (⟨#[]⟩ : ByteArray), .string (⟨#[]⟩ : ByteArray)] 58 (0, 0)) z49z4 NB101_102.out (by simp)); have n1_ := Aside0.mk (KeepBut.blk hk (g' := gb107) (o := .cells #[.int .u8 ((t103) % 256), .int .u32 0, .string (⟨#[]⟩ : ByteArray), .string (⟨#[]⟩ : ByteArray)] 58 (0, 0)) z49z8 NB107_102.out (by simp)); have n2_ := Aside0.mk (hb); have n3_ := Aside0.mk (hi); replace BK101 := n0_; replace BK107 := n1_; replace HB := n2_; replace HI102 := n3_; clear n0_ n1_ n2_ n3_; clear hb hk hi; have hnb52 := NB107_101.out; have hnc52 := NB101_107.out; have hnb53 := NB107_102.out; have hnc53 := NB102_107.out; have hcz54_0 := cc4_0 BK107.out; have hcz54_1 := cc4_1 BK107.out; have hcz54_2 := cc4_2 BK107.out; have hcz54_3 := cc4_3 BK107.out; have hfz54_0 := blk_frozen BK107.out 0; have hfz54_1 := blk_frozen BK107.out 1; have hfz54_2 := blk_frozen BK107.out 2; have hfz54_3 := blk_frozen BK107.out 3) | ((with_reducible refine gate_callee (f := 77) rfl ?_); refine goesL_ (some 54) rfl rfl Tryd.func77 (by kernel_rfl) rfl #[.pointer (some ⟨gb102, 0, none⟩)] rfl z49z5 ?_; (with_reducible refine (pouchref01_Reader_Bin.calls kj39 gb102 t130 t131 t132 t133 t134 t135 t136 w _ ?side1 ?side2 A50.out).mono ?_); (case side1 => exact z49z2); (case side2 => exact z49z3); rintro e w55 ⟨rfl, hi, hb, hk⟩; refine ⟨_, rfl, ?_⟩; have n0_ := Aside0.mk (KeepBut.blk hk (g' := gb101) (o := .cells #[.int .u8 0, .int .u32 0, .string (⟨#[]⟩ : ByteArray), .string (⟨#[]⟩ : ByteArray)] 58 (0, 0)) (by (with_reducible repeat (first | refine blk_drewN ?_ _ | refine blk_drew ?_ | refine blk_alloc ?_ _)); refine blk_far ?_ NB101_107.out _; (with_reducible repeat (first | refine blk_drewN ?_ _ | refine blk_drew ?_ | refine blk_alloc ?_ _)); exact BK101.out) NB101_102.out (by simp)); have n1_ := Aside0.mk (KeepBut.blk hk (g' := gb107) (o := .cells #[.int .u8 ((t103) % 256), .int .u32 0, .string t129, .string (⟨#[]⟩ : ByteArray)] 58 (0, 0)) (by (with_reducible repeat (first | refine blk_drewN ?_ _ | refine blk_drew ?_ | refine blk_alloc ?_ _)); refine blk_put (cs := #[.int .u8 ((t103) % 256), .int .u32 0, .string (⟨#[]⟩ : ByteArray), .string (⟨#[]⟩ : ByteArray)]) ?_ 2 _ rfl; (with_reducible repeat (first | refine blk_drewN ?_ _ | refine blk_drew ?_ | refine blk_alloc ?_ _)); exact BK107.out) NB107_102.out (by simp)); have n2_ := Aside0.mk (hb); have n3_ := Aside0.mk (hi); replace BK101 := n0_; replace BK107 := n1_; replace HB := n2_; replace HI102 := n3_; clear n0_ n1_ n2_ n3_; clear hb hk hi; have hcz56_0 := cc4_0 BK107.out; have hcz56_1 := cc4_1 BK107.out; have hcz56_2 := cc4_2 BK107.out; have hcz56_3 := cc4_3 BK107.out; have hfz56_0 := blk_frozen BK107.out 0; have hfz56_1 := blk_frozen BK107.out 1; have hfz56_2 := blk_frozen BK107.out 2; have hfz56_3 := blk_frozen BK107.out 3))
           go_meet
           case rel => exact ⟨_, (0), (0), ((⟨#[]⟩ : ByteArray)), ((⟨#[]⟩ : ByteArray)), (t134), (t135), (t136), (0), (t129), (t133), H', ⟨by have := HJ39.out; first | omega | exact Nat.le_refl _⟩, ⟨by (with_reducible repeat (first | refine blk_drewN ?_ _ | refine blk_drew ?_ | refine blk_alloc ?_ _)); refine blk_far ?_ NB101_107.out _; (with_reducible repeat (first | refine blk_drewN ?_ _ | refine blk_drew ?_ | refine blk_alloc ?_ _)); exact BK101.out⟩, ⟨by (with_reducible repeat (first | refine blk_drewN ?_ _ | refine blk_drew ?_ | refine blk_alloc ?_ _)); refine blk_put (cs := #[.int .u8 ((t103) % 256), .int .u32 0, .string t129, .string (⟨#[]⟩ : ByteArray)]) ?_ 3 _ rfl; (with_reducible repeat (first | refine blk_drewN ?_ _ | refine blk_drew ?_ | refine blk_alloc ?_ _)); exact BK107.out⟩, ⟨by repeat (first | (with_reducible first | exact HI102.out | apply IsS45.alloc | apply IsS45.drewN | apply IsS45.drew | apply IsS45.set_0 | apply IsS45.set_1 | apply IsS45.set_2 | refine IsS45.far ?_ NB102_101.out _ | refine IsS45.far ?_ NB102_107.out _) | exact HI102.out)⟩, ⟨by repeat (first | (with_reducible first | exact HB.out | apply below_alloc | apply pw_below_drewN | apply below_drew1 | refine below_set ?_ (IsS45.ge HI102.out) | refine below_set ?_ GE101.out | refine below_set ?_ GE107.out) | exact HB.out)⟩⟩
          ·rw [if_neg c48] at H
           have c48b0 : (t108 == 7) = false := beq_eq_false_iff_ne.mpr c48
           have c48b1 : (t108 != 7) = true := bne_iff_ne.mpr c48
           have H' := Aside0.mk H
           clear H
           go_wp2
           go_meet
           case rel => exact ⟨_, (0), (0), ((⟨#[]⟩ : ByteArray)), ((⟨#[]⟩ : ByteArray)), (t104), (t105), (t106), (0), ((⟨#[]⟩ : ByteArray)), ((⟨#[]⟩ : ByteArray)), H', ⟨by have := HJ39.out; first | omega | exact Nat.le_refl _⟩, ⟨by (with_reducible repeat (first | refine blk_drewN ?_ _ | refine blk_drew ?_ | refine blk_alloc ?_ _)); exact BK101.out⟩, ⟨by (with_reducible repeat (first | refine blk_drewN ?_ _ | refine blk_drew ?_ | refine blk_alloc ?_ _)); exact BK107.out⟩, ⟨by repeat (first | (with_reducible first | exact HI102.out | apply IsS45.alloc | apply IsS45.drewN | apply IsS45.drew | apply IsS45.set_0 | apply IsS45.set_1 | apply IsS45.set_2 | refine IsS45.far ?_ NB102_101.out _ | refine IsS45.far ?_ NB102_107.out _) | exact HI102.out)⟩, ⟨by repeat (first | (with_reducible first | exact HB.out | apply below_alloc | apply pw_below_drewN | apply below_drew1 | refine below_set ?_ (IsS45.ge HI102.out) | refine below_set ?_ GE101.out | refine below_set ?_ GE107.out) | exact HB.out)⟩⟩
 case rest =>
  clear HC4
  try clear c1
  try clear c2
  try clear p2
  try clear c3
  try clear c4
  try clear c5
  try clear c6
  try clear c7
  try clear c9
  try clear c10
  try clear c12
  try clear c12b0
  try clear c12b1
  try clear c13
  try clear c14
  try clear c16
  try clear c16b0
  try clear c16b1
  try clear c19
  try clear c20
  try clear c22
  try clear c22b0
  try clear c22b1
  try clear c25
  try clear c26
  try clear c28
  try clear c28b0
  try clear c28b1
  try clear c31
  try clear c32
  try clear c34
  try clear c34b0
  try clear c34b1
  try clear c37
  try clear c38
  try clear c41
  try clear c41b0
  try clear c41b1
  try clear c42
  try clear c45
  try clear c46
  try clear c48
  try clear c48b0
  try clear c48b1
  try clear c49
  try clear c52
  try clear c53
  try clear hcz11_0
  try clear hcz11_1
  try clear hcz11_2
  try clear hcz11_3
  try clear hcz15_0
  try clear hcz15_1
  try clear hcz15_2
  try clear hcz15_3
  try clear hcz21_0
  try clear hcz21_1
  try clear hcz21_2
  try clear hcz21_3
  try clear hcz27_0
  try clear hcz27_1
  try clear hcz27_2
  try clear hcz27_3
  try clear hcz33_0
  try clear hcz33_1
  try clear hcz33_2
  try clear hcz33_3
  try clear hcz39_0
  try clear hcz39_1
  try clear hcz39_2
  try clear hcz39_3
  try clear hcz47_0
  try clear hcz47_1
  try clear hcz47_2
  try clear hcz47_3
  try clear hcz54_0
  try clear hcz54_1
  try clear hcz54_2
  try clear hcz54_3
  try clear hcz56_0
  try clear hcz56_1
  try clear hcz56_2
  try clear hcz56_3
  try clear hfz11_0
  try clear hfz11_1
  try clear hfz11_2
  try clear hfz11_3
  try clear hfz15_0
  try clear hfz15_1
  try clear hfz15_2
  try clear hfz15_3
  try clear hfz21_0
  try clear hfz21_1
  try clear hfz21_2
  try clear hfz21_3
  try clear hfz27_0
  try clear hfz27_1
  try clear hfz27_2
  try clear hfz27_3
  try clear hfz33_0
  try clear hfz33_1
  try clear hfz33_2
  try clear hfz33_3
  try clear hfz39_0
  try clear hfz39_1
  try clear hfz39_2
  try clear hfz39_3
  try clear hfz47_0
  try clear hfz47_1
  try clear hfz47_2
  try clear hfz47_3
  try clear hfz54_0
  try clear hfz54_1
  try clear hfz54_2
  try clear hfz54_3
  try clear hfz56_0
  try clear hfz56_1
  try clear hfz56_2
  try clear hfz56_3
  try clear p2
  obtain ⟨kq, x102000_3, x102001_3, x102002_3, x102003_3, x103000_3, x103001_3, x103002_3, x108001_3, x108002_3, x108003_3, HA, HJ3, BK101, BK107, HI102, HB⟩ := hcut
  cases kq with
  | zero => exact absurd HA.out (by simp [pouchref06_Next.j1])
  | succ kj3 =>
   have H := HA.out
   clear HA
   simp only [pouchref06_Next.j1] at H
   by_cases c57 : x103002_3 = 0
   ·rw [if_pos c57] at H
    have c57b0 : (x103002_3 == 0) = true := beq_iff_eq.mpr c57
    have c57b1 : (x103002_3 != 0) = false := bne_eq_false_iff_eq.mpr c57
    clear c57
    replace H := Option.bind_eq_some_iff.mp H
    obtain ⟨t137, A580, H⟩ := H
    replace H : (if t137 = true then (some (((t103) % 256), x108001_3, x108002_3, x108003_3, x103001_3)) else (some (0, 0, (⟨#[]⟩ : ByteArray), (⟨#[]⟩ : ByteArray), 0))) = some (r1, r2, r3, r4, r5) := H
    have A58 := Aside0.mk A580
    clear A580
    by_cases c59 : t137 = true
    ·subst c59
     have H1 : (some (((t103) % 256), x108001_3, x108002_3, x108003_3, x103001_3)) = some (r1, r2, r3, r4, r5) := by rw [if_pos rfl] at H; exact H
     clear H
     have H := H1
     clear H1
     simp only [Option.some.injEq, Prod.mk.injEq] at H
     obtain ⟨rfl, rfl, rfl, rfl, rfl⟩ := H
     obtain ⟨HGz60, hgz60⟩ := HI102.out
     have hcz60_0 := cellS45_0 HGz60
     have hcz60_1 := cellS45_1 HGz60
     have hcz60_2 := cellS45_2 HGz60
     have hfz60_0 := blk_frozen HGz60 0
     have hfz60_1 := blk_frozen HGz60 1
     have hfz60_2 := blk_frozen HGz60 2
     clear HGz60 hgz60
     have hnb61 := NB107_101.out
     have hnc61 := NB101_107.out
     have hnb62 := NB107_102.out
     have hnc62 := NB102_107.out
     have hcz63_0 := cc4_0 BK107.out
     have hcz63_1 := cc4_1 BK107.out
     have hcz63_2 := cc4_2 BK107.out
     have hcz63_3 := cc4_3 BK107.out
     have hfz63_0 := blk_frozen BK107.out 0
     have hfz63_1 := blk_frozen BK107.out 1
     have hfz63_2 := blk_frozen BK107.out 2
     have hfz63_3 := blk_frozen BK107.out 3
     try go_wp2_with (first | (go_at_call 38; (with_reducible refine (pouchref05_Right.calls kj3 ((t103) % 256) x108001_3 x108002_3 x108003_3 true _ A58.out).mono ?_); rintro e w64 ⟨rfl, hb⟩; have n0_ := Aside0.mk (blk_below (g := gb101) (o := .cells #[.int .u8 x102000_3, .int .u32 x102001_3, .string x102002_3, .string x102003_3] 58 (0, 0)) z49z4 hb); have n1_ := Aside0.mk (blk_below (g := gb107) (o := .cells #[.int .u8 ((t103) % 256), .int .u32 x108001_3, .string x108002_3, .string x108003_3] 58 (0, 0)) z49z8 hb); have n2_ := Aside0.mk (IsS45.below z49z2 hb); have n3_ := Aside0.mk (below_step z49z3 hb); replace BK101 := n0_; replace BK107 := n1_; replace HI102 := n2_; replace HB := n3_; clear n0_ n1_ n2_ n3_; clear hb))
     have n0_ := Aside0.mk (blk_drew BK101.out)
     have n1_ := Aside0.mk (blk_drew BK107.out)
     have n2_ := Aside0.mk (IsS45.drew HI102.out)
     have n3_ := Aside0.mk (below_drew1 HB.out)
     clear BK101
     clear BK107
     clear HI102
     clear HB
     have BK101 := n0_
     have BK107 := n1_
     have HI102 := n2_
     have HB := n3_
     clear n0_ n1_ n2_ n3_
     refine start_ (n := 7) (S := fun w' => w'.cell? ⟨gb107, 0, none⟩ = some (.int .u8 ((t103) % 256)) ∧ w'.cell? ⟨gb107, 1, none⟩ = some (.int .u32 x108001_3) ∧ w'.cell? ⟨gb107, 2, none⟩ = some (.string x108002_3) ∧ w'.cell? ⟨gb107, 3, none⟩ = some (.string x108003_3) ∧ w'.cell? ⟨gb102, 0, none⟩ = some (.string x103000_3) ∧ w'.cell? ⟨gb102, 1, none⟩ = some (.int .i64 x103001_3) ∧ w'.cell? ⟨gb102, 2, none⟩ = some (.int .i64 x103002_3)) (ds := []) #[false, false, false, false, false, false, false] (by kernel_rfl) rfl rfl ⟨(blk_cell BK107.out 0).trans rfl, (blk_cell BK107.out 1).trans rfl, (blk_cell BK107.out 2).trans rfl, (blk_cell BK107.out 3).trans rfl, (blk_cell (Aside0.mk HI102.out.1).out 0).trans rfl, (blk_cell (Aside0.mk HI102.out.1).out 1).trans rfl, (blk_cell (Aside0.mk HI102.out.1).out 2).trans rfl⟩ (fun hHeld => ?_)
     generalize w64.drew = w65 at BK101 BK107 HI102 HB hHeld ⊢
     refine pure_ (i := 1) (N := some 68) (v := ?_) (a' := ?_) #[false, true, false, false, false, false, false] rfl rfl (by kernel_rfl) (fun _ _ _ h => h) (Or.inl ⟨by rfl, ?_⟩) ?_ ?_
     rotate_left
     ·intro w'
      go_simp
      with_reducible rfl
     rotate_left
     ·simp only [Act.put, List.setIfInBounds_toArray, List.set_cons_zero, List.set_cons_succ, i64_w, i32_w]
      rfl
     refine pure_ (i := 2) (N := some 69) (v := ?_) (a' := ?_) #[false, true, true, false, false, false, false] rfl rfl (by kernel_rfl) (fun _ _ _ h => h) (Or.inl ⟨by rfl, ?_⟩) ?_ ?_
     rotate_left
     ·intro w'
      go_simp
      with_reducible rfl
     rotate_left
     ·simp only [Act.put, List.setIfInBounds_toArray, List.set_cons_zero, List.set_cons_succ, i64_w, i32_w]
      rfl
     refine pure_ (i := 3) (N := some 70) (v := ?_) (a' := ?_) #[false, true, true, true, false, false, false] rfl rfl (by kernel_rfl) (fun _ _ _ h => h) (Or.inl ⟨by rfl, ?_⟩) ?_ ?_
     rotate_left
     ·intro w'
      go_simp
      with_reducible rfl
     rotate_left
     ·simp only [Act.put, List.setIfInBounds_toArray, List.set_cons_zero, List.set_cons_succ, i64_w, i32_w]
      rfl
     refine take_ (i := 0) (N := some 67) (v := ?_) (a' := ?_) #[true, true, true, true, false, false, false] rfl rfl (by kernel_rfl) (fun _ _ _ h => h) (Or.inl ⟨by rfl, ?_⟩) hHeld ?_ ?_
     rotate_left
     ·rintro w' ⟨s0, s1, s2, s3, s4, s5, s6⟩
      go_simp
      with_reducible rfl
     rotate_left
     ·simp only [Act.put, List.setIfInBounds_toArray, List.set_cons_zero, List.set_cons_succ, i64_w, i32_w]
      rfl
     refine take_ (i := 4) (N := some 71) (v := ?_) (a' := ?_) #[true, true, true, true, true, false, false] rfl rfl (by kernel_rfl) (fun _ _ _ h => h) (Or.inl ⟨by rfl, ?_⟩) hHeld ?_ ?_
     rotate_left
     ·rintro w' ⟨s0, s1, s2, s3, s4, s5, s6⟩
      go_simp
      with_reducible rfl
     rotate_left
     ·simp only [Act.put, List.setIfInBounds_toArray, List.set_cons_zero, List.set_cons_succ, i64_w, i32_w]
      rfl
     refine one_ (i := 5) (N := none) #[true, true, true, true, true, true, false] rfl rfl (by kernel_rfl) (by decide) (fun K hK => ?_)
     have hs66 : w65.cell? ⟨gb101, 0, none⟩ = some (.int .u8 x102000_3) := (blk_cell BK101.out 0).trans rfl
     have hfs66 := blk_frozen BK101.out 0
     have hns66_1 := NB107_101.out
     have hms66_1 := NB101_107.out
     have hs67 : w65.cell? ⟨gb101, 1, none⟩ = some (.int .u32 x102001_3) := (blk_cell BK101.out 1).trans rfl
     have hfs67 := blk_frozen BK101.out 1
     have hns67_1 := NB107_101.out
     have hms67_1 := NB101_107.out
     have hs68 : w65.cell? ⟨gb101, 2, none⟩ = some (.string x102002_3) := (blk_cell BK101.out 2).trans rfl
     have hfs68 := blk_frozen BK101.out 2
     have hns68_1 := NB107_101.out
     have hms68_1 := NB101_107.out
     have hs69 : w65.cell? ⟨gb101, 3, none⟩ = some (.string x102003_3) := (blk_cell BK101.out 3).trans rfl
     have hfs69 := blk_frozen BK101.out 3
     have hns69_1 := NB107_101.out
     have hms69_1 := NB101_107.out
     refine skip_ (w1 := ?_) (by rfl) rfl ?_ ?_
     rotate_left
     ·go_simp
      rfl
     refine hK.out _ _ ⟨((cell_far (p := ⟨gb101, _, none⟩) NB107_101.out _).trans (((cell_far (p := ⟨gb101, _, none⟩) NB107_101.out _).trans (((cell_far (p := ⟨gb101, _, none⟩) NB107_101.out _).trans (((cell_far (p := ⟨gb101, _, none⟩) NB107_101.out _).trans (hHeld.1)))))))), ((cell_far (p := ⟨gb101, _, none⟩) NB107_101.out _).trans (((cell_far (p := ⟨gb101, _, none⟩) NB107_101.out _).trans (((cell_far (p := ⟨gb101, _, none⟩) NB107_101.out _).trans (((cell_far (p := ⟨gb101, _, none⟩) NB107_101.out _).trans (hHeld.2.1)))))))), ((cell_far (p := ⟨gb101, _, none⟩) NB107_101.out _).trans (((cell_far (p := ⟨gb101, _, none⟩) NB107_101.out _).trans (((cell_far (p := ⟨gb101, _, none⟩) NB107_101.out _).trans (((cell_far (p := ⟨gb101, _, none⟩) NB107_101.out _).trans (hHeld.2.2.1)))))))), ((cell_far (p := ⟨gb101, _, none⟩) NB107_101.out _).trans (((cell_far (p := ⟨gb101, _, none⟩) NB107_101.out _).trans (((cell_far (p := ⟨gb101, _, none⟩) NB107_101.out _).trans (((cell_far (p := ⟨gb101, _, none⟩) NB107_101.out _).trans (hHeld.2.2.2.1)))))))), ((cell_far (p := ⟨gb101, _, none⟩) NB102_101.out _).trans (((cell_far (p := ⟨gb101, _, none⟩) NB102_101.out _).trans (((cell_far (p := ⟨gb101, _, none⟩) NB102_101.out _).trans (((cell_far (p := ⟨gb101, _, none⟩) NB102_101.out _).trans (hHeld.2.2.2.2.1)))))))), ((cell_far (p := ⟨gb101, _, none⟩) NB102_101.out _).trans (((cell_far (p := ⟨gb101, _, none⟩) NB102_101.out _).trans (((cell_far (p := ⟨gb101, _, none⟩) NB102_101.out _).trans (((cell_far (p := ⟨gb101, _, none⟩) NB102_101.out _).trans (hHeld.2.2.2.2.2.1)))))))), ((cell_far (p := ⟨gb101, _, none⟩) NB102_101.out _).trans (((cell_far (p := ⟨gb101, _, none⟩) NB102_101.out _).trans (((cell_far (p := ⟨gb101, _, none⟩) NB102_101.out _).trans (((cell_far (p := ⟨gb101, _, none⟩) NB102_101.out _).trans (hHeld.2.2.2.2.2.2))))))))⟩ (fun hHeld => ?_)
     clear hK K
     refine pure_ (i := 6) (N := some 3) (v := ?_) (a' := ?_) #[true, true, true, true, true, true, true] rfl rfl (by kernel_rfl) (fun _ _ _ h => h) (Or.inl ⟨by rfl, ?_⟩) ?_ ?_
     rotate_left
     ·intro w'
      go_simp
      with_reducible rfl
     rotate_left
     ·simp only [Act.put, List.setIfInBounds_toArray, List.set_cons_zero, List.set_cons_succ, i64_w, i32_w]
      rfl
     refine done_ (by kernel_rfl) ?_
     try go_wp2
     refine bodyPost_ret (results_ct rfl _ _ gb101 58 #[.int .u8 ((t103) % 256), .int .u32 x108001_3, .string x108002_3, .string x108003_3] (0, 0) _ rfl (by (with_reducible repeat (first | refine blk_drewN ?_ _ | refine blk_drew ?_ | refine blk_alloc ?_ _)); refine blk_put (cs := #[.int .u8 ((t103) % 256), .int .u32 x108001_3, .string x108002_3, .string x102003_3]) ?_ 3 _ rfl; (with_reducible repeat (first | refine blk_drewN ?_ _ | refine blk_drew ?_ | refine blk_alloc ?_ _)); refine blk_put (cs := #[.int .u8 ((t103) % 256), .int .u32 x108001_3, .string x102002_3, .string x102003_3]) ?_ 2 _ rfl; (with_reducible repeat (first | refine blk_drewN ?_ _ | refine blk_drew ?_ | refine blk_alloc ?_ _)); refine blk_put (cs := #[.int .u8 ((t103) % 256), .int .u32 x102001_3, .string x102002_3, .string x102003_3]) ?_ 1 _ rfl; (with_reducible repeat (first | refine blk_drewN ?_ _ | refine blk_drew ?_ | refine blk_alloc ?_ _)); refine blk_put (cs := #[.int .u8 x102000_3, .int .u32 x102001_3, .string x102002_3, .string x102003_3]) ?_ 0 _ rfl; (with_reducible repeat (first | refine blk_drewN ?_ _ | refine blk_drew ?_ | refine blk_alloc ?_ _)); exact BK101.out) Tryd.underlying58 rfl (by kernel_rfl)) rfl ?_
     exact ⟨by first | rfl | (simp [errW_none, errW_some] <;> rfl) | (simp [*, errW_none, errW_some] <;> rfl), by repeat (first | (with_reducible first | exact HB.out | apply below_alloc | apply pw_below_drewN | apply below_drew1 | refine below_set ?_ (IsS45.ge HI102.out) | refine below_set ?_ GE101.out | refine below_set ?_ GE107.out) | exact HB.out)⟩
    ·replace c59 := Bool.eq_false_iff.mpr c59
     subst c59
     have H1 : (some (0, 0, (⟨#[]⟩ : ByteArray), (⟨#[]⟩ : ByteArray), 0)) = some (r1, r2, r3, r4, r5) := by rw [if_neg (show ¬ (false = true) by decide)] at H; exact H
     clear H
     have H := H1
     clear H1
     simp only [Option.some.injEq, Prod.mk.injEq] at H
     obtain ⟨rfl, rfl, rfl, rfl, rfl⟩ := H
     obtain ⟨HGz70, hgz70⟩ := HI102.out
     have hcz70_0 := cellS45_0 HGz70
     have hcz70_1 := cellS45_1 HGz70
     have hcz70_2 := cellS45_2 HGz70
     have hfz70_0 := blk_frozen HGz70 0
     have hfz70_1 := blk_frozen HGz70 1
     have hfz70_2 := blk_frozen HGz70 2
     clear HGz70 hgz70
     have hnb71 := NB107_101.out
     have hnc71 := NB101_107.out
     have hnb72 := NB107_102.out
     have hnc72 := NB102_107.out
     have hcz73_0 := cc4_0 BK107.out
     have hcz73_1 := cc4_1 BK107.out
     have hcz73_2 := cc4_2 BK107.out
     have hcz73_3 := cc4_3 BK107.out
     have hfz73_0 := blk_frozen BK107.out 0
     have hfz73_1 := blk_frozen BK107.out 1
     have hfz73_2 := blk_frozen BK107.out 2
     have hfz73_3 := blk_frozen BK107.out 3
     go_wp2_with (first | (go_at_call 38; (with_reducible refine (pouchref05_Right.calls kj3 ((t103) % 256) x108001_3 x108002_3 x108003_3 false _ A58.out).mono ?_); rintro e w74 ⟨rfl, hb⟩; have n0_ := Aside0.mk (blk_below (g := gb101) (o := .cells #[.int .u8 x102000_3, .int .u32 x102001_3, .string x102002_3, .string x102003_3] 58 (0, 0)) z49z4 hb); have n1_ := Aside0.mk (blk_below (g := gb107) (o := .cells #[.int .u8 ((t103) % 256), .int .u32 x108001_3, .string x108002_3, .string x108003_3] 58 (0, 0)) z49z8 hb); have n2_ := Aside0.mk (IsS45.below z49z2 hb); have n3_ := Aside0.mk (below_step z49z3 hb); replace BK101 := n0_; replace BK107 := n1_; replace HI102 := n2_; replace HB := n3_; clear n0_ n1_ n2_ n3_; clear hb; have hnb75 := NB101_102.out; have hnc75 := NB102_101.out; have hcz76_0 := cc4_0 BK101.out; have hcz76_1 := cc4_1 BK101.out; have hcz76_2 := cc4_2 BK101.out; have hcz76_3 := cc4_3 BK101.out; have hfz76_0 := blk_frozen BK101.out 0; have hfz76_1 := blk_frozen BK101.out 1; have hfz76_2 := blk_frozen BK101.out 2; have hfz76_3 := blk_frozen BK101.out 3))
     refine bodyPost_ret (results_ct rfl _ _ gb101 58 #[.int .u8 0, .int .u32 0, .string (⟨#[]⟩ : ByteArray), .string (⟨#[]⟩ : ByteArray)] (0, 0) _ rfl z49z6 Tryd.underlying58 rfl (by kernel_rfl)) rfl ?_
     exact ⟨by first | rfl | (simp [errW_none, errW_some] <;> rfl) | (simp [*, errW_none, errW_some] <;> rfl), by repeat (first | (with_reducible first | exact HB.out | apply below_alloc | apply pw_below_drewN | apply below_drew1 | refine below_set ?_ (IsS45.ge HI102.out) | refine below_set ?_ GE101.out | refine below_set ?_ GE107.out) | exact HB.out)⟩
   ·rw [if_neg c57] at H
    have c57b0 : (x103002_3 == 0) = false := beq_eq_false_iff_ne.mpr c57
    have c57b1 : (x103002_3 != 0) = true := bne_iff_ne.mpr c57
    simp only [Option.some.injEq, Prod.mk.injEq] at H
    obtain ⟨rfl, rfl, rfl, rfl, rfl⟩ := H
    obtain ⟨HGz77, hgz77⟩ := HI102.out
    have hcz77_0 := cellS45_0 HGz77
    have hcz77_1 := cellS45_1 HGz77
    have hcz77_2 := cellS45_2 HGz77
    have hfz77_0 := blk_frozen HGz77 0
    have hfz77_1 := blk_frozen HGz77 1
    have hfz77_2 := blk_frozen HGz77 2
    clear HGz77 hgz77
    have hnb78 := NB101_107.out
    have hnc78 := NB107_101.out
    have hnb79 := NB101_102.out
    have hnc79 := NB102_101.out
    have hcz80_0 := cc4_0 BK101.out
    have hcz80_1 := cc4_1 BK101.out
    have hcz80_2 := cc4_2 BK101.out
    have hcz80_3 := cc4_3 BK101.out
    have hfz80_0 := blk_frozen BK101.out 0
    have hfz80_1 := blk_frozen BK101.out 1
    have hfz80_2 := blk_frozen BK101.out 2
    have hfz80_3 := blk_frozen BK101.out 3
    go_wp2
    refine bodyPost_ret (results_ct rfl _ _ gb101 58 #[.int .u8 0, .int .u32 0, .string (⟨#[]⟩ : ByteArray), .string (⟨#[]⟩ : ByteArray)] (0, 0) _ rfl z49z6 Tryd.underlying58 rfl (by kernel_rfl)) rfl ?_
    exact ⟨by first | rfl | (simp [errW_none, errW_some] <;> rfl) | (simp [*, errW_none, errW_some] <;> rfl), by repeat (first | (with_reducible first | exact HB.out | apply below_alloc | apply pw_below_drewN | apply below_drew1 | refine below_set ?_ (IsS45.ge HI102.out) | refine below_set ?_ GE101.out | refine below_set ?_ GE107.out) | exact HB.out)⟩
end Go.Proofs.YtkmkgpigmldhnaaDoor.P

namespace Go.Proofs.YtkmkgpigmldhnaaDoor.P
open Go.RowKit Go.Proofs.YtkmkgpigmldhnaaDoorW.PrintWords Go.Proofs.YtkmkgpigmldhnaaDoorW.PrintLast Go.Proofs.YtkmkgpigmldhnaaDoorW.PrintMore
attribute [local go_sem] max2_int min2_int max_two min_two max_three min_three max_four min_four
set_option linter.unusedVariables false
set_option linter.unusedSimpArgs false
def pouchref06_Each.l0 : Nat → ByteArray → List (S58) → Option ((List (S58)) × Bool)
  | 0, _, _ => none
  | k + 1, x0, x4 => if (x0.size : Int) > 0 then ((pouchref06_Next.f k x0).bind fun bt101 => (if bt101.2.2.2.2 = 0 then (some (x4, false)) else (if x4.length < 3518437208883 then (if 0 ≤ bt101.2.2.2.2 then (if bt101.2.2.2.2 ≤ (x0.size : Int) then (pouchref06_Each.l0 k (x0.extract (bt101.2.2.2.2 : Int).toNat x0.size) (x4 ++ [(⟨bt101.1, bt101.2.1, bt101.2.2.1, bt101.2.2.2.1⟩ : S58)])) else (none)) else (none)) else (none)))) else (some (x4, true))
def pouchref06_Each.f (k : Nat) (a0 : ByteArray) : Option ((List (S58)) × Bool) := pouchref06_Each.l0 k a0 ([] : List (S58))
theorem z25m0 {p : Prop} (h : p := by
 repeat' first
 | (with_reducible exact ih0 _ _)
 | (with_reducible exact pouchref06_Next.mono _ _)
 | (with_reducible exact LeO.refl _)
 | (with_reducible exact LeO.none _)
 | (with_reducible refine LeO.ite ?_ ?_)
 | (with_reducible refine LeO.bind ?_ (fun _ => ?_))
 | exact ih0 _ _
 | exact pouchref06_Next.mono _ _
 | exact LeO.none _
 | refine LeO.ite ?_ ?_
 | refine LeO.bind ?_ (fun _ => ?_)) : p := h
theorem pouchref06_Each.mono_l : ∀ k, (∀ y0 y1, LeO (pouchref06_Each.l0 k y0 y1) (pouchref06_Each.l0 (k + 1) y0 y1))
  | 0 => fun _ _ r h => by simp [pouchref06_Each.l0] at h
  | k + 1 => by
    have ih0 := pouchref06_Each.mono_l k
    · intro y0 y1
      unfold pouchref06_Each.l0
      exact z25m0
theorem pouchref06_Each.mono : ∀ a0 k, LeO (pouchref06_Each.f k a0) (pouchref06_Each.f (k + 1) a0) := by
  intro a0 k
  have ih0 := pouchref06_Each.mono_l k
  unfold pouchref06_Each.f
  exact z25m0
theorem z25z0 {p : Prop} (h : p := by (with_reducible repeat (first | refine blk_drewN ?_ _ | refine blk_drew ?_ | refine blk_alloc ?_ _)); refine blk_put (cs := #[.int .u8 t101, .int .u32 t102, .string t103, .string (⟨#[]⟩ : ByteArray)]) ?_ 3 _ rfl; (with_reducible repeat (first | refine blk_drewN ?_ _ | refine blk_drew ?_ | refine blk_alloc ?_ _)); refine blk_put (cs := #[.int .u8 t101, .int .u32 t102, .string (⟨#[]⟩ : ByteArray), .string (⟨#[]⟩ : ByteArray)]) ?_ 2 _ rfl; (with_reducible repeat (first | refine blk_drewN ?_ _ | refine blk_drew ?_ | refine blk_alloc ?_ _)); refine blk_put (cs := #[.int .u8 t101, .int .u32 0, .string (⟨#[]⟩ : ByteArray), .string (⟨#[]⟩ : ByteArray)]) ?_ 1 _ rfl; (with_reducible repeat (first | refine blk_drewN ?_ _ | refine blk_drew ?_ | refine blk_alloc ?_ _)); refine blk_put (cs := #[.int .u8 0, .int .u32 0, .string (⟨#[]⟩ : ByteArray), .string (⟨#[]⟩ : ByteArray)]) ?_ 0 _ rfl; (with_reducible repeat (first | refine blk_drewN ?_ _ | refine blk_drew ?_ | refine blk_alloc ?_ _)); exact BK106.out) : p := h
theorem z25z1 {p : Prop} (h : p := by repeat (first | (with_reducible first | exact HB.out | apply below_alloc | apply pw_below_drewN | apply below_drew1) | exact HB.out)) : p := h
theorem z25z2 {p : Prop} (h : p := by (with_reducible repeat (first | apply Kd.R_alloc | apply Kd.R_drewN | apply Kd.R_drew)); exact HO_4.out) : p := h
theorem z25z3 {p : Prop} (h : p := by repeat (first | (with_reducible first | exact HB.out | apply below_alloc | apply pw_below_drewN | apply below_drew1 | refine below_set ?_ GE106.out) | exact HB.out)) : p := h
theorem z25z4 {p : Prop} (h : p := by (try simp only [List.map_toArray, List.map_cons, List.map_nil]); first | done | rfl | (simp only [List.length_drop, List.length_take]; rfl)) : p := h
set_option maxHeartbeats 8000000 in
set_option maxRecDepth 100000 in
theorem pouchref06_Each.calls (k : Nat) (a0 : ByteArray) (r1 : List (S58)) (r2 : Bool) (w : World) (h : pouchref06_Each.f k a0 = some (r1, r2)) :
  Calls Tryd.prog 25 #[.string a0] w fun e w' => ∃ v0_ : Value, e = .returned (.tuple #[v0_, .bool r2]) ∧ Kd.R k58 58 w' w.heap.size (fun _ => True) v0_ r1 ∧ Below w.heap.size w w' := by
 have hu58 := Tryd.underlying58
 have HB := Aside0.mk (Below.refl w.heap.size w)
 have H : (pouchref06_Each.l0 k a0 ([] : List (S58))) = some (r1, r2) := h
 clear h
 have H' := Aside0.mk H
 clear H
 go_enter Tryd.func25, Tryd.ntmps25
 go_wp2
 go_loopg [0, 4] k (fun kq v0 v4 w' => ∃ (x0_1 : ByteArray) (x4_1 : List (S58)), v0 = .string x0_1 ∧ Aside0 (pouchref06_Each.l0 kq x0_1 x4_1 = some (r1, r2)) ∧ Aside0 (kq ≤ k) ∧ Aside0 (Kd.R k58 58 w' w.heap.size (fun _ => True) v4 x4_1) ∧ Aside0 (Below w.heap.size w w'))
 case atStart => exact ⟨(a0), (([] : List (S58))), (by first | rfl | (simp; done) | (simp [*]; done)), H', ⟨Nat.le_refl _⟩, ⟨by first | exact Kd.R_nil _ _ _ _ _ | exact Kd.N_nil _ _ _ _ _ | exact Kd.V_nil _ _ _ _ _ | exact Kd.Q_nil _ _ _ _ _ | exact Kd.S_nil _ _ _ _ _⟩, ⟨by repeat (first | (with_reducible first | exact HB.out | apply below_alloc | apply pw_below_drewN | apply below_drew1) | exact HB.out)⟩⟩
 case round =>
  clear H'
  obtain ⟨x0_1, x4_1, rfl, HA, HK1, HO_4, HB⟩ := hrel
  cases gk with
  | zero => exact absurd HA.out (by simp [pouchref06_Each.l0])
  | succ k1 =>
   have H := HA.out
   clear HA
   simp only [pouchref06_Each.l0] at H
   by_cases c2 : (x0_1.size : Int) > 0
   ·rw [if_pos c2] at H
    have c2b0 : decide (0 < (x0_1.size : Int)) = true := decide_eq_true c2
    have c2b1 : decide (0 < x0_1.size) = true := decide_eq_true (by omega)
    clear c2
    replace H := Option.bind_eq_some_iff.mp H
    obtain ⟨⟨t101, t102, t103, t104, t105⟩, A30, H⟩ := H
    replace H : (if t105 = 0 then (some (x4_1, false)) else (if x4_1.length < 3518437208883 then (if 0 ≤ t105 then (if t105 ≤ (x0_1.size : Int) then (pouchref06_Each.l0 k1 (x0_1.extract (t105 : Int).toNat x0_1.size) (x4_1 ++ [(⟨t101, t102, t103, t104⟩ : S58)])) else (none)) else (none)) else (none))) = some (r1, r2) := H
    have A3 := Aside0.mk A30
    clear A30
    by_cases c4 : t105 = 0
    ·rw [if_pos c4] at H
     have c4b0 : (t105 == 0) = true := beq_iff_eq.mpr c4
     have c4b1 : (t105 != 0) = false := bne_eq_false_iff_eq.mpr c4
     clear c4
     simp only [Option.some.injEq, Prod.mk.injEq] at H
     obtain ⟨rfl, rfl⟩ := H
     go_wp2_with (first | ((with_reducible refine gate_callee (f := 49) rfl ?_); refine goesL_ (some 12) rfl rfl Tryd.func49 (by kernel_rfl) rfl #[.string x0_1] rfl z25z4 ?_; (with_reducible refine (pouchref06_Next.calls k1 x0_1 t101 t102 t103 t104 t105 _ A3.out).mono ?_); rintro e w5 ⟨rfl, hb⟩; refine ⟨_, rfl, ?_⟩; have n0_ := Aside0.mk (Kd.R_below z25z2 hb); have n1_ := Aside0.mk (below_step z25z1 hb); replace HO_4 := n0_; replace HB := n1_; clear n0_ n1_; clear hb) | ((with_reducible refine gate_dst (N := 5) rfl ?_); refine box_event ?hg (N := 5) ?hd (cs := #[.int .u8 0, .int .u32 0, .string (⟨#[]⟩ : ByteArray), .string (⟨#[]⟩ : ByteArray)]) (t := 58) ?hr ?_; (case hd => rfl); (case hg => rfl); (case hr => first | (go_simp; done) | (go_simp; rfl)); intro gb106 hg w6 hbox hb; have n0_ := Aside0.mk (Kd.R_below (Kd.R_elderB z25z2 gb106 (Nat.le_of_eq hg.symm)) hb); have n1_ := Aside0.mk (below_step z25z1 hb); have n2_ := Aside0.mk (hbox); have n3_ := Aside0.mk ((by rw [hg]; exact (below_size z25z1) : w.heap.size ≤ gb106)); have n4_ := Aside0.mk ((by rw [hg]; exact (below_size z25z1) : w.heap.size ≤ gb106)); replace HO_4 := n0_; replace HB := n1_; have BK106 := n2_; have GW106 := n3_; have GE106 := n4_; clear n0_ n1_ n2_ n3_ n4_; clear hb hbox hg; have hcz7_0 := cc4_0 BK106.out; have hcz7_1 := cc4_1 BK106.out; have hcz7_2 := cc4_2 BK106.out; have hcz7_3 := cc4_3 BK106.out; have hfz7_0 := blk_frozen BK106.out 0; have hfz7_1 := blk_frozen BK106.out 1; have hfz7_2 := blk_frozen BK106.out 2; have hfz7_3 := blk_frozen BK106.out 3))
     go_ret2
     exact ⟨_, by first | rfl | (simp [errW_none, errW_some] <;> rfl) | (simp [*, errW_none, errW_some] <;> rfl), by (with_reducible repeat (first | apply Kd.R_alloc | apply Kd.R_drewN | apply Kd.R_drew)); exact Kd.R_mono (Kd.R_far (p := ⟨gb106, 3, none⟩) (Kd.R_far (p := ⟨gb106, 2, none⟩) (Kd.R_far (p := ⟨gb106, 1, none⟩) (Kd.R_far (p := ⟨gb106, 0, none⟩) (Kd.R_mono HO_4.out (fun k_ hk => (⟨hk, hk.2⟩ : _ ∧ k_ ≠ gb106))) (fun _ hk => hk.2) (.int .u8 t101)) (fun _ hk => hk.2) (.int .u32 t102)) (fun _ hk => hk.2) (.string t103)) (fun _ hk => hk.2) (.string t104)) (fun _ hk => trivial), by repeat (first | (with_reducible first | exact HB.out | apply below_alloc | apply pw_below_drewN | apply below_drew1 | refine below_set ?_ GE106.out) | exact HB.out)⟩
    ·rw [if_neg c4] at H
     have c4b0 : (t105 == 0) = false := beq_eq_false_iff_ne.mpr c4
     have c4b1 : (t105 != 0) = true := bne_iff_ne.mpr c4
     by_cases c8 : x4_1.length < 3518437208883
     ·rw [if_pos c8] at H
      have LMc8 := Aside0.mk c8
      clear c8
      obtain ⟨y107, hy107⟩ : ∃ y_ : List (S58), y_ = (x4_1 ++ [(⟨t101, t102, t103, t104⟩ : S58)]) := ⟨_, rfl⟩
      replace H : (if 0 ≤ t105 then (if t105 ≤ (x0_1.size : Int) then (pouchref06_Each.l0 k1 (x0_1.extract (t105 : Int).toNat x0_1.size) y107) else (none)) else (none)) = some (r1, r2) := by first | (rw [hy107]; with_reducible exact H) | (have H2_ := (Option.bind_some _ _).symm.trans H; rw [hy107]; with_reducible exact H2_) | (have H2_ := (Option.bind_some _ _).symm.trans H; with_reducible exact H2_) | with_reducible exact H | (rw [hy107]; exact H) | exact H
      have Ny107 := Aside0.mk hy107
      clear hy107
      by_cases c9 : 0 ≤ t105
      ·rw [if_pos c9] at H
       have c9b0 := eq_true c9
       have c9b1 : decide (0 ≤ t105) = true := decide_eq_true c9
       clear c9
       by_cases c10 : t105 ≤ (x0_1.size : Int)
       ·rw [if_pos c10] at H
        have c10b0 := eq_true c10
        have c10b1 : decide (t105 ≤ (x0_1.size : Int)) = true := decide_eq_true c10
        clear c10
        have H' := Aside0.mk H
        clear H
        go_wp2_with (first | ((with_reducible refine gate_callee (f := 49) rfl ?_); refine goesL_ (some 12) rfl rfl Tryd.func49 (by kernel_rfl) rfl #[.string x0_1] rfl z25z4 ?_; (with_reducible refine (pouchref06_Next.calls k1 x0_1 t101 t102 t103 t104 t105 _ A3.out).mono ?_); rintro e w11 ⟨rfl, hb⟩; refine ⟨_, rfl, ?_⟩; have n0_ := Aside0.mk (Kd.R_below z25z2 hb); have n1_ := Aside0.mk (below_step z25z1 hb); replace HO_4 := n0_; replace HB := n1_; clear n0_ n1_; clear hb) | ((with_reducible refine gate_dst (N := 5) rfl ?_); refine box_event ?hg (N := 5) ?hd (cs := #[.int .u8 0, .int .u32 0, .string (⟨#[]⟩ : ByteArray), .string (⟨#[]⟩ : ByteArray)]) (t := 58) ?hr ?_; (case hd => rfl); (case hg => rfl); (case hr => first | (go_simp; done) | (go_simp; rfl)); intro gb106 hg w12 hbox hb; have n0_ := Aside0.mk (Kd.R_below (Kd.R_elderB z25z2 gb106 (Nat.le_of_eq hg.symm)) hb); have n1_ := Aside0.mk (below_step z25z1 hb); have n2_ := Aside0.mk (hbox); have n3_ := Aside0.mk ((by rw [hg]; exact (below_size z25z1) : w.heap.size ≤ gb106)); have n4_ := Aside0.mk ((by rw [hg]; exact (below_size z25z1) : w.heap.size ≤ gb106)); replace HO_4 := n0_; replace HB := n1_; have BK106 := n2_; have GW106 := n3_; have GE106 := n4_; clear n0_ n1_ n2_ n3_ n4_; clear hb hbox hg; have hcz13_0 := cc4_0 BK106.out; have hcz13_1 := cc4_1 BK106.out; have hcz13_2 := cc4_2 BK106.out; have hcz13_3 := cc4_3 BK106.out; have hfz13_0 := blk_frozen BK106.out 0; have hfz13_1 := blk_frozen BK106.out 1; have hfz13_2 := blk_frozen BK106.out 2; have hfz13_3 := blk_frozen BK106.out 3) | ((with_reducible refine gate_builtin (b := .append) (xs := #[.tmp 18, .tmp 20]) rfl ?_); at_builtin; refine Kd.R_append k58 (w0 := w) w.heap.size rfl (.tmp 18) (.tmp 20) 22 58 (.agg #[(.int .u8 0), (.int .u32 0), (.string ⟨#[]⟩), (.string ⟨#[]⟩)]) 40 rfl Tryd.underlying22 info58 rfl (by decide) (by omega) u4 x4_1 (⟨t101, t102, t103, t104⟩ : S58) [.int .u8 t101, .int .u32 t102, .string t103, .string t104] (fun k_ => k_ ≠ gb106) (fun _ => False) rfl (by first | (go_simp; done) | (go_simp; rfl)) ?aP (fun _ hk => hk.elim) ?aF ?aO ?aB ?aS ?aL ?_; (case aP => exact k58_mkM _ _ _ (⟨t101, t102, t103, t104⟩ : S58)); (case aB => exact z25z3); (case aF => exact (fun k_ hk => Kd.freshB (g := gb106) (o := .cells #[.int .u8 t101, .int .u32 t102, .string t103, .string t104] 58 (0, 0)) z25z0 k_ hk)); (case aO => exact (by (with_reducible repeat (first | apply Kd.R_alloc | apply Kd.R_drewN | apply Kd.R_drew)); exact Kd.R_mono (Kd.R_far (p := ⟨gb106, 3, none⟩) (Kd.R_far (p := ⟨gb106, 2, none⟩) (Kd.R_far (p := ⟨gb106, 1, none⟩) (Kd.R_far (p := ⟨gb106, 0, none⟩) (Kd.R_mono HO_4.out (fun k_ hk => (⟨hk, hk.2⟩ : _ ∧ k_ ≠ gb106))) (fun _ hk => hk.2) (.int .u8 t101)) (fun _ hk => hk.2) (.int .u32 t102)) (fun _ hk => hk.2) (.string t103)) (fun _ hk => hk.2) (.string t104)) (fun _ hk => hk.1.2))); (case aS => exact (below_size z25z3)); (case aL => have := LMc8.out; omega); intro v108 w14 ho hb hg hat; rw [← Ny107.out] at ho; have n0_ := Aside0.mk (blk_grown (g := gb106) (o := .cells #[.int .u8 t101, .int .u32 t102, .string t103, .string t104] 58 (0, 0)) z25z0 hg (Kd.R_away HO_4.out (fun _ hk => hk.2))); have n1_ := Aside0.mk (hb); have n2_ := Aside0.mk (ho); replace BK106 := n0_; replace HB := n1_; have HO109 := n2_; clear HO_4; clear n0_ n1_ n2_; clear ho hb hg hat))
        go_roundg k1
        case measure => have := HK1.out; omega
        case rel => exact ⟨(x0_1.extract (t105 : Int).toNat x0_1.size), (y107), (by first | rfl | (simp; done) | (simp [*]; done)), H', ⟨by have := HK1.out; omega⟩, ⟨by (with_reducible repeat (first | apply Kd.R_alloc | apply Kd.R_drewN | apply Kd.R_drew)); exact Kd.R_mono HO109.out (fun _ hk => trivial)⟩, ⟨by repeat (first | (with_reducible first | exact HB.out | apply below_alloc | apply pw_below_drewN | apply below_drew1 | refine below_set ?_ GE106.out) | exact HB.out)⟩⟩
       ·rw [if_neg c10] at H
        exact absurd H (by simp)
      ·rw [if_neg c9] at H
       exact absurd H (by simp)
     ·rw [if_neg c8] at H
      exact absurd H (by simp)
   ·rw [if_neg c2] at H
    have c2b0 : decide (0 < (x0_1.size : Int)) = false := decide_eq_false c2
    have c2b1 : decide (0 < x0_1.size) = false := decide_eq_false (by omega)
    clear c2
    simp only [Option.some.injEq, Prod.mk.injEq] at H
    obtain ⟨rfl, rfl⟩ := H
    go_wp2
    go_ret2
    exact ⟨_, by first | rfl | (simp [errW_none, errW_some] <;> rfl) | (simp [*, errW_none, errW_some] <;> rfl), by (with_reducible repeat (first | apply Kd.R_alloc | apply Kd.R_drewN | apply Kd.R_drew)); exact HO_4.out, by repeat (first | (with_reducible first | exact HB.out | apply below_alloc | apply pw_below_drewN | apply below_drew1) | exact HB.out)⟩
end Go.Proofs.YtkmkgpigmldhnaaDoor.P

namespace Go.Proofs.YtkmkgpigmldhnaaDoor.P
open Go.RowKit Go.Proofs.YtkmkgpigmldhnaaDoorW.PrintWords Go.Proofs.YtkmkgpigmldhnaaDoorW.PrintLast Go.Proofs.YtkmkgpigmldhnaaDoorW.PrintMore
attribute [local go_sem] max2_int min2_int max_two min_two max_three min_three max_four min_four
set_option linter.unusedVariables false
set_option linter.unusedSimpArgs false
def pouchlaw06_PropsEach.f (k : Nat) (l0 : List Int) (a1 : Int) : Option (Bool) := if 0 ≤ (mn (l0.length : Int) 300) then (if (mn (l0.length : Int) 300) ≤ (l0.length : Int) then ((pouchlaw06_each.f k (l0.take ((mn (l0.length : Int) 300) : Int).toNat) 1000).bind fun bt102 => ((pouchref06_Each.f k (strOfNums (l0.take ((mn (l0.length : Int) 300) : Int).toNat))).bind fun bt106 => ((pouchlaw06_each.f k (l0.take ((mn (l0.length : Int) 300) : Int).toNat) (wrap64 (Int.tmod (IntKind.u64.wrap (a1)) 5))).bind fun bt110 => ((pouchlaw06_told.f k).bind fun t114 => (if t114 = true then (if (bt102.2 == bt106.2) = true then ((pouchref06_Same.f k bt102.1 bt106.1).bind fun t115 => (if t115 = true then (if 0 ≤ (mn (bt106.1.length : Int) (wrap64 (Int.tmod (IntKind.u64.wrap (a1)) 5))) then (if (mn (bt106.1.length : Int) (wrap64 (Int.tmod (IntKind.u64.wrap (a1)) 5))) ≤ (bt106.1.length : Int) then ((pouchref06_Same.f k bt110.1 (bt106.1.take ((mn (bt106.1.length : Int) (wrap64 (Int.tmod (IntKind.u64.wrap (a1)) 5))) : Int).toNat)).bind fun t120 => (some t120)) else (none)) else (none)) else (some false))) else (some false)) else (some false)))))) else (none)) else (none)
theorem pouchlaw06_PropsEach.mono : ∀ a0 a1 k, LeO (pouchlaw06_PropsEach.f k a0 a1) (pouchlaw06_PropsEach.f (k + 1) a0 a1) := by
  intro a0 a1 k
  unfold pouchlaw06_PropsEach.f
  repeat' first
      | (with_reducible exact pouchlaw06_each.mono _ _ _)
      | (with_reducible exact pouchlaw06_told.mono _)
      | (with_reducible exact pouchref06_Each.mono _ _)
      | (with_reducible exact pouchref06_Same.mono _ _ _)
      | (with_reducible exact LeO.refl _)
      | (with_reducible exact LeO.none _)
      | (with_reducible refine LeO.ite ?_ ?_)
      | (with_reducible refine LeO.bind ?_ (fun _ => ?_))
      | exact pouchlaw06_each.mono _ _ _
      | exact pouchlaw06_told.mono _
      | exact pouchref06_Each.mono _ _
      | exact pouchref06_Same.mono _ _ _
      | exact LeO.none _
      | refine LeO.ite ?_ ?_
      | refine LeO.bind ?_ (fun _ => ?_)
theorem z5z0 {p : Prop} (h : p := by repeat (first | (with_reducible first | exact HB.out | apply below_alloc | apply pw_below_drewN | apply below_drew1) | exact HB.out)) : p := h
theorem z5z1 {p : Prop} (h : p := by (try simp only [List.map_toArray, List.map_cons, List.map_nil]); first | done | (rw [show (l0.take ((ji3) : Int).toNat).length = (ji3).toNat from (by rw [List.length_take]; have h_ : ((ji3) : Int) ≤ (l0.length : Int) := of_decide_eq_true (by first | (with_reducible assumption) | assumption); omega)] <;> rfl) | (simp only [hji3]; rfl) | rfl | (simp only [List.length_drop, List.length_take]; rfl)) : p := h
theorem z5z2 {p : Prop} (h : p := by (with_reducible repeat (first | apply Kd.R_alloc | apply Kd.R_drewN | apply Kd.R_drew)); exact HO105.out) : p := h
theorem z5z3 {p : Prop} (h : p := by (with_reducible repeat (first | apply Kd.R_alloc | apply Kd.R_drewN | apply Kd.R_drew)); exact HO109.out) : p := h
theorem z5z4 {p : Prop} (h : p := by (try simp only [List.map_toArray, List.map_cons, List.map_nil]); first | done | (simp only [hji3]; rfl) | rfl | (simp only [List.length_drop, List.length_take]; rfl)) : p := h
theorem z5z5 {p : Prop} (h : p := by repeat (first | exact (Kd.C_below HR101.out HB.out) | (with_reducible refine Kd.C_alloc ?_ _) | (with_reducible refine Kd.C_drewN ?_ _) | (with_reducible refine Kd.C_drew ?_))) : p := h
theorem z5z6 {p : Prop} (h : p := by first | (with_reducible assumption) | assumption) : p := h
theorem z5z7 {p : Prop} (h : p := by repeat (first | exact HR101.out | (with_reducible refine Kd.C_alloc ?_ _) | (with_reducible refine Kd.C_drewN ?_ _) | (with_reducible refine Kd.C_drew ?_))) : p := h
theorem z5z8 {p : Prop} (h : p := by (try simp only [List.map_toArray, List.map_cons, List.map_nil]); first | done | rfl | (simp only [List.length_drop, List.length_take]; rfl)) : p := h
theorem z5z9 {p : Prop} (h : p := by (with_reducible repeat (first | apply Kd.R_alloc | apply Kd.R_drewN | apply Kd.R_drew)); exact HO113.out) : p := h
theorem z5z10 {p : Prop} (h : p := by have h1_ := of_decide_eq_true (p := (ji3) ≤ (l0.length : Int)) (by assumption); omega) : p := h
theorem z5z11 {p : Prop} (h : p := by exact GW.below HG.out z5z0) : p := h
theorem z5z12 {p : Prop} (h : p := by repeat (first | exact (Kd.R_reads' HO105.out).2.2 | (with_reducible refine Kd.C_alloc ?_ _) | (with_reducible refine Kd.C_drewN ?_ _) | (with_reducible refine Kd.C_drew ?_))) : p := h
theorem z5z13 {p : Prop} (h : p := by repeat (first | exact (Kd.R_reads' HO109.out).2.2 | (with_reducible refine Kd.C_alloc ?_ _) | (with_reducible refine Kd.C_drewN ?_ _) | (with_reducible refine Kd.C_drew ?_))) : p := h
set_option maxHeartbeats 8000000 in
set_option maxRecDepth 100000 in
theorem pouchlaw06_PropsEach.calls (k : Nat) (A0 : Option Addr) (c0 : Nat) (l0 : List Int) (a1 : Int) (r : Bool) (w : World) (hr0 : Kd.C (Kd.int .u8) w A0 l0.length l0) (hc0 : l0.length ≤ c0) (hG : GW w) (h : pouchlaw06_PropsEach.f k l0 a1 = some r) :
  Calls Tryd.prog 5 #[.slice A0 l0.length c0, .int .i64 a1] w fun e w' => e = .returned (.bool r) ∧ Below w.heap.size w w' := by
 have HR0 := Aside0.mk hr0
 have HC0 := Aside0.mk hc0
 clear hr0 hc0
 have HB := Aside0.mk (Below.refl w.heap.size w)
 have HG := Aside0.mk hG
 clear hG
 have H : (if 0 ≤ (mn (l0.length : Int) 300) then (if (mn (l0.length : Int) 300) ≤ (l0.length : Int) then ((pouchlaw06_each.f k (l0.take ((mn (l0.length : Int) 300) : Int).toNat) 1000).bind fun bt102 => ((pouchref06_Each.f k (strOfNums (l0.take ((mn (l0.length : Int) 300) : Int).toNat))).bind fun bt106 => ((pouchlaw06_each.f k (l0.take ((mn (l0.length : Int) 300) : Int).toNat) (wrap64 (Int.tmod (IntKind.u64.wrap (a1)) 5))).bind fun bt110 => ((pouchlaw06_told.f k).bind fun t114 => (if t114 = true then (if (bt102.2 == bt106.2) = true then ((pouchref06_Same.f k bt102.1 bt106.1).bind fun t115 => (if t115 = true then (if 0 ≤ (mn (bt106.1.length : Int) (wrap64 (Int.tmod (IntKind.u64.wrap (a1)) 5))) then (if (mn (bt106.1.length : Int) (wrap64 (Int.tmod (IntKind.u64.wrap (a1)) 5))) ≤ (bt106.1.length : Int) then ((pouchref06_Same.f k bt110.1 (bt106.1.take ((mn (bt106.1.length : Int) (wrap64 (Int.tmod (IntKind.u64.wrap (a1)) 5))) : Int).toNat)).bind fun t120 => (some t120)) else (none)) else (none)) else (some false))) else (some false)) else (some false)))))) else (none)) else (none)) = some r := h
 clear h
 obtain ⟨ji3, hji3⟩ : ∃ j_ : Int, (mn (l0.length : Int) 300) = j_ := ⟨_, rfl⟩
 replace H : (if 0 ≤ (ji3) then (if (ji3) ≤ (l0.length : Int) then ((pouchlaw06_each.f k (l0.take ((ji3) : Int).toNat) 1000).bind fun bt102 => ((pouchref06_Each.f k (strOfNums (l0.take ((ji3) : Int).toNat))).bind fun bt106 => ((pouchlaw06_each.f k (l0.take ((ji3) : Int).toNat) (wrap64 (Int.tmod (IntKind.u64.wrap (a1)) 5))).bind fun bt110 => ((pouchlaw06_told.f k).bind fun t114 => (if t114 = true then (if (bt102.2 == bt106.2) = true then ((pouchref06_Same.f k bt102.1 bt106.1).bind fun t115 => (if t115 = true then (if 0 ≤ (mn (bt106.1.length : Int) (wrap64 (Int.tmod (IntKind.u64.wrap (a1)) 5))) then (if (mn (bt106.1.length : Int) (wrap64 (Int.tmod (IntKind.u64.wrap (a1)) 5))) ≤ (bt106.1.length : Int) then ((pouchref06_Same.f k bt110.1 (bt106.1.take ((mn (bt106.1.length : Int) (wrap64 (Int.tmod (IntKind.u64.wrap (a1)) 5))) : Int).toNat)).bind fun t120 => (some t120)) else (none)) else (none)) else (some false))) else (some false)) else (some false)))))) else (none)) else (none)) = some r := by first | (rw [hji3] at H; exact H) | (simp only [hji3] at H ⊢; exact H)
 (try (have hji3h : ji3 ≤ 300 := by (rw [← hji3]; unfold mn; (repeat' split) <;> omega)))
 (try (have hji3g : ji3 ≤ 64 := by omega))
 (try (have hji3l : 0 ≤ ji3 := by (rw [← hji3]; unfold mn; (repeat' split) <;> omega)))
 (try (have hji3m : 0 ≤ ji3 := by omega))
 have hji3_ : (if 300 < (l0.length : Int) then 300 else (l0.length : Int)) = ji3 := hji3
 by_cases c4 : 0 ≤ (ji3)
 ·rw [if_pos c4] at H
  have c4b0 := eq_true c4
  have c4b1 : decide (0 ≤ (ji3)) = true := decide_eq_true c4
  clear c4
  by_cases c5 : (ji3) ≤ (l0.length : Int)
  ·rw [if_pos c5] at H
   have c5b0 := eq_true c5
   have c5b1 : decide ((ji3) ≤ (l0.length : Int)) = true := decide_eq_true c5
   clear c5
   replace H := Option.bind_eq_some_iff.mp H
   obtain ⟨⟨t102, t103⟩, A60, H⟩ := H
   replace H : ((pouchref06_Each.f k (strOfNums (l0.take ((ji3) : Int).toNat))).bind fun bt106 => ((pouchlaw06_each.f k (l0.take ((ji3) : Int).toNat) (wrap64 (Int.tmod (IntKind.u64.wrap (a1)) 5))).bind fun bt110 => ((pouchlaw06_told.f k).bind fun t114 => (if t114 = true then (if (t103 == bt106.2) = true then ((pouchref06_Same.f k t102 bt106.1).bind fun t115 => (if t115 = true then (if 0 ≤ (mn (bt106.1.length : Int) (wrap64 (Int.tmod (IntKind.u64.wrap (a1)) 5))) then (if (mn (bt106.1.length : Int) (wrap64 (Int.tmod (IntKind.u64.wrap (a1)) 5))) ≤ (bt106.1.length : Int) then ((pouchref06_Same.f k bt110.1 (bt106.1.take ((mn (bt106.1.length : Int) (wrap64 (Int.tmod (IntKind.u64.wrap (a1)) 5))) : Int).toNat)).bind fun t120 => (some t120)) else (none)) else (none)) else (some false))) else (some false)) else (some false))))) = some r := H
   have A6 := Aside0.mk A60
   clear A60
   replace H := Option.bind_eq_some_iff.mp H
   obtain ⟨⟨t106, t107⟩, A70, H⟩ := H
   replace H : ((pouchlaw06_each.f k (l0.take ((ji3) : Int).toNat) (wrap64 (Int.tmod (IntKind.u64.wrap (a1)) 5))).bind fun bt110 => ((pouchlaw06_told.f k).bind fun t114 => (if t114 = true then (if (t103 == t107) = true then ((pouchref06_Same.f k t102 t106).bind fun t115 => (if t115 = true then (if 0 ≤ (mn (t106.length : Int) (wrap64 (Int.tmod (IntKind.u64.wrap (a1)) 5))) then (if (mn (t106.length : Int) (wrap64 (Int.tmod (IntKind.u64.wrap (a1)) 5))) ≤ (t106.length : Int) then ((pouchref06_Same.f k bt110.1 (t106.take ((mn (t106.length : Int) (wrap64 (Int.tmod (IntKind.u64.wrap (a1)) 5))) : Int).toNat)).bind fun t120 => (some t120)) else (none)) else (none)) else (some false))) else (some false)) else (some false)))) = some r := H
   have A7 := Aside0.mk A70
   clear A70
   replace H := Option.bind_eq_some_iff.mp H
   obtain ⟨⟨t110, t111⟩, A80, H⟩ := H
   replace H : ((pouchlaw06_told.f k).bind fun t114 => (if t114 = true then (if (t103 == t107) = true then ((pouchref06_Same.f k t102 t106).bind fun t115 => (if t115 = true then (if 0 ≤ (mn (t106.length : Int) (wrap64 (Int.tmod (IntKind.u64.wrap (a1)) 5))) then (if (mn (t106.length : Int) (wrap64 (Int.tmod (IntKind.u64.wrap (a1)) 5))) ≤ (t106.length : Int) then ((pouchref06_Same.f k t110 (t106.take ((mn (t106.length : Int) (wrap64 (Int.tmod (IntKind.u64.wrap (a1)) 5))) : Int).toNat)).bind fun t120 => (some t120)) else (none)) else (none)) else (some false))) else (some false)) else (some false))) = some r := H
   have A8 := Aside0.mk A80
   clear A80
   replace H := Option.bind_eq_some_iff.mp H
   obtain ⟨t114, A90, H⟩ := H
   replace H : (if t114 = true then (if (t103 == t107) = true then ((pouchref06_Same.f k t102 t106).bind fun t115 => (if t115 = true then (if 0 ≤ (mn (t106.length : Int) (wrap64 (Int.tmod (IntKind.u64.wrap (a1)) 5))) then (if (mn (t106.length : Int) (wrap64 (Int.tmod (IntKind.u64.wrap (a1)) 5))) ≤ (t106.length : Int) then ((pouchref06_Same.f k t110 (t106.take ((mn (t106.length : Int) (wrap64 (Int.tmod (IntKind.u64.wrap (a1)) 5))) : Int).toNat)).bind fun t120 => (some t120)) else (none)) else (none)) else (some false))) else (some false)) else (some false)) = some r := H
   have A9 := Aside0.mk A90
   clear A90
   by_cases c10 : t114 = true
   ·subst c10
    have H1 : (if (t103 == t107) = true then ((pouchref06_Same.f k t102 t106).bind fun t115 => (if t115 = true then (if 0 ≤ (mn (t106.length : Int) (wrap64 (Int.tmod (IntKind.u64.wrap (a1)) 5))) then (if (mn (t106.length : Int) (wrap64 (Int.tmod (IntKind.u64.wrap (a1)) 5))) ≤ (t106.length : Int) then ((pouchref06_Same.f k t110 (t106.take ((mn (t106.length : Int) (wrap64 (Int.tmod (IntKind.u64.wrap (a1)) 5))) : Int).toNat)).bind fun t120 => (some t120)) else (none)) else (none)) else (some false))) else (some false)) = some r := by rw [if_pos rfl] at H; exact H
    clear H
    have H := H1
    clear H1
    by_cases c11 : (t103 == t107) = true
    ·rw [if_pos c11] at H
     have c11b0 : (t103 == t107) = true := c11
     (try (have c11b1 : decide (t103 = t107) = true := by simpa using c11))
     (try (have c11b2 : (t103 == t107) = true := by simpa using c11))
     clear c11
     replace H := Option.bind_eq_some_iff.mp H
     obtain ⟨t115, A120, H⟩ := H
     replace H : (if t115 = true then (if 0 ≤ (mn (t106.length : Int) (wrap64 (Int.tmod (IntKind.u64.wrap (a1)) 5))) then (if (mn (t106.length : Int) (wrap64 (Int.tmod (IntKind.u64.wrap (a1)) 5))) ≤ (t106.length : Int) then ((pouchref06_Same.f k t110 (t106.take ((mn (t106.length : Int) (wrap64 (Int.tmod (IntKind.u64.wrap (a1)) 5))) : Int).toNat)).bind fun t120 => (some t120)) else (none)) else (none)) else (some false)) = some r := H
     have A12 := Aside0.mk A120
     clear A120
     by_cases c13 : t115 = true
     ·subst c13
      have H1 : (if 0 ≤ (mn (t106.length : Int) (wrap64 (Int.tmod (IntKind.u64.wrap (a1)) 5))) then (if (mn (t106.length : Int) (wrap64 (Int.tmod (IntKind.u64.wrap (a1)) 5))) ≤ (t106.length : Int) then ((pouchref06_Same.f k t110 (t106.take ((mn (t106.length : Int) (wrap64 (Int.tmod (IntKind.u64.wrap (a1)) 5))) : Int).toNat)).bind fun t120 => (some t120)) else (none)) else (none)) = some r := by rw [if_pos rfl] at H; exact H
      clear H
      have H := H1
      clear H1
      obtain ⟨ji14, hji14⟩ : ∃ j_ : Int, (mn (t106.length : Int) (wrap64 (Int.tmod (IntKind.u64.wrap (a1)) 5))) = j_ := ⟨_, rfl⟩
      replace H : (if 0 ≤ (ji14) then (if (ji14) ≤ (t106.length : Int) then ((pouchref06_Same.f k t110 (t106.take ((ji14) : Int).toNat)).bind fun t120 => (some t120)) else (none)) else (none)) = some r := by first | (rw [hji14] at H; exact H) | (simp only [hji14] at H ⊢; exact H)
      (try rw [hji14] at A6)
      (try rw [hji14] at A7)
      (try rw [hji14] at A8)
      (try rw [hji14] at A9)
      (try rw [hji14] at A12)
      have hji14_ : (if (wrap64 (Int.tmod (IntKind.u64.wrap (a1)) 5)) < (t106.length : Int) then (wrap64 (Int.tmod (IntKind.u64.wrap (a1)) 5)) else (t106.length : Int)) = ji14 := hji14
      by_cases c15 : 0 ≤ (ji14)
      ·rw [if_pos c15] at H
       have c15b0 := eq_true c15
       have c15b1 : decide (0 ≤ (ji14)) = true := decide_eq_true c15
       clear c15
       by_cases c16 : (ji14) ≤ (t106.length : Int)
       ·rw [if_pos c16] at H
        have c16b0 := eq_true c16
        have c16b1 : decide ((ji14) ≤ (t106.length : Int)) = true := decide_eq_true c16
        clear c16
        obtain ⟨y116, hy116⟩ : ∃ y_ : List (S58), y_ = (t106.take ((ji14) : Int).toNat) := ⟨_, rfl⟩
        replace H : ((pouchref06_Same.f k t110 y116).bind fun t120 => (some t120)) = some r := by first | (rw [hy116]; with_reducible exact H) | (have H2_ := (Option.bind_some _ _).symm.trans H; rw [hy116]; with_reducible exact H2_) | (have H2_ := (Option.bind_some _ _).symm.trans H; with_reducible exact H2_) | with_reducible exact H | (rw [hy116]; exact H) | exact H
        have Ny116 := Aside0.mk hy116
        clear hy116
        replace H := Option.bind_eq_some_iff.mp H
        obtain ⟨t120, A170, H⟩ := H
        replace H : (some t120) = some r := H
        have A17 := Aside0.mk A170
        clear A170
        obtain rfl := Option.some.inj H
        obtain ⟨i018, hi018, _, hsz18, _⟩ := info_parts info5
        obtain ⟨hcut18, hA18, hC18⟩ := print_take_of (P := Tryd.prog) (Value.int .u8) 0 25 5 .i64 Tryd.underlying25 hi018 hsz18 A0 c0 l0 (ji3) (of_decide_eq_true z5z6) (of_decide_eq_true z5z6) HC0.out
        have HR101 := Aside0.mk (Kd.C_of_reads (h1 := fun _ => rfl) (hA18 _ (Kd.reads_of_C HR0.out)))
        have HC101 := Aside0.mk hC18
        clear hA18 hC18 hi018 hsz18
        go_enter Tryd.func5, Tryd.ntmps5
        go_wp2_with (first | ((with_reducible refine gate_callee (f := 24) rfl ?_); refine goesL_ (some 19) rfl rfl Tryd.func24 (by kernel_rfl) rfl #[.slice A0 (l0.take ((ji3) : Int).toNat).length c0, .int .i64 1000] rfl z5z1 ?_; (with_reducible refine (pouchlaw06_each.calls k _ _ (l0.take ((ji3) : Int).toNat) 1000 t102 t103 _ ?side1 ?side2 ?side3 A6.out).mono ?_); (case side1 => exact z5z7); (case side2 => exact HC101.out); (case side3 => exact z5z11); rintro e w19 ⟨v104, rfl, ho0, hb⟩; refine ⟨_, rfl, ?_⟩; have n0_ := Aside0.mk (Kd.R_lower ho0 (below_size z5z0)); have n1_ := Aside0.mk (below_step z5z0 hb); have HO105 := n0_; replace HB := n1_; clear n0_ n1_; clear hb ho0; have hcv20 := Kd.C_string (P := Tryd.prog) (A := A0) (c := c0) Tryd.underlying25 Tryd.underlying5 Tryd.underlying9 (Kd.C_below HR101.out HB.out); (try (have hcvb20 := hcv20; rw [List.length_take, Nat.min_eq_left z5z10] at hcvb20))) | ((with_reducible refine gate_callee (f := 25) rfl ?_); refine goesL_ (some 25) rfl rfl Tryd.func25 (by kernel_rfl) rfl #[.string (strOfNums (l0.take ((ji3) : Int).toNat))] rfl z5z4 ?_; (with_reducible refine (pouchref06_Each.calls k (strOfNums (l0.take ((ji3) : Int).toNat)) t106 t107 _ A7.out).mono ?_); rintro e w21 ⟨v108, rfl, ho0, hb⟩; refine ⟨_, rfl, ?_⟩; have n0_ := Aside0.mk (Kd.R_elder' z5z2 (Kd.R_base ho0) hb); have n1_ := Aside0.mk (Kd.R_lower (Kd.R_new' ho0 (Kd.R_lt z5z2)) (below_size z5z0)); have n2_ := Aside0.mk (below_step z5z0 hb); replace HO105 := n0_; have HO109 := n1_; replace HB := n2_; clear n0_ n1_ n2_; clear hb ho0) | ((with_reducible refine gate_callee (f := 24) rfl ?_); refine goesL_ (some 35) rfl rfl Tryd.func24 (by kernel_rfl) rfl #[.slice A0 (l0.take ((ji3) : Int).toNat).length c0, .int .i64 (wrap64 (Int.tmod (IntKind.u64.wrap (a1)) 5))] rfl z5z1 ?_; (with_reducible refine (pouchlaw06_each.calls k _ _ (l0.take ((ji3) : Int).toNat) (wrap64 (Int.tmod (IntKind.u64.wrap (a1)) 5)) t110 t111 _ ?side1 ?side2 ?side3 A8.out).mono ?_); (case side1 => exact z5z5); (case side2 => exact HC101.out); (case side3 => exact z5z11); rintro e w22 ⟨v112, rfl, ho0, hb⟩; refine ⟨_, rfl, ?_⟩; have n0_ := Aside0.mk (Kd.R_elder' z5z2 (Kd.R_base ho0) hb); have n1_ := Aside0.mk (Kd.R_elder' z5z3 (Kd.R_base ho0) hb); have n2_ := Aside0.mk (Kd.R_lower (Kd.R_new' (Kd.R_new' ho0 (Kd.R_lt z5z2)) (Kd.R_lt z5z3)) (below_size z5z0)); have n3_ := Aside0.mk (below_step z5z0 hb); replace HO105 := n0_; replace HO109 := n1_; have HO113 := n2_; replace HB := n3_; clear n0_ n1_ n2_ n3_; clear hb ho0) | ((with_reducible refine gate_callee (f := 10) rfl ?_); refine goesL_ (some 38) rfl rfl Tryd.func10 (by kernel_rfl) rfl #[] rfl z5z8 ?_; (with_reducible refine (pouchlaw06_told.calls k  true _ ?side1 A9.out).mono ?_); (case side1 => exact z5z11); rintro e w23 ⟨rfl, hb⟩; refine ⟨_, rfl, ?_⟩; have n0_ := Aside0.mk (Kd.R_below z5z2 hb); have n1_ := Aside0.mk (Kd.R_below z5z3 hb); have n2_ := Aside0.mk (Kd.R_below z5z9 hb); have n3_ := Aside0.mk (below_step z5z0 hb); replace HO105 := n0_; replace HO109 := n1_; replace HO113 := n2_; replace HB := n3_; clear n0_ n1_ n2_ n3_; clear hb; obtain ⟨Ao24, co24, eo24⟩ := Kd.R_slice HO105.out; subst eo24; obtain ⟨Ao25, co25, eo25⟩ := Kd.R_slice HO109.out; subst eo25) | (go_at_call 18; (with_reducible refine (pouchref06_Same.calls k _ _ t102 _ _ t106 true _ ?side1 ?side2 ?side3 ?side4 A12.out).mono ?_); (case side1 => exact z5z12); (case side2 => exact (Kd.R_reads' HO105.out).2.1); (case side3 => exact z5z13); (case side4 => exact (Kd.R_reads' HO109.out).2.1); rintro e w' ⟨rfl, ⟨nd, rfl⟩⟩; have q26 : ((ji14) : Int) ≤ ((t106.length : Int) : Int) := of_decide_eq_true z5z6; obtain ⟨i026, hi026, _, hsz26, _⟩ := info_parts info58; have hroom26 : t106.length ≤ co25 := (Kd.R_reads' HO109.out).2.1; have hC26 : Kd.C k58 _ Ao25 t106.length t106 := (Kd.R_reads' HO109.out).2.2; have hcut26 := cut_to (P := Tryd.prog) 22 58 .i64 Tryd.underlying22 hi026 Ao25 t106.length co25 (ji14) (of_decide_eq_true z5z6) q26 hroom26; have hr26 := Kd.C_take (m := ((ji14) : Int).toNat) hC26 (by omega); have hy26 : y116.length = ((ji14) : Int).toNat := (by rw [Ny116.out, List.length_take]; omega); rw [← Ny116.out] at hr26; rw [← hy26] at hcut26; have HR119 := Aside0.mk hr26; have HC119 := Aside0.mk (show y116.length ≤ co25 from by omega); clear hr26 hC26 hroom26 hi026 hsz26; have KY26 := Aside0.mk hy26; clear hy26; have KL26 := Aside0.mk (show ((ji14) : Int).toNat ≤ t106.length from by omega); replace q26 := eq_true q26; obtain ⟨Ao27, co27, eo27⟩ := Kd.R_slice HO113.out; subst eo27) | (go_at_call 18; (with_reducible refine (pouchref06_Same.calls k _ _ t110 _ _ y116 t120 _ ?side1 ?side2 ?side3 ?side4 A17.out).mono ?_); (case side1 => repeat (first | exact (Kd.R_reads' HO113.out).2.2 | (with_reducible refine Kd.C_alloc ?_ _) | (with_reducible refine Kd.C_drewN ?_ _) | (with_reducible refine Kd.C_drew ?_))); (case side2 => exact (Kd.R_reads' HO113.out).2.1); (case side3 => repeat (first | exact (by repeat (first | (with_reducible exact HR119.out) | (with_reducible refine Kd.C_alloc ?_ _) | (with_reducible refine Kd.C_drewN ?_ _) | (with_reducible refine Kd.C_drew ?_) | exact HR119.out)) | (with_reducible refine Kd.C_alloc ?_ _) | (with_reducible refine Kd.C_drewN ?_ _) | (with_reducible refine Kd.C_drew ?_))); (case side4 => exact HC119.out); rintro e w' ⟨rfl, ⟨nd, rfl⟩⟩))
        go_ret
        exact ⟨by first | rfl | (simp [errW_none, errW_some] <;> rfl) | (simp only [← hji3, ← hji14]; first | rfl | (simp [errW_none, errW_some] <;> rfl)) | (simp [*, errW_none, errW_some] <;> rfl), by repeat (first | (with_reducible first | exact HB.out | apply below_alloc | apply pw_below_drewN | apply below_drew1) | exact HB.out)⟩
       ·rw [if_neg c16] at H
        exact absurd H (by simp)
      ·rw [if_neg c15] at H
       exact absurd H (by simp)
     ·replace c13 := Bool.eq_false_iff.mpr c13
      subst c13
      have H1 : (some false) = some r := by rw [if_neg (show ¬ (false = true) by decide)] at H; exact H
      clear H
      have H := H1
      clear H1
      obtain rfl := Option.some.inj H
      obtain ⟨i028, hi028, _, hsz28, _⟩ := info_parts info5
      obtain ⟨hcut28, hA28, hC28⟩ := print_take_of (P := Tryd.prog) (Value.int .u8) 0 25 5 .i64 Tryd.underlying25 hi028 hsz28 A0 c0 l0 (ji3) (of_decide_eq_true z5z6) (of_decide_eq_true z5z6) HC0.out
      have HR101 := Aside0.mk (Kd.C_of_reads (h1 := fun _ => rfl) (hA28 _ (Kd.reads_of_C HR0.out)))
      have HC101 := Aside0.mk hC28
      clear hA28 hC28 hi028 hsz28
      go_enter Tryd.func5, Tryd.ntmps5
      go_wp2_with (first | ((with_reducible refine gate_callee (f := 24) rfl ?_); refine goesL_ (some 19) rfl rfl Tryd.func24 (by kernel_rfl) rfl #[.slice A0 (l0.take ((ji3) : Int).toNat).length c0, .int .i64 1000] rfl z5z1 ?_; (with_reducible refine (pouchlaw06_each.calls k _ _ (l0.take ((ji3) : Int).toNat) 1000 t102 t103 _ ?side1 ?side2 ?side3 A6.out).mono ?_); (case side1 => exact z5z7); (case side2 => exact HC101.out); (case side3 => exact z5z11); rintro e w29 ⟨v104, rfl, ho0, hb⟩; refine ⟨_, rfl, ?_⟩; have n0_ := Aside0.mk (Kd.R_lower ho0 (below_size z5z0)); have n1_ := Aside0.mk (below_step z5z0 hb); have HO105 := n0_; replace HB := n1_; clear n0_ n1_; clear hb ho0; have hcv30 := Kd.C_string (P := Tryd.prog) (A := A0) (c := c0) Tryd.underlying25 Tryd.underlying5 Tryd.underlying9 (Kd.C_below HR101.out HB.out); (try (have hcvb30 := hcv30; rw [List.length_take, Nat.min_eq_left z5z10] at hcvb30))) | ((with_reducible refine gate_callee (f := 25) rfl ?_); refine goesL_ (some 25) rfl rfl Tryd.func25 (by kernel_rfl) rfl #[.string (strOfNums (l0.take ((ji3) : Int).toNat))] rfl z5z4 ?_; (with_reducible refine (pouchref06_Each.calls k (strOfNums (l0.take ((ji3) : Int).toNat)) t106 t107 _ A7.out).mono ?_); rintro e w31 ⟨v108, rfl, ho0, hb⟩; refine ⟨_, rfl, ?_⟩; have n0_ := Aside0.mk (Kd.R_elder' z5z2 (Kd.R_base ho0) hb); have n1_ := Aside0.mk (Kd.R_lower (Kd.R_new' ho0 (Kd.R_lt z5z2)) (below_size z5z0)); have n2_ := Aside0.mk (below_step z5z0 hb); replace HO105 := n0_; have HO109 := n1_; replace HB := n2_; clear n0_ n1_ n2_; clear hb ho0) | ((with_reducible refine gate_callee (f := 24) rfl ?_); refine goesL_ (some 35) rfl rfl Tryd.func24 (by kernel_rfl) rfl #[.slice A0 (l0.take ((ji3) : Int).toNat).length c0, .int .i64 (wrap64 (Int.tmod (IntKind.u64.wrap (a1)) 5))] rfl z5z1 ?_; (with_reducible refine (pouchlaw06_each.calls k _ _ (l0.take ((ji3) : Int).toNat) (wrap64 (Int.tmod (IntKind.u64.wrap (a1)) 5)) t110 t111 _ ?side1 ?side2 ?side3 A8.out).mono ?_); (case side1 => exact z5z5); (case side2 => exact HC101.out); (case side3 => exact z5z11); rintro e w32 ⟨v112, rfl, ho0, hb⟩; refine ⟨_, rfl, ?_⟩; have n0_ := Aside0.mk (Kd.R_elder' z5z2 (Kd.R_base ho0) hb); have n1_ := Aside0.mk (Kd.R_elder' z5z3 (Kd.R_base ho0) hb); have n2_ := Aside0.mk (Kd.R_lower (Kd.R_new' (Kd.R_new' ho0 (Kd.R_lt z5z2)) (Kd.R_lt z5z3)) (below_size z5z0)); have n3_ := Aside0.mk (below_step z5z0 hb); replace HO105 := n0_; replace HO109 := n1_; have HO113 := n2_; replace HB := n3_; clear n0_ n1_ n2_ n3_; clear hb ho0) | ((with_reducible refine gate_callee (f := 10) rfl ?_); refine goesL_ (some 38) rfl rfl Tryd.func10 (by kernel_rfl) rfl #[] rfl z5z8 ?_; (with_reducible refine (pouchlaw06_told.calls k  true _ ?side1 A9.out).mono ?_); (case side1 => exact z5z11); rintro e w33 ⟨rfl, hb⟩; refine ⟨_, rfl, ?_⟩; have n0_ := Aside0.mk (Kd.R_below z5z2 hb); have n1_ := Aside0.mk (Kd.R_below z5z3 hb); have n2_ := Aside0.mk (Kd.R_below z5z9 hb); have n3_ := Aside0.mk (below_step z5z0 hb); replace HO105 := n0_; replace HO109 := n1_; replace HO113 := n2_; replace HB := n3_; clear n0_ n1_ n2_ n3_; clear hb; obtain ⟨Ao34, co34, eo34⟩ := Kd.R_slice HO105.out; subst eo34; obtain ⟨Ao35, co35, eo35⟩ := Kd.R_slice HO109.out; subst eo35) | (go_at_call 18; (with_reducible refine (pouchref06_Same.calls k _ _ t102 _ _ t106 false _ ?side1 ?side2 ?side3 ?side4 A12.out).mono ?_); (case side1 => exact z5z12); (case side2 => exact (Kd.R_reads' HO105.out).2.1); (case side3 => exact z5z13); (case side4 => exact (Kd.R_reads' HO109.out).2.1); rintro e w' ⟨rfl, ⟨nd, rfl⟩⟩))
      go_ret
      exact ⟨by first | rfl | (simp [errW_none, errW_some] <;> rfl) | (simp only [← hji3]; first | rfl | (simp [errW_none, errW_some] <;> rfl)) | (simp [*, errW_none, errW_some] <;> rfl), by repeat (first | (with_reducible first | exact HB.out | apply below_alloc | apply pw_below_drewN | apply below_drew1) | exact HB.out)⟩
    ·rw [if_neg c11] at H
     have c11b0 : (t103 == t107) = false := by simpa using c11
     (try (have c11b1 : decide (t103 = t107) = false := by simpa using c11))
     (try (have c11b2 : (t103 == t107) = false := by simpa using c11))
     (try (have c11b3 : ¬ (t103 = t107) := by simpa using c11))
     clear c11
     obtain rfl := Option.some.inj H
     obtain ⟨i036, hi036, _, hsz36, _⟩ := info_parts info5
     obtain ⟨hcut36, hA36, hC36⟩ := print_take_of (P := Tryd.prog) (Value.int .u8) 0 25 5 .i64 Tryd.underlying25 hi036 hsz36 A0 c0 l0 (ji3) (of_decide_eq_true z5z6) (of_decide_eq_true z5z6) HC0.out
     have HR101 := Aside0.mk (Kd.C_of_reads (h1 := fun _ => rfl) (hA36 _ (Kd.reads_of_C HR0.out)))
     have HC101 := Aside0.mk hC36
     clear hA36 hC36 hi036 hsz36
     go_enter Tryd.func5, Tryd.ntmps5
     go_wp2_with (first | ((with_reducible refine gate_callee (f := 24) rfl ?_); refine goesL_ (some 19) rfl rfl Tryd.func24 (by kernel_rfl) rfl #[.slice A0 (l0.take ((ji3) : Int).toNat).length c0, .int .i64 1000] rfl z5z1 ?_; (with_reducible refine (pouchlaw06_each.calls k _ _ (l0.take ((ji3) : Int).toNat) 1000 t102 t103 _ ?side1 ?side2 ?side3 A6.out).mono ?_); (case side1 => exact z5z7); (case side2 => exact HC101.out); (case side3 => exact z5z11); rintro e w37 ⟨v104, rfl, ho0, hb⟩; refine ⟨_, rfl, ?_⟩; have n0_ := Aside0.mk (Kd.R_lower ho0 (below_size z5z0)); have n1_ := Aside0.mk (below_step z5z0 hb); have HO105 := n0_; replace HB := n1_; clear n0_ n1_; clear hb ho0; have hcv38 := Kd.C_string (P := Tryd.prog) (A := A0) (c := c0) Tryd.underlying25 Tryd.underlying5 Tryd.underlying9 (Kd.C_below HR101.out HB.out); (try (have hcvb38 := hcv38; rw [List.length_take, Nat.min_eq_left z5z10] at hcvb38))) | ((with_reducible refine gate_callee (f := 25) rfl ?_); refine goesL_ (some 25) rfl rfl Tryd.func25 (by kernel_rfl) rfl #[.string (strOfNums (l0.take ((ji3) : Int).toNat))] rfl z5z4 ?_; (with_reducible refine (pouchref06_Each.calls k (strOfNums (l0.take ((ji3) : Int).toNat)) t106 t107 _ A7.out).mono ?_); rintro e w39 ⟨v108, rfl, ho0, hb⟩; refine ⟨_, rfl, ?_⟩; have n0_ := Aside0.mk (Kd.R_elder' z5z2 (Kd.R_base ho0) hb); have n1_ := Aside0.mk (Kd.R_lower (Kd.R_new' ho0 (Kd.R_lt z5z2)) (below_size z5z0)); have n2_ := Aside0.mk (below_step z5z0 hb); replace HO105 := n0_; have HO109 := n1_; replace HB := n2_; clear n0_ n1_ n2_; clear hb ho0) | ((with_reducible refine gate_callee (f := 24) rfl ?_); refine goesL_ (some 35) rfl rfl Tryd.func24 (by kernel_rfl) rfl #[.slice A0 (l0.take ((ji3) : Int).toNat).length c0, .int .i64 (wrap64 (Int.tmod (IntKind.u64.wrap (a1)) 5))] rfl z5z1 ?_; (with_reducible refine (pouchlaw06_each.calls k _ _ (l0.take ((ji3) : Int).toNat) (wrap64 (Int.tmod (IntKind.u64.wrap (a1)) 5)) t110 t111 _ ?side1 ?side2 ?side3 A8.out).mono ?_); (case side1 => exact z5z5); (case side2 => exact HC101.out); (case side3 => exact z5z11); rintro e w40 ⟨v112, rfl, ho0, hb⟩; refine ⟨_, rfl, ?_⟩; have n0_ := Aside0.mk (Kd.R_elder' z5z2 (Kd.R_base ho0) hb); have n1_ := Aside0.mk (Kd.R_elder' z5z3 (Kd.R_base ho0) hb); have n2_ := Aside0.mk (Kd.R_lower (Kd.R_new' (Kd.R_new' ho0 (Kd.R_lt z5z2)) (Kd.R_lt z5z3)) (below_size z5z0)); have n3_ := Aside0.mk (below_step z5z0 hb); replace HO105 := n0_; replace HO109 := n1_; have HO113 := n2_; replace HB := n3_; clear n0_ n1_ n2_ n3_; clear hb ho0) | ((with_reducible refine gate_callee (f := 10) rfl ?_); refine goesL_ (some 38) rfl rfl Tryd.func10 (by kernel_rfl) rfl #[] rfl z5z8 ?_; (with_reducible refine (pouchlaw06_told.calls k  true _ ?side1 A9.out).mono ?_); (case side1 => exact z5z11); rintro e w41 ⟨rfl, hb⟩; refine ⟨_, rfl, ?_⟩; have n0_ := Aside0.mk (Kd.R_below z5z2 hb); have n1_ := Aside0.mk (Kd.R_below z5z3 hb); have n2_ := Aside0.mk (Kd.R_below z5z9 hb); have n3_ := Aside0.mk (below_step z5z0 hb); replace HO105 := n0_; replace HO109 := n1_; replace HO113 := n2_; replace HB := n3_; clear n0_ n1_ n2_ n3_; clear hb))
     go_ret
     exact ⟨by first | rfl | (simp [errW_none, errW_some] <;> rfl) | (simp only [← hji3]; first | rfl | (simp [errW_none, errW_some] <;> rfl)) | (simp [*, errW_none, errW_some] <;> rfl), by repeat (first | (with_reducible first | exact HB.out | apply below_alloc | apply pw_below_drewN | apply below_drew1) | exact HB.out)⟩
   ·replace c10 := Bool.eq_false_iff.mpr c10
    subst c10
    have H1 : (some false) = some r := by rw [if_neg (show ¬ (false = true) by decide)] at H; exact H
    clear H
    have H := H1
    clear H1
    obtain rfl := Option.some.inj H
    obtain ⟨i042, hi042, _, hsz42, _⟩ := info_parts info5
    obtain ⟨hcut42, hA42, hC42⟩ := print_take_of (P := Tryd.prog) (Value.int .u8) 0 25 5 .i64 Tryd.underlying25 hi042 hsz42 A0 c0 l0 (ji3) (of_decide_eq_true z5z6) (of_decide_eq_true z5z6) HC0.out
    have HR101 := Aside0.mk (Kd.C_of_reads (h1 := fun _ => rfl) (hA42 _ (Kd.reads_of_C HR0.out)))
    have HC101 := Aside0.mk hC42
    clear hA42 hC42 hi042 hsz42
    go_enter Tryd.func5, Tryd.ntmps5
    go_wp2_with (first | ((with_reducible refine gate_callee (f := 24) rfl ?_); refine goesL_ (some 19) rfl rfl Tryd.func24 (by kernel_rfl) rfl #[.slice A0 (l0.take ((ji3) : Int).toNat).length c0, .int .i64 1000] rfl z5z1 ?_; (with_reducible refine (pouchlaw06_each.calls k _ _ (l0.take ((ji3) : Int).toNat) 1000 t102 t103 _ ?side1 ?side2 ?side3 A6.out).mono ?_); (case side1 => exact z5z7); (case side2 => exact HC101.out); (case side3 => exact z5z11); rintro e w43 ⟨v104, rfl, ho0, hb⟩; refine ⟨_, rfl, ?_⟩; have n0_ := Aside0.mk (Kd.R_lower ho0 (below_size z5z0)); have n1_ := Aside0.mk (below_step z5z0 hb); have HO105 := n0_; replace HB := n1_; clear n0_ n1_; clear hb ho0; have hcv44 := Kd.C_string (P := Tryd.prog) (A := A0) (c := c0) Tryd.underlying25 Tryd.underlying5 Tryd.underlying9 (Kd.C_below HR101.out HB.out); (try (have hcvb44 := hcv44; rw [List.length_take, Nat.min_eq_left z5z10] at hcvb44))) | ((with_reducible refine gate_callee (f := 25) rfl ?_); refine goesL_ (some 25) rfl rfl Tryd.func25 (by kernel_rfl) rfl #[.string (strOfNums (l0.take ((ji3) : Int).toNat))] rfl z5z4 ?_; (with_reducible refine (pouchref06_Each.calls k (strOfNums (l0.take ((ji3) : Int).toNat)) t106 t107 _ A7.out).mono ?_); rintro e w45 ⟨v108, rfl, ho0, hb⟩; refine ⟨_, rfl, ?_⟩; have n0_ := Aside0.mk (Kd.R_elder' z5z2 (Kd.R_base ho0) hb); have n1_ := Aside0.mk (Kd.R_lower (Kd.R_new' ho0 (Kd.R_lt z5z2)) (below_size z5z0)); have n2_ := Aside0.mk (below_step z5z0 hb); replace HO105 := n0_; have HO109 := n1_; replace HB := n2_; clear n0_ n1_ n2_; clear hb ho0) | ((with_reducible refine gate_callee (f := 24) rfl ?_); refine goesL_ (some 35) rfl rfl Tryd.func24 (by kernel_rfl) rfl #[.slice A0 (l0.take ((ji3) : Int).toNat).length c0, .int .i64 (wrap64 (Int.tmod (IntKind.u64.wrap (a1)) 5))] rfl z5z1 ?_; (with_reducible refine (pouchlaw06_each.calls k _ _ (l0.take ((ji3) : Int).toNat) (wrap64 (Int.tmod (IntKind.u64.wrap (a1)) 5)) t110 t111 _ ?side1 ?side2 ?side3 A8.out).mono ?_); (case side1 => exact z5z5); (case side2 => exact HC101.out); (case side3 => exact z5z11); rintro e w46 ⟨v112, rfl, ho0, hb⟩; refine ⟨_, rfl, ?_⟩; have n0_ := Aside0.mk (Kd.R_elder' z5z2 (Kd.R_base ho0) hb); have n1_ := Aside0.mk (Kd.R_elder' z5z3 (Kd.R_base ho0) hb); have n2_ := Aside0.mk (Kd.R_lower (Kd.R_new' (Kd.R_new' ho0 (Kd.R_lt z5z2)) (Kd.R_lt z5z3)) (below_size z5z0)); have n3_ := Aside0.mk (below_step z5z0 hb); replace HO105 := n0_; replace HO109 := n1_; have HO113 := n2_; replace HB := n3_; clear n0_ n1_ n2_ n3_; clear hb ho0) | ((with_reducible refine gate_callee (f := 10) rfl ?_); refine goesL_ (some 38) rfl rfl Tryd.func10 (by kernel_rfl) rfl #[] rfl z5z8 ?_; (with_reducible refine (pouchlaw06_told.calls k  false _ ?side1 A9.out).mono ?_); (case side1 => exact z5z11); rintro e w47 ⟨rfl, hb⟩; refine ⟨_, rfl, ?_⟩; have n0_ := Aside0.mk (Kd.R_below z5z2 hb); have n1_ := Aside0.mk (Kd.R_below z5z3 hb); have n2_ := Aside0.mk (Kd.R_below z5z9 hb); have n3_ := Aside0.mk (below_step z5z0 hb); replace HO105 := n0_; replace HO109 := n1_; replace HO113 := n2_; replace HB := n3_; clear n0_ n1_ n2_ n3_; clear hb))
    go_ret
    exact ⟨by first | rfl | (simp [errW_none, errW_some] <;> rfl) | (simp only [← hji3]; first | rfl | (simp [errW_none, errW_some] <;> rfl)) | (simp [*, errW_none, errW_some] <;> rfl), by repeat (first | (with_reducible first | exact HB.out | apply below_alloc | apply pw_below_drewN | apply below_drew1) | exact HB.out)⟩
  ·rw [if_neg c5] at H
   exact absurd H (by simp)
 ·rw [if_neg c4] at H
  exact absurd H (by simp)
end Go.Proofs.YtkmkgpigmldhnaaDoor.P

namespace Go.Proofs.YtkmkgpigmldhnaaDoor.Mq
open Go.Lib
def rightB (s : List UInt8) : Bool := decide (s.length ≤ 65535) && (validD s && !s.contains 0)
def shareP : List UInt8 := [36, 115, 104, 97, 114, 101, 47]
def sharedB (s : List UInt8) : Bool := shareP.isPrefixOf s
def target (s : List UInt8) : List UInt8 := if sharedB s then (cut (s.drop 7) [47]).2.1 else s
theorem contains_zero (s : List UInt8) : Go.Lib.contains s [0] = s.contains 0 := by
  unfold Go.Lib.contains
  induction s with
  | nil => rfl
  | cons b l ih =>
    have hge := index_ge l [0]
    rw [show index (b :: l) [0] = if ([0] : List UInt8).isPrefixOf (b :: l) then 0 else if index l [0] == -1 then -1 else index l [0] + 1 from rfl]
    by_cases hb : b = 0
    · subst hb; simp
    · have h1 : ([0] : List UInt8).isPrefixOf (b :: l) = false := by show ((0 : UInt8) == b && List.isPrefixOf [] l) = false; rw [beq_eq_false_iff_ne.2 (Ne.symm hb)]; rfl
      rw [h1, List.contains_cons, show ((0 : UInt8) == b) = false from beq_eq_false_iff_ne.2 (Ne.symm hb), Bool.false_or, ← ih]
      by_cases h2 : index l [0] = -1
      · rw [h2]; rfl
      · rw [if_neg (by decide), if_neg (by simpa using h2), decide_eq_true (by omega), decide_eq_true (by omega)]
end Go.Proofs.YtkmkgpigmldhnaaDoor.Mq

namespace Go.Proofs.YtkmkgpigmldhnaaDoor.Pr
open Go.RowKit Go.Lib Go.Proofs.YtkmkgpigmldhnaaDoorW.PrintWords Go.Proofs.YtkmkgpigmldhnaaDoorW.PrintLast Go.Proofs.YtkmkgpigmldhnaaDoorW.PrintMore
open Go.Proofs.YtkmkgpigmldhnaaDoor.P
open Go.Proofs.YtkmkgpigmldhnaaDoor.Mq (rightB contains_zero)
abbrev dl (s : ByteArray) : List UInt8 := s.data.toList
theorem w64 {x : Int} (h1 : -4611686018427387904 ≤ x) (h2 : x < 4611686018427387904) : wrap64 x = x := by unfold wrap64; omega
theorem bt_get (s : ByteArray) (i : Nat) (h : i < s.size) : bt s (i : Int) = (((s.get! i).toNat : Nat) : Int) := by
  unfold bt
  rw [dif_pos (by simpa using h)]
  have : s.get! i = s[i]'h := by
    cases s with
    | mk d => exact getElem!_pos d i h
  rw [this]; rfl
def wid (D : Nat × Nat) (b0 : Nat) : Int := if (D.1 = 65533 ∧ D.2 = 1) ∨ b0 = 0 then 0 else (D.2 : Int)
def widthN (n b0 b1 b2 b3 : Nat) : Int := wid (decodeN n b0 b1 b2 b3) b0
theorem sign_step (s : ByteArray) (i : Nat) (hs : s.size ≤ 65535) (k : Nat) (size acc least : Int) (j : Nat) (hj : (j : Int) < size) (hj4 : j ≤ 4) (hi : i + j < s.size) (ha : 0 ≤ acc) (hb : acc < 1073741824) :
    pouchref02_sign.l0 (k + 1) s i size acc least j = if (s.get! (i + j)).toNat < 128 then some (0, 0) else if (s.get! (i + j)).toNat ≥ 192 then some (0, 0) else pouchref02_sign.l0 k s i size (64 * acc + ((s.get! (i + j)).toNat : Int) - 128) least ((j + 1 : Nat) : Int) := by
  have hr : (s.get! (i + j)).toNat < 256 := (s.get! (i + j)).toNat_lt
  have e1 : wrap64 ((i : Int) + (j : Int)) = ((i + j : Nat) : Int) := by rw [w64 (by omega) (by omega)]; omega
  have e2 : wrap64 ((j : Int) + 1) = ((j + 1 : Nat) : Int) := by rw [w64 (by omega) (by omega)]; omega
  simp only [pouchref02_sign.l0]
  rw [if_pos hj, e1, if_pos (by omega), if_pos (by omega), bt_get s (i + j) hi, e2, w64 (x := ((s.get! (i + j)).toNat : Int)) (by omega) (by omega), w64 (x := 64 * acc) (by omega) (by omega), w64 (x := 64 * acc + _) (by omega) (by omega), w64 (x := 64 * acc + _ - 128) (by omega) (by omega)]
  by_cases h1 : (s.get! (i + j)).toNat < 128
  · rw [if_pos h1, if_pos (by omega)]
  · rw [if_neg h1, if_neg (by omega)]
    by_cases h2 : (s.get! (i + j)).toNat ≥ 192
    · rw [if_pos h2, if_pos (by omega)]
    · rw [if_neg h2, if_neg (by omega)]
def finN (acc least size : Int) : Option (Int × Int) := if acc < least ∨ acc > 1114111 ∨ (55296 ≤ acc ∧ acc ≤ 57343) then some (0, 0) else some (acc, size)
theorem sign_end (s : ByteArray) (i : Nat) (k : Nat) (size acc least j : Int) (hj : ¬ j < size) :
    pouchref02_sign.l0 (k + 1) s i size acc least j = finN acc least size := by
  unfold finN
  simp only [pouchref02_sign.l0]
  rw [if_neg hj]
  by_cases h1 : acc < least
  · rw [if_pos h1, if_pos (.inl h1)]
  · rw [if_neg h1]
    by_cases h2 : acc > 1114111
    · rw [if_pos h2, if_pos (.inr (.inl h2))]
    · rw [if_neg h2]
      by_cases h3 : acc ≥ 55296
      · rw [if_pos h3]
        by_cases h4 : acc ≤ 57343
        · rw [if_pos h4, if_pos (.inr (.inr ⟨h3, h4⟩))]
        · rw [if_neg h4, if_neg (by omega)]
      · rw [if_neg h3, if_neg (by omega)]
theorem sg1 (s : ByteArray) (i k : Nat) (acc least : Int) : pouchref02_sign.l0 (k + 1) s i 1 acc least 1 = finN acc least 1 := sign_end s i k 1 acc least 1 (by omega)
theorem sg2 (s : ByteArray) (i : Nat) (hs : s.size ≤ 65535) (k : Nat) (acc least : Int) (hi : i + 2 ≤ s.size) (ha : 0 ≤ acc) (hb : acc < 512) :
    pouchref02_sign.l0 (k + 2) s i 2 acc least 1 = if (s.get! (i + 1)).toNat < 128 ∨ (s.get! (i + 1)).toNat ≥ 192 then some (0, 0) else finN (64 * acc + ((s.get! (i + 1)).toNat : Int) - 128) least 2 := by
  have s1 := sign_step s i hs (k + 1) 2 acc least 1 (by omega) (by omega) (by omega) ha (by omega)
  rw [show ((1 : Nat) : Int) = 1 from rfl] at s1
  rw [s1, show ((1 + 1 : Nat) : Int) = 2 from rfl, sign_end s i k 2 _ least 2 (by omega)]
  by_cases h1 : (s.get! (i + 1)).toNat < 128
  · rw [if_pos h1, if_pos (.inl h1)]
  · rw [if_neg h1]
    by_cases h2 : (s.get! (i + 1)).toNat ≥ 192
    · rw [if_pos h2, if_pos (.inr h2)]
    · rw [if_neg h2, if_neg (by omega)]
theorem sg3 (s : ByteArray) (i : Nat) (hs : s.size ≤ 65535) (k : Nat) (acc least : Int) (hi : i + 3 ≤ s.size) (ha : 0 ≤ acc) (hb : acc < 512) :
    pouchref02_sign.l0 (k + 3) s i 3 acc least 1 = if ((s.get! (i + 1)).toNat < 128 ∨ (s.get! (i + 1)).toNat ≥ 192) ∨ ((s.get! (i + 2)).toNat < 128 ∨ (s.get! (i + 2)).toNat ≥ 192) then some (0, 0) else finN (64 * (64 * acc + ((s.get! (i + 1)).toNat : Int) - 128) + ((s.get! (i + 2)).toNat : Int) - 128) least 3 := by
  have r1 : (s.get! (i + 1)).toNat < 256 := (s.get! (i + 1)).toNat_lt
  have s1 := sign_step s i hs (k + 2) 3 acc least 1 (by omega) (by omega) (by omega) ha (by omega)
  rw [show ((1 : Nat) : Int) = 1 from rfl] at s1
  rw [s1, show ((1 + 1 : Nat) : Int) = ((2 : Nat) : Int) from rfl]
  by_cases h1 : (s.get! (i + 1)).toNat < 128
  · rw [if_pos h1, if_pos (by omega)]
  · rw [if_neg h1]
    by_cases h2 : (s.get! (i + 1)).toNat ≥ 192
    · rw [if_pos h2, if_pos (by omega)]
    · rw [if_neg h2, sign_step s i hs (k + 1) 3 _ least 2 (by omega) (by omega) (by omega) (by omega) (by omega), show ((2 + 1 : Nat) : Int) = 3 from rfl, sign_end s i k 3 _ least 3 (by omega)]
      by_cases h3 : (s.get! (i + 2)).toNat < 128
      · rw [if_pos h3, if_pos (by omega)]
      · rw [if_neg h3]
        by_cases h4 : (s.get! (i + 2)).toNat ≥ 192
        · rw [if_pos h4, if_pos (by omega)]
        · rw [if_neg h4, if_neg (by omega)]
theorem sg4 (s : ByteArray) (i : Nat) (hs : s.size ≤ 65535) (k : Nat) (acc least : Int) (hi : i + 4 ≤ s.size) (ha : 0 ≤ acc) (hb : acc < 512) :
    pouchref02_sign.l0 (k + 4) s i 4 acc least 1 = if ((s.get! (i + 1)).toNat < 128 ∨ (s.get! (i + 1)).toNat ≥ 192) ∨ ((s.get! (i + 2)).toNat < 128 ∨ (s.get! (i + 2)).toNat ≥ 192) ∨ ((s.get! (i + 3)).toNat < 128 ∨ (s.get! (i + 3)).toNat ≥ 192) then some (0, 0) else finN (64 * (64 * (64 * acc + ((s.get! (i + 1)).toNat : Int) - 128) + ((s.get! (i + 2)).toNat : Int) - 128) + ((s.get! (i + 3)).toNat : Int) - 128) least 4 := by
  have r1 : (s.get! (i + 1)).toNat < 256 := (s.get! (i + 1)).toNat_lt
  have r2 : (s.get! (i + 2)).toNat < 256 := (s.get! (i + 2)).toNat_lt
  have s1 := sign_step s i hs (k + 3) 4 acc least 1 (by omega) (by omega) (by omega) ha (by omega)
  rw [show ((1 : Nat) : Int) = 1 from rfl] at s1
  rw [s1, show ((1 + 1 : Nat) : Int) = ((2 : Nat) : Int) from rfl]
  by_cases h1 : (s.get! (i + 1)).toNat < 128
  · rw [if_pos h1, if_pos (by omega)]
  · rw [if_neg h1]
    by_cases h2 : (s.get! (i + 1)).toNat ≥ 192
    · rw [if_pos h2, if_pos (by omega)]
    · rw [if_neg h2, sign_step s i hs (k + 2) 4 _ least 2 (by omega) (by omega) (by omega) (by omega) (by omega)]
      by_cases h3 : (s.get! (i + 2)).toNat < 128
      · rw [if_pos h3, if_pos (by omega)]
      · rw [if_neg h3]
        by_cases h4 : (s.get! (i + 2)).toNat ≥ 192
        · rw [if_pos h4, if_pos (by omega)]
        · rw [if_neg h4, show ((2 + 1 : Nat) : Int) = ((3 : Nat) : Int) from rfl, sign_step s i hs (k + 1) 4 _ least 3 (by omega) (by omega) (by omega) (by omega) (by omega), show ((3 + 1 : Nat) : Int) = 4 from rfl, sign_end s i k 4 _ least 4 (by omega)]
          by_cases h5 : (s.get! (i + 3)).toNat < 128
          · rw [if_pos h5, if_pos (by omega)]
          · rw [if_neg h5]
            by_cases h6 : (s.get! (i + 3)).toNat ≥ 192
            · rw [if_pos h6, if_pos (by omega)]
            · rw [if_neg h6, if_neg (by omega)]
def signN (n b0 b1 b2 b3 : Nat) : Option (Int × Int) :=
  if b0 ≥ 240 then (if b0 ≥ 248 ∨ n < 4 then some (0, 0) else if (b1 < 128 ∨ b1 ≥ 192) ∨ (b2 < 128 ∨ b2 ≥ 192) ∨ (b3 < 128 ∨ b3 ≥ 192) then some (0, 0) else finN (64 * (64 * (64 * ((b0 : Int) - 240) + (b1 : Int) - 128) + (b2 : Int) - 128) + (b3 : Int) - 128) 65536 4)
  else if b0 ≥ 224 then (if n < 3 then some (0, 0) else if (b1 < 128 ∨ b1 ≥ 192) ∨ (b2 < 128 ∨ b2 ≥ 192) then some (0, 0) else finN (64 * (64 * ((b0 : Int) - 224) + (b1 : Int) - 128) + (b2 : Int) - 128) 2048 3)
  else if b0 ≥ 192 then (if n < 2 then some (0, 0) else if b1 < 128 ∨ b1 ≥ 192 then some (0, 0) else finN (64 * ((b0 : Int) - 192) + (b1 : Int) - 128) 128 2)
  else if b0 ≥ 128 then some (0, 0) else finN b0 1 1
theorem sign_f (s : ByteArray) (i : Nat) (hs : s.size ≤ 65535) (h : i < s.size) (k : Nat) :
    pouchref02_sign.f (k + 8) s i = signN (s.size - i) (s.get! i).toNat (s.get! (i + 1)).toNat (s.get! (i + 2)).toNat (s.get! (i + 3)).toNat := by
  have r0 : (s.get! i).toNat < 256 := (s.get! i).toNat_lt
  have e : ∀ x : Int, x = 1 ∨ x = 2 ∨ x = 3 ∨ x = 4 → wrap64 ((i : Int) + x) = (i : Int) + x := fun x hx => w64 (by omega) (by omega)
  simp only [pouchref02_sign.f]
  rw [if_pos (by omega), if_pos (by omega), bt_get s i h, w64 (x := ((s.get! i).toNat : Int)) (by omega) (by omega), w64 (x := ((s.get! i).toNat : Int) - 240) (by omega) (by omega), w64 (x := ((s.get! i).toNat : Int) - 224) (by omega) (by omega), w64 (x := ((s.get! i).toNat : Int) - 192) (by omega) (by omega)]
  generalize (s.get! i).toNat = b0 at *
  unfold signN
  by_cases c4 : b0 ≥ 240
  · rw [if_pos (by omega), if_pos c4]
    simp only [pouchref02_sign.j0]
    rw [e 4 (by omega)]
    by_cases c5 : b0 ≥ 248
    · rw [if_pos (by omega), if_pos (.inl c5)]
      simp only [pouchref02_sign.j1]; rfl
    · rw [if_neg (by omega)]
      by_cases c6 : i + 4 > s.size
      · rw [decide_eq_true (by omega), if_pos (by omega)]
        simp only [pouchref02_sign.j1]; rfl
      · rw [decide_eq_false (by omega), if_neg (by omega)]
        simp only [pouchref02_sign.j1]
        rw [if_neg (by simp), show k + 6 = (k + 2) + 4 from rfl, sg4 s i hs (k + 2) _ _ (by omega) (by omega) (by omega)]
  · rw [if_neg (by omega), if_neg c4]
    by_cases c3 : b0 ≥ 224
    · rw [if_pos (by omega), if_pos c3]
      simp only [pouchref02_sign.j0]
      rw [e 3 (by omega), if_neg (by omega)]
      by_cases c6 : i + 3 > s.size
      · rw [decide_eq_true (by omega), if_pos (by omega)]
        simp only [pouchref02_sign.j1]; rfl
      · rw [decide_eq_false (by omega), if_neg (by omega)]
        simp only [pouchref02_sign.j1]
        rw [if_neg (by simp), show k + 6 = (k + 3) + 3 from rfl, sg3 s i hs (k + 3) _ _ (by omega) (by omega) (by omega)]
    · rw [if_neg (by omega), if_neg c3]
      by_cases c2 : b0 ≥ 192
      · rw [if_pos (by omega), if_pos c2]
        simp only [pouchref02_sign.j0]
        rw [e 2 (by omega), if_neg (by omega)]
        by_cases c6 : i + 2 > s.size
        · rw [decide_eq_true (by omega), if_pos (by omega)]
          simp only [pouchref02_sign.j1]; rfl
        · rw [decide_eq_false (by omega), if_neg (by omega)]
          simp only [pouchref02_sign.j1]
          rw [if_neg (by simp), show k + 6 = (k + 4) + 2 from rfl, sg2 s i hs (k + 4) _ _ (by omega) (by omega) (by omega)]
      · rw [if_neg (by omega), if_neg c2]
        by_cases c1 : b0 ≥ 128
        · rw [if_pos (by omega), if_pos c1]
        · rw [if_neg (by omega), if_neg c1]
          simp only [pouchref02_sign.j0]
          rw [e 1 (by omega), if_neg (by omega), decide_eq_false (by omega)]
          simp only [pouchref02_sign.j1]
          rw [if_neg (by simp), show k + 6 = (k + 5) + 1 from rfl, sg1]
set_option maxHeartbeats 2000000 in
theorem signN_decode (n b0 b1 b2 b3 : Nat) (r0 : b0 < 256) (r1 : b1 < 256) (r2 : b2 < 256) (r3 : b3 < 256) : ∃ x, signN n b0 b1 b2 b3 = some (x, widthN n b0 b1 b2 b3) := by
  by_cases h0 : b0 = 0
  · subst h0
    refine ⟨0, ?_⟩
    have hw : widthN n 0 b1 b2 b3 = 0 := by unfold widthN wid; rw [if_pos (Or.inr rfl)]
    rw [hw]
    unfold signN finN
    rw [if_neg (by omega), if_neg (by omega), if_neg (by omega), if_neg (by omega), if_pos (by omega)]
  · unfold widthN
    by_cases c1 : b0 < 128
    · refine ⟨b0, ?_⟩
      unfold signN finN decodeN
      rw [if_neg (by omega), if_neg (by omega), if_neg (by omega), if_neg (by omega), if_neg (by omega), if_pos c1]
      unfold wid
      rw [if_neg (by simp; omega)]
      rfl
    · unfold decodeN
      rw [if_neg c1]
      by_cases c2 : b0 ≥ 192 ∧ b0 < 224 ∧ 2 ≤ n ∧ 128 ≤ b1 ∧ b1 < 192
      · rw [if_pos (by omega)]
        unfold signN finN
        rw [if_neg (by omega), if_neg (by omega), if_pos (by omega), if_neg (by omega), if_neg (by omega)]
        by_cases c3 : b0 % 32 * 64 + b1 % 64 ≥ 128
        · rw [if_pos c3, if_neg (by omega)]; unfold wid; rw [if_neg (by simp; omega)]; exact ⟨_, rfl⟩
        · rw [if_neg c3, if_pos (by omega)]; unfold wid; rw [if_pos (by simp)]; exact ⟨_, rfl⟩
      · rw [if_neg (by omega)]
        by_cases c4 : b0 ≥ 224 ∧ b0 < 240 ∧ 3 ≤ n ∧ (128 ≤ b1 ∧ b1 < 192) ∧ (128 ≤ b2 ∧ b2 < 192)
        · rw [if_pos (by omega)]
          unfold signN finN
          rw [if_neg (by omega), if_pos (by omega), if_neg (by omega), if_neg (by omega)]
          by_cases c3 : b0 % 16 * 4096 + b1 % 64 * 64 + b2 % 64 ≥ 2048 ∧ (b0 % 16 * 4096 + b1 % 64 * 64 + b2 % 64 < 55296 ∨ (57344 ≤ b0 % 16 * 4096 + b1 % 64 * 64 + b2 % 64 ∧ b0 % 16 * 4096 + b1 % 64 * 64 + b2 % 64 < 1114112))
          · rw [if_neg (by omega), if_pos (by omega)]; unfold wid; rw [if_neg (by simp; omega)]; exact ⟨_, rfl⟩
          · rw [if_pos (by omega), if_neg (by omega)]; unfold wid; rw [if_pos (by simp)]; exact ⟨_, rfl⟩
        · rw [if_neg (by omega)]
          by_cases c5 : b0 ≥ 240 ∧ b0 < 248 ∧ 4 ≤ n ∧ (128 ≤ b1 ∧ b1 < 192) ∧ (128 ≤ b2 ∧ b2 < 192) ∧ (128 ≤ b3 ∧ b3 < 192)
          · rw [if_pos (by omega)]
            unfold signN finN
            rw [if_pos (by omega), if_neg (by omega), if_neg (by omega)]
            by_cases c3 : b0 % 8 * 262144 + b1 % 64 * 4096 + b2 % 64 * 64 + b3 % 64 ≥ 65536 ∧ (b0 % 8 * 262144 + b1 % 64 * 4096 + b2 % 64 * 64 + b3 % 64 < 55296 ∨ (57344 ≤ b0 % 8 * 262144 + b1 % 64 * 4096 + b2 % 64 * 64 + b3 % 64 ∧ b0 % 8 * 262144 + b1 % 64 * 4096 + b2 % 64 * 64 + b3 % 64 < 1114112))
            · rw [if_neg (by omega), if_pos (by omega)]; unfold wid; rw [if_neg (by simp; omega)]; exact ⟨_, rfl⟩
            · rw [if_pos (by omega), if_neg (by omega)]; unfold wid; rw [if_pos (by simp)]; exact ⟨_, rfl⟩
          · rw [if_neg (by omega)]
            unfold wid
            rw [if_pos (by simp)]
            unfold signN
            by_cases d4 : b0 ≥ 240
            · rw [if_pos d4]
              by_cases d5 : b0 ≥ 248 ∨ n < 4
              · rw [if_pos d5]; exact ⟨_, rfl⟩
              · rw [if_neg d5, if_pos (by omega)]; exact ⟨_, rfl⟩
            · rw [if_neg d4]
              by_cases d3 : b0 ≥ 224
              · rw [if_pos d3]
                by_cases d5 : n < 3
                · rw [if_pos d5]; exact ⟨_, rfl⟩
                · rw [if_neg d5, if_pos (by omega)]; exact ⟨_, rfl⟩
              · rw [if_neg d3]
                by_cases d2 : b0 ≥ 192
                · rw [if_pos d2]
                  by_cases d5 : n < 2
                  · rw [if_pos d5]; exact ⟨_, rfl⟩
                  · rw [if_neg d5, if_pos (by omega)]; exact ⟨_, rfl⟩
                · rw [if_neg d2, if_pos (by omega)]; exact ⟨_, rfl⟩
theorem decode_drop (s : ByteArray) (i : Nat) : decodeL ((dl s).drop i) = decodeN (s.size - i) (s.get! i).toNat (s.get! (i + 1)).toNat (s.get! (i + 2)).toNat (s.get! (i + 3)).toNat := by
  rw [decodeL_drop, decode_at]
theorem sign_nz (s : ByteArray) (i : Nat) (h : i < s.size) (h0 : (s.get! i).toNat ≠ 0) : i + (decodeL ((dl s).drop i)).2 ≤ s.size ∧ 1 ≤ (decodeL ((dl s).drop i)).2 ∧ ∀ j, j < (decodeL ((dl s).drop i)).2 → (s.get! (i + j)).toNat ≠ 0 := by
  have ht := decode_tail s i h
  rw [decodeL_drop]
  refine ⟨ht.1, ht.2.1, fun j hj => ?_⟩
  by_cases e : j = 0
  · subst e; exact h0
  · have := ht.2.2 j (by omega) hj; omega
theorem contains_drop (l : List UInt8) (n : Nat) (h : ∀ j b, j < n → l[j]? = some b → b ≠ 0) : l.contains 0 = (l.drop n).contains 0 := by
  have e : l.contains 0 = ((l.take n).contains 0 || (l.drop n).contains 0) := by
    rw [Bool.eq_iff_iff, Bool.or_eq_true, List.contains_iff_mem, List.contains_iff_mem, List.contains_iff_mem, ← List.mem_append, List.take_append_drop]
  rw [e]
  have : (l.take n).contains 0 = false := by
    rw [Bool.eq_false_iff]
    intro hc
    rw [List.contains_iff_mem] at hc
    obtain ⟨j, hj, he⟩ := List.mem_iff_getElem.1 hc
    have hjn : j < n := by simp at hj; omega
    refine h j 0 hjn ?_ rfl
    rw [← List.getElem?_take_of_lt hjn, List.getElem?_eq_getElem hj, he]
  rw [this, Bool.false_or]
theorem runes_l0 (s : ByteArray) (hs : s.size ≤ 65535) : ∀ (d i : Nat) (cnt : Int), i + d = s.size → 0 ≤ cnt → cnt ≤ i → ∃ r, Ev (fun k => pouchref02_Runes.l0 k s cnt (i : Int)) r ∧ decide (r ≥ 0) = (validD ((dl s).drop i) && !((dl s).drop i).contains 0) := by
  intro d
  induction d using Nat.strongRecOn with
  | _ d ih =>
  intro i cnt hd h1 h2
  by_cases hi : i < s.size
  · have hl : (dl s).length = s.size := (Go.Lib.size_eq s).symm
    have hne : (dl s).drop i ≠ [] := fun e => by have := congrArg List.length e; simp [hl] at this; omega
    obtain ⟨x, hx⟩ := signN_decode (s.size - i) (s.get! i).toNat (s.get! (i + 1)).toNat (s.get! (i + 2)).toNat (s.get! (i + 3)).toNat (s.get! i).toNat_lt (s.get! (i + 1)).toNat_lt (s.get! (i + 2)).toNat_lt (s.get! (i + 3)).toNat_lt
    have hsg : Ev (fun k => pouchref02_sign.f k s (i : Int)) (x, wid (decodeL ((dl s).drop i)) (s.get! i).toNat) := ⟨8, fun k hk => by
      obtain ⟨m, rfl⟩ : ∃ m, k = m + 8 := ⟨k - 8, by omega⟩
      show pouchref02_sign.f (m + 8) s (i : Int) = _
      rw [sign_f s i hs hi m, hx]
      unfold widthN
      rw [decode_drop]⟩
    have h0 : ((dl s).drop i)[0]? = some (s.get! i) := by
      rw [List.getElem?_drop, Nat.add_zero, Go.Lib.data_getElem? s i hi, ← get_at s i hi]; rfl
    rw [validD_step _ hne]
    by_cases hb : ((decodeL ((dl s).drop i)).1 = 65533 ∧ (decodeL ((dl s).drop i)).2 = 1) ∨ (s.get! i).toNat = 0
    · refine ⟨-1, Ev.step (f := fun k => (pouchref02_sign.f k s (i : Int)).bind fun bt101 => if bt101.2 = 0 then some (-1) else pouchref02_Runes.l0 k s (wrap64 (cnt + 1)) (wrap64 ((i : Int) + bt101.2))) (fun k => by simp only [pouchref02_Runes.l0]; rw [if_pos (by omega)]) (Ev.bind hsg (Ev.congr (f := fun _ => some (-1)) (fun k => ?_) (Ev.now _))), ?_⟩
      · show (if wid (decodeL ((dl s).drop i)) (s.get! i).toNat = 0 then _ else _) = _
        rw [if_pos (by unfold wid; rw [if_pos hb])]
      · rcases hb with hb | hb
        · rw [if_pos hb]; rfl
        · have hc : ((dl s).drop i).contains 0 = true := by
            rw [List.contains_iff_mem]
            have e0 : s.get! i = 0 := UInt8.toNat_inj.1 hb
            exact List.mem_of_getElem? (e0 ▸ h0)
          rw [hc]; simp
    · have hz : (s.get! i).toNat ≠ 0 := fun e => hb (.inr e)
      have hv : ¬ ((decodeL ((dl s).drop i)).1 = 65533 ∧ (decodeL ((dl s).drop i)).2 = 1) := fun e => hb (.inl e)
      obtain ⟨n1, n2, n3⟩ := sign_nz s i hi hz
      have hw : wid (decodeL ((dl s).drop i)) (s.get! i).toNat = (((decodeL ((dl s).drop i)).2 : Nat) : Int) := by unfold wid; rw [if_neg hb]
      obtain ⟨r, hr, he⟩ := ih (d - (decodeL ((dl s).drop i)).2) (by omega) (i + (decodeL ((dl s).drop i)).2) (cnt + 1) (by omega) (by omega) (by omega)
      refine ⟨r, Ev.step (f := fun k => (pouchref02_sign.f k s (i : Int)).bind fun bt101 => if bt101.2 = 0 then some (-1) else pouchref02_Runes.l0 k s (wrap64 (cnt + 1)) (wrap64 ((i : Int) + bt101.2))) (fun k => by simp only [pouchref02_Runes.l0]; rw [if_pos (by omega)]) (Ev.bind hsg (Ev.congr (fun k => ?_) hr)), ?_⟩
      · show (if wid (decodeL ((dl s).drop i)) (s.get! i).toNat = 0 then _ else pouchref02_Runes.l0 k s (wrap64 (cnt + 1)) (wrap64 ((i : Int) + wid (decodeL ((dl s).drop i)) (s.get! i).toNat))) = _
        rw [hw, if_neg (by omega), w64 (by omega) (by omega), w64 (by omega) (by omega)]
        rfl
      · rw [he, if_neg hv, contains_drop ((dl s).drop i) (decodeL ((dl s).drop i)).2 (fun j b hj hb2 => ?_), List.drop_drop]
        rw [List.getElem?_drop, Go.Lib.data_getElem? s (i + j) (by omega), ← get_at s (i + j) (by omega)] at hb2
        have := n3 j hj
        intro e
        have e2 := Option.some.inj hb2
        rw [e] at e2
        exact this (by rw [show s.get! (i + j) = 0 from e2]; rfl)
  · have e : i = s.size := by omega
    subst e
    refine ⟨cnt, Ev.step (f := fun _ => some cnt) (fun k => by simp only [pouchref02_Runes.l0]; rw [if_neg (by omega)]) (Ev.now _), ?_⟩
    rw [List.drop_eq_nil_of_le (by rw [Go.Lib.size_eq s]; exact Nat.le_refl _), validD_nil, decide_eq_true h1]; rfl
theorem right_ref (s : ByteArray) : Ev (fun k => pouchref02_Right.f k s) (rightB (dl s)) := by
  have hl : (dl s).length = s.size := (Go.Lib.size_eq s).symm
  by_cases hs : s.size ≤ 65535
  · obtain ⟨r, hr, he⟩ := runes_l0 s hs s.size 0 0 (by omega) (Int.le_refl _) (by omega)
    rw [List.drop_zero] at he
    have h2 : rightB (dl s) = decide (r ≥ 0) := by unfold rightB; rw [hl, decide_eq_true hs, he]; rfl
    rw [h2]
    refine Ev.bind (g := fun k => pouchref02_Runes.f k s) (f := fun _ t => some (decide (t ≥ 0))) (a := r) (Ev.congr (fun k => ?_) hr) (Ev.now _)
    simp only [pouchref02_Runes.f]
    rw [if_neg (by omega)]; rfl
  · have h2 : rightB (dl s) = false := by unfold rightB; rw [hl, decide_eq_false hs]; rfl
    rw [h2]
    refine Ev.bind (g := fun k => pouchref02_Runes.f k s) (f := fun _ t => some (decide (t ≥ 0))) (a := -1) (Ev.congr (f := fun _ => some (-1)) (fun k => ?_) (Ev.now _)) (Ev.now _)
    simp only [pouchref02_Runes.f]
    rw [if_pos (by omega)]
theorem right_prog (a : ByteArray) : text_Right.f a = some (rightB (dl a)) := by
  have hl : (dl a).length = a.size := (Go.Lib.size_eq a).symm
  unfold text_Right.f utf8_ValidString.f strings_Contains.f rightB
  rw [hl]
  by_cases h : a.size ≤ 65535
  · rw [if_pos (by omega), if_pos (by omega), if_pos (by omega), decide_eq_true h]
    simp only [Option.bind_some]
    by_cases hv : validD a.data.toList = true
    · rw [if_pos hv, hv]
      rw [contains_zero]; rfl
    · rw [if_neg hv]
      have : validD a.data.toList = false := by simpa using hv
      rw [this]; rfl
  · rw [if_neg (by omega), decide_eq_false h]; rfl
end Go.Proofs.YtkmkgpigmldhnaaDoor.Pr

namespace Go.Proofs.YtkmkgpigmldhnaaDoor.P
open Go.RowKit Go.Proofs.YtkmkgpigmldhnaaDoorW.PrintWords Go.Proofs.YtkmkgpigmldhnaaDoorW.PrintLast Go.Proofs.YtkmkgpigmldhnaaDoorW.PrintMore
attribute [local go_sem] max2_int min2_int max_two min_two max_three min_three max_four min_four
set_option linter.unusedVariables false
set_option linter.unusedSimpArgs false
mutual
def pouchref05_kinds.j0 : Nat → Int → Bool → Option (List Int)
  | 0, _, _ => none
  | k + 1, x3, x4 => if x4 = true then (some (([3, 16] : List Int))) else (if x3 = 11 then (some (([3, 8] : List Int))) else (if x3 = 17 then (some (([1, 2, 14] : List Int))) else (if x3 = 18 then (pouchref05_kinds.j1 k x3 (x3 == 18)) else (if x3 = 19 then (pouchref05_kinds.j1 k x3 (x3 == 19)) else (if x3 = 26 then (pouchref05_kinds.j1 k x3 (x3 == 26)) else (if x3 = 36 then (pouchref05_kinds.j1 k x3 (x3 == 36)) else (if x3 = 37 then (pouchref05_kinds.j1 k x3 (x3 == 37)) else (if x3 = 40 then (pouchref05_kinds.j1 k x3 (x3 == 40)) else (if x3 = 41 then (pouchref05_kinds.j1 k x3 (x3 == 41)) else (pouchref05_kinds.j1 k x3 (x3 == 42)))))))))))
def pouchref05_kinds.j1 : Nat → Int → Bool → Option (List Int)
  | 0, _, _ => none
  | k + 1, x3, x17 => if x17 = true then (some (([2] : List Int))) else (if x3 = 21 then (pouchref05_kinds.j2 k x3 (x3 == 21)) else (pouchref05_kinds.j2 k x3 (x3 == 22)))
def pouchref05_kinds.j2 : Nat → Int → Bool → Option (List Int)
  | 0, _, _ => none
  | k + 1, x3, x27 => if x27 = true then (some (([1, 2, 15] : List Int))) else (if x3 = 23 then (pouchref05_kinds.j3 k x3 (x3 == 23)) else (pouchref05_kinds.j3 k x3 (x3 == 25)))
def pouchref05_kinds.j3 : Nat → Int → Bool → Option (List Int)
  | 0, _, _ => none
  | k + 1, x3, x31 => if x31 = true then (some (([1] : List Int))) else (if x3 = 24 then (some (([16] : List Int))) else (if x3 = 28 then (some (([2, 14] : List Int))) else (if x3 = 31 then (some (([2, 4, 5, 6, 7, 9, 11, 14, 15] : List Int))) else (if x3 = 33 then (pouchref05_kinds.j4 k x3 (x3 == 33)) else (if x3 = 34 then (pouchref05_kinds.j4 k x3 (x3 == 34)) else (pouchref05_kinds.j4 k x3 (x3 == 39)))))))
def pouchref05_kinds.j4 : Nat → Int → Bool → Option (List Int)
  | 0, _, _ => none
  | k + 1, x3, x44 => if x44 = true then (some (([1, 2] : List Int))) else (if x3 = 35 then (some (([3] : List Int))) else (if x3 = 38 then (some (([1, 2, 3, 4, 5, 6, 7, 8, 9, 10, 11, 14, 15, 16] : List Int))) else (some ([] : List Int))))
end
def pouchref05_kinds.f (k : Nat) (a0 : Int) : Option (List Int) := if a0 = 1 then (pouchref05_kinds.j0 k a0 (a0 == 1)) else (if a0 = 2 then (pouchref05_kinds.j0 k a0 (a0 == 2)) else (if a0 = 3 then (pouchref05_kinds.j0 k a0 (a0 == 3)) else (if a0 = 8 then (pouchref05_kinds.j0 k a0 (a0 == 8)) else (pouchref05_kinds.j0 k a0 (a0 == 9)))))
theorem z87m0 {p : Prop} (h : p := by
 repeat' first
 | (with_reducible exact ih0 _ _)
 | (with_reducible exact ih1 _ _)
 | (with_reducible exact ih2 _ _)
 | (with_reducible exact ih3 _ _)
 | (with_reducible exact ih4 _ _)
 | (with_reducible exact LeO.refl _)
 | (with_reducible exact LeO.none _)
 | (with_reducible refine LeO.ite ?_ ?_)
 | (with_reducible refine LeO.bind ?_ (fun _ => ?_))
 | exact ih0 _ _
 | exact ih1 _ _
 | exact ih2 _ _
 | exact ih3 _ _
 | exact ih4 _ _
 | exact LeO.none _
 | refine LeO.ite ?_ ?_
 | refine LeO.bind ?_ (fun _ => ?_)) : p := h
theorem pouchref05_kinds.mono_l : ∀ k, (∀ y0 y1, LeO (pouchref05_kinds.j0 k y0 y1) (pouchref05_kinds.j0 (k + 1) y0 y1)) ∧ (∀ y0 y1, LeO (pouchref05_kinds.j1 k y0 y1) (pouchref05_kinds.j1 (k + 1) y0 y1)) ∧ (∀ y0 y1, LeO (pouchref05_kinds.j2 k y0 y1) (pouchref05_kinds.j2 (k + 1) y0 y1)) ∧ (∀ y0 y1, LeO (pouchref05_kinds.j3 k y0 y1) (pouchref05_kinds.j3 (k + 1) y0 y1)) ∧ (∀ y0 y1, LeO (pouchref05_kinds.j4 k y0 y1) (pouchref05_kinds.j4 (k + 1) y0 y1))
  | 0 => ⟨fun _ _ r h => by simp [pouchref05_kinds.j0] at h, fun _ _ r h => by simp [pouchref05_kinds.j1] at h, fun _ _ r h => by simp [pouchref05_kinds.j2] at h, fun _ _ r h => by simp [pouchref05_kinds.j3] at h, fun _ _ r h => by simp [pouchref05_kinds.j4] at h⟩
  | k + 1 => by
    obtain ⟨ih0, ih1, ih2, ih3, ih4⟩ := pouchref05_kinds.mono_l k
    refine ⟨?_, ?_, ?_, ?_, ?_⟩
    · intro y0 y1
      unfold pouchref05_kinds.j0
      exact z87m0
    · intro y0 y1
      unfold pouchref05_kinds.j1
      exact z87m0
    · intro y0 y1
      unfold pouchref05_kinds.j2
      exact z87m0
    · intro y0 y1
      unfold pouchref05_kinds.j3
      exact z87m0
    · intro y0 y1
      unfold pouchref05_kinds.j4
      exact z87m0
theorem pouchref05_kinds.mono : ∀ a0 k, LeO (pouchref05_kinds.f k a0) (pouchref05_kinds.f (k + 1) a0) := by
  intro a0 k
  obtain ⟨ih0, ih1, ih2, ih3, ih4⟩ := pouchref05_kinds.mono_l k
  unfold pouchref05_kinds.f
  exact z87m0
theorem z87z0 {p : Prop} (h : p := by repeat (first | (with_reducible first | exact HB.out | apply below_alloc | apply pw_below_drewN | apply below_drew1) | exact HB.out)) : p := h
theorem z87z1 {p : Prop} (h : p := by first | rfl | (simp; done) | (simp [*]; done)) : p := h
theorem z87z2 {p : Prop} (h : p := by first | (go_simp; done) | (go_simp; rfl)) : p := h
set_option maxHeartbeats 8000000 in
set_option maxRecDepth 100000 in
theorem pouchref05_kinds.calls (k : Nat) (a0 : Int) (r : List Int) (w : World) (h : pouchref05_kinds.f k a0 = some r) :
  Calls Tryd.prog 87 #[.int .u8 a0] w fun e w' => ∃ v0_ : Value, e = .returned (v0_) ∧ Kd.R (Kd.int .i64) 3 w' w.heap.size (fun _ => True) v0_ r ∧ Below w.heap.size w w' := by
 have HB := Aside0.mk (Below.refl w.heap.size w)
 have H : (if a0 = 1 then (pouchref05_kinds.j0 k a0 (a0 == 1)) else (if a0 = 2 then (pouchref05_kinds.j0 k a0 (a0 == 2)) else (if a0 = 3 then (pouchref05_kinds.j0 k a0 (a0 == 3)) else (if a0 = 8 then (pouchref05_kinds.j0 k a0 (a0 == 8)) else (pouchref05_kinds.j0 k a0 (a0 == 9)))))) = some r := h
 clear h
 have HC2 := Aside0.mk H
 clear H
 go_enter Tryd.func87, Tryd.ntmps87
 go_upto_if 4 with (fail)
 go_cut [4] (fun v4 wc => ∃ (kq : Nat) (x4_1 : Bool), v4 = .bool x4_1 ∧ Aside0 (pouchref05_kinds.j0 kq a0 x4_1 = some r) ∧ Aside0 (kq ≤ k) ∧ Aside0 (Below w.heap.size w wc))
 case first =>
  have H := HC2.out
  clear HC2
  by_cases c3 : a0 = 1
  ·rw [if_pos c3] at H
   have c3b0 : (a0 == 1) = true := beq_iff_eq.mpr c3
   have c3b1 : (a0 != 1) = false := bne_eq_false_iff_eq.mpr c3
   clear c3
   (first | rw [c3b0] | (simp only [i64_w, i32_w]; rw [c3b0]) | skip)
   have H' := Aside0.mk H
   clear H
   go_wp2
   go_meet
   case rel => exact ⟨_, ((a0 == 1)), z87z1, H', ⟨by first | omega | exact Nat.le_refl _⟩, ⟨by repeat (first | (with_reducible first | exact HB.out | apply below_alloc | apply pw_below_drewN | apply below_drew1) | exact HB.out)⟩⟩
  ·rw [if_neg c3] at H
   have c3b0 : (a0 == 1) = false := beq_eq_false_iff_ne.mpr c3
   have c3b1 : (a0 != 1) = true := bne_iff_ne.mpr c3
   (first | rw [c3b0] | (simp only [i64_w, i32_w]; rw [c3b0]) | skip)
   by_cases c4 : a0 = 2
   ·rw [if_pos c4] at H
    have c4b0 : (a0 == 2) = true := beq_iff_eq.mpr c4
    have c4b1 : (a0 != 2) = false := bne_eq_false_iff_eq.mpr c4
    clear c4
    have H' := Aside0.mk H
    clear H
    go_wp2
    go_meet
    case rel => exact ⟨_, ((a0 == 2)), z87z1, H', ⟨by first | omega | exact Nat.le_refl _⟩, ⟨by repeat (first | (with_reducible first | exact HB.out | apply below_alloc | apply pw_below_drewN | apply below_drew1) | exact HB.out)⟩⟩
   ·rw [if_neg c4] at H
    have c4b0 : (a0 == 2) = false := beq_eq_false_iff_ne.mpr c4
    have c4b1 : (a0 != 2) = true := bne_iff_ne.mpr c4
    by_cases c5 : a0 = 3
    ·rw [if_pos c5] at H
     have c5b0 : (a0 == 3) = true := beq_iff_eq.mpr c5
     have c5b1 : (a0 != 3) = false := bne_eq_false_iff_eq.mpr c5
     clear c5
     have H' := Aside0.mk H
     clear H
     go_wp2
     go_meet
     case rel => exact ⟨_, ((a0 == 3)), z87z1, H', ⟨by first | omega | exact Nat.le_refl _⟩, ⟨by repeat (first | (with_reducible first | exact HB.out | apply below_alloc | apply pw_below_drewN | apply below_drew1) | exact HB.out)⟩⟩
    ·rw [if_neg c5] at H
     have c5b0 : (a0 == 3) = false := beq_eq_false_iff_ne.mpr c5
     have c5b1 : (a0 != 3) = true := bne_iff_ne.mpr c5
     by_cases c6 : a0 = 8
     ·rw [if_pos c6] at H
      have c6b0 : (a0 == 8) = true := beq_iff_eq.mpr c6
      have c6b1 : (a0 != 8) = false := bne_eq_false_iff_eq.mpr c6
      clear c6
      have H' := Aside0.mk H
      clear H
      go_wp2
      go_meet
      case rel => exact ⟨_, ((a0 == 8)), z87z1, H', ⟨by first | omega | exact Nat.le_refl _⟩, ⟨by repeat (first | (with_reducible first | exact HB.out | apply below_alloc | apply pw_below_drewN | apply below_drew1) | exact HB.out)⟩⟩
     ·rw [if_neg c6] at H
      have c6b0 : (a0 == 8) = false := beq_eq_false_iff_ne.mpr c6
      have c6b1 : (a0 != 8) = true := bne_iff_ne.mpr c6
      have H' := Aside0.mk H
      clear H
      go_wp2
      go_meet
      case rel => exact ⟨_, ((a0 == 9)), z87z1, H', ⟨by first | omega | exact Nat.le_refl _⟩, ⟨by repeat (first | (with_reducible first | exact HB.out | apply below_alloc | apply pw_below_drewN | apply below_drew1) | exact HB.out)⟩⟩
 case rest =>
  clear HC2
  try clear p2
  try clear c3
  try clear c3b0
  try clear c3b1
  try clear c4
  try clear c4b0
  try clear c4b1
  try clear c5
  try clear c5b0
  try clear c5b1
  try clear c6
  try clear c6b0
  try clear c6b1
  obtain ⟨kq, x4_1, rfl, HA, HJ1, HB⟩ := hcut
  cases kq with
  | zero => exact absurd HA.out (by simp [pouchref05_kinds.j0])
  | succ kj1 =>
   have H := HA.out
   clear HA
   simp only [pouchref05_kinds.j0] at H
   by_cases c7 : x4_1 = true
   ·subst c7
    have H1 : (some (([3, 16] : List Int))) = some r := by rw [if_pos rfl] at H; exact H
    clear H
    have H := H1
    clear H1
    obtain ⟨y101, hy101⟩ : ∃ y_ : List Int, y_ = (([3, 16] : List Int)) := ⟨_, rfl⟩
    replace H : (some y101) = some r := by first | (rw [hy101]; with_reducible exact H) | (have H2_ := (Option.bind_some _ _).symm.trans H; rw [hy101]; with_reducible exact H2_) | (have H2_ := (Option.bind_some _ _).symm.trans H; with_reducible exact H2_) | with_reducible exact H | (rw [hy101]; exact H) | exact H
    have Ny101 := Aside0.mk hy101
    clear hy101
    obtain rfl := Option.some.inj H
    go_wp2_with (first | ((with_reducible refine gate_dst (N := 10) rfl ?_); refine Kd.R_lit (Kd.int .i64) _ 3 ?hg (N := 10) ?hd (xs := ([3, 16] : List Int)) (inner := [.int .i64 3, .int .i64 16]) (ok := fun _ => True) (okp := fun _ => True) ?hr ?hp (fun _ hk => hk) trivial (Below.refl _ _) (Nat.le_refl _) (by simp) ?_; (case hd => rfl); (case hg => rfl); (case hr => exact z87z2); (case hp => exact (Reps.one (show Kd.M (Kd.int .i64) _ _ _ 3 [.int .i64 3] from rfl) (Reps.one (show Kd.M (Kd.int .i64) _ _ _ 16 [.int .i64 16] from rfl) (Reps.none _ _)))); intro v102 w8 ho9 hb hg_ hnew_; clear hg_ hnew_; (first | rw [← Ny101.out] at ho9 | (simp only [Int.reduceToNat] at ho9; rw [← Ny101.out] at ho9)); have n0_ := Aside0.mk (Kd.R_lower ho9 (below_size z87z0)); have n1_ := Aside0.mk (below_step z87z0 hb); have HO103 := n0_; replace HB := n1_; clear n0_ n1_; clear hb ho9))
    go_ret
    exact ⟨_, by first | rfl | (simp [errW_none, errW_some] <;> rfl) | (simp [*, errW_none, errW_some] <;> rfl), by (with_reducible repeat (first | apply Kd.R_alloc | apply Kd.R_drewN | apply Kd.R_drew)); exact HO103.out, by repeat (first | (with_reducible first | exact HB.out | apply below_alloc | apply pw_below_drewN | apply below_drew1) | exact HB.out)⟩
   ·replace c7 := Bool.eq_false_iff.mpr c7
    subst c7
    have H1 : (if a0 = 11 then (some (([3, 8] : List Int))) else (if a0 = 17 then (some (([1, 2, 14] : List Int))) else (if a0 = 18 then (pouchref05_kinds.j1 kj1 a0 (a0 == 18)) else (if a0 = 19 then (pouchref05_kinds.j1 kj1 a0 (a0 == 19)) else (if a0 = 26 then (pouchref05_kinds.j1 kj1 a0 (a0 == 26)) else (if a0 = 36 then (pouchref05_kinds.j1 kj1 a0 (a0 == 36)) else (if a0 = 37 then (pouchref05_kinds.j1 kj1 a0 (a0 == 37)) else (if a0 = 40 then (pouchref05_kinds.j1 kj1 a0 (a0 == 40)) else (if a0 = 41 then (pouchref05_kinds.j1 kj1 a0 (a0 == 41)) else (pouchref05_kinds.j1 kj1 a0 (a0 == 42))))))))))) = some r := by rw [if_neg (show ¬ (false = true) by decide)] at H; exact H
    clear H
    have H := H1
    clear H1
    by_cases c10 : a0 = 11
    ·rw [if_pos c10] at H
     have c10b0 : (a0 == 11) = true := beq_iff_eq.mpr c10
     have c10b1 : (a0 != 11) = false := bne_eq_false_iff_eq.mpr c10
     clear c10
     obtain ⟨y104, hy104⟩ : ∃ y_ : List Int, y_ = (([3, 8] : List Int)) := ⟨_, rfl⟩
     replace H : (some y104) = some r := by first | (rw [hy104]; with_reducible exact H) | (have H2_ := (Option.bind_some _ _).symm.trans H; rw [hy104]; with_reducible exact H2_) | (have H2_ := (Option.bind_some _ _).symm.trans H; with_reducible exact H2_) | with_reducible exact H | (rw [hy104]; exact H) | exact H
     have Ny104 := Aside0.mk hy104
     clear hy104
     obtain rfl := Option.some.inj H
     go_wp2_with (first | ((with_reducible refine gate_dst (N := 13) rfl ?_); refine Kd.R_lit (Kd.int .i64) _ 3 ?hg (N := 13) ?hd (xs := ([3, 8] : List Int)) (inner := [.int .i64 3, .int .i64 8]) (ok := fun _ => True) (okp := fun _ => True) ?hr ?hp (fun _ hk => hk) trivial (Below.refl _ _) (Nat.le_refl _) (by simp) ?_; (case hd => rfl); (case hg => rfl); (case hr => exact z87z2); (case hp => exact (Reps.one (show Kd.M (Kd.int .i64) _ _ _ 3 [.int .i64 3] from rfl) (Reps.one (show Kd.M (Kd.int .i64) _ _ _ 8 [.int .i64 8] from rfl) (Reps.none _ _)))); intro v105 w11 ho12 hb hg_ hnew_; clear hg_ hnew_; (first | rw [← Ny104.out] at ho12 | (simp only [Int.reduceToNat] at ho12; rw [← Ny104.out] at ho12)); have n0_ := Aside0.mk (Kd.R_lower ho12 (below_size z87z0)); have n1_ := Aside0.mk (below_step z87z0 hb); have HO106 := n0_; replace HB := n1_; clear n0_ n1_; clear hb ho12))
     go_ret
     exact ⟨_, by first | rfl | (simp [errW_none, errW_some] <;> rfl) | (simp [*, errW_none, errW_some] <;> rfl), by (with_reducible repeat (first | apply Kd.R_alloc | apply Kd.R_drewN | apply Kd.R_drew)); exact HO106.out, by repeat (first | (with_reducible first | exact HB.out | apply below_alloc | apply pw_below_drewN | apply below_drew1) | exact HB.out)⟩
    ·rw [if_neg c10] at H
     have c10b0 : (a0 == 11) = false := beq_eq_false_iff_ne.mpr c10
     have c10b1 : (a0 != 11) = true := bne_iff_ne.mpr c10
     by_cases c13 : a0 = 17
     ·rw [if_pos c13] at H
      have c13b0 : (a0 == 17) = true := beq_iff_eq.mpr c13
      have c13b1 : (a0 != 17) = false := bne_eq_false_iff_eq.mpr c13
      clear c13
      obtain ⟨y107, hy107⟩ : ∃ y_ : List Int, y_ = (([1, 2, 14] : List Int)) := ⟨_, rfl⟩
      replace H : (some y107) = some r := by first | (rw [hy107]; with_reducible exact H) | (have H2_ := (Option.bind_some _ _).symm.trans H; rw [hy107]; with_reducible exact H2_) | (have H2_ := (Option.bind_some _ _).symm.trans H; with_reducible exact H2_) | with_reducible exact H | (rw [hy107]; exact H) | exact H
      have Ny107 := Aside0.mk hy107
      clear hy107
      obtain rfl := Option.some.inj H
      go_wp2_with (first | ((with_reducible refine gate_dst (N := 16) rfl ?_); refine Kd.R_lit (Kd.int .i64) _ 3 ?hg (N := 16) ?hd (xs := ([1, 2, 14] : List Int)) (inner := [.int .i64 1, .int .i64 2, .int .i64 14]) (ok := fun _ => True) (okp := fun _ => True) ?hr ?hp (fun _ hk => hk) trivial (Below.refl _ _) (Nat.le_refl _) (by simp) ?_; (case hd => rfl); (case hg => rfl); (case hr => exact z87z2); (case hp => exact (Reps.one (show Kd.M (Kd.int .i64) _ _ _ 1 [.int .i64 1] from rfl) (Reps.one (show Kd.M (Kd.int .i64) _ _ _ 2 [.int .i64 2] from rfl) (Reps.one (show Kd.M (Kd.int .i64) _ _ _ 14 [.int .i64 14] from rfl) (Reps.none _ _))))); intro v108 w14 ho15 hb hg_ hnew_; clear hg_ hnew_; (first | rw [← Ny107.out] at ho15 | (simp only [Int.reduceToNat] at ho15; rw [← Ny107.out] at ho15)); have n0_ := Aside0.mk (Kd.R_lower ho15 (below_size z87z0)); have n1_ := Aside0.mk (below_step z87z0 hb); have HO109 := n0_; replace HB := n1_; clear n0_ n1_; clear hb ho15))
      go_ret
      exact ⟨_, by first | rfl | (simp [errW_none, errW_some] <;> rfl) | (simp [*, errW_none, errW_some] <;> rfl), by (with_reducible repeat (first | apply Kd.R_alloc | apply Kd.R_drewN | apply Kd.R_drew)); exact HO109.out, by repeat (first | (with_reducible first | exact HB.out | apply below_alloc | apply pw_below_drewN | apply below_drew1) | exact HB.out)⟩
     ·rw [if_neg c13] at H
      have c13b0 : (a0 == 17) = false := beq_eq_false_iff_ne.mpr c13
      have c13b1 : (a0 != 17) = true := bne_iff_ne.mpr c13
      have HC16 := Aside0.mk H
      clear H
      go_upto_if 17 with (fail)
      go_cut [17] (fun v17 wc => ∃ (kq : Nat) (x17_15 : Bool), v17 = .bool x17_15 ∧ Aside0 (pouchref05_kinds.j1 kq a0 x17_15 = some r) ∧ Aside0 (kq ≤ kj1) ∧ Aside0 (Below w.heap.size w wc))
      case first =>
       have H := HC16.out
       clear HC16
       by_cases c17 : a0 = 18
       ·rw [if_pos c17] at H
        have c17b0 : (a0 == 18) = true := beq_iff_eq.mpr c17
        have c17b1 : (a0 != 18) = false := bne_eq_false_iff_eq.mpr c17
        clear c17
        (first | rw [c17b0] | (simp only [i64_w, i32_w]; rw [c17b0]) | skip)
        have H' := Aside0.mk H
        clear H
        go_wp2
        go_meet
        case rel => exact ⟨_, ((a0 == 18)), z87z1, H', ⟨by have := HJ1.out; first | omega | exact Nat.le_refl _⟩, ⟨by repeat (first | (with_reducible first | exact HB.out | apply below_alloc | apply pw_below_drewN | apply below_drew1) | exact HB.out)⟩⟩
       ·rw [if_neg c17] at H
        have c17b0 : (a0 == 18) = false := beq_eq_false_iff_ne.mpr c17
        have c17b1 : (a0 != 18) = true := bne_iff_ne.mpr c17
        (first | rw [c17b0] | (simp only [i64_w, i32_w]; rw [c17b0]) | skip)
        by_cases c18 : a0 = 19
        ·rw [if_pos c18] at H
         have c18b0 : (a0 == 19) = true := beq_iff_eq.mpr c18
         have c18b1 : (a0 != 19) = false := bne_eq_false_iff_eq.mpr c18
         clear c18
         have H' := Aside0.mk H
         clear H
         go_wp2
         go_meet
         case rel => exact ⟨_, ((a0 == 19)), z87z1, H', ⟨by have := HJ1.out; first | omega | exact Nat.le_refl _⟩, ⟨by repeat (first | (with_reducible first | exact HB.out | apply below_alloc | apply pw_below_drewN | apply below_drew1) | exact HB.out)⟩⟩
        ·rw [if_neg c18] at H
         have c18b0 : (a0 == 19) = false := beq_eq_false_iff_ne.mpr c18
         have c18b1 : (a0 != 19) = true := bne_iff_ne.mpr c18
         by_cases c19 : a0 = 26
         ·rw [if_pos c19] at H
          have c19b0 : (a0 == 26) = true := beq_iff_eq.mpr c19
          have c19b1 : (a0 != 26) = false := bne_eq_false_iff_eq.mpr c19
          clear c19
          have H' := Aside0.mk H
          clear H
          go_wp2
          go_meet
          case rel => exact ⟨_, ((a0 == 26)), z87z1, H', ⟨by have := HJ1.out; first | omega | exact Nat.le_refl _⟩, ⟨by repeat (first | (with_reducible first | exact HB.out | apply below_alloc | apply pw_below_drewN | apply below_drew1) | exact HB.out)⟩⟩
         ·rw [if_neg c19] at H
          have c19b0 : (a0 == 26) = false := beq_eq_false_iff_ne.mpr c19
          have c19b1 : (a0 != 26) = true := bne_iff_ne.mpr c19
          by_cases c20 : a0 = 36
          ·rw [if_pos c20] at H
           have c20b0 : (a0 == 36) = true := beq_iff_eq.mpr c20
           have c20b1 : (a0 != 36) = false := bne_eq_false_iff_eq.mpr c20
           clear c20
           have H' := Aside0.mk H
           clear H
           go_wp2
           go_meet
           case rel => exact ⟨_, ((a0 == 36)), z87z1, H', ⟨by have := HJ1.out; first | omega | exact Nat.le_refl _⟩, ⟨by repeat (first | (with_reducible first | exact HB.out | apply below_alloc | apply pw_below_drewN | apply below_drew1) | exact HB.out)⟩⟩
          ·rw [if_neg c20] at H
           have c20b0 : (a0 == 36) = false := beq_eq_false_iff_ne.mpr c20
           have c20b1 : (a0 != 36) = true := bne_iff_ne.mpr c20
           by_cases c21 : a0 = 37
           ·rw [if_pos c21] at H
            have c21b0 : (a0 == 37) = true := beq_iff_eq.mpr c21
            have c21b1 : (a0 != 37) = false := bne_eq_false_iff_eq.mpr c21
            clear c21
            have H' := Aside0.mk H
            clear H
            go_wp2
            go_meet
            case rel => exact ⟨_, ((a0 == 37)), z87z1, H', ⟨by have := HJ1.out; first | omega | exact Nat.le_refl _⟩, ⟨by repeat (first | (with_reducible first | exact HB.out | apply below_alloc | apply pw_below_drewN | apply below_drew1) | exact HB.out)⟩⟩
           ·rw [if_neg c21] at H
            have c21b0 : (a0 == 37) = false := beq_eq_false_iff_ne.mpr c21
            have c21b1 : (a0 != 37) = true := bne_iff_ne.mpr c21
            by_cases c22 : a0 = 40
            ·rw [if_pos c22] at H
             have c22b0 : (a0 == 40) = true := beq_iff_eq.mpr c22
             have c22b1 : (a0 != 40) = false := bne_eq_false_iff_eq.mpr c22
             clear c22
             have H' := Aside0.mk H
             clear H
             go_wp2
             go_meet
             case rel => exact ⟨_, ((a0 == 40)), z87z1, H', ⟨by have := HJ1.out; first | omega | exact Nat.le_refl _⟩, ⟨by repeat (first | (with_reducible first | exact HB.out | apply below_alloc | apply pw_below_drewN | apply below_drew1) | exact HB.out)⟩⟩
            ·rw [if_neg c22] at H
             have c22b0 : (a0 == 40) = false := beq_eq_false_iff_ne.mpr c22
             have c22b1 : (a0 != 40) = true := bne_iff_ne.mpr c22
             by_cases c23 : a0 = 41
             ·rw [if_pos c23] at H
              have c23b0 : (a0 == 41) = true := beq_iff_eq.mpr c23
              have c23b1 : (a0 != 41) = false := bne_eq_false_iff_eq.mpr c23
              clear c23
              have H' := Aside0.mk H
              clear H
              go_wp2
              go_meet
              case rel => exact ⟨_, ((a0 == 41)), z87z1, H', ⟨by have := HJ1.out; first | omega | exact Nat.le_refl _⟩, ⟨by repeat (first | (with_reducible first | exact HB.out | apply below_alloc | apply pw_below_drewN | apply below_drew1) | exact HB.out)⟩⟩
             ·rw [if_neg c23] at H
              have c23b0 : (a0 == 41) = false := beq_eq_false_iff_ne.mpr c23
              have c23b1 : (a0 != 41) = true := bne_iff_ne.mpr c23
              have H' := Aside0.mk H
              clear H
              go_wp2
              go_meet
              case rel => exact ⟨_, ((a0 == 42)), z87z1, H', ⟨by have := HJ1.out; first | omega | exact Nat.le_refl _⟩, ⟨by repeat (first | (with_reducible first | exact HB.out | apply below_alloc | apply pw_below_drewN | apply below_drew1) | exact HB.out)⟩⟩
      case rest =>
       clear HC16
       try clear c1
       try clear c2
       try clear p2
       try clear c3
       try clear c3b0
       try clear c3b1
       try clear c4
       try clear c4b0
       try clear c4b1
       try clear c5
       try clear c5b0
       try clear c5b1
       try clear c6
       try clear c6b0
       try clear c6b1
       try clear c7
       try clear c8
       try clear c10
       try clear c10b0
       try clear c10b1
       try clear c13
       try clear c13b0
       try clear c13b1
       try clear c17
       try clear c17b0
       try clear c17b1
       try clear c18
       try clear c18b0
       try clear c18b1
       try clear c19
       try clear c19b0
       try clear c19b1
       try clear c20
       try clear c20b0
       try clear c20b1
       try clear c21
       try clear c21b0
       try clear c21b1
       try clear c22
       try clear c22b0
       try clear c22b1
       try clear c23
       try clear c23b0
       try clear c23b1
       try clear p2
       obtain ⟨kq, x17_15, rfl, HA, HJ15, HB⟩ := hcut
       cases kq with
       | zero => exact absurd HA.out (by simp [pouchref05_kinds.j1])
       | succ kj15 =>
        have H := HA.out
        clear HA
        simp only [pouchref05_kinds.j1] at H
        by_cases c24 : x17_15 = true
        ·subst c24
         have H1 : (some (([2] : List Int))) = some r := by rw [if_pos rfl] at H; exact H
         clear H
         have H := H1
         clear H1
         obtain ⟨y110, hy110⟩ : ∃ y_ : List Int, y_ = (([2] : List Int)) := ⟨_, rfl⟩
         replace H : (some y110) = some r := by first | (rw [hy110]; with_reducible exact H) | (have H2_ := (Option.bind_some _ _).symm.trans H; rw [hy110]; with_reducible exact H2_) | (have H2_ := (Option.bind_some _ _).symm.trans H; with_reducible exact H2_) | with_reducible exact H | (rw [hy110]; exact H) | exact H
         have Ny110 := Aside0.mk hy110
         clear hy110
         obtain rfl := Option.some.inj H
         go_wp2_with (first | ((with_reducible refine gate_dst (N := 26) rfl ?_); refine Kd.R_lit (Kd.int .i64) _ 3 ?hg (N := 26) ?hd (xs := ([2] : List Int)) (inner := [.int .i64 2]) (ok := fun _ => True) (okp := fun _ => True) ?hr ?hp (fun _ hk => hk) trivial (Below.refl _ _) (Nat.le_refl _) (by simp) ?_; (case hd => rfl); (case hg => rfl); (case hr => exact z87z2); (case hp => exact (Reps.one (show Kd.M (Kd.int .i64) _ _ _ 2 [.int .i64 2] from rfl) (Reps.none _ _))); intro v111 w25 ho26 hb hg_ hnew_; clear hg_ hnew_; (first | rw [← Ny110.out] at ho26 | (simp only [Int.reduceToNat] at ho26; rw [← Ny110.out] at ho26)); have n0_ := Aside0.mk (Kd.R_lower ho26 (below_size z87z0)); have n1_ := Aside0.mk (below_step z87z0 hb); have HO112 := n0_; replace HB := n1_; clear n0_ n1_; clear hb ho26))
         go_ret
         exact ⟨_, by first | rfl | (simp [errW_none, errW_some] <;> rfl) | (simp [*, errW_none, errW_some] <;> rfl), by (with_reducible repeat (first | apply Kd.R_alloc | apply Kd.R_drewN | apply Kd.R_drew)); exact HO112.out, by repeat (first | (with_reducible first | exact HB.out | apply below_alloc | apply pw_below_drewN | apply below_drew1) | exact HB.out)⟩
        ·replace c24 := Bool.eq_false_iff.mpr c24
         subst c24
         have H1 : (if a0 = 21 then (pouchref05_kinds.j2 kj15 a0 (a0 == 21)) else (pouchref05_kinds.j2 kj15 a0 (a0 == 22))) = some r := by rw [if_neg (show ¬ (false = true) by decide)] at H; exact H
         clear H
         have H := H1
         clear H1
         have HC27 := Aside0.mk H
         clear H
         go_upto_if 27 with (fail)
         go_cut [27] (fun v27 wc => ∃ (kq : Nat) (x27_26 : Bool), v27 = .bool x27_26 ∧ Aside0 (pouchref05_kinds.j2 kq a0 x27_26 = some r) ∧ Aside0 (kq ≤ kj15) ∧ Aside0 (Below w.heap.size w wc))
         case first =>
          have H := HC27.out
          clear HC27
          by_cases c28 : a0 = 21
          ·rw [if_pos c28] at H
           have c28b0 : (a0 == 21) = true := beq_iff_eq.mpr c28
           have c28b1 : (a0 != 21) = false := bne_eq_false_iff_eq.mpr c28
           clear c28
           (first | rw [c28b0] | (simp only [i64_w, i32_w]; rw [c28b0]) | skip)
           have H' := Aside0.mk H
           clear H
           go_wp2
           go_meet
           case rel => exact ⟨_, ((a0 == 21)), z87z1, H', ⟨by have := HJ1.out; have := HJ15.out; first | omega | exact Nat.le_refl _⟩, ⟨by repeat (first | (with_reducible first | exact HB.out | apply below_alloc | apply pw_below_drewN | apply below_drew1) | exact HB.out)⟩⟩
          ·rw [if_neg c28] at H
           have c28b0 : (a0 == 21) = false := beq_eq_false_iff_ne.mpr c28
           have c28b1 : (a0 != 21) = true := bne_iff_ne.mpr c28
           (first | rw [c28b0] | (simp only [i64_w, i32_w]; rw [c28b0]) | skip)
           have H' := Aside0.mk H
           clear H
           go_wp2
           go_meet
           case rel => exact ⟨_, ((a0 == 22)), z87z1, H', ⟨by have := HJ1.out; have := HJ15.out; first | omega | exact Nat.le_refl _⟩, ⟨by repeat (first | (with_reducible first | exact HB.out | apply below_alloc | apply pw_below_drewN | apply below_drew1) | exact HB.out)⟩⟩
         case rest =>
          clear HC27
          try clear c1
          try clear c2
          try clear p2
          try clear c3
          try clear c3b0
          try clear c3b1
          try clear c4
          try clear c4b0
          try clear c4b1
          try clear c5
          try clear c5b0
          try clear c5b1
          try clear c6
          try clear c6b0
          try clear c6b1
          try clear c7
          try clear c8
          try clear c10
          try clear c10b0
          try clear c10b1
          try clear c13
          try clear c13b0
          try clear c13b1
          try clear c17
          try clear c17b0
          try clear c17b1
          try clear c18
          try clear c18b0
          try clear c18b1
          try clear c19
          try clear c19b0
          try clear c19b1
          try clear c20
          try clear c20b0
          try clear c20b1
          try clear c21
          try clear c21b0
          try clear c21b1
          try clear c22
          try clear c22b0
          try clear c22b1
          try clear c23
          try clear c23b0
          try clear c23b1
          try clear c24
          try clear c28
          try clear c28b0
          try clear c28b1
          try clear p2
          obtain ⟨kq, x27_26, rfl, HA, HJ26, HB⟩ := hcut
          cases kq with
          | zero => exact absurd HA.out (by simp [pouchref05_kinds.j2])
          | succ kj26 =>
           have H := HA.out
           clear HA
           simp only [pouchref05_kinds.j2] at H
           by_cases c29 : x27_26 = true
           ·subst c29
            have H1 : (some (([1, 2, 15] : List Int))) = some r := by rw [if_pos rfl] at H; exact H
            clear H
            have H := H1
            clear H1
            obtain ⟨y113, hy113⟩ : ∃ y_ : List Int, y_ = (([1, 2, 15] : List Int)) := ⟨_, rfl⟩
            replace H : (some y113) = some r := by first | (rw [hy113]; with_reducible exact H) | (have H2_ := (Option.bind_some _ _).symm.trans H; rw [hy113]; with_reducible exact H2_) | (have H2_ := (Option.bind_some _ _).symm.trans H; with_reducible exact H2_) | with_reducible exact H | (rw [hy113]; exact H) | exact H
            have Ny113 := Aside0.mk hy113
            clear hy113
            obtain rfl := Option.some.inj H
            go_wp2_with (first | ((with_reducible refine gate_dst (N := 30) rfl ?_); refine Kd.R_lit (Kd.int .i64) _ 3 ?hg (N := 30) ?hd (xs := ([1, 2, 15] : List Int)) (inner := [.int .i64 1, .int .i64 2, .int .i64 15]) (ok := fun _ => True) (okp := fun _ => True) ?hr ?hp (fun _ hk => hk) trivial (Below.refl _ _) (Nat.le_refl _) (by simp) ?_; (case hd => rfl); (case hg => rfl); (case hr => exact z87z2); (case hp => exact (Reps.one (show Kd.M (Kd.int .i64) _ _ _ 1 [.int .i64 1] from rfl) (Reps.one (show Kd.M (Kd.int .i64) _ _ _ 2 [.int .i64 2] from rfl) (Reps.one (show Kd.M (Kd.int .i64) _ _ _ 15 [.int .i64 15] from rfl) (Reps.none _ _))))); intro v114 w30 ho31 hb hg_ hnew_; clear hg_ hnew_; (first | rw [← Ny113.out] at ho31 | (simp only [Int.reduceToNat] at ho31; rw [← Ny113.out] at ho31)); have n0_ := Aside0.mk (Kd.R_lower ho31 (below_size z87z0)); have n1_ := Aside0.mk (below_step z87z0 hb); have HO115 := n0_; replace HB := n1_; clear n0_ n1_; clear hb ho31))
            go_ret
            exact ⟨_, by first | rfl | (simp [errW_none, errW_some] <;> rfl) | (simp [*, errW_none, errW_some] <;> rfl), by (with_reducible repeat (first | apply Kd.R_alloc | apply Kd.R_drewN | apply Kd.R_drew)); exact HO115.out, by repeat (first | (with_reducible first | exact HB.out | apply below_alloc | apply pw_below_drewN | apply below_drew1) | exact HB.out)⟩
           ·replace c29 := Bool.eq_false_iff.mpr c29
            subst c29
            have H1 : (if a0 = 23 then (pouchref05_kinds.j3 kj26 a0 (a0 == 23)) else (pouchref05_kinds.j3 kj26 a0 (a0 == 25))) = some r := by rw [if_neg (show ¬ (false = true) by decide)] at H; exact H
            clear H
            have H := H1
            clear H1
            have HC32 := Aside0.mk H
            clear H
            go_upto_if 31 with (fail)
            go_cut [31] (fun v31 wc => ∃ (kq : Nat) (x31_31 : Bool), v31 = .bool x31_31 ∧ Aside0 (pouchref05_kinds.j3 kq a0 x31_31 = some r) ∧ Aside0 (kq ≤ kj26) ∧ Aside0 (Below w.heap.size w wc))
            case first =>
             have H := HC32.out
             clear HC32
             by_cases c33 : a0 = 23
             ·rw [if_pos c33] at H
              have c33b0 : (a0 == 23) = true := beq_iff_eq.mpr c33
              have c33b1 : (a0 != 23) = false := bne_eq_false_iff_eq.mpr c33
              clear c33
              (first | rw [c33b0] | (simp only [i64_w, i32_w]; rw [c33b0]) | skip)
              have H' := Aside0.mk H
              clear H
              go_wp2
              go_meet
              case rel => exact ⟨_, ((a0 == 23)), z87z1, H', ⟨by have := HJ1.out; have := HJ15.out; have := HJ26.out; first | omega | exact Nat.le_refl _⟩, ⟨by repeat (first | (with_reducible first | exact HB.out | apply below_alloc | apply pw_below_drewN | apply below_drew1) | exact HB.out)⟩⟩
             ·rw [if_neg c33] at H
              have c33b0 : (a0 == 23) = false := beq_eq_false_iff_ne.mpr c33
              have c33b1 : (a0 != 23) = true := bne_iff_ne.mpr c33
              (first | rw [c33b0] | (simp only [i64_w, i32_w]; rw [c33b0]) | skip)
              have H' := Aside0.mk H
              clear H
              go_wp2
              go_meet
              case rel => exact ⟨_, ((a0 == 25)), z87z1, H', ⟨by have := HJ1.out; have := HJ15.out; have := HJ26.out; first | omega | exact Nat.le_refl _⟩, ⟨by repeat (first | (with_reducible first | exact HB.out | apply below_alloc | apply pw_below_drewN | apply below_drew1) | exact HB.out)⟩⟩
            case rest =>
             clear HC32
             try clear c1
             try clear c2
             try clear p2
             try clear c3
             try clear c3b0
             try clear c3b1
             try clear c4
             try clear c4b0
             try clear c4b1
             try clear c5
             try clear c5b0
             try clear c5b1
             try clear c6
             try clear c6b0
             try clear c6b1
             try clear c7
             try clear c8
             try clear c10
             try clear c10b0
             try clear c10b1
             try clear c13
             try clear c13b0
             try clear c13b1
             try clear c17
             try clear c17b0
             try clear c17b1
             try clear c18
             try clear c18b0
             try clear c18b1
             try clear c19
             try clear c19b0
             try clear c19b1
             try clear c20
             try clear c20b0
             try clear c20b1
             try clear c21
             try clear c21b0
             try clear c21b1
             try clear c22
             try clear c22b0
             try clear c22b1
             try clear c23
             try clear c23b0
             try clear c23b1
             try clear c24
             try clear c28
             try clear c28b0
             try clear c28b1
             try clear c29
             try clear c33
             try clear c33b0
             try clear c33b1
             try clear p2
             obtain ⟨kq, x31_31, rfl, HA, HJ31, HB⟩ := hcut
             cases kq with
             | zero => exact absurd HA.out (by simp [pouchref05_kinds.j3])
             | succ kj31 =>
              have H := HA.out
              clear HA
              simp only [pouchref05_kinds.j3] at H
              by_cases c34 : x31_31 = true
              ·subst c34
               have H1 : (some (([1] : List Int))) = some r := by rw [if_pos rfl] at H; exact H
               clear H
               have H := H1
               clear H1
               obtain ⟨y116, hy116⟩ : ∃ y_ : List Int, y_ = (([1] : List Int)) := ⟨_, rfl⟩
               replace H : (some y116) = some r := by first | (rw [hy116]; with_reducible exact H) | (have H2_ := (Option.bind_some _ _).symm.trans H; rw [hy116]; with_reducible exact H2_) | (have H2_ := (Option.bind_some _ _).symm.trans H; with_reducible exact H2_) | with_reducible exact H | (rw [hy116]; exact H) | exact H
               have Ny116 := Aside0.mk hy116
               clear hy116
               obtain rfl := Option.some.inj H
               go_wp2_with (first | ((with_reducible refine gate_dst (N := 34) rfl ?_); refine Kd.R_lit (Kd.int .i64) _ 3 ?hg (N := 34) ?hd (xs := ([1] : List Int)) (inner := [.int .i64 1]) (ok := fun _ => True) (okp := fun _ => True) ?hr ?hp (fun _ hk => hk) trivial (Below.refl _ _) (Nat.le_refl _) (by simp) ?_; (case hd => rfl); (case hg => rfl); (case hr => exact z87z2); (case hp => exact (Reps.one (show Kd.M (Kd.int .i64) _ _ _ 1 [.int .i64 1] from rfl) (Reps.none _ _))); intro v117 w35 ho36 hb hg_ hnew_; clear hg_ hnew_; (first | rw [← Ny116.out] at ho36 | (simp only [Int.reduceToNat] at ho36; rw [← Ny116.out] at ho36)); have n0_ := Aside0.mk (Kd.R_lower ho36 (below_size z87z0)); have n1_ := Aside0.mk (below_step z87z0 hb); have HO118 := n0_; replace HB := n1_; clear n0_ n1_; clear hb ho36))
               go_ret
               exact ⟨_, by first | rfl | (simp [errW_none, errW_some] <;> rfl) | (simp [*, errW_none, errW_some] <;> rfl), by (with_reducible repeat (first | apply Kd.R_alloc | apply Kd.R_drewN | apply Kd.R_drew)); exact HO118.out, by repeat (first | (with_reducible first | exact HB.out | apply below_alloc | apply pw_below_drewN | apply below_drew1) | exact HB.out)⟩
              ·replace c34 := Bool.eq_false_iff.mpr c34
               subst c34
               have H1 : (if a0 = 24 then (some (([16] : List Int))) else (if a0 = 28 then (some (([2, 14] : List Int))) else (if a0 = 31 then (some (([2, 4, 5, 6, 7, 9, 11, 14, 15] : List Int))) else (if a0 = 33 then (pouchref05_kinds.j4 kj31 a0 (a0 == 33)) else (if a0 = 34 then (pouchref05_kinds.j4 kj31 a0 (a0 == 34)) else (pouchref05_kinds.j4 kj31 a0 (a0 == 39))))))) = some r := by rw [if_neg (show ¬ (false = true) by decide)] at H; exact H
               clear H
               have H := H1
               clear H1
               by_cases c37 : a0 = 24
               ·rw [if_pos c37] at H
                have c37b0 : (a0 == 24) = true := beq_iff_eq.mpr c37
                have c37b1 : (a0 != 24) = false := bne_eq_false_iff_eq.mpr c37
                clear c37
                obtain ⟨y119, hy119⟩ : ∃ y_ : List Int, y_ = (([16] : List Int)) := ⟨_, rfl⟩
                replace H : (some y119) = some r := by first | (rw [hy119]; with_reducible exact H) | (have H2_ := (Option.bind_some _ _).symm.trans H; rw [hy119]; with_reducible exact H2_) | (have H2_ := (Option.bind_some _ _).symm.trans H; with_reducible exact H2_) | with_reducible exact H | (rw [hy119]; exact H) | exact H
                have Ny119 := Aside0.mk hy119
                clear hy119
                obtain rfl := Option.some.inj H
                go_wp2_with (first | ((with_reducible refine gate_dst (N := 37) rfl ?_); refine Kd.R_lit (Kd.int .i64) _ 3 ?hg (N := 37) ?hd (xs := ([16] : List Int)) (inner := [.int .i64 16]) (ok := fun _ => True) (okp := fun _ => True) ?hr ?hp (fun _ hk => hk) trivial (Below.refl _ _) (Nat.le_refl _) (by simp) ?_; (case hd => rfl); (case hg => rfl); (case hr => exact z87z2); (case hp => exact (Reps.one (show Kd.M (Kd.int .i64) _ _ _ 16 [.int .i64 16] from rfl) (Reps.none _ _))); intro v120 w38 ho39 hb hg_ hnew_; clear hg_ hnew_; (first | rw [← Ny119.out] at ho39 | (simp only [Int.reduceToNat] at ho39; rw [← Ny119.out] at ho39)); have n0_ := Aside0.mk (Kd.R_lower ho39 (below_size z87z0)); have n1_ := Aside0.mk (below_step z87z0 hb); have HO121 := n0_; replace HB := n1_; clear n0_ n1_; clear hb ho39))
                go_ret
                exact ⟨_, by first | rfl | (simp [errW_none, errW_some] <;> rfl) | (simp [*, errW_none, errW_some] <;> rfl), by (with_reducible repeat (first | apply Kd.R_alloc | apply Kd.R_drewN | apply Kd.R_drew)); exact HO121.out, by repeat (first | (with_reducible first | exact HB.out | apply below_alloc | apply pw_below_drewN | apply below_drew1) | exact HB.out)⟩
               ·rw [if_neg c37] at H
                have c37b0 : (a0 == 24) = false := beq_eq_false_iff_ne.mpr c37
                have c37b1 : (a0 != 24) = true := bne_iff_ne.mpr c37
                by_cases c40 : a0 = 28
                ·rw [if_pos c40] at H
                 have c40b0 : (a0 == 28) = true := beq_iff_eq.mpr c40
                 have c40b1 : (a0 != 28) = false := bne_eq_false_iff_eq.mpr c40
                 clear c40
                 obtain ⟨y122, hy122⟩ : ∃ y_ : List Int, y_ = (([2, 14] : List Int)) := ⟨_, rfl⟩
                 replace H : (some y122) = some r := by first | (rw [hy122]; with_reducible exact H) | (have H2_ := (Option.bind_some _ _).symm.trans H; rw [hy122]; with_reducible exact H2_) | (have H2_ := (Option.bind_some _ _).symm.trans H; with_reducible exact H2_) | with_reducible exact H | (rw [hy122]; exact H) | exact H
                 have Ny122 := Aside0.mk hy122
                 clear hy122
                 obtain rfl := Option.some.inj H
                 go_wp2_with (first | ((with_reducible refine gate_dst (N := 40) rfl ?_); refine Kd.R_lit (Kd.int .i64) _ 3 ?hg (N := 40) ?hd (xs := ([2, 14] : List Int)) (inner := [.int .i64 2, .int .i64 14]) (ok := fun _ => True) (okp := fun _ => True) ?hr ?hp (fun _ hk => hk) trivial (Below.refl _ _) (Nat.le_refl _) (by simp) ?_; (case hd => rfl); (case hg => rfl); (case hr => exact z87z2); (case hp => exact (Reps.one (show Kd.M (Kd.int .i64) _ _ _ 2 [.int .i64 2] from rfl) (Reps.one (show Kd.M (Kd.int .i64) _ _ _ 14 [.int .i64 14] from rfl) (Reps.none _ _)))); intro v123 w41 ho42 hb hg_ hnew_; clear hg_ hnew_; (first | rw [← Ny122.out] at ho42 | (simp only [Int.reduceToNat] at ho42; rw [← Ny122.out] at ho42)); have n0_ := Aside0.mk (Kd.R_lower ho42 (below_size z87z0)); have n1_ := Aside0.mk (below_step z87z0 hb); have HO124 := n0_; replace HB := n1_; clear n0_ n1_; clear hb ho42))
                 go_ret
                 exact ⟨_, by first | rfl | (simp [errW_none, errW_some] <;> rfl) | (simp [*, errW_none, errW_some] <;> rfl), by (with_reducible repeat (first | apply Kd.R_alloc | apply Kd.R_drewN | apply Kd.R_drew)); exact HO124.out, by repeat (first | (with_reducible first | exact HB.out | apply below_alloc | apply pw_below_drewN | apply below_drew1) | exact HB.out)⟩
                ·rw [if_neg c40] at H
                 have c40b0 : (a0 == 28) = false := beq_eq_false_iff_ne.mpr c40
                 have c40b1 : (a0 != 28) = true := bne_iff_ne.mpr c40
                 by_cases c43 : a0 = 31
                 ·rw [if_pos c43] at H
                  have c43b0 : (a0 == 31) = true := beq_iff_eq.mpr c43
                  have c43b1 : (a0 != 31) = false := bne_eq_false_iff_eq.mpr c43
                  clear c43
                  obtain ⟨y125, hy125⟩ : ∃ y_ : List Int, y_ = (([2, 4, 5, 6, 7, 9, 11, 14, 15] : List Int)) := ⟨_, rfl⟩
                  replace H : (some y125) = some r := by first | (rw [hy125]; with_reducible exact H) | (have H2_ := (Option.bind_some _ _).symm.trans H; rw [hy125]; with_reducible exact H2_) | (have H2_ := (Option.bind_some _ _).symm.trans H; with_reducible exact H2_) | with_reducible exact H | (rw [hy125]; exact H) | exact H
                  have Ny125 := Aside0.mk hy125
                  clear hy125
                  obtain rfl := Option.some.inj H
                  go_wp2_with (first | ((with_reducible refine gate_dst (N := 43) rfl ?_); refine Kd.R_lit (Kd.int .i64) _ 3 ?hg (N := 43) ?hd (xs := ([2, 4, 5, 6, 7, 9, 11, 14, 15] : List Int)) (inner := [.int .i64 2, .int .i64 4, .int .i64 5, .int .i64 6, .int .i64 7, .int .i64 9, .int .i64 11, .int .i64 14, .int .i64 15]) (ok := fun _ => True) (okp := fun _ => True) ?hr ?hp (fun _ hk => hk) trivial (Below.refl _ _) (Nat.le_refl _) (by simp) ?_; (case hd => rfl); (case hg => rfl); (case hr => exact z87z2); (case hp => exact (Reps.one (show Kd.M (Kd.int .i64) _ _ _ 2 [.int .i64 2] from rfl) (Reps.one (show Kd.M (Kd.int .i64) _ _ _ 4 [.int .i64 4] from rfl) (Reps.one (show Kd.M (Kd.int .i64) _ _ _ 5 [.int .i64 5] from rfl) (Reps.one (show Kd.M (Kd.int .i64) _ _ _ 6 [.int .i64 6] from rfl) (Reps.one (show Kd.M (Kd.int .i64) _ _ _ 7 [.int .i64 7] from rfl) (Reps.one (show Kd.M (Kd.int .i64) _ _ _ 9 [.int .i64 9] from rfl) (Reps.one (show Kd.M (Kd.int .i64) _ _ _ 11 [.int .i64 11] from rfl) (Reps.one (show Kd.M (Kd.int .i64) _ _ _ 14 [.int .i64 14] from rfl) (Reps.one (show Kd.M (Kd.int .i64) _ _ _ 15 [.int .i64 15] from rfl) (Reps.none _ _))))))))))); intro v126 w44 ho45 hb hg_ hnew_; clear hg_ hnew_; (first | rw [← Ny125.out] at ho45 | (simp only [Int.reduceToNat] at ho45; rw [← Ny125.out] at ho45)); have n0_ := Aside0.mk (Kd.R_lower ho45 (below_size z87z0)); have n1_ := Aside0.mk (below_step z87z0 hb); have HO127 := n0_; replace HB := n1_; clear n0_ n1_; clear hb ho45))
                  go_ret
                  exact ⟨_, by first | rfl | (simp [errW_none, errW_some] <;> rfl) | (simp [*, errW_none, errW_some] <;> rfl), by (with_reducible repeat (first | apply Kd.R_alloc | apply Kd.R_drewN | apply Kd.R_drew)); exact HO127.out, by repeat (first | (with_reducible first | exact HB.out | apply below_alloc | apply pw_below_drewN | apply below_drew1) | exact HB.out)⟩
                 ·rw [if_neg c43] at H
                  have c43b0 : (a0 == 31) = false := beq_eq_false_iff_ne.mpr c43
                  have c43b1 : (a0 != 31) = true := bne_iff_ne.mpr c43
                  have HC46 := Aside0.mk H
                  clear H
                  go_upto_if 44 with (fail)
                  go_cut [44] (fun v44 wc => ∃ (kq : Nat) (x44_45 : Bool), v44 = .bool x44_45 ∧ Aside0 (pouchref05_kinds.j4 kq a0 x44_45 = some r) ∧ Aside0 (kq ≤ kj31) ∧ Aside0 (Below w.heap.size w wc))
                  case first =>
                   have H := HC46.out
                   clear HC46
                   by_cases c47 : a0 = 33
                   ·rw [if_pos c47] at H
                    have c47b0 : (a0 == 33) = true := beq_iff_eq.mpr c47
                    have c47b1 : (a0 != 33) = false := bne_eq_false_iff_eq.mpr c47
                    clear c47
                    (first | rw [c47b0] | (simp only [i64_w, i32_w]; rw [c47b0]) | skip)
                    have H' := Aside0.mk H
                    clear H
                    go_wp2
                    go_meet
                    case rel => exact ⟨_, ((a0 == 33)), z87z1, H', ⟨by have := HJ1.out; have := HJ15.out; have := HJ26.out; have := HJ31.out; first | omega | exact Nat.le_refl _⟩, ⟨by repeat (first | (with_reducible first | exact HB.out | apply below_alloc | apply pw_below_drewN | apply below_drew1) | exact HB.out)⟩⟩
                   ·rw [if_neg c47] at H
                    have c47b0 : (a0 == 33) = false := beq_eq_false_iff_ne.mpr c47
                    have c47b1 : (a0 != 33) = true := bne_iff_ne.mpr c47
                    (first | rw [c47b0] | (simp only [i64_w, i32_w]; rw [c47b0]) | skip)
                    by_cases c48 : a0 = 34
                    ·rw [if_pos c48] at H
                     have c48b0 : (a0 == 34) = true := beq_iff_eq.mpr c48
                     have c48b1 : (a0 != 34) = false := bne_eq_false_iff_eq.mpr c48
                     clear c48
                     have H' := Aside0.mk H
                     clear H
                     go_wp2
                     go_meet
                     case rel => exact ⟨_, ((a0 == 34)), z87z1, H', ⟨by have := HJ1.out; have := HJ15.out; have := HJ26.out; have := HJ31.out; first | omega | exact Nat.le_refl _⟩, ⟨by repeat (first | (with_reducible first | exact HB.out | apply below_alloc | apply pw_below_drewN | apply below_drew1) | exact HB.out)⟩⟩
                    ·rw [if_neg c48] at H
                     have c48b0 : (a0 == 34) = false := beq_eq_false_iff_ne.mpr c48
                     have c48b1 : (a0 != 34) = true := bne_iff_ne.mpr c48
                     have H' := Aside0.mk H
                     clear H
                     go_wp2
                     go_meet
                     case rel => exact ⟨_, ((a0 == 39)), z87z1, H', ⟨by have := HJ1.out; have := HJ15.out; have := HJ26.out; have := HJ31.out; first | omega | exact Nat.le_refl _⟩, ⟨by repeat (first | (with_reducible first | exact HB.out | apply below_alloc | apply pw_below_drewN | apply below_drew1) | exact HB.out)⟩⟩
                  case rest =>
                   clear HC46
                   try clear c1
                   try clear c2
                   try clear p2
                   try clear c3
                   try clear c3b0
                   try clear c3b1
                   try clear c4
                   try clear c4b0
                   try clear c4b1
                   try clear c5
                   try clear c5b0
                   try clear c5b1
                   try clear c6
                   try clear c6b0
                   try clear c6b1
                   try clear c7
                   try clear c8
                   try clear c10
                   try clear c10b0
                   try clear c10b1
                   try clear c13
                   try clear c13b0
                   try clear c13b1
                   try clear c17
                   try clear c17b0
                   try clear c17b1
                   try clear c18
                   try clear c18b0
                   try clear c18b1
                   try clear c19
                   try clear c19b0
                   try clear c19b1
                   try clear c20
                   try clear c20b0
                   try clear c20b1
                   try clear c21
                   try clear c21b0
                   try clear c21b1
                   try clear c22
                   try clear c22b0
                   try clear c22b1
                   try clear c23
                   try clear c23b0
                   try clear c23b1
                   try clear c24
                   try clear c28
                   try clear c28b0
                   try clear c28b1
                   try clear c29
                   try clear c33
                   try clear c33b0
                   try clear c33b1
                   try clear c34
                   try clear c37
                   try clear c37b0
                   try clear c37b1
                   try clear c40
                   try clear c40b0
                   try clear c40b1
                   try clear c43
                   try clear c43b0
                   try clear c43b1
                   try clear c47
                   try clear c47b0
                   try clear c47b1
                   try clear c48
                   try clear c48b0
                   try clear c48b1
                   try clear p2
                   obtain ⟨kq, x44_45, rfl, HA, HJ45, HB⟩ := hcut
                   cases kq with
                   | zero => exact absurd HA.out (by simp [pouchref05_kinds.j4])
                   | succ kj45 =>
                    have H := HA.out
                    clear HA
                    simp only [pouchref05_kinds.j4] at H
                    by_cases c49 : x44_45 = true
                    ·subst c49
                     have H1 : (some (([1, 2] : List Int))) = some r := by rw [if_pos rfl] at H; exact H
                     clear H
                     have H := H1
                     clear H1
                     obtain ⟨y128, hy128⟩ : ∃ y_ : List Int, y_ = (([1, 2] : List Int)) := ⟨_, rfl⟩
                     replace H : (some y128) = some r := by first | (rw [hy128]; with_reducible exact H) | (have H2_ := (Option.bind_some _ _).symm.trans H; rw [hy128]; with_reducible exact H2_) | (have H2_ := (Option.bind_some _ _).symm.trans H; with_reducible exact H2_) | with_reducible exact H | (rw [hy128]; exact H) | exact H
                     have Ny128 := Aside0.mk hy128
                     clear hy128
                     obtain rfl := Option.some.inj H
                     go_wp2_with (first | ((with_reducible refine gate_dst (N := 48) rfl ?_); refine Kd.R_lit (Kd.int .i64) _ 3 ?hg (N := 48) ?hd (xs := ([1, 2] : List Int)) (inner := [.int .i64 1, .int .i64 2]) (ok := fun _ => True) (okp := fun _ => True) ?hr ?hp (fun _ hk => hk) trivial (Below.refl _ _) (Nat.le_refl _) (by simp) ?_; (case hd => rfl); (case hg => rfl); (case hr => exact z87z2); (case hp => exact (Reps.one (show Kd.M (Kd.int .i64) _ _ _ 1 [.int .i64 1] from rfl) (Reps.one (show Kd.M (Kd.int .i64) _ _ _ 2 [.int .i64 2] from rfl) (Reps.none _ _)))); intro v129 w50 ho51 hb hg_ hnew_; clear hg_ hnew_; (first | rw [← Ny128.out] at ho51 | (simp only [Int.reduceToNat] at ho51; rw [← Ny128.out] at ho51)); have n0_ := Aside0.mk (Kd.R_lower ho51 (below_size z87z0)); have n1_ := Aside0.mk (below_step z87z0 hb); have HO130 := n0_; replace HB := n1_; clear n0_ n1_; clear hb ho51))
                     go_ret
                     exact ⟨_, by first | rfl | (simp [errW_none, errW_some] <;> rfl) | (simp [*, errW_none, errW_some] <;> rfl), by (with_reducible repeat (first | apply Kd.R_alloc | apply Kd.R_drewN | apply Kd.R_drew)); exact HO130.out, by repeat (first | (with_reducible first | exact HB.out | apply below_alloc | apply pw_below_drewN | apply below_drew1) | exact HB.out)⟩
                    ·replace c49 := Bool.eq_false_iff.mpr c49
                     subst c49
                     have H1 : (if a0 = 35 then (some (([3] : List Int))) else (if a0 = 38 then (some (([1, 2, 3, 4, 5, 6, 7, 8, 9, 10, 11, 14, 15, 16] : List Int))) else (some ([] : List Int)))) = some r := by rw [if_neg (show ¬ (false = true) by decide)] at H; exact H
                     clear H
                     have H := H1
                     clear H1
                     by_cases c52 : a0 = 35
                     ·rw [if_pos c52] at H
                      have c52b0 : (a0 == 35) = true := beq_iff_eq.mpr c52
                      have c52b1 : (a0 != 35) = false := bne_eq_false_iff_eq.mpr c52
                      clear c52
                      obtain ⟨y131, hy131⟩ : ∃ y_ : List Int, y_ = (([3] : List Int)) := ⟨_, rfl⟩
                      replace H : (some y131) = some r := by first | (rw [hy131]; with_reducible exact H) | (have H2_ := (Option.bind_some _ _).symm.trans H; rw [hy131]; with_reducible exact H2_) | (have H2_ := (Option.bind_some _ _).symm.trans H; with_reducible exact H2_) | with_reducible exact H | (rw [hy131]; exact H) | exact H
                      have Ny131 := Aside0.mk hy131
                      clear hy131
                      obtain rfl := Option.some.inj H
                      go_wp2_with (first | ((with_reducible refine gate_dst (N := 51) rfl ?_); refine Kd.R_lit (Kd.int .i64) _ 3 ?hg (N := 51) ?hd (xs := ([3] : List Int)) (inner := [.int .i64 3]) (ok := fun _ => True) (okp := fun _ => True) ?hr ?hp (fun _ hk => hk) trivial (Below.refl _ _) (Nat.le_refl _) (by simp) ?_; (case hd => rfl); (case hg => rfl); (case hr => exact z87z2); (case hp => exact (Reps.one (show Kd.M (Kd.int .i64) _ _ _ 3 [.int .i64 3] from rfl) (Reps.none _ _))); intro v132 w53 ho54 hb hg_ hnew_; clear hg_ hnew_; (first | rw [← Ny131.out] at ho54 | (simp only [Int.reduceToNat] at ho54; rw [← Ny131.out] at ho54)); have n0_ := Aside0.mk (Kd.R_lower ho54 (below_size z87z0)); have n1_ := Aside0.mk (below_step z87z0 hb); have HO133 := n0_; replace HB := n1_; clear n0_ n1_; clear hb ho54))
                      go_ret
                      exact ⟨_, by first | rfl | (simp [errW_none, errW_some] <;> rfl) | (simp [*, errW_none, errW_some] <;> rfl), by (with_reducible repeat (first | apply Kd.R_alloc | apply Kd.R_drewN | apply Kd.R_drew)); exact HO133.out, by repeat (first | (with_reducible first | exact HB.out | apply below_alloc | apply pw_below_drewN | apply below_drew1) | exact HB.out)⟩
                     ·rw [if_neg c52] at H
                      have c52b0 : (a0 == 35) = false := beq_eq_false_iff_ne.mpr c52
                      have c52b1 : (a0 != 35) = true := bne_iff_ne.mpr c52
                      by_cases c55 : a0 = 38
                      ·rw [if_pos c55] at H
                       have c55b0 : (a0 == 38) = true := beq_iff_eq.mpr c55
                       have c55b1 : (a0 != 38) = false := bne_eq_false_iff_eq.mpr c55
                       clear c55
                       obtain ⟨y134, hy134⟩ : ∃ y_ : List Int, y_ = (([1, 2, 3, 4, 5, 6, 7, 8, 9, 10, 11, 14, 15, 16] : List Int)) := ⟨_, rfl⟩
                       replace H : (some y134) = some r := by first | (rw [hy134]; with_reducible exact H) | (have H2_ := (Option.bind_some _ _).symm.trans H; rw [hy134]; with_reducible exact H2_) | (have H2_ := (Option.bind_some _ _).symm.trans H; with_reducible exact H2_) | with_reducible exact H | (rw [hy134]; exact H) | exact H
                       have Ny134 := Aside0.mk hy134
                       clear hy134
                       obtain rfl := Option.some.inj H
                       go_wp2_with (first | ((with_reducible refine gate_dst (N := 54) rfl ?_); refine Kd.R_lit (Kd.int .i64) _ 3 ?hg (N := 54) ?hd (xs := ([1, 2, 3, 4, 5, 6, 7, 8, 9, 10, 11, 14, 15, 16] : List Int)) (inner := [.int .i64 1, .int .i64 2, .int .i64 3, .int .i64 4, .int .i64 5, .int .i64 6, .int .i64 7, .int .i64 8, .int .i64 9, .int .i64 10, .int .i64 11, .int .i64 14, .int .i64 15, .int .i64 16]) (ok := fun _ => True) (okp := fun _ => True) ?hr ?hp (fun _ hk => hk) trivial (Below.refl _ _) (Nat.le_refl _) (by simp) ?_; (case hd => rfl); (case hg => rfl); (case hr => exact z87z2); (case hp => exact (Reps.one (show Kd.M (Kd.int .i64) _ _ _ 1 [.int .i64 1] from rfl) (Reps.one (show Kd.M (Kd.int .i64) _ _ _ 2 [.int .i64 2] from rfl) (Reps.one (show Kd.M (Kd.int .i64) _ _ _ 3 [.int .i64 3] from rfl) (Reps.one (show Kd.M (Kd.int .i64) _ _ _ 4 [.int .i64 4] from rfl) (Reps.one (show Kd.M (Kd.int .i64) _ _ _ 5 [.int .i64 5] from rfl) (Reps.one (show Kd.M (Kd.int .i64) _ _ _ 6 [.int .i64 6] from rfl) (Reps.one (show Kd.M (Kd.int .i64) _ _ _ 7 [.int .i64 7] from rfl) (Reps.one (show Kd.M (Kd.int .i64) _ _ _ 8 [.int .i64 8] from rfl) (Reps.one (show Kd.M (Kd.int .i64) _ _ _ 9 [.int .i64 9] from rfl) (Reps.one (show Kd.M (Kd.int .i64) _ _ _ 10 [.int .i64 10] from rfl) (Reps.one (show Kd.M (Kd.int .i64) _ _ _ 11 [.int .i64 11] from rfl) (Reps.one (show Kd.M (Kd.int .i64) _ _ _ 14 [.int .i64 14] from rfl) (Reps.one (show Kd.M (Kd.int .i64) _ _ _ 15 [.int .i64 15] from rfl) (Reps.one (show Kd.M (Kd.int .i64) _ _ _ 16 [.int .i64 16] from rfl) (Reps.none _ _)))))))))))))))); intro v135 w56 ho57 hb hg_ hnew_; clear hg_ hnew_; (first | rw [← Ny134.out] at ho57 | (simp only [Int.reduceToNat] at ho57; rw [← Ny134.out] at ho57)); have n0_ := Aside0.mk (Kd.R_lower ho57 (below_size z87z0)); have n1_ := Aside0.mk (below_step z87z0 hb); have HO136 := n0_; replace HB := n1_; clear n0_ n1_; clear hb ho57))
                       go_ret
                       exact ⟨_, by first | rfl | (simp [errW_none, errW_some] <;> rfl) | (simp [*, errW_none, errW_some] <;> rfl), by (with_reducible repeat (first | apply Kd.R_alloc | apply Kd.R_drewN | apply Kd.R_drew)); exact HO136.out, by repeat (first | (with_reducible first | exact HB.out | apply below_alloc | apply pw_below_drewN | apply below_drew1) | exact HB.out)⟩
                      ·rw [if_neg c55] at H
                       have c55b0 : (a0 == 38) = false := beq_eq_false_iff_ne.mpr c55
                       have c55b1 : (a0 != 38) = true := bne_iff_ne.mpr c55
                       obtain rfl := Option.some.inj H
                       go_wp2
                       go_ret
                       exact ⟨_, by first | rfl | (simp [errW_none, errW_some] <;> rfl) | (simp [*, errW_none, errW_some] <;> rfl), by first | exact Kd.R_nil _ _ _ _ _ | exact Kd.N_nil _ _ _ _ _ | exact Kd.V_nil _ _ _ _ _ | exact Kd.Q_nil _ _ _ _ _ | exact Kd.S_nil _ _ _ _ _, by repeat (first | (with_reducible first | exact HB.out | apply below_alloc | apply pw_below_drewN | apply below_drew1) | exact HB.out)⟩
end Go.Proofs.YtkmkgpigmldhnaaDoor.P

namespace Go.Proofs.YtkmkgpigmldhnaaDoor.P
open Go.RowKit Go.Proofs.YtkmkgpigmldhnaaDoorW.PrintWords Go.Proofs.YtkmkgpigmldhnaaDoorW.PrintLast Go.Proofs.YtkmkgpigmldhnaaDoorW.PrintMore
attribute [local go_sem] max2_int min2_int max_two min_two max_three min_three max_four min_four
set_option linter.unusedVariables false
set_option linter.unusedSimpArgs false
def pouchref05_For.l0 : Nat → Int → List Int → Int → Option (Bool)
  | 0, _, _, _ => none
  | k + 1, x1, x5, x6 => if x6 < (x5.length : Int) then (if 0 ≤ x6 then (if (rd x5 x6) = x1 then (some true) else (pouchref05_For.l0 k x1 x5 (wrap64 (x6 + 1)))) else (none)) else (some false)
def pouchref05_For.f (k : Nat) (a0 : Int) (a1 : Int) : Option (Bool) := (pouchref05_kinds.f k a0).bind fun t101 => (pouchref05_For.l0 k a1 t101 0)
theorem z63m0 {p : Prop} (h : p := by
 repeat' first
 | (with_reducible exact ih0 _ _ _)
 | (with_reducible exact pouchref05_kinds.mono _ _)
 | (with_reducible exact LeO.refl _)
 | (with_reducible exact LeO.none _)
 | (with_reducible refine LeO.ite ?_ ?_)
 | (with_reducible refine LeO.bind ?_ (fun _ => ?_))
 | exact ih0 _ _ _
 | exact pouchref05_kinds.mono _ _
 | exact LeO.none _
 | refine LeO.ite ?_ ?_
 | refine LeO.bind ?_ (fun _ => ?_)) : p := h
theorem pouchref05_For.mono_l : ∀ k, (∀ y0 y1 y2, LeO (pouchref05_For.l0 k y0 y1 y2) (pouchref05_For.l0 (k + 1) y0 y1 y2))
  | 0 => fun _ _ _ r h => by simp [pouchref05_For.l0] at h
  | k + 1 => by
    have ih0 := pouchref05_For.mono_l k
    · intro y0 y1 y2
      unfold pouchref05_For.l0
      exact z63m0
theorem pouchref05_For.mono : ∀ a0 a1 k, LeO (pouchref05_For.f k a0 a1) (pouchref05_For.f (k + 1) a0 a1) := by
  intro a0 a1 k
  have ih0 := pouchref05_For.mono_l k
  unfold pouchref05_For.f
  exact z63m0
theorem z63z0 {p : Prop} (h : p := by first | (with_reducible assumption) | assumption) : p := h
theorem z63z1 {p : Prop} (h : p := by repeat (first | (with_reducible first | exact HB.out | apply below_alloc | apply pw_below_drewN | apply below_drew1) | exact HB.out)) : p := h
set_option maxHeartbeats 8000000 in
set_option maxRecDepth 100000 in
theorem pouchref05_For.calls (k : Nat) (a0 : Int) (a1 : Int) (r : Bool) (w : World) (h : pouchref05_For.f k a0 a1 = some r) :
  Calls Tryd.prog 63 #[.int .u8 a0, .int .i64 a1] w fun e w' => e = .returned (.bool r) ∧ Below w.heap.size w w' := by
 have HB := Aside0.mk (Below.refl w.heap.size w)
 have H : ((pouchref05_kinds.f k a0).bind fun t101 => (pouchref05_For.l0 k a1 t101 0)) = some r := h
 clear h
 replace H := Option.bind_eq_some_iff.mp H
 obtain ⟨t101, A30, H⟩ := H
 replace H : (pouchref05_For.l0 k a1 t101 0) = some r := H
 have A3 := Aside0.mk A30
 clear A30
 have H' := Aside0.mk H
 clear H
 go_enter Tryd.func63, Tryd.ntmps63
 go_wp2_with (first | ((with_reducible refine gate_callee (f := 87) rfl ?_); refine goesL_ (some 8) rfl rfl Tryd.func87 (by kernel_rfl) rfl #[.int .u8 a0] rfl (by (try simp only [List.map_toArray, List.map_cons, List.map_nil]); first | done | rfl | (simp only [List.length_drop, List.length_take]; rfl)) ?_; (with_reducible refine (pouchref05_kinds.calls k a0 t101 _ A3.out).mono ?_); rintro e w4 ⟨v102, rfl, ho0, hb⟩; refine ⟨_, rfl, ?_⟩; have n0_ := Aside0.mk (Kd.R_lower ho0 (below_size z63z1)); have n1_ := Aside0.mk (below_step z63z1 hb); have HO103 := n0_; replace HB := n1_; clear n0_ n1_; clear hb ho0))
 go_loopg [6] k (fun kq v6 w' => ∃ (x6_1 : Int), v6 = .int .i64 x6_1 ∧ Aside0 (pouchref05_For.l0 kq a1 t101 x6_1 = some r) ∧ Aside0 (kq ≤ k) ∧ Aside0 (Kd.R (Kd.int .i64) 3 w' w.heap.size (fun _ => True) v102 t101) ∧ Aside0 (Below w.heap.size w w'))
 case atStart => exact ⟨(0), (by first | rfl | (simp; done) | (simp [*]; done)), H', ⟨Nat.le_refl _⟩, ⟨by (with_reducible repeat (first | apply Kd.R_alloc | apply Kd.R_drewN | apply Kd.R_drew)); exact HO103.out⟩, ⟨by repeat (first | (with_reducible first | exact HB.out | apply below_alloc | apply pw_below_drewN | apply below_drew1) | exact HB.out)⟩⟩
 case round =>
  clear H'
  try clear p2
  obtain ⟨x6_1, rfl, HA, HK1, HO_5, HB⟩ := hrel
  cases gk with
  | zero => exact absurd HA.out (by simp [pouchref05_For.l0])
  | succ k1 =>
   have H := HA.out
   clear HA
   simp only [pouchref05_For.l0] at H
   by_cases c5 : x6_1 < (t101.length : Int)
   ·rw [if_pos c5] at H
    have c5b0 : decide (x6_1 < (t101.length : Int)) = true := decide_eq_true c5
    clear c5
    by_cases c6 : 0 ≤ x6_1
    ·rw [if_pos c6] at H
     have c6b0 : decide (0 ≤ x6_1) = true := decide_eq_true c6
     clear c6
     by_cases c7 : (rd t101 x6_1) = a1
     ·rw [if_pos c7] at H
      have c7b0 : ((rd t101 x6_1) == a1) = true := beq_iff_eq.mpr c7
      have c7b1 : ((rd t101 x6_1) != a1) = false := bne_eq_false_iff_eq.mpr c7
      clear c7
      obtain rfl := Option.some.inj H
      obtain ⟨Ao8, co8, eo8⟩ := Kd.R_slice HO_5.out
      subst eo8
      have p104 : 0 ≤ (x6_1 : Int) := of_decide_eq_true z63z0
      have q104 : x6_1 < (t101.length : Int) := of_decide_eq_true z63z0
      obtain ⟨ad104, e104, hx104_0⟩ := Kd.at_int (Kd.R_reads' HO_5.out).2.2 x6_1 p104 q104
      cases e104
      replace p104 := eq_true p104
      replace q104 := eq_true q104
      go_wp2
      go_ret
      exact ⟨by first | rfl | (simp [errW_none, errW_some] <;> rfl) | (simp [*, errW_none, errW_some] <;> rfl), by repeat (first | (with_reducible first | exact HB.out | apply below_alloc | apply pw_below_drewN | apply below_drew1) | exact HB.out)⟩
     ·rw [if_neg c7] at H
      have c7b0 : ((rd t101 x6_1) == a1) = false := beq_eq_false_iff_ne.mpr c7
      have c7b1 : ((rd t101 x6_1) != a1) = true := bne_iff_ne.mpr c7
      have H' := Aside0.mk H
      clear H
      obtain ⟨Ao9, co9, eo9⟩ := Kd.R_slice HO_5.out
      subst eo9
      have p104 : 0 ≤ (x6_1 : Int) := of_decide_eq_true z63z0
      have q104 : x6_1 < (t101.length : Int) := of_decide_eq_true z63z0
      obtain ⟨ad104, e104, hx104_0⟩ := Kd.at_int (Kd.R_reads' HO_5.out).2.2 x6_1 p104 q104
      cases e104
      replace p104 := eq_true p104
      replace q104 := eq_true q104
      go_wp2
      go_roundg k1
      case measure => have := HK1.out; omega
      case rel => exact ⟨(wrap64 (x6_1 + 1)), (by first | rfl | (simp; done) | (simp [*]; done)), H', ⟨by have := HK1.out; omega⟩, ⟨by (with_reducible repeat (first | apply Kd.R_alloc | apply Kd.R_drewN | apply Kd.R_drew)); exact HO_5.out⟩, ⟨by repeat (first | (with_reducible first | exact HB.out | apply below_alloc | apply pw_below_drewN | apply below_drew1) | exact HB.out)⟩⟩
    ·rw [if_neg c6] at H
     exact absurd H (by simp)
   ·rw [if_neg c5] at H
    have c5b0 : decide (x6_1 < (t101.length : Int)) = false := decide_eq_false c5
    clear c5
    obtain rfl := Option.some.inj H
    obtain ⟨Ao10, co10, eo10⟩ := Kd.R_slice HO_5.out
    subst eo10
    go_wp2
    go_ret
    exact ⟨by first | rfl | (simp [errW_none, errW_some] <;> rfl) | (simp [*, errW_none, errW_some] <;> rfl), by repeat (first | (with_reducible first | exact HB.out | apply below_alloc | apply pw_below_drewN | apply below_drew1) | exact HB.out)⟩
end Go.Proofs.YtkmkgpigmldhnaaDoor.P

namespace Go.Proofs.YtkmkgpigmldhnaaDoor.P
open Go.RowKit Go.Proofs.YtkmkgpigmldhnaaDoorW.PrintWords Go.Proofs.YtkmkgpigmldhnaaDoorW.PrintLast Go.Proofs.YtkmkgpigmldhnaaDoorW.PrintMore
attribute [local go_sem] max2_int min2_int max_two min_two max_three min_three max_four min_four
set_option linter.unusedVariables false
set_option linter.unusedSimpArgs false
def pouchref05_Often.f (k : Nat) (a0 : Int) (a1 : Int) : Option (Bool) := (pouchref05_For.f k a0 a1).bind fun t101 => (if t101 = true then (if a0 = 38 then (some true) else (if a0 = 11 then (some (a1 == 3)) else (some false))) else (some false))
theorem pouchref05_Often.mono : ∀ a0 a1 k, LeO (pouchref05_Often.f k a0 a1) (pouchref05_Often.f (k + 1) a0 a1) := by
  intro a0 a1 k
  unfold pouchref05_Often.f
  repeat' first
      | (with_reducible exact pouchref05_For.mono _ _ _)
      | (with_reducible exact LeO.refl _)
      | (with_reducible exact LeO.none _)
      | (with_reducible refine LeO.ite ?_ ?_)
      | (with_reducible refine LeO.bind ?_ (fun _ => ?_))
      | exact pouchref05_For.mono _ _ _
      | exact LeO.none _
      | refine LeO.ite ?_ ?_
      | refine LeO.bind ?_ (fun _ => ?_)
theorem z51z0 {p : Prop} (h : p := by (try simp only [List.map_toArray, List.map_cons, List.map_nil]); first | done | rfl | (simp only [List.length_drop, List.length_take]; rfl)) : p := h
theorem z51z1 {p : Prop} (h : p := by repeat (first | (with_reducible first | exact HB.out | apply below_alloc | apply pw_below_drewN | apply below_drew1) | exact HB.out)) : p := h
set_option maxHeartbeats 8000000 in
set_option maxRecDepth 100000 in
theorem pouchref05_Often.calls (k : Nat) (a0 : Int) (a1 : Int) (r : Bool) (w : World) (h : pouchref05_Often.f k a0 a1 = some r) :
  Calls Tryd.prog 51 #[.int .u8 a0, .int .i64 a1] w fun e w' => e = .returned (.bool r) ∧ Below w.heap.size w w' := by
 have HB := Aside0.mk (Below.refl w.heap.size w)
 have H : ((pouchref05_For.f k a0 a1).bind fun t101 => (if t101 = true then (if a0 = 38 then (some true) else (if a0 = 11 then (some (a1 == 3)) else (some false))) else (some false))) = some r := h
 clear h
 replace H := Option.bind_eq_some_iff.mp H
 obtain ⟨t101, A30, H⟩ := H
 replace H : (if t101 = true then (if a0 = 38 then (some true) else (if a0 = 11 then (some (a1 == 3)) else (some false))) else (some false)) = some r := H
 have A3 := Aside0.mk A30
 clear A30
 by_cases c4 : t101 = true
 ·subst c4
  have H1 : (if a0 = 38 then (some true) else (if a0 = 11 then (some (a1 == 3)) else (some false))) = some r := by rw [if_pos rfl] at H; exact H
  clear H
  have H := H1
  clear H1
  by_cases c5 : a0 = 38
  ·rw [if_pos c5] at H
   have c5b0 : (a0 == 38) = true := beq_iff_eq.mpr c5
   have c5b1 : (a0 != 38) = false := bne_eq_false_iff_eq.mpr c5
   clear c5
   obtain rfl := Option.some.inj H
   go_enter Tryd.func51, Tryd.ntmps51
   go_wp2_with (first | ((with_reducible refine gate_callee (f := 63) rfl ?_); refine goesL_ (some 7) rfl rfl Tryd.func63 (by kernel_rfl) rfl #[.int .u8 a0, .int .i64 a1] rfl z51z0 ?_; (with_reducible refine (pouchref05_For.calls k a0 a1 true _ A3.out).mono ?_); rintro e w6 ⟨rfl, hb⟩; refine ⟨_, rfl, ?_⟩; have n0_ := Aside0.mk (below_step z51z1 hb); replace HB := n0_; clear n0_; clear hb))
   go_ret
   exact ⟨by first | rfl | (simp [errW_none, errW_some] <;> rfl) | (simp [*, errW_none, errW_some] <;> rfl), by repeat (first | (with_reducible first | exact HB.out | apply below_alloc | apply pw_below_drewN | apply below_drew1) | exact HB.out)⟩
  ·rw [if_neg c5] at H
   have c5b0 : (a0 == 38) = false := beq_eq_false_iff_ne.mpr c5
   have c5b1 : (a0 != 38) = true := bne_iff_ne.mpr c5
   by_cases c7 : a0 = 11
   ·rw [if_pos c7] at H
    have c7b0 : (a0 == 11) = true := beq_iff_eq.mpr c7
    have c7b1 : (a0 != 11) = false := bne_eq_false_iff_eq.mpr c7
    clear c7
    obtain rfl := Option.some.inj H
    go_enter Tryd.func51, Tryd.ntmps51
    go_wp2_with (first | ((with_reducible refine gate_callee (f := 63) rfl ?_); refine goesL_ (some 7) rfl rfl Tryd.func63 (by kernel_rfl) rfl #[.int .u8 a0, .int .i64 a1] rfl z51z0 ?_; (with_reducible refine (pouchref05_For.calls k a0 a1 true _ A3.out).mono ?_); rintro e w8 ⟨rfl, hb⟩; refine ⟨_, rfl, ?_⟩; have n0_ := Aside0.mk (below_step z51z1 hb); replace HB := n0_; clear n0_; clear hb))
    go_ret
    exact ⟨by first | rfl | (simp [errW_none, errW_some] <;> rfl) | (simp [*, errW_none, errW_some] <;> rfl), by repeat (first | (with_reducible first | exact HB.out | apply below_alloc | apply pw_below_drewN | apply below_drew1) | exact HB.out)⟩
   ·rw [if_neg c7] at H
    have c7b0 : (a0 == 11) = false := beq_eq_false_iff_ne.mpr c7
    have c7b1 : (a0 != 11) = true := bne_iff_ne.mpr c7
    obtain rfl := Option.some.inj H
    go_enter Tryd.func51, Tryd.ntmps51
    go_wp2_with (first | ((with_reducible refine gate_callee (f := 63) rfl ?_); refine goesL_ (some 7) rfl rfl Tryd.func63 (by kernel_rfl) rfl #[.int .u8 a0, .int .i64 a1] rfl z51z0 ?_; (with_reducible refine (pouchref05_For.calls k a0 a1 true _ A3.out).mono ?_); rintro e w9 ⟨rfl, hb⟩; refine ⟨_, rfl, ?_⟩; have n0_ := Aside0.mk (below_step z51z1 hb); replace HB := n0_; clear n0_; clear hb))
    go_ret
    exact ⟨by first | rfl | (simp [errW_none, errW_some] <;> rfl) | (simp [*, errW_none, errW_some] <;> rfl), by repeat (first | (with_reducible first | exact HB.out | apply below_alloc | apply pw_below_drewN | apply below_drew1) | exact HB.out)⟩
 ·replace c4 := Bool.eq_false_iff.mpr c4
  subst c4
  have H1 : (some false) = some r := by rw [if_neg (show ¬ (false = true) by decide)] at H; exact H
  clear H
  have H := H1
  clear H1
  obtain rfl := Option.some.inj H
  go_enter Tryd.func51, Tryd.ntmps51
  go_wp2_with (first | ((with_reducible refine gate_callee (f := 63) rfl ?_); refine goesL_ (some 7) rfl rfl Tryd.func63 (by kernel_rfl) rfl #[.int .u8 a0, .int .i64 a1] rfl z51z0 ?_; (with_reducible refine (pouchref05_For.calls k a0 a1 false _ A3.out).mono ?_); rintro e w10 ⟨rfl, hb⟩; refine ⟨_, rfl, ?_⟩; have n0_ := Aside0.mk (below_step z51z1 hb); replace HB := n0_; clear n0_; clear hb))
  go_ret
  exact ⟨by first | rfl | (simp [errW_none, errW_some] <;> rfl) | (simp [*, errW_none, errW_some] <;> rfl), by repeat (first | (with_reducible first | exact HB.out | apply below_alloc | apply pw_below_drewN | apply below_drew1) | exact HB.out)⟩
end Go.Proofs.YtkmkgpigmldhnaaDoor.P

namespace Go.Proofs.YtkmkgpigmldhnaaDoor.Pr
open Go.RowKit Go.Lib Go.Proofs.YtkmkgpigmldhnaaDoorW.PrintWords Go.Proofs.YtkmkgpigmldhnaaDoorW.PrintLast Go.Proofs.YtkmkgpigmldhnaaDoorW.PrintMore
open Go.Proofs.YtkmkgpigmldhnaaDoor.P
open Go.Proofs.YtkmkgpigmldhnaaDoor.Mq (rightB contains_zero)
def tyP (id : Int) : Int := (rowB id).1
theorem nat_of {id : Int} (h0 : 0 ≤ id) (h1 : id < 256) : ∃ n : Fin 256, id = ((n.val : Nat) : Int) := ⟨⟨id.toNat, by omega⟩, by show id = ((id.toNat : Nat) : Int); omega⟩
theorem type_tab : ∀ n : Fin 256, pouchref05_Type.f 8 ((n.val : Nat) : Int) = some (tyP ((n.val : Nat) : Int)) := by decide +kernel
theorem type_ref (id : Int) (h0 : 0 ≤ id) (h1 : id < 256) : Ev (fun k => pouchref05_Type.f k id) (tyP id) := by
  obtain ⟨n, rfl⟩ := nat_of h0 h1
  exact Ev.of (fun k => pouchref05_Type.mono _ k) (type_tab n)
def rightP (id n : Int) (a b : List UInt8) : Bool :=
  if tyP id = 1 then decide (n < 256) && (a.isEmpty && b.isEmpty) else if tyP id = 2 then decide (n < 65536) && (a.isEmpty && b.isEmpty) else if tyP id = 3 then a.isEmpty && b.isEmpty
  else if tyP id = 4 then decide (n < 268435456) && (a.isEmpty && b.isEmpty) else if tyP id = 5 then decide (n = 0) && (rightB a && b.isEmpty) else if tyP id = 6 then decide (n = 0) && (decide (a.length ≤ 65535) && b.isEmpty)
  else if tyP id = 7 then decide (n = 0) && (rightB a && rightB b) else false
theorem empty_toList (s : ByteArray) : (s.toList == ([] : List UInt8)) = (dl s).isEmpty := by
  rw [Go.Lib.toList_data s]
  show (dl s == []) = (dl s).isEmpty
  generalize dl s = l
  cases l <;> rfl
theorem nil_toList (s : ByteArray) : s.toList = ([] : List UInt8) ↔ (dl s).isEmpty = true := by
  rw [← empty_toList, beq_iff_eq]
theorem type_prog (id : Int) : prop_Type.f id = some (tyP id) := rfl
theorem right_j0 (id n : Int) (a b : ByteArray) (x3 x4 : Bool) (h3 : x3 = ((dl a).isEmpty && (dl b).isEmpty)) (h4 : x4 = decide (n = 0)) (k : Nat) : prop_Right.j0 (k + 1) x3 x4 id n a b = some (rightP id n (dl a) (dl b)) := by
  have hla : (dl a).length = a.size := (Go.Lib.size_eq a).symm
  subst h3 h4
  simp only [prop_Right.j0, type_prog, Option.bind_some, right_prog, empty_toList]
  unfold rightP
  by_cases t1 : tyP id = 1
  · rw [if_pos t1, if_pos t1]
    by_cases h : n < 256
    · rw [if_pos h, decide_eq_true h]; rfl
    · rw [if_neg h, decide_eq_false h]; rfl
  · rw [if_neg t1, if_neg t1]
    by_cases t2 : tyP id = 2
    · rw [if_pos t2, if_pos t2]
      by_cases h : n < 65536
      · rw [if_pos h, decide_eq_true h]; rfl
      · rw [if_neg h, decide_eq_false h]; rfl
    · rw [if_neg t2, if_neg t2]
      by_cases t3 : tyP id = 3
      · rw [if_pos t3, if_pos t3]
      · rw [if_neg t3, if_neg t3]
        by_cases t4 : tyP id = 4
        · rw [if_pos t4, if_pos t4]
          by_cases h : n < 268435456
          · rw [if_pos (by omega), decide_eq_true h]; rfl
          · rw [if_neg (by omega), decide_eq_false h]; rfl
        · rw [if_neg t4, if_neg t4]
          by_cases t5 : tyP id = 5
          · rw [if_pos t5, if_pos t5]
            by_cases h : n = 0
            · rw [decide_eq_true h, if_pos rfl]
              cases rightB (dl a) <;> simp
            · rw [decide_eq_false h]; rfl
          · rw [if_neg t5, if_neg t5]
            by_cases t6 : tyP id = 6
            · rw [if_pos t6, if_pos t6]
              by_cases h : n = 0
              · rw [decide_eq_true h, if_pos rfl, hla]
                by_cases h2 : a.size ≤ 65535
                · rw [if_pos (by omega), decide_eq_true h2]; rfl
                · rw [if_neg (by omega), decide_eq_false h2]; rfl
              · rw [decide_eq_false h]; rfl
            · rw [if_neg t6, if_neg t6]
              by_cases t7 : tyP id = 7
              · rw [if_pos t7, if_pos t7]
                by_cases h : n = 0
                · rw [decide_eq_true h, if_pos rfl]
                  cases rightB (dl a) <;> simp
                · rw [decide_eq_false h]; rfl
              · rw [if_neg t7, if_neg t7]
theorem prop_right (id n : Int) (a b : ByteArray) (k : Nat) : prop_Right.f (k + 1) id n a b = some (rightP id n (dl a) (dl b)) := by
  have hn : (n == 0) = decide (n = 0) := by by_cases h : n = 0 <;> simp [h]
  unfold prop_Right.f
  by_cases h : a.toList = ([] : List UInt8)
  · rw [if_pos h]
    refine right_j0 id n a b _ _ ?_ hn k
    rw [empty_toList, (nil_toList a).1 h]; rfl
  · rw [if_neg h]
    refine right_j0 id n a b _ _ ?_ hn k
    have : (dl a).isEmpty = false := by
      rw [Bool.eq_false_iff]; exact fun e => h ((nil_toList a).2 e)
    rw [this]; rfl
theorem prop_right_ev (id n : Int) (a b : ByteArray) : Ev (fun k => prop_Right.f k id n a b) (rightP id n (dl a) (dl b)) := ⟨1, fun k hk => by
  obtain ⟨m, rfl⟩ : ∃ m, k = m + 1 := ⟨k - 1, by omega⟩
  exact prop_right id n a b m⟩
theorem right_ref_j0 (id n : Int) (h0 : 0 ≤ id) (h1 : id < 256) (a b : ByteArray) (x3 : Bool) (h3 : x3 = ((dl a).isEmpty && (dl b).isEmpty)) : Ev (fun k => pouchref05_Right.j0 k x3 id n a b) (rightP id n (dl a) (dl b)) := by
  have hla : (dl a).length = a.size := (Go.Lib.size_eq a).symm
  have hp := right_j0 id n a b x3 (decide (n = 0)) h3 rfl 0
  simp only [prop_Right.j0, type_prog, Option.bind_some, right_prog, empty_toList] at hp
  have now : ∀ (f : Nat → Option Bool) (r : Bool), (∀ k, f k = some r) → Ev f r := fun f r h => Ev.congr (f := fun _ => some r) h (Ev.now r)
  refine Ev.step (f := fun k => _) (fun k => by simp only [pouchref05_Right.j0]; exact rfl) (Ev.bind (type_ref id h0 h1) ?_)
  by_cases t1 : tyP id = 1
  · rw [if_pos t1] at hp; exact now _ _ fun k => by rw [if_pos t1]; exact hp
  rw [if_neg t1] at hp
  by_cases t2 : tyP id = 2
  · rw [if_pos t2] at hp; exact now _ _ fun k => by rw [if_neg t1, if_pos t2]; exact hp
  rw [if_neg t2] at hp
  by_cases t3 : tyP id = 3
  · rw [if_pos t3] at hp; exact now _ _ fun k => by rw [if_neg t1, if_neg t2, if_pos t3]; exact hp
  rw [if_neg t3] at hp
  by_cases t4 : tyP id = 4
  · rw [if_pos t4] at hp
    refine now _ _ fun k => ?_
    rw [if_neg t1, if_neg t2, if_neg t3, if_pos t4, ← hp]
    by_cases h : n < 268435456
    · rw [if_pos h, if_pos (by omega)]
    · rw [if_neg h, if_neg (by omega)]
  rw [if_neg t4] at hp
  by_cases t5 : tyP id = 5
  · rw [if_pos t5] at hp
    refine Ev.congr (f := fun k => if n = 0 then ((pouchref02_Right.f k a).bind fun t103 => if t103 = true then some (b.toList == ([] : List UInt8)) else some false) else some false) (fun k => by rw [if_neg t1, if_neg t2, if_neg t3, if_neg t4, if_pos t5]) ?_
    by_cases h : n = 0
    · rw [decide_eq_true h, if_pos rfl] at hp
      refine Ev.congr (fun k => if_pos h) (Ev.bind (right_ref a) (now _ _ fun k => ?_))
      rw [empty_toList]; exact hp
    · rw [decide_eq_false h] at hp
      exact now _ _ fun k => by rw [if_neg h]; exact hp
  rw [if_neg t5] at hp
  by_cases t6 : tyP id = 6
  · rw [if_pos t6] at hp
    refine now _ _ fun k => ?_
    rw [if_neg t1, if_neg t2, if_neg t3, if_neg t4, if_neg t5, if_pos t6, ← hp, empty_toList]
    by_cases h : n = 0
    · rw [decide_eq_true h, if_pos h, if_pos rfl]
    · rw [decide_eq_false h, if_neg h]; rfl
  rw [if_neg t6] at hp
  by_cases t7 : tyP id = 7
  · rw [if_pos t7] at hp
    refine Ev.congr (f := fun k => if n = 0 then ((pouchref02_Right.f k a).bind fun t104 => if t104 = true then ((pouchref02_Right.f k b).bind fun t105 => some t105) else some false) else some false) (fun k => by rw [if_neg t1, if_neg t2, if_neg t3, if_neg t4, if_neg t5, if_neg t6, if_pos t7]) ?_
    by_cases h : n = 0
    · rw [decide_eq_true h, if_pos rfl] at hp
      refine Ev.congr (fun k => if_pos h) (Ev.bind (right_ref a) ?_)
      by_cases hr : rightB (dl a) = true
      · rw [if_pos hr] at hp
        refine Ev.congr (fun k => if_pos hr) (Ev.bind (f := fun _ t105 => some t105) (right_ref b) (now _ _ fun _ => hp))
      · rw [if_neg hr] at hp
        exact now _ _ fun k => by rw [if_neg hr]; exact hp
    · rw [decide_eq_false h] at hp
      exact now _ _ fun k => by rw [if_neg h]; exact hp
  rw [if_neg t7] at hp
  exact now _ _ fun k => by rw [if_neg t1, if_neg t2, if_neg t3, if_neg t4, if_neg t5, if_neg t6, if_neg t7]; exact hp
theorem ref_right (id n : Int) (h0 : 0 ≤ id) (h1 : id < 256) (a b : ByteArray) : Ev (fun k => pouchref05_Right.f k id n a b) (rightP id n (dl a) (dl b)) := by
  by_cases h : a.toList = ([] : List UInt8)
  · refine Ev.congr (fun k => by unfold pouchref05_Right.f; rw [if_pos h]) (right_ref_j0 id n h0 h1 a b _ ?_)
    rw [empty_toList, (nil_toList a).1 h]; rfl
  · refine Ev.congr (fun k => by unfold pouchref05_Right.f; rw [if_neg h]) (right_ref_j0 id n h0 h1 a b _ ?_)
    have : (dl a).isEmpty = false := by
      rw [Bool.eq_false_iff]; exact fun e => h ((nil_toList a).2 e)
    rw [this]; rfl
end Go.Proofs.YtkmkgpigmldhnaaDoor.Pr

namespace Go.Proofs.YtkmkgpigmldhnaaDoor.P
open Go.RowKit Go.Proofs.YtkmkgpigmldhnaaDoorW.PrintWords Go.Proofs.YtkmkgpigmldhnaaDoorW.PrintLast Go.Proofs.YtkmkgpigmldhnaaDoorW.PrintMore
attribute [local go_sem] max2_int min2_int max_two min_two max_three min_three max_four min_four
set_option linter.unusedVariables false
set_option linter.unusedSimpArgs false
def pouchref01_Reader_Left.f (s0_0 : ByteArray) (s0_1 : Int) (s0_2 : Int) : Option (Int × ByteArray × Int × Int) := if s0_2 = 0 then (some (wrap64 ((s0_0.size : Int) - s0_1), s0_0, s0_1, s0_2)) else (some (0, s0_0, s0_1, s0_2))
set_option maxHeartbeats 8000000 in
set_option maxRecDepth 100000 in
theorem pouchref01_Reader_Left.calls (g : Nat) (s0_0 : ByteArray) (s0_1 : Int) (s0_2 : Int) (r1 : Int) (r2 : ByteArray) (r3 : Int) (r4 : Int) (w0 w : World) (hI : IsS45 w0 w g s0_0 s0_1 s0_2) (hB : Below w0.heap.size w0 w) (h : pouchref01_Reader_Left.f s0_0 s0_1 s0_2 = some (r1, r2, r3, r4)) :
    Calls Tryd.prog 75 #[.pointer (some ⟨g, 0, none⟩)] w fun e w' => e = .returned (.int .i64 r1) ∧ IsS45 w0 w' g r2 r3 r4 ∧ Below w0.heap.size w0 w' ∧ KeepBut w w' g none := by
  have HI0 := Aside0.mk hI
  have HK := Aside0.mk (KeepBut.refl w g none)
  have HL := Aside0.mk hB.size
  clear hI
  have HW0 := Aside0.mk hB.size
  have HB := Aside0.mk hB
  clear hB
  have H : (if s0_2 = 0 then (some (wrap64 ((s0_0.size : Int) - s0_1), s0_0, s0_1, s0_2)) else (some (0, s0_0, s0_1, s0_2))) = some (r1, r2, r3, r4) := h
  clear h
  by_cases c2 : s0_2 = 0
  · rw [if_pos c2] at H
    have c2b0 : (s0_2 == 0) = true := beq_iff_eq.mpr c2
    have c2b1 : (s0_2 != 0) = false := bne_eq_false_iff_eq.mpr c2
    clear c2
    simp only [Option.some.injEq, Prod.mk.injEq] at H
    obtain ⟨rfl, rfl, rfl, rfl⟩ := H
    obtain ⟨HGz3, hgz3⟩ := HI0.out
    have hcz3_0 := cellS45_0 HGz3
    have hcz3_1 := cellS45_1 HGz3
    have hcz3_2 := cellS45_2 HGz3
    have hfz3_0 := blk_frozen HGz3 0
    have hfz3_1 := blk_frozen HGz3 1
    have hfz3_2 := blk_frozen HGz3 2
    clear HGz3 hgz3
    go_enter Tryd.func75, Tryd.ntmps75
    go_wp2
    repeat (go_quiet (fail); try go_wp2)
    go_ret
    exact ⟨by first | rfl | (simp [errW_none, errW_some] <;> rfl) | (simp [*, errW_none, errW_some] <;> rfl), by repeat (first | (with_reducible first | exact HI0.out | apply IsS45.alloc | apply IsS45.drewN | apply IsS45.drew | apply IsS45.set_0 | apply IsS45.set_1 | apply IsS45.set_2) | exact HI0.out), by repeat (first | (with_reducible first | exact HB.out | apply below_alloc | apply pw_below_drewN | apply below_drew1 | refine below_set ?_ (IsS45.ge HI0.out)) | exact HB.out), by repeat (first | (with_reducible first | exact HK.out | apply KeepBut.set_ | apply keep_drewN | apply keep_drew | apply keep_alloc) | exact HK.out)⟩
  · rw [if_neg c2] at H
    have c2b0 : (s0_2 == 0) = false := beq_eq_false_iff_ne.mpr c2
    have c2b1 : (s0_2 != 0) = true := bne_iff_ne.mpr c2
    simp only [Option.some.injEq, Prod.mk.injEq] at H
    obtain ⟨rfl, rfl, rfl, rfl⟩ := H
    obtain ⟨HGz4, hgz4⟩ := HI0.out
    have hcz4_0 := cellS45_0 HGz4
    have hcz4_1 := cellS45_1 HGz4
    have hcz4_2 := cellS45_2 HGz4
    have hfz4_0 := blk_frozen HGz4 0
    have hfz4_1 := blk_frozen HGz4 1
    have hfz4_2 := blk_frozen HGz4 2
    clear HGz4 hgz4
    go_enter Tryd.func75, Tryd.ntmps75
    go_wp2
    repeat (go_quiet (fail); try go_wp2)
    go_ret
    exact ⟨by first | rfl | (simp [errW_none, errW_some] <;> rfl) | (simp [*, errW_none, errW_some] <;> rfl), by repeat (first | (with_reducible first | exact HI0.out | apply IsS45.alloc | apply IsS45.drewN | apply IsS45.drew | apply IsS45.set_0 | apply IsS45.set_1 | apply IsS45.set_2) | exact HI0.out), by repeat (first | (with_reducible first | exact HB.out | apply below_alloc | apply pw_below_drewN | apply below_drew1 | refine below_set ?_ (IsS45.ge HI0.out)) | exact HB.out), by repeat (first | (with_reducible first | exact HK.out | apply KeepBut.set_ | apply keep_drewN | apply keep_drew | apply keep_alloc) | exact HK.out)⟩
end Go.Proofs.YtkmkgpigmldhnaaDoor.P

namespace Go.Proofs.YtkmkgpigmldhnaaDoor.P
open Go.RowKit Go.Proofs.YtkmkgpigmldhnaaDoorW.PrintWords Go.Proofs.YtkmkgpigmldhnaaDoorW.PrintLast Go.Proofs.YtkmkgpigmldhnaaDoorW.PrintMore
attribute [local go_sem] max2_int min2_int max_two min_two max_three min_three max_four min_four
set_option linter.unusedVariables false
set_option linter.unusedSimpArgs false
def pouchref01_Reader_Rest.f (s0_0 : ByteArray) (s0_1 : Int) (s0_2 : Int) : Option (ByteArray × ByteArray × Int × Int) := (pouchref01_Reader_Left.f s0_0 s0_1 s0_2).bind fun bt101 => ((pouchref01_Reader_take.f bt101.2.1 bt101.2.2.1 bt101.2.2.2 bt101.1).bind fun bt105 => (some (bt105.1, bt105.2.2.1, bt105.2.2.2.1, bt105.2.2.2.2)))
theorem z48z0 {p : Prop} (h : p := by repeat (first | (with_reducible first | exact HI0.out | apply IsS45.alloc | apply IsS45.drewN | apply IsS45.drew | apply IsS45.set_0 | apply IsS45.set_1 | apply IsS45.set_2) | exact HI0.out)) : p := h
theorem z48z1 {p : Prop} (h : p := by repeat (first | (with_reducible first | exact HB.out | apply below_alloc | apply pw_below_drewN | apply below_drew1 | refine below_set ?_ (IsS45.ge HI0.out)) | exact HB.out)) : p := h
theorem z48z2 {p : Prop} (h : p := by repeat (first | (with_reducible first | exact HK.out | apply KeepBut.set_ | apply keep_drewN | apply keep_drew | apply keep_alloc) | exact HK.out)) : p := h
theorem z48z3 {p : Prop} (h : p := by (try simp only [List.map_toArray, List.map_cons, List.map_nil]); first | done | rfl | (simp only [List.length_drop, List.length_take]; rfl)) : p := h
set_option maxHeartbeats 8000000 in
set_option maxRecDepth 100000 in
theorem pouchref01_Reader_Rest.calls (g : Nat) (s0_0 : ByteArray) (s0_1 : Int) (s0_2 : Int) (r1 : ByteArray) (r2 : ByteArray) (r3 : Int) (r4 : Int) (w0 w : World) (hI : IsS45 w0 w g s0_0 s0_1 s0_2) (hB : Below w0.heap.size w0 w) (h : pouchref01_Reader_Rest.f s0_0 s0_1 s0_2 = some (r1, r2, r3, r4)) :
  Calls Tryd.prog 48 #[.pointer (some ⟨g, 0, none⟩)] w fun e w' => e = .returned (.string r1) ∧ IsS45 w0 w' g r2 r3 r4 ∧ Below w0.heap.size w0 w' ∧ KeepBut w w' g none := by
 have HI0 := Aside0.mk hI
 have HK := Aside0.mk (KeepBut.refl w g none)
 have HL := Aside0.mk hB.size
 clear hI
 have HW0 := Aside0.mk hB.size
 have HB := Aside0.mk hB
 clear hB
 have H : ((pouchref01_Reader_Left.f s0_0 s0_1 s0_2).bind fun bt101 => ((pouchref01_Reader_take.f bt101.2.1 bt101.2.2.1 bt101.2.2.2 bt101.1).bind fun bt105 => (some (bt105.1, bt105.2.2.1, bt105.2.2.2.1, bt105.2.2.2.2)))) = some (r1, r2, r3, r4) := h
 clear h
 replace H := Option.bind_eq_some_iff.mp H
 obtain ⟨⟨t101, t102, t103, t104⟩, A20, H⟩ := H
 replace H : ((pouchref01_Reader_take.f t102 t103 t104 t101).bind fun bt105 => (some (bt105.1, bt105.2.2.1, bt105.2.2.2.1, bt105.2.2.2.2))) = some (r1, r2, r3, r4) := H
 have A2 := Aside0.mk A20
 clear A20
 replace H := Option.bind_eq_some_iff.mp H
 obtain ⟨⟨t105, t106, t107, t108, t109⟩, A30, H⟩ := H
 replace H : (some (t105, t107, t108, t109)) = some (r1, r2, r3, r4) := H
 have A3 := Aside0.mk A30
 clear A30
 simp only [Option.some.injEq, Prod.mk.injEq] at H
 obtain ⟨rfl, rfl, rfl, rfl⟩ := H
 go_enter Tryd.func48, Tryd.ntmps48
 go_wp2_with (first | ((with_reducible refine gate_callee (f := 75) rfl ?_); refine goesL_ (some 8) rfl rfl Tryd.func75 (by kernel_rfl) rfl #[.pointer (some ⟨g, 0, none⟩)] rfl z48z3 ?_; (with_reducible refine (pouchref01_Reader_Left.calls g s0_0 s0_1 s0_2 t101 t102 t103 t104 w0 _ ?side1 ?side2 A2.out).mono ?_); (case side1 => exact z48z0); (case side2 => exact z48z1); rintro e w4 ⟨rfl, hi, hb, hk⟩; refine ⟨_, rfl, ?_⟩; have n0_ := Aside0.mk (KeepBut.trans z48z2 hk (.inl rfl)); have n1_ := Aside0.mk (hb); have n2_ := Aside0.mk (hi); replace HK := n0_; replace HB := n1_; replace HI0 := n2_; clear n0_ n1_ n2_; clear hb hk hi) | ((with_reducible refine gate_callee (f := 74) rfl ?_); refine goesL_ (some 9) rfl rfl Tryd.func74 (by kernel_rfl) rfl #[.pointer (some ⟨g, 0, none⟩), .int .i64 t101] rfl z48z3 ?_; (with_reducible refine (pouchref01_Reader_take.calls g t102 t103 t104 t101 t105 t106 t107 t108 t109 w0 _ ?side1 ?side2 A3.out).mono ?_); (case side1 => exact z48z0); (case side2 => exact z48z1); rintro e w5 ⟨rfl, hi, hb, hk⟩; refine ⟨_, rfl, ?_⟩; have n0_ := Aside0.mk (KeepBut.trans z48z2 hk (.inl rfl)); have n1_ := Aside0.mk (hb); have n2_ := Aside0.mk (hi); replace HK := n0_; replace HB := n1_; replace HI0 := n2_; clear n0_ n1_ n2_; clear hb hk hi))
 go_ret
 exact ⟨by first | rfl | (simp [errW_none, errW_some] <;> rfl) | (simp [*, errW_none, errW_some] <;> rfl), by repeat (first | (with_reducible first | exact HI0.out | apply IsS45.alloc | apply IsS45.drewN | apply IsS45.drew | apply IsS45.set_0 | apply IsS45.set_1 | apply IsS45.set_2) | exact HI0.out), by repeat (first | (with_reducible first | exact HB.out | apply below_alloc | apply pw_below_drewN | apply below_drew1 | refine below_set ?_ (IsS45.ge HI0.out)) | exact HB.out), by repeat (first | (with_reducible first | exact HK.out | apply KeepBut.set_ | apply keep_drewN | apply keep_drew | apply keep_alloc) | exact HK.out)⟩
end Go.Proofs.YtkmkgpigmldhnaaDoor.P

namespace Go.Proofs.YtkmkgpigmldhnaaDoor.Pr
open Go Go.RowKit Go.Lib Go.Proofs.YtkmkgpigmldhnaaDoorW.PrintWords Go.Proofs.YtkmkgpigmldhnaaDoorW.PrintLast Go.Proofs.YtkmkgpigmldhnaaDoorW.PrintMore
open Go.Proofs.YtkmkgpigmldhnaaDoor.P
theorem dl_len (s : ByteArray) : (dl s).length = s.size := (Go.Lib.size_eq s).symm
theorem dl_ext (s : ByteArray) (a b : Nat) : dl (s.extract a b) = ((dl s).drop a).take (b - a) := by
  show (s.extract a b).data.toList = _
  rw [ByteArray.data_extract, Array.toList_extract]
theorem dl_inj {a b : ByteArray} (h : dl a = dl b) : a = b := by
  cases a; cases b; congr 1; exact Array.toList_inj.1 h
theorem dl_from (s : ByteArray) (n : Nat) : dl (s.extract n s.size) = (dl s).drop n := by
  rw [dl_ext, List.take_of_length_le (by rw [List.length_drop, dl_len]; exact Nat.le_refl _)]
theorem dl_upto (s : ByteArray) (n : Nat) : dl (s.extract 0 n) = (dl s).take n := by rw [dl_ext]; rfl
theorem bt_list (s : ByteArray) (i : Nat) (b : UInt8) (h : (dl s)[i]? = some b) : bt s (i : Int) = (b.toNat : Int) := by
  have hi : i < s.size := by rw [← dl_len]; exact (List.getElem?_eq_some_iff.1 h).1
  rw [bt_get s i hi]
  have h2 : (dl s)[i]? = some (s.get! i) := by show s.data.toList[i]? = _; rw [Go.Lib.data_getElem? s i hi, ← get_at s i hi]; rfl
  rw [h] at h2
  rw [Option.some.inj h2]
def tkL (n : Int) (l : List UInt8) (e : Int) : List UInt8 × Bool × List UInt8 × Int := if e = 0 then (if n < 0 ∨ n > l.length then ([], false, l, 2) else (l.take n.toNat, true, l.drop n.toNat, 0)) else ([], false, l, e)
theorem take_prog (s : ByteArray) (e n : Int) : ∃ t s', wire_Reader_take.f s e n = some (t, (tkL n (dl s) e).2.1, s', (tkL n (dl s) e).2.2.2) ∧ dl t = (tkL n (dl s) e).1 ∧ dl s' = (tkL n (dl s) e).2.2.1 := by
  unfold wire_Reader_take.f wire_Reader_Err.f tkL
  simp only [Option.bind_some, dl_len]
  by_cases he : e = 0
  · rw [if_pos he, if_pos he]
    by_cases h1 : n < 0
    · rw [if_pos h1, if_pos (.inl h1)]; exact ⟨_, _, rfl, rfl, rfl⟩
    · rw [if_neg h1]
      by_cases h2 : n > (s.size : Int)
      · rw [if_pos h2, if_pos (.inr h2)]; exact ⟨_, _, rfl, rfl, rfl⟩
      · rw [if_neg h2, if_pos (by omega), if_pos (by omega), if_neg (by omega)]
        subst he
        exact ⟨_, _, rfl, dl_upto _ _, dl_from _ _⟩
  · rw [if_neg he, if_neg he]; exact ⟨_, _, rfl, rfl, rfl⟩
theorem take_ref (B : ByteArray) (at_ : Nat) (e n : Int) (hB : B.size ≤ 140737488355328) (ha : at_ ≤ B.size) : ∃ t at', pouchref01_Reader_take.f B at_ e n = some (t, (tkL n ((dl B).drop at_) e).2.1, B, ((at' : Nat) : Int), (tkL n ((dl B).drop at_) e).2.2.2) ∧ dl t = (tkL n ((dl B).drop at_) e).1 ∧ (dl B).drop at' = (tkL n ((dl B).drop at_) e).2.2.1 ∧ at_ ≤ at' ∧ at' ≤ B.size := by
  unfold pouchref01_Reader_take.f tkL
  rw [List.length_drop, dl_len, w64 (x := (B.size : Int) - (at_ : Int)) (by omega) (by omega)]
  by_cases he : e = 0
  · rw [if_pos he, if_pos he]
    by_cases h1 : n < 0
    · rw [if_pos h1, if_pos (.inl h1)]; exact ⟨_, at_, rfl, rfl, rfl, Nat.le_refl _, ha⟩
    · rw [if_neg h1]
      by_cases h2 : n > (B.size : Int) - (at_ : Int)
      · rw [if_pos h2, if_pos (by omega)]; exact ⟨_, at_, rfl, rfl, rfl, Nat.le_refl _, ha⟩
      · rw [if_neg h2, w64 (x := (at_ : Int) + n) (by omega) (by omega), if_pos (by omega), if_pos (by omega), if_pos (by omega), if_neg (by omega)]
        subst he
        refine ⟨_, at_ + n.toNat, by rw [show (at_ : Int) + n = ((at_ + n.toNat : Nat) : Int) by omega], ?_, ?_, by omega, by omega⟩
        · rw [dl_ext]
          show (List.drop at_ (dl B)).take _ = _
          congr 1; omega
        · rw [List.drop_drop]
  · rw [if_neg he, if_neg he]; exact ⟨_, at_, rfl, rfl, rfl, Nat.le_refl _, ha⟩
def beL (t : List UInt8) : Int := t.foldl (fun n b => 256 * n + (b.toNat : Int)) 0
def numL (n : Int) (l : List UInt8) (e : Int) : Int × List UInt8 × Int := (if (tkL n l e).2.1 = true then beL (tkL n l e).1 else 0, (tkL n l e).2.2.1, (tkL n l e).2.2.2)
theorem tk_len {n : Int} {l : List UInt8} {e : Int} (h : (tkL n l e).2.1 = true) : 0 ≤ n ∧ (tkL n l e).1.length = n.toNat := by
  unfold tkL at h ⊢
  by_cases he : e = 0
  · rw [if_pos he] at h ⊢
    by_cases h1 : n < 0 ∨ n > (l.length : Int)
    · rw [if_pos h1] at h; cases h
    · rw [if_neg h1] at h ⊢
      refine ⟨by omega, ?_⟩
      show (l.take n.toNat).length = _
      rw [List.length_take]; omega
  · rw [if_neg he] at h; cases h
theorem list1 {t : List UInt8} (h : t.length = 1) : ∃ a, t = [a] := by
  match t, h with
  | [a], _ => exact ⟨a, rfl⟩
theorem list2 {t : List UInt8} (h : t.length = 2) : ∃ a b, t = [a, b] := by
  match t, h with
  | [a, b], _ => exact ⟨a, b, rfl⟩
theorem list4 {t : List UInt8} (h : t.length = 4) : ∃ a b c d, t = [a, b, c, d] := by
  match t, h with
  | [a, b, c, d], _ => exact ⟨a, b, c, d, rfl⟩
theorem byte_prog (s : ByteArray) (e : Int) : ∃ s', wire_Reader_Byte.f s e = some ((numL 1 (dl s) e).1, s', (numL 1 (dl s) e).2.2) ∧ dl s' = (numL 1 (dl s) e).2.1 := by
  obtain ⟨t, s', h1, h2, h3⟩ := take_prog s e 1
  unfold wire_Reader_Byte.f numL
  rw [h1]
  simp only [Option.bind_some]
  by_cases h : (tkL 1 (dl s) e).2.1 = true
  · obtain ⟨_, hl⟩ := tk_len h
    have hsz : t.size = 1 := by rw [← dl_len, h2, hl]; rfl
    obtain ⟨a, ha⟩ := list1 (t := dl t) (by rw [dl_len, hsz])
    rw [if_pos h, if_pos h, if_pos (by omega), ← h2, ha]
    refine ⟨s', ?_, h3⟩
    rw [show (0 : Int) = ((0 : Nat) : Int) from rfl, bt_list t 0 a (by rw [ha]; rfl)]
    simp [beL]
  · rw [if_neg h, if_neg h]; exact ⟨s', rfl, h3⟩
theorem two_prog (s : ByteArray) (e : Int) : ∃ s', wire_Reader_Two.f s e = some ((numL 2 (dl s) e).1, s', (numL 2 (dl s) e).2.2) ∧ dl s' = (numL 2 (dl s) e).2.1 := by
  obtain ⟨t, s', h1, h2, h3⟩ := take_prog s e 2
  unfold wire_Reader_Two.f numL
  rw [h1]
  simp only [Option.bind_some]
  by_cases h : (tkL 2 (dl s) e).2.1 = true
  · obtain ⟨_, hl⟩ := tk_len h
    have hsz : t.size = 2 := by rw [← dl_len, h2, hl]; rfl
    obtain ⟨a, b, ha⟩ := list2 (t := dl t) (by rw [dl_len, hsz])
    rw [if_pos h, if_pos h, if_pos (by omega), if_pos (by omega), ← h2, ha]
    refine ⟨s', ?_, h3⟩
    have ra := a.toNat_lt
    have rb := b.toNat_lt
    have e0 := bt_list t 0 a (by rw [ha]; rfl)
    have e1 := bt_list t 1 b (by rw [ha]; rfl)
    rw [show ((0 : Nat) : Int) = 0 from rfl] at e0
    rw [show ((1 : Nat) : Int) = 1 from rfl] at e1
    rw [e0, e1, u16_wrap_id ((a.toNat : Nat) : Int) (by omega) (by omega), u16_wrap_id (((a.toNat : Nat) : Int) * 256) (by omega) (by omega), u16_wrap_id ((b.toNat : Nat) : Int) (by omega) (by omega)]
    have ho : bits .or .u16 (((a.toNat : Nat) : Int) * 256) ((b.toNat : Nat) : Int) = ((a.toNat : Nat) : Int) * 256 + ((b.toNat : Nat) : Int) :=
      bits_join .u16 16 (by decide) wraps_u16 8 _ _ (by omega) (by omega) (by omega) (by omega) (by omega) (by omega)
    rw [ho]
    simp [beL]; omega
  · rw [if_neg h, if_neg h]; exact ⟨s', rfl, h3⟩
theorem four_prog (s : ByteArray) (e : Int) : ∃ s', wire_Reader_Four.f s e = some ((numL 4 (dl s) e).1, s', (numL 4 (dl s) e).2.2) ∧ dl s' = (numL 4 (dl s) e).2.1 := by
  obtain ⟨t, s', h1, h2, h3⟩ := take_prog s e 4
  unfold wire_Reader_Four.f numL
  rw [h1]
  simp only [Option.bind_some]
  by_cases h : (tkL 4 (dl s) e).2.1 = true
  · obtain ⟨_, hl⟩ := tk_len h
    have hsz : t.size = 4 := by rw [← dl_len, h2, hl]; rfl
    obtain ⟨a, b, c, d, ha⟩ := list4 (t := dl t) (by rw [dl_len, hsz])
    rw [if_pos h, if_pos h, if_pos (by omega), if_pos (by omega), if_pos (by omega), if_pos (by omega), ← h2, ha]
    refine ⟨s', ?_, h3⟩
    have ra := a.toNat_lt
    have rb := b.toNat_lt
    have rc := c.toNat_lt
    have rd := d.toNat_lt
    have e0 := bt_list t 0 a (by rw [ha]; rfl)
    have e1 := bt_list t 1 b (by rw [ha]; rfl)
    have e2 := bt_list t 2 c (by rw [ha]; rfl)
    have e3 := bt_list t 3 d (by rw [ha]; rfl)
    rw [show ((0 : Nat) : Int) = 0 from rfl] at e0
    rw [show ((1 : Nat) : Int) = 1 from rfl] at e1
    rw [show ((2 : Nat) : Int) = 2 from rfl] at e2
    rw [show ((3 : Nat) : Int) = 3 from rfl] at e3
    have m : ∀ x : Int, 0 ≤ x → x < 4294967296 → x % 4294967296 = x := fun x h1 h2 => Int.emod_eq_of_lt h1 h2
    rw [e0, e1, e2, e3, m (a.toNat : Int) (by omega) (by omega), m (b.toNat : Int) (by omega) (by omega), m (c.toNat : Int) (by omega) (by omega), m (d.toNat : Int) (by omega) (by omega),
      m ((a.toNat : Int) * 16777216) (by omega) (by omega), m ((b.toNat : Int) * 65536) (by omega) (by omega), m ((c.toNat : Int) * 256) (by omega) (by omega)]
    rw [bits_join .u32 32 (by decide) wraps_u32 24 ((a.toNat : Int) * 16777216) ((b.toNat : Int) * 65536) (by omega) (by omega) (by omega) (by omega) (by omega) (by omega),
      bits_join .u32 32 (by decide) wraps_u32 16 ((a.toNat : Int) * 16777216 + (b.toNat : Int) * 65536) ((c.toNat : Int) * 256) (by omega) (by omega) (by omega) (by omega) (by omega) (by omega),
      bits_join .u32 32 (by decide) wraps_u32 8 ((a.toNat : Int) * 16777216 + (b.toNat : Int) * 65536 + (c.toNat : Int) * 256) (d.toNat : Int) (by omega) (by omega) (by omega) (by omega) (by omega) (by omega)]
    simp [beL]; omega
  · rw [if_neg h, if_neg h]; exact ⟨s', rfl, h3⟩
theorem num_l0 (t : ByteArray) (ht : t.size ≤ 4) (B : ByteArray) (at_ e : Int) : ∀ (d i : Nat) (n : Int), i + d = t.size → 0 ≤ n → n < 256 ^ i → Ev (fun k => pouchref01_Reader_Num.l0 k t n (i : Int) B at_ e) (((dl t).drop i).foldl (fun n b => 256 * n + (b.toNat : Int)) n, B, at_, e)
  | 0, i, n, h, _, _ => by
    rw [List.drop_eq_nil_of_le (by rw [dl_len]; omega)]
    exact Ev.step (f := fun _ => some (n, B, at_, e)) (fun k => by simp only [pouchref01_Reader_Num.l0]; rw [if_neg (by omega)]) (Ev.now _)
  | d + 1, i, n, h, h1, h2 => by
    have hi : i < (dl t).length := by rw [dl_len]; omega
    have hb := bt_list t i (dl t)[i] (List.getElem?_eq_getElem hi)
    have hr := (dl t)[i].toNat_lt
    have hi4 : i = 0 ∨ i = 1 ∨ i = 2 ∨ i = 3 := by omega
    have hp : n < 16777216 := by rcases hi4 with rfl | rfl | rfl | rfl <;> omega
    rw [List.drop_eq_getElem_cons hi, List.foldl_cons]
    refine Ev.step (f := fun k => pouchref01_Reader_Num.l0 k t (256 * n + ((dl t)[i].toNat : Int)) ((i + 1 : Nat) : Int) B at_ e) (fun k => ?_) (num_l0 t ht B at_ e d (i + 1) (256 * n + ((dl t)[i].toNat : Int)) (by omega) (by omega) (by rcases hi4 with rfl | rfl | rfl | rfl <;> omega))
    simp only [pouchref01_Reader_Num.l0]
    rw [if_pos (by omega), if_pos (by omega), hb, u64_wrap_id ((dl t)[i].toNat : Int) (by omega) (by omega), u64_wrap_id (256 * n) (by omega) (by omega), u64_wrap_id (256 * n + ((dl t)[i].toNat : Int)) (by omega) (by omega), w64 (by omega) (by omega)]
    rfl
theorem num_ref (B : ByteArray) (at_ : Nat) (e n : Int) (hn : n = 1 ∨ n = 2 ∨ n = 4) (hB : B.size ≤ 140737488355328) (ha : at_ ≤ B.size) :
    ∃ at' : Nat, Ev (fun k => pouchref01_Reader_Num.f k B at_ e n) ((numL n ((dl B).drop at_) e).1, B, (at' : Int), (numL n ((dl B).drop at_) e).2.2) ∧ (dl B).drop at' = (numL n ((dl B).drop at_) e).2.1 ∧ at_ ≤ at' ∧ at' ≤ B.size := by
  obtain ⟨t, at', h1, h2, h3, h4, h5⟩ := take_ref B at_ e n hB ha
  refine ⟨at', ?_, h3, h4, h5⟩
  unfold numL
  by_cases h : (tkL n ((dl B).drop at_) e).2.1 = true
  · obtain ⟨_, hl⟩ := tk_len h
    have hsz : t.size ≤ 4 := by rw [← dl_len, h2, hl]; omega
    have := num_l0 t hsz B at' (tkL n ((dl B).drop at_) e).2.2.2 t.size 0 0 (by omega) (Int.le_refl _) (by decide)
    rw [List.drop_zero, h2] at this
    rw [if_pos h]
    refine Ev.congr (fun k => ?_) this
    unfold pouchref01_Reader_Num.f
    rw [h1]
    simp only [Option.bind_some]
    rw [if_pos h]; rfl
  · rw [if_neg h]
    refine Ev.congr (f := fun _ => some _) (fun k => ?_) (Ev.now _)
    unfold pouchref01_Reader_Num.f
    rw [h1]
    simp only [Option.bind_some]
    rw [if_neg h]
def digL : Nat → List UInt8 → Int → Int → Nat → Int × Int × Int
  | 0, _, _, _, _ => (0, 0, 3)
  | _ + 1, [], _, _, _ => (0, 0, 2)
  | f + 1, c :: r, acc, m, i => if c.toNat ≥ 128 then digL f r (acc + ((c.toNat : Int) % 128) * m) (m * 128) (i + 1) else if c.toNat = 0 ∧ i > 0 then (0, 0, 3) else (acc + (c.toNat : Int) * m, ((i + 1 : Nat) : Int), 0)
def varL (l : List UInt8) (e : Int) : Int × List UInt8 × Int := if e = 0 then ((digL 4 l 0 1 0).1, l.drop (digL 4 l 0 1 0).2.1.toNat, (digL 4 l 0 1 0).2.2) else (0, l, e)
theorem digL_size : ∀ (f : Nat) (l : List UInt8) (acc m : Int) (i : Nat), i + f = 4 → 0 ≤ (digL f l acc m i).2.1 ∧ (digL f l acc m i).2.1 ≤ i + l.length ∧ (digL f l acc m i).2.1 ≤ 4 ∧ ((digL f l acc m i).2.2 = 0 → 0 < (digL f l acc m i).2.1) ∧ ((digL f l acc m i).2.2 ≠ 0 → (digL f l acc m i).2.1 = 0 ∧ (digL f l acc m i).1 = 0) ∧ ((digL f l acc m i).2.2 = 0 ∨ (digL f l acc m i).2.2 = 2 ∨ (digL f l acc m i).2.2 = 3)
  | 0, l, _, _, i, _ => by
    have : (0 : Int) ≤ (i : Int) + (l.length : Int) := by omega
    simp [digL, this]
  | f + 1, [], _, _, i, _ => by simp [digL]
  | f + 1, c :: r, acc, m, i, h => by
    unfold digL
    by_cases h1 : c.toNat ≥ 128
    · rw [if_pos h1]
      have := digL_size f r (acc + ((c.toNat : Int) % 128) * m) (m * 128) (i + 1) (by omega)
      refine ⟨this.1, ?_, this.2.2⟩
      have := this.2.1
      rw [List.length_cons]; omega
    · rw [if_neg h1]
      by_cases h2 : c.toNat = 0 ∧ i > 0
      · rw [if_pos h2]; simp; omega
      · rw [if_neg h2]; simp; omega
theorem andNot_tab : ∀ a : Fin 256, bits .andNot .u8 ((a.val : Nat) : Int) 128 = (((a.val % 128 : Nat)) : Int) := by decide +kernel
theorem andNot_128 (c : UInt8) : bits .andNot .u8 ((c.toNat : Nat) : Int) 128 = ((c.toNat : Nat) : Int) % 128 := by
  have := andNot_tab ⟨c.toNat, c.toNat_lt⟩
  rw [show ((c.toNat : Nat) : Int) % 128 = ((c.toNat % 128 : Nat) : Int) by omega]
  exact this
structure PW (i : Nat) (M : Int) : Prop where
  e : M = 128 ^ i
theorem PW.zero : PW 0 1 := ⟨rfl⟩
theorem PW.succ {i : Nat} {M : Int} (h : PW i M) : PW (i + 1) (M * 128) := ⟨by rw [h.e, Int.pow_succ]⟩
theorem PW.cases {i : Nat} {M : Int} (h : PW i M) (hi : i < 4) : (i = 0 ∧ M = 1) ∨ (i = 1 ∧ M = 128) ∨ (i = 2 ∧ M = 16384) ∨ (i = 3 ∧ M = 2097152) := by
  have hi4 : i = 0 ∨ i = 1 ∨ i = 2 ∨ i = 3 := by omega
  rcases hi4 with rfl | rfl | rfl | rfl
  · exact .inl ⟨rfl, h.e⟩
  · exact .inr (.inl ⟨rfl, h.e⟩)
  · exact .inr (.inr (.inl ⟨rfl, h.e⟩))
  · exact .inr (.inr (.inr ⟨rfl, h.e⟩))
theorem shl_at (x : Int) (i : Nat) (M : Int) (hM : PW i M) (hi : i < 4) (h0 : 0 ≤ x) (h1 : x < 128) : shl .u32 x (((7 * i : Nat)) : Int) = x * M := by
  unfold shl
  rw [show ((7 * i : Nat) : Int).toNat = 7 * i from rfl, Nat.min_eq_left (by show 7 * i ≤ 32; omega)]
  rcases hM.cases hi with ⟨rfl, rfl⟩ | ⟨rfl, rfl⟩ | ⟨rfl, rfl⟩ | ⟨rfl, rfl⟩
  · rw [show (2 : Int) ^ (7 * 0) = 1 from rfl, u32_wrap_id _ (by omega) (by omega)]
  · rw [show (2 : Int) ^ (7 * 1) = 128 from rfl, u32_wrap_id _ (by omega) (by omega)]
  · rw [show (2 : Int) ^ (7 * 2) = 16384 from rfl, u32_wrap_id _ (by omega) (by omega)]
  · rw [show (2 : Int) ^ (7 * 3) = 2097152 from rfl, u32_wrap_id _ (by omega) (by omega)]
theorem or_at (acc x : Int) (i : Nat) (M : Int) (hM : PW i M) (hi : i < 4) (ha : 0 ≤ acc) (hb : acc < M) (h0 : 0 ≤ x) (h1 : x < 128) : bits .or .u32 acc (x * M) = acc + x * M := by
  rcases hM.cases hi with ⟨rfl, rfl⟩ | ⟨rfl, rfl⟩ | ⟨rfl, rfl⟩ | ⟨rfl, rfl⟩
  · exact bits_join_low .u32 32 (by decide) wraps_u32 0 acc _ ha (by omega) (by omega) (by omega) (by omega) (by omega)
  · exact bits_join_low .u32 32 (by decide) wraps_u32 7 acc _ ha (by omega) (by omega) (by omega) (by omega) (by omega)
  · exact bits_join_low .u32 32 (by decide) wraps_u32 14 acc _ ha (by omega) (by omega) (by omega) (by omega) (by omega)
  · exact bits_join_low .u32 32 (by decide) wraps_u32 21 acc _ ha (by omega) (by omega) (by omega) (by omega) (by omega)
theorem pow_step (acc x : Int) (i : Nat) (M : Int) (hM : PW i M) (hi : i < 4) (ha : 0 ≤ acc) (hb : acc < M) (h0 : 0 ≤ x) (h1 : x < 128) : 0 ≤ acc + x * M ∧ acc + x * M < M * 128 ∧ acc + x * M < 268435456 ∧ 0 ≤ x * M ∧ x * M < 268435456 ∧ 0 ≤ M ∧ M ≤ 2097152 := by
  rcases hM.cases hi with ⟨rfl, rfl⟩ | ⟨rfl, rfl⟩ | ⟨rfl, rfl⟩ | ⟨rfl, rfl⟩ <;> omega
structure Stp (acc x M : Int) : Prop where
  a : 0 ≤ acc + x * M
  b : acc + x * M < M * 128
  c : (acc + (x * M) % 4294967296) % 4294967296 = acc + x * M
  d : (M * 128) % 4294967296 = M * 128
theorem Stp.mk' (acc x : Int) (i : Nat) (M : Int) (hM : PW i M) (hi : i < 4) (ha : 0 ≤ acc) (hb : acc < M) (h0 : 0 ≤ x) (h1 : x < 128) : Stp acc x M := by
  obtain ⟨h2, h3, h4, h5, h6, h7, h8⟩ := pow_step acc x i M hM hi ha hb h0 h1
  refine ⟨h2, h3, ?_, Int.emod_eq_of_lt (by omega) (by omega)⟩
  rw [Int.emod_eq_of_lt h5 (by omega), Int.emod_eq_of_lt h2 (by omega)]
theorem c128 (c : UInt8) : 0 ≤ (c.toNat : Int) % 128 ∧ (c.toNat : Int) % 128 < 128 := by omega
theorem dig_or (c : UInt8) (acc : Int) (i : Nat) (M : Int) (hM : PW i M) (hi : i < 4) (ha : 0 ≤ acc) (hb : acc < M) : bits .or .u32 acc (shl .u32 (bits .andNot .u8 (c.toNat : Int) 128 % 4294967296) ((7 * i : Nat) : Int)) = acc + ((c.toNat : Int) % 128) * M := by
  have h := c128 c
  rw [andNot_128, Int.emod_eq_of_lt h.1 (by omega), shl_at _ i M hM hi h.1 h.2, or_at _ _ i M hM hi ha hb h.1 h.2]
theorem w64_at {a i : Nat} (ha : a ≤ 140737488355328) (hi : i < 4) : wrap64 ((a : Int) + (i : Int)) = ((a + i : Nat) : Int) := by rw [w64 (by omega) (by omega)]; omega
theorem w64_n1 {i : Nat} (hi : i < 4611686018427387903) : wrap64 ((i : Int) + 1) = ((i + 1 : Nat) : Int) := by rw [w64 (by omega) (by omega)]; omega
theorem w64_at1 {a i : Nat} (ha : a ≤ 140737488355328) (hi : i < 4) : wrap64 (((a + i : Nat) : Int) + 1) = (a : Int) + ((i + 1 : Nat) : Int) := by rw [w64 (by omega) (by omega)]; omega
theorem w64_7 {i : Nat} (hi : i < 4) : wrap64 (7 * (i : Int)) = ((7 * i : Nat) : Int) := by rw [w64 (by omega) (by omega)]; omega
theorem digits_l0 (s : ByteArray) : ∀ (f i : Nat) (acc M : Int), PW i M → i + f = 4 → 0 ≤ acc → acc < M → Ev (fun k => wire_digits.l0 k s acc (i : Int)) (digL f ((dl s).drop i) acc M i)
  | 0, i, acc, M, _, h, _, _ => Ev.step (f := fun _ => some (0, 0, 3)) (fun k => by simp only [wire_digits.l0]; rw [if_neg (by omega)]) (Ev.now _)
  | f + 1, i, acc, M, hM, h, h1, h2 => by
    by_cases hi : i < (dl s).length
    · have hb := bt_list s i (dl s)[i] (List.getElem?_eq_getElem hi)
      have hr := (dl s)[i].toNat_lt
      have hs := dl_len s
      rw [List.drop_eq_getElem_cons hi]
      generalize (dl s)[i] = c at hb hr
      have hi4 : i < 4 := by omega
      have E1 := Aside0.mk (w64_7 hi4)
      have E2 := Aside0.mk (w64_n1 (i := i) (Nat.lt_trans hi4 (by decide)))
      have hx := Stp.mk' acc ((c.toNat : Int) % 128) i M hM hi4 h1 h2 (c128 c).1 (c128 c).2
      have e3 := dig_or c acc i M hM hi4 h1 h2
      have E3 := Aside0.mk e3
      clear e3 h1 h2
      unfold digL
      by_cases c1 : c.toNat ≥ 128
      · rw [if_pos c1]
        refine Ev.step (f := fun k => wire_digits.l0 k s (acc + ((c.toNat : Int) % 128) * M) ((i + 1 : Nat) : Int)) (fun k => ?_) (digits_l0 s f (i + 1) _ (M * 128) hM.succ (by omega) hx.a hx.b)
        simp only [wire_digits.l0]
        rw [if_pos (by omega), if_neg (by omega), if_pos (by omega), if_pos (by omega), E1.out, E2.out, hb, if_pos (by omega), if_pos (by omega), E3.out]
      · rw [if_neg c1]
        have e4 : (c.toNat : Int) % 128 = (c.toNat : Int) := by omega
        have e3 := E3.out
        rw [e4] at e3
        clear E3
        have E3 := Aside0.mk e3
        clear e3
        by_cases c2 : c.toNat = 0 ∧ i > 0
        · rw [if_pos c2]
          refine Ev.step (f := fun _ => some (0, 0, 3)) (fun k => ?_) (Ev.now _)
          simp only [wire_digits.l0]
          rw [if_pos (by omega), if_neg (by omega), if_pos (by omega), if_pos (by omega), E1.out, hb, if_pos (by omega), if_neg (by omega), if_pos (by omega), if_pos (by omega)]
        · rw [if_neg c2]
          refine Ev.step (f := fun _ => some (acc + (c.toNat : Int) * M, ((i + 1 : Nat) : Int), 0)) (fun k => ?_) (Ev.now _)
          simp only [wire_digits.l0]
          rw [if_pos (by omega), if_neg (by omega), if_pos (by omega), if_pos (by omega), E1.out, E2.out, hb, if_pos (by omega), if_neg (by omega), E3.out]
          by_cases c3 : c.toNat = 0
          · rw [if_pos (by omega), if_neg (by omega)]
          · rw [if_neg (by omega)]
    · rw [List.drop_eq_nil_of_le (by omega)]
      have hs := dl_len s
      exact Ev.step (f := fun _ => some (0, 0, 2)) (fun k => by simp only [wire_digits.l0]; rw [if_pos (by omega), if_pos (by omega)]) (Ev.now _)
theorem var_prog (s : ByteArray) (e : Int) : ∃ s', Ev (fun k => wire_Reader_Var.f k s e) ((varL (dl s) e).1, s', (varL (dl s) e).2.2) ∧ dl s' = (varL (dl s) e).2.1 := by
  unfold varL
  by_cases he : e = 0
  · rw [if_pos he]
    have hd := digits_l0 s 4 0 0 1 PW.zero rfl (Int.le_refl _) (by decide)
    rw [List.drop_zero] at hd
    have hz := digL_size 4 (dl s) 0 1 0 rfl
    have hs := dl_len s
    refine ⟨s.extract ((digL 4 (dl s) 0 1 0).2.1).toNat s.size, ?_, dl_from _ _⟩
    refine Ev.congr (f := fun k => (wire_digits.f k s).bind fun bt104 => if 0 ≤ bt104.2.1 then (if bt104.2.1 ≤ (s.size : Int) then some (bt104.1, s.extract (bt104.2.1 : Int).toNat s.size, bt104.2.2) else none) else none) (fun k => ?_) (Ev.bind (g := fun k => wire_digits.f k s) (a := digL 4 (dl s) 0 1 0) hd (Ev.congr (f := fun _ => some _) (fun k => ?_) (Ev.now _)))
    · unfold wire_Reader_Var.f wire_Reader_Err.f
      simp only [Option.bind_some]
      rw [if_pos he]
    · rw [if_pos hz.1, if_pos (by omega)]
  · rw [if_neg he]
    refine ⟨s, Ev.congr (f := fun _ => some (0, s, e)) (fun k => ?_) (Ev.now _), rfl⟩
    unfold wire_Reader_Var.f wire_Reader_Err.f
    simp only [Option.bind_some]
    rw [if_neg he]
theorem rvar_l0 (B : ByteArray) (at_ : Nat) (hB : B.size ≤ 140737488355328) (ha : at_ ≤ B.size) : ∀ (f i : Nat) (acc M : Int), PW i M → i + f = 4 → i < 4 → 0 ≤ acc → acc < M →
    Ev (fun k => pouchref01_Reader_Var.l0 k acc M (i : Int) B at_ 0) ((digL f ((dl B).drop (at_ + i)) acc M i).1, B, (at_ : Int) + (digL f ((dl B).drop (at_ + i)) acc M i).2.1, (digL f ((dl B).drop (at_ + i)) acc M i).2.2)
  | 0, i, acc, M, _, h, h4, _, _ => by omega
  | f + 1, i, acc, M, hM, h, h4, h1, h2 => by
    have hs := dl_len B
    by_cases hi : at_ + i < (dl B).length
    · have hb := bt_list B (at_ + i) (dl B)[at_ + i] (List.getElem?_eq_getElem hi)
      have hr := (dl B)[at_ + i].toNat_lt
      rw [List.drop_eq_getElem_cons hi]
      generalize (dl B)[at_ + i] = c at hb hr
      have hx := Stp.mk' acc ((c.toNat : Int) % 128) i M hM h4 h1 h2 (c128 c).1 (c128 c).2
      have E1 := Aside0.mk (w64_at (a := at_) (i := i) (Nat.le_trans ha hB) h4)
      have E2 := Aside0.mk (w64_n1 (i := i) (Nat.lt_trans h4 (by decide)))
      have E5 := Aside0.mk (w64_at1 (a := at_) (i := i) (Nat.le_trans ha hB) h4)
      have e6 : (c.toNat : Int) % 4294967296 = (c.toNat : Int) := by omega
      clear h1 h2
      have hj : ∀ (x : Bool), Ev (fun k => pouchref01_Reader_Var.j1 k (acc + ((c.toNat : Int) % 128) * M) (M * 128) (i : Int) (c.toNat : Int) x B at_ 0) (if x = true then (0, B, (at_ : Int), 3) else if c.toNat < 128 then (acc + ((c.toNat : Int) % 128) * M, B, (at_ : Int) + ((i + 1 : Nat) : Int), 0) else ((digL f ((dl B).drop (at_ + (i + 1))) (acc + ((c.toNat : Int) % 128) * M) (M * 128) (i + 1)).1, B, (at_ : Int) + (digL f ((dl B).drop (at_ + (i + 1))) (acc + ((c.toNat : Int) % 128) * M) (M * 128) (i + 1)).2.1, (digL f ((dl B).drop (at_ + (i + 1))) (acc + ((c.toNat : Int) % 128) * M) (M * 128) (i + 1)).2.2)) ∨ (x = false ∧ ¬ c.toNat < 128 ∧ i = 3) := by
        intro x
        cases x with
        | true => exact .inl (Ev.step (f := fun _ => some (0, B, (at_ : Int), 3)) (fun k => by simp only [pouchref01_Reader_Var.j1]; rfl) (Ev.now _))
        | false =>
          by_cases c1 : c.toNat < 128
          · left
            rw [if_neg (by simp), if_pos c1]
            refine Ev.step (f := fun _ => some (acc + ((c.toNat : Int) % 128) * M, B, (at_ : Int) + ((i + 1 : Nat) : Int), 0)) (fun k => ?_) (Ev.now _)
            simp only [pouchref01_Reader_Var.j1]
            rw [if_neg (by simp), if_pos (by omega), E1.out, E5.out]
          · by_cases c3 : i = 3
            · exact .inr ⟨rfl, c1, c3⟩
            · left
              rw [if_neg (by simp), if_neg c1]
              refine Ev.step (fun k => ?_) (rvar_l0 B at_ hB ha f (i + 1) _ (M * 128) hM.succ (by omega) (by omega) hx.a hx.b)
              simp only [pouchref01_Reader_Var.j1]
              rw [if_neg (by simp), if_neg (by omega), E2.out]
      unfold digL
      by_cases c1 : c.toNat ≥ 128
      · by_cases c3 : i = 3
        · rcases hj true with hk | hk
          · rw [if_pos rfl] at hk
            rw [if_pos c1]
            obtain rfl : f = 0 := by omega
            simp only [digL]
            rw [show (at_ : Int) + 0 = (at_ : Int) by omega]
            refine Ev.step (fun k => ?_) hk
            simp only [pouchref01_Reader_Var.l0]
            rw [if_pos (by omega), E1.out, if_neg (by omega), if_pos (by omega), if_pos (by omega), hb, e6, if_pos (by omega), if_pos (by omega), hx.c, hx.d]
          · cases hk.1
        · rcases hj false with hk | hk
          · rw [if_neg (by simp), if_neg (by omega)] at hk
            rw [if_pos c1, show at_ + i + 1 = at_ + (i + 1) by omega]
            refine Ev.step (fun k => ?_) hk
            simp only [pouchref01_Reader_Var.l0]
            rw [if_pos (by omega), E1.out, if_neg (by omega), if_pos (by omega), if_pos (by omega), hb, e6, if_pos (by omega), if_neg (by omega), if_neg (by omega), hx.c, hx.d]
          · exact absurd hk.2.2 c3
      · rw [if_neg c1]
        have e4 : (c.toNat : Int) % 128 = (c.toNat : Int) := by omega
        by_cases c2 : c.toNat = 0 ∧ i > 0
        · rw [if_pos c2]
          rcases hj true with hk | hk
          · rw [if_pos rfl] at hk
            show Ev _ (0, B, (at_ : Int) + 0, 3)
            rw [show (at_ : Int) + 0 = (at_ : Int) by omega]
            refine Ev.step (fun k => ?_) hk
            simp only [pouchref01_Reader_Var.l0]
            rw [if_pos (by omega), E1.out, if_neg (by omega), if_pos (by omega), if_pos (by omega), hb, e6, if_neg (by omega), if_pos (by omega), hx.c, hx.d, decide_eq_true (by omega)]
          · cases hk.1
        · rw [if_neg c2]
          rcases hj false with hk | hk
          · rw [if_neg (by simp), if_pos (by omega)] at hk
            rw [← e4]
            refine Ev.step (fun k => ?_) hk
            simp only [pouchref01_Reader_Var.l0]
            rw [if_pos (by omega), E1.out, if_neg (by omega), if_pos (by omega), if_pos (by omega), hb, e6, if_neg (by omega), hx.c, hx.d]
            by_cases c3 : c.toNat = 0
            · rw [if_pos (by omega), decide_eq_false (by omega)]
            · rw [if_neg (by omega)]
          · exact absurd hk.2.1 (by omega)
    · rw [List.drop_eq_nil_of_le (by omega)]
      show Ev _ (0, B, (at_ : Int) + 0, 2)
      rw [show (at_ : Int) + 0 = (at_ : Int) by omega]
      have E1 := Aside0.mk (w64_at (a := at_) (i := i) (Nat.le_trans ha hB) h4)
      exact Ev.step (f := fun _ => some (0, B, (at_ : Int), 2)) (fun k => by simp only [pouchref01_Reader_Var.l0]; rw [if_pos (by omega), E1.out, if_pos (by omega)]) (Ev.now _)
theorem var_ref (B : ByteArray) (at_ : Nat) (e : Int) (hB : B.size ≤ 140737488355328) (ha : at_ ≤ B.size) :
    ∃ at' : Nat, Ev (fun k => pouchref01_Reader_Var.f k B at_ e) ((varL ((dl B).drop at_) e).1, B, (at' : Int), (varL ((dl B).drop at_) e).2.2) ∧ (dl B).drop at' = (varL ((dl B).drop at_) e).2.1 ∧ at_ ≤ at' ∧ at' ≤ B.size := by
  unfold varL
  by_cases he : e = 0
  · subst he
    rw [if_pos rfl]
    have h := rvar_l0 B at_ hB ha 4 0 0 1 PW.zero rfl (by omega) (Int.le_refl _) (by decide)
    rw [Nat.add_zero] at h
    have hz := digL_size 4 ((dl B).drop at_) 0 1 0 rfl
    have hl : ((dl B).drop at_).length = B.size - at_ := by rw [List.length_drop, dl_len]
    generalize digL 4 ((dl B).drop at_) 0 1 0 = D at *
    refine ⟨at_ + D.2.1.toNat, Ev.congr (fun k => ?_) (show Ev _ (D.1, B, ((at_ + D.2.1.toNat : Nat) : Int), D.2.2) by rw [show ((at_ + D.2.1.toNat : Nat) : Int) = (at_ : Int) + D.2.1 by omega]; exact h), by rw [List.drop_drop], by omega, by omega⟩
    unfold pouchref01_Reader_Var.f
    rw [if_pos rfl]; rfl
  · rw [if_neg he]
    refine ⟨at_, Ev.congr (f := fun _ => some (0, B, (at_ : Int), e)) (fun k => ?_) (Ev.now _), rfl, Nat.le_refl _, ha⟩
    unfold pouchref01_Reader_Var.f
    rw [if_neg he]
def binL (l : List UInt8) (e : Int) : List UInt8 × List UInt8 × Int := ((tkL (numL 2 l e).1 (numL 2 l e).2.1 (numL 2 l e).2.2).1, (tkL (numL 2 l e).1 (numL 2 l e).2.1 (numL 2 l e).2.2).2.2.1, (tkL (numL 2 l e).1 (numL 2 l e).2.1 (numL 2 l e).2.2).2.2.2)
theorem num2_range (l : List UInt8) (e : Int) : 0 ≤ (numL 2 l e).1 ∧ (numL 2 l e).1 < 65536 := by
  unfold numL
  by_cases h : (tkL 2 l e).2.1 = true
  · obtain ⟨_, hl⟩ := tk_len h
    obtain ⟨a, b, ha⟩ := list2 hl
    have ra := a.toNat_lt
    have rb := b.toNat_lt
    rw [if_pos h, ha]
    simp [beL]; omega
  · rw [if_neg h]; simp
theorem bin_prog (s : ByteArray) (e : Int) : ∃ t s', wire_Reader_Bin.f s e = some (t, s', (binL (dl s) e).2.2) ∧ dl t = (binL (dl s) e).1 ∧ dl s' = (binL (dl s) e).2.1 := by
  obtain ⟨s1, h1, h2⟩ := two_prog s e
  obtain ⟨t, s2, h3, h4, h5⟩ := take_prog s1 (numL 2 (dl s) e).2.2 (numL 2 (dl s) e).1
  have hr := num2_range (dl s) e
  refine ⟨t, s2, ?_, ?_, ?_⟩
  · unfold wire_Reader_Bin.f binL
    rw [h1]
    simp only [Option.bind_some]
    rw [w64 (by omega) (by omega), h3]
    simp only [Option.bind_some]
    rw [h2]
  · rw [h4, h2]; rfl
  · rw [h5, h2]; rfl
theorem bin_ref (B : ByteArray) (at_ : Nat) (e : Int) (hB : B.size ≤ 140737488355328) (ha : at_ ≤ B.size) :
    ∃ (t : ByteArray) (at' : Nat), Ev (fun k => pouchref01_Reader_Bin.f k B at_ e) (t, B, (at' : Int), (binL ((dl B).drop at_) e).2.2) ∧ dl t = (binL ((dl B).drop at_) e).1 ∧ (dl B).drop at' = (binL ((dl B).drop at_) e).2.1 ∧ at_ ≤ at' ∧ at' ≤ B.size := by
  obtain ⟨a1, h1, h2, h3, h4⟩ := num_ref B at_ e 2 (by omega) hB ha
  obtain ⟨t, a2, k1, k2, k3, k4, k5⟩ := take_ref B a1 (numL 2 ((dl B).drop at_) e).2.2 (numL 2 ((dl B).drop at_) e).1 hB h4
  have hr := num2_range ((dl B).drop at_) e
  rw [h2] at k1 k2 k3
  refine ⟨t, a2, ?_, k2, k3, by omega, k5⟩
  refine Ev.congr (fun k => rfl) (Ev.bind (g := fun k => pouchref01_Reader_Num.f k B at_ e 2) (f := fun k bt101 => (pouchref01_Reader_take.f bt101.2.1 bt101.2.2.1 bt101.2.2.2 (wrap64 bt101.1)).bind fun bt105 => some (bt105.1, bt105.2.2.1, bt105.2.2.2.1, bt105.2.2.2.2)) h1 (Ev.congr (f := fun _ => some _) (fun k => ?_) (Ev.now _)))
  dsimp only
  rw [w64 (by omega) (by omega), k1]
  rfl
end Go.Proofs.YtkmkgpigmldhnaaDoor.Pr
