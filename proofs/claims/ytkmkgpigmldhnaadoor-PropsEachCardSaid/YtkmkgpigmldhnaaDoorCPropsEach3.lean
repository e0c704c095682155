import Derived.BigQuiet
import Derived.Deep.QuietTactic
import Derived.Laws.RangeAny
import Derived.Laws.Runes
import Derived.Lib.OthersKept
import Derived.Test.YtkmkgpigmldhnaaDoorCPropsEach0
import Derived.Test.YtkmkgpigmldhnaaDoorCPropsEach1
import Derived.Test.YtkmkgpigmldhnaaDoorCPropsEach2
namespace Go.Proofs.YtkmkgpigmldhnaaDoor.P
open Go.RowKit Go.Shelf Go.Lib Go.Proofs.YtkmkgpigmldhnaaDoorW.PrintWords Go.Proofs.YtkmkgpigmldhnaaDoorW.PrintLast Go.Proofs.YtkmkgpigmldhnaaDoorW.PrintMore
open Go.Proofs.YtkmkgpigmldhnaaDoor.Rg
attribute [local go_sem] Oper.semAt_some
def TakeI (w0 w : World) (g h ho : Nat) (s2 : ByteArray) (pre : List EP) (W : World) : Prop :=
  W.heap[h]? = some (.cells #[.slice none 0 0] 27 (0, 0)) ∧ W.heap[h + 1]? = some (.cells #[.bool false] 4 (0, 0)) ∧
  (∃ v, W.heap[ho]? = some (.cells #[v] 27 (0, 0)) ∧ Kd.R k60 60 W w.heap.size (fun _ => True) v (pre.map (·.1))) ∧
  (∀ x ∈ pre, x.2 = true) ∧ Below w0.heap.size w0 W ∧ KeepBut w W g none ∧ IsS78 w0 W g s2 0
def TakeX (w0 w : World) (g h : Nat) (s2 : ByteArray) (pre : List EP) (W : World) : Prop :=
  W.heap[h]? = some (.cells #[.slice none 0 0] 27 (0, 0)) ∧ W.heap[h + 1]? = some (.cells #[.bool false] 4 (0, 0)) ∧
  (∃ x ∈ pre, x.2 = false) ∧ Below w0.heap.size w0 W ∧ KeepBut w W g none ∧ IsS78 w0 W g s2 0
theorem own_special {W W' : World} {base : Nat} {ok : Nat → Prop} {v : Value} {xs : List S60} {row : Option Nat} {T : Nat} (h : Kd.R k60 60 W base ok v xs) (hg : W.grownBy W' row) (hr : ∀ r, row = some r → ∃ o, W.heap[r]? = some o ∧ Sp T o) (hT : 60 ≠ T) : Kd.R k60 60 W' base ok v xs := by
  refine Kd.R_mono (Kd.R_move (Kd.R_bound h) (fun k hk => hg.block k hk.2.2.1 (fun e => ?_))) (fun _ hk => hk.1)
  obtain ⟨o, ho, hs⟩ := hr k e.symm
  obtain ⟨_, _, _, q, hq, cells, hc⟩ := hk
  rw [ho] at hc
  obtain rfl := Option.some.inj hc
  rcases hs with hs | ⟨cs, hs⟩
  · cases hs
  · injection hs with _ hs
    have : q = 60 := by
      rcases List.mem_cons.1 hq with h1 | h1
      · exact h1
      · have hE : k60.E = [] := rfl
        rw [hE] at h1; cases h1
    exact hT (this ▸ hs)
theorem keep_special {w W W' : World} {g B : Nat} {row : Option Nat} {T : Nat} (h : KeepBut w W g none) (hg : W.grownBy W' row) (hr : ∀ r, row = some r → B ≤ r ∧ ∃ o, W.heap[r]? = some o ∧ Sp T o) (hB : w.heap.size ≤ B) : KeepBut w W' g none :=
  ⟨Nat.le_trans h.1 hg.size, fun i hi hne _ => (hg.block i (Nat.lt_of_lt_of_le hi h.1) (fun e => by have := (hr i e.symm).1; omega)).trans (h.2 i hi hne (by simp))⟩
theorem box_cells (W : World) (t : TypeId) (x : S60) : ∀ (j : Nat) (u : Value), (encS x)[j]? = some u → (W.alloc (.cells #[.int .u8 x.f0, .int .u32 x.f1, .string x.f2, .string x.f3] t)).cell? ((⟨W.heap.size, 0, none⟩ : Addr).add j) = some u := by
  intro j u h
  rw [add_at, Nat.zero_add, blk_cell (heap_alloc_new W _) j]
  simpa [encS] using h
theorem own_more {W w1 : World} {base : Nat} {ok : Nat → Prop} {v1 : Value} {xs : List S60} {p : S60} {inner : List Value} (hr : Reps (k60.M W base ok) 4 xs inner) (h : w1.ownsRow base 60 4 v1 (xs.length + 1) (inner ++ encS p)) : Kd.R k60 60 w1 base (fun _ => True) v1 (xs ++ [p]) := by
  refine ⟨fun _ _ => trivial, inner ++ encS p, by rw [List.length_append]; exact h, ?_⟩
  exact (hr.imp_ (fun x c hM => by rw [k60_openM hM]; exact k60_mkM _ _ _ x)).snoc (k60_mkM _ _ _ p) rfl
theorem Kq.set {B T : Nat} {W : World} (p : Addr) (u : Value) (h : p.block < B) : Kq B T W (W.setCell p u) := fun k o hB ho _ => (Below.heap_setCell W p u k (by omega)).trans ho
theorem keep_set {w W : World} {g b j : Nat} {u : Value} (h : KeepBut w W g none) (hb : w.heap.size ≤ b) : KeepBut w (W.setCell ⟨b, j, none⟩ u) g none :=
  ⟨by simpa [World.setCell] using h.1, fun i hi hg hr => (Below.heap_setCell W ⟨b, j, none⟩ u i (by show i ≠ b; omega)).trans (h.2 i hi hg hr)⟩
theorem takeI_ab {w0 w : World} {g h ho B : Nat} {s2 : ByteArray} (pre : List EP) (hh : h + 1 < B) (hho : ho < B) (hgB : g < B) (hw : w.heap.size ≤ B) (hw0 : w0.heap.size ≤ B) : Ab B 78 (TakeI w0 w g h ho s2 pre) := by
  rintro W W' row ⟨h1, h2, ⟨v, h3, h4⟩, h5, h6, h7, h8⟩ hg hr
  have bl : ∀ k o, k < B → W.heap[k]? = some o → W'.heap[k]? = some o := fun k o hk hb => Ab.block (T := 78) o hk W W' row hb hg hr
  exact ⟨bl _ _ (by omega) h1, bl _ _ (by omega) h2, ⟨v, bl _ _ hho h3, own_special h4 hg (fun r e => (hr r e).2) (by decide)⟩, h5, h6.grown hg h6.size (fun r e => by have := (hr r e).1; omega), keep_special h7 hg hr hw, ⟨bl _ _ hgB h8.1, h8.2⟩⟩
theorem takeX_ab {w0 w : World} {g h B : Nat} {s2 : ByteArray} (pre : List EP) (hh : h + 1 < B) (hgB : g < B) (hw : w.heap.size ≤ B) (hw0 : w0.heap.size ≤ B) : Ab B 78 (TakeX w0 w g h s2 pre) := by
  rintro W W' row ⟨h1, h2, h5, h6, h7, h8⟩ hg hr
  have bl : ∀ k o, k < B → W.heap[k]? = some o → W'.heap[k]? = some o := fun k o hk hb => Ab.block (T := 78) o hk W W' row hb hg hr
  exact ⟨bl _ _ (by omega) h1, bl _ _ (by omega) h2, h5, h6.grown hg h6.size (fun r e => by have := (hr r e).1; omega), keep_special h7 hg hr hw, ⟨bl _ _ hgB h8.1, h8.2⟩⟩
theorem rest_at (t : ByteArray) : wire_Reader_Rest.f t 0 = some (t, t.extract t.size t.size, 0) := by
  have h : ¬ ((t.size : Int) < 0) := by omega
  unfold wire_Reader_Rest.f wire_Reader_Left.f wire_Reader_take.f wire_Reader_Err.f
  simp [h]
set_option maxHeartbeats 8000000 in
set_option maxRecDepth 1000000 in
theorem take_walk (k g : Nat) (s s1 t s2 : ByteArray) (n e0 e1 : Int) (ok : Bool) (L : List EP) (w0 w : World) (hG : GW w0) (hI : IsS78 w0 w g s e0) (hB : Below w0.heap.size w0 w)
    (hv : wire_Reader_Var.f k s e0 = some (n, s1, e1)) (ht : wire_Reader_take.f s1 e1 (wrap64 n) = some (t, ok, s2, 0)) (hL : EachL (strOfNums (bytesOf t)) L) (hl : L.length < 3518437208832) (hts : t.size < 140737488355328) :
    Calls Tryd.prog 17 #[.pointer (some ⟨g, 0, none⟩)] w fun e w' => ∃ v, e = .returned (.tuple #[v, .bool (L.all (·.2))]) ∧ IsS78 w0 w' g s2 0 ∧ Below w0.heap.size w0 w' ∧ KeepBut w w' g none ∧
      (L.all (·.2) = true → Kd.R k60 60 w' w.heap.size (fun _ => True) v (Srt.srt keyS (L.map (·.1)))) ∧ (L.all (·.2) = false → v = .slice none 0 0) := by
  have hu := Tryd.underlying60
  have he : ∀ w : World, (binOp BinOp.eql 32 (.pointer (some ⟨g, 0, none⟩)) (.pointer none)).run Tryd.prog w = .ok (.bool false) w := fun _ => by kernel_rfl
  have HGW := Aside0.mk hI.lt
  have HW0 := Aside0.mk hB.size
  have HV := Aside0.mk hv
  have HT := Aside0.mk ht
  have HG := Aside0.mk hG
  have HL := Aside0.mk hL
  have HI := Aside0.mk ((hI.alloc (.cells #[.slice none 0 0] 27)).alloc (.cells #[.bool false] 4))
  have HB := Aside0.mk (below_alloc (below_alloc hB (.cells #[.slice none 0 0] 27)) (.cells #[.bool false] 4))
  clear hv ht hG hL hI hB
  have hlen : (bytesOf t).length = t.size := bytesOf_length t
  have hmax : t.size ≤ 9223372036854775807 := by omega
  have kb := fun W => print_bytes (P := Tryd.prog) 9 25 5 Tryd.underlying9 Tryd.underlying25 Tryd.underlying5 t W
  refine (callsIn_wide (n := 9)).1 ?_
  refine callsIn_of_wp_marks Tryd.func17 rfl trivial ?_ rfl
  simp only [Tryd.ntmps17, List.size_toArray, List.length_cons, List.length_nil, Nat.reduceAdd, Nat.reduceSub, Array.replicate_succ, Array.replicate_zero, List.push_toArray, List.append_toArray, List.nil_append, List.cons_append]
  gi_wp2_with (first | (refine ⟨trivial, ?_⟩; gi_at_call 43; refine (callsIn_wide.2 (wire_Reader_Var.calls k g s e0 n s1 e1 w0 _ HI.out HB.out HV.out)).mono ?_; rintro e w1 ⟨rfl, hi, hb, hk⟩; have HI1 := Aside0.mk hi; have HB1 := Aside0.mk hb; have HK1 := Aside0.mk hk; clear hi hb hk) | (refine ⟨trivial, ?_⟩; gi_at_call 42; refine (callsIn_wide.2 (wire_Reader_Sub.calls g s1 e1 _ t ok s2 0 w0 _ HI1.out HB1.out HT.out)).mono ?_; rintro e w2 ⟨g2, rfl, hi, hi2, hg2, hb, hk⟩; have HI2 := Aside0.mk hi; have HJ2 := Aside0.mk hi2; have HB2 := Aside0.mk hb; have HK2 := Aside0.mk hk; have HG2 := Aside0.mk hg2; clear hi hi2 hb hk hg2) | (refine ⟨trivial, ?_⟩; gi_at_call 22; refine (callsIn_wide.2 (wire_Reader_Err.calls g s2 0 0 s2 0 w0 _ HI2.out HB2.out rfl)).mono ?_; rintro e w3 ⟨rfl, hi, hb, hk⟩; have HI3 := Aside0.mk hi; have HB3 := Aside0.mk hb; have HK3 := Aside0.mk hk; have HJ3 := Aside0.mk (show IsS78 w0 w3 g2 t 0 from ⟨hk.blk HJ2.out.1 (by have := HG2.out; have := HI1.out.lt; omega) (by simp), HJ2.out.2⟩); clear hi hb hk) | (refine ⟨trivial, ?_⟩; gi_at_call 45; refine (callsIn_wide.2 (wire_Reader_Rest.calls g2 t 0 t _ 0 w0 _ (HJ3.out.alloc _) (below_alloc HB3.out _) (rest_at t))).mono ?_; rintro e w4 ⟨rfl, hi, hb, hk⟩; have HJ4 := Aside0.mk hi; have HB4 := Aside0.mk hb; have HK4 := Aside0.mk hk; clear hi hb hk) | (refine ⟨trivial, ?_⟩; gi_at_call 44; rw [← hlen]; refine (callsIn_wide.2 (props_Each.calls _ _ (bytesOf t) _ (Kd.C_of_reads (d := (0 : Int)) (h1 := fun _ => rfl) (hlen ▸ bytes_reads w4 5 t hmax)) (by rw [hlen]; exact grownCap_ge _ _ _ _) (by rw [hlen]; omega))).mono ?_; rintro e w5 ⟨B5, A5, c5, rfl, hb5, hc5, hl5, hbel⟩; have HB5 := Aside0.mk hb5; have HC5 := Aside0.mk hc5; have HL5 := Aside0.mk hl5; have HBE := Aside0.mk hbel; clear hb5 hc5 hl5 hbel))
  -- what lies in w5
  have hgw := HGW.out
  have hg2 := HG2.out
  have hl1 := HI1.out.lt
  have hne : g2 ≠ g := by omega
  have hb5 := bytes_below (Below.refl w4.heap.size w4) (Nat.le_refl _) 5 t
  have sW : ((w.alloc (.cells #[.slice none 0 0] 27)).alloc (.cells #[.bool false] 4)).heap.size = w.heap.size + 2 := by
    show ((w.heap.push _).push _).size = _
    simp
  have s1' := HK1.out.1
  have s2' := HK2.out.1
  have s3' := HK3.out.1
  have s4' := HK4.out.1
  have sA : (w3.alloc (.cells #[.slice none 0 0] 27)).heap.size = w3.heap.size + 1 := by
    show (w3.heap.push _).size = _
    simp
  have s5' := hb5.size
  have s6' := HBE.out.size
  rw [sW] at s1'
  rw [sA] at s4'
  have eqs : ∀ k, k < w.heap.size + 2 → k ≠ g → k ≠ g2 → w5.heap[k]? = ((w.alloc (.cells #[.slice none 0 0] 27)).alloc (.cells #[.bool false] 4)).heap[k]? := fun k hk h1 h2 => by
    rw [HBE.out.block k (by omega), hb5.block k (by omega), HK4.out.2 k (by omega) h2 (by simp), Below.heap_alloc w3 _ k (by omega), HK3.out.2 k (by omega) h1 (by simp), HK2.out.2 k (by omega) h1 (by simp), HK1.out.2 k (by omega) h1 (by simp)]
  have hIw5 : TakeI w0 w g w.heap.size w3.heap.size s2 [] w5 := by
    refine ⟨(eqs _ (by omega) (by omega) (by omega)).trans (heap2_old w _ _), (eqs _ (by omega) (by omega) (by omega)).trans (heap_alloc2_new w _ _), ⟨.slice none 0 0, ?_, Kd.R_nil _ _ _ _ _⟩, fun x hx => (by cases hx), ?_, ⟨by omega, fun k hk h1 _ => ?_⟩, ?_, HI.out.2⟩
    · exact blk_below (blk_below (HK4.out.blk (heap_alloc_new w3 _) (by have := HJ3.out.lt; omega) (by simp)) hb5) HBE.out
    · exact below_step (bytes_below HB4.out HB4.out.size 5 t) HBE.out
    · rw [eqs k (by omega) h1 (by omega), Below.heap_alloc _ _ k (by show k < (w.heap.push _).size; simp; omega), Below.heap_alloc w _ k hk]
    · exact blk_below (blk_below (HK4.out.blk (blk_alloc HI3.out.1 _) (Ne.symm hne) (by simp)) hb5) HBE.out
  have hw5 : w.heap.size + 2 ≤ w5.heap.size := by omega
  have hgo : w3.heap.size < w5.heap.size := by omega
  have hw3 : w.heap.size + 2 ≤ w3.heap.size := by omega
  have hw0 := HW0.out
  have HI5 := Aside0.mk hIw5
  clear eqs hIw5 hb5 hl1 hg2 sW sA s1' s2' s3' s4' s5' s6'
  refine range_law (T := 78) (n₀ := w0.heap.size) (by omega) rfl (by omega) (gf := 72) (lb := #[.pointer (some ⟨B5, 0, none⟩)]) rfl trivial (enters_of Tryd.func72 (by kernel_rfl) rfl)
    (each_seq 8 B5 A5 c5 (bytesOf t) L w0 w5 HG.out HI5.out.2.2.2.2.1 HB5.out HC5.out HL5.out HL.out (by decide)) (Below.refl _ _) (fun _ => rfl)
    (TakeI w0 w g w.heap.size w3.heap.size s2) (TakeX w0 w g w.heap.size s2) (fun pre => takeI_ab pre (by omega) hgo (by omega) (by omega) (by omega)) (fun pre => takeX_ab pre (by omega) (by omega) (by omega) (by omega)) HI5.out ?round ?done ?stop
  case round =>
    rintro l rb pre x rest W hLe hlW ⟨rl, hrl⟩ hi
    have HI6 := Aside0.mk hi
    clear hi
    simp only [encP]
    have hlt := (Array.getElem?_eq_some_iff.1 hrl).1
    obtain ⟨P0, hP0⟩ : ∃ P0 : Obj, P0 = .cells #[.int .u8 x.1.f0, .int .u32 x.1.f1, .string x.1.f2, .string x.1.f3] 60 := ⟨_, rfl⟩
    have hlA : (W.alloc P0).heap[l]? = some (.loop rl) := blk_alloc hrl _
    have hp1 : ((W.alloc P0).putObj l (.loop rb)).heap[W.heap.size]? = some P0 := (World.putObj_heap_other (by omega)).trans (heap_alloc_new W _)
    have abI : Ab w5.heap.size 78 (TakeI w0 w g w.heap.size w3.heap.size s2 pre) := takeI_ab pre (by omega) hgo (by omega) (by omega) (by omega)
    have hi1 : TakeI w0 w g w.heap.size w3.heap.size s2 pre ((W.alloc P0).putObj l (.loop rb)) := abI.put _ (abI.alloc P0 HI6.out) hlW hlA (.inl rfl)
    have hkq : Kq w5.heap.size 78 W (W.alloc P0) := fun k o _ ho _ => blk_alloc ho _
    have hbl : Below w0.heap.size W (W.alloc P0) := (Below.refl _ W).alloc (by have := HI6.out.2.2.2.2.1.size; omega) _
    have HP1 := Aside0.mk hp1
    have HI7 := Aside0.mk hi1
    have HKQ := Aside0.mk hkq
    have HBL := Aside0.mk hbl
    clear hp1 hi1 hkq hbl abI hlA
    gi_wp2
    rw [← hP0]
    refine ⟨HKQ.out, HBL.out, ?_⟩
    generalize (W.alloc P0).putObj l (.loop rb) = W1 at HP1 HI7 ⊢
    rw [hP0] at HP1
    clear HKQ HBL HI6 hP0
    obtain ⟨i1, i2, ⟨v, i3, i4⟩, i5, i6, i7, i8⟩ := HI7.out
    obtain ⟨xp, xo⟩ := x
    have c1 := blk_cell i1 0
    have c2 := blk_cell i2 0
    have c3 := blk_cell i3 0
    have f1 := blk_frozen i1 0
    have f2 := blk_frozen i2 0
    have f3 := blk_frozen i3 0
    have p0 : W1.cell? ⟨W.heap.size, 0, none⟩ = some (.int .u8 xp.f0) := (blk_cell HP1.out 0).trans rfl
    have p1 : W1.cell? ⟨W.heap.size, 1, none⟩ = some (.int .u32 xp.f1) := (blk_cell HP1.out 1).trans rfl
    have p2 : W1.cell? ⟨W.heap.size, 2, none⟩ = some (.string xp.f2) := (blk_cell HP1.out 2).trans rfl
    have p3 : W1.cell? ⟨W.heap.size, 3, none⟩ = some (.string xp.f3) := (blk_cell HP1.out 3).trans rfl
    simp at c1 c2 c3
    have J1 := Aside0.mk i1
    have J2 := Aside0.mk i2
    have J3 := Aside0.mk i3
    have J4 := Aside0.mk i4
    have J5 := Aside0.mk i5
    have J6 := Aside0.mk i6
    have J7 := Aside0.mk i7
    have J8 := Aside0.mk i8
    clear i1 i2 i3 i4 i5 i6 i7 i8 HI7
    cases xo with
    | false =>
      gi_wp2
      refine ⟨(Kq.set _ _ (by show w.heap.size < _; omega)).trans (Kq.set _ _ (by show w.heap.size + 1 < _; omega)), ?_⟩
      refine ⟨blk_far (blk_put J1.out 0 _ rfl) (by show w.heap.size ≠ w.heap.size + 1; omega) _, blk_put (blk_far J2.out (by show w.heap.size + 1 ≠ w.heap.size; omega) _) 0 _ rfl, ⟨(xp, false), by simp, rfl⟩, below_set (below_set J6.out hw0) (by omega), ?_, ?_⟩
      · exact keep_set (keep_set J7.out (Nat.le_refl _)) (by omega)
      · exact (J8.out.far (by show g ≠ w.heap.size; omega) _).far (by show g ≠ w.heap.size + 1; omega) _
    | true =>
      obtain ⟨i0, hi, hz0, hz1, hz2⟩ := info_parts info60
      obtain ⟨_, inner, hown, hreps⟩ := J4.out
      have hne3 : some w3.heap.size ≠ v.ownBlock := Kd.R_ne J4.out J3.out (by decide)
      have hplen : pre.length < 3518437208832 := by have := congrArg List.length hLe; simp at this; omega
      have HOWN := Aside0.mk hown
      have HREP := Aside0.mk hreps
      clear hown hreps
      gi_wp2_with (gi_at_builtin; refine Hold.out ?_)
      refine ⟨?_⟩
      refine wpListIn_append_own _ rfl _ _ 27 rfl w.heap.size 60 i0 (.agg #[(.int .u8 0), (.int .u32 0), (.string ⟨#[]⟩), (.string ⟨#[]⟩)]) 4 40 Tryd.underlying27 hi hz0 hz1 hz2 rfl (by decide) v (pre.map (·.1)).length inner rfl (HOWN.out.alloc _) ⟨W1.heap.size, 0, none⟩ 1 1 (encS xp) rfl rfl (box_cells W1 60 xp) (encS_one xp) ?b1 ?b2 ?b3 ?_
      case b1 => simp [maxLen]; omega
      case b2 => simp; omega
      case b3 => have := J7.out.1; rw [World.size_alloc]; omega
      intro v' w1' hown' hgrow hnil
      have ho' := own_more HREP.out hown'
      obtain ⟨A', c', rfl⟩ := Kd.R_slice ho'
      have hb3 := blk_grown (blk_alloc J3.out _) hgrow hne3
      have HO' := Aside0.mk ho'
      have HB3 := Aside0.mk hb3
      have HGR := Aside0.mk hgrow
      have hcc := blk_cell hb3 0
      have hff := blk_frozen hb3 0
      simp at hcc
      clear hown' hgrow hnil ho' hb3
      gi_wp2
      have hrow : ∀ k, v.ownBlock = some k → w.heap.size ≤ k ∧ ∃ cells, W1.heap[k]? = some (.cells cells 60 (0, 0)) := fun k hk => ⟨own_base HOWN.out k hk, own_typed HOWN.out k hk⟩
      have ne_of : ∀ k o, W1.heap[k]? = some o → (∀ cells, o ≠ .cells cells 60 (0, 0)) → some k ≠ v.ownBlock := fun k o ho hn e => by
        obtain ⟨_, cells, hc⟩ := hrow k e.symm
        rw [ho] at hc
        exact hn cells (Option.some.inj hc)
      have carry : ∀ k o, W1.heap[k]? = some o → some k ≠ v.ownBlock → k ≠ w3.heap.size → (w1'.setCell ⟨w3.heap.size, 0, none⟩ (.slice A' (pre.length + 1) c')).heap[k]? = some o := fun k o ho h1 h2 =>
        (Below.heap_setCell w1' ⟨w3.heap.size, 0, none⟩ _ k h2).trans (blk_grown (blk_alloc ho _) HGR.out h1)
      have hbb : ∀ (B : Nat) (u : World), Below B u W1 → B ≤ w.heap.size → B ≤ W1.heap.size → Below B u (w1'.setCell ⟨w3.heap.size, 0, none⟩ (.slice A' (pre.length + 1) c')) := fun B u h h1 h2 =>
        ((h.alloc h2 _).grown HGR.out (by rw [World.size_alloc]; omega) (fun k hk => by have := (hrow k hk).1; omega)).setCell (p := ⟨w3.heap.size, 0, none⟩) (by show B ≤ w3.heap.size; omega) _
      have sv : (pre.map (·.1) ++ [xp]).length = pre.length + 1 := by simp
      refine ⟨fun k o hB ho hs => carry k o ho (ne_of k o ho (fun cells e => ?_)) (by omega), hbb _ W1 (Below.refl _ _) hw0 J6.out.size, carry _ _ J1.out (ne_of _ _ J1.out (fun _ e => by cases e)) (by omega), carry _ _ J2.out (ne_of _ _ J2.out (fun _ e => by cases e)) (by omega), ⟨.slice A' (pre.length + 1) c', blk_put HB3.out 0 _ rfl, ?_⟩, ?_, hbb _ w0 J6.out hw0 J6.out.size, ⟨?_, ?_⟩, ?_⟩
      · subst e
        rcases hs with hs | ⟨_, hs⟩
        · cases hs
        · cases hs
      · have := HO'.out
        rw [sv] at this
        rw [List.map_append]
        exact Kd.R_set this HB3.out (by decide) 0 _
      · intro y hy
        rcases List.mem_append.1 hy with hy | hy
        · exact J5.out y hy
        · simp at hy; subst hy; rfl
      · have := J7.out.1
        have := HGR.out.size
        rw [World.size_alloc] at this
        simp [World.setCell]; omega
      · intro k hk hne _
        rw [Below.heap_setCell w1' ⟨w3.heap.size, 0, none⟩ _ k (by show k ≠ w3.heap.size; omega), HGR.out.block k (by rw [World.size_alloc]; have := J7.out.1; omega) (fun e => by have := (hrow k e.symm).1; omega), Below.heap_alloc W1 _ k (by have := J7.out.1; omega)]
        exact J7.out.2 k hk hne (by simp)
      · exact ⟨carry _ _ J8.out.1 (ne_of _ _ J8.out.1 (fun _ e => by cases e)) (by omega), J8.out.2⟩
  case stop =>
    rintro D pre rest W hD hLe ⟨i1, i2, i3, i4, i5, i6⟩ hK
    gi_wp2
    refine ⟨by simp, .inl ⟨_, _, rfl, run_takeDeferred hK, ?_⟩⟩
    have hD2 : D ≠ w.heap.size ∧ D ≠ w.heap.size + 1 ∧ D ≠ g := by omega
    have b1 : (W.putObj D (.deferred none)).heap[w.heap.size]? = _ := (World.putObj_heap_other (Ne.symm hD2.1)).trans i1
    have b2 : (W.putObj D (.deferred none)).heap[w.heap.size + 1]? = _ := (World.putObj_heap_other (Ne.symm hD2.2.1)).trans i2
    have c1 : (W.putObj D (.deferred none)).cell? ⟨w.heap.size, 0, none⟩ = some (.slice none 0 0) := (blk_cell b1 0).trans rfl
    have c2 : (W.putObj D (.deferred none)).cell? ⟨w.heap.size + 1, 0, none⟩ = some (.bool false) := (blk_cell b2 0).trans rfl
    refine ⟨.tuple #[.slice none 0 0, .bool false], ?_, ?_⟩
    · simp [results, Tryd.f17, go_sem, c1, c2]
    · have hall : L.all (·.2) = false := by
        obtain ⟨x, hx, hx2⟩ := i3
        rw [List.all_eq_false]
        exact ⟨x, by rw [hLe]; simp [hx], by simp [hx2]⟩
      rw [hall]
      refine ⟨_, rfl, ⟨(World.putObj_heap_other (Ne.symm hD2.2.2)).trans i6.1, i6.2⟩, i4.grown (grownBy_putObj' W D _) i4.size (fun k e => by cases e; omega), ⟨by have := i5.1; simpa using this, fun k hk h1 h2 => (World.putObj_heap_other (by omega)).trans (i5.2 k hk h1 h2)⟩, fun h => (by cases h), fun _ => rfl⟩
  case done =>
    rintro D W hD ⟨i1, i2, ⟨v, i3, i4⟩, i5, i6, i7, i8⟩ hK
    obtain ⟨A, c, rfl, hl4, hc4⟩ := Kd.R_reads i4
    have hlen4 : (L.map (·.1)).length < 3518437208832 := by simpa using hl
    obtain ⟨ps, hps⟩ : ∃ ps, L.map (·.1) = ps := ⟨_, rfl⟩
    rw [hps] at hl4 hc4 hlen4 i3 i4
    have HPS := Aside0.mk hps
    clear hps
    have HF := Aside0.mk (show props_Sort.f ps = some (Srt.srt keyS ps) by unfold props_Sort.f; rw [if_pos hlen4])
    have HC4 := Aside0.mk hc4
    have HL4 := Aside0.mk hl4
    have J1 := Aside0.mk i1
    have J2 := Aside0.mk i2
    have J5 := Aside0.mk i5
    have J6 := Aside0.mk i6
    have J7 := Aside0.mk i7
    have J8 := Aside0.mk i8
    have JK := Aside0.mk hK
    have c3 : W.cell? ⟨w3.heap.size, 0, none⟩ = some (.slice A ps.length c) := (blk_cell i3 0).trans rfl
    clear i1 i2 i3 i4 i5 i6 i7 i8 hK hc4 hl4
    gi_wp2_with (refine ⟨trivial, ?_⟩; gi_at_call 29; refine (callsIn_wide.2 (props_Sort.calls A c ps _ W HC4.out HL4.out HF.out)).mono ?_; rintro e w6 ⟨v6, rfl, ho6, hb6⟩; obtain ⟨A6, c6, rfl⟩ := Kd.R_slice ho6; have HO6 := Aside0.mk ho6; have HB6 := Aside0.mk hb6; have q1 := blk_below J1.out hb6; have q2 := blk_below J2.out hb6; have d1 : w6.cell? ⟨w.heap.size, 0, none⟩ = some (.slice none 0 0) := (blk_cell q1 0).trans rfl; have d2 : w6.cell? ⟨w.heap.size + 1, 0, none⟩ = some (.bool false) := (blk_cell q2 0).trans rfl; have g1 := blk_frozen q1 0; have g2' := blk_frozen q2 0; have Q1 := Aside0.mk q1; have Q2 := Aside0.mk q2; clear ho6 hb6 q1 q2)
    obtain ⟨V6, hV6⟩ : ∃ V6 : Value, V6 = .slice A6 (Srt.srt keyS ps).length c6 := ⟨_, rfl⟩
    rw [← hV6]
    have hO6 := HO6.out
    rw [← hV6] at hO6
    have hW6 := HB6.out.size
    have hlt6 : D < W.heap.size := (Array.getElem?_eq_some_iff.1 JK.out).1
    have r1 : ((w6.setCell ⟨w.heap.size, 0, none⟩ V6).setCell ⟨w.heap.size + 1, 0, none⟩ (.bool true)).heap[w.heap.size]? = some (.cells #[V6] 27 (0, 0)) := blk_far (blk_put Q1.out 0 _ rfl) (by show w.heap.size ≠ w.heap.size + 1; omega) _
    have r2 : ((w6.setCell ⟨w.heap.size, 0, none⟩ V6).setCell ⟨w.heap.size + 1, 0, none⟩ (.bool true)).heap[w.heap.size + 1]? = some (.cells #[.bool true] 4 (0, 0)) := blk_put (blk_far Q2.out (by show w.heap.size + 1 ≠ w.heap.size; omega) _) 0 _ rfl
    have rD : ((w6.setCell ⟨w.heap.size, 0, none⟩ V6).setCell ⟨w.heap.size + 1, 0, none⟩ (.bool true)).heap[D]? = some (.deferred (some [])) := by
      rw [Below.heap_setCell _ ⟨w.heap.size + 1, 0, none⟩ _ D (by show D ≠ w.heap.size + 1; omega), Below.heap_setCell _ ⟨w.heap.size, 0, none⟩ _ D (by show D ≠ w.heap.size; omega), HB6.out.block D hlt6]
      exact JK.out
    refine ⟨by simp, .inl ⟨_, _, rfl, run_takeDeferred rD, ?_⟩⟩
    have hD2 : D ≠ w.heap.size ∧ D ≠ w.heap.size + 1 ∧ D ≠ g := by omega
    have ho8 : Kd.R k60 60 ((w6.setCell ⟨w.heap.size, 0, none⟩ V6).setCell ⟨w.heap.size + 1, 0, none⟩ (.bool true)) W.heap.size (fun _ => True) V6 (Srt.srt keyS ps) :=
      Kd.R_set (Kd.R_set hO6 Q1.out (by decide) 0 _) (blk_far Q2.out (by show w.heap.size + 1 ≠ w.heap.size; omega) _) (by decide) 0 _
    have ho9 := own_special (T := 78) ho8 (grownBy_putObj' _ D (.deferred none)) (fun r e => by cases e; exact ⟨_, rD, .inl rfl⟩) (by decide)
    have hB9 : Below w0.heap.size w0 (((w6.setCell ⟨w.heap.size, 0, none⟩ V6).setCell ⟨w.heap.size + 1, 0, none⟩ (.bool true)).putObj D (.deferred none)) := by
      refine Below.grown (below_set (below_set (below_step J6.out HB6.out) hw0) (by omega)) (grownBy_putObj' _ D _) ?_ (fun k e => by cases e; omega)
      have := J6.out.size
      simp [World.setCell]; omega
    have b1 : (((w6.setCell ⟨w.heap.size, 0, none⟩ V6).setCell ⟨w.heap.size + 1, 0, none⟩ (.bool true)).putObj D (.deferred none)).heap[w.heap.size]? = _ := (World.putObj_heap_other (Ne.symm hD2.1)).trans r1
    have b2 : (((w6.setCell ⟨w.heap.size, 0, none⟩ V6).setCell ⟨w.heap.size + 1, 0, none⟩ (.bool true)).putObj D (.deferred none)).heap[w.heap.size + 1]? = _ := (World.putObj_heap_other (Ne.symm hD2.2.1)).trans r2
    have c1 := (blk_cell b1 0).trans (rfl : _ = some V6)
    have c2 := (blk_cell b2 0).trans (rfl : _ = some (Value.bool true))
    have hall : L.all (·.2) = true := List.all_eq_true.2 (fun x hx => J5.out x hx)
    refine ⟨.tuple #[V6, .bool true], ?_, ?_⟩
    · simp [results, Tryd.f17, go_sem, c1, c2]
    · rw [hall, HPS.out]
      refine ⟨_, rfl, ?_, hB9, ?_, fun _ => Kd.R_lower ho9 (by have := J7.out.1; omega), fun h => (by cases h)⟩
      · refine ⟨(World.putObj_heap_other (Ne.symm hD2.2.2)).trans ?_, J8.out.2⟩
        rw [Below.heap_setCell _ ⟨w.heap.size + 1, 0, none⟩ _ g (by show g ≠ w.heap.size + 1; omega), Below.heap_setCell _ ⟨w.heap.size, 0, none⟩ _ g (by show g ≠ w.heap.size; omega)]
        exact blk_below J8.out.1 HB6.out
      · refine ⟨by have := J7.out.1; simp [World.setCell]; omega, fun k hk h1 _ => ?_⟩
        rw [World.putObj_heap_other (by omega), Below.heap_setCell _ ⟨w.heap.size + 1, 0, none⟩ _ k (by show k ≠ w.heap.size + 1; omega), Below.heap_setCell _ ⟨w.heap.size, 0, none⟩ _ k (by show k ≠ w.heap.size; omega), HB6.out.block k (by have := J7.out.1; omega)]
        exact J7.out.2 k hk h1 (by simp)
set_option maxHeartbeats 4000000 in
set_option maxRecDepth 1000000 in
theorem take_fail (k g : Nat) (s s1 t s2 : ByteArray) (n e0 e1 e2 : Int) (ok : Bool) (w0 w : World) (hI : IsS78 w0 w g s e0) (hB : Below w0.heap.size w0 w)
    (hv : wire_Reader_Var.f k s e0 = some (n, s1, e1)) (ht : wire_Reader_take.f s1 e1 (wrap64 n) = some (t, ok, s2, e2)) (he2 : e2 ≠ 0) :
    Calls Tryd.prog 17 #[.pointer (some ⟨g, 0, none⟩)] w fun e w' => e = .returned (.tuple #[.slice none 0 0, .bool false]) ∧ IsS78 w0 w' g s2 e2 ∧ Below w0.heap.size w0 w' ∧ KeepBut w w' g none := by
  have he : ∀ w : World, (binOp BinOp.eql 32 (.pointer (some ⟨g, 0, none⟩)) (.pointer none)).run Tryd.prog w = .ok (.bool false) w := fun _ => by kernel_rfl
  have hneq : (e2 != 0) = true := bne_iff_ne.2 he2
  have HGW := Aside0.mk hI.lt
  have HW0 := Aside0.mk hB.size
  have HV := Aside0.mk hv
  have HT := Aside0.mk ht
  have HI := Aside0.mk ((hI.alloc (.cells #[.slice none 0 0] 27)).alloc (.cells #[.bool false] 4))
  have HB := Aside0.mk (below_alloc (below_alloc hB (.cells #[.slice none 0 0] 27)) (.cells #[.bool false] 4))
  clear hv ht hI hB
  go_enter Tryd.func17, Tryd.ntmps17
  go_wp2_with (first | (go_at_call 43; refine (wire_Reader_Var.calls k g s e0 n s1 e1 w0 _ HI.out HB.out HV.out).mono ?_; rintro e w1 ⟨rfl, hi, hb, hk⟩; have HI1 := Aside0.mk hi; have HB1 := Aside0.mk hb; have HK1 := Aside0.mk hk; clear hi hb hk) | (go_at_call 42; refine (wire_Reader_Sub.calls g s1 e1 _ t ok s2 e2 w0 _ HI1.out HB1.out HT.out).mono ?_; rintro e w2 ⟨g2, rfl, hi, hi2, hg2, hb, hk⟩; have HI2 := Aside0.mk hi; have HB2 := Aside0.mk hb; have HK2 := Aside0.mk hk; clear hi hi2 hb hk hg2) | (go_at_call 22; refine (wire_Reader_Err.calls g s2 e2 e2 s2 e2 w0 _ HI2.out HB2.out rfl).mono ?_; rintro e w3 ⟨rfl, hi, hb, hk⟩; have HI3 := Aside0.mk hi; have HB3 := Aside0.mk hb; have HK3 := Aside0.mk hk; have q1 := hk.blk (HK2.out.blk (HK1.out.blk (heap2_old w (.cells #[.slice none 0 0] 27) (.cells #[.bool false] 4)) (by have := HGW.out; omega) (by simp)) (by have := HGW.out; omega) (by simp)) (by have := HGW.out; omega) (by simp); have q2 := hk.blk (HK2.out.blk (HK1.out.blk (heap_alloc2_new w (.cells #[.slice none 0 0] 27) (.cells #[.bool false] 4)) (by have := HGW.out; omega) (by simp)) (by have := HGW.out; omega) (by simp)) (by have := HGW.out; omega) (by simp); have d1 : w3.cell? ⟨w.heap.size, 0, none⟩ = some (.slice none 0 0) := (blk_cell q1 0).trans rfl; have d2 : w3.cell? ⟨w.heap.size + 1, 0, none⟩ = some (.bool false) := (blk_cell q2 0).trans rfl; have f1 := blk_frozen q1 0; have f2 := blk_frozen q2 0; have Q1 := Aside0.mk q1; have Q2 := Aside0.mk q2; clear hi hb hk q1 q2))
  have hgw := HGW.out
  have hw0 := HW0.out
  have r1 : ((w3.setCell ⟨w.heap.size, 0, none⟩ (.slice none 0 0)).setCell ⟨w.heap.size + 1, 0, none⟩ (.bool false)).heap[w.heap.size]? = some (.cells #[.slice none 0 0] 27 (0, 0)) := blk_far (blk_put Q1.out 0 _ rfl) (by show w.heap.size ≠ w.heap.size + 1; omega) _
  have r2 : ((w3.setCell ⟨w.heap.size, 0, none⟩ (.slice none 0 0)).setCell ⟨w.heap.size + 1, 0, none⟩ (.bool false)).heap[w.heap.size + 1]? = some (.cells #[.bool false] 4 (0, 0)) := blk_put (blk_far Q2.out (by show w.heap.size + 1 ≠ w.heap.size; omega) _) 0 _ rfl
  have c1 := (blk_cell r1 0).trans (rfl : _ = some (Value.slice none 0 0))
  have c2 := (blk_cell r2 0).trans (rfl : _ = some (Value.bool false))
  have kw : KeepBut w ((w.alloc (.cells #[.slice none 0 0] 27)).alloc (.cells #[.bool false] 4)) g none := keep_alloc (keep_alloc (KeepBut.refl w g none) _) _
  refine bodyPost_ret (v := .tuple #[.slice none 0 0, .bool false]) (by simp [results, Tryd.f17, go_sem, c1, c2]) rfl ?_
  exact ⟨rfl, (HI3.out.far (by show g ≠ w.heap.size; omega) _).far (by show g ≠ w.heap.size + 1; omega) _, below_set (below_set HB3.out hw0) (by omega), keep_set (keep_set (((kw.trans HK1.out (.inl rfl)).trans HK2.out (.inl rfl)).trans HK3.out (.inl rfl)) (Nat.le_refl _)) (by omega)⟩
def eachF : Nat → ByteArray → Option (List EP)
  | 0, _ => none
  | k + 1, s => if s.size = 0 then some [] else (props_next.f k s 0).bind fun p => if p.2.2.2.2.1 = true then (if p.2.2.2.2.2.2 = 0 then (eachF k p.2.2.2.2.2.1).bind fun L => some ((⟨p.1, p.2.1, p.2.2.1, p.2.2.2.1⟩, true) :: L) else none) else some [(⟨p.1, p.2.1, p.2.2.1, p.2.2.2.1⟩, false)]
theorem eachF.mono : ∀ k s, LeO (eachF k s) (eachF (k + 1) s)
  | 0, _ => LeO.none _
  | k + 1, s => by
    unfold eachF
    refine LeO.ite (LeO.refl _) (LeO.bind (props_next.mono _ _ _) fun p => LeO.ite (LeO.ite (LeO.bind (eachF.mono k _) fun _ => LeO.refl _) (LeO.refl _)) (LeO.refl _))
theorem eachF_L : ∀ k s L, eachF k s = some L → EachL s L
  | 0, _, _, h => by cases h
  | k + 1, s, L, h => by
    unfold eachF at h
    by_cases h0 : s.size = 0
    · rw [if_pos h0] at h
      obtain rfl := Option.some.inj h
      exact .done s h0
    · rw [if_neg h0] at h
      obtain ⟨⟨a, b, c, d, ok, s', e⟩, hn, h⟩ := Option.bind_eq_some_iff.mp h
      dsimp only at h
      by_cases h1 : ok = true
      · subst h1
        rw [if_pos rfl] at h
        by_cases h2 : e = 0
        · subst h2
          rw [if_pos rfl] at h
          obtain ⟨L', hl, h⟩ := Option.bind_eq_some_iff.mp h
          obtain rfl := Option.some.inj h
          exact .step s k ⟨a, b, c, d⟩ s' L' (by omega) hn (eachF_L k s' L' hl)
        · rw [if_neg h2] at h; cases h
      · rw [if_neg h1] at h
        obtain rfl := Option.some.inj h
        have hf : ok = false := by simpa using h1
        subst hf
        exact .stop s k ⟨a, b, c, d⟩ s' e (by omega) hn
def props_Take.f (k : Nat) (s0_0 : ByteArray) (s0_1 : Int) : Option (List S60 × Bool × ByteArray × Int) :=
  (wire_Reader_Var.f k s0_0 s0_1).bind fun p => (wire_Reader_take.f p.2.1 p.2.2 (wrap64 p.1)).bind fun q => if q.2.2.2 = 0 then (if q.1.size < 140737488355328 then ((eachF k (strOfNums (bytesOf q.1))).bind fun L => if L.length < 3518437208832 then (if L.all (·.2) = true then some (Srt.srt keyS (L.map (·.1)), true, q.2.2.1, 0) else some ([], false, q.2.2.1, 0)) else none) else none) else some ([], false, q.2.2.1, q.2.2.2)
theorem props_Take.mono : ∀ a0 a1 k, LeO (props_Take.f k a0 a1) (props_Take.f (k + 1) a0 a1) := by
  intro a0 a1 k
  unfold props_Take.f
  exact LeO.bind (wire_Reader_Var.mono _ _ _) fun p => LeO.bind (LeO.refl _) fun q => LeO.ite (LeO.ite (LeO.bind (eachF.mono _ _) fun _ => LeO.refl _) (LeO.refl _)) (LeO.refl _)
theorem props_Take.calls (k g : Nat) (s0_0 : ByteArray) (s0_1 : Int) (r1 : List S60) (r2 : Bool) (r3 : ByteArray) (r4 : Int) (w0 w : World) (hI : IsS78 w0 w g s0_0 s0_1) (hB : Below w0.heap.size w0 w) (hG : GW w0) (h : props_Take.f k s0_0 s0_1 = some (r1, r2, r3, r4)) :
    Calls Tryd.prog 17 #[.pointer (some ⟨g, 0, none⟩)] w fun e w' => ∃ v0_ : Value, e = .returned (.tuple #[v0_, .bool r2]) ∧ Kd.R k60 60 w' w.heap.size (fun _ => True) v0_ r1 ∧ IsS78 w0 w' g r3 r4 ∧ Below w0.heap.size w0 w' ∧ KeepBut w w' g none := by
  unfold props_Take.f at h
  obtain ⟨⟨n, s1, e1⟩, hv, h⟩ := Option.bind_eq_some_iff.mp h
  obtain ⟨⟨t, ok, s2, e2⟩, ht, h⟩ := Option.bind_eq_some_iff.mp h
  dsimp only at h ht
  by_cases he : e2 = 0
  · subst he
    rw [if_pos rfl] at h
    by_cases hts : t.size < 140737488355328
    · rw [if_pos hts] at h
      obtain ⟨L, hL, h⟩ := Option.bind_eq_some_iff.mp h
      by_cases hl : L.length < 3518437208832
      · rw [if_pos hl] at h
        refine (take_walk k g s0_0 s1 t s2 n s0_1 e1 ok L w0 w hG hI hB hv ht (eachF_L _ _ _ hL) hl hts).mono ?_
        rintro e w' ⟨v, rfl, hi, hb, hk, h1, h2⟩
        by_cases ha : L.all (·.2) = true
        · rw [if_pos ha] at h
          have h3 := Option.some.inj h
          simp only [Prod.mk.injEq] at h3
          obtain ⟨rfl, rfl, rfl, rfl⟩ := h3
          exact ⟨v, by rw [ha], h1 ha, hi, hb, hk⟩
        · rw [if_neg ha] at h
          have h3 := Option.some.inj h
          simp only [Prod.mk.injEq] at h3
          obtain ⟨rfl, rfl, rfl, rfl⟩ := h3
          have ha' : L.all (·.2) = false := by simpa using ha
          exact ⟨v, by rw [ha'], by rw [h2 ha']; exact Kd.R_nil _ _ _ _ _, hi, hb, hk⟩
      · rw [if_neg hl] at h; cases h
    · rw [if_neg hts] at h; cases h
  · rw [if_neg he] at h
    have h3 := Option.some.inj h
    simp only [Prod.mk.injEq] at h3
    obtain ⟨rfl, rfl, rfl, rfl⟩ := h3
    refine (take_fail k g s0_0 s1 t s2 n s0_1 e1 e2 ok w0 w hI hB hv ht he).mono ?_
    rintro e w' ⟨rfl, hi, hb, hk⟩
    exact ⟨_, rfl, Kd.R_nil _ _ _ _ _, hi, hb, hk⟩
end Go.Proofs.YtkmkgpigmldhnaaDoor.P

namespace Go.Proofs.YtkmkgpigmldhnaaDoor.P
open Go.RowKit Go.Proofs.YtkmkgpigmldhnaaDoorW.PrintWords Go.Proofs.YtkmkgpigmldhnaaDoorW.PrintLast Go.Proofs.YtkmkgpigmldhnaaDoorW.PrintMore
attribute [local go_sem] max2_int min2_int max_two min_two max_three min_three max_four min_four
set_option linter.unusedVariables false
set_option linter.unusedSimpArgs false
structure S58 where
  f0 : Int
  f1 : Int
  f2 : ByteArray
  f3 : ByteArray
def z58 : S58 := ⟨(0 : Int), (0 : Int), (⟨#[]⟩ : ByteArray), (⟨#[]⟩ : ByteArray)⟩
def k58 : Kd S58 := Kd.iso (Kd.pair (Kd.int .u8) (Kd.pair (Kd.int .u32) (Kd.pair Kd.string Kd.string))) (fun x : S58 => (x.f0, x.f1, x.f2, x.f3))
theorem k58_open {w : World} {x : S58} {cs : List Value} (h : k58.K w x cs) : cs = [.int .u8 x.f0, .int .u32 x.f1, .string x.f2, .string x.f3] := by
  obtain ⟨_, _, rfl, rfl, ⟨_, _, rfl, rfl, ⟨_, _, rfl, rfl, rfl⟩⟩⟩ := h
  exact rfl
theorem k58_openM {w : World} {base : Nat} {ok : Nat → Prop} {x : S58} {cs : List Value} (h : k58.M w base ok x cs) : cs = [.int .u8 x.f0, .int .u32 x.f1, .string x.f2, .string x.f3] := by
  obtain ⟨_, _, rfl, rfl, ⟨_, _, rfl, rfl, ⟨_, _, rfl, rfl, rfl⟩⟩⟩ := h
  exact rfl
theorem k58_mkM (w : World) (base : Nat) (ok : Nat → Prop) (x : S58)  : k58.M w base ok x [.int .u8 x.f0, .int .u32 x.f1, .string x.f2, .string x.f3] := ⟨[.int .u8 x.f0], [.int .u32 x.f1, .string x.f2, .string x.f3], rfl, rfl, ⟨[.int .u32 x.f1], [.string x.f2, .string x.f3], rfl, rfl, ⟨[.string x.f2], [.string x.f3], rfl, rfl, rfl⟩⟩⟩
def rd_T58 (xs : List S58) (i : Int) : S58 := xs.getD i.toNat z58
theorem at_T58 {w : World} {A : Option Addr} {n : Nat} {xs : List S58} (h : Kd.C k58 w A n xs) (i : Int) (h0 : 0 ≤ i) (h1 : i < n) : ∃ ad , A = some ad ∧ w.cell? (ad.add (i.toNat * 4)) = some (.int .u8 (rd_T58 xs i).f0) ∧ w.cell? ⟨(ad.add (i.toNat * 4)).block, (ad.add (i.toNat * 4)).off + 1, none⟩ = some (.int .u32 (rd_T58 xs i).f1) ∧ w.cell? ⟨(ad.add (i.toNat * 4)).block, (ad.add (i.toNat * 4)).off + 2, none⟩ = some (.string (rd_T58 xs i).f2) ∧ w.cell? ⟨(ad.add (i.toNat * 4)).block, (ad.add (i.toNat * 4)).off + 3, none⟩ = some (.string (rd_T58 xs i).f3) := by
  obtain ⟨ad, c, e, _, hK, hc0⟩ := Kd.C_get h z58 i h0 h1
  have hc : ∀ j u, c[j]? = some u → w.cell? (ad.add (i.toNat * 4 + j)) = some u := hc0
  obtain rfl := k58_open hK
  exact ⟨ad, e, hc 0 _ rfl, by rw [← add_field _ _ 1 (by omega)]; exact hc 1 _ rfl, by rw [← add_field _ _ 2 (by omega)]; exact hc 2 _ rfl, by rw [← add_field _ _ 3 (by omega)]; exact hc 3 _ rfl⟩
end Go.Proofs.YtkmkgpigmldhnaaDoor.P

namespace Go.Proofs.YtkmkgpigmldhnaaDoor.P
open Go.RowKit Go.Proofs.YtkmkgpigmldhnaaDoorW.PrintWords Go.Proofs.YtkmkgpigmldhnaaDoorW.PrintLast Go.Proofs.YtkmkgpigmldhnaaDoorW.PrintMore
attribute [local go_sem] max2_int min2_int max_two min_two max_three min_three max_four min_four
set_option linter.unusedVariables false
set_option linter.unusedSimpArgs false
def pouchlaw05_From.f (a0_0 : Int) (a0_1 : Int) (a0_2 : ByteArray) (a0_3 : ByteArray) : Option (Int × Int × ByteArray × ByteArray) := some (a0_0, a0_1, a0_2, a0_3)
theorem z32z0 {p : Prop} (h : p := by repeat (first | (with_reducible first | exact HB.out | apply below_alloc | apply pw_below_drewN | apply below_drew1 | refine below_set ?_ GE101.out) | exact HB.out)) : p := h
theorem z32z1 {p : Prop} (h : p := by repeat (first | (with_reducible first | exact HB.out | apply below_alloc | apply pw_below_drewN | apply below_drew1) | exact HB.out)) : p := h
theorem z32z2 {p : Prop} (h : p := by (with_reducible repeat (first | refine blk_drewN ?_ _ | refine blk_drew ?_ | refine blk_alloc ?_ _)); exact BK101.out) : p := h
set_option maxHeartbeats 8000000 in
set_option maxRecDepth 100000 in
theorem pouchlaw05_From.calls (a0_0 : Int) (a0_1 : Int) (a0_2 : ByteArray) (a0_3 : ByteArray) (r1 : Int) (r2 : Int) (r3 : ByteArray) (r4 : ByteArray) (w : World) (h : pouchlaw05_From.f a0_0 a0_1 a0_2 a0_3 = some (r1, r2, r3, r4)) :
  Calls Tryd.prog 32 #[.agg #[.int .u8 a0_0, .int .u32 a0_1, .string a0_2, .string a0_3]] w fun e w' => e = .returned (.agg #[.int .u8 r1, .int .u32 r2, .string r3, .string r4]) ∧ Below w.heap.size w w' := by
 have hu60 := Tryd.underlying60
 have hu58 := Tryd.underlying58
 have HB := Aside0.mk (Below.refl w.heap.size w)
 have H : (some (a0_0, a0_1, a0_2, a0_3)) = some (r1, r2, r3, r4) := h
 clear h
 simp only [Option.some.injEq, Prod.mk.injEq] at H
 obtain ⟨rfl, rfl, rfl, rfl⟩ := H
 go_enter Tryd.func32, Tryd.ntmps32
 go_wp2_with (first | ((with_reducible refine gate_dst (N := 1) rfl ?_); refine box_event ?hg (N := 1) ?hd (cs := #[.int .u8 a0_0, .int .u32 a0_1, .string a0_2, .string a0_3]) (t := 60) ?hr ?_; (case hd => rfl); (case hg => rfl); (case hr => first | (go_simp; done) | (go_simp; rfl)); intro gb101 hg w2 hbox hb; have n0_ := Aside0.mk (below_step z32z1 hb); have n1_ := Aside0.mk (hbox); have n2_ := Aside0.mk ((by rw [hg]; exact (below_size z32z1) : w.heap.size ≤ gb101)); have n3_ := Aside0.mk ((by rw [hg]; exact (below_size z32z1) : w.heap.size ≤ gb101)); replace HB := n0_; have BK101 := n1_; have GW101 := n2_; have GE101 := n3_; clear n0_ n1_ n2_ n3_; clear hb hbox hg) | ((with_reducible refine gate_dst (N := 2) rfl ?_); refine box_event ?hg (N := 2) ?hd (cs := #[.int .u8 0, .int .u32 0, .string (⟨#[]⟩ : ByteArray), .string (⟨#[]⟩ : ByteArray)]) (t := 58) ?hr ?_; (case hd => rfl); (case hg => rfl); (case hr => first | (go_simp; done) | (go_simp; rfl)); intro gb102 hg w3 hbox hb; have n0_ := Aside0.mk (blk_below (g := gb101) (o := .cells #[.int .u8 a0_0, .int .u32 a0_1, .string a0_2, .string a0_3] 60 (0, 0)) z32z2 hb); have n1_ := Aside0.mk (below_step z32z0 hb); have n2_ := Aside0.mk (hbox); have n3_ := Aside0.mk ((by rw [hg]; exact (below_size z32z0) : w.heap.size ≤ gb102)); have n4_ := Aside0.mk ((by rw [hg]; exact (below_size z32z0) : w.heap.size ≤ gb102)); have n5_ := Aside0.mk ((by rw [hg]; exact Nat.ne_of_lt (blk_lt (g := gb101) (o := .cells #[.int .u8 a0_0, .int .u32 a0_1, .string a0_2, .string a0_3] 60 (0, 0)) z32z2) : gb101 ≠ gb102)); have n6_ := Aside0.mk ((by rw [hg]; exact Nat.ne_of_gt (blk_lt (g := gb101) (o := .cells #[.int .u8 a0_0, .int .u32 a0_1, .string a0_2, .string a0_3] 60 (0, 0)) z32z2) : gb102 ≠ gb101)); replace BK101 := n0_; replace HB := n1_; have BK102 := n2_; have GW102 := n3_; have GE102 := n4_; have NB101_102 := n5_; have NB102_101 := n6_; clear n0_ n1_ n2_ n3_ n4_ n5_ n6_; clear hb hbox hg; have hnb4 := NB101_102.out; have hnc4 := NB102_101.out; have hcz5_0 := cc4_0 BK101.out; have hcz5_1 := cc4_1 BK101.out; have hcz5_2 := cc4_2 BK101.out; have hcz5_3 := cc4_3 BK101.out; have hfz5_0 := blk_frozen BK101.out 0; have hfz5_1 := blk_frozen BK101.out 1; have hfz5_2 := blk_frozen BK101.out 2; have hfz5_3 := blk_frozen BK101.out 3; have hcz6_0 := cc4_0 BK102.out; have hcz6_1 := cc4_1 BK102.out; have hcz6_2 := cc4_2 BK102.out; have hcz6_3 := cc4_3 BK102.out; have hfz6_0 := blk_frozen BK102.out 0; have hfz6_1 := blk_frozen BK102.out 1; have hfz6_2 := blk_frozen BK102.out 2; have hfz6_3 := blk_frozen BK102.out 3))
 refine bodyPost_ret (results_cell_row rfl _ _ gb102 58 #[.int .u8 a0_0, .int .u32 a0_1, .string a0_2, .string a0_3] (0, 0) _ rfl (by (with_reducible repeat (first | refine blk_drewN ?_ _ | refine blk_drew ?_ | refine blk_alloc ?_ _)); refine blk_put (cs := #[.int .u8 a0_0, .int .u32 a0_1, .string a0_2, .string (⟨#[]⟩ : ByteArray)]) ?_ 3 _ rfl; (with_reducible repeat (first | refine blk_drewN ?_ _ | refine blk_drew ?_ | refine blk_alloc ?_ _)); refine blk_put (cs := #[.int .u8 a0_0, .int .u32 a0_1, .string (⟨#[]⟩ : ByteArray), .string (⟨#[]⟩ : ByteArray)]) ?_ 2 _ rfl; (with_reducible repeat (first | refine blk_drewN ?_ _ | refine blk_drew ?_ | refine blk_alloc ?_ _)); refine blk_put (cs := #[.int .u8 a0_0, .int .u32 0, .string (⟨#[]⟩ : ByteArray), .string (⟨#[]⟩ : ByteArray)]) ?_ 1 _ rfl; (with_reducible repeat (first | refine blk_drewN ?_ _ | refine blk_drew ?_ | refine blk_alloc ?_ _)); refine blk_put (cs := #[.int .u8 0, .int .u32 0, .string (⟨#[]⟩ : ByteArray), .string (⟨#[]⟩ : ByteArray)]) ?_ 0 _ rfl; (with_reducible repeat (first | refine blk_drewN ?_ _ | refine blk_drew ?_ | refine blk_alloc ?_ _)); exact BK102.out) Tryd.underlying58 rfl (by kernel_rfl)) rfl ?_
 exact ⟨by first | rfl | (simp [errW_none, errW_some] <;> rfl) | (simp [*, errW_none, errW_some] <;> rfl), by repeat (first | (with_reducible first | exact HB.out | apply below_alloc | apply pw_below_drewN | apply below_drew1 | refine below_set ?_ GE101.out | refine below_set ?_ GE102.out) | exact HB.out)⟩
end Go.Proofs.YtkmkgpigmldhnaaDoor.P

namespace Go.Proofs.YtkmkgpigmldhnaaDoor.P
open Go.RowKit Go.Shelf Go.Lib Go.Proofs.YtkmkgpigmldhnaaDoorW.PrintWords Go.Proofs.YtkmkgpigmldhnaaDoorW.PrintLast Go.Proofs.YtkmkgpigmldhnaaDoorW.PrintMore
open Go.Proofs.YtkmkgpigmldhnaaDoor.Rg
attribute [local go_sem] Oper.semAt_some
def cvR (p : S60) : S58 := ⟨p.f0, p.f1, p.f2, p.f3⟩
def encR (x : S58) : List Value := [.int .u8 x.f0, .int .u32 x.f1, .string x.f2, .string x.f3]
def eachO (most : Int) : List EP → List S58 → List S58 × Bool
  | [], acc => (acc, true)
  | (p, ok) :: r, acc => if ok = true then (if (acc.length : Int) ≥ most then (acc, true) else eachO most r (acc ++ [cvR p])) else (acc, false)
def EachI (w : World) (most : Int) (L : List EP) (pre : List EP) (W : World) : Prop :=
  W.heap[w.heap.size]? = some (.cells #[.int .i64 most] 3 (0, 0)) ∧ W.heap[w.heap.size + 1]? = some (.cells #[.slice none 0 0] 22 (0, 0)) ∧ W.heap[w.heap.size + 2]? = some (.cells #[.bool false] 4 (0, 0)) ∧
  (∃ v, W.heap[w.heap.size + 3]? = some (.cells #[v] 22 (0, 0)) ∧ Kd.R k58 58 W w.heap.size (fun _ => True) v (pre.map (fun x => cvR x.1))) ∧
  (∀ rest, L = pre ++ rest → eachO most L [] = eachO most rest (pre.map (fun x => cvR x.1))) ∧ Below w.heap.size w W
def EachX (w : World) (most : Int) (L : List EP) (_pre : List EP) (W : World) : Prop :=
  (∃ v, W.heap[w.heap.size + 1]? = some (.cells #[v] 22 (0, 0)) ∧ Kd.R k58 58 W w.heap.size (fun _ => True) v (eachO most L []).1) ∧ W.heap[w.heap.size + 2]? = some (.cells #[.bool (eachO most L []).2] 4 (0, 0)) ∧ Below w.heap.size w W
theorem own_specialR {W W' : World} {base : Nat} {ok : Nat → Prop} {v : Value} {xs : List S58} {row : Option Nat} {T : Nat} (h : Kd.R k58 58 W base ok v xs) (hg : W.grownBy W' row) (hr : ∀ r, row = some r → ∃ o, W.heap[r]? = some o ∧ Sp T o) (hT : 58 ≠ T) : Kd.R k58 58 W' base ok v xs := by
  refine Kd.R_mono (Kd.R_move (Kd.R_bound h) (fun k hk => hg.block k hk.2.2.1 (fun e => ?_))) (fun _ hk => hk.1)
  obtain ⟨o, ho, hs⟩ := hr k e.symm
  obtain ⟨_, _, _, q, hq, cells, hc⟩ := hk
  rw [ho] at hc
  obtain rfl := Option.some.inj hc
  rcases hs with hs | ⟨cs, hs⟩
  · cases hs
  · injection hs with _ hs
    have : q = 58 := by
      rcases List.mem_cons.1 hq with h1 | h1
      · exact h1
      · have hE : k58.E = [] := rfl
        rw [hE] at h1; cases h1
    exact hT (this ▸ hs)
theorem own_moreR {W w1 : World} {base : Nat} {ok : Nat → Prop} {v1 : Value} {xs : List S58} {p : S58} {inner : List Value} (hr : Reps (k58.M W base ok) 4 xs inner) (h : w1.ownsRow base 58 4 v1 (xs.length + 1) (inner ++ encR p)) : Kd.R k58 58 w1 base (fun _ => True) v1 (xs ++ [p]) := by
  refine ⟨fun _ _ => trivial, inner ++ encR p, by rw [List.length_append]; exact h, ?_⟩
  exact (hr.imp_ (fun x c hM => by rw [k58_openM hM]; exact k58_mkM _ _ _ x)).snoc (k58_mkM _ _ _ p) rfl
theorem eachI_ab {w : World} {most : Int} {L : List EP} {B : Nat} (pre : List EP) (hB : w.heap.size + 4 ≤ B) : Ab B 78 (EachI w most L pre) := by
  rintro W W' row ⟨h1, h2, h3, ⟨v, h4, h5⟩, h6, h7⟩ hg hr
  have bl : ∀ k o, k < B → W.heap[k]? = some o → W'.heap[k]? = some o := fun k o hk hb => Ab.block (T := 78) o hk W W' row hb hg hr
  exact ⟨bl _ _ (by omega) h1, bl _ _ (by omega) h2, bl _ _ (by omega) h3, ⟨v, bl _ _ (by omega) h4, own_specialR h5 hg (fun r e => (hr r e).2) (by decide)⟩, h6, h7.grown hg h7.size (fun r e => by have := (hr r e).1; omega)⟩
theorem eachX_ab {w : World} {most : Int} {L : List EP} {B : Nat} (pre : List EP) (hB : w.heap.size + 4 ≤ B) : Ab B 78 (EachX w most L pre) := by
  rintro W W' row ⟨⟨v, h1, h2⟩, h3, h7⟩ hg hr
  have bl : ∀ k o, k < B → W.heap[k]? = some o → W'.heap[k]? = some o := fun k o hk hb => Ab.block (T := 78) o hk W W' row hb hg hr
  exact ⟨⟨v, bl _ _ (by omega) h1, own_specialR h2 hg (fun r e => (hr r e).2) (by decide)⟩, bl _ _ (by omega) h3, h7.grown hg h7.size (fun r e => by have := (hr r e).1; omega)⟩
theorem encR_one (x : S58) : ∀ v ∈ encR x, v.oneCell' = true := by
  intro v hv
  simp [encR] at hv
  rcases hv with rfl | rfl | rfl | rfl <;> rfl
theorem box_cellsR (W : World) (t : TypeId) (x : S58) : ∀ (j : Nat) (u : Value), (encR x)[j]? = some u → (W.alloc (.cells #[.int .u8 x.f0, .int .u32 x.f1, .string x.f2, .string x.f3] t)).cell? ((⟨W.heap.size, 0, none⟩ : Addr).add j) = some u := by
  intro j u h
  rw [add_at, Nat.zero_add, blk_cell (heap_alloc_new W _) j]
  simpa [encR] using h
theorem opIn_append_own {F : Fence} {n : Nat} {P : Program} (w : World) {o : Oper} {a : Act} {K : Act → World → Prop} {Q : Exit → Act → World → Prop}
    (s x : Operand) (t : TypeId) (hop : o.op = Op.call { callee := Callee.builtin Builtin.append, args := #[s, x], argTypes := #[t, t] })
    (base : Nat) (e : TypeId) (i : TypeInfo) (z : Value) (size bytes : Nat) (h1 : P.underlying t = some (.slice e)) (h2 : P.info? e = some i) (h3 : i.zero = some z) (h4 : i.size = size) (h5 : i.bytes = bytes) (h6 : z.cells.size = size) (h7 : 0 < size)
    (v : Value) (k : Nat) (xs : List Value) (hs : a.eval s = v) (hown : w.ownsRow base e size v k xs) (ad : Addr) (m c : Nat) (news : List Value) (hx : a.eval x = .slice (some ad) m c) (hn : news.length = m * size)
    (hc : ∀ j u, news[j]? = some u → w.cell? (ad.add j) = some u) (h1c : ∀ u ∈ news, u.oneCell' = true) (b1 : k + m ≤ maxLen) (b2 : (k + m) * bytes ≤ 140737488355328) (b3 : base ≤ w.heap.size)
    (hK : ∀ v' w', w'.ownsRow base e size v' (k + m) (xs ++ news) → w.grownBy w' v.ownBlock → (v' = .slice none 0 0 ↔ v = .slice none 0 0 ∧ m = 0) → K (a.put o.dst v') w') :
    Oper.wpIn F n P o a w K Q := by
  obtain ⟨v', w', hrun, r1, r2, r3⟩ := run_append_own (P := P) w base t o.type e i z size bytes h1 h2 h3 h4 h5 h6 h7 v k xs hown ad m c news hn hc h1c b1 b2 b3
  unfold Oper.wpIn
  refine ⟨?_, ?_⟩
  · simp [Oper.about, hop, resolve, Target.leads, Sem.run_pure]
  · rw [Oper.semAt_plain F _ _ (by rw [hop]; intro c hc'; cases hc')]
    simp [execOp, hop, resolve, invoke, builtin, hs, hx, hrun, Result.andThen]
    exact hK _ _ r1 r2 r3
set_option maxHeartbeats 8000000 in
set_option maxRecDepth 1000000 in
theorem each_walk (A : Option Addr) (c : Nat) (l : List Int) (most : Int) (L : List EP) (w : World) (hr : Kd.C (Kd.int .u8) w A l.length l) (hc : l.length ≤ c) (hG : GW w) (hl : l.length < 140737488355328) (hL : EachL (strOfNums l) L) (hLl : L.length < 3518437208832) :
    Calls Tryd.prog 24 #[.slice A l.length c, .int .i64 most] w fun e w' => ∃ v0_ : Value, e = .returned (.tuple #[v0_, .bool (eachO most L []).2]) ∧ Kd.R k58 58 w' w.heap.size (fun _ => True) v0_ (eachO most L []).1 ∧ Below w.heap.size w w' := by
  have hu := Tryd.underlying60
  have he : ∀ (B : Nat) (W : World), (binOp BinOp.eql 84 (.func (.func 72) #[] #[.pointer (some ⟨B, 0, none⟩)]) .nilFunc).run Tryd.prog W = .ok (.bool false) W := fun _ _ => by kernel_rfl
  have HG := Aside0.mk hG
  have HR := Aside0.mk hr
  have HC := Aside0.mk hc
  have HL := Aside0.mk hL
  clear hG hr hc hL
  obtain ⟨w4, hw4⟩ : ∃ w4, w4 = (((w.alloc (.cells #[.int .i64 most] 3)).alloc (.cells #[.slice none 0 0] 22)).alloc (.cells #[.bool false] 4)).alloc (.cells #[.slice none 0 0] 22) := ⟨_, rfl⟩
  have b4 : Below w.heap.size w w4 := by rw [hw4]; exact below_alloc (below_alloc (below_alloc (below_alloc (Below.refl _ _) _) _) _) _
  have s1 : ∀ (u : World) (o : Obj), (u.alloc o).heap.size = u.heap.size + 1 := fun u o => by show (u.heap.push o).size = _; simp
  have x0 : w4.heap[w.heap.size]? = some (.cells #[.int .i64 most] 3 (0, 0)) := by rw [hw4]; exact blk_alloc (blk_alloc (blk_alloc (heap_alloc_new _ _) _) _) _
  have x1 : w4.heap[w.heap.size + 1]? = some (.cells #[.slice none 0 0] 22 (0, 0)) := by rw [hw4]; exact blk_alloc (blk_alloc (by have := heap_alloc_new (w.alloc (.cells #[.int .i64 most] 3)) (.cells #[.slice none 0 0] 22); rwa [s1] at this) _) _
  have x2 : w4.heap[w.heap.size + 2]? = some (.cells #[.bool false] 4 (0, 0)) := by rw [hw4]; exact blk_alloc (by have := heap_alloc_new ((w.alloc (.cells #[.int .i64 most] 3)).alloc (.cells #[.slice none 0 0] 22)) (.cells #[.bool false] 4); rwa [s1, s1] at this) _
  have x3 : w4.heap[w.heap.size + 3]? = some (.cells #[.slice none 0 0] 22 (0, 0)) := by
    rw [hw4]
    have := heap_alloc_new (((w.alloc (.cells #[.int .i64 most] 3)).alloc (.cells #[.slice none 0 0] 22)).alloc (.cells #[.bool false] 4)) (.cells #[.slice none 0 0] 22)
    rwa [s1, s1, s1] at this
  have s4 : w4.heap.size = w.heap.size + 4 := by rw [hw4, s1, s1, s1, s1]
  have X0 := Aside0.mk x0
  have X1 := Aside0.mk x1
  have X2 := Aside0.mk x2
  have X3 := Aside0.mk x3
  have B4 := Aside0.mk b4
  have S4 := Aside0.mk s4
  have W4 := Aside0.mk hw4
  have HR4 := Aside0.mk (Kd.C_below HR.out b4)
  clear x0 x1 x2 x3 b4 s4 hw4
  refine (callsIn_wide (n := 9)).1 ?_
  refine callsIn_of_wp_marks Tryd.func24 rfl trivial ?_ rfl
  simp only [Tryd.ntmps24, List.size_toArray, List.length_cons, List.length_nil, Nat.reduceAdd, Nat.reduceSub, Array.replicate_succ, Array.replicate_zero, List.push_toArray, List.append_toArray, List.nil_append, List.cons_append]
  gi_wp2_with (refine ⟨trivial, ?_⟩; gi_at_call 44; (try rw [← W4.out]); refine (callsIn_wide.2 (props_Each.calls A c l _ HR4.out HC.out hl)).mono ?_; rintro e w5 ⟨B5, A5, c5, rfl, hb5, hc5, hl5, hbel⟩; have HB5 := Aside0.mk hb5; have HC5 := Aside0.mk hc5; have HL5 := Aside0.mk hl5; have HBE := Aside0.mk hbel; clear hb5 hc5 hl5 hbel)
  have hs4 := S4.out
  have s5 := HBE.out.size
  have hI5 : EachI w most L [] w5 := ⟨blk_below X0.out HBE.out, blk_below X1.out HBE.out, blk_below X2.out HBE.out, ⟨_, blk_below X3.out HBE.out, Kd.R_nil _ _ _ _ _⟩, fun rest h => by rw [h]; rfl, below_step B4.out HBE.out⟩
  have HI5 := Aside0.mk hI5
  have hw5 : w.heap.size + 4 ≤ w5.heap.size := by omega
  clear hI5 hs4 s5
  refine range_law (T := 78) (n₀ := w.heap.size) (by omega) rfl (by omega) (gf := 72) (lb := #[.pointer (some ⟨B5, 0, none⟩)]) rfl trivial (enters_of Tryd.func72 (by kernel_rfl) rfl)
    (each_seq 8 B5 A5 c5 l L w w5 HG.out HI5.out.2.2.2.2.2 HB5.out HC5.out HL5.out HL.out (by decide)) (Below.refl _ _) (fun _ => rfl)
    (EachI w most L) (EachX w most L) (fun pre => eachI_ab pre hw5) (fun pre => eachX_ab pre hw5) HI5.out ?round ?done ?stop
  case round =>
    rintro l_ rb pre x rest W hLe hlW ⟨rl, hrl⟩ hi
    have HI6 := Aside0.mk hi
    have HLE := Aside0.mk hLe
    clear hi hLe
    simp only [encP]
    have hlt := (Array.getElem?_eq_some_iff.1 hrl).1
    obtain ⟨P0, hP0⟩ : ∃ P0 : Obj, P0 = .cells #[.int .u8 x.1.f0, .int .u32 x.1.f1, .string x.1.f2, .string x.1.f3] 60 := ⟨_, rfl⟩
    have hlA : (W.alloc P0).heap[l_]? = some (.loop rl) := blk_alloc hrl _
    have hp1 : ((W.alloc P0).putObj l_ (.loop rb)).heap[W.heap.size]? = some P0 := (World.putObj_heap_other (by omega)).trans (heap_alloc_new W _)
    have abI : Ab w5.heap.size 78 (EachI w most L pre) := eachI_ab pre hw5
    have hi1 : EachI w most L pre ((W.alloc P0).putObj l_ (.loop rb)) := abI.put _ (abI.alloc P0 HI6.out) hlW hlA (.inl rfl)
    have hkq : Kq w5.heap.size 78 W (W.alloc P0) := fun k o _ ho _ => blk_alloc ho _
    have hbl : Below w.heap.size W (W.alloc P0) := (Below.refl _ W).alloc (by have := HI6.out.2.2.2.2.2.size; omega) _
    have HP1 := Aside0.mk hp1
    have HI7 := Aside0.mk hi1
    have HKQ := Aside0.mk hkq
    have HBL := Aside0.mk hbl
    clear hp1 hi1 hkq hbl abI hlA
    gi_wp2
    rw [← hP0]
    refine ⟨HKQ.out, HBL.out, ?_⟩
    generalize (W.alloc P0).putObj l_ (.loop rb) = W1 at HP1 HI7 ⊢
    rw [hP0] at HP1
    clear HKQ HBL HI6 hP0
    obtain ⟨i0, i1, i2, ⟨v, i3, i4⟩, i5, i6⟩ := HI7.out
    obtain ⟨xp, xo⟩ := x
    have c0 := blk_cell i0 0
    have c1 := blk_cell i1 0
    have c2 := blk_cell i2 0
    have c3 := blk_cell i3 0
    have f1 := blk_frozen i1 0
    have f2 := blk_frozen i2 0
    have f3 := blk_frozen i3 0
    have p0 : W1.cell? ⟨W.heap.size, 0, none⟩ = some (.int .u8 xp.f0) := (blk_cell HP1.out 0).trans rfl
    have p1 : W1.cell? ⟨W.heap.size, 1, none⟩ = some (.int .u32 xp.f1) := (blk_cell HP1.out 1).trans rfl
    have p2 : W1.cell? ⟨W.heap.size, 2, none⟩ = some (.string xp.f2) := (blk_cell HP1.out 2).trans rfl
    have p3 : W1.cell? ⟨W.heap.size, 3, none⟩ = some (.string xp.f3) := (blk_cell HP1.out 3).trans rfl
    simp at c0 c1 c2 c3
    have J0 := Aside0.mk i0
    have J1 := Aside0.mk i1
    have J2 := Aside0.mk i2
    have J3 := Aside0.mk i3
    have J4 := Aside0.mk i4
    have J5 := Aside0.mk i5
    have J6 := Aside0.mk i6
    clear i0 i1 i2 i3 i4 i5 i6 HI7
    obtain ⟨Av, cv, rfl, hlv, hcv⟩ := Kd.R_reads J4.out
    have hlen : (pre.map (fun x : EP => cvR x.1)).length = pre.length := by simp
    have hlen1 : (pre.map (fun x : EP => cvR x.1) ++ [cvR xp]).length = pre.length + 1 := by simp
    rw [hlen] at c3 hlv
    have j3 := J3.out
    rw [hlen] at j3
    clear J3
    have J3 := Aside0.mk j3
    clear j3
    have stops : ∀ (bb : Bool), eachO most L [] = (pre.map (fun x : EP => cvR x.1), bb) → EachX w most L (pre ++ [(xp, xo)]) ((W1.setCell ⟨w.heap.size + 1, 0, none⟩ (.slice Av pre.length cv)).setCell ⟨w.heap.size + 2, 0, none⟩ (.bool bb)) := fun bb he => by
      refine ⟨⟨.slice Av pre.length cv, blk_far (blk_put J1.out 0 _ rfl) (by show w.heap.size + 1 ≠ w.heap.size + 2; omega) _, ?_⟩, ?_, below_set (below_set J6.out (by omega)) (by omega)⟩
      · rw [he]
        have h4 := J4.out
        rw [hlen] at h4
        exact Kd.R_set (Kd.R_set h4 J1.out (by decide) 0 _) (blk_far J2.out (by show w.heap.size + 2 ≠ w.heap.size + 1; omega) _) (by decide) 0 _
      · rw [he]
        exact blk_put (blk_far J2.out (by show w.heap.size + 2 ≠ w.heap.size + 1; omega) _) 0 _ rfl
    have STOPS := Aside0.mk stops
    clear stops
    cases xo with
    | false =>
      gi_wp2
      refine ⟨(Kq.set _ _ (by show w.heap.size + 1 < _; omega)).trans (Kq.set _ _ (by show w.heap.size + 2 < _; omega)), STOPS.out false ?_⟩
      rw [J5.out _ HLE.out]
      simp [eachO]
    | true =>
      by_cases hm : (pre.length : Int) ≥ most
      · have hm1 : decide ((pre.length : Int) ≥ most) = true := decide_eq_true hm
        gi_wp2
        refine ⟨(Kq.set _ _ (by show w.heap.size + 1 < _; omega)).trans (Kq.set _ _ (by show w.heap.size + 2 < _; omega)), STOPS.out true ?_⟩
        rw [J5.out _ HLE.out]
        simp [eachO, hm]
      · have hm1 : decide ((pre.length : Int) ≥ most) = false := decide_eq_false hm
        have hplen : pre.length < 3518437208832 := by have := congrArg List.length HLE.out; simp at this; omega
        obtain ⟨i0_, hi_, hz0_, hz1_, hz2_⟩ := info_parts info58
        have fina : ∀ (w3 w1' : World) (v' : Value) (inner : List Value), Below W1.drew.heap.size W1.drew w3 → Reps (k58.M w3 w.heap.size (fun _ => True)) 4 (pre.map (fun x : EP => cvR x.1)) inner →
            w1'.ownsRow w.heap.size 58 4 v' (pre.length + 1) (inner ++ encR (cvR xp)) → (w3.alloc (.cells #[.int .u8 xp.f0, .int .u32 xp.f1, .string xp.f2, .string xp.f3] 58)).grownBy w1' (Value.slice Av pre.length cv).ownBlock →
            w1'.cell? ⟨w.heap.size + 3, 0, none⟩ = some (.slice Av pre.length cv) ∧ w1'.frozen? ⟨w.heap.size + 3, 0, none⟩ = false ∧
            (Kq w5.heap.size 78 W1 (w1'.setCell ⟨w.heap.size + 3, 0, none⟩ v') ∧ Below w.heap.size W1 (w1'.setCell ⟨w.heap.size + 3, 0, none⟩ v') ∧ EachI w most L (pre ++ [(xp, true)]) (w1'.setCell ⟨w.heap.size + 3, 0, none⟩ v')) := by
          intro w3 w1' v' inner hb3 hrep hown' hgrow
          have ho' := own_moreR hrep (by rw [hlen]; exact hown')
          obtain ⟨A', c', hv'⟩ := Kd.R_slice ho'
          have hne3 : some (w.heap.size + 3) ≠ (Value.slice Av pre.length cv).ownBlock := by have h4 := J4.out; rw [hlen] at h4; exact Kd.R_ne h4 J3.out (by decide)
          have j3 : (w3.alloc (.cells #[.int .u8 xp.f0, .int .u32 xp.f1, .string xp.f2, .string xp.f3] 58)).heap[w.heap.size + 3]? = _ := blk_alloc (blk_below (w := W1.drew) J3.out hb3) _
          have hg3 := blk_grown j3 hgrow hne3
          obtain ⟨_, inner0, hown3, _⟩ := J4.out
          rw [hlen] at hown3
          have hrow : ∀ k, (Value.slice Av pre.length cv).ownBlock = some k → w.heap.size ≤ k ∧ ∃ cells, W1.heap[k]? = some (.cells cells 58 (0, 0)) := fun k hk => ⟨own_base hown3 k hk, own_typed hown3 k hk⟩
          have ne_of : ∀ k o, W1.heap[k]? = some o → (∀ cells, o ≠ .cells cells 58 (0, 0)) → some k ≠ (Value.slice Av pre.length cv).ownBlock := fun k o ho hn e => by
            obtain ⟨_, cells, hc⟩ := hrow k e.symm
            rw [ho] at hc
            exact hn cells (Option.some.inj hc)
          have carry : ∀ k o, W1.heap[k]? = some o → some k ≠ (Value.slice Av pre.length cv).ownBlock → k ≠ w.heap.size + 3 → (w1'.setCell ⟨w.heap.size + 3, 0, none⟩ v').heap[k]? = some o := fun k o ho h1 h2 =>
            (Below.heap_setCell w1' ⟨w.heap.size + 3, 0, none⟩ _ k h2).trans (blk_grown (blk_alloc (blk_below (w := W1.drew) ho hb3) _) hgrow h1)
          have hsz := J6.out.size
          have hb3s : W1.heap.size ≤ w3.heap.size := hb3.size
          have hbb : ∀ (u : World), Below w.heap.size u W1 → Below w.heap.size u (w1'.setCell ⟨w.heap.size + 3, 0, none⟩ v') := fun u h => by
            have q1 : Below w.heap.size u w3 := by
              have hd : Below w.heap.size u W1.drew := below_drew1 h
              exact hd.trans (hb3.mono hsz)
            have q2 : Below w.heap.size u (w3.alloc (.cells #[.int .u8 xp.f0, .int .u32 xp.f1, .string xp.f2, .string xp.f3] 58)) := q1.alloc (by omega) _
            have q3 : Below w.heap.size u w1' := q2.grown hgrow (by rw [World.size_alloc]; omega) (fun k hk => by have := (hrow k hk).1; omega)
            exact q3.setCell (p := ⟨w.heap.size + 3, 0, none⟩) (by show w.heap.size ≤ w.heap.size + 3; omega) _
          refine ⟨(blk_cell hg3 0).trans rfl, blk_frozen hg3 0, fun k o hB ho hs => carry k o ho (ne_of k o ho (fun cells e => ?_)) (by omega), hbb W1 (Below.refl _ _), carry _ _ J0.out (ne_of _ _ J0.out (fun _ e => by cases e)) (by omega), carry _ _ J1.out (ne_of _ _ J1.out (fun _ e => by cases e)) (by omega), carry _ _ J2.out (ne_of _ _ J2.out (fun _ e => by cases e)) (by omega), ⟨v', blk_put hg3 0 _ rfl, ?_⟩, fun rest' hr' => ?_, hbb w J6.out⟩
          · subst e
            rcases hs with hs | ⟨_, hs⟩
            · cases hs
            · cases hs
          · rw [List.map_append]
            exact Kd.R_set ho' hg3 (by decide) 0 _
          · rw [J5.out ((xp, true) :: rest') (by rw [hr']; simp)]
            simp [eachO, hm]
        have FINA := Aside0.mk fina
        clear fina
        gi_wp2
        refine wpIn_region_any (by kernel_rfl) ?_
        change wpAnyIn _ _ _ _ _ _ _ _ _ (World.drew _)
        --REGION
        refine wpAnyIn_ready (rs := [0, 1]) (by kernel_rfl) (by simp) ?_
        refine AllReadyIn.cons rfl (fun K hK => ?_) ?_
        · go_simp
          refine hK _ _ ?_
          clear hK K
          refine wpAnyIn_ready (rs := [1]) (by kernel_rfl) (by simp) ?_
          refine AllReadyIn.cons rfl (fun K hK => ?_) ?_
          · go_simp
            refine hK _ _ ?_
            clear hK K
            refine wpAnyIn_ready (rs := [2]) (by kernel_rfl) (by simp) ?_
            refine AllReadyIn.cons rfl (fun K hK => ?_) ?_
            · go_simp
              gi_wp2_with (refine ⟨trivial, ?_⟩; gi_at_call 32; refine (CallsIn.inRound l_ (callsIn_wide.2 (pouchlaw05_From.calls xp.f0 xp.f1 xp.f2 xp.f3 _ _ _ _ _ rfl))).mono ?_; rintro e_ w3 ⟨rfl, hb3⟩; have HB3 := Aside0.mk hb3; clear hb3)
              (try (refine hK _ _ ?_; clear hK K))
              obtain ⟨_, inner, hown3, hreps3⟩ := Kd.R_below (Kd.R_drew J4.out) HB3.out
              have HOWN3 := Aside0.mk hown3
              have HREP3 := Aside0.mk hreps3
              clear hown3 hreps3
              have c3w : w3.cell? ⟨w.heap.size + 3, 0, none⟩ = some (.slice Av pre.length cv) := (blk_cell (blk_below (w := W1.drew) J3.out HB3.out) 0).trans rfl
              have f3w : w3.frozen? ⟨w.heap.size + 3, 0, none⟩ = false := blk_frozen (blk_below (w := W1.drew) J3.out HB3.out) 0
              have c3a : (w3.alloc (.cells #[.int .u8 xp.f0, .int .u32 xp.f1, .string xp.f2, .string xp.f3] 58)).cell? ⟨w.heap.size + 3, 0, none⟩ = some (.slice Av pre.length cv) := (blk_cell (blk_alloc (blk_below (w := W1.drew) J3.out HB3.out) _) 0).trans rfl
              refine wpAnyIn_ready (rs := [3]) (by kernel_rfl) (by simp) ?_
              refine AllReadyIn.cons rfl (fun K hK => ?_) ?_
              · go_simp
                refine hK _ _ ?_
                clear hK K
                refine wpAnyIn_ready (rs := [4]) (by kernel_rfl) (by simp) ?_
                refine AllReadyIn.cons rfl (fun K hK => ?_) ?_
                · refine opIn_append_own _ (.tmp 25) (.tmp 28) 22 rfl w.heap.size 58 i0_ (.agg #[(.int .u8 0), (.int .u32 0), (.string ⟨#[]⟩), (.string ⟨#[]⟩)]) 4 40 Tryd.underlying22 hi_ hz0_ hz1_ hz2_ rfl (by decide) (.slice Av pre.length cv) pre.length inner rfl ?own ⟨w3.heap.size, 0, none⟩ 1 1 (encR (cvR xp)) rfl rfl (box_cellsR w3 58 (cvR xp)) (encR_one (cvR xp)) ?b1 ?b2 ?b3 ?_
                  case own => have h_ := HOWN3.out.alloc (.cells #[.int .u8 xp.f0, .int .u32 xp.f1, .string xp.f2, .string xp.f3] 58); rw [hlen] at h_; exact h_
                  case b1 => simp [maxLen]; omega
                  case b2 => omega
                  case b3 => rw [World.size_alloc]; have := HB3.out.size; have := J6.out.size; simp only [World.size_drew] at *; omega
                  intro v' w1' hown' hgrow hnil
                  obtain ⟨A', c', hv_⟩ := Kd.R_slice (own_moreR HREP3.out (by rw [hlen]; exact hown'))
                  rw [hlen1] at hv_
                  subst hv_
                  clear hnil
                  refine hK _ _ ?_
                  clear hK K
                  refine wpAnyIn_ready (rs := [5]) (by kernel_rfl) (by simp) ?_
                  refine AllReadyIn.cons rfl (fun K hK => ?_) ?_
                  · obtain ⟨cL, fL, FIN⟩ := FINA.out w3 w1' _ inner HB3.out HREP3.out hown' hgrow
                    have FIN0 := Aside0.mk FIN
                    clear FIN hown' hgrow
                    go_simp
                    refine hK _ _ ?_
                    clear hK K
                    refine wpAnyIn_done (by kernel_rfl) ?_ _
                    exact FIN0.out
                  exact AllReadyIn.nil
                exact AllReadyIn.nil
              exact AllReadyIn.nil
            exact AllReadyIn.nil
          exact AllReadyIn.nil
        refine AllReadyIn.cons rfl (fun K hK => ?_) ?_
        · go_simp
          refine hK _ _ ?_
          clear hK K
          refine wpAnyIn_ready (rs := [0, 2]) (by kernel_rfl) (by simp) ?_
          refine AllReadyIn.cons rfl (fun K hK => ?_) ?_
          · go_simp
            refine hK _ _ ?_
            clear hK K
            refine wpAnyIn_ready (rs := [2]) (by kernel_rfl) (by simp) ?_
            refine AllReadyIn.cons rfl (fun K hK => ?_) ?_
            · go_simp
              gi_wp2_with (refine ⟨trivial, ?_⟩; gi_at_call 32; refine (CallsIn.inRound l_ (callsIn_wide.2 (pouchlaw05_From.calls xp.f0 xp.f1 xp.f2 xp.f3 _ _ _ _ _ rfl))).mono ?_; rintro e_ w3 ⟨rfl, hb3⟩; have HB3 := Aside0.mk hb3; clear hb3)
              (try (refine hK _ _ ?_; clear hK K))
              obtain ⟨_, inner, hown3, hreps3⟩ := Kd.R_below (Kd.R_drew J4.out) HB3.out
              have HOWN3 := Aside0.mk hown3
              have HREP3 := Aside0.mk hreps3
              clear hown3 hreps3
              have c3w : w3.cell? ⟨w.heap.size + 3, 0, none⟩ = some (.slice Av pre.length cv) := (blk_cell (blk_below (w := W1.drew) J3.out HB3.out) 0).trans rfl
              have f3w : w3.frozen? ⟨w.heap.size + 3, 0, none⟩ = false := blk_frozen (blk_below (w := W1.drew) J3.out HB3.out) 0
              have c3a : (w3.alloc (.cells #[.int .u8 xp.f0, .int .u32 xp.f1, .string xp.f2, .string xp.f3] 58)).cell? ⟨w.heap.size + 3, 0, none⟩ = some (.slice Av pre.length cv) := (blk_cell (blk_alloc (blk_below (w := W1.drew) J3.out HB3.out) _) 0).trans rfl
              refine wpAnyIn_ready (rs := [3]) (by kernel_rfl) (by simp) ?_
              refine AllReadyIn.cons rfl (fun K hK => ?_) ?_
              · go_simp
                refine hK _ _ ?_
                clear hK K
                refine wpAnyIn_ready (rs := [4]) (by kernel_rfl) (by simp) ?_
                refine AllReadyIn.cons rfl (fun K hK => ?_) ?_
                · refine opIn_append_own _ (.tmp 25) (.tmp 28) 22 rfl w.heap.size 58 i0_ (.agg #[(.int .u8 0), (.int .u32 0), (.string ⟨#[]⟩), (.string ⟨#[]⟩)]) 4 40 Tryd.underlying22 hi_ hz0_ hz1_ hz2_ rfl (by decide) (.slice Av pre.length cv) pre.length inner rfl ?own ⟨w3.heap.size, 0, none⟩ 1 1 (encR (cvR xp)) rfl rfl (box_cellsR w3 58 (cvR xp)) (encR_one (cvR xp)) ?b1 ?b2 ?b3 ?_
                  case own => have h_ := HOWN3.out.alloc (.cells #[.int .u8 xp.f0, .int .u32 xp.f1, .string xp.f2, .string xp.f3] 58); rw [hlen] at h_; exact h_
                  case b1 => simp [maxLen]; omega
                  case b2 => omega
                  case b3 => rw [World.size_alloc]; have := HB3.out.size; have := J6.out.size; simp only [World.size_drew] at *; omega
                  intro v' w1' hown' hgrow hnil
                  obtain ⟨A', c', hv_⟩ := Kd.R_slice (own_moreR HREP3.out (by rw [hlen]; exact hown'))
                  rw [hlen1] at hv_
                  subst hv_
                  clear hnil
                  refine hK _ _ ?_
                  clear hK K
                  refine wpAnyIn_ready (rs := [5]) (by kernel_rfl) (by simp) ?_
                  refine AllReadyIn.cons rfl (fun K hK => ?_) ?_
                  · obtain ⟨cL, fL, FIN⟩ := FINA.out w3 w1' _ inner HB3.out HREP3.out hown' hgrow
                    have FIN0 := Aside0.mk FIN
                    clear FIN hown' hgrow
                    go_simp
                    refine hK _ _ ?_
                    clear hK K
                    refine wpAnyIn_done (by kernel_rfl) ?_ _
                    exact FIN0.out
                  exact AllReadyIn.nil
                exact AllReadyIn.nil
              exact AllReadyIn.nil
            exact AllReadyIn.nil
          refine AllReadyIn.cons rfl (fun K hK => ?_) ?_
          · go_simp
            gi_wp2_with (refine ⟨trivial, ?_⟩; gi_at_call 32; refine (CallsIn.inRound l_ (callsIn_wide.2 (pouchlaw05_From.calls xp.f0 xp.f1 xp.f2 xp.f3 _ _ _ _ _ rfl))).mono ?_; rintro e_ w3 ⟨rfl, hb3⟩; have HB3 := Aside0.mk hb3; clear hb3)
            (try (refine hK _ _ ?_; clear hK K))
            obtain ⟨_, inner, hown3, hreps3⟩ := Kd.R_below (Kd.R_drew J4.out) HB3.out
            have HOWN3 := Aside0.mk hown3
            have HREP3 := Aside0.mk hreps3
            clear hown3 hreps3
            have c3w : w3.cell? ⟨w.heap.size + 3, 0, none⟩ = some (.slice Av pre.length cv) := (blk_cell (blk_below (w := W1.drew) J3.out HB3.out) 0).trans rfl
            have f3w : w3.frozen? ⟨w.heap.size + 3, 0, none⟩ = false := blk_frozen (blk_below (w := W1.drew) J3.out HB3.out) 0
            have c3a : (w3.alloc (.cells #[.int .u8 xp.f0, .int .u32 xp.f1, .string xp.f2, .string xp.f3] 58)).cell? ⟨w.heap.size + 3, 0, none⟩ = some (.slice Av pre.length cv) := (blk_cell (blk_alloc (blk_below (w := W1.drew) J3.out HB3.out) _) 0).trans rfl
            refine wpAnyIn_ready (rs := [0, 3]) (by kernel_rfl) (by simp) ?_
            refine AllReadyIn.cons rfl (fun K hK => ?_) ?_
            · go_simp
              refine hK _ _ ?_
              clear hK K
              refine wpAnyIn_ready (rs := [3]) (by kernel_rfl) (by simp) ?_
              refine AllReadyIn.cons rfl (fun K hK => ?_) ?_
              · go_simp
                refine hK _ _ ?_
                clear hK K
                refine wpAnyIn_ready (rs := [4]) (by kernel_rfl) (by simp) ?_
                refine AllReadyIn.cons rfl (fun K hK => ?_) ?_
                · refine opIn_append_own _ (.tmp 25) (.tmp 28) 22 rfl w.heap.size 58 i0_ (.agg #[(.int .u8 0), (.int .u32 0), (.string ⟨#[]⟩), (.string ⟨#[]⟩)]) 4 40 Tryd.underlying22 hi_ hz0_ hz1_ hz2_ rfl (by decide) (.slice Av pre.length cv) pre.length inner rfl ?own ⟨w3.heap.size, 0, none⟩ 1 1 (encR (cvR xp)) rfl rfl (box_cellsR w3 58 (cvR xp)) (encR_one (cvR xp)) ?b1 ?b2 ?b3 ?_
                  case own => have h_ := HOWN3.out.alloc (.cells #[.int .u8 xp.f0, .int .u32 xp.f1, .string xp.f2, .string xp.f3] 58); rw [hlen] at h_; exact h_
                  case b1 => simp [maxLen]; omega
                  case b2 => omega
                  case b3 => rw [World.size_alloc]; have := HB3.out.size; have := J6.out.size; simp only [World.size_drew] at *; omega
                  intro v' w1' hown' hgrow hnil
                  obtain ⟨A', c', hv_⟩ := Kd.R_slice (own_moreR HREP3.out (by rw [hlen]; exact hown'))
                  rw [hlen1] at hv_
                  subst hv_
                  clear hnil
                  refine hK _ _ ?_
                  clear hK K
                  refine wpAnyIn_ready (rs := [5]) (by kernel_rfl) (by simp) ?_
                  refine AllReadyIn.cons rfl (fun K hK => ?_) ?_
                  · obtain ⟨cL, fL, FIN⟩ := FINA.out w3 w1' _ inner HB3.out HREP3.out hown' hgrow
                    have FIN0 := Aside0.mk FIN
                    clear FIN hown' hgrow
                    go_simp
                    refine hK _ _ ?_
                    clear hK K
                    refine wpAnyIn_done (by kernel_rfl) ?_ _
                    exact FIN0.out
                  exact AllReadyIn.nil
                exact AllReadyIn.nil
              exact AllReadyIn.nil
            refine AllReadyIn.cons rfl (fun K hK => ?_) ?_
            · go_simp
              refine hK _ _ ?_
              clear hK K
              refine wpAnyIn_ready (rs := [0]) (by kernel_rfl) (by simp) ?_
              refine AllReadyIn.cons rfl (fun K hK => ?_) ?_
              · go_simp
                refine hK _ _ ?_
                clear hK K
                refine wpAnyIn_ready (rs := [4]) (by kernel_rfl) (by simp) ?_
                refine AllReadyIn.cons rfl (fun K hK => ?_) ?_
                · refine opIn_append_own _ (.tmp 25) (.tmp 28) 22 rfl w.heap.size 58 i0_ (.agg #[(.int .u8 0), (.int .u32 0), (.string ⟨#[]⟩), (.string ⟨#[]⟩)]) 4 40 Tryd.underlying22 hi_ hz0_ hz1_ hz2_ rfl (by decide) (.slice Av pre.length cv) pre.length inner rfl ?own ⟨w3.heap.size, 0, none⟩ 1 1 (encR (cvR xp)) rfl rfl (box_cellsR w3 58 (cvR xp)) (encR_one (cvR xp)) ?b1 ?b2 ?b3 ?_
                  case own => have h_ := HOWN3.out.alloc (.cells #[.int .u8 xp.f0, .int .u32 xp.f1, .string xp.f2, .string xp.f3] 58); rw [hlen] at h_; exact h_
                  case b1 => simp [maxLen]; omega
                  case b2 => omega
                  case b3 => rw [World.size_alloc]; have := HB3.out.size; have := J6.out.size; simp only [World.size_drew] at *; omega
                  intro v' w1' hown' hgrow hnil
                  obtain ⟨A', c', hv_⟩ := Kd.R_slice (own_moreR HREP3.out (by rw [hlen]; exact hown'))
                  rw [hlen1] at hv_
                  subst hv_
                  clear hnil
                  refine hK _ _ ?_
                  clear hK K
                  refine wpAnyIn_ready (rs := [5]) (by kernel_rfl) (by simp) ?_
                  refine AllReadyIn.cons rfl (fun K hK => ?_) ?_
                  · obtain ⟨cL, fL, FIN⟩ := FINA.out w3 w1' _ inner HB3.out HREP3.out hown' hgrow
                    have FIN0 := Aside0.mk FIN
                    clear FIN hown' hgrow
                    go_simp
                    refine hK _ _ ?_
                    clear hK K
                    refine wpAnyIn_done (by kernel_rfl) ?_ _
                    exact FIN0.out
                  exact AllReadyIn.nil
                exact AllReadyIn.nil
              exact AllReadyIn.nil
            exact AllReadyIn.nil
          exact AllReadyIn.nil
        exact AllReadyIn.nil
        --END
  case stop =>
    rintro D pre rest W hD hLe ⟨⟨v, i1, i3⟩, i2, i4⟩ hK
    gi_wp2
    refine ⟨by simp, .inl ⟨_, _, rfl, run_takeDeferred hK, ?_⟩⟩
    have hD2 : D ≠ w.heap.size + 1 ∧ D ≠ w.heap.size + 2 := by omega
    have b1 : (W.putObj D (.deferred none)).heap[w.heap.size + 1]? = _ := (World.putObj_heap_other (Ne.symm hD2.1)).trans i1
    have b2 : (W.putObj D (.deferred none)).heap[w.heap.size + 2]? = _ := (World.putObj_heap_other (Ne.symm hD2.2)).trans i2
    have c1 := (blk_cell b1 0).trans (rfl : _ = some v)
    have c2 := (blk_cell b2 0).trans (rfl : _ = some (Value.bool (eachO most L []).2))
    have h9 := own_specialR (T := 78) i3 (grownBy_putObj' _ D (.deferred none)) (fun r e => by cases e; exact ⟨_, hK, .inl rfl⟩) (by decide)
    refine ⟨.tuple #[v, .bool (eachO most L []).2], ?_, ?_⟩
    · simp [results, Tryd.f24, go_sem, c1, c2]
    · exact ⟨v, rfl, h9, i4.grown (grownBy_putObj' W D _) i4.size (fun k e => by cases e; omega)⟩
  case done =>
    rintro D W hD ⟨i0, i1, i2, ⟨v, i3, i4⟩, i5, i6⟩ hK
    have he := i5 [] (by simp)
    rw [show eachO most [] (L.map (fun x : EP => cvR x.1)) = (L.map (fun x : EP => cvR x.1), true) from rfl] at he
    have c3 : W.cell? ⟨w.heap.size + 3, 0, none⟩ = some v := (blk_cell i3 0).trans rfl
    have c1 := blk_cell i1 0
    have c2 := blk_cell i2 0
    have f1 := blk_frozen i1 0
    have f2 := blk_frozen i2 0
    have f3 := blk_frozen i3 0
    simp at c1 c2
    obtain ⟨Av, cv, rfl, _, _⟩ := Kd.R_reads i4
    have J1 := Aside0.mk i1
    have J2 := Aside0.mk i2
    have J3 := Aside0.mk i3
    have J4 := Aside0.mk i4
    have J6 := Aside0.mk i6
    have JK := Aside0.mk hK
    have HE := Aside0.mk he
    clear i0 i1 i2 i3 i4 i5 i6 hK he
    gi_wp2
    obtain ⟨V6, hV6⟩ : ∃ V6 : Value, V6 = .slice Av (L.map (fun x : EP => cvR x.1)).length cv := ⟨_, rfl⟩
    have h4 := J4.out
    rw [← hV6] at h4
    have hlt6 : D < W.heap.size := (Array.getElem?_eq_some_iff.1 JK.out).1
    have e6 : Value.slice Av L.length cv = V6 := by rw [hV6]; simp
    first | rw [← hV6] | rw [e6] | skip
    have r1 : ((W.setCell ⟨w.heap.size + 1, 0, none⟩ V6).setCell ⟨w.heap.size + 2, 0, none⟩ (.bool true)).heap[w.heap.size + 1]? = some (.cells #[V6] 22 (0, 0)) := blk_far (blk_put J1.out 0 _ rfl) (by show w.heap.size + 1 ≠ w.heap.size + 2; omega) _
    have r2 : ((W.setCell ⟨w.heap.size + 1, 0, none⟩ V6).setCell ⟨w.heap.size + 2, 0, none⟩ (.bool true)).heap[w.heap.size + 2]? = some (.cells #[.bool true] 4 (0, 0)) := blk_put (blk_far J2.out (by show w.heap.size + 2 ≠ w.heap.size + 1; omega) _) 0 _ rfl
    have rD : ((W.setCell ⟨w.heap.size + 1, 0, none⟩ V6).setCell ⟨w.heap.size + 2, 0, none⟩ (.bool true)).heap[D]? = some (.deferred (some [])) := by
      rw [Below.heap_setCell _ ⟨w.heap.size + 2, 0, none⟩ _ D (by show D ≠ w.heap.size + 2; omega), Below.heap_setCell _ ⟨w.heap.size + 1, 0, none⟩ _ D (by show D ≠ w.heap.size + 1; omega)]
      exact JK.out
    refine ⟨by simp, .inl ⟨_, _, rfl, run_takeDeferred rD, ?_⟩⟩
    have ho8 : Kd.R k58 58 ((W.setCell ⟨w.heap.size + 1, 0, none⟩ V6).setCell ⟨w.heap.size + 2, 0, none⟩ (.bool true)) w.heap.size (fun _ => True) V6 (L.map (fun x : EP => cvR x.1)) :=
      Kd.R_set (Kd.R_set h4 J1.out (by decide) 0 _) (blk_far J2.out (by show w.heap.size + 2 ≠ w.heap.size + 1; omega) _) (by decide) 0 _
    have ho9 := own_specialR (T := 78) ho8 (grownBy_putObj' _ D (.deferred none)) (fun r e => by cases e; exact ⟨_, rD, .inl rfl⟩) (by decide)
    have hD2 : D ≠ w.heap.size + 1 ∧ D ≠ w.heap.size + 2 := by omega
    have b1 : (((W.setCell ⟨w.heap.size + 1, 0, none⟩ V6).setCell ⟨w.heap.size + 2, 0, none⟩ (.bool true)).putObj D (.deferred none)).heap[w.heap.size + 1]? = _ := (World.putObj_heap_other (Ne.symm hD2.1)).trans r1
    have b2 : (((W.setCell ⟨w.heap.size + 1, 0, none⟩ V6).setCell ⟨w.heap.size + 2, 0, none⟩ (.bool true)).putObj D (.deferred none)).heap[w.heap.size + 2]? = _ := (World.putObj_heap_other (Ne.symm hD2.2)).trans r2
    have c1 := (blk_cell b1 0).trans (rfl : _ = some V6)
    have c2 := (blk_cell b2 0).trans (rfl : _ = some (Value.bool true))
    refine ⟨.tuple #[V6, .bool true], ?_, ?_⟩
    · simp [results, Tryd.f24, go_sem, c1, c2]
    · rw [HE.out]
      refine ⟨V6, rfl, ho9, Below.grown (below_set (below_set J6.out (by omega)) (by omega)) (grownBy_putObj' _ D _) ?_ (fun k e => by cases e; omega)⟩
      have := J6.out.size
      simp [World.setCell]; omega
def pouchlaw06_each.f (k : Nat) (l0 : List Int) (a1 : Int) : Option (List S58 × Bool) := if l0.length < 140737488355328 then ((eachF k (strOfNums l0)).bind fun L => if L.length < 3518437208832 then some (eachO a1 L []) else none) else none
theorem pouchlaw06_each.mono : ∀ a0 a1 k, LeO (pouchlaw06_each.f k a0 a1) (pouchlaw06_each.f (k + 1) a0 a1) := by
  intro a0 a1 k
  unfold pouchlaw06_each.f
  exact LeO.ite (LeO.bind (eachF.mono _ _) fun _ => LeO.refl _) (LeO.refl _)
theorem pouchlaw06_each.calls (k : Nat) (A0 : Option Addr) (c0 : Nat) (l0 : List Int) (a1 : Int) (r1 : List S58) (r2 : Bool) (w : World) (hr0 : Kd.C (Kd.int .u8) w A0 l0.length l0) (hc0 : l0.length ≤ c0) (hG : GW w) (h : pouchlaw06_each.f k l0 a1 = some (r1, r2)) :
    Calls Tryd.prog 24 #[.slice A0 l0.length c0, .int .i64 a1] w fun e w' => ∃ v0_ : Value, e = .returned (.tuple #[v0_, .bool r2]) ∧ Kd.R k58 58 w' w.heap.size (fun _ => True) v0_ r1 ∧ Below w.heap.size w w' := by
  unfold pouchlaw06_each.f at h
  by_cases h1 : l0.length < 140737488355328
  · rw [if_pos h1] at h
    obtain ⟨L, hL, h⟩ := Option.bind_eq_some_iff.mp h
    by_cases h2 : L.length < 3518437208832
    · rw [if_pos h2] at h
      have h3 := Option.some.inj h
      have := each_walk A0 c0 l0 a1 L w hr0 hc0 hG h1 (eachF_L _ _ _ hL) h2
      rw [h3] at this
      exact this
    · rw [if_neg h2] at h; cases h
  · rw [if_neg h1] at h; cases h
end Go.Proofs.YtkmkgpigmldhnaaDoor.P

namespace Go.Proofs.YtkmkgpigmldhnaaDoor.P
open Go.RowKit Go.Proofs.YtkmkgpigmldhnaaDoorW.PrintWords Go.Proofs.YtkmkgpigmldhnaaDoorW.PrintLast Go.Proofs.YtkmkgpigmldhnaaDoorW.PrintMore
attribute [local go_sem] max2_int min2_int max_two min_two max_three min_three max_four min_four
set_option linter.unusedVariables false
set_option linter.unusedSimpArgs false
def wire_Var.l0 : Nat → Int → List Int → Option (List Int)
  | 0, _, _ => none
  | k + 1, x1, x5 => if x1 ≥ 128 then (if x5.length < 140737488355328 then (wire_Var.l0 k (x1 / 128) (x5 ++ [Go.bits .or .u8 ((x1) % 256) 128])) else (none)) else (if x5.length < 140737488355328 then (some (x5 ++ [(x1) % 256])) else (none))
def wire_Var.f (k : Nat) (l0 : List Int) (a1 : Int) : Option (List Int) := (slices_Clone_byte_byte.f l0).bind fun t101 => (if a1 > 268435455 then (some t101) else (wire_Var.l0 k a1 t101))
theorem z36m0 {p : Prop} (h : p := by
 repeat' first
 | (with_reducible exact ih0 _ _)
 | (with_reducible exact LeO.refl _)
 | (with_reducible exact LeO.none _)
 | (with_reducible refine LeO.ite ?_ ?_)
 | (with_reducible refine LeO.bind ?_ (fun _ => ?_))
 | exact ih0 _ _
 | exact LeO.none _
 | refine LeO.ite ?_ ?_
 | refine LeO.bind ?_ (fun _ => ?_)) : p := h
theorem wire_Var.mono_l : ∀ k, (∀ y0 y1, LeO (wire_Var.l0 k y0 y1) (wire_Var.l0 (k + 1) y0 y1))
  | 0 => fun _ _ r h => by simp [wire_Var.l0] at h
  | k + 1 => by
    have ih0 := wire_Var.mono_l k
    · intro y0 y1
      unfold wire_Var.l0
      exact z36m0
theorem wire_Var.mono : ∀ a0 a1 k, LeO (wire_Var.f k a0 a1) (wire_Var.f (k + 1) a0 a1) := by
  intro a0 a1 k
  have ih0 := wire_Var.mono_l k
  unfold wire_Var.f
  exact z36m0
theorem z36z0 {p : Prop} (h : p := by repeat (first | (with_reducible first | exact HB.out | apply below_alloc | apply pw_below_drewN | apply below_drew1) | exact HB.out)) : p := h
theorem z36z1 {p : Prop} (h : p := by (try simp only [List.map_toArray, List.map_cons, List.map_nil]); first | done | rfl | (simp only [List.length_drop, List.length_take]; rfl)) : p := h
theorem z36z2 {p : Prop} (h : p := by repeat (first | exact HR0.out | (with_reducible refine Kd.C_alloc ?_ _) | (with_reducible refine Kd.C_drewN ?_ _) | (with_reducible refine Kd.C_drew ?_))) : p := h
theorem z36z3 {p : Prop} (h : p := by (with_reducible repeat (first | apply Kd.R_alloc | apply Kd.R_drewN | apply Kd.R_drew)); exact HO_5.out) : p := h
set_option maxHeartbeats 8000000 in
set_option maxRecDepth 100000 in
theorem wire_Var.calls (k : Nat) (A0 : Option Addr) (c0 : Nat) (l0 : List Int) (a1 : Int) (r : List Int) (w : World) (hr0 : Kd.C (Kd.int .u8) w A0 l0.length l0) (hc0 : l0.length ≤ c0) (h : wire_Var.f k l0 a1 = some r) :
  Calls Tryd.prog 36 #[.slice A0 l0.length c0, .int .u32 a1] w fun e w' => ∃ v0_ : Value, e = .returned (v0_) ∧ Kd.R (Kd.int .u8) 5 w' w.heap.size (fun _ => True) v0_ r ∧ Below w.heap.size w w' := by
 have HR0 := Aside0.mk hr0
 have HC0 := Aside0.mk hc0
 clear hr0 hc0
 have HB := Aside0.mk (Below.refl w.heap.size w)
 have H : ((slices_Clone_byte_byte.f l0).bind fun t101 => (if a1 > 268435455 then (some t101) else (wire_Var.l0 k a1 t101))) = some r := h
 clear h
 replace H := Option.bind_eq_some_iff.mp H
 obtain ⟨t101, A30, H⟩ := H
 replace H : (if a1 > 268435455 then (some t101) else (wire_Var.l0 k a1 t101)) = some r := H
 have A3 := Aside0.mk A30
 clear A30
 by_cases c4 : a1 > 268435455
 ·rw [if_pos c4] at H
  have c4b0 : decide (268435455 < a1) = true := decide_eq_true c4
  clear c4
  obtain rfl := Option.some.inj H
  go_enter Tryd.func36, Tryd.ntmps36
  go_wp2_with (first | ((with_reducible refine gate_callee (f := 35) rfl ?_); refine goesL_ (some 7) rfl rfl Tryd.func35 (by kernel_rfl) rfl #[.slice A0 l0.length c0] rfl z36z1 ?_; (with_reducible refine (slices_Clone_byte_byte.calls _ _ l0 t101 _ ?side1 ?side2 A3.out).mono ?_); (case side1 => exact z36z2); (case side2 => exact HC0.out); rintro e w5 ⟨v102, rfl, ho0, hb⟩; refine ⟨_, rfl, ?_⟩; have n0_ := Aside0.mk (Kd.R_lower ho0 (below_size z36z0)); have n1_ := Aside0.mk (below_step z36z0 hb); have HO103 := n0_; replace HB := n1_; clear n0_ n1_; clear hb ho0))
  go_ret
  exact ⟨_, by first | rfl | (simp [errW_none, errW_some] <;> rfl) | (simp [*, errW_none, errW_some] <;> rfl), by (with_reducible repeat (first | apply Kd.R_alloc | apply Kd.R_drewN | apply Kd.R_drew)); exact HO103.out, by repeat (first | (with_reducible first | exact HB.out | apply below_alloc | apply pw_below_drewN | apply below_drew1) | exact HB.out)⟩
 ·rw [if_neg c4] at H
  have c4b0 : decide (268435455 < a1) = false := decide_eq_false c4
  clear c4
  have H' := Aside0.mk H
  clear H
  go_enter Tryd.func36, Tryd.ntmps36
  go_wp2_with (first | ((with_reducible refine gate_callee (f := 35) rfl ?_); refine goesL_ (some 7) rfl rfl Tryd.func35 (by kernel_rfl) rfl #[.slice A0 l0.length c0] rfl z36z1 ?_; (with_reducible refine (slices_Clone_byte_byte.calls _ _ l0 t101 _ ?side1 ?side2 A3.out).mono ?_); (case side1 => exact z36z2); (case side2 => exact HC0.out); rintro e w6 ⟨v102, rfl, ho0, hb⟩; refine ⟨_, rfl, ?_⟩; have n0_ := Aside0.mk (Kd.R_lower ho0 (below_size z36z0)); have n1_ := Aside0.mk (below_step z36z0 hb); have HO103 := n0_; replace HB := n1_; clear n0_ n1_; clear hb ho0))
  go_loopg [1, 5] k (fun kq v1 v5 w' => ∃ (x1_1 : Int) (x5_1 : List Int), v1 = .int .u32 x1_1 ∧ Aside0 (wire_Var.l0 kq x1_1 x5_1 = some r) ∧ Aside0 (kq ≤ k) ∧ Aside0 (Kd.R (Kd.int .u8) 5 w' w.heap.size (fun _ => True) v5 x5_1) ∧ Aside0 (Below w.heap.size w w'))
  case atStart => exact ⟨(a1), (t101), (by first | rfl | (simp; done) | (simp [*]; done)), H', ⟨Nat.le_refl _⟩, ⟨by (with_reducible repeat (first | apply Kd.R_alloc | apply Kd.R_drewN | apply Kd.R_drew)); exact HO103.out⟩, ⟨by repeat (first | (with_reducible first | exact HB.out | apply below_alloc | apply pw_below_drewN | apply below_drew1) | exact HB.out)⟩⟩
  case round =>
   clear H'
   try clear p2
   try clear c3
   try clear c4
   try clear c4b0
   obtain ⟨x1_1, x5_1, rfl, HA, HK1, HO_5, HB⟩ := hrel
   cases gk with
   | zero => exact absurd HA.out (by simp [wire_Var.l0])
   | succ k1 =>
    have H := HA.out
    clear HA
    simp only [wire_Var.l0] at H
    by_cases c7 : x1_1 ≥ 128
    ·rw [if_pos c7] at H
     have c7b0 : decide (128 ≤ x1_1) = true := decide_eq_true c7
     clear c7
     by_cases c8 : x5_1.length < 140737488355328
     ·rw [if_pos c8] at H
      have LMc8 := Aside0.mk c8
      clear c8
      obtain ⟨y104, hy104⟩ : ∃ y_ : List Int, y_ = (x5_1 ++ [Go.bits .or .u8 ((x1_1) % 256) 128]) := ⟨_, rfl⟩
      replace H : (wire_Var.l0 k1 (x1_1 / 128) y104) = some r := by first | (rw [hy104]; with_reducible exact H) | (have H2_ := (Option.bind_some _ _).symm.trans H; rw [hy104]; with_reducible exact H2_) | (have H2_ := (Option.bind_some _ _).symm.trans H; with_reducible exact H2_) | with_reducible exact H | (rw [hy104]; exact H) | exact H
      have Ny104 := Aside0.mk hy104
      clear hy104
      have H' := Aside0.mk H
      clear H
      go_wp2_with (first | ((with_reducible refine gate_builtin (b := .append) (xs := #[.tmp 15, .tmp 19]) rfl ?_); at_builtin; refine Kd.R_append (Kd.int .u8) (w0 := w) w.heap.size rfl (.tmp 15) (.tmp 19) 25 5 (.int .u8 0) 1 rfl Tryd.underlying25 info5 rfl (by decide) (by omega) u5 x5_1 (Go.bits .or .u8 ((x1_1) % 256) 128) [.int .u8 (Go.bits .or .u8 ((x1_1) % 256) 128)] (fun _ => True) (fun _ => False) rfl rfl ?aP (fun _ hk => hk.elim) ?aF ?aO ?aB ?aS ?aL ?_; (case aP => exact rfl); (case aB => exact z36z0); (case aF => exact (fun _ _ => trivial)); (case aO => exact z36z3); (case aS => exact (below_size z36z0)); (case aL => have := LMc8.out; omega); intro v105 w9 ho hb hg hat; rw [← Ny104.out] at ho; have n0_ := Aside0.mk (hb); have n1_ := Aside0.mk (ho); replace HB := n0_; have HO106 := n1_; clear HO_5; clear n0_ n1_; clear ho hb hg hat))
      go_roundg k1
      case measure => have := HK1.out; omega
      case rel => exact ⟨(x1_1 / 128), (y104), (by first | rfl | (simp; done) | (simp [*]; done)), H', ⟨by have := HK1.out; omega⟩, ⟨by (with_reducible repeat (first | apply Kd.R_alloc | apply Kd.R_drewN | apply Kd.R_drew)); exact HO106.out⟩, ⟨by repeat (first | (with_reducible first | exact HB.out | apply below_alloc | apply pw_below_drewN | apply below_drew1) | exact HB.out)⟩⟩
     ·rw [if_neg c8] at H
      exact absurd H (by simp)
    ·rw [if_neg c7] at H
     have c7b0 : decide (128 ≤ x1_1) = false := decide_eq_false c7
     clear c7
     by_cases c10 : x5_1.length < 140737488355328
     ·rw [if_pos c10] at H
      have LMc10 := Aside0.mk c10
      clear c10
      obtain ⟨y107, hy107⟩ : ∃ y_ : List Int, y_ = (x5_1 ++ [(x1_1) % 256]) := ⟨_, rfl⟩
      replace H : (some y107) = some r := by first | (rw [hy107]; with_reducible exact H) | (have H2_ := (Option.bind_some _ _).symm.trans H; rw [hy107]; with_reducible exact H2_) | (have H2_ := (Option.bind_some _ _).symm.trans H; with_reducible exact H2_) | with_reducible exact H | (rw [hy107]; exact H) | exact H
      have Ny107 := Aside0.mk hy107
      clear hy107
      obtain rfl := Option.some.inj H
      go_wp2_with (first | ((with_reducible refine gate_builtin (b := .append) (xs := #[.tmp 21, .tmp 24]) rfl ?_); at_builtin; refine Kd.R_append (Kd.int .u8) (w0 := w) w.heap.size rfl (.tmp 21) (.tmp 24) 25 5 (.int .u8 0) 1 rfl Tryd.underlying25 info5 rfl (by decide) (by omega) u5 x5_1 ((x1_1) % 256) [.int .u8 ((x1_1) % 256)] (fun _ => True) (fun _ => False) rfl rfl ?aP (fun _ hk => hk.elim) ?aF ?aO ?aB ?aS ?aL ?_; (case aP => exact rfl); (case aB => exact z36z0); (case aF => exact (fun _ _ => trivial)); (case aO => exact z36z3); (case aS => exact (below_size z36z0)); (case aL => have := LMc10.out; omega); intro v108 w11 ho hb hg hat; rw [← Ny107.out] at ho; have n0_ := Aside0.mk (hb); have n1_ := Aside0.mk (ho); replace HB := n0_; have HO109 := n1_; clear HO_5; clear n0_ n1_; clear ho hb hg hat))
      go_ret
      exact ⟨_, by first | rfl | (simp [errW_none, errW_some] <;> rfl) | (simp [*, errW_none, errW_some] <;> rfl), by (with_reducible repeat (first | apply Kd.R_alloc | apply Kd.R_drewN | apply Kd.R_drew)); exact HO109.out, by repeat (first | (with_reducible first | exact HB.out | apply below_alloc | apply pw_below_drewN | apply below_drew1) | exact HB.out)⟩
     ·rw [if_neg c10] at H
      exact absurd H (by simp)
end Go.Proofs.YtkmkgpigmldhnaaDoor.P

namespace Go.Proofs.YtkmkgpigmldhnaaDoor.P
open Go.RowKit Go.Proofs.YtkmkgpigmldhnaaDoorW.PrintWords Go.Proofs.YtkmkgpigmldhnaaDoorW.PrintLast Go.Proofs.YtkmkgpigmldhnaaDoorW.PrintMore
attribute [local go_sem] max2_int min2_int max_two min_two max_three min_three max_four min_four
set_option linter.unusedVariables false
set_option linter.unusedSimpArgs false
def wire_Byte.f (l0 : List Int) (a1 : Int) : Option (List Int) := (slices_Clone_byte_byte.f l0).bind fun t101 => (if t101.length < 140737488355328 then (some (t101 ++ [a1])) else (none))
theorem z89z0 {p : Prop} (h : p := by repeat (first | (with_reducible first | exact HB.out | apply below_alloc | apply pw_below_drewN | apply below_drew1) | exact HB.out)) : p := h
set_option maxHeartbeats 8000000 in
set_option maxRecDepth 100000 in
theorem wire_Byte.calls (A0 : Option Addr) (c0 : Nat) (l0 : List Int) (a1 : Int) (r : List Int) (w : World) (hr0 : Kd.C (Kd.int .u8) w A0 l0.length l0) (hc0 : l0.length ≤ c0) (h : wire_Byte.f l0 a1 = some r) :
  Calls Tryd.prog 89 #[.slice A0 l0.length c0, .int .u8 a1] w fun e w' => ∃ v0_ : Value, e = .returned (v0_) ∧ Kd.R (Kd.int .u8) 5 w' w.heap.size (fun _ => True) v0_ r ∧ Below w.heap.size w w' := by
 have HR0 := Aside0.mk hr0
 have HC0 := Aside0.mk hc0
 clear hr0 hc0
 have HB := Aside0.mk (Below.refl w.heap.size w)
 have H : ((slices_Clone_byte_byte.f l0).bind fun t101 => (if t101.length < 140737488355328 then (some (t101 ++ [a1])) else (none))) = some r := h
 clear h
 replace H := Option.bind_eq_some_iff.mp H
 obtain ⟨t101, A30, H⟩ := H
 replace H : (if t101.length < 140737488355328 then (some (t101 ++ [a1])) else (none)) = some r := H
 have A3 := Aside0.mk A30
 clear A30
 by_cases c4 : t101.length < 140737488355328
 ·rw [if_pos c4] at H
  have LMc4 := Aside0.mk c4
  clear c4
  obtain ⟨y104, hy104⟩ : ∃ y_ : List Int, y_ = (t101 ++ [a1]) := ⟨_, rfl⟩
  replace H : (some y104) = some r := by first | (rw [hy104]; with_reducible exact H) | (have H2_ := (Option.bind_some _ _).symm.trans H; rw [hy104]; with_reducible exact H2_) | (have H2_ := (Option.bind_some _ _).symm.trans H; with_reducible exact H2_) | with_reducible exact H | (rw [hy104]; exact H) | exact H
  have Ny104 := Aside0.mk hy104
  clear hy104
  obtain rfl := Option.some.inj H
  go_enter Tryd.func89, Tryd.ntmps89
  go_wp2_with (first | ((with_reducible refine gate_callee (f := 35) rfl ?_); refine goesL_ (some 6) rfl rfl Tryd.func35 (by kernel_rfl) rfl #[.slice A0 l0.length c0] rfl (by (try simp only [List.map_toArray, List.map_cons, List.map_nil]); first | done | rfl | (simp only [List.length_drop, List.length_take]; rfl)) ?_; (with_reducible refine (slices_Clone_byte_byte.calls _ _ l0 t101 _ ?side1 ?side2 A3.out).mono ?_); (case side1 => repeat (first | exact HR0.out | (with_reducible refine Kd.C_alloc ?_ _) | (with_reducible refine Kd.C_drewN ?_ _) | (with_reducible refine Kd.C_drew ?_))); (case side2 => exact HC0.out); rintro e w5 ⟨v102, rfl, ho0, hb⟩; refine ⟨_, rfl, ?_⟩; have n0_ := Aside0.mk (Kd.R_lower ho0 (below_size z89z0)); have n1_ := Aside0.mk (below_step z89z0 hb); have HO103 := n0_; replace HB := n1_; clear n0_ n1_; clear hb ho0) | ((with_reducible refine gate_builtin (b := .append) (xs := #[.tmp 6, .tmp 8]) rfl ?_); at_builtin; refine Kd.R_append (Kd.int .u8) (w0 := w) w.heap.size rfl (.tmp 6) (.tmp 8) 25 5 (.int .u8 0) 1 rfl Tryd.underlying25 info5 rfl (by decide) (by omega) v102 t101 a1 [.int .u8 a1] (fun _ => True) (fun _ => False) rfl rfl ?aP (fun _ hk => hk.elim) ?aF ?aO ?aB ?aS ?aL ?_; (case aP => exact rfl); (case aB => exact z89z0); (case aF => exact (fun _ _ => trivial)); (case aO => exact (by (with_reducible repeat (first | apply Kd.R_alloc | apply Kd.R_drewN | apply Kd.R_drew)); exact HO103.out)); (case aS => exact (below_size z89z0)); (case aL => have := LMc4.out; omega); intro v105 w6 ho hb hg hat; rw [← Ny104.out] at ho; have n0_ := Aside0.mk (hb); have n1_ := Aside0.mk (ho); replace HB := n0_; have HO106 := n1_; clear HO103; clear n0_ n1_; clear ho hb hg hat))
  go_ret
  exact ⟨_, by first | rfl | (simp [errW_none, errW_some] <;> rfl) | (simp [*, errW_none, errW_some] <;> rfl), by (with_reducible repeat (first | apply Kd.R_alloc | apply Kd.R_drewN | apply Kd.R_drew)); exact HO106.out, by repeat (first | (with_reducible first | exact HB.out | apply below_alloc | apply pw_below_drewN | apply below_drew1) | exact HB.out)⟩
 ·rw [if_neg c4] at H
  exact absurd H (by simp)
end Go.Proofs.YtkmkgpigmldhnaaDoor.P

namespace Go.Proofs.YtkmkgpigmldhnaaDoor.P
open Go.RowKit Go.Proofs.YtkmkgpigmldhnaaDoorW.PrintWords Go.Proofs.YtkmkgpigmldhnaaDoorW.PrintLast Go.Proofs.YtkmkgpigmldhnaaDoorW.PrintMore
attribute [local go_sem] max2_int min2_int max_two min_two max_three min_three max_four min_four
set_option linter.unusedVariables false
set_option linter.unusedSimpArgs false
def wire_Two.f (l0 : List Int) (a1 : Int) : Option (List Int) := (slices_Clone_byte_byte.f l0).bind fun t101 => ((some (([(a1 / 256) % 256, (a1) % 256] : List Int) : List Int)).bind fun y104 => (if t101.length + y104.length < 140737488355328 then (some (t101 ++ y104)) else (none)))
theorem z90z0 {p : Prop} (h : p := by repeat (first | (with_reducible first | exact HB.out | apply below_alloc | apply pw_below_drewN | apply below_drew1) | exact HB.out)) : p := h
theorem z90z1 {p : Prop} (h : p := by (with_reducible repeat (first | apply Kd.R_alloc | apply Kd.R_drewN | apply Kd.R_drew)); exact HO103.out) : p := h
theorem z90z2 {p : Prop} (h : p := by (with_reducible repeat (first | apply Kd.R_alloc | apply Kd.R_drewN | apply Kd.R_drew)); exact HO106.out) : p := h
set_option maxHeartbeats 8000000 in
set_option maxRecDepth 100000 in
theorem wire_Two.calls (A0 : Option Addr) (c0 : Nat) (l0 : List Int) (a1 : Int) (r : List Int) (w : World) (hr0 : Kd.C (Kd.int .u8) w A0 l0.length l0) (hc0 : l0.length ≤ c0) (h : wire_Two.f l0 a1 = some r) :
  Calls Tryd.prog 90 #[.slice A0 l0.length c0, .int .u16 a1] w fun e w' => ∃ v0_ : Value, e = .returned (v0_) ∧ Kd.R (Kd.int .u8) 5 w' w.heap.size (fun _ => True) v0_ r ∧ Below w.heap.size w w' := by
 have HR0 := Aside0.mk hr0
 have HC0 := Aside0.mk hc0
 clear hr0 hc0
 have HB := Aside0.mk (Below.refl w.heap.size w)
 have H : ((slices_Clone_byte_byte.f l0).bind fun t101 => ((some (([(a1 / 256) % 256, (a1) % 256] : List Int) : List Int)).bind fun y104 => (if t101.length + y104.length < 140737488355328 then (some (t101 ++ y104)) else (none)))) = some r := h
 clear h
 replace H := Option.bind_eq_some_iff.mp H
 obtain ⟨t101, A30, H⟩ := H
 replace H : ((some (([(a1 / 256) % 256, (a1) % 256] : List Int) : List Int)).bind fun y104 => (if t101.length + y104.length < 140737488355328 then (some (t101 ++ y104)) else (none))) = some r := H
 have A3 := Aside0.mk A30
 clear A30
 obtain ⟨y104, hy104⟩ : ∃ y_ : List Int, y_ = (([(a1 / 256) % 256, (a1) % 256] : List Int)) := ⟨_, rfl⟩
 replace H : (if t101.length + y104.length < 140737488355328 then (some (t101 ++ y104)) else (none)) = some r := by first | (rw [hy104]; with_reducible exact H) | (have H2_ := (Option.bind_some _ _).symm.trans H; rw [hy104]; with_reducible exact H2_) | (have H2_ := (Option.bind_some _ _).symm.trans H; with_reducible exact H2_) | with_reducible exact H | (rw [hy104]; exact H) | exact H
 have Ny104 := Aside0.mk hy104
 clear hy104
 by_cases c4 : t101.length + y104.length < 140737488355328
 ·rw [if_pos c4] at H
  have LMc4 := Aside0.mk c4
  clear c4
  obtain ⟨y107, hy107⟩ : ∃ y_ : List Int, y_ = (t101 ++ y104) := ⟨_, rfl⟩
  replace H : (some y107) = some r := by first | (rw [hy107]; with_reducible exact H) | (have H2_ := (Option.bind_some _ _).symm.trans H; rw [hy107]; with_reducible exact H2_) | (have H2_ := (Option.bind_some _ _).symm.trans H; with_reducible exact H2_) | with_reducible exact H | (rw [hy107]; exact H) | exact H
  have Ny107 := Aside0.mk hy107
  clear hy107
  obtain rfl := Option.some.inj H
  go_enter Tryd.func90, Tryd.ntmps90
  go_wp2_with (first | ((with_reducible refine gate_callee (f := 35) rfl ?_); refine goesL_ (some 6) rfl rfl Tryd.func35 (by kernel_rfl) rfl #[.slice A0 l0.length c0] rfl (by (try simp only [List.map_toArray, List.map_cons, List.map_nil]); first | done | rfl | (simp only [List.length_drop, List.length_take]; rfl)) ?_; (with_reducible refine (slices_Clone_byte_byte.calls _ _ l0 t101 _ ?side1 ?side2 A3.out).mono ?_); (case side1 => repeat (first | exact HR0.out | (with_reducible refine Kd.C_alloc ?_ _) | (with_reducible refine Kd.C_drewN ?_ _) | (with_reducible refine Kd.C_drew ?_))); (case side2 => exact HC0.out); rintro e w5 ⟨v102, rfl, ho0, hb⟩; refine ⟨_, rfl, ?_⟩; have n0_ := Aside0.mk (Kd.R_lower ho0 (below_size z90z0)); have n1_ := Aside0.mk (below_step z90z0 hb); have HO103 := n0_; replace HB := n1_; clear n0_ n1_; clear hb ho0) | ((with_reducible refine gate_dst (N := 12) rfl ?_); refine Kd.R_lit (Kd.int .u8) _ 5 ?hg (N := 12) ?hd (xs := ([(a1 / 256) % 256, (a1) % 256] : List Int)) (inner := [.int .u8 ((a1 / 256) % 256), .int .u8 ((a1) % 256)]) (ok := fun _ => True) (okp := fun _ => True) ?hr ?hp (fun _ hk => hk) trivial (Below.refl _ _) (Nat.le_refl _) (by simp) ?_; (case hd => rfl); (case hg => rfl); (case hr => first | (go_simp; done) | (go_simp; rfl)); (case hp => exact (Reps.one (show Kd.M (Kd.int .u8) _ _ _ ((a1 / 256) % 256) [.int .u8 ((a1 / 256) % 256)] from rfl) (Reps.one (show Kd.M (Kd.int .u8) _ _ _ ((a1) % 256) [.int .u8 ((a1) % 256)] from rfl) (Reps.none _ _)))); intro v105 w6 ho7 hb hg_ hnew_; clear hg_ hnew_; (first | rw [← Ny104.out] at ho7 | (simp only [Int.reduceToNat] at ho7; rw [← Ny104.out] at ho7)); have n0_ := Aside0.mk (Kd.R_elder' z90z1 (Kd.R_base ho7) hb); have n1_ := Aside0.mk (Kd.R_lower (Kd.R_new' ho7 (Kd.R_lt z90z1)) (below_size z90z0)); have n2_ := Aside0.mk (below_step z90z0 hb); replace HO103 := n0_; have HO106 := n1_; replace HB := n2_; clear n0_ n1_ n2_; clear hb ho7; obtain ⟨Ao9, co9, eo9⟩ := Kd.R_slice HO106.out; subst eo9) | ((with_reducible refine gate_builtin (b := .append) (xs := #[.tmp 6, .tmp 12]) rfl ?_); at_builtin; refine Kd.R_append_rows (Kd.int .u8) (w0 := w) w.heap.size rfl (.tmp 6) (.tmp 12) 25 5 (.int .u8 0) 1 rfl Tryd.underlying25 info5 rfl (by decide) (by omega) v102 t101 y104 _ _ _ (fun k_ => some k_ ≠ (.slice Ao9 y104.length co9 : Value).ownBlock) (fun _ => False) rfl rfl ?aO ?aR (fun _ _ h => h) (fun _ h => h.elim) ?aF ?aB ?aS ?aL ?_; (case aR => repeat (first | exact (Kd.R_reads' HO106.out).2.2 | (with_reducible refine Kd.C_alloc ?_ _) | (with_reducible refine Kd.C_drewN ?_ _) | (with_reducible refine Kd.C_drew ?_))); (case aB => exact z90z0); (case aF => exact (fun k_ hk => Kd.fresh' (Kd.R_lt z90z2) k_ hk)); (case aO => exact (by (with_reducible repeat (first | apply Kd.R_alloc | apply Kd.R_drewN | apply Kd.R_drew)); exact Kd.R_mono HO103.out (fun _ hk => hk.2))); (case aS => exact (below_size z90z0)); (case aL => have := LMc4.out; omega); intro v108 w8 ho hb hg hat; rw [← Ny107.out] at ho; have n0_ := Aside0.mk (Kd.R_after (ok := (fun _ => True)) z90z2 hg hat); have n1_ := Aside0.mk (hb); have n2_ := Aside0.mk (ho); replace HO106 := n0_; replace HB := n1_; have HO109 := n2_; clear HO103; clear n0_ n1_ n2_; clear ho hb hg hat))
  go_ret
  exact ⟨_, by first | rfl | (simp [errW_none, errW_some] <;> rfl) | (simp [*, errW_none, errW_some] <;> rfl), by (with_reducible repeat (first | apply Kd.R_alloc | apply Kd.R_drewN | apply Kd.R_drew)); exact Kd.R_mono HO109.out (fun _ hk => trivial), by repeat (first | (with_reducible first | exact HB.out | apply below_alloc | apply pw_below_drewN | apply below_drew1) | exact HB.out)⟩
 ·rw [if_neg c4] at H
  exact absurd H (by simp)
end Go.Proofs.YtkmkgpigmldhnaaDoor.P

namespace Go.Proofs.YtkmkgpigmldhnaaDoor.P
open Go.RowKit Go.Proofs.YtkmkgpigmldhnaaDoorW.PrintWords Go.Proofs.YtkmkgpigmldhnaaDoorW.PrintLast Go.Proofs.YtkmkgpigmldhnaaDoorW.PrintMore
attribute [local go_sem] max2_int min2_int max_two min_two max_three min_three max_four min_four
set_option linter.unusedVariables false
set_option linter.unusedSimpArgs false
def wire_Four.f (l0 : List Int) (a1 : Int) : Option (List Int) := (wire_Two.f l0 (IntKind.u16.wrap (a1 / 65536))).bind fun t101 => ((wire_Two.f t101 (IntKind.u16.wrap (a1))).bind fun t104 => (some t104))
theorem z91z0 {p : Prop} (h : p := by repeat (first | (with_reducible first | exact HB.out | apply below_alloc | apply pw_below_drewN | apply below_drew1) | exact HB.out)) : p := h
theorem z91z1 {p : Prop} (h : p := by (try simp only [List.map_toArray, List.map_cons, List.map_nil]); first | done | rfl | (simp only [List.length_drop, List.length_take]; rfl)) : p := h
theorem z91z2 {p : Prop} (h : p := by (with_reducible repeat (first | apply Kd.R_alloc | apply Kd.R_drewN | apply Kd.R_drew)); exact HO103.out) : p := h
set_option maxHeartbeats 8000000 in
set_option maxRecDepth 100000 in
theorem wire_Four.calls (A0 : Option Addr) (c0 : Nat) (l0 : List Int) (a1 : Int) (r : List Int) (w : World) (hr0 : Kd.C (Kd.int .u8) w A0 l0.length l0) (hc0 : l0.length ≤ c0) (h : wire_Four.f l0 a1 = some r) :
  Calls Tryd.prog 91 #[.slice A0 l0.length c0, .int .u32 a1] w fun e w' => ∃ v0_ : Value, e = .returned (v0_) ∧ Kd.R (Kd.int .u8) 5 w' w.heap.size (fun _ => True) v0_ r ∧ Below w.heap.size w w' := by
 have HR0 := Aside0.mk hr0
 have HC0 := Aside0.mk hc0
 clear hr0 hc0
 have HB := Aside0.mk (Below.refl w.heap.size w)
 have H : ((wire_Two.f l0 (IntKind.u16.wrap (a1 / 65536))).bind fun t101 => ((wire_Two.f t101 (IntKind.u16.wrap (a1))).bind fun t104 => (some t104))) = some r := h
 clear h
 replace H := Option.bind_eq_some_iff.mp H
 obtain ⟨t101, A30, H⟩ := H
 replace H : ((wire_Two.f t101 (IntKind.u16.wrap (a1))).bind fun t104 => (some t104)) = some r := H
 have A3 := Aside0.mk A30
 clear A30
 replace H := Option.bind_eq_some_iff.mp H
 obtain ⟨t104, A40, H⟩ := H
 replace H : (some t104) = some r := H
 have A4 := Aside0.mk A40
 clear A40
 obtain rfl := Option.some.inj H
 go_enter Tryd.func91, Tryd.ntmps91
 go_wp2_with (first | ((with_reducible refine gate_callee (f := 90) rfl ?_); refine goesL_ (some 9) rfl rfl Tryd.func90 (by kernel_rfl) rfl #[.slice A0 l0.length c0, .int .u16 (IntKind.u16.wrap (a1 / 65536))] rfl z91z1 ?_; (with_reducible refine (wire_Two.calls _ _ l0 (IntKind.u16.wrap (a1 / 65536)) t101 _ ?side1 ?side2 A3.out).mono ?_); (case side1 => repeat (first | exact HR0.out | (with_reducible refine Kd.C_alloc ?_ _) | (with_reducible refine Kd.C_drewN ?_ _) | (with_reducible refine Kd.C_drew ?_))); (case side2 => exact HC0.out); rintro e w5 ⟨v102, rfl, ho0, hb⟩; refine ⟨_, rfl, ?_⟩; have n0_ := Aside0.mk (Kd.R_lower ho0 (below_size z91z0)); have n1_ := Aside0.mk (below_step z91z0 hb); have HO103 := n0_; replace HB := n1_; clear n0_ n1_; clear hb ho0; obtain ⟨Ao6, co6, eo6⟩ := Kd.R_slice HO103.out; subst eo6) | ((with_reducible refine gate_callee (f := 90) rfl ?_); refine goesL_ (some 12) rfl rfl Tryd.func90 (by kernel_rfl) rfl #[.slice Ao6 t101.length co6, .int .u16 (IntKind.u16.wrap (a1))] rfl z91z1 ?_; (with_reducible refine (wire_Two.calls _ _ t101 (IntKind.u16.wrap (a1)) t104 _ ?side1 ?side2 A4.out).mono ?_); (case side1 => repeat (first | exact (Kd.R_reads' HO103.out).2.2 | (with_reducible refine Kd.C_alloc ?_ _) | (with_reducible refine Kd.C_drewN ?_ _) | (with_reducible refine Kd.C_drew ?_))); (case side2 => exact (Kd.R_reads' HO103.out).2.1); rintro e w7 ⟨v105, rfl, ho0, hb⟩; refine ⟨_, rfl, ?_⟩; have n0_ := Aside0.mk (Kd.R_elder' z91z2 (Kd.R_base ho0) hb); have n1_ := Aside0.mk (Kd.R_lower (Kd.R_new' ho0 (Kd.R_lt z91z2)) (below_size z91z0)); have n2_ := Aside0.mk (below_step z91z0 hb); replace HO103 := n0_; have HO106 := n1_; replace HB := n2_; clear n0_ n1_ n2_; clear hb ho0))
 go_ret
 exact ⟨_, by first | rfl | (simp [errW_none, errW_some] <;> rfl) | (simp [*, errW_none, errW_some] <;> rfl), by (with_reducible repeat (first | apply Kd.R_alloc | apply Kd.R_drewN | apply Kd.R_drew)); exact Kd.R_mono HO106.out (fun _ hk => trivial), by repeat (first | (with_reducible first | exact HB.out | apply below_alloc | apply pw_below_drewN | apply below_drew1) | exact HB.out)⟩
end Go.Proofs.YtkmkgpigmldhnaaDoor.P

namespace Go.Proofs.YtkmkgpigmldhnaaDoor.P
open Go.RowKit Go.Proofs.YtkmkgpigmldhnaaDoorW.PrintWords Go.Proofs.YtkmkgpigmldhnaaDoorW.PrintLast Go.Proofs.YtkmkgpigmldhnaaDoorW.PrintMore
attribute [local go_sem] max2_int min2_int max_two min_two max_three min_three max_four min_four
set_option linter.unusedVariables false
set_option linter.unusedSimpArgs false
def wire_Bin.f (l0 : List Int) (a1 : ByteArray) : Option (List Int) := if (a1.size : Int) > 65535 then ((slices_Clone_byte_byte.f l0).bind fun t101 => (some t101)) else ((wire_Two.f l0 (IntKind.u16.wrap ((a1.size : Int)))).bind fun t104 => (if t104.length + a1.size < 140737488355328 then (some (t104 ++ bytesOf a1)) else (none)))
theorem z92z0 {p : Prop} (h : p := by repeat (first | (with_reducible first | exact HB.out | apply below_alloc | apply pw_below_drewN | apply below_drew1) | exact HB.out)) : p := h
theorem z92z1 {p : Prop} (h : p := by (try simp only [List.map_toArray, List.map_cons, List.map_nil]); first | done | rfl | (simp only [List.length_drop, List.length_take]; rfl)) : p := h
theorem z92z2 {p : Prop} (h : p := by repeat (first | exact HR0.out | (with_reducible refine Kd.C_alloc ?_ _) | (with_reducible refine Kd.C_drewN ?_ _) | (with_reducible refine Kd.C_drew ?_))) : p := h
set_option maxHeartbeats 8000000 in
set_option maxRecDepth 100000 in
theorem wire_Bin.calls (A0 : Option Addr) (c0 : Nat) (l0 : List Int) (a1 : ByteArray) (r : List Int) (w : World) (hr0 : Kd.C (Kd.int .u8) w A0 l0.length l0) (hc0 : l0.length ≤ c0) (h : wire_Bin.f l0 a1 = some r) :
  Calls Tryd.prog 92 #[.slice A0 l0.length c0, .string a1] w fun e w' => ∃ v0_ : Value, e = .returned (v0_) ∧ Kd.R (Kd.int .u8) 5 w' w.heap.size (fun _ => True) v0_ r ∧ Below w.heap.size w w' := by
 have HR0 := Aside0.mk hr0
 have HC0 := Aside0.mk hc0
 clear hr0 hc0
 have HB := Aside0.mk (Below.refl w.heap.size w)
 have H : (if (a1.size : Int) > 65535 then ((slices_Clone_byte_byte.f l0).bind fun t101 => (some t101)) else ((wire_Two.f l0 (IntKind.u16.wrap ((a1.size : Int)))).bind fun t104 => (if t104.length + a1.size < 140737488355328 then (some (t104 ++ bytesOf a1)) else (none)))) = some r := h
 clear h
 by_cases c3 : (a1.size : Int) > 65535
 ·rw [if_pos c3] at H
  have c3b0 : decide (65535 < (a1.size : Int)) = true := decide_eq_true c3
  have c3b1 : decide (65535 < a1.size) = true := decide_eq_true (by omega)
  clear c3
  replace H := Option.bind_eq_some_iff.mp H
  obtain ⟨t101, A40, H⟩ := H
  replace H : (some t101) = some r := H
  have A4 := Aside0.mk A40
  clear A40
  obtain rfl := Option.some.inj H
  go_enter Tryd.func92, Tryd.ntmps92
  go_wp2_with (first | ((with_reducible refine gate_callee (f := 35) rfl ?_); refine goesL_ (some 9) rfl rfl Tryd.func35 (by kernel_rfl) rfl #[.slice A0 l0.length c0] rfl z92z1 ?_; (with_reducible refine (slices_Clone_byte_byte.calls _ _ l0 t101 _ ?side1 ?side2 A4.out).mono ?_); (case side1 => exact z92z2); (case side2 => exact HC0.out); rintro e w5 ⟨v102, rfl, ho0, hb⟩; refine ⟨_, rfl, ?_⟩; have n0_ := Aside0.mk (Kd.R_lower ho0 (below_size z92z0)); have n1_ := Aside0.mk (below_step z92z0 hb); have HO103 := n0_; replace HB := n1_; clear n0_ n1_; clear hb ho0))
  go_ret
  exact ⟨_, by first | rfl | (simp [errW_none, errW_some] <;> rfl) | (simp [*, errW_none, errW_some] <;> rfl), by (with_reducible repeat (first | apply Kd.R_alloc | apply Kd.R_drewN | apply Kd.R_drew)); exact HO103.out, by repeat (first | (with_reducible first | exact HB.out | apply below_alloc | apply pw_below_drewN | apply below_drew1) | exact HB.out)⟩
 ·rw [if_neg c3] at H
  have c3b0 : decide (65535 < (a1.size : Int)) = false := decide_eq_false c3
  have c3b1 : decide (65535 < a1.size) = false := decide_eq_false (by omega)
  clear c3
  replace H := Option.bind_eq_some_iff.mp H
  obtain ⟨t104, A60, H⟩ := H
  replace H : (if t104.length + a1.size < 140737488355328 then (some (t104 ++ bytesOf a1)) else (none)) = some r := H
  have A6 := Aside0.mk A60
  clear A60
  by_cases c7 : t104.length + a1.size < 140737488355328
  ·rw [if_pos c7] at H
   have LMc7 := Aside0.mk c7
   clear c7
   obtain ⟨y107, hy107⟩ : ∃ y_ : List Int, y_ = (t104 ++ bytesOf a1) := ⟨_, rfl⟩
   replace H : (some y107) = some r := by first | (rw [hy107]; with_reducible exact H) | (have H2_ := (Option.bind_some _ _).symm.trans H; rw [hy107]; with_reducible exact H2_) | (have H2_ := (Option.bind_some _ _).symm.trans H; with_reducible exact H2_) | with_reducible exact H | (rw [hy107]; exact H) | exact H
   have Ny107 := Aside0.mk hy107
   clear hy107
   obtain rfl := Option.some.inj H
   go_enter Tryd.func92, Tryd.ntmps92
   go_wp2_with (first | ((with_reducible refine gate_callee (f := 90) rfl ?_); refine goesL_ (some 14) rfl rfl Tryd.func90 (by kernel_rfl) rfl #[.slice A0 l0.length c0, .int .u16 (IntKind.u16.wrap ((a1.size : Int)))] rfl z92z1 ?_; (with_reducible refine (wire_Two.calls _ _ l0 (IntKind.u16.wrap ((a1.size : Int))) t104 _ ?side1 ?side2 A6.out).mono ?_); (case side1 => exact z92z2); (case side2 => exact HC0.out); rintro e w8 ⟨v105, rfl, ho0, hb⟩; refine ⟨_, rfl, ?_⟩; have n0_ := Aside0.mk (Kd.R_lower ho0 (below_size z92z0)); have n1_ := Aside0.mk (below_step z92z0 hb); have HO106 := n0_; replace HB := n1_; clear n0_ n1_; clear hb ho0) | (at_builtin; refine print_append_str (w0 := w) w.heap.size rfl (.tmp 14) _ 25 9 5 rfl Tryd.underlying25 Tryd.underlying9 info5 v105 t104 a1 rfl rfl ?aO ?aB ?aS ?aL ?_; (case aB => exact z92z0); (case aO => exact (Kd.own_of_R (by (with_reducible repeat (first | apply Kd.R_alloc | apply Kd.R_drewN | apply Kd.R_drew)); exact HO106.out))); (case aS => exact (below_size z92z0)); (case aL => have := LMc7.out; omega); intro v108 w9 ho0 hb hg; have ho := Kd.R_of_own (h1 := fun _ => rfl) (ok := fun _ => True) ho0 (fun _ _ => trivial); clear ho0; have hat := True.intro; rw [← Ny107.out] at ho; change Kd.R (Kd.int .u8) 5 w9 w.heap.size (fun _ => True) v108 y107 at ho; have n0_ := Aside0.mk (hb); have n1_ := Aside0.mk (ho); replace HB := n0_; have HO109 := n1_; clear HO106; clear n0_ n1_; clear ho hb hg hat))
   go_ret
   exact ⟨_, by first | rfl | (simp [errW_none, errW_some] <;> rfl) | (simp [*, errW_none, errW_some] <;> rfl), by (with_reducible repeat (first | apply Kd.R_alloc | apply Kd.R_drewN | apply Kd.R_drew)); exact HO109.out, by repeat (first | (with_reducible first | exact HB.out | apply below_alloc | apply pw_below_drewN | apply below_drew1) | exact HB.out)⟩
  ·rw [if_neg c7] at H
   exact absurd H (by simp)
end Go.Proofs.YtkmkgpigmldhnaaDoor.P

namespace Go.Proofs.YtkmkgpigmldhnaaDoor.P
open Go.RowKit Go.Proofs.YtkmkgpigmldhnaaDoorW.PrintWords Go.Proofs.YtkmkgpigmldhnaaDoorW.PrintLast Go.Proofs.YtkmkgpigmldhnaaDoorW.PrintMore
attribute [local go_sem] max2_int min2_int max_two min_two max_three min_three max_four min_four
set_option linter.unusedVariables false
set_option linter.unusedSimpArgs false
def props_one.f (k : Nat) (l0 : List Int) (a1_0 : Int) (a1_1 : Int) (a1_2 : ByteArray) (a1_3 : ByteArray) : Option (List Int) := if l0.length < 140737488355328 then ((some (l0 ++ [a1_0] : List Int)).bind fun y102 => ((prop_Type.f a1_0).bind fun t105 => (if t105 = 1 then ((wire_Byte.f y102 ((a1_1) % 256)).bind fun t106 => (some t106)) else (if t105 = 2 then ((wire_Two.f y102 (IntKind.u16.wrap (a1_1))).bind fun t109 => (some t109)) else (if t105 = 3 then ((wire_Four.f y102 a1_1).bind fun t112 => (some t112)) else (if t105 = 4 then ((wire_Var.f k y102 a1_1).bind fun t115 => (some t115)) else (if t105 = 7 then ((wire_Bin.f y102 a1_2).bind fun t118 => ((wire_Bin.f t118 a1_3).bind fun t121 => (some t121))) else ((wire_Bin.f y102 a1_2).bind fun t124 => (some t124))))))))) else (none)
theorem props_one.mono : ∀ a0 a1 a2 a3 a4 k, LeO (props_one.f k a0 a1 a2 a3 a4) (props_one.f (k + 1) a0 a1 a2 a3 a4) := by
  intro a0 a1 a2 a3 a4 k
  unfold props_one.f
  repeat' first
      | (with_reducible exact wire_Var.mono _ _ _)
      | (with_reducible exact LeO.refl _)
      | (with_reducible exact LeO.none _)
      | (with_reducible refine LeO.ite ?_ ?_)
      | (with_reducible refine LeO.bind ?_ (fun _ => ?_))
      | exact wire_Var.mono _ _ _
      | exact LeO.none _
      | refine LeO.ite ?_ ?_
      | refine LeO.bind ?_ (fun _ => ?_)
def props_one.T12 : Bool × List (List Nat × List Nat) := (true, [([], []), ([], []), ([1], [1]), ([0, 2], [0, 2]), ([], []), ([4], [4]), ([3, 5, 3], [3, 5]), ([6, 6, 0, 1, 2, 3, 4, 5, 6], [6])])
def props_one.B12 : List Nat := [0, 0, 2, 7, 0, 16, 63, 127]
theorem props_one.tab12 : rtab .any (opsOf Tryd.f66 12) = props_one.T12 := by kernel_rfl
theorem props_one.bits12 : waitsOk props_one.T12.2 props_one.B12 = true := by kernel_rfl
theorem z66z0 {p : Prop} (h : p := by repeat (first | (with_reducible first | exact HB.out | apply below_alloc | apply pw_below_drewN | apply below_drew1 | refine below_set ?_ GE101.out) | exact HB.out)) : p := h
theorem z66z1 {p : Prop} (h : p := by repeat (first | (with_reducible first | exact HK.out | apply Kept.alloc | apply Kept.drewN | apply Kept.drew | refine Kept.setCell ?_ (.inr GW101.out) _) | exact HK.out)) : p := h
theorem z66z2 {p : Prop} (h : p := by first | exact HK.out.1 | exact (show Kept w _ (fun k_ => P0_ k_) from by repeat (first | (with_reducible first | exact HK.out | apply Kept.alloc | apply Kept.drewN | apply Kept.drew | refine Kept.setCell ?_ (.inr GW101.out) _) | exact HK.out)).1) : p := h
theorem z66z3 {p : Prop} (h : p := by (with_reducible repeat (first | refine blk_drewN ?_ _ | refine blk_drew ?_ | refine blk_alloc ?_ _)); exact BK101.out) : p := h
theorem z66z4 {p : Prop} (h : p := by (with_reducible repeat (first | apply Kd.R_alloc | apply Kd.R_drewN | apply Kd.R_drew)); exact HO104.out) : p := h
theorem z66z5 {p : Prop} (h : p := by (try simp only [List.map_toArray, List.map_cons, List.map_nil]); first | done | rfl | (simp only [List.length_drop, List.length_take]; rfl)) : p := h
theorem z66z6 {p : Prop} (h : p := by repeat (first | (with_reducible first | exact HB.out | apply below_alloc | apply pw_below_drewN | apply below_drew1) | exact HB.out)) : p := h
theorem z66z7 {p : Prop} (h : p := by (with_reducible repeat (first | apply Kd.R_alloc | apply Kd.R_drewN | apply Kd.R_drew)); exact HO0.out) : p := h
theorem z66z8 {p : Prop} (h : p := by first | exact HK.out.1 | exact (show Kept w _ (fun k_ => P0_ k_) from by repeat (first | (with_reducible first | exact HK.out | apply Kept.alloc | apply Kept.drewN | apply Kept.drew) | exact HK.out)).1) : p := h
theorem z66z9 {p : Prop} (h : p := by repeat (first | exact (Kd.R_reads' HO104.out).2.2 | (with_reducible refine Kd.C_alloc ?_ _) | (with_reducible refine Kd.C_drewN ?_ _) | (with_reducible refine Kd.C_drew ?_))) : p := h
theorem z66z10 {p : Prop} (h : p := by repeat (first | (with_reducible first | exact HK.out | apply Kept.alloc | apply Kept.drewN | apply Kept.drew) | exact HK.out)) : p := h
theorem z66z11 {p : Prop} (h : p := by first | (go_simp; done) | (go_simp; rfl)) : p := h
theorem z66z12 {p : Prop} (h : p := by (with_reducible repeat (first | apply Kd.R_alloc | apply Kd.R_drewN | apply Kd.R_drew)); exact HO120.out) : p := h
theorem z66z13 {p : Prop} (h : p := by exact (Kd.R_reads' HO104.out).2.1) : p := h
set_option maxHeartbeats 8000000 in
set_option maxRecDepth 100000 in
theorem props_one.calls (k : Nat) (P0_ : Nat → Prop) (u9000_ : Value) (l0 : List Int) (a1_0 : Int) (a1_1 : Int) (a1_2 : ByteArray) (a1_3 : ByteArray) (r : List Int) (w0 w : World) (hB : Below w0.heap.size w0 w) (ho0 : Kd.R (Kd.int .u8) 5 w w0.heap.size P0_ u9000_ l0) (h : props_one.f k l0 a1_0 a1_1 a1_2 a1_3 = some r) :
  Calls Tryd.prog 66 #[u9000_, .agg #[.int .u8 a1_0, .int .u32 a1_1, .string a1_2, .string a1_3]] w fun e w' => ∃ v0_ : Value, e = .returned (v0_) ∧ Kd.R (Kd.int .u8) 5 w' w0.heap.size (fun k_ => (P0_ k_ ∨ w.heap.size ≤ k_)) v0_ r ∧ Below w0.heap.size w0 w' ∧ Kept w w' (fun k_ => P0_ k_) := by
 have hu60 := Tryd.underlying60
 have HO0 := Aside0.mk (show Kd.R (Kd.int .u8) 5 w w0.heap.size (fun k_ => (P0_ k_ ∨ w.heap.size ≤ k_)) u9000_ l0 from Kd.R_mono ho0 (fun k_ hk => (.inl hk)))
 have HK := Aside0.mk (Kept.refl w (fun k_ => P0_ k_))
 have HW0 := Aside0.mk hB.size
 have HB := Aside0.mk hB
 clear hB
 have H : (if l0.length < 140737488355328 then ((some (l0 ++ [a1_0] : List Int)).bind fun y102 => ((prop_Type.f a1_0).bind fun t105 => (if t105 = 1 then ((wire_Byte.f y102 ((a1_1) % 256)).bind fun t106 => (some t106)) else (if t105 = 2 then ((wire_Two.f y102 (IntKind.u16.wrap (a1_1))).bind fun t109 => (some t109)) else (if t105 = 3 then ((wire_Four.f y102 a1_1).bind fun t112 => (some t112)) else (if t105 = 4 then ((wire_Var.f k y102 a1_1).bind fun t115 => (some t115)) else (if t105 = 7 then ((wire_Bin.f y102 a1_2).bind fun t118 => ((wire_Bin.f t118 a1_3).bind fun t121 => (some t121))) else ((wire_Bin.f y102 a1_2).bind fun t124 => (some t124))))))))) else (none)) = some r := h
 clear h
 by_cases c3 : l0.length < 140737488355328
 ·rw [if_pos c3] at H
  have LMc3 := Aside0.mk c3
  clear c3
  obtain ⟨y102, hy102⟩ : ∃ y_ : List Int, y_ = (l0 ++ [a1_0]) := ⟨_, rfl⟩
  replace H : ((prop_Type.f a1_0).bind fun t105 => (if t105 = 1 then ((wire_Byte.f y102 ((a1_1) % 256)).bind fun t106 => (some t106)) else (if t105 = 2 then ((wire_Two.f y102 (IntKind.u16.wrap (a1_1))).bind fun t109 => (some t109)) else (if t105 = 3 then ((wire_Four.f y102 a1_1).bind fun t112 => (some t112)) else (if t105 = 4 then ((wire_Var.f k y102 a1_1).bind fun t115 => (some t115)) else (if t105 = 7 then ((wire_Bin.f y102 a1_2).bind fun t118 => ((wire_Bin.f t118 a1_3).bind fun t121 => (some t121))) else ((wire_Bin.f y102 a1_2).bind fun t124 => (some t124)))))))) = some r := by first | (rw [hy102]; with_reducible exact H) | (have H2_ := (Option.bind_some _ _).symm.trans H; rw [hy102]; with_reducible exact H2_) | (have H2_ := (Option.bind_some _ _).symm.trans H; with_reducible exact H2_) | with_reducible exact H | (rw [hy102]; exact H) | exact H
  have Ny102 := Aside0.mk hy102
  clear hy102
  replace H := Option.bind_eq_some_iff.mp H
  obtain ⟨t105, A40, H⟩ := H
  replace H : (if t105 = 1 then ((wire_Byte.f y102 ((a1_1) % 256)).bind fun t106 => (some t106)) else (if t105 = 2 then ((wire_Two.f y102 (IntKind.u16.wrap (a1_1))).bind fun t109 => (some t109)) else (if t105 = 3 then ((wire_Four.f y102 a1_1).bind fun t112 => (some t112)) else (if t105 = 4 then ((wire_Var.f k y102 a1_1).bind fun t115 => (some t115)) else (if t105 = 7 then ((wire_Bin.f y102 a1_2).bind fun t118 => ((wire_Bin.f t118 a1_3).bind fun t121 => (some t121))) else ((wire_Bin.f y102 a1_2).bind fun t124 => (some t124))))))) = some r := H
  have A4 := Aside0.mk A40
  clear A40
  by_cases c5 : t105 = 1
  ·rw [if_pos c5] at H
   have c5b0 : (t105 == 1) = true := beq_iff_eq.mpr c5
   have c5b1 : (t105 != 1) = false := bne_eq_false_iff_eq.mpr c5
   clear c5
   replace H := Option.bind_eq_some_iff.mp H
   obtain ⟨t106, A60, H⟩ := H
   replace H : (some t106) = some r := H
   have A6 := Aside0.mk A60
   clear A60
   obtain rfl := Option.some.inj H
   go_enter Tryd.func66, Tryd.ntmps66
   go_wp2_with (first | ((with_reducible refine gate_dst (N := 3) rfl ?_); refine box_event ?hg (N := 3) ?hd (cs := #[.int .u8 a1_0, .int .u32 a1_1, .string a1_2, .string a1_3]) (t := 60) ?hr ?_; (case hd => rfl); (case hg => rfl); (case hr => exact z66z11); intro gb101 hg w7 hbox hb; have n0_ := Aside0.mk (Kd.R_below z66z7 hb); have n1_ := Aside0.mk (Kept.below (S := (fun k_ => P0_ k_)) z66z10 hb); have n2_ := Aside0.mk (below_step z66z6 hb); have n3_ := Aside0.mk (hbox); have n4_ := Aside0.mk ((by rw [hg]; exact z66z8 : w.heap.size ≤ gb101)); have n5_ := Aside0.mk ((by rw [hg]; exact (below_size z66z6) : w0.heap.size ≤ gb101)); replace HO0 := n0_; replace HK := n1_; replace HB := n2_; have BK101 := n3_; have GW101 := n4_; have GE101 := n5_; clear n0_ n1_ n2_ n3_ n4_ n5_; clear hb hbox hg; have hcz8_0 := cc4_0 BK101.out; have hcz8_1 := cc4_1 BK101.out; have hcz8_2 := cc4_2 BK101.out; have hcz8_3 := cc4_3 BK101.out) | ((with_reducible refine gate_builtin (b := .append) (xs := #[.tmp 5, .tmp 8]) rfl ?_); at_builtin; refine Kd.R_append (Kd.int .u8) (w0 := w0) w0.heap.size rfl (.tmp 5) (.tmp 8) 25 5 (.int .u8 0) 1 rfl Tryd.underlying25 info5 rfl (by decide) (by omega) u9000_ l0 a1_0 [.int .u8 a1_0] (fun k_ => (P0_ k_ ∨ w.heap.size ≤ k_)) (fun _ => False) rfl rfl ?aP (fun _ hk => hk.elim) ?aF ?aO ?aB ?aS ?aL ?_; (case aP => exact rfl); (case aB => exact z66z0); (case aF => exact (fun k_ hk => (.inr (Nat.le_trans z66z2 hk)))); (case aO => exact z66z7); (case aS => exact (below_size z66z0)); (case aL => have := LMc3.out; omega); intro v103 w9 ho hb hg hat; rw [← Ny102.out] at ho; have n0_ := Aside0.mk (blk_grown (g := gb101) (o := .cells #[.int .u8 a1_0, .int .u32 a1_1, .string a1_2, .string a1_3] 60 (0, 0)) z66z3 hg (Kd.R_ne HO0.out BK101.out (by decide))); have n1_ := Aside0.mk (hb); have n2_ := Aside0.mk (Kept.of_grown (S := (fun k_ => P0_ k_)) hg z66z1 (fun k_ e_ => (HO0.out.1 k_ e_))); have n3_ := Aside0.mk (ho); replace BK101 := n0_; replace HB := n1_; replace HK := n2_; have HO104 := n3_; clear HO0; clear n0_ n1_ n2_ n3_; clear ho hb hg hat; have hcz10_0 := cc4_0 BK101.out; have hcz10_1 := cc4_1 BK101.out; have hcz10_2 := cc4_2 BK101.out; have hcz10_3 := cc4_3 BK101.out) | ((with_reducible refine gate_callee (f := 82) rfl ?_); refine goesL_ (some 12) rfl rfl Tryd.func82 (by kernel_rfl) rfl #[.int .u8 a1_0] rfl z66z5 ?_; (with_reducible refine (prop_Type.calls a1_0 t105 _ A4.out).mono ?_); rintro e w11 ⟨rfl, hb⟩; refine ⟨_, rfl, ?_⟩; have n0_ := Aside0.mk (Kd.R_below z66z4 hb); have n1_ := Aside0.mk (blk_below (g := gb101) (o := .cells #[.int .u8 a1_0, .int .u32 a1_1, .string a1_2, .string a1_3] 60 (0, 0)) z66z3 hb); have n2_ := Aside0.mk (Kept.below (S := (fun k_ => P0_ k_)) z66z1 hb); have n3_ := Aside0.mk (below_step z66z0 hb); replace HO104 := n0_; replace BK101 := n1_; replace HK := n2_; replace HB := n3_; clear n0_ n1_ n2_ n3_; clear hb; have hcz12_0 := cc4_0 BK101.out; have hcz12_1 := cc4_1 BK101.out; have hcz12_2 := cc4_2 BK101.out; have hcz12_3 := cc4_3 BK101.out; obtain ⟨Ao13, co13, eo13⟩ := Kd.R_slice HO104.out; subst eo13) | ((with_reducible refine gate_callee (f := 89) rfl ?_); refine goesL_ (some 19) rfl rfl Tryd.func89 (by kernel_rfl) rfl #[.slice Ao13 y102.length co13, .int .u8 ((a1_1) % 256)] rfl z66z5 ?_; (with_reducible refine (wire_Byte.calls _ _ y102 ((a1_1) % 256) t106 _ ?side1 ?side2 A6.out).mono ?_); (case side1 => exact z66z9); (case side2 => exact z66z13); rintro e w14 ⟨v107, rfl, ho0, hb⟩; refine ⟨_, rfl, ?_⟩; have n0_ := Aside0.mk (Kd.R_elder' z66z4 (Kd.R_base ho0) hb); have n1_ := Aside0.mk (Kd.R_lower (Kd.R_new' (Kd.R_newM (M := fun k_ => (P0_ k_ ∨ w.heap.size ≤ k_)) ho0 z66z2 (fun k_ h_ => .inr h_)) (Kd.R_lt z66z4)) (below_size z66z0)); have n2_ := Aside0.mk (blk_below (g := gb101) (o := .cells #[.int .u8 a1_0, .int .u32 a1_1, .string a1_2, .string a1_3] 60 (0, 0)) z66z3 hb); have n3_ := Aside0.mk (Kept.below (S := (fun k_ => P0_ k_)) z66z1 hb); have n4_ := Aside0.mk (below_step z66z0 hb); replace HO104 := n0_; have HO108 := n1_; replace BK101 := n2_; replace HK := n3_; replace HB := n4_; clear n0_ n1_ n2_ n3_ n4_; clear hb ho0))
   go_ret
   exact ⟨_, by first | rfl | (simp [errW_none, errW_some] <;> rfl) | (simp [*, errW_none, errW_some] <;> rfl), by (with_reducible repeat (first | apply Kd.R_alloc | apply Kd.R_drewN | apply Kd.R_drew)); exact Kd.R_mono HO108.out (fun _ hk => hk.1.1), by repeat (first | (with_reducible first | exact HB.out | apply below_alloc | apply pw_below_drewN | apply below_drew1 | refine below_set ?_ GE101.out) | exact HB.out), by repeat (first | (with_reducible first | exact HK.out | apply Kept.alloc | apply Kept.drewN | apply Kept.drew | refine Kept.setCell ?_ (.inr GW101.out) _) | exact HK.out)⟩
  ·rw [if_neg c5] at H
   have c5b0 : (t105 == 1) = false := beq_eq_false_iff_ne.mpr c5
   have c5b1 : (t105 != 1) = true := bne_iff_ne.mpr c5
   by_cases c15 : t105 = 2
   ·rw [if_pos c15] at H
    have c15b0 : (t105 == 2) = true := beq_iff_eq.mpr c15
    have c15b1 : (t105 != 2) = false := bne_eq_false_iff_eq.mpr c15
    clear c15
    replace H := Option.bind_eq_some_iff.mp H
    obtain ⟨t109, A160, H⟩ := H
    replace H : (some t109) = some r := H
    have A16 := Aside0.mk A160
    clear A160
    obtain rfl := Option.some.inj H
    go_enter Tryd.func66, Tryd.ntmps66
    go_wp2_with (first | ((with_reducible refine gate_dst (N := 3) rfl ?_); refine box_event ?hg (N := 3) ?hd (cs := #[.int .u8 a1_0, .int .u32 a1_1, .string a1_2, .string a1_3]) (t := 60) ?hr ?_; (case hd => rfl); (case hg => rfl); (case hr => exact z66z11); intro gb101 hg w17 hbox hb; have n0_ := Aside0.mk (Kd.R_below z66z7 hb); have n1_ := Aside0.mk (Kept.below (S := (fun k_ => P0_ k_)) z66z10 hb); have n2_ := Aside0.mk (below_step z66z6 hb); have n3_ := Aside0.mk (hbox); have n4_ := Aside0.mk ((by rw [hg]; exact z66z8 : w.heap.size ≤ gb101)); have n5_ := Aside0.mk ((by rw [hg]; exact (below_size z66z6) : w0.heap.size ≤ gb101)); replace HO0 := n0_; replace HK := n1_; replace HB := n2_; have BK101 := n3_; have GW101 := n4_; have GE101 := n5_; clear n0_ n1_ n2_ n3_ n4_ n5_; clear hb hbox hg; have hcz18_0 := cc4_0 BK101.out; have hcz18_1 := cc4_1 BK101.out; have hcz18_2 := cc4_2 BK101.out; have hcz18_3 := cc4_3 BK101.out) | ((with_reducible refine gate_builtin (b := .append) (xs := #[.tmp 5, .tmp 8]) rfl ?_); at_builtin; refine Kd.R_append (Kd.int .u8) (w0 := w0) w0.heap.size rfl (.tmp 5) (.tmp 8) 25 5 (.int .u8 0) 1 rfl Tryd.underlying25 info5 rfl (by decide) (by omega) u9000_ l0 a1_0 [.int .u8 a1_0] (fun k_ => (P0_ k_ ∨ w.heap.size ≤ k_)) (fun _ => False) rfl rfl ?aP (fun _ hk => hk.elim) ?aF ?aO ?aB ?aS ?aL ?_; (case aP => exact rfl); (case aB => exact z66z0); (case aF => exact (fun k_ hk => (.inr (Nat.le_trans z66z2 hk)))); (case aO => exact z66z7); (case aS => exact (below_size z66z0)); (case aL => have := LMc3.out; omega); intro v103 w19 ho hb hg hat; rw [← Ny102.out] at ho; have n0_ := Aside0.mk (blk_grown (g := gb101) (o := .cells #[.int .u8 a1_0, .int .u32 a1_1, .string a1_2, .string a1_3] 60 (0, 0)) z66z3 hg (Kd.R_ne HO0.out BK101.out (by decide))); have n1_ := Aside0.mk (hb); have n2_ := Aside0.mk (Kept.of_grown (S := (fun k_ => P0_ k_)) hg z66z1 (fun k_ e_ => (HO0.out.1 k_ e_))); have n3_ := Aside0.mk (ho); replace BK101 := n0_; replace HB := n1_; replace HK := n2_; have HO104 := n3_; clear HO0; clear n0_ n1_ n2_ n3_; clear ho hb hg hat; have hcz20_0 := cc4_0 BK101.out; have hcz20_1 := cc4_1 BK101.out; have hcz20_2 := cc4_2 BK101.out; have hcz20_3 := cc4_3 BK101.out) | ((with_reducible refine gate_callee (f := 82) rfl ?_); refine goesL_ (some 12) rfl rfl Tryd.func82 (by kernel_rfl) rfl #[.int .u8 a1_0] rfl z66z5 ?_; (with_reducible refine (prop_Type.calls a1_0 t105 _ A4.out).mono ?_); rintro e w21 ⟨rfl, hb⟩; refine ⟨_, rfl, ?_⟩; have n0_ := Aside0.mk (Kd.R_below z66z4 hb); have n1_ := Aside0.mk (blk_below (g := gb101) (o := .cells #[.int .u8 a1_0, .int .u32 a1_1, .string a1_2, .string a1_3] 60 (0, 0)) z66z3 hb); have n2_ := Aside0.mk (Kept.below (S := (fun k_ => P0_ k_)) z66z1 hb); have n3_ := Aside0.mk (below_step z66z0 hb); replace HO104 := n0_; replace BK101 := n1_; replace HK := n2_; replace HB := n3_; clear n0_ n1_ n2_ n3_; clear hb; have hcz22_0 := cc4_0 BK101.out; have hcz22_1 := cc4_1 BK101.out; have hcz22_2 := cc4_2 BK101.out; have hcz22_3 := cc4_3 BK101.out; obtain ⟨Ao23, co23, eo23⟩ := Kd.R_slice HO104.out; subst eo23) | ((with_reducible refine gate_callee (f := 90) rfl ?_); refine goesL_ (some 26) rfl rfl Tryd.func90 (by kernel_rfl) rfl #[.slice Ao23 y102.length co23, .int .u16 (IntKind.u16.wrap (a1_1))] rfl z66z5 ?_; (with_reducible refine (wire_Two.calls _ _ y102 (IntKind.u16.wrap (a1_1)) t109 _ ?side1 ?side2 A16.out).mono ?_); (case side1 => exact z66z9); (case side2 => exact z66z13); rintro e w24 ⟨v110, rfl, ho0, hb⟩; refine ⟨_, rfl, ?_⟩; have n0_ := Aside0.mk (Kd.R_elder' z66z4 (Kd.R_base ho0) hb); have n1_ := Aside0.mk (Kd.R_lower (Kd.R_new' (Kd.R_newM (M := fun k_ => (P0_ k_ ∨ w.heap.size ≤ k_)) ho0 z66z2 (fun k_ h_ => .inr h_)) (Kd.R_lt z66z4)) (below_size z66z0)); have n2_ := Aside0.mk (blk_below (g := gb101) (o := .cells #[.int .u8 a1_0, .int .u32 a1_1, .string a1_2, .string a1_3] 60 (0, 0)) z66z3 hb); have n3_ := Aside0.mk (Kept.below (S := (fun k_ => P0_ k_)) z66z1 hb); have n4_ := Aside0.mk (below_step z66z0 hb); replace HO104 := n0_; have HO111 := n1_; replace BK101 := n2_; replace HK := n3_; replace HB := n4_; clear n0_ n1_ n2_ n3_ n4_; clear hb ho0))
    go_ret
    exact ⟨_, by first | rfl | (simp [errW_none, errW_some] <;> rfl) | (simp [*, errW_none, errW_some] <;> rfl), by (with_reducible repeat (first | apply Kd.R_alloc | apply Kd.R_drewN | apply Kd.R_drew)); exact Kd.R_mono HO111.out (fun _ hk => hk.1.1), by repeat (first | (with_reducible first | exact HB.out | apply below_alloc | apply pw_below_drewN | apply below_drew1 | refine below_set ?_ GE101.out) | exact HB.out), by repeat (first | (with_reducible first | exact HK.out | apply Kept.alloc | apply Kept.drewN | apply Kept.drew | refine Kept.setCell ?_ (.inr GW101.out) _) | exact HK.out)⟩
   ·rw [if_neg c15] at H
    have c15b0 : (t105 == 2) = false := beq_eq_false_iff_ne.mpr c15
    have c15b1 : (t105 != 2) = true := bne_iff_ne.mpr c15
    by_cases c25 : t105 = 3
    ·rw [if_pos c25] at H
     have c25b0 : (t105 == 3) = true := beq_iff_eq.mpr c25
     have c25b1 : (t105 != 3) = false := bne_eq_false_iff_eq.mpr c25
     clear c25
     replace H := Option.bind_eq_some_iff.mp H
     obtain ⟨t112, A260, H⟩ := H
     replace H : (some t112) = some r := H
     have A26 := Aside0.mk A260
     clear A260
     obtain rfl := Option.some.inj H
     go_enter Tryd.func66, Tryd.ntmps66
     go_wp2_with (first | ((with_reducible refine gate_dst (N := 3) rfl ?_); refine box_event ?hg (N := 3) ?hd (cs := #[.int .u8 a1_0, .int .u32 a1_1, .string a1_2, .string a1_3]) (t := 60) ?hr ?_; (case hd => rfl); (case hg => rfl); (case hr => exact z66z11); intro gb101 hg w27 hbox hb; have n0_ := Aside0.mk (Kd.R_below z66z7 hb); have n1_ := Aside0.mk (Kept.below (S := (fun k_ => P0_ k_)) z66z10 hb); have n2_ := Aside0.mk (below_step z66z6 hb); have n3_ := Aside0.mk (hbox); have n4_ := Aside0.mk ((by rw [hg]; exact z66z8 : w.heap.size ≤ gb101)); have n5_ := Aside0.mk ((by rw [hg]; exact (below_size z66z6) : w0.heap.size ≤ gb101)); replace HO0 := n0_; replace HK := n1_; replace HB := n2_; have BK101 := n3_; have GW101 := n4_; have GE101 := n5_; clear n0_ n1_ n2_ n3_ n4_ n5_; clear hb hbox hg; have hcz28_0 := cc4_0 BK101.out; have hcz28_1 := cc4_1 BK101.out; have hcz28_2 := cc4_2 BK101.out; have hcz28_3 := cc4_3 BK101.out) | ((with_reducible refine gate_builtin (b := .append) (xs := #[.tmp 5, .tmp 8]) rfl ?_); at_builtin; refine Kd.R_append (Kd.int .u8) (w0 := w0) w0.heap.size rfl (.tmp 5) (.tmp 8) 25 5 (.int .u8 0) 1 rfl Tryd.underlying25 info5 rfl (by decide) (by omega) u9000_ l0 a1_0 [.int .u8 a1_0] (fun k_ => (P0_ k_ ∨ w.heap.size ≤ k_)) (fun _ => False) rfl rfl ?aP (fun _ hk => hk.elim) ?aF ?aO ?aB ?aS ?aL ?_; (case aP => exact rfl); (case aB => exact z66z0); (case aF => exact (fun k_ hk => (.inr (Nat.le_trans z66z2 hk)))); (case aO => exact z66z7); (case aS => exact (below_size z66z0)); (case aL => have := LMc3.out; omega); intro v103 w29 ho hb hg hat; rw [← Ny102.out] at ho; have n0_ := Aside0.mk (blk_grown (g := gb101) (o := .cells #[.int .u8 a1_0, .int .u32 a1_1, .string a1_2, .string a1_3] 60 (0, 0)) z66z3 hg (Kd.R_ne HO0.out BK101.out (by decide))); have n1_ := Aside0.mk (hb); have n2_ := Aside0.mk (Kept.of_grown (S := (fun k_ => P0_ k_)) hg z66z1 (fun k_ e_ => (HO0.out.1 k_ e_))); have n3_ := Aside0.mk (ho); replace BK101 := n0_; replace HB := n1_; replace HK := n2_; have HO104 := n3_; clear HO0; clear n0_ n1_ n2_ n3_; clear ho hb hg hat; have hcz30_0 := cc4_0 BK101.out; have hcz30_1 := cc4_1 BK101.out; have hcz30_2 := cc4_2 BK101.out; have hcz30_3 := cc4_3 BK101.out) | ((with_reducible refine gate_callee (f := 82) rfl ?_); refine goesL_ (some 12) rfl rfl Tryd.func82 (by kernel_rfl) rfl #[.int .u8 a1_0] rfl z66z5 ?_; (with_reducible refine (prop_Type.calls a1_0 t105 _ A4.out).mono ?_); rintro e w31 ⟨rfl, hb⟩; refine ⟨_, rfl, ?_⟩; have n0_ := Aside0.mk (Kd.R_below z66z4 hb); have n1_ := Aside0.mk (blk_below (g := gb101) (o := .cells #[.int .u8 a1_0, .int .u32 a1_1, .string a1_2, .string a1_3] 60 (0, 0)) z66z3 hb); have n2_ := Aside0.mk (Kept.below (S := (fun k_ => P0_ k_)) z66z1 hb); have n3_ := Aside0.mk (below_step z66z0 hb); replace HO104 := n0_; replace BK101 := n1_; replace HK := n2_; replace HB := n3_; clear n0_ n1_ n2_ n3_; clear hb; have hcz32_0 := cc4_0 BK101.out; have hcz32_1 := cc4_1 BK101.out; have hcz32_2 := cc4_2 BK101.out; have hcz32_3 := cc4_3 BK101.out; obtain ⟨Ao33, co33, eo33⟩ := Kd.R_slice HO104.out; subst eo33) | ((with_reducible refine gate_callee (f := 91) rfl ?_); refine goesL_ (some 32) rfl rfl Tryd.func91 (by kernel_rfl) rfl #[.slice Ao33 y102.length co33, .int .u32 a1_1] rfl z66z5 ?_; (with_reducible refine (wire_Four.calls _ _ y102 a1_1 t112 _ ?side1 ?side2 A26.out).mono ?_); (case side1 => exact z66z9); (case side2 => exact z66z13); rintro e w34 ⟨v113, rfl, ho0, hb⟩; refine ⟨_, rfl, ?_⟩; have n0_ := Aside0.mk (Kd.R_elder' z66z4 (Kd.R_base ho0) hb); have n1_ := Aside0.mk (Kd.R_lower (Kd.R_new' (Kd.R_newM (M := fun k_ => (P0_ k_ ∨ w.heap.size ≤ k_)) ho0 z66z2 (fun k_ h_ => .inr h_)) (Kd.R_lt z66z4)) (below_size z66z0)); have n2_ := Aside0.mk (blk_below (g := gb101) (o := .cells #[.int .u8 a1_0, .int .u32 a1_1, .string a1_2, .string a1_3] 60 (0, 0)) z66z3 hb); have n3_ := Aside0.mk (Kept.below (S := (fun k_ => P0_ k_)) z66z1 hb); have n4_ := Aside0.mk (below_step z66z0 hb); replace HO104 := n0_; have HO114 := n1_; replace BK101 := n2_; replace HK := n3_; replace HB := n4_; clear n0_ n1_ n2_ n3_ n4_; clear hb ho0))
     go_ret
     exact ⟨_, by first | rfl | (simp [errW_none, errW_some] <;> rfl) | (simp [*, errW_none, errW_some] <;> rfl), by (with_reducible repeat (first | apply Kd.R_alloc | apply Kd.R_drewN | apply Kd.R_drew)); exact Kd.R_mono HO114.out (fun _ hk => hk.1.1), by repeat (first | (with_reducible first | exact HB.out | apply below_alloc | apply pw_below_drewN | apply below_drew1 | refine below_set ?_ GE101.out) | exact HB.out), by repeat (first | (with_reducible first | exact HK.out | apply Kept.alloc | apply Kept.drewN | apply Kept.drew | refine Kept.setCell ?_ (.inr GW101.out) _) | exact HK.out)⟩
    ·rw [if_neg c25] at H
     have c25b0 : (t105 == 3) = false := beq_eq_false_iff_ne.mpr c25
     have c25b1 : (t105 != 3) = true := bne_iff_ne.mpr c25
     by_cases c35 : t105 = 4
     ·rw [if_pos c35] at H
      have c35b0 : (t105 == 4) = true := beq_iff_eq.mpr c35
      have c35b1 : (t105 != 4) = false := bne_eq_false_iff_eq.mpr c35
      clear c35
      replace H := Option.bind_eq_some_iff.mp H
      obtain ⟨t115, A360, H⟩ := H
      replace H : (some t115) = some r := H
      have A36 := Aside0.mk A360
      clear A360
      obtain rfl := Option.some.inj H
      go_enter Tryd.func66, Tryd.ntmps66
      go_wp2_with (first | ((with_reducible refine gate_dst (N := 3) rfl ?_); refine box_event ?hg (N := 3) ?hd (cs := #[.int .u8 a1_0, .int .u32 a1_1, .string a1_2, .string a1_3]) (t := 60) ?hr ?_; (case hd => rfl); (case hg => rfl); (case hr => exact z66z11); intro gb101 hg w37 hbox hb; have n0_ := Aside0.mk (Kd.R_below z66z7 hb); have n1_ := Aside0.mk (Kept.below (S := (fun k_ => P0_ k_)) z66z10 hb); have n2_ := Aside0.mk (below_step z66z6 hb); have n3_ := Aside0.mk (hbox); have n4_ := Aside0.mk ((by rw [hg]; exact z66z8 : w.heap.size ≤ gb101)); have n5_ := Aside0.mk ((by rw [hg]; exact (below_size z66z6) : w0.heap.size ≤ gb101)); replace HO0 := n0_; replace HK := n1_; replace HB := n2_; have BK101 := n3_; have GW101 := n4_; have GE101 := n5_; clear n0_ n1_ n2_ n3_ n4_ n5_; clear hb hbox hg; have hcz38_0 := cc4_0 BK101.out; have hcz38_1 := cc4_1 BK101.out; have hcz38_2 := cc4_2 BK101.out; have hcz38_3 := cc4_3 BK101.out) | ((with_reducible refine gate_builtin (b := .append) (xs := #[.tmp 5, .tmp 8]) rfl ?_); at_builtin; refine Kd.R_append (Kd.int .u8) (w0 := w0) w0.heap.size rfl (.tmp 5) (.tmp 8) 25 5 (.int .u8 0) 1 rfl Tryd.underlying25 info5 rfl (by decide) (by omega) u9000_ l0 a1_0 [.int .u8 a1_0] (fun k_ => (P0_ k_ ∨ w.heap.size ≤ k_)) (fun _ => False) rfl rfl ?aP (fun _ hk => hk.elim) ?aF ?aO ?aB ?aS ?aL ?_; (case aP => exact rfl); (case aB => exact z66z0); (case aF => exact (fun k_ hk => (.inr (Nat.le_trans z66z2 hk)))); (case aO => exact z66z7); (case aS => exact (below_size z66z0)); (case aL => have := LMc3.out; omega); intro v103 w39 ho hb hg hat; rw [← Ny102.out] at ho; have n0_ := Aside0.mk (blk_grown (g := gb101) (o := .cells #[.int .u8 a1_0, .int .u32 a1_1, .string a1_2, .string a1_3] 60 (0, 0)) z66z3 hg (Kd.R_ne HO0.out BK101.out (by decide))); have n1_ := Aside0.mk (hb); have n2_ := Aside0.mk (Kept.of_grown (S := (fun k_ => P0_ k_)) hg z66z1 (fun k_ e_ => (HO0.out.1 k_ e_))); have n3_ := Aside0.mk (ho); replace BK101 := n0_; replace HB := n1_; replace HK := n2_; have HO104 := n3_; clear HO0; clear n0_ n1_ n2_ n3_; clear ho hb hg hat; have hcz40_0 := cc4_0 BK101.out; have hcz40_1 := cc4_1 BK101.out; have hcz40_2 := cc4_2 BK101.out; have hcz40_3 := cc4_3 BK101.out) | ((with_reducible refine gate_callee (f := 82) rfl ?_); refine goesL_ (some 12) rfl rfl Tryd.func82 (by kernel_rfl) rfl #[.int .u8 a1_0] rfl z66z5 ?_; (with_reducible refine (prop_Type.calls a1_0 t105 _ A4.out).mono ?_); rintro e w41 ⟨rfl, hb⟩; refine ⟨_, rfl, ?_⟩; have n0_ := Aside0.mk (Kd.R_below z66z4 hb); have n1_ := Aside0.mk (blk_below (g := gb101) (o := .cells #[.int .u8 a1_0, .int .u32 a1_1, .string a1_2, .string a1_3] 60 (0, 0)) z66z3 hb); have n2_ := Aside0.mk (Kept.below (S := (fun k_ => P0_ k_)) z66z1 hb); have n3_ := Aside0.mk (below_step z66z0 hb); replace HO104 := n0_; replace BK101 := n1_; replace HK := n2_; replace HB := n3_; clear n0_ n1_ n2_ n3_; clear hb; have hcz42_0 := cc4_0 BK101.out; have hcz42_1 := cc4_1 BK101.out; have hcz42_2 := cc4_2 BK101.out; have hcz42_3 := cc4_3 BK101.out; obtain ⟨Ao43, co43, eo43⟩ := Kd.R_slice HO104.out; subst eo43) | ((with_reducible refine gate_callee (f := 36) rfl ?_); refine goesL_ (some 38) rfl rfl Tryd.func36 (by kernel_rfl) rfl #[.slice Ao43 y102.length co43, .int .u32 a1_1] rfl z66z5 ?_; (with_reducible refine (wire_Var.calls k _ _ y102 a1_1 t115 _ ?side1 ?side2 A36.out).mono ?_); (case side1 => exact z66z9); (case side2 => exact z66z13); rintro e w44 ⟨v116, rfl, ho0, hb⟩; refine ⟨_, rfl, ?_⟩; have n0_ := Aside0.mk (Kd.R_elder' z66z4 (Kd.R_base ho0) hb); have n1_ := Aside0.mk (Kd.R_lower (Kd.R_new' (Kd.R_newM (M := fun k_ => (P0_ k_ ∨ w.heap.size ≤ k_)) ho0 z66z2 (fun k_ h_ => .inr h_)) (Kd.R_lt z66z4)) (below_size z66z0)); have n2_ := Aside0.mk (blk_below (g := gb101) (o := .cells #[.int .u8 a1_0, .int .u32 a1_1, .string a1_2, .string a1_3] 60 (0, 0)) z66z3 hb); have n3_ := Aside0.mk (Kept.below (S := (fun k_ => P0_ k_)) z66z1 hb); have n4_ := Aside0.mk (below_step z66z0 hb); replace HO104 := n0_; have HO117 := n1_; replace BK101 := n2_; replace HK := n3_; replace HB := n4_; clear n0_ n1_ n2_ n3_ n4_; clear hb ho0))
      go_ret
      exact ⟨_, by first | rfl | (simp [errW_none, errW_some] <;> rfl) | (simp [*, errW_none, errW_some] <;> rfl), by (with_reducible repeat (first | apply Kd.R_alloc | apply Kd.R_drewN | apply Kd.R_drew)); exact Kd.R_mono HO117.out (fun _ hk => hk.1.1), by repeat (first | (with_reducible first | exact HB.out | apply below_alloc | apply pw_below_drewN | apply below_drew1 | refine below_set ?_ GE101.out) | exact HB.out), by repeat (first | (with_reducible first | exact HK.out | apply Kept.alloc | apply Kept.drewN | apply Kept.drew | refine Kept.setCell ?_ (.inr GW101.out) _) | exact HK.out)⟩
     ·rw [if_neg c35] at H
      have c35b0 : (t105 == 4) = false := beq_eq_false_iff_ne.mpr c35
      have c35b1 : (t105 != 4) = true := bne_iff_ne.mpr c35
      by_cases c45 : t105 = 7
      ·rw [if_pos c45] at H
       have c45b0 : (t105 == 7) = true := beq_iff_eq.mpr c45
       have c45b1 : (t105 != 7) = false := bne_eq_false_iff_eq.mpr c45
       clear c45
       replace H := Option.bind_eq_some_iff.mp H
       obtain ⟨t118, A460, H⟩ := H
       replace H : ((wire_Bin.f t118 a1_3).bind fun t121 => (some t121)) = some r := H
       have A46 := Aside0.mk A460
       clear A460
       replace H := Option.bind_eq_some_iff.mp H
       obtain ⟨t121, A470, H⟩ := H
       replace H : (some t121) = some r := H
       have A47 := Aside0.mk A470
       clear A470
       obtain rfl := Option.some.inj H
       go_enter Tryd.func66, Tryd.ntmps66
       try go_wp2_with (first | ((with_reducible refine gate_dst (N := 3) rfl ?_); refine box_event ?hg (N := 3) ?hd (cs := #[.int .u8 a1_0, .int .u32 a1_1, .string a1_2, .string a1_3]) (t := 60) ?hr ?_; (case hd => rfl); (case hg => rfl); (case hr => exact z66z11); intro gb101 hg w48 hbox hb; have n0_ := Aside0.mk (Kd.R_below z66z7 hb); have n1_ := Aside0.mk (Kept.below (S := (fun k_ => P0_ k_)) z66z10 hb); have n2_ := Aside0.mk (below_step z66z6 hb); have n3_ := Aside0.mk (hbox); have n4_ := Aside0.mk ((by rw [hg]; exact z66z8 : w.heap.size ≤ gb101)); have n5_ := Aside0.mk ((by rw [hg]; exact (below_size z66z6) : w0.heap.size ≤ gb101)); replace HO0 := n0_; replace HK := n1_; replace HB := n2_; have BK101 := n3_; have GW101 := n4_; have GE101 := n5_; clear n0_ n1_ n2_ n3_ n4_ n5_; clear hb hbox hg; have hcz49_0 := cc4_0 BK101.out; have hcz49_1 := cc4_1 BK101.out; have hcz49_2 := cc4_2 BK101.out; have hcz49_3 := cc4_3 BK101.out) | ((with_reducible refine gate_builtin (b := .append) (xs := #[.tmp 5, .tmp 8]) rfl ?_); at_builtin; refine Kd.R_append (Kd.int .u8) (w0 := w0) w0.heap.size rfl (.tmp 5) (.tmp 8) 25 5 (.int .u8 0) 1 rfl Tryd.underlying25 info5 rfl (by decide) (by omega) u9000_ l0 a1_0 [.int .u8 a1_0] (fun k_ => (P0_ k_ ∨ w.heap.size ≤ k_)) (fun _ => False) rfl rfl ?aP (fun _ hk => hk.elim) ?aF ?aO ?aB ?aS ?aL ?_; (case aP => exact rfl); (case aB => exact z66z0); (case aF => exact (fun k_ hk => (.inr (Nat.le_trans z66z2 hk)))); (case aO => exact z66z7); (case aS => exact (below_size z66z0)); (case aL => have := LMc3.out; omega); intro v103 w50 ho hb hg hat; rw [← Ny102.out] at ho; have n0_ := Aside0.mk (blk_grown (g := gb101) (o := .cells #[.int .u8 a1_0, .int .u32 a1_1, .string a1_2, .string a1_3] 60 (0, 0)) z66z3 hg (Kd.R_ne HO0.out BK101.out (by decide))); have n1_ := Aside0.mk (hb); have n2_ := Aside0.mk (Kept.of_grown (S := (fun k_ => P0_ k_)) hg z66z1 (fun k_ e_ => (HO0.out.1 k_ e_))); have n3_ := Aside0.mk (ho); replace BK101 := n0_; replace HB := n1_; replace HK := n2_; have HO104 := n3_; clear HO0; clear n0_ n1_ n2_ n3_; clear ho hb hg hat; have hcz51_0 := cc4_0 BK101.out; have hcz51_1 := cc4_1 BK101.out; have hcz51_2 := cc4_2 BK101.out; have hcz51_3 := cc4_3 BK101.out) | ((with_reducible refine gate_callee (f := 82) rfl ?_); refine goesL_ (some 12) rfl rfl Tryd.func82 (by kernel_rfl) rfl #[.int .u8 a1_0] rfl z66z5 ?_; (with_reducible refine (prop_Type.calls a1_0 t105 _ A4.out).mono ?_); rintro e w52 ⟨rfl, hb⟩; refine ⟨_, rfl, ?_⟩; have n0_ := Aside0.mk (Kd.R_below z66z4 hb); have n1_ := Aside0.mk (blk_below (g := gb101) (o := .cells #[.int .u8 a1_0, .int .u32 a1_1, .string a1_2, .string a1_3] 60 (0, 0)) z66z3 hb); have n2_ := Aside0.mk (Kept.below (S := (fun k_ => P0_ k_)) z66z1 hb); have n3_ := Aside0.mk (below_step z66z0 hb); replace HO104 := n0_; replace BK101 := n1_; replace HK := n2_; replace HB := n3_; clear n0_ n1_ n2_ n3_; clear hb))
       have n0_ := Aside0.mk (Kd.R_drew HO104.out)
       have n1_ := Aside0.mk (blk_drew BK101.out)
       have n2_ := Aside0.mk (Kept.drew HK.out)
       have n3_ := Aside0.mk (below_drew1 HB.out)
       clear HO104
       clear BK101
       clear HK
       clear HB
       have HO104 := n0_
       have BK101 := n1_
       have HK := n2_
       have HB := n3_
       clear n0_ n1_ n2_ n3_
       obtain ⟨Ao54, co54, eo54⟩ := Kd.R_slice HO104.out
       (first | subst eo54 | (injection eo54 with f1_ f2_ f3_; have f4_ := f1_.symm; have f5_ := f3_.symm; clear f1_ f2_ f3_; subst f4_; subst f5_))
       refine start_ (n := 8) (S := fun w' => w'.cell? ⟨gb101, 0, none⟩ = some (.int .u8 a1_0) ∧ w'.cell? ⟨gb101, 1, none⟩ = some (.int .u32 a1_1) ∧ w'.cell? ⟨gb101, 2, none⟩ = some (.string a1_2) ∧ w'.cell? ⟨gb101, 3, none⟩ = some (.string a1_3)) (ds := []) #[false, false, false, false, false, false, false, false] (by kernel_rfl) rfl rfl ⟨(blk_cell BK101.out 0).trans rfl, (blk_cell BK101.out 1).trans rfl, (blk_cell BK101.out 2).trans rfl, (blk_cell BK101.out 3).trans rfl⟩ (fun hHeld => ?_); refine with_tabW props_one.tab12 props_one.bits12 (fun HT_ HW_ => ?_)
       generalize w52.drew = w53 at HO104 BK101 HK HB hHeld ⊢
       refine pure_ (i := 0) (N := some 41) (v := ?_) (a' := ?_) #[true, false, false, false, false, false, false, false] rfl rfl (any_of HT_.out (by kernel_rfl)) (fun _ _ _ h => h) (Or.inl ⟨by rfl, ?_⟩) ?_ ?_
       rotate_left
       ·intro w'
        go_simp
        with_reducible rfl
       rotate_left
       ·simp only [Act.put, List.setIfInBounds_toArray, List.set_cons_zero, List.set_cons_succ, i64_w, i32_w]
        rfl
       refine pure_ (i := 1) (N := some 42) (v := ?_) (a' := ?_) #[true, true, false, false, false, false, false, false] rfl rfl (any_of HT_.out (by kernel_rfl)) (fun _ _ _ h => h) (Or.inl ⟨by rfl, ?_⟩) ?_ ?_
       rotate_left
       ·intro w'
        go_simp
        with_reducible rfl
       rotate_left
       ·simp only [Act.put, List.setIfInBounds_toArray, List.set_cons_zero, List.set_cons_succ, i64_w, i32_w]
        rfl
       refine pure_ (i := 4) (N := some 45) (v := ?_) (a' := ?_) #[true, true, false, false, true, false, false, false] rfl rfl (any_of HT_.out (by kernel_rfl)) (fun _ _ _ h => h) (Or.inl ⟨by rfl, ?_⟩) ?_ ?_
       rotate_left
       ·intro w'
        go_simp
        with_reducible rfl
       rotate_left
       ·simp only [Act.put, List.setIfInBounds_toArray, List.set_cons_zero, List.set_cons_succ, i64_w, i32_w]
        rfl
       refine take_ (i := 2) (N := some 43) (v := ?_) (a' := ?_) #[true, true, true, false, true, false, false, false] rfl rfl (take_ofW HT_.out HW_.out (by kernel_rfl)) (fun _ _ _ h => h) (Or.inl ⟨by rfl, ?_⟩) hHeld ?_ ?_
       rotate_left
       ·rintro w' ⟨s0, s1, s2, s3⟩
        go_simp
        with_reducible rfl
       rotate_left
       ·simp only [Act.put, List.setIfInBounds_toArray, List.set_cons_zero, List.set_cons_succ, i64_w, i32_w]
        rfl
       refine take_ (i := 5) (N := some 46) (v := ?_) (a' := ?_) #[true, true, true, false, true, true, false, false] rfl rfl (take_ofW HT_.out HW_.out (by kernel_rfl)) (fun _ _ _ h => h) (Or.inl ⟨by rfl, ?_⟩) hHeld ?_ ?_
       rotate_left
       ·rintro w' ⟨s0, s1, s2, s3⟩
        go_simp
        with_reducible rfl
       rotate_left
       ·simp only [Act.put, List.setIfInBounds_toArray, List.set_cons_zero, List.set_cons_succ, i64_w, i32_w]
        rfl
       refine one_ (i := 3) (N := some 44) #[true, true, true, true, true, true, false, false] rfl rfl (one_of HT_.out (by kernel_rfl)) (by decide) (fun K hK => ?_)
       refine goes_ Tryd.func92 (by kernel_rfl) rfl #[.slice Ao54 y102.length co54, .string a1_2] (by rfl) rfl rfl z66z5 ?_
       with_reducible refine (wire_Bin.calls _ _ y102 a1_2 t118 _ ?side1 ?side2 A46.out).mono ?_
       (case side1 => exact z66z9)
       (case side2 => exact z66z13)
       rintro e w55 ⟨v119, rfl, ho0, hb⟩
       refine ⟨_, rfl, ?_⟩
       have n0_ := Aside0.mk (Kd.R_elder' z66z4 (Kd.R_base ho0) hb)
       have n1_ := Aside0.mk (Kd.R_lower (Kd.R_new' (Kd.R_newM (M := fun k_ => (P0_ k_ ∨ w.heap.size ≤ k_)) ho0 z66z2 (fun k_ h_ => .inr h_)) (Kd.R_lt z66z4)) (below_size z66z0))
       have n2_ := Aside0.mk (blk_below (g := gb101) (o := .cells #[.int .u8 a1_0, .int .u32 a1_1, .string a1_2, .string a1_3] 60 (0, 0)) z66z3 hb)
       have n3_ := Aside0.mk (Kept.below (S := (fun k_ => P0_ k_)) z66z1 hb)
       have n4_ := Aside0.mk (below_step z66z0 hb)
       clear HO104
       clear BK101
       clear HK
       clear HB
       have HO104 := n0_
       have HO120 := n1_
       have BK101 := n2_
       have HK := n3_
       have HB := n4_
       clear n0_ n1_ n2_ n3_ n4_
       (try clear hb)
       (try clear hb2)
       (try clear hk)
       (try clear hi)
       (try clear ho0)
       obtain ⟨Ao56, co56, eo56⟩ := Kd.R_slice HO120.out
       (first | subst eo56 | (injection eo56 with f1_ f2_ f3_; have f4_ := f1_.symm; have f5_ := f3_.symm; clear f1_ f2_ f3_; subst f4_; subst f5_))
       refine hK.out _ _ ⟨(blk_cell BK101.out 0).trans rfl, (blk_cell BK101.out 1).trans rfl, (blk_cell BK101.out 2).trans rfl, (blk_cell BK101.out 3).trans rfl⟩ (fun hHeld => ?_)
       clear hK K
       refine norm_ (a' := ?_) ?_ ?_
       rotate_left
       ·show Act.put _ (some 44) _ = _
        simp only [Act.put, List.setIfInBounds_toArray, List.set_cons_zero, List.set_cons_succ, i64_w, i32_w]
        rfl
       refine one_ (i := 6) (N := some 47) #[true, true, true, true, true, true, true, false] rfl rfl (one_of HT_.out (by kernel_rfl)) (by decide) (fun K hK => ?_)
       refine goes_ Tryd.func92 (by kernel_rfl) rfl #[.slice Ao56 t118.length co56, .string a1_3] (by rfl) rfl rfl z66z5 ?_
       with_reducible refine (wire_Bin.calls _ _ t118 a1_3 t121 _ ?side1 ?side2 A47.out).mono ?_
       (case side1 => repeat (first | exact (Kd.R_reads' HO120.out).2.2 | (with_reducible refine Kd.C_alloc ?_ _) | (with_reducible refine Kd.C_drewN ?_ _) | (with_reducible refine Kd.C_drew ?_)))
       (case side2 => exact (Kd.R_reads' HO120.out).2.1)
       rintro e w57 ⟨v122, rfl, ho0, hb⟩
       refine ⟨_, rfl, ?_⟩
       have n0_ := Aside0.mk (Kd.R_elder' z66z4 (Kd.R_base ho0) hb)
       have n1_ := Aside0.mk (Kd.R_elder' z66z12 (Kd.R_base ho0) hb)
       have n2_ := Aside0.mk (Kd.R_lower (Kd.R_new' (Kd.R_new' (Kd.R_newM (M := fun k_ => (P0_ k_ ∨ w.heap.size ≤ k_)) ho0 z66z2 (fun k_ h_ => .inr h_)) (Kd.R_lt z66z4)) (Kd.R_lt z66z12)) (below_size z66z0))
       have n3_ := Aside0.mk (blk_below (g := gb101) (o := .cells #[.int .u8 a1_0, .int .u32 a1_1, .string a1_2, .string a1_3] 60 (0, 0)) z66z3 hb)
       have n4_ := Aside0.mk (Kept.below (S := (fun k_ => P0_ k_)) z66z1 hb)
       have n5_ := Aside0.mk (below_step z66z0 hb)
       clear HO104
       clear HO120
       clear BK101
       clear HK
       clear HB
       have HO104 := n0_
       have HO120 := n1_
       have HO123 := n2_
       have BK101 := n3_
       have HK := n4_
       have HB := n5_
       clear n0_ n1_ n2_ n3_ n4_ n5_
       (try clear hb)
       (try clear hb2)
       (try clear hk)
       (try clear hi)
       (try clear ho0)
       refine hK.out _ _ ⟨(blk_cell BK101.out 0).trans rfl, (blk_cell BK101.out 1).trans rfl, (blk_cell BK101.out 2).trans rfl, (blk_cell BK101.out 3).trans rfl⟩ (fun hHeld => ?_)
       clear hK K
       refine norm_ (a' := ?_) ?_ ?_
       rotate_left
       ·show Act.put _ (some 47) _ = _
        simp only [Act.put, List.setIfInBounds_toArray, List.set_cons_zero, List.set_cons_succ, i64_w, i32_w]
        rfl
       refine pure_ (i := 7) (N := some 4) (v := ?_) (a' := ?_) #[true, true, true, true, true, true, true, true] rfl rfl (any_of HT_.out (by kernel_rfl)) (fun _ _ _ h => h) (Or.inl ⟨by rfl, ?_⟩) ?_ ?_
       rotate_left
       ·intro w'
        go_simp
        with_reducible rfl
       rotate_left
       ·simp only [Act.put, List.setIfInBounds_toArray, List.set_cons_zero, List.set_cons_succ, i64_w, i32_w]
        rfl
       refine done_ (done_of HT_.out (by kernel_rfl)) ?_
       try go_wp2
       go_ret
       exact ⟨_, by first | rfl | (simp [errW_none, errW_some] <;> rfl) | (simp [*, errW_none, errW_some] <;> rfl), by (with_reducible repeat (first | apply Kd.R_alloc | apply Kd.R_drewN | apply Kd.R_drew)); exact Kd.R_mono HO123.out (fun _ hk => hk.1.1.1), by repeat (first | (with_reducible first | exact HB.out | apply below_alloc | apply pw_below_drewN | apply below_drew1 | refine below_set ?_ GE101.out) | exact HB.out), by repeat (first | (with_reducible first | exact HK.out | apply Kept.alloc | apply Kept.drewN | apply Kept.drew | refine Kept.setCell ?_ (.inr GW101.out) _) | exact HK.out)⟩
      ·rw [if_neg c45] at H
       have c45b0 : (t105 == 7) = false := beq_eq_false_iff_ne.mpr c45
       have c45b1 : (t105 != 7) = true := bne_iff_ne.mpr c45
       replace H := Option.bind_eq_some_iff.mp H
       obtain ⟨t124, A580, H⟩ := H
       replace H : (some t124) = some r := H
       have A58 := Aside0.mk A580
       clear A580
       obtain rfl := Option.some.inj H
       go_enter Tryd.func66, Tryd.ntmps66
       go_wp2_with (first | ((with_reducible refine gate_dst (N := 3) rfl ?_); refine box_event ?hg (N := 3) ?hd (cs := #[.int .u8 a1_0, .int .u32 a1_1, .string a1_2, .string a1_3]) (t := 60) ?hr ?_; (case hd => rfl); (case hg => rfl); (case hr => exact z66z11); intro gb101 hg w59 hbox hb; have n0_ := Aside0.mk (Kd.R_below z66z7 hb); have n1_ := Aside0.mk (Kept.below (S := (fun k_ => P0_ k_)) z66z10 hb); have n2_ := Aside0.mk (below_step z66z6 hb); have n3_ := Aside0.mk (hbox); have n4_ := Aside0.mk ((by rw [hg]; exact z66z8 : w.heap.size ≤ gb101)); have n5_ := Aside0.mk ((by rw [hg]; exact (below_size z66z6) : w0.heap.size ≤ gb101)); replace HO0 := n0_; replace HK := n1_; replace HB := n2_; have BK101 := n3_; have GW101 := n4_; have GE101 := n5_; clear n0_ n1_ n2_ n3_ n4_ n5_; clear hb hbox hg; have hcz60_0 := cc4_0 BK101.out; have hcz60_1 := cc4_1 BK101.out; have hcz60_2 := cc4_2 BK101.out; have hcz60_3 := cc4_3 BK101.out) | ((with_reducible refine gate_builtin (b := .append) (xs := #[.tmp 5, .tmp 8]) rfl ?_); at_builtin; refine Kd.R_append (Kd.int .u8) (w0 := w0) w0.heap.size rfl (.tmp 5) (.tmp 8) 25 5 (.int .u8 0) 1 rfl Tryd.underlying25 info5 rfl (by decide) (by omega) u9000_ l0 a1_0 [.int .u8 a1_0] (fun k_ => (P0_ k_ ∨ w.heap.size ≤ k_)) (fun _ => False) rfl rfl ?aP (fun _ hk => hk.elim) ?aF ?aO ?aB ?aS ?aL ?_; (case aP => exact rfl); (case aB => exact z66z0); (case aF => exact (fun k_ hk => (.inr (Nat.le_trans z66z2 hk)))); (case aO => exact z66z7); (case aS => exact (below_size z66z0)); (case aL => have := LMc3.out; omega); intro v103 w61 ho hb hg hat; rw [← Ny102.out] at ho; have n0_ := Aside0.mk (blk_grown (g := gb101) (o := .cells #[.int .u8 a1_0, .int .u32 a1_1, .string a1_2, .string a1_3] 60 (0, 0)) z66z3 hg (Kd.R_ne HO0.out BK101.out (by decide))); have n1_ := Aside0.mk (hb); have n2_ := Aside0.mk (Kept.of_grown (S := (fun k_ => P0_ k_)) hg z66z1 (fun k_ e_ => (HO0.out.1 k_ e_))); have n3_ := Aside0.mk (ho); replace BK101 := n0_; replace HB := n1_; replace HK := n2_; have HO104 := n3_; clear HO0; clear n0_ n1_ n2_ n3_; clear ho hb hg hat; have hcz62_0 := cc4_0 BK101.out; have hcz62_1 := cc4_1 BK101.out; have hcz62_2 := cc4_2 BK101.out; have hcz62_3 := cc4_3 BK101.out) | ((with_reducible refine gate_callee (f := 82) rfl ?_); refine goesL_ (some 12) rfl rfl Tryd.func82 (by kernel_rfl) rfl #[.int .u8 a1_0] rfl z66z5 ?_; (with_reducible refine (prop_Type.calls a1_0 t105 _ A4.out).mono ?_); rintro e w63 ⟨rfl, hb⟩; refine ⟨_, rfl, ?_⟩; have n0_ := Aside0.mk (Kd.R_below z66z4 hb); have n1_ := Aside0.mk (blk_below (g := gb101) (o := .cells #[.int .u8 a1_0, .int .u32 a1_1, .string a1_2, .string a1_3] 60 (0, 0)) z66z3 hb); have n2_ := Aside0.mk (Kept.below (S := (fun k_ => P0_ k_)) z66z1 hb); have n3_ := Aside0.mk (below_step z66z0 hb); replace HO104 := n0_; replace BK101 := n1_; replace HK := n2_; replace HB := n3_; clear n0_ n1_ n2_ n3_; clear hb; have hcz64_0 := cc4_0 BK101.out; have hcz64_1 := cc4_1 BK101.out; have hcz64_2 := cc4_2 BK101.out; have hcz64_3 := cc4_3 BK101.out; obtain ⟨Ao65, co65, eo65⟩ := Kd.R_slice HO104.out; subst eo65) | ((with_reducible refine gate_callee (f := 92) rfl ?_); refine goesL_ (some 51) rfl rfl Tryd.func92 (by kernel_rfl) rfl #[.slice Ao65 y102.length co65, .string a1_2] rfl z66z5 ?_; (with_reducible refine (wire_Bin.calls _ _ y102 a1_2 t124 _ ?side1 ?side2 A58.out).mono ?_); (case side1 => exact z66z9); (case side2 => exact z66z13); rintro e w66 ⟨v125, rfl, ho0, hb⟩; refine ⟨_, rfl, ?_⟩; have n0_ := Aside0.mk (Kd.R_elder' z66z4 (Kd.R_base ho0) hb); have n1_ := Aside0.mk (Kd.R_lower (Kd.R_new' (Kd.R_newM (M := fun k_ => (P0_ k_ ∨ w.heap.size ≤ k_)) ho0 z66z2 (fun k_ h_ => .inr h_)) (Kd.R_lt z66z4)) (below_size z66z0)); have n2_ := Aside0.mk (blk_below (g := gb101) (o := .cells #[.int .u8 a1_0, .int .u32 a1_1, .string a1_2, .string a1_3] 60 (0, 0)) z66z3 hb); have n3_ := Aside0.mk (Kept.below (S := (fun k_ => P0_ k_)) z66z1 hb); have n4_ := Aside0.mk (below_step z66z0 hb); replace HO104 := n0_; have HO126 := n1_; replace BK101 := n2_; replace HK := n3_; replace HB := n4_; clear n0_ n1_ n2_ n3_ n4_; clear hb ho0))
       go_ret
       exact ⟨_, by first | rfl | (simp [errW_none, errW_some] <;> rfl) | (simp [*, errW_none, errW_some] <;> rfl), by (with_reducible repeat (first | apply Kd.R_alloc | apply Kd.R_drewN | apply Kd.R_drew)); exact Kd.R_mono HO126.out (fun _ hk => hk.1.1), by repeat (first | (with_reducible first | exact HB.out | apply below_alloc | apply pw_below_drewN | apply below_drew1 | refine below_set ?_ GE101.out) | exact HB.out), by repeat (first | (with_reducible first | exact HK.out | apply Kept.alloc | apply Kept.drewN | apply Kept.drew | refine Kept.setCell ?_ (.inr GW101.out) _) | exact HK.out)⟩
 ·rw [if_neg c3] at H
  exact absurd H (by simp)
end Go.Proofs.YtkmkgpigmldhnaaDoor.P

namespace Go.Proofs.YtkmkgpigmldhnaaDoor.P
open Go.RowKit Go.Proofs.YtkmkgpigmldhnaaDoorW.PrintWords Go.Proofs.YtkmkgpigmldhnaaDoorW.PrintLast Go.Proofs.YtkmkgpigmldhnaaDoorW.PrintMore
attribute [local go_sem] max2_int min2_int max_two min_two max_three min_three max_four min_four
set_option linter.unusedVariables false
set_option linter.unusedSimpArgs false
def props_section.l0 : Nat → List Int → List (S60) → Int → Int → Option (List Int × Bool)
  | 0, _, _, _, _ => none
  | k + 1, x4, x7, x8, x9 => if x9 < x8 then (if 0 ≤ x9 then (if x9 < (x7.length : Int) then ((prop_Right.f k ((rd_T60 x7 x9).f0) ((rd_T60 x7 x9).f1) ((rd_T60 x7 x9).f2) ((rd_T60 x7 x9).f3)).bind fun t103 => (if t103 = true then ((props_one.f k x4 ((rd_T60 x7 x9).f0) ((rd_T60 x7 x9).f1) ((rd_T60 x7 x9).f2) ((rd_T60 x7 x9).f3)).bind fun t104 => (props_section.l0 k t104 x7 x8 (wrap64 (x9 + 1)))) else (some (([] : List Int), false)))) else (none)) else (none)) else (some (x4, decide ((x4.length : Int) ≤ 268435455)))
def props_section.f (k : Nat) (l0 : List (S60)) : Option (List Int × Bool) := props_section.l0 k ([] : List Int) l0 (l0.length : Int) 0
theorem z34m0 {p : Prop} (h : p := by
 repeat' first
 | (with_reducible exact ih0 _ _ _ _)
 | (with_reducible exact prop_Right.mono _ _ _ _ _)
 | (with_reducible exact props_one.mono _ _ _ _ _ _)
 | (with_reducible exact LeO.refl _)
 | (with_reducible exact LeO.none _)
 | (with_reducible refine LeO.ite ?_ ?_)
 | (with_reducible refine LeO.bind ?_ (fun _ => ?_))
 | exact ih0 _ _ _ _
 | exact prop_Right.mono _ _ _ _ _
 | exact props_one.mono _ _ _ _ _ _
 | exact LeO.none _
 | refine LeO.ite ?_ ?_
 | refine LeO.bind ?_ (fun _ => ?_)) : p := h
theorem props_section.mono_l : ∀ k, (∀ y0 y1 y2 y3, LeO (props_section.l0 k y0 y1 y2 y3) (props_section.l0 (k + 1) y0 y1 y2 y3))
  | 0 => fun _ _ _ _ r h => by simp [props_section.l0] at h
  | k + 1 => by
    have ih0 := props_section.mono_l k
    · intro y0 y1 y2 y3
      unfold props_section.l0
      exact z34m0
theorem props_section.mono : ∀ a0 k, LeO (props_section.f k a0) (props_section.f (k + 1) a0) := by
  intro a0 k
  have ih0 := props_section.mono_l k
  unfold props_section.f
  exact z34m0
theorem z34z0 {p : Prop} (h : p := by (with_reducible repeat (first | refine blk_drewN ?_ _ | refine blk_drew ?_ | refine blk_alloc ?_ _)); refine blk_put (cs := #[.int .u8 ((rd_T60 l0 x9_1).f0), .int .u32 ((rd_T60 l0 x9_1).f1), .string ((rd_T60 l0 x9_1).f2), .string (⟨#[]⟩ : ByteArray)]) ?_ 3 _ rfl; (with_reducible repeat (first | refine blk_drewN ?_ _ | refine blk_drew ?_ | refine blk_alloc ?_ _)); refine blk_put (cs := #[.int .u8 ((rd_T60 l0 x9_1).f0), .int .u32 ((rd_T60 l0 x9_1).f1), .string (⟨#[]⟩ : ByteArray), .string (⟨#[]⟩ : ByteArray)]) ?_ 2 _ rfl; (with_reducible repeat (first | refine blk_drewN ?_ _ | refine blk_drew ?_ | refine blk_alloc ?_ _)); refine blk_put (cs := #[.int .u8 ((rd_T60 l0 x9_1).f0), .int .u32 0, .string (⟨#[]⟩ : ByteArray), .string (⟨#[]⟩ : ByteArray)]) ?_ 1 _ rfl; (with_reducible repeat (first | refine blk_drewN ?_ _ | refine blk_drew ?_ | refine blk_alloc ?_ _)); refine blk_put (cs := #[.int .u8 0, .int .u32 0, .string (⟨#[]⟩ : ByteArray), .string (⟨#[]⟩ : ByteArray)]) ?_ 0 _ rfl; (with_reducible repeat (first | refine blk_drewN ?_ _ | refine blk_drew ?_ | refine blk_alloc ?_ _)); exact BK102.out) : p := h
theorem z34z1 {p : Prop} (h : p := by repeat (first | (with_reducible first | exact HB.out | apply below_alloc | apply pw_below_drewN | apply below_drew1) | exact HB.out)) : p := h
theorem z34z2 {p : Prop} (h : p := by (with_reducible repeat (first | apply Kd.R_alloc | apply Kd.R_drewN | apply Kd.R_drew)); exact (Kd.R_mono (Kd.R_far (p := ⟨gb102, 3, none⟩) (Kd.R_far (p := ⟨gb102, 2, none⟩) (Kd.R_far (p := ⟨gb102, 1, none⟩) (Kd.R_far (p := ⟨gb102, 0, none⟩) (Kd.R_types HO_4.out BK102.out (by decide)) (fun _ hk => hk.2) (.int .u8 ((rd_T60 l0 x9_1).f0))) (fun _ hk => hk.2) (.int .u32 ((rd_T60 l0 x9_1).f1))) (fun _ hk => hk.2) (.string ((rd_T60 l0 x9_1).f2))) (fun _ hk => hk.2) (.string ((rd_T60 l0 x9_1).f3))) (fun _ h_ => h_.1))) : p := h
theorem z34z3 {p : Prop} (h : p := by repeat (first | (with_reducible first | exact HB.out | apply below_alloc | apply pw_below_drewN | apply below_drew1 | refine below_set ?_ GE102.out) | exact HB.out)) : p := h
theorem z34z4 {p : Prop} (h : p := by (try simp only [List.map_toArray, List.map_cons, List.map_nil]); first | done | rfl | (simp only [List.length_drop, List.length_take]; rfl)) : p := h
theorem z34z5 {p : Prop} (h : p := by first | (with_reducible assumption) | assumption) : p := h
theorem z34z6 {p : Prop} (h : p := by (with_reducible repeat (first | apply Kd.R_alloc | apply Kd.R_drewN | apply Kd.R_drew)); exact HO_4.out) : p := h
set_option maxHeartbeats 8000000 in
set_option maxRecDepth 100000 in
theorem props_section.calls (k : Nat) (A0 : Option Addr) (c0 : Nat) (l0 : List (S60)) (r1 : List Int) (r2 : Bool) (w : World) (hr0 : Kd.C k60 w A0 l0.length l0) (hc0 : l0.length ≤ c0) (hG : GW w) (h : props_section.f k l0 = some (r1, r2)) :
  Calls Tryd.prog 34 #[.slice A0 l0.length c0] w fun e w' => ∃ v0_ : Value, e = .returned (.tuple #[v0_, .bool r2]) ∧ Kd.R (Kd.int .u8) 5 w' w.heap.size (fun _ => True) v0_ r1 ∧ Below w.heap.size w w' := by
 have hu60 := Tryd.underlying60
 have HR0 := Aside0.mk hr0
 have HC0 := Aside0.mk hc0
 clear hr0 hc0
 have HB := Aside0.mk (Below.refl w.heap.size w)
 have HG := Aside0.mk hG
 clear hG
 have H : (props_section.l0 k ([] : List Int) l0 (l0.length : Int) 0) = some (r1, r2) := h
 clear h
 have H' := Aside0.mk H
 clear H
 go_enter Tryd.func34, Tryd.ntmps34
 go_wp2
 go_loopg [4, 9] k (fun kq v4 v9 w' => ∃ (x4_1 : List Int) (x9_1 : Int), v9 = .int .i64 x9_1 ∧ Aside0 (props_section.l0 kq x4_1 l0 (l0.length : Int) x9_1 = some (r1, r2)) ∧ Aside0 (kq ≤ k) ∧ Aside0 (Kd.R (Kd.int .u8) 5 w' w.heap.size (fun _ => True) v4 x4_1) ∧ Aside0 (Below w.heap.size w w'))
 case atStart => exact ⟨(([] : List Int)), (0), (by first | rfl | (simp; done) | (simp [*]; done)), H', ⟨Nat.le_refl _⟩, ⟨by first | exact Kd.R_nil _ _ _ _ _ | exact Kd.N_nil _ _ _ _ _ | exact Kd.V_nil _ _ _ _ _ | exact Kd.Q_nil _ _ _ _ _ | exact Kd.S_nil _ _ _ _ _⟩, ⟨by repeat (first | (with_reducible first | exact HB.out | apply below_alloc | apply pw_below_drewN | apply below_drew1) | exact HB.out)⟩⟩
 case round =>
  clear H'
  obtain ⟨x4_1, x9_1, rfl, HA, HK1, HO_4, HB⟩ := hrel
  cases gk with
  | zero => exact absurd HA.out (by simp [props_section.l0])
  | succ k1 =>
   have H := HA.out
   clear HA
   simp only [props_section.l0] at H
   by_cases c2 : x9_1 < (l0.length : Int)
   ·rw [if_pos c2] at H
    have c2b0 : decide (x9_1 < (l0.length : Int)) = true := decide_eq_true c2
    clear c2
    by_cases c3 : 0 ≤ x9_1
    ·rw [if_pos c3] at H
     have c3b0 : decide (0 ≤ x9_1) = true := decide_eq_true c3
     clear c3
     by_cases c4 : x9_1 < (l0.length : Int)
     ·rw [if_pos c4] at H
      have c4b0 : decide (x9_1 < (l0.length : Int)) = true := decide_eq_true c4
      clear c4
      replace H := Option.bind_eq_some_iff.mp H
      obtain ⟨t103, A50, H⟩ := H
      replace H : (if t103 = true then ((props_one.f k1 x4_1 ((rd_T60 l0 x9_1).f0) ((rd_T60 l0 x9_1).f1) ((rd_T60 l0 x9_1).f2) ((rd_T60 l0 x9_1).f3)).bind fun t104 => (props_section.l0 k1 t104 l0 (l0.length : Int) (wrap64 (x9_1 + 1)))) else (some (([] : List Int), false))) = some (r1, r2) := H
      have A5 := Aside0.mk A50
      clear A50
      by_cases c6 : t103 = true
      ·subst c6
       have H1 : ((props_one.f k1 x4_1 ((rd_T60 l0 x9_1).f0) ((rd_T60 l0 x9_1).f1) ((rd_T60 l0 x9_1).f2) ((rd_T60 l0 x9_1).f3)).bind fun t104 => (props_section.l0 k1 t104 l0 (l0.length : Int) (wrap64 (x9_1 + 1)))) = some (r1, r2) := by rw [if_pos rfl] at H; exact H
       clear H
       have H := H1
       clear H1
       replace H := Option.bind_eq_some_iff.mp H
       obtain ⟨t104, A70, H⟩ := H
       replace H : (props_section.l0 k1 t104 l0 (l0.length : Int) (wrap64 (x9_1 + 1))) = some (r1, r2) := H
       have A7 := Aside0.mk A70
       clear A70
       have H' := Aside0.mk H
       clear H
       have p101 : 0 ≤ (x9_1 : Int) := of_decide_eq_true z34z5
       have q101 : x9_1 < (l0.length : Int) := of_decide_eq_true z34z5
       obtain ⟨ad101, e101, hx101_0, hx101_1, hx101_2, hx101_3⟩ := at_T60 HR0.out x9_1 p101 q101
       cases e101
       replace hx101_0 := (HB.out.cell (World.block_lt_of_cell? w _ hx101_0)).trans hx101_0
       replace hx101_1 := (HB.out.cell (World.block_lt_of_cell? w _ hx101_1)).trans hx101_1
       replace hx101_2 := (HB.out.cell (World.block_lt_of_cell? w _ hx101_2)).trans hx101_2
       replace hx101_3 := (HB.out.cell (World.block_lt_of_cell? w _ hx101_3)).trans hx101_3
       replace p101 := eq_true p101
       replace q101 := eq_true q101
       go_wp2_with (first | ((with_reducible refine gate_dst (N := 6) rfl ?_); refine box_event ?hg (N := 6) ?hd (cs := #[.int .u8 0, .int .u32 0, .string (⟨#[]⟩ : ByteArray), .string (⟨#[]⟩ : ByteArray)]) (t := 60) ?hr ?_; (case hd => rfl); (case hg => rfl); (case hr => first | (go_simp; done) | (go_simp; rfl)); intro gb102 hg w8 hbox hb; have n0_ := Aside0.mk (Kd.R_below z34z6 hb); have n1_ := Aside0.mk (below_step z34z1 hb); have n2_ := Aside0.mk (hbox); have n3_ := Aside0.mk ((by rw [hg]; exact (below_size z34z1) : w.heap.size ≤ gb102)); have n4_ := Aside0.mk ((by rw [hg]; exact (below_size z34z1) : w.heap.size ≤ gb102)); replace HO_4 := n0_; replace HB := n1_; have BK102 := n2_; have GW102 := n3_; have GE102 := n4_; clear n0_ n1_ n2_ n3_ n4_; clear hb hbox hg; have hcz9_0 := cc4_0 BK102.out; have hcz9_1 := cc4_1 BK102.out; have hcz9_2 := cc4_2 BK102.out; have hcz9_3 := cc4_3 BK102.out; have hfz9_0 := blk_frozen BK102.out 0; have hfz9_1 := blk_frozen BK102.out 1; have hfz9_2 := blk_frozen BK102.out 2; have hfz9_3 := blk_frozen BK102.out 3) | ((with_reducible refine gate_callee (f := 65) rfl ?_); refine goesL_ (some 14) rfl rfl Tryd.func65 (by kernel_rfl) rfl #[.agg #[.int .u8 ((rd_T60 l0 x9_1).f0), .int .u32 ((rd_T60 l0 x9_1).f1), .string ((rd_T60 l0 x9_1).f2), .string ((rd_T60 l0 x9_1).f3)]] rfl z34z4 ?_; (with_reducible refine (prop_Right.calls k1 ((rd_T60 l0 x9_1).f0) ((rd_T60 l0 x9_1).f1) ((rd_T60 l0 x9_1).f2) ((rd_T60 l0 x9_1).f3) true _ ?side1 A5.out).mono ?_); (case side1 => exact GW.below HG.out z34z3); rintro e w10 ⟨rfl, hb⟩; refine ⟨_, rfl, ?_⟩; have n0_ := Aside0.mk (Kd.R_below z34z2 hb); have n1_ := Aside0.mk (blk_below (g := gb102) (o := .cells #[.int .u8 ((rd_T60 l0 x9_1).f0), .int .u32 ((rd_T60 l0 x9_1).f1), .string ((rd_T60 l0 x9_1).f2), .string ((rd_T60 l0 x9_1).f3)] 60 (0, 0)) z34z0 hb); have n2_ := Aside0.mk (below_step z34z3 hb); replace HO_4 := n0_; replace BK102 := n1_; replace HB := n2_; clear n0_ n1_ n2_; clear hb; have hcz11_0 := cc4_0 BK102.out; have hcz11_1 := cc4_1 BK102.out; have hcz11_2 := cc4_2 BK102.out; have hcz11_3 := cc4_3 BK102.out; have hfz11_0 := blk_frozen BK102.out 0; have hfz11_1 := blk_frozen BK102.out 1; have hfz11_2 := blk_frozen BK102.out 2; have hfz11_3 := blk_frozen BK102.out 3; obtain ⟨Ao12, co12, eo12⟩ := Kd.R_slice HO_4.out; subst eo12) | ((with_reducible refine gate_callee (f := 66) rfl ?_); refine goesL_ (some 18) rfl rfl Tryd.func66 (by kernel_rfl) rfl #[.slice Ao12 x4_1.length co12, .agg #[.int .u8 ((rd_T60 l0 x9_1).f0), .int .u32 ((rd_T60 l0 x9_1).f1), .string ((rd_T60 l0 x9_1).f2), .string ((rd_T60 l0 x9_1).f3)]] rfl z34z4 ?_; (with_reducible refine (props_one.calls k1 (fun k_ => some k_ = (.slice Ao12 x4_1.length co12 : Value).ownBlock) (.slice Ao12 x4_1.length co12) x4_1 ((rd_T60 l0 x9_1).f0) ((rd_T60 l0 x9_1).f1) ((rd_T60 l0 x9_1).f2) ((rd_T60 l0 x9_1).f3) t104 w _ ?side1 ?side2 A7.out).mono ?_); (case side1 => repeat (first | (with_reducible first | exact HB.out | apply below_alloc | apply pw_below_drewN | apply below_drew1 | refine below_set ?_ GE102.out) | exact HB.out)); (case side2 => exact Kd.R_tight rfl HO_4.out); rintro e w13 ⟨v105, rfl, ho0, hb, hkp⟩; refine ⟨_, rfl, ?_⟩; have n0_ := Aside0.mk (blk_kept (by (with_reducible repeat (first | refine blk_drewN ?_ _ | refine blk_drew ?_ | refine blk_alloc ?_ _)); exact BK102.out) hkp (fun hs_ => (fun e_ => (Kd.R_ne HO_4.out BK102.out (by decide)) e_) hs_)); have n1_ := Aside0.mk (Kd.R_mono (ok' := fun k_ => True) ho0 (fun k_ hk_ => trivial)); have n2_ := Aside0.mk (hb); replace BK102 := n0_; have HO106 := n1_; replace HB := n2_; clear HO_4; clear n0_ n1_ n2_; clear hb hkp ho0))
       go_roundg k1
       case measure => have := HK1.out; omega
       case rel => exact ⟨(t104), (wrap64 (x9_1 + 1)), (by first | rfl | (simp; done) | (simp [*]; done)), H', ⟨by have := HK1.out; omega⟩, ⟨by (with_reducible repeat (first | apply Kd.R_alloc | apply Kd.R_drewN | apply Kd.R_drew)); exact HO106.out⟩, ⟨by repeat (first | (with_reducible first | exact HB.out | apply below_alloc | apply pw_below_drewN | apply below_drew1 | refine below_set ?_ GE102.out) | exact HB.out)⟩⟩
      ·replace c6 := Bool.eq_false_iff.mpr c6
       subst c6
       have H1 : (some (([] : List Int), false)) = some (r1, r2) := by rw [if_neg (show ¬ (false = true) by decide)] at H; exact H
       clear H
       have H := H1
       clear H1
       simp only [Option.some.injEq, Prod.mk.injEq] at H
       obtain ⟨rfl, rfl⟩ := H
       have p101 : 0 ≤ (x9_1 : Int) := of_decide_eq_true z34z5
       have q101 : x9_1 < (l0.length : Int) := of_decide_eq_true z34z5
       obtain ⟨ad101, e101, hx101_0, hx101_1, hx101_2, hx101_3⟩ := at_T60 HR0.out x9_1 p101 q101
       cases e101
       replace hx101_0 := (HB.out.cell (World.block_lt_of_cell? w _ hx101_0)).trans hx101_0
       replace hx101_1 := (HB.out.cell (World.block_lt_of_cell? w _ hx101_1)).trans hx101_1
       replace hx101_2 := (HB.out.cell (World.block_lt_of_cell? w _ hx101_2)).trans hx101_2
       replace hx101_3 := (HB.out.cell (World.block_lt_of_cell? w _ hx101_3)).trans hx101_3
       replace p101 := eq_true p101
       replace q101 := eq_true q101
       go_wp2_with (first | ((with_reducible refine gate_dst (N := 6) rfl ?_); refine box_event ?hg (N := 6) ?hd (cs := #[.int .u8 0, .int .u32 0, .string (⟨#[]⟩ : ByteArray), .string (⟨#[]⟩ : ByteArray)]) (t := 60) ?hr ?_; (case hd => rfl); (case hg => rfl); (case hr => first | (go_simp; done) | (go_simp; rfl)); intro gb102 hg w14 hbox hb; have n0_ := Aside0.mk (Kd.R_below z34z6 hb); have n1_ := Aside0.mk (below_step z34z1 hb); have n2_ := Aside0.mk (hbox); have n3_ := Aside0.mk ((by rw [hg]; exact (below_size z34z1) : w.heap.size ≤ gb102)); have n4_ := Aside0.mk ((by rw [hg]; exact (below_size z34z1) : w.heap.size ≤ gb102)); replace HO_4 := n0_; replace HB := n1_; have BK102 := n2_; have GW102 := n3_; have GE102 := n4_; clear n0_ n1_ n2_ n3_ n4_; clear hb hbox hg; have hcz15_0 := cc4_0 BK102.out; have hcz15_1 := cc4_1 BK102.out; have hcz15_2 := cc4_2 BK102.out; have hcz15_3 := cc4_3 BK102.out; have hfz15_0 := blk_frozen BK102.out 0; have hfz15_1 := blk_frozen BK102.out 1; have hfz15_2 := blk_frozen BK102.out 2; have hfz15_3 := blk_frozen BK102.out 3) | ((with_reducible refine gate_callee (f := 65) rfl ?_); refine goesL_ (some 14) rfl rfl Tryd.func65 (by kernel_rfl) rfl #[.agg #[.int .u8 ((rd_T60 l0 x9_1).f0), .int .u32 ((rd_T60 l0 x9_1).f1), .string ((rd_T60 l0 x9_1).f2), .string ((rd_T60 l0 x9_1).f3)]] rfl z34z4 ?_; (with_reducible refine (prop_Right.calls k1 ((rd_T60 l0 x9_1).f0) ((rd_T60 l0 x9_1).f1) ((rd_T60 l0 x9_1).f2) ((rd_T60 l0 x9_1).f3) false _ ?side1 A5.out).mono ?_); (case side1 => exact GW.below HG.out z34z3); rintro e w16 ⟨rfl, hb⟩; refine ⟨_, rfl, ?_⟩; have n0_ := Aside0.mk (Kd.R_below z34z2 hb); have n1_ := Aside0.mk (blk_below (g := gb102) (o := .cells #[.int .u8 ((rd_T60 l0 x9_1).f0), .int .u32 ((rd_T60 l0 x9_1).f1), .string ((rd_T60 l0 x9_1).f2), .string ((rd_T60 l0 x9_1).f3)] 60 (0, 0)) z34z0 hb); have n2_ := Aside0.mk (below_step z34z3 hb); replace HO_4 := n0_; replace BK102 := n1_; replace HB := n2_; clear n0_ n1_ n2_; clear hb))
       go_ret2
       exact ⟨_, by first | rfl | (simp [errW_none, errW_some] <;> rfl) | (simp [*, errW_none, errW_some] <;> rfl), by first | exact Kd.R_nil _ _ _ _ _ | exact Kd.N_nil _ _ _ _ _ | exact Kd.V_nil _ _ _ _ _ | exact Kd.Q_nil _ _ _ _ _ | exact Kd.S_nil _ _ _ _ _, by repeat (first | (with_reducible first | exact HB.out | apply below_alloc | apply pw_below_drewN | apply below_drew1 | refine below_set ?_ GE102.out) | exact HB.out)⟩
     ·rw [if_neg c4] at H
      exact absurd H (by simp)
    ·rw [if_neg c3] at H
     exact absurd H (by simp)
   ·rw [if_neg c2] at H
    have c2b0 : decide (x9_1 < (l0.length : Int)) = false := decide_eq_false c2
    clear c2
    simp only [Option.some.injEq, Prod.mk.injEq] at H
    obtain ⟨rfl, rfl⟩ := H
    obtain ⟨Ao17, co17, eo17⟩ := Kd.R_slice HO_4.out
    subst eo17
    go_wp2
    go_ret2
    exact ⟨_, by first | rfl | (simp [errW_none, errW_some] <;> rfl) | (simp [*, errW_none, errW_some] <;> rfl), by (with_reducible repeat (first | apply Kd.R_alloc | apply Kd.R_drewN | apply Kd.R_drew)); exact HO_4.out, by repeat (first | (with_reducible first | exact HB.out | apply below_alloc | apply pw_below_drewN | apply below_drew1) | exact HB.out)⟩
end Go.Proofs.YtkmkgpigmldhnaaDoor.P

namespace Go.Proofs.YtkmkgpigmldhnaaDoor.P
open Go.RowKit Go.Proofs.YtkmkgpigmldhnaaDoorW.PrintWords Go.Proofs.YtkmkgpigmldhnaaDoorW.PrintLast Go.Proofs.YtkmkgpigmldhnaaDoorW.PrintMore
attribute [local go_sem] max2_int min2_int max_two min_two max_three min_three max_four min_four
set_option linter.unusedVariables false
set_option linter.unusedSimpArgs false
def props_Put.f (k : Nat) (l0 : List Int) (l1 : List (S60)) : Option (List Int) := (props_section.f k l1).bind fun bt101 => (if bt101.2 = true then ((wire_Var.f k l0 (((bt101.1.length : Int)) % 4294967296)).bind fun t105 => (if t105.length + bt101.1.length < 140737488355328 then (some (t105 ++ bt101.1)) else (none))) else ((slices_Clone_byte_byte.f l0).bind fun t111 => (some t111)))
theorem props_Put.mono : ∀ a0 a1 k, LeO (props_Put.f k a0 a1) (props_Put.f (k + 1) a0 a1) := by
  intro a0 a1 k
  unfold props_Put.f
  repeat' first
      | (with_reducible exact props_section.mono _ _)
      | (with_reducible exact wire_Var.mono _ _ _)
      | (with_reducible exact LeO.refl _)
      | (with_reducible exact LeO.none _)
      | (with_reducible refine LeO.ite ?_ ?_)
      | (with_reducible refine LeO.bind ?_ (fun _ => ?_))
      | exact props_section.mono _ _
      | exact wire_Var.mono _ _ _
      | exact LeO.none _
      | refine LeO.ite ?_ ?_
      | refine LeO.bind ?_ (fun _ => ?_)
theorem z11z0 {p : Prop} (h : p := by repeat (first | (with_reducible first | exact HB.out | apply below_alloc | apply pw_below_drewN | apply below_drew1) | exact HB.out)) : p := h
theorem z11z1 {p : Prop} (h : p := by (with_reducible repeat (first | apply Kd.R_alloc | apply Kd.R_drewN | apply Kd.R_drew)); exact HO104.out) : p := h
theorem z11z2 {p : Prop} (h : p := by (try simp only [List.map_toArray, List.map_cons, List.map_nil]); first | done | rfl | (simp only [List.length_drop, List.length_take]; rfl)) : p := h
theorem z11z3 {p : Prop} (h : p := by repeat (first | exact (Kd.C_below HR0.out HB.out) | (with_reducible refine Kd.C_alloc ?_ _) | (with_reducible refine Kd.C_drewN ?_ _) | (with_reducible refine Kd.C_drew ?_))) : p := h
theorem z11z4 {p : Prop} (h : p := by repeat (first | exact HR1.out | (with_reducible refine Kd.C_alloc ?_ _) | (with_reducible refine Kd.C_drewN ?_ _) | (with_reducible refine Kd.C_drew ?_))) : p := h
set_option maxHeartbeats 8000000 in
set_option maxRecDepth 100000 in
theorem props_Put.calls (k : Nat) (A0 : Option Addr) (c0 : Nat) (l0 : List Int) (A1 : Option Addr) (c1 : Nat) (l1 : List (S60)) (r : List Int) (w : World) (hr0 : Kd.C (Kd.int .u8) w A0 l0.length l0) (hc0 : l0.length ≤ c0) (hr1 : Kd.C k60 w A1 l1.length l1) (hc1 : l1.length ≤ c1) (hG : GW w) (h : props_Put.f k l0 l1 = some r) :
  Calls Tryd.prog 11 #[.slice A0 l0.length c0, .slice A1 l1.length c1] w fun e w' => ∃ v0_ : Value, e = .returned (v0_) ∧ Kd.R (Kd.int .u8) 5 w' w.heap.size (fun _ => True) v0_ r ∧ Below w.heap.size w w' := by
 have HR0 := Aside0.mk hr0
 have HC0 := Aside0.mk hc0
 clear hr0 hc0
 have HR1 := Aside0.mk hr1
 have HC1 := Aside0.mk hc1
 clear hr1 hc1
 have HB := Aside0.mk (Below.refl w.heap.size w)
 have HG := Aside0.mk hG
 clear hG
 have H : ((props_section.f k l1).bind fun bt101 => (if bt101.2 = true then ((wire_Var.f k l0 (((bt101.1.length : Int)) % 4294967296)).bind fun t105 => (if t105.length + bt101.1.length < 140737488355328 then (some (t105 ++ bt101.1)) else (none))) else ((slices_Clone_byte_byte.f l0).bind fun t111 => (some t111)))) = some r := h
 clear h
 replace H := Option.bind_eq_some_iff.mp H
 obtain ⟨⟨t101, t102⟩, A30, H⟩ := H
 replace H : (if t102 = true then ((wire_Var.f k l0 (((t101.length : Int)) % 4294967296)).bind fun t105 => (if t105.length + t101.length < 140737488355328 then (some (t105 ++ t101)) else (none))) else ((slices_Clone_byte_byte.f l0).bind fun t111 => (some t111))) = some r := H
 have A3 := Aside0.mk A30
 clear A30
 by_cases c4 : t102 = true
 ·subst c4
  have H1 : ((wire_Var.f k l0 (((t101.length : Int)) % 4294967296)).bind fun t105 => (if t105.length + t101.length < 140737488355328 then (some (t105 ++ t101)) else (none))) = some r := by rw [if_pos rfl] at H; exact H
  clear H
  have H := H1
  clear H1
  replace H := Option.bind_eq_some_iff.mp H
  obtain ⟨t105, A50, H⟩ := H
  replace H : (if t105.length + t101.length < 140737488355328 then (some (t105 ++ t101)) else (none)) = some r := H
  have A5 := Aside0.mk A50
  clear A50
  by_cases c6 : t105.length + t101.length < 140737488355328
  ·rw [if_pos c6] at H
   have LMc6 := Aside0.mk c6
   clear c6
   obtain ⟨y108, hy108⟩ : ∃ y_ : List Int, y_ = (t105 ++ t101) := ⟨_, rfl⟩
   replace H : (some y108) = some r := by first | (rw [hy108]; with_reducible exact H) | (have H2_ := (Option.bind_some _ _).symm.trans H; rw [hy108]; with_reducible exact H2_) | (have H2_ := (Option.bind_some _ _).symm.trans H; with_reducible exact H2_) | with_reducible exact H | (rw [hy108]; exact H) | exact H
   have Ny108 := Aside0.mk hy108
   clear hy108
   obtain rfl := Option.some.inj H
   go_enter Tryd.func11, Tryd.ntmps11
   go_wp2_with (first | ((with_reducible refine gate_callee (f := 34) rfl ?_); refine goesL_ (some 9) rfl rfl Tryd.func34 (by kernel_rfl) rfl #[.slice A1 l1.length c1] rfl z11z2 ?_; (with_reducible refine (props_section.calls k _ _ l1 t101 true _ ?side1 ?side2 ?side3 A3.out).mono ?_); (case side1 => exact z11z4); (case side2 => exact HC1.out); (case side3 => exact GW.below HG.out z11z0); rintro e w7 ⟨v103, rfl, ho0, hb⟩; refine ⟨_, rfl, ?_⟩; have n0_ := Aside0.mk (Kd.R_lower ho0 (below_size z11z0)); have n1_ := Aside0.mk (below_step z11z0 hb); have HO104 := n0_; replace HB := n1_; clear n0_ n1_; clear hb ho0; obtain ⟨Ao8, co8, eo8⟩ := Kd.R_slice HO104.out; subst eo8) | ((with_reducible refine gate_callee (f := 36) rfl ?_); refine goesL_ (some 20) rfl rfl Tryd.func36 (by kernel_rfl) rfl #[.slice A0 l0.length c0, .int .u32 (((t101.length : Int)) % 4294967296)] rfl z11z2 ?_; (with_reducible refine (wire_Var.calls k _ _ l0 (((t101.length : Int)) % 4294967296) t105 _ ?side1 ?side2 A5.out).mono ?_); (case side1 => exact z11z3); (case side2 => exact HC0.out); rintro e w9 ⟨v106, rfl, ho0, hb⟩; refine ⟨_, rfl, ?_⟩; have n0_ := Aside0.mk (Kd.R_elder' z11z1 (Kd.R_base ho0) hb); have n1_ := Aside0.mk (Kd.R_lower (Kd.R_new' ho0 (Kd.R_lt z11z1)) (below_size z11z0)); have n2_ := Aside0.mk (below_step z11z0 hb); replace HO104 := n0_; have HO107 := n1_; replace HB := n2_; clear n0_ n1_ n2_; clear hb ho0) | ((with_reducible refine gate_builtin (b := .append) (xs := #[.tmp 20, .tmp 21]) rfl ?_); at_builtin; refine Kd.R_append_rows (Kd.int .u8) (w0 := w) w.heap.size rfl (.tmp 20) (.tmp 21) 25 5 (.int .u8 0) 1 rfl Tryd.underlying25 info5 rfl (by decide) (by omega) v106 t105 t101 _ _ _ (fun k_ => some k_ ≠ (.slice Ao8 t101.length co8 : Value).ownBlock) (fun _ => False) rfl rfl ?aO ?aR (fun _ _ h => h) (fun _ h => h.elim) ?aF ?aB ?aS ?aL ?_; (case aR => repeat (first | exact (Kd.R_reads' HO104.out).2.2 | (with_reducible refine Kd.C_alloc ?_ _) | (with_reducible refine Kd.C_drewN ?_ _) | (with_reducible refine Kd.C_drew ?_))); (case aB => exact z11z0); (case aF => exact (fun k_ hk => Kd.fresh' (Kd.R_lt z11z1) k_ hk)); (case aO => exact (by (with_reducible repeat (first | apply Kd.R_alloc | apply Kd.R_drewN | apply Kd.R_drew)); exact Kd.R_mono HO107.out (fun _ hk => hk.2))); (case aS => exact (below_size z11z0)); (case aL => have := LMc6.out; omega); intro v109 w10 ho hb hg hat; rw [← Ny108.out] at ho; have n0_ := Aside0.mk (Kd.R_after (ok := (fun _ => True)) z11z1 hg hat); have n1_ := Aside0.mk (hb); have n2_ := Aside0.mk (ho); replace HO104 := n0_; replace HB := n1_; have HO110 := n2_; clear HO107; clear n0_ n1_ n2_; clear ho hb hg hat))
   go_ret
   exact ⟨_, by first | rfl | (simp [errW_none, errW_some] <;> rfl) | (simp [*, errW_none, errW_some] <;> rfl), by (with_reducible repeat (first | apply Kd.R_alloc | apply Kd.R_drewN | apply Kd.R_drew)); exact Kd.R_mono HO110.out (fun _ hk => trivial), by repeat (first | (with_reducible first | exact HB.out | apply below_alloc | apply pw_below_drewN | apply below_drew1) | exact HB.out)⟩
  ·rw [if_neg c6] at H
   exact absurd H (by simp)
 ·replace c4 := Bool.eq_false_iff.mpr c4
  subst c4
  have H1 : ((slices_Clone_byte_byte.f l0).bind fun t111 => (some t111)) = some r := by rw [if_neg (show ¬ (false = true) by decide)] at H; exact H
  clear H
  have H := H1
  clear H1
  replace H := Option.bind_eq_some_iff.mp H
  obtain ⟨t111, A110, H⟩ := H
  replace H : (some t111) = some r := H
  have A11 := Aside0.mk A110
  clear A110
  obtain rfl := Option.some.inj H
  go_enter Tryd.func11, Tryd.ntmps11
  go_wp2_with (first | ((with_reducible refine gate_callee (f := 34) rfl ?_); refine goesL_ (some 9) rfl rfl Tryd.func34 (by kernel_rfl) rfl #[.slice A1 l1.length c1] rfl z11z2 ?_; (with_reducible refine (props_section.calls k _ _ l1 t101 false _ ?side1 ?side2 ?side3 A3.out).mono ?_); (case side1 => exact z11z4); (case side2 => exact HC1.out); (case side3 => exact GW.below HG.out z11z0); rintro e w12 ⟨v103, rfl, ho0, hb⟩; refine ⟨_, rfl, ?_⟩; have n0_ := Aside0.mk (Kd.R_lower ho0 (below_size z11z0)); have n1_ := Aside0.mk (below_step z11z0 hb); have HO104 := n0_; replace HB := n1_; clear n0_ n1_; clear hb ho0) | ((with_reducible refine gate_callee (f := 35) rfl ?_); refine goesL_ (some 15) rfl rfl Tryd.func35 (by kernel_rfl) rfl #[.slice A0 l0.length c0] rfl z11z2 ?_; (with_reducible refine (slices_Clone_byte_byte.calls _ _ l0 t111 _ ?side1 ?side2 A11.out).mono ?_); (case side1 => exact z11z3); (case side2 => exact HC0.out); rintro e w13 ⟨v112, rfl, ho0, hb⟩; refine ⟨_, rfl, ?_⟩; have n0_ := Aside0.mk (Kd.R_elder' z11z1 (Kd.R_base ho0) hb); have n1_ := Aside0.mk (Kd.R_lower (Kd.R_new' ho0 (Kd.R_lt z11z1)) (below_size z11z0)); have n2_ := Aside0.mk (below_step z11z0 hb); replace HO104 := n0_; have HO113 := n1_; replace HB := n2_; clear n0_ n1_ n2_; clear hb ho0))
  go_ret
  exact ⟨_, by first | rfl | (simp [errW_none, errW_some] <;> rfl) | (simp [*, errW_none, errW_some] <;> rfl), by (with_reducible repeat (first | apply Kd.R_alloc | apply Kd.R_drewN | apply Kd.R_drew)); exact Kd.R_mono HO113.out (fun _ hk => trivial), by repeat (first | (with_reducible first | exact HB.out | apply below_alloc | apply pw_below_drewN | apply below_drew1) | exact HB.out)⟩
end Go.Proofs.YtkmkgpigmldhnaaDoor.P

namespace Go.Proofs.YtkmkgpigmldhnaaDoor.P
open Go.RowKit Go.Proofs.YtkmkgpigmldhnaaDoorW.PrintWords Go.Proofs.YtkmkgpigmldhnaaDoorW.PrintLast Go.Proofs.YtkmkgpigmldhnaaDoorW.PrintMore
attribute [local go_sem] max2_int min2_int max_two min_two max_three min_three max_four min_four
set_option linter.unusedVariables false
set_option linter.unusedSimpArgs false
def props_Size.f (k : Nat) (l0 : List (S60)) : Option (Int) := (props_Put.f k ([] : List Int) l0).bind fun t101 => (some (t101.length : Int))
theorem props_Size.mono : ∀ a0 k, LeO (props_Size.f k a0) (props_Size.f (k + 1) a0) := by
  intro a0 k
  unfold props_Size.f
  repeat' first
      | (with_reducible exact props_Put.mono _ _ _)
      | (with_reducible exact LeO.refl _)
      | (with_reducible exact LeO.none _)
      | (with_reducible refine LeO.ite ?_ ?_)
      | (with_reducible refine LeO.bind ?_ (fun _ => ?_))
      | exact props_Put.mono _ _ _
      | exact LeO.none _
      | refine LeO.ite ?_ ?_
      | refine LeO.bind ?_ (fun _ => ?_)
theorem z14z0 {p : Prop} (h : p := by repeat (first | (with_reducible first | exact HB.out | apply below_alloc | apply pw_below_drewN | apply below_drew1) | exact HB.out)) : p := h
set_option maxHeartbeats 8000000 in
set_option maxRecDepth 100000 in
theorem props_Size.calls (k : Nat) (A0 : Option Addr) (c0 : Nat) (l0 : List (S60)) (r : Int) (w : World) (hr0 : Kd.C k60 w A0 l0.length l0) (hc0 : l0.length ≤ c0) (hG : GW w) (h : props_Size.f k l0 = some r) :
  Calls Tryd.prog 14 #[.slice A0 l0.length c0] w fun e w' => e = .returned (.int .i64 r) ∧ Below w.heap.size w w' := by
 have HR0 := Aside0.mk hr0
 have HC0 := Aside0.mk hc0
 clear hr0 hc0
 have HB := Aside0.mk (Below.refl w.heap.size w)
 have HG := Aside0.mk hG
 clear hG
 have H : ((props_Put.f k ([] : List Int) l0).bind fun t101 => (some (t101.length : Int))) = some r := h
 clear h
 replace H := Option.bind_eq_some_iff.mp H
 obtain ⟨t101, A20, H⟩ := H
 replace H : (some (t101.length : Int)) = some r := H
 have A2 := Aside0.mk A20
 clear A20
 obtain rfl := Option.some.inj H
 go_enter Tryd.func14, Tryd.ntmps14
 go_wp2_with (first | ((with_reducible refine gate_callee (f := 11) rfl ?_); refine goesL_ (some 4) rfl rfl Tryd.func11 (by kernel_rfl) rfl #[.slice none 0 0, .slice A0 l0.length c0] rfl (by (try simp only [List.map_toArray, List.map_cons, List.map_nil]); first | done | rfl | (simp only [List.length_drop, List.length_take]; rfl)) ?_; (refine (props_Put.calls k _ _ ([] : List Int) _ _ l0 t101 _ ?side1 ?side2 ?side3 ?side4 ?side5 A2.out).mono ?_); (case side1 => exact Kd.C_nil _ _); (case side2 => exact Nat.le_refl _); (case side3 => repeat (first | exact HR0.out | (with_reducible refine Kd.C_alloc ?_ _) | (with_reducible refine Kd.C_drewN ?_ _) | (with_reducible refine Kd.C_drew ?_))); (case side4 => exact HC0.out); (case side5 => exact GW.below HG.out z14z0); rintro e w3 ⟨v102, rfl, ho0, hb⟩; refine ⟨_, rfl, ?_⟩; have n0_ := Aside0.mk (Kd.R_lower ho0 (below_size z14z0)); have n1_ := Aside0.mk (below_step z14z0 hb); have HO103 := n0_; replace HB := n1_; clear n0_ n1_; clear hb ho0; obtain ⟨Ao4, co4, eo4⟩ := Kd.R_slice HO103.out; subst eo4))
 go_ret
 exact ⟨by first | rfl | (simp [errW_none, errW_some] <;> rfl) | (simp [*, errW_none, errW_some] <;> rfl), by repeat (first | (with_reducible first | exact HB.out | apply below_alloc | apply pw_below_drewN | apply below_drew1) | exact HB.out)⟩
end Go.Proofs.YtkmkgpigmldhnaaDoor.P

namespace Go.Proofs.YtkmkgpigmldhnaaDoor.P
open Go.RowKit Go.Shelf Go.Lib Go.Proofs.YtkmkgpigmldhnaaDoorW.PrintWords Go.Proofs.YtkmkgpigmldhnaaDoorW.PrintLast Go.Proofs.YtkmkgpigmldhnaaDoorW.PrintMore
set_option maxHeartbeats 4000000 in
set_option maxRecDepth 100000 in
theorem get_eq (x : S60) (id : Int) (B : Nat) (w : World) (hc : w.cell? ⟨B, 0, none⟩ = some (.int .u8 id)) :
    Calls Tryd.prog 54 #[.agg #[.int .u8 x.f0, .int .u32 x.f1, .string x.f2, .string x.f3], .pointer (some ⟨B, 0, none⟩)] w fun e w' => e = .returned (.bool (x.f0 == id)) ∧ Below w.heap.size w w' := by
  have hu := Tryd.underlying60
  have hc' := fun o => (pw_cell_below (below_alloc (Below.refl _ w) o) hc)
  go_enter Tryd.func54, Tryd.ntmps54
  go_wp2
  go_ret
  exact ⟨rfl, below_alloc (Below.refl _ _) _⟩
def idxAt (id : Int) : List S60 → Nat → Int
  | [], _ => -1
  | p :: r, i => if p.f0 = id then (i : Int) else idxAt id r (i + 1)
set_option maxHeartbeats 4000000 in
set_option maxRecDepth 100000 in
theorem index_by (l : List S60) (A : Option Addr) (c : Nat) (id : Int) (B : Nat) (w : World) (hc : w.cell? ⟨B, 0, none⟩ = some (.int .u8 id)) (hr : Kd.C k60 w A l.length l) (hl : l.length ≤ c) (hz : l.length < 4611686018427387904) :
    Calls Tryd.prog 53 #[.slice A l.length c, .func (.func 54) #[] #[.pointer (some ⟨B, 0, none⟩)]] w fun e w' => e = .returned (.int .i64 (idxAt id l 0)) ∧ Below w.heap.size w w' := by
  have hu := Tryd.underlying60
  have eg := enters_of Tryd.func54 (by kernel_rfl) rfl
  have HR := Aside0.mk hr
  have HC := Aside0.mk hc
  clear hr hc
  go_enter Tryd.func53, Tryd.ntmps53
  go_wp2
  go_loopg [8] l.length (fun g v8 wr => ∃ i : Nat, v8 = .int .i64 (i : Int) ∧ i + g = l.length ∧ Aside0 (idxAt id (l.drop i) i = idxAt id l 0) ∧ Aside0 (Below w.heap.size w wr))
  case atStart => exact ⟨0, rfl, by omega, ⟨rfl⟩, ⟨Below.refl _ _⟩⟩
  case round =>
    obtain ⟨i, rfl, hg, HI, HB⟩ := hrel
    cases gk with
    | zero =>
      have hb0 : decide ((i : Int) < (l.length : Int)) = false := decide_eq_false (by omega)
      have hend := HI.out
      rw [List.drop_eq_nil_of_le (by omega)] at hend
      have HE := Aside0.mk hend
      clear hend
      go_wp2
      go_ret
      exact ⟨by rw [← HE.out]; rfl, HB.out⟩
    | succ g =>
      have hlt : i < l.length := by omega
      have hb0 : decide ((i : Int) < (l.length : Int)) = true := decide_eq_true (by omega)
      obtain ⟨ad, e, hx0, hx1, hx2, hx3⟩ := at_T60 (Kd.C_below HR.out HB.out) (i : Int) (by omega) (by omega)
      subst e
      have hstep := HI.out
      rw [List.drop_eq_getElem_cons hlt, idxAt] at hstep
      have hrd : rd_T60 l (i : Int) = l[i] := by unfold rd_T60; simp [hlt]
      rw [hrd] at hx0 hx1 hx2 hx3
      simp only [Int.toNat_natCast] at hx0 hx1 hx2 hx3
      have h0 : (0 : Int) ≤ (i : Int) := by omega
      have h1 : (i : Int) < (l.length : Int) := by omega
      have hw : IntKind.i64.wrap ((i : Int) + 1) = ((i + 1 : Nat) : Int) := by rw [show IntKind.i64.wrap ((i : Int) + 1) = wrap64 ((i : Int) + 1) from (i64_w _)]; unfold wrap64; omega
      have HC' := Aside0.mk (pw_cell_below HB.out HC.out)
      by_cases hid : (l[i]).f0 = id
      · rw [if_pos hid] at hstep
        have hq : ((l[i]).f0 == id) = true := beq_iff_eq.2 hid
        have HS := Aside0.mk hstep
        have HQ := Aside0.mk hq
        clear hstep hrd hid hq
        go_wp2_with (fail)
        refine (get_eq l[i] id B _ HC'.out).mono ?_
        rintro e w' ⟨rfl, hb⟩
        have HB2 := Aside0.mk (below_step HB.out hb)
        clear hb
        simp only [HQ.out]
        go_wp2
        go_ret
        exact ⟨by rw [← HS.out]; rfl, HB2.out⟩
      · rw [if_neg hid] at hstep
        have hq : ((l[i]).f0 == id) = false := beq_eq_false_iff_ne.2 hid
        have HS := Aside0.mk hstep
        have HQ := Aside0.mk hq
        clear hstep hrd hid hq
        go_wp2_with (fail)
        refine (get_eq l[i] id B _ HC'.out).mono ?_
        rintro e w' ⟨rfl, hb⟩
        have HB2 := Aside0.mk (below_step HB.out hb)
        clear hb
        simp only [HQ.out]
        go_wp2
        go_roundg g
        case measure => omega
        case rel => exact ⟨i + 1, rfl, by omega, HS, HB2⟩
def props_Get.f (l0 : List (S60)) (a1 : Int) : Option (Int × Int × ByteArray × ByteArray × Bool) :=
  if l0.length < 4611686018427387904 then some (match l0.find? (fun p => decide (p.f0 = a1)) with
    | some p => (p.f0, p.f1, p.f2, p.f3, true)
    | none => (0, 0, (⟨#[]⟩ : ByteArray), (⟨#[]⟩ : ByteArray), false)) else none
theorem idxAt_find (id : Int) : ∀ (l : List S60) (i : Nat), (idxAt id l i = -1 ∧ l.find? (fun p => decide (p.f0 = id)) = none) ∨ ∃ j : Nat, ∃ h : j < l.length, idxAt id l i = ((i + j : Nat) : Int) ∧ l.find? (fun p => decide (p.f0 = id)) = some l[j]
  | [], _ => .inl ⟨rfl, rfl⟩
  | p :: r, i => by
    rw [idxAt, List.find?_cons]
    by_cases h : p.f0 = id
    · rw [if_pos h, decide_eq_true h]
      exact .inr ⟨0, by simp, by simp, by simp⟩
    · rw [if_neg h, decide_eq_false h]
      rcases idxAt_find id r (i + 1) with ⟨h1, h2⟩ | ⟨j, hj, h1, h2⟩
      · exact .inl ⟨h1, h2⟩
      · exact .inr ⟨j + 1, by simp; omega, by rw [h1]; congr 1; omega, by rw [h2]; simp⟩
set_option maxHeartbeats 4000000 in
set_option maxRecDepth 100000 in
theorem props_Get.calls (A0 : Option Addr) (c0 : Nat) (l0 : List (S60)) (a1 : Int) (r1 : Int) (r2 : Int) (r3 : ByteArray) (r4 : ByteArray) (r5 : Bool) (w : World) (hr0 : Kd.C k60 w A0 l0.length l0) (hc0 : l0.length ≤ c0) (h : props_Get.f l0 a1 = some (r1, r2, r3, r4, r5)) :
    Calls Tryd.prog 27 #[.slice A0 l0.length c0, .int .u8 a1] w fun e w' => e = .returned (.tuple #[.agg #[.int .u8 r1, .int .u32 r2, .string r3, .string r4], .bool r5]) ∧ Below w.heap.size w w' := by
  have hu := Tryd.underlying60
  unfold props_Get.f at h
  split at h
  · rename_i hz
    have h := Option.some.inj h
    have HR := Aside0.mk hr0
    have hbid := heap2_old w (.cells #[.int .u8 a1] 5) (.cells #[.int .u8 0, .int .u32 0, .string ⟨#[]⟩, .string ⟨#[]⟩] 60)
    have hcid := (blk_cell hbid 0).trans (rfl : _ = some (Value.int .u8 a1))
    have hbk := heap_alloc2_new w (.cells #[.int .u8 a1] 5) (.cells #[.int .u8 0, .int .u32 0, .string ⟨#[]⟩, .string ⟨#[]⟩] 60)
    have HID := Aside0.mk hcid
    have HBK := Aside0.mk hbk
    have HC0 := Aside0.mk hc0
    have HZ := Aside0.mk hz
    clear hr0 hbid hcid hbk hc0 hz
    go_enter Tryd.func27, Tryd.ntmps27
    rcases idxAt_find a1 l0 0 with ⟨e1, e2⟩ | ⟨j, hj, e1, e2⟩
    · rw [e2] at h
      simp only [Prod.mk.injEq] at h
      obtain ⟨rfl, rfl, rfl, rfl, rfl⟩ := h
      have E1 := Aside0.mk e1
      clear e1 e2
      go_wp2_with (go_at_call 53; refine (index_by l0 _ _ a1 _ _ HID.out (Kd.C_below HR.out (below_alloc (below_alloc (Below.refl _ _) _) _)) HC0.out HZ.out).mono ?_; rintro e w9 ⟨rfl, hb⟩; rw [E1.out]; have bk9 := blk_below HBK.out hb; have BK9 := Aside0.mk bk9; have hw9 := Below.trans (below_alloc (below_alloc (Below.refl _ w) _) _) ⟨hb.os, hb.tape, hb.output, hb.size, fun j hj => hb.block j (by have := (below_alloc (below_alloc (Below.refl _ w) (.cells #[.int .u8 a1] 5)) (.cells #[.int .u8 0, .int .u32 0, .string ⟨#[]⟩, .string ⟨#[]⟩] 60)).size; omega)⟩; have HW9 := Aside0.mk hw9; have hz0 := blk_cell bk9 0; have hz1 := blk_cell bk9 1; have hz2 := blk_cell bk9 2; have hz3 := blk_cell bk9 3; have hf0 := blk_frozen bk9 0; have hf1 := blk_frozen bk9 1; have hf2 := blk_frozen bk9 2; have hf3 := blk_frozen bk9 3; simp at hz0 hz1 hz2 hz3; clear bk9 hb hw9)
      refine bodyPost_ret (results_ct rfl _ _ (w.heap.size + 1) 60 #[.int .u8 0, .int .u32 0, .string ⟨#[]⟩, .string ⟨#[]⟩] (0, 0) _ rfl (blk_put (cs := #[.int .u8 0, .int .u32 0, .string ⟨#[]⟩, .string ⟨#[]⟩]) (blk_put (cs := #[.int .u8 0, .int .u32 0, .string ⟨#[]⟩, .string ⟨#[]⟩]) (blk_put (cs := #[.int .u8 0, .int .u32 0, .string ⟨#[]⟩, .string ⟨#[]⟩]) (blk_put (cs := #[.int .u8 0, .int .u32 0, .string ⟨#[]⟩, .string ⟨#[]⟩]) BK9.out 0 _ rfl) 1 _ rfl) 2 _ rfl) 3 _ rfl) hu rfl (by kernel_rfl)) rfl ?_
      exact ⟨rfl, below_set (below_set (below_set (below_set HW9.out (by omega)) (by omega)) (by omega)) (by omega)⟩
    · rw [e2] at h
      simp only [Prod.mk.injEq] at h
      obtain ⟨rfl, rfl, rfl, rfl, rfl⟩ := h
      rw [Nat.zero_add] at e1
      have E1 := Aside0.mk e1
      have hlt0 : ((j : Int) < 0) = False := eq_false (by omega)
      have hltb : decide ((j : Int) < 0) = false := decide_eq_false (by omega)
      have h0 : (0 : Int) ≤ (j : Int) := by omega
      have h1 : (j : Int) < (l0.length : Int) := by omega
      have hrd : rd_T60 l0 (j : Int) = l0[j] := by unfold rd_T60; simp [hj]
      clear e1 e2
      go_wp2_with (go_at_call 53; refine (index_by l0 _ _ a1 _ _ HID.out (Kd.C_below HR.out (below_alloc (below_alloc (Below.refl _ _) _) _)) HC0.out HZ.out).mono ?_; rintro e w9 ⟨rfl, hb⟩; rw [E1.out]; have bk9 := blk_below HBK.out hb; have BK9 := Aside0.mk bk9; have hw9 := Below.trans (below_alloc (below_alloc (Below.refl _ w) _) _) ⟨hb.os, hb.tape, hb.output, hb.size, fun j hj => hb.block j (by have := (below_alloc (below_alloc (Below.refl _ w) (.cells #[.int .u8 a1] 5)) (.cells #[.int .u8 0, .int .u32 0, .string ⟨#[]⟩, .string ⟨#[]⟩] 60)).size; omega)⟩; have HW9 := Aside0.mk hw9; have hz0 := blk_cell bk9 0; have hz1 := blk_cell bk9 1; have hz2 := blk_cell bk9 2; have hz3 := blk_cell bk9 3; have hf0 := blk_frozen bk9 0; have hf1 := blk_frozen bk9 1; have hf2 := blk_frozen bk9 2; have hf3 := blk_frozen bk9 3; simp at hz0 hz1 hz2 hz3; obtain ⟨ad, ea, hx0, hx1, hx2, hx3⟩ := at_T60 (Kd.C_below HR.out HW9.out) (j : Int) (by omega) (by omega); rw [hrd] at hx0 hx1 hx2 hx3; simp only [Int.toNat_natCast] at hx0 hx1 hx2 hx3; subst ea; clear bk9 hb hw9)
      refine bodyPost_ret (results_ct rfl _ _ (w.heap.size + 1) 60 #[.int .u8 l0[j].f0, .int .u32 l0[j].f1, .string l0[j].f2, .string l0[j].f3] (0, 0) _ rfl (blk_put (cs := #[.int .u8 l0[j].f0, .int .u32 l0[j].f1, .string l0[j].f2, .string ⟨#[]⟩]) (blk_put (cs := #[.int .u8 l0[j].f0, .int .u32 l0[j].f1, .string ⟨#[]⟩, .string ⟨#[]⟩]) (blk_put (cs := #[.int .u8 l0[j].f0, .int .u32 0, .string ⟨#[]⟩, .string ⟨#[]⟩]) (blk_put (cs := #[.int .u8 0, .int .u32 0, .string ⟨#[]⟩, .string ⟨#[]⟩]) BK9.out 0 _ rfl) 1 _ rfl) 2 _ rfl) 3 _ rfl) hu rfl (by kernel_rfl)) rfl ?_
      exact ⟨rfl, below_set (below_set (below_set (below_set HW9.out (by omega)) (by omega)) (by omega)) (by omega)⟩
  · cases h
end Go.Proofs.YtkmkgpigmldhnaaDoor.P

namespace Go.Proofs.YtkmkgpigmldhnaaDoor.P
open Go.RowKit Go.Shelf Go.Lib Go.Proofs.YtkmkgpigmldhnaaDoorW.PrintWords
def two : ByteArray := ⟨#[43, 35]⟩
theorem two_size : two.size = 2 := rfl
theorem two_list : two.data.toList = [43, 35] := rfl
theorem decode_tail (s : ByteArray) (pos : Nat) (h : pos < s.size) :
    pos + (Utf8.decode s pos).2 ≤ s.size ∧ 1 ≤ (Utf8.decode s pos).2 ∧ ∀ j, 1 ≤ j → j < (Utf8.decode s pos).2 → 128 ≤ (s.get! (pos + j)).toNat := by
  have hd : ∀ a : Nat, a / 64 = 2 → 128 ≤ a := fun a ha => by omega
  simp only [Utf8.decode, get_at s pos h]
  repeat' split
  all_goals simp_all
  all_goals try omega
  all_goals (refine ⟨by omega, fun j h1 h2 => ?_⟩)
  all_goals (have h3 : j = 1 ∨ j = 2 ∨ j = 3 := by omega)
  all_goals (rcases h3 with rfl | rfl | rfl <;> omega)
theorem get_list (s : ByteArray) (i : Nat) (h : i < s.size) : s.data.toList[i]? = some (s.get! i) := by
  rw [Lib.data_getElem? s i h, ← get_at s i h]; rfl
theorem noAny_high (s : ByteArray) (i n : Nat) (hn : NoAny s.data.toList [43, 35] i) (hle : i + n ≤ s.size) (h : ∀ j, j < n → 128 ≤ (s.get! (i + j)).toNat) : NoAny s.data.toList [43, 35] (i + n) := fun j b hj hb => by
  by_cases e : j < i
  · exact hn j b e hb
  · have hg := get_list s j (by omega)
    rw [hb] at hg
    have h1 := h (j - i) (by omega)
    rw [show i + (j - i) = j by omega] at h1
    obtain rfl := Option.some.inj hg
    have h2 : s.get! j ≠ 43 := fun e2 => by rw [e2] at h1; exact absurd h1 (by decide)
    have h3 : s.get! j ≠ 35 := fun e2 => by rw [e2] at h1; exact absurd h1 (by decide)
    simp [h2, h3]
theorem quiet_add_same {P : Program} {f : FuncId} {args : Array Value} {w : World} {a n : Nat} {v : Value}
    (h : Calls P f args (w.drewN (a + n)) fun e w' => e = .returned v ∧ w' = w.drewN (a + n)) :
    Calls P f args (w.drewN (a + n)) fun e w'' => e = .returned v ∧ ∃ m, w'' = w.drewN (a + m) :=
  h.mono fun _ _ ⟨he, hm⟩ => ⟨he, n, hm⟩
theorem iter_below (w : World) (s : ByteArray) (i : Nat) : Below w.heap.size w (w.iter s i) := (Below.refl _ w).alloc (Nat.le_refl _) _
set_option maxHeartbeats 4000000 in
set_option maxRecDepth 1000000 in
theorem indexRune_high1 (w : World) :
    Calls Tryd.prog 114 #[.string two, .int .i32 65533] w fun e w' => e = .returned (.int .i64 (-1)) ∧ Below w.heap.size w w' := by
  have hs2 : two.size = 2 := rfl
  go_enter Tryd.func114, Tryd.ntmps114
  go_wp2
  go_loopg [5] 2 (fun g _ wx => ∃ i : Nat, i + g = 2 ∧ wx = w.iter two i)
  case atStart => exact ⟨0, rfl, rfl⟩
  case round =>
    obtain ⟨i, hi, rfl⟩ := hrel
    cases gk with
    | zero =>
      obtain rfl : i = 2 := by omega
      have hnx := run_next_end (P := Tryd.prog) w two 2
      go_wp2
      go_ret
      exact ⟨rfl, iter_below _ _ _⟩
    | succ g =>
      have hlt : i < two.size := by rw [two_size]; omega
      obtain ⟨x, hx⟩ : ∃ x : UInt8, two[i]'hlt = x := ⟨_, rfl⟩
      have hx128 : x.toNat < 128 := by
        subst hx
        have b0 : ∀ h : 0 < two.size, (two[0]'h).toNat = 43 := fun _ => rfl
        have b1 : ∀ h : 1 < two.size, (two[1]'h).toNat = 35 := fun _ => rfl
        rcases (by omega : i = 0 ∨ i = 1) with rfl | rfl
        · rw [b0]; decide
        · rw [b1]; decide
      have hnx := fun ty => run_next_ascii (P := Tryd.prog) w two i ty hlt (by rw [hx]; exact hx128)
      rw [hx] at hnx
      go_wp2
      go_roundg g
      case measure => omega
      case rel => exact ⟨i + 1, by omega, rfl⟩
set_option maxHeartbeats 4000000 in
set_option maxRecDepth 1000000 in
theorem indexRune_valid (r : Int) (w : World) (h0 : 128 ≤ r) (h1 : r ≤ 2147483647) (hr1 : (r == 65533) = false) (hv : r < 55296 ∨ 57343 < r ∧ r ≤ 1114111)
    (E : ByteArray) (hE : Utf8.encode r = E) (z2 : 2 ≤ E.size) (z4 : E.size ≤ 4) (hx : ∀ h : E.size - 1 < E.size, 128 ≤ (E[E.size - 1]'h).toNat) :
    Calls Tryd.prog 114 #[.string two, .int .i32 r] w fun e w' => e = .returned (.int .i64 (-1)) ∧ Below w.heap.size w w' := by
  have hs2 : two.size = 2 := rfl
  have hr2 : ¬ r < 128 := by omega
  have hr3 : 0 ≤ r := by omega
  have b1 : ∀ h : 1 < two.size, (two[1]'h).toNat = 35 := fun _ => rfl
  have hib : ∀ c, Lib.indexByte (two.extract 2 2).data.toList c = -1 := fun _ => rfl
  by_cases hs3 : 3 ≤ E.size
  · rcases hv with hv | ⟨hv, hv2⟩
    all_goals
      clear hx
      go_enter Tryd.func114, Tryd.ntmps114
      go_wp2
      go_step3
      go_wp2
      go_loopg [9] 1 (fun g v9 wx => v9 = .int .i64 ((E.size : Int) - 1) ∧ wx = w)
      case atStart => exact ⟨rfl, rfl⟩
      case round =>
        obtain ⟨rfl, rfl⟩ := hrel
        go_wp2
        rw [Exit.noGoto_ret]
        go_ret
        exact ⟨rfl, Below.refl _ _⟩
  · have hs : E.size = 2 := by omega
    obtain ⟨x, hx2⟩ : ∃ x : UInt8, E[1]'(hs ▸ by decide) = x := ⟨_, rfl⟩
    have hx3 : 128 ≤ x.toNat := by
      have := hx (by omega)
      subst hx2
      simpa [hs] using this
    have q1 : (two[1]'(by decide)).toNat = 35 := rfl
    have q2 : ((35 : Int) != (x.toNat : Int)) = true := by rw [bne_iff_ne]; omega
    clear hx z2 z4 hs3 b1
    rcases hv with hv | ⟨hv, hv2⟩
    all_goals
      go_enter Tryd.func114, Tryd.ntmps114
      go_wp2
      go_step3
      go_wp2
      go_loopg [9] 1 (fun g v9 wx => v9 = .int .i64 1 ∧ wx = w)
      case atStart => exact ⟨rfl, rfl⟩
      case round =>
        obtain ⟨rfl, rfl⟩ := hrel
        go_wp2
        go_step3
        go_wp2_with (fail)
        go_quiet (fail)
        go_wp2_with (fail)
        have hw1 : IntKind.i64.wrap (1 + 1) = 2 := by decide
        have hw2 : IntKind.i64.wrap 2 = 2 := by decide
        have hw3 : (2 : Int) ≤ (two.size : Int) := by decide
        go_quiet ((go_at_call 122; exact quiet_add_same (Tryd.strings_IndexByte _ _ _)))
        go_wp2
        simp only [Exit.noGoto_ret, Exit.inBlock, Exit.then]
        go_ret
        exact ⟨rfl, pw_below_drewN (Below.refl _ _) _⟩
set_option maxHeartbeats 4000000 in
set_option maxRecDepth 1000000 in
theorem indexRune_high (r : Int) (w : World) (h0 : 128 ≤ r) (h1 : r ≤ 2147483647) :
    Calls Tryd.prog 114 #[.string two, .int .i32 r] w fun e w' => e = .returned (.int .i64 (-1)) ∧ Below w.heap.size w w' := by
  by_cases hne : r = 65533
  · subst hne; exact indexRune_high1 w
  have hs2 : two.size = 2 := rfl
  have hr1 : (r == 65533) = false := beq_eq_false_iff_ne.2 hne
  have hr2 : ¬ r < 128 := by omega
  have hr3 : 0 ≤ r := by omega
  by_cases hv : r < 55296 ∨ 57343 < r ∧ r ≤ 1114111
  · have hva : Utf8.valid r = true := by rw [validRune_eq]; unfold validRune; exact decide_eq_true (by omega)
    obtain ⟨z2, z4, zl⟩ := encode_facts r hva h0
    exact indexRune_valid r w h0 h1 hr1 hv (Utf8.encode r) rfl z2 z4 zl
  · have e1 : ¬ r < 55296 := by omega
    by_cases e2 : 57343 < r
    · have e3 : ¬ r ≤ 1114111 := by omega
      go_enter Tryd.func114, Tryd.ntmps114
      go_wp2
      go_ret
      exact ⟨rfl, Below.refl _ _⟩
    · go_enter Tryd.func114, Tryd.ntmps114
      go_wp2
      go_ret
      exact ⟨rfl, Below.refl _ _⟩
set_option maxHeartbeats 8000000 in
set_option maxRecDepth 1000000 in
theorem indexAny_short (s : ByteArray) (w : World) (h8 : s.size ≤ 8) :
    Calls Tryd.prog 112 #[.string s, .string two] w fun e w' => e = .returned (.int .i64 (Lib.indexAny s.data.toList [43, 35])) ∧ Below w.heap.size w w' := by
  have hs2 : two.size = 2 := rfl
  have hemp : two.toList.isEmpty = false := by rw [Lib.toList_data]; rfl
  have h8z : decide ((8 : Int) < (s.size : Int)) = false := decide_eq_false (by omega)
  go_enter Tryd.func112, Tryd.ntmps112
  go_wp2_with (go_at_call 115; refine (Tryd.strings_shouldUseASCIISet _ _).mono ?_; rintro e w' ⟨rfl, hw⟩; rw [hw, h8z])
  go_loopg [9, 10] s.size (fun g _ _ wx => ∃ W : World, ∃ i : Nat, i ≤ s.size ∧ s.size - i ≤ g ∧ wx.heap[w.heap.size]? = some (.stringIter s i) ∧ Below w.heap.size w wx ∧ Aside0 (Lib.NoAny s.data.toList [43, 35] i) ∧ W = wx)
  case atStart => exact ⟨_, 0, Nat.zero_le _, by omega, World.iter_heap _ _ _, iter_below _ _ _, ⟨Lib.NoAny.zero _ _⟩, rfl⟩
  case round =>
    obtain ⟨W, i, hle, hig, hit, hbw, hno, rfl⟩ := hrel
    by_cases hlt : i < s.size
    · obtain ⟨x, hx⟩ : ∃ x : UInt8, s[i]'hlt = x := ⟨_, rfl⟩
      have hxl : s.data.toList[i]? = some x := by rw [← hx]; exact Lib.data_getElem? s i hlt
      cases gk with
      | zero => omega
      | succ g =>
        by_cases h128 : x.toNat < 128
        · have hnx := fun ty => run_next_ascii_at (P := Tryd.prog) W w.heap.size s i ty hit hlt (by rw [hx]; exact h128)
          rw [hx] at hnx
          have hit2 := iterAt_heap W w.heap.size s i (i + 1) hit
          have hb2 := below_iterAt hbw (Nat.le_refl w.heap.size) s (i + 1)
          have HI := Aside0.mk hit2
          have HX := Aside0.mk hxl
          have HB := Aside0.mk hb2
          clear hit2 hxl hb2 hx hit hbw
          have hback : ((x.toNat : Int)).toNat.toUInt8 = x := by simp
          cases hin : ([43, 35] : List UInt8).contains x
          · have hib : Lib.indexByte two.data.toList x = -1 := by
              have := Lib.contains_iff_indexByte two.data.toList x
              rw [two_list, hin] at this
              have h2 := Lib.indexByte_ge two.data.toList x
              rw [two_list] at h2 ⊢
              have h3 := of_decide_eq_false this.symm
              omega
            have HN := Aside0.mk hin
            clear hin
            go_wp2_with (go_at_call 114; refine (Tryd.strings_IndexRune_ascii _ _ _ (by omega) (by omega)).mono ?_; rintro e w' ⟨rfl, hw⟩; rw [hw, hback, hib])
            go_roundg g
            case measure => omega
            case rel => exact ⟨_, i + 1, by omega, by omega, HI.out, HB.out, ⟨Lib.NoAny.succ hno.out HX.out HN.out⟩, rfl⟩
          · have hib : (0 : Int) ≤ Lib.indexByte two.data.toList x := by
              have := Lib.contains_iff_indexByte two.data.toList x
              rw [two_list, hin] at this
              exact of_decide_eq_true this.symm
            have HN := Aside0.mk hin
            clear hin
            go_wp2_with (go_at_call 114; refine (Tryd.strings_IndexRune_ascii _ _ _ (by omega) (by omega)).mono ?_; rintro e w' ⟨rfl, hw⟩; rw [hw, hback])
            go_ret
            exact ⟨by rw [Lib.indexAny_hit hno.out HX.out HN.out]; rfl, HB.out⟩
        · have hd := decode_tail s i hlt
          have hh := decode_high s i hlt (by rw [hx]; omega)
          have hb := decode_le s i
          have hnx := fun ty => run_next_any_at (P := Tryd.prog) W w.heap.size s i ty hit hlt
          obtain ⟨c, hc⟩ : ∃ c, (Utf8.decode s i).1 = c := ⟨_, rfl⟩
          obtain ⟨n, hn⟩ : ∃ n, (Utf8.decode s i).2 = n := ⟨_, rfl⟩
          rw [hc, hn] at hnx
          rw [hn] at hd hh
          rw [hc] at hh hb
          have hit2 := iterAt_heap W w.heap.size s i (i + n) hit
          have hb2 := below_iterAt hbw (Nat.le_refl w.heap.size) s (i + n)
          have hno2 : Lib.NoAny s.data.toList [43, 35] (i + n) := noAny_high s i n hno.out hd.1 (fun j hj => by
            by_cases e : j = 0
            · subst e
              have hg := get_list s i hlt
              rw [hxl] at hg
              have := Option.some.inj hg
              rw [Nat.add_zero, ← this]; omega
            · exact hd.2.2 j (by omega) hj)
          have hsz : w.heap.size < (W.iterAt w.heap.size s (i + n)).heap.size := (Array.getElem?_eq_some_iff.1 hit2).1
          have HI := Aside0.mk hit2
          have HB := Aside0.mk hb2
          have HN := Aside0.mk hno2
          have HD := Aside0.mk hd
          have HS := Aside0.mk hsz
          have hc1 : (128 : Int) ≤ (c : Int) := by omega
          have hc2 : (c : Int) ≤ 2147483647 := by omega
          clear hit2 hb2 hno2 hd hsz hxl hx hit hbw hc hn hno
          go_wp2_with (go_at_call 114; refine (indexRune_high _ _ hc1 hc2).mono ?_; rintro e w' ⟨rfl, hbr⟩; have HR := Aside0.mk hbr; clear hbr)
          go_roundg g
          case measure => omega
          case rel =>
            have hr := HR.out
            refine ⟨_, i + n, HD.out.1, by have := HD.out.2.1; omega, ?_, HB.out.trans ⟨hr.os, hr.tape, hr.output, hr.size, fun j hj => hr.block j (by have := HB.out.size; omega)⟩, HN, rfl⟩
            rw [hr.block _ HS.out]; exact HI.out
    · obtain rfl : i = s.size := by omega
      have hnx := fun ty => run_next_end_at (P := Tryd.prog) W w.heap.size s s.size ty hit (Nat.lt_irrefl _)
      have HB := Aside0.mk hbw
      clear hit hbw
      go_wp2
      go_ret
      exact ⟨by rw [Lib.indexAny_none (by rw [← Lib.size_eq]; exact hno.out)]; rfl, HB.out⟩
def strings_IndexAny.f (a0 a1 : ByteArray) : Option Int := if a1.data.toList = [43, 35] then (if a0.size < 4294967281 then some (Go.Lib.indexAny a0.data.toList [43, 35]) else none) else none
theorem strings_IndexAny.calls (a0 : ByteArray) (a1 : ByteArray) (r : Int) (w : World) (h : strings_IndexAny.f a0 a1 = some r) :
    Calls Tryd.prog 112 #[.string a0, .string a1] w fun e w' => e = .returned (.int .i64 r) ∧ Below w.heap.size w w' := by
  unfold strings_IndexAny.f at h
  split at h
  · split at h
    · rename_i h1 h2
      obtain rfl := Option.some.inj h
      obtain rfl : a1 = two := by
        cases a1 with
        | mk d => have h1 : d.toList = [43, 35] := h1; unfold two; congr; exact Array.toList_inj.1 h1
      by_cases h8 : a0.size ≤ 8
      · exact indexAny_short a0 w h8
      · refine (Tryd.strings_IndexAny_long (zero_of_info (n := 256) (by kernel_rfl)).1 a0 two w (by decide) (by omega) h2 (by decide) (fun j b hb => ?_)).mono fun e w' ⟨he, hw⟩ => ⟨he, hw ▸ below_alloc (below_alloc (Below.refl _ _) _) _⟩
        match j, hb with
        | 0, hb => cases hb; decide
        | 1, hb => cases hb; decide
        | j + 2, hb => cases hb
    · cases h
  · cases h
end Go.Proofs.YtkmkgpigmldhnaaDoor.P

namespace Go.Proofs.YtkmkgpigmldhnaaDoor.P
open Go.RowKit Go.Proofs.YtkmkgpigmldhnaaDoorW.PrintWords Go.Proofs.YtkmkgpigmldhnaaDoorW.PrintLast Go.Proofs.YtkmkgpigmldhnaaDoorW.PrintMore
attribute [local go_sem] max2_int min2_int max_two min_two max_three min_three max_four min_four
set_option linter.unusedVariables false
set_option linter.unusedSimpArgs false
def strings_ContainsAny.f (a0 : ByteArray) (a1 : ByteArray) : Option (Bool) := (strings_IndexAny.f a0 a1).bind fun t101 => (some (decide (t101 ≥ 0)))
set_option maxHeartbeats 8000000 in
set_option maxRecDepth 100000 in
theorem strings_ContainsAny.calls (a0 : ByteArray) (a1 : ByteArray) (r : Bool) (w : World) (h : strings_ContainsAny.f a0 a1 = some r) :
    Calls Tryd.prog 107 #[.string a0, .string a1] w fun e w' => e = .returned (.bool r) ∧ Below w.heap.size w w' := by
  have HB := Aside0.mk (Below.refl w.heap.size w)
  have H : ((strings_IndexAny.f a0 a1).bind fun t101 => (some (decide (t101 ≥ 0)))) = some r := h
  clear h
  replace H := Option.bind_eq_some_iff.mp H
  obtain ⟨t101, A30, H⟩ := H
  replace H : (some (decide (t101 ≥ 0))) = some r := H
  have A3 := Aside0.mk A30
  clear A30
  obtain rfl := Option.some.inj H
  go_enter Tryd.func107, Tryd.ntmps107
  go_wp2_with (first | ((with_reducible refine gate_callee (f := 112) rfl ?_); refine goesL_ (some 7) rfl rfl Tryd.func112 (by kernel_rfl) rfl #[.string a0, .string a1] rfl (by (try simp only [List.map_toArray, List.map_cons, List.map_nil]); first | done | rfl | (simp only [List.length_drop, List.length_take]; rfl)) ?_; (with_reducible refine (strings_IndexAny.calls a0 a1 t101 _ A3.out).mono ?_); rintro e w4 ⟨rfl, hb⟩; refine ⟨_, rfl, ?_⟩; have n0_ := Aside0.mk (below_step (by repeat (first | (with_reducible first | exact HB.out | apply below_alloc | apply pw_below_drewN | apply below_drew1) | exact HB.out)) hb); clear HB; have HB := n0_; clear n0_; (try clear hb); (try clear hb2); (try clear hk); (try clear hi)))
  go_ret
  exact ⟨by first | rfl | (simp [errW_none, errW_some] <;> rfl) | (simp [*, errW_none, errW_some] <;> rfl), by repeat (first | (with_reducible first | exact HB.out | apply below_alloc | apply pw_below_drewN | apply below_drew1) | exact HB.out)⟩
end Go.Proofs.YtkmkgpigmldhnaaDoor.P

namespace Go.Proofs.YtkmkgpigmldhnaaDoor.P
open Go.RowKit Go.Proofs.YtkmkgpigmldhnaaDoorW.PrintWords Go.Proofs.YtkmkgpigmldhnaaDoorW.PrintLast Go.Proofs.YtkmkgpigmldhnaaDoorW.PrintMore
attribute [local go_sem] max2_int min2_int max_two min_two max_three min_three max_four min_four
set_option linter.unusedVariables false
set_option linter.unusedSimpArgs false
def topic_Wild.f (a0 : ByteArray) : Option (Bool) := (strings_ContainsAny.f a0 (⟨#[43, 35]⟩ : ByteArray)).bind fun t101 => (some t101)
set_option maxHeartbeats 8000000 in
set_option maxRecDepth 100000 in
theorem topic_Wild.calls (a0 : ByteArray) (r : Bool) (w : World) (h : topic_Wild.f a0 = some r) :
    Calls Tryd.prog 99 #[.string a0] w fun e w' => e = .returned (.bool r) ∧ Below w.heap.size w w' := by
  have HB := Aside0.mk (Below.refl w.heap.size w)
  have H : ((strings_ContainsAny.f a0 (⟨#[43, 35]⟩ : ByteArray)).bind fun t101 => (some t101)) = some r := h
  clear h
  replace H := Option.bind_eq_some_iff.mp H
  obtain ⟨t101, A20, H⟩ := H
  replace H : (some t101) = some r := H
  have A2 := Aside0.mk A20
  clear A20
  obtain rfl := Option.some.inj H
  go_enter Tryd.func99, Tryd.ntmps99
  go_wp2_with (first | ((with_reducible refine gate_callee (f := 107) rfl ?_); refine goesL_ (some 4) rfl rfl Tryd.func107 (by kernel_rfl) rfl #[.string a0, .string (⟨#[43, 35]⟩ : ByteArray)] rfl (by (try simp only [List.map_toArray, List.map_cons, List.map_nil]); first | done | rfl | (simp only [List.length_drop, List.length_take]; rfl)) ?_; (with_reducible refine (strings_ContainsAny.calls a0 (⟨#[43, 35]⟩ : ByteArray) t101 _ A2.out).mono ?_); rintro e w3 ⟨rfl, hb⟩; refine ⟨_, rfl, ?_⟩; have n0_ := Aside0.mk (below_step (by repeat (first | (with_reducible first | exact HB.out | apply below_alloc | apply pw_below_drewN | apply below_drew1) | exact HB.out)) hb); clear HB; have HB := n0_; clear n0_; (try clear hb); (try clear hb2); (try clear hk); (try clear hi)))
  go_ret
  exact ⟨by first | rfl | (simp [errW_none, errW_some] <;> rfl) | (simp [*, errW_none, errW_some] <;> rfl), by repeat (first | (with_reducible first | exact HB.out | apply below_alloc | apply pw_below_drewN | apply below_drew1) | exact HB.out)⟩
end Go.Proofs.YtkmkgpigmldhnaaDoor.P

namespace Go.Proofs.YtkmkgpigmldhnaaDoor.P
open Go.RowKit Go.Proofs.YtkmkgpigmldhnaaDoorW.PrintWords Go.Proofs.YtkmkgpigmldhnaaDoorW.PrintLast Go.Proofs.YtkmkgpigmldhnaaDoorW.PrintMore
attribute [local go_sem] max2_int min2_int max_two min_two max_three min_three max_four min_four
set_option linter.unusedVariables false
set_option linter.unusedSimpArgs false
def topic_Name.f (a0 : ByteArray) : Option (Bool) := if a0.toList = ([] : List UInt8) then (some false) else ((text_Right.f a0).bind fun t101 => (if t101 = true then ((topic_Wild.f a0).bind fun t102 => (some (!t102))) else (some false)))
theorem z83z0 {p : Prop} (h : p := by repeat (first | (with_reducible first | exact HB.out | apply below_alloc | apply pw_below_drewN | apply below_drew1) | exact HB.out)) : p := h
set_option maxHeartbeats 8000000 in
set_option maxRecDepth 100000 in
theorem topic_Name.calls (a0 : ByteArray) (r : Bool) (w : World) (hG : GW w) (h : topic_Name.f a0 = some r) :
  Calls Tryd.prog 83 #[.string a0] w fun e w' => e = .returned (.bool r) ∧ Below w.heap.size w w' := by
 have HB := Aside0.mk (Below.refl w.heap.size w)
 have HG := Aside0.mk hG
 clear hG
 have H : (if a0.toList = ([] : List UInt8) then (some false) else ((text_Right.f a0).bind fun t101 => (if t101 = true then ((topic_Wild.f a0).bind fun t102 => (some (!t102))) else (some false)))) = some r := h
 clear h
 by_cases c2 : a0.toList = ([] : List UInt8)
 ·rw [if_pos c2] at H
  have c2b0 : (a0.toList == ([] : List UInt8)) = true := beq_iff_eq.mpr c2
  have c2b1 : (a0.toList != ([] : List UInt8)) = false := bne_eq_false_iff_eq.mpr c2
  clear c2
  obtain rfl := Option.some.inj H
  go_enter Tryd.func83, Tryd.ntmps83
  go_wp2
  go_ret
  exact ⟨by first | rfl | (simp [errW_none, errW_some] <;> rfl) | (simp [*, errW_none, errW_some] <;> rfl), by repeat (first | (with_reducible first | exact HB.out | apply below_alloc | apply pw_below_drewN | apply below_drew1) | exact HB.out)⟩
 ·rw [if_neg c2] at H
  have c2b0 : (a0.toList == ([] : List UInt8)) = false := beq_eq_false_iff_ne.mpr c2
  have c2b1 : (a0.toList != ([] : List UInt8)) = true := bne_iff_ne.mpr c2
  replace H := Option.bind_eq_some_iff.mp H
  obtain ⟨t101, A30, H⟩ := H
  replace H : (if t101 = true then ((topic_Wild.f a0).bind fun t102 => (some (!t102))) else (some false)) = some r := H
  have A3 := Aside0.mk A30
  clear A30
  by_cases c4 : t101 = true
  ·subst c4
   have H1 : ((topic_Wild.f a0).bind fun t102 => (some (!t102))) = some r := by rw [if_pos rfl] at H; exact H
   clear H
   have H := H1
   clear H1
   replace H := Option.bind_eq_some_iff.mp H
   obtain ⟨t102, A50, H⟩ := H
   replace H : (some (!t102)) = some r := H
   have A5 := Aside0.mk A50
   clear A50
   obtain rfl := Option.some.inj H
   go_enter Tryd.func83, Tryd.ntmps83
   go_wp2_with (first | (go_at_call 88; (with_reducible refine (text_Right.calls a0 true _ ?side1 A3.out).mono ?_); (case side1 => exact GW.below HG.out z83z0); rintro e w6 ⟨rfl, hb⟩; have n0_ := Aside0.mk (below_step z83z0 hb); replace HB := n0_; clear n0_; clear hb) | (go_at_call 99; (with_reducible refine (topic_Wild.calls a0 t102 _ A5.out).mono ?_); rintro e w7 ⟨rfl, hb⟩; have n0_ := Aside0.mk (below_step z83z0 hb); replace HB := n0_; clear n0_; clear hb))
   go_ret
   exact ⟨by first | rfl | (simp [errW_none, errW_some] <;> rfl) | (simp [*, errW_none, errW_some] <;> rfl), by repeat (first | (with_reducible first | exact HB.out | apply below_alloc | apply pw_below_drewN | apply below_drew1) | exact HB.out)⟩
  ·replace c4 := Bool.eq_false_iff.mpr c4
   subst c4
   have H1 : (some false) = some r := by rw [if_neg (show ¬ (false = true) by decide)] at H; exact H
   clear H
   have H := H1
   clear H1
   obtain rfl := Option.some.inj H
   go_enter Tryd.func83, Tryd.ntmps83
   go_wp2_with (first | (go_at_call 88; (with_reducible refine (text_Right.calls a0 false _ ?side1 A3.out).mono ?_); (case side1 => exact GW.below HG.out z83z0); rintro e w8 ⟨rfl, hb⟩; have n0_ := Aside0.mk (below_step z83z0 hb); replace HB := n0_; clear n0_; clear hb))
   go_ret
   exact ⟨by first | rfl | (simp [errW_none, errW_some] <;> rfl) | (simp [*, errW_none, errW_some] <;> rfl), by repeat (first | (with_reducible first | exact HB.out | apply below_alloc | apply pw_below_drewN | apply below_drew1) | exact HB.out)⟩
end Go.Proofs.YtkmkgpigmldhnaaDoor.P

namespace Go.Proofs.YtkmkgpigmldhnaaDoor.P
open Go.RowKit Go.Proofs.YtkmkgpigmldhnaaDoorW.PrintWords Go.Proofs.YtkmkgpigmldhnaaDoorW.PrintLast Go.Proofs.YtkmkgpigmldhnaaDoorW.PrintMore
attribute [local go_sem] max2_int min2_int max_two min_two max_three min_three max_four min_four
set_option linter.unusedVariables false
set_option linter.unusedSimpArgs false
def prop_Value.j0 : Nat → Bool → Int → Int → ByteArray → ByteArray → Option (Bool)
  | 0, _, _, _, _, _ => none
  | k + 1, x15, x102000, x102001, x102002, x102003 => if x15 = true then (some (x102001 != 0)) else (if x102000 = 8 then ((topic_Name.f x102002).bind fun t104 => (some t104)) else (some true))
def prop_Value.f (k : Nat) (a0_0 : Int) (a0_1 : Int) (a0_2 : ByteArray) (a0_3 : ByteArray) : Option (Bool) := (prop_Right.f k a0_0 a0_1 a0_2 a0_3).bind fun t102 => (if t102 = true then ((prop_Type.f a0_0).bind fun t103 => (if t103 = 1 then (some (decide (a0_1 ≤ 1))) else (if a0_0 = 11 then (prop_Value.j0 k (a0_0 == 11) a0_0 a0_1 a0_2 a0_3) else (if a0_0 = 33 then (prop_Value.j0 k (a0_0 == 33) a0_0 a0_1 a0_2 a0_3) else (if a0_0 = 35 then (prop_Value.j0 k (a0_0 == 35) a0_0 a0_1 a0_2 a0_3) else (prop_Value.j0 k (a0_0 == 39) a0_0 a0_1 a0_2 a0_3)))))) else (some false))
theorem z59m0 {p : Prop} (h : p := by
 repeat' first
 | (with_reducible exact ih0 _ _ _ _ _)
 | (with_reducible exact prop_Right.mono _ _ _ _ _)
 | (with_reducible exact LeO.refl _)
 | (with_reducible exact LeO.none _)
 | (with_reducible refine LeO.ite ?_ ?_)
 | (with_reducible refine LeO.bind ?_ (fun _ => ?_))
 | exact ih0 _ _ _ _ _
 | exact prop_Right.mono _ _ _ _ _
 | exact LeO.none _
 | refine LeO.ite ?_ ?_
 | refine LeO.bind ?_ (fun _ => ?_)) : p := h
theorem prop_Value.mono_l : ∀ k, (∀ y0 y1 y2 y3 y4, LeO (prop_Value.j0 k y0 y1 y2 y3 y4) (prop_Value.j0 (k + 1) y0 y1 y2 y3 y4))
  | 0 => fun _ _ _ _ _ r h => by simp [prop_Value.j0] at h
  | k + 1 => by
    have ih0 := prop_Value.mono_l k
    · intro y0 y1 y2 y3 y4
      unfold prop_Value.j0
      exact z59m0
theorem prop_Value.mono : ∀ a0 a1 a2 a3 k, LeO (prop_Value.f k a0 a1 a2 a3) (prop_Value.f (k + 1) a0 a1 a2 a3) := by
  intro a0 a1 a2 a3 k
  have ih0 := prop_Value.mono_l k
  unfold prop_Value.f
  exact z59m0
theorem z59z0 {p : Prop} (h : p := by repeat (first | (with_reducible first | exact HB.out | apply below_alloc | apply pw_below_drewN | apply below_drew1 | refine below_set ?_ GE101.out) | exact HB.out)) : p := h
theorem z59z1 {p : Prop} (h : p := by repeat (first | (with_reducible first | exact HB.out | apply below_alloc | apply pw_below_drewN | apply below_drew1) | exact HB.out)) : p := h
theorem z59z2 {p : Prop} (h : p := by (try simp only [List.map_toArray, List.map_cons, List.map_nil]); first | done | rfl | (simp only [List.length_drop, List.length_take]; rfl)) : p := h
theorem z59z3 {p : Prop} (h : p := by (with_reducible repeat (first | refine blk_drewN ?_ _ | refine blk_drew ?_ | refine blk_alloc ?_ _)); exact BK101.out) : p := h
theorem z59z4 {p : Prop} (h : p := by first | rfl | (simp; done) | (simp [*]; done)) : p := h
set_option maxHeartbeats 8000000 in
set_option maxRecDepth 100000 in
theorem prop_Value.calls (k : Nat) (a0_0 : Int) (a0_1 : Int) (a0_2 : ByteArray) (a0_3 : ByteArray) (r : Bool) (w : World) (hG : GW w) (h : prop_Value.f k a0_0 a0_1 a0_2 a0_3 = some r) :
  Calls Tryd.prog 59 #[.agg #[.int .u8 a0_0, .int .u32 a0_1, .string a0_2, .string a0_3]] w fun e w' => e = .returned (.bool r) ∧ Below w.heap.size w w' := by
 have hu60 := Tryd.underlying60
 have HB := Aside0.mk (Below.refl w.heap.size w)
 have HG := Aside0.mk hG
 clear hG
 have H : ((prop_Right.f k a0_0 a0_1 a0_2 a0_3).bind fun t102 => (if t102 = true then ((prop_Type.f a0_0).bind fun t103 => (if t103 = 1 then (some (decide (a0_1 ≤ 1))) else (if a0_0 = 11 then (prop_Value.j0 k (a0_0 == 11) a0_0 a0_1 a0_2 a0_3) else (if a0_0 = 33 then (prop_Value.j0 k (a0_0 == 33) a0_0 a0_1 a0_2 a0_3) else (if a0_0 = 35 then (prop_Value.j0 k (a0_0 == 35) a0_0 a0_1 a0_2 a0_3) else (prop_Value.j0 k (a0_0 == 39) a0_0 a0_1 a0_2 a0_3)))))) else (some false))) = some r := h
 clear h
 replace H := Option.bind_eq_some_iff.mp H
 obtain ⟨t102, A20, H⟩ := H
 replace H : (if t102 = true then ((prop_Type.f a0_0).bind fun t103 => (if t103 = 1 then (some (decide (a0_1 ≤ 1))) else (if a0_0 = 11 then (prop_Value.j0 k (a0_0 == 11) a0_0 a0_1 a0_2 a0_3) else (if a0_0 = 33 then (prop_Value.j0 k (a0_0 == 33) a0_0 a0_1 a0_2 a0_3) else (if a0_0 = 35 then (prop_Value.j0 k (a0_0 == 35) a0_0 a0_1 a0_2 a0_3) else (prop_Value.j0 k (a0_0 == 39) a0_0 a0_1 a0_2 a0_3)))))) else (some false)) = some r := H
 have A2 := Aside0.mk A20
 clear A20
 by_cases c3 : t102 = true
 ·subst c3
  have H1 : ((prop_Type.f a0_0).bind fun t103 => (if t103 = 1 then (some (decide (a0_1 ≤ 1))) else (if a0_0 = 11 then (prop_Value.j0 k (a0_0 == 11) a0_0 a0_1 a0_2 a0_3) else (if a0_0 = 33 then (prop_Value.j0 k (a0_0 == 33) a0_0 a0_1 a0_2 a0_3) else (if a0_0 = 35 then (prop_Value.j0 k (a0_0 == 35) a0_0 a0_1 a0_2 a0_3) else (prop_Value.j0 k (a0_0 == 39) a0_0 a0_1 a0_2 a0_3)))))) = some r := by rw [if_pos rfl] at H; exact H
  clear H
  have H := H1
  clear H1
  replace H := Option.bind_eq_some_iff.mp H
  obtain ⟨t103, A40, H⟩ := H
  replace H : (if t103 = 1 then (some (decide (a0_1 ≤ 1))) else (if a0_0 = 11 then (prop_Value.j0 k (a0_0 == 11) a0_0 a0_1 a0_2 a0_3) else (if a0_0 = 33 then (prop_Value.j0 k (a0_0 == 33) a0_0 a0_1 a0_2 a0_3) else (if a0_0 = 35 then (prop_Value.j0 k (a0_0 == 35) a0_0 a0_1 a0_2 a0_3) else (prop_Value.j0 k (a0_0 == 39) a0_0 a0_1 a0_2 a0_3))))) = some r := H
  have A4 := Aside0.mk A40
  clear A40
  by_cases c5 : t103 = 1
  ·rw [if_pos c5] at H
   have c5b0 : (t103 == 1) = true := beq_iff_eq.mpr c5
   have c5b1 : (t103 != 1) = false := bne_eq_false_iff_eq.mpr c5
   clear c5
   obtain rfl := Option.some.inj H
   go_enter Tryd.func59, Tryd.ntmps59
   go_wp2_with (first | ((with_reducible refine gate_dst (N := 1) rfl ?_); refine box_event ?hg (N := 1) ?hd (cs := #[.int .u8 a0_0, .int .u32 a0_1, .string a0_2, .string a0_3]) (t := 60) ?hr ?_; (case hd => rfl); (case hg => rfl); (case hr => first | (go_simp; done) | (go_simp; rfl)); intro gb101 hg w6 hbox hb; have n0_ := Aside0.mk (below_step z59z1 hb); have n1_ := Aside0.mk (hbox); have n2_ := Aside0.mk ((by rw [hg]; exact (below_size z59z1) : w.heap.size ≤ gb101)); have n3_ := Aside0.mk ((by rw [hg]; exact (below_size z59z1) : w.heap.size ≤ gb101)); replace HB := n0_; have BK101 := n1_; have GW101 := n2_; have GE101 := n3_; clear n0_ n1_ n2_ n3_; clear hb hbox hg; have hcz7_0 := cc4_0 BK101.out; have hcz7_1 := cc4_1 BK101.out; have hcz7_2 := cc4_2 BK101.out; have hcz7_3 := cc4_3 BK101.out) | ((with_reducible refine gate_callee (f := 65) rfl ?_); refine goesL_ (some 5) rfl rfl Tryd.func65 (by kernel_rfl) rfl #[.agg #[.int .u8 a0_0, .int .u32 a0_1, .string a0_2, .string a0_3]] rfl z59z2 ?_; (with_reducible refine (prop_Right.calls k a0_0 a0_1 a0_2 a0_3 true _ ?side1 A2.out).mono ?_); (case side1 => exact GW.below HG.out z59z0); rintro e w8 ⟨rfl, hb⟩; refine ⟨_, rfl, ?_⟩; have n0_ := Aside0.mk (blk_below (g := gb101) (o := .cells #[.int .u8 a0_0, .int .u32 a0_1, .string a0_2, .string a0_3] 60 (0, 0)) z59z3 hb); have n1_ := Aside0.mk (below_step z59z0 hb); replace BK101 := n0_; replace HB := n1_; clear n0_ n1_; clear hb; have hcz9_0 := cc4_0 BK101.out; have hcz9_1 := cc4_1 BK101.out; have hcz9_2 := cc4_2 BK101.out; have hcz9_3 := cc4_3 BK101.out) | ((with_reducible refine gate_callee (f := 82) rfl ?_); refine goesL_ (some 10) rfl rfl Tryd.func82 (by kernel_rfl) rfl #[.int .u8 a0_0] rfl z59z2 ?_; (with_reducible refine (prop_Type.calls a0_0 t103 _ A4.out).mono ?_); rintro e w10 ⟨rfl, hb⟩; refine ⟨_, rfl, ?_⟩; have n0_ := Aside0.mk (blk_below (g := gb101) (o := .cells #[.int .u8 a0_0, .int .u32 a0_1, .string a0_2, .string a0_3] 60 (0, 0)) z59z3 hb); have n1_ := Aside0.mk (below_step z59z0 hb); replace BK101 := n0_; replace HB := n1_; clear n0_ n1_; clear hb; have hcz11_0 := cc4_0 BK101.out; have hcz11_1 := cc4_1 BK101.out; have hcz11_2 := cc4_2 BK101.out; have hcz11_3 := cc4_3 BK101.out))
   go_ret
   exact ⟨by first | rfl | (simp [errW_none, errW_some] <;> rfl) | (simp [*, errW_none, errW_some] <;> rfl), by repeat (first | (with_reducible first | exact HB.out | apply below_alloc | apply pw_below_drewN | apply below_drew1 | refine below_set ?_ GE101.out) | exact HB.out)⟩
  ·rw [if_neg c5] at H
   have c5b0 : (t103 == 1) = false := beq_eq_false_iff_ne.mpr c5
   have c5b1 : (t103 != 1) = true := bne_iff_ne.mpr c5
   have HC12 := Aside0.mk H
   clear H
   go_enter Tryd.func59, Tryd.ntmps59
   go_upto_if 15 with (first | ((with_reducible refine gate_dst (N := 1) rfl ?_); refine box_event ?hg (N := 1) ?hd (cs := #[.int .u8 a0_0, .int .u32 a0_1, .string a0_2, .string a0_3]) (t := 60) ?hr ?_; (case hd => rfl); (case hg => rfl); (case hr => first | (go_simp; done) | (go_simp; rfl)); intro gb101 hg w13 hbox hb; have n0_ := Aside0.mk (below_step z59z1 hb); have n1_ := Aside0.mk (hbox); have n2_ := Aside0.mk ((by rw [hg]; exact (below_size z59z1) : w.heap.size ≤ gb101)); have n3_ := Aside0.mk ((by rw [hg]; exact (below_size z59z1) : w.heap.size ≤ gb101)); replace HB := n0_; have BK101 := n1_; have GW101 := n2_; have GE101 := n3_; clear n0_ n1_ n2_ n3_; clear hb hbox hg; have hcz14_0 := cc4_0 BK101.out; have hcz14_1 := cc4_1 BK101.out; have hcz14_2 := cc4_2 BK101.out; have hcz14_3 := cc4_3 BK101.out) | ((with_reducible refine gate_callee (f := 65) rfl ?_); refine goesL_ (some 5) rfl rfl Tryd.func65 (by kernel_rfl) rfl #[.agg #[.int .u8 a0_0, .int .u32 a0_1, .string a0_2, .string a0_3]] rfl z59z2 ?_; (with_reducible refine (prop_Right.calls k a0_0 a0_1 a0_2 a0_3 true _ ?side1 A2.out).mono ?_); (case side1 => exact GW.below HG.out z59z0); rintro e w15 ⟨rfl, hb⟩; refine ⟨_, rfl, ?_⟩; have n0_ := Aside0.mk (blk_below (g := gb101) (o := .cells #[.int .u8 a0_0, .int .u32 a0_1, .string a0_2, .string a0_3] 60 (0, 0)) z59z3 hb); have n1_ := Aside0.mk (below_step z59z0 hb); replace BK101 := n0_; replace HB := n1_; clear n0_ n1_; clear hb; have hcz16_0 := cc4_0 BK101.out; have hcz16_1 := cc4_1 BK101.out; have hcz16_2 := cc4_2 BK101.out; have hcz16_3 := cc4_3 BK101.out) | ((with_reducible refine gate_callee (f := 82) rfl ?_); refine goesL_ (some 10) rfl rfl Tryd.func82 (by kernel_rfl) rfl #[.int .u8 a0_0] rfl z59z2 ?_; (with_reducible refine (prop_Type.calls a0_0 t103 _ A4.out).mono ?_); rintro e w17 ⟨rfl, hb⟩; refine ⟨_, rfl, ?_⟩; have n0_ := Aside0.mk (blk_below (g := gb101) (o := .cells #[.int .u8 a0_0, .int .u32 a0_1, .string a0_2, .string a0_3] 60 (0, 0)) z59z3 hb); have n1_ := Aside0.mk (below_step z59z0 hb); replace BK101 := n0_; replace HB := n1_; clear n0_ n1_; clear hb; have hcz18_0 := cc4_0 BK101.out; have hcz18_1 := cc4_1 BK101.out; have hcz18_2 := cc4_2 BK101.out; have hcz18_3 := cc4_3 BK101.out))
   (try simp only [Act.put, List.setIfInBounds_toArray, List.set_cons_zero, List.set_cons_succ])
   go_cut [15] (fun v15 wc => ∃ (kq : Nat) (x15_11 : Bool), v15 = .bool x15_11 ∧ Aside0 (prop_Value.j0 kq x15_11 a0_0 a0_1 a0_2 a0_3 = some r) ∧ Aside0 (kq ≤ k) ∧ Aside0 (wc.heap[gb101]? = some (.cells #[.int .u8 a0_0, .int .u32 a0_1, .string a0_2, .string a0_3] 60 (0, 0))) ∧ Aside0 (Below w.heap.size w wc))
   case first =>
    have H := HC12.out
    clear HC12
    by_cases c19 : a0_0 = 11
    ·rw [if_pos c19] at H
     have c19b0 : (a0_0 == 11) = true := beq_iff_eq.mpr c19
     have c19b1 : (a0_0 != 11) = false := bne_eq_false_iff_eq.mpr c19
     clear c19
     (first | rw [c19b0] | (simp only [i64_w, i32_w]; rw [c19b0]) | skip)
     have H' := Aside0.mk H
     clear H
     go_wp2
     go_meet
     case rel => exact ⟨_, ((a0_0 == 11)), z59z4, H', ⟨by first | omega | exact Nat.le_refl _⟩, ⟨by (with_reducible repeat (first | refine blk_drewN ?_ _ | refine blk_drew ?_ | refine blk_alloc ?_ _)); exact BK101.out⟩, ⟨by repeat (first | (with_reducible first | exact HB.out | apply below_alloc | apply pw_below_drewN | apply below_drew1 | refine below_set ?_ GE101.out) | exact HB.out)⟩⟩
    ·rw [if_neg c19] at H
     have c19b0 : (a0_0 == 11) = false := beq_eq_false_iff_ne.mpr c19
     have c19b1 : (a0_0 != 11) = true := bne_iff_ne.mpr c19
     (first | rw [c19b0] | (simp only [i64_w, i32_w]; rw [c19b0]) | skip)
     by_cases c20 : a0_0 = 33
     ·rw [if_pos c20] at H
      have c20b0 : (a0_0 == 33) = true := beq_iff_eq.mpr c20
      have c20b1 : (a0_0 != 33) = false := bne_eq_false_iff_eq.mpr c20
      clear c20
      have H' := Aside0.mk H
      clear H
      have hcz21_0 : w17.cell? ⟨gb101, 0, none⟩ = some (.int .u8 a0_0) := (blk_cell BK101.out 0).trans rfl
      have hcz21_1 : w17.cell? ⟨gb101, 1, none⟩ = some (.int .u32 a0_1) := (blk_cell BK101.out 1).trans rfl
      have hcz21_2 : w17.cell? ⟨gb101, 2, none⟩ = some (.string a0_2) := (blk_cell BK101.out 2).trans rfl
      have hcz21_3 : w17.cell? ⟨gb101, 3, none⟩ = some (.string a0_3) := (blk_cell BK101.out 3).trans rfl
      have hfz21_0 := blk_frozen BK101.out 0
      have hfz21_1 := blk_frozen BK101.out 1
      have hfz21_2 := blk_frozen BK101.out 2
      have hfz21_3 := blk_frozen BK101.out 3
      go_wp2
      go_meet
      case rel => exact ⟨_, ((a0_0 == 33)), z59z4, H', ⟨by first | omega | exact Nat.le_refl _⟩, ⟨by (with_reducible repeat (first | refine blk_drewN ?_ _ | refine blk_drew ?_ | refine blk_alloc ?_ _)); exact BK101.out⟩, ⟨by repeat (first | (with_reducible first | exact HB.out | apply below_alloc | apply pw_below_drewN | apply below_drew1 | refine below_set ?_ GE101.out) | exact HB.out)⟩⟩
     ·rw [if_neg c20] at H
      have c20b0 : (a0_0 == 33) = false := beq_eq_false_iff_ne.mpr c20
      have c20b1 : (a0_0 != 33) = true := bne_iff_ne.mpr c20
      by_cases c22 : a0_0 = 35
      ·rw [if_pos c22] at H
       have c22b0 : (a0_0 == 35) = true := beq_iff_eq.mpr c22
       have c22b1 : (a0_0 != 35) = false := bne_eq_false_iff_eq.mpr c22
       clear c22
       have H' := Aside0.mk H
       clear H
       have hcz23_0 : w17.cell? ⟨gb101, 0, none⟩ = some (.int .u8 a0_0) := (blk_cell BK101.out 0).trans rfl
       have hcz23_1 : w17.cell? ⟨gb101, 1, none⟩ = some (.int .u32 a0_1) := (blk_cell BK101.out 1).trans rfl
       have hcz23_2 : w17.cell? ⟨gb101, 2, none⟩ = some (.string a0_2) := (blk_cell BK101.out 2).trans rfl
       have hcz23_3 : w17.cell? ⟨gb101, 3, none⟩ = some (.string a0_3) := (blk_cell BK101.out 3).trans rfl
       have hfz23_0 := blk_frozen BK101.out 0
       have hfz23_1 := blk_frozen BK101.out 1
       have hfz23_2 := blk_frozen BK101.out 2
       have hfz23_3 := blk_frozen BK101.out 3
       go_wp2
       go_meet
       case rel => exact ⟨_, ((a0_0 == 35)), z59z4, H', ⟨by first | omega | exact Nat.le_refl _⟩, ⟨by (with_reducible repeat (first | refine blk_drewN ?_ _ | refine blk_drew ?_ | refine blk_alloc ?_ _)); exact BK101.out⟩, ⟨by repeat (first | (with_reducible first | exact HB.out | apply below_alloc | apply pw_below_drewN | apply below_drew1 | refine below_set ?_ GE101.out) | exact HB.out)⟩⟩
      ·rw [if_neg c22] at H
       have c22b0 : (a0_0 == 35) = false := beq_eq_false_iff_ne.mpr c22
       have c22b1 : (a0_0 != 35) = true := bne_iff_ne.mpr c22
       have H' := Aside0.mk H
       clear H
       have hcz24_0 : w17.cell? ⟨gb101, 0, none⟩ = some (.int .u8 a0_0) := (blk_cell BK101.out 0).trans rfl
       have hcz24_1 : w17.cell? ⟨gb101, 1, none⟩ = some (.int .u32 a0_1) := (blk_cell BK101.out 1).trans rfl
       have hcz24_2 : w17.cell? ⟨gb101, 2, none⟩ = some (.string a0_2) := (blk_cell BK101.out 2).trans rfl
       have hcz24_3 : w17.cell? ⟨gb101, 3, none⟩ = some (.string a0_3) := (blk_cell BK101.out 3).trans rfl
       have hfz24_0 := blk_frozen BK101.out 0
       have hfz24_1 := blk_frozen BK101.out 1
       have hfz24_2 := blk_frozen BK101.out 2
       have hfz24_3 := blk_frozen BK101.out 3
       go_wp2
       go_meet
       case rel => exact ⟨_, ((a0_0 == 39)), z59z4, H', ⟨by first | omega | exact Nat.le_refl _⟩, ⟨by (with_reducible repeat (first | refine blk_drewN ?_ _ | refine blk_drew ?_ | refine blk_alloc ?_ _)); exact BK101.out⟩, ⟨by repeat (first | (with_reducible first | exact HB.out | apply below_alloc | apply pw_below_drewN | apply below_drew1 | refine below_set ?_ GE101.out) | exact HB.out)⟩⟩
   case rest =>
    clear HC12
    try clear c1
    try clear c2
    try clear p2
    try clear c3
    try clear c5
    try clear c5b0
    try clear c5b1
    try clear c6
    try clear c8
    try clear c19
    try clear c19b0
    try clear c19b1
    try clear c20
    try clear c20b0
    try clear c20b1
    try clear c22
    try clear c22b0
    try clear c22b1
    try clear hcz11_0
    try clear hcz11_1
    try clear hcz11_2
    try clear hcz11_3
    try clear hcz14_0
    try clear hcz14_1
    try clear hcz14_2
    try clear hcz14_3
    try clear hcz16_0
    try clear hcz16_1
    try clear hcz16_2
    try clear hcz16_3
    try clear hcz18_0
    try clear hcz18_1
    try clear hcz18_2
    try clear hcz18_3
    try clear hcz21_0
    try clear hcz21_1
    try clear hcz21_2
    try clear hcz21_3
    try clear hcz23_0
    try clear hcz23_1
    try clear hcz23_2
    try clear hcz23_3
    try clear hcz24_0
    try clear hcz24_1
    try clear hcz24_2
    try clear hcz24_3
    try clear hcz7_0
    try clear hcz7_1
    try clear hcz7_2
    try clear hcz7_3
    try clear hcz9_0
    try clear hcz9_1
    try clear hcz9_2
    try clear hcz9_3
    try clear hfz11_0
    try clear hfz11_1
    try clear hfz11_2
    try clear hfz11_3
    try clear hfz14_0
    try clear hfz14_1
    try clear hfz14_2
    try clear hfz14_3
    try clear hfz16_0
    try clear hfz16_1
    try clear hfz16_2
    try clear hfz16_3
    try clear hfz18_0
    try clear hfz18_1
    try clear hfz18_2
    try clear hfz18_3
    try clear hfz21_0
    try clear hfz21_1
    try clear hfz21_2
    try clear hfz21_3
    try clear hfz23_0
    try clear hfz23_1
    try clear hfz23_2
    try clear hfz23_3
    try clear hfz24_0
    try clear hfz24_1
    try clear hfz24_2
    try clear hfz24_3
    try clear hfz7_0
    try clear hfz7_1
    try clear hfz7_2
    try clear hfz7_3
    try clear hfz9_0
    try clear hfz9_1
    try clear hfz9_2
    try clear hfz9_3
    obtain ⟨kq, x15_11, rfl, HA, HJ11, BK101, HB⟩ := hcut
    cases kq with
    | zero => exact absurd HA.out (by simp [prop_Value.j0])
    | succ kj11 =>
     have H := HA.out
     clear HA
     simp only [prop_Value.j0] at H
     by_cases c25 : x15_11 = true
     ·subst c25
      have H1 : (some (a0_1 != 0)) = some r := by rw [if_pos rfl] at H; exact H
      clear H
      have H := H1
      clear H1
      obtain rfl := Option.some.inj H
      have hcz26_0 : wc.cell? ⟨gb101, 0, none⟩ = some (.int .u8 a0_0) := (blk_cell BK101.out 0).trans rfl
      have hcz26_1 : wc.cell? ⟨gb101, 1, none⟩ = some (.int .u32 a0_1) := (blk_cell BK101.out 1).trans rfl
      have hcz26_2 : wc.cell? ⟨gb101, 2, none⟩ = some (.string a0_2) := (blk_cell BK101.out 2).trans rfl
      have hcz26_3 : wc.cell? ⟨gb101, 3, none⟩ = some (.string a0_3) := (blk_cell BK101.out 3).trans rfl
      have hfz26_0 := blk_frozen BK101.out 0
      have hfz26_1 := blk_frozen BK101.out 1
      have hfz26_2 := blk_frozen BK101.out 2
      have hfz26_3 := blk_frozen BK101.out 3
      go_wp2
      go_ret
      exact ⟨by first | rfl | (simp [errW_none, errW_some] <;> rfl) | (simp [*, errW_none, errW_some] <;> rfl), by repeat (first | (with_reducible first | exact HB.out | apply below_alloc | apply pw_below_drewN | apply below_drew1 | refine below_set ?_ GE101.out) | exact HB.out)⟩
     ·replace c25 := Bool.eq_false_iff.mpr c25
      subst c25
      have H1 : (if a0_0 = 8 then ((topic_Name.f a0_2).bind fun t104 => (some t104)) else (some true)) = some r := by rw [if_neg (show ¬ (false = true) by decide)] at H; exact H
      clear H
      have H := H1
      clear H1
      by_cases c27 : a0_0 = 8
      ·rw [if_pos c27] at H
       have c27b0 : (a0_0 == 8) = true := beq_iff_eq.mpr c27
       have c27b1 : (a0_0 != 8) = false := bne_eq_false_iff_eq.mpr c27
       clear c27
       replace H := Option.bind_eq_some_iff.mp H
       obtain ⟨t104, A280, H⟩ := H
       replace H : (some t104) = some r := H
       have A28 := Aside0.mk A280
       clear A280
       obtain rfl := Option.some.inj H
       have hcz29_0 : wc.cell? ⟨gb101, 0, none⟩ = some (.int .u8 a0_0) := (blk_cell BK101.out 0).trans rfl
       have hcz29_1 : wc.cell? ⟨gb101, 1, none⟩ = some (.int .u32 a0_1) := (blk_cell BK101.out 1).trans rfl
       have hcz29_2 : wc.cell? ⟨gb101, 2, none⟩ = some (.string a0_2) := (blk_cell BK101.out 2).trans rfl
       have hcz29_3 : wc.cell? ⟨gb101, 3, none⟩ = some (.string a0_3) := (blk_cell BK101.out 3).trans rfl
       have hfz29_0 := blk_frozen BK101.out 0
       have hfz29_1 := blk_frozen BK101.out 1
       have hfz29_2 := blk_frozen BK101.out 2
       have hfz29_3 := blk_frozen BK101.out 3
       go_wp2_with (first | ((with_reducible refine gate_callee (f := 83) rfl ?_); refine goesL_ (some 37) rfl rfl Tryd.func83 (by kernel_rfl) rfl #[.string a0_2] rfl z59z2 ?_; (with_reducible refine (topic_Name.calls a0_2 t104 _ ?side1 A28.out).mono ?_); (case side1 => exact GW.below HG.out z59z0); rintro e w30 ⟨rfl, hb⟩; refine ⟨_, rfl, ?_⟩; have n0_ := Aside0.mk (blk_below (g := gb101) (o := .cells #[.int .u8 a0_0, .int .u32 a0_1, .string a0_2, .string a0_3] 60 (0, 0)) z59z3 hb); have n1_ := Aside0.mk (below_step z59z0 hb); replace BK101 := n0_; replace HB := n1_; clear n0_ n1_; clear hb))
       go_ret
       exact ⟨by first | rfl | (simp [errW_none, errW_some] <;> rfl) | (simp [*, errW_none, errW_some] <;> rfl), by repeat (first | (with_reducible first | exact HB.out | apply below_alloc | apply pw_below_drewN | apply below_drew1 | refine below_set ?_ GE101.out) | exact HB.out)⟩
      ·rw [if_neg c27] at H
       have c27b0 : (a0_0 == 8) = false := beq_eq_false_iff_ne.mpr c27
       have c27b1 : (a0_0 != 8) = true := bne_iff_ne.mpr c27
       obtain rfl := Option.some.inj H
       have hcz31_0 : wc.cell? ⟨gb101, 0, none⟩ = some (.int .u8 a0_0) := (blk_cell BK101.out 0).trans rfl
       have hcz31_1 : wc.cell? ⟨gb101, 1, none⟩ = some (.int .u32 a0_1) := (blk_cell BK101.out 1).trans rfl
       have hcz31_2 : wc.cell? ⟨gb101, 2, none⟩ = some (.string a0_2) := (blk_cell BK101.out 2).trans rfl
       have hcz31_3 : wc.cell? ⟨gb101, 3, none⟩ = some (.string a0_3) := (blk_cell BK101.out 3).trans rfl
       have hfz31_0 := blk_frozen BK101.out 0
       have hfz31_1 := blk_frozen BK101.out 1
       have hfz31_2 := blk_frozen BK101.out 2
       have hfz31_3 := blk_frozen BK101.out 3
       go_wp2
       go_ret
       exact ⟨by first | rfl | (simp [errW_none, errW_some] <;> rfl) | (simp [*, errW_none, errW_some] <;> rfl), by repeat (first | (with_reducible first | exact HB.out | apply below_alloc | apply pw_below_drewN | apply below_drew1 | refine below_set ?_ GE101.out) | exact HB.out)⟩
 ·replace c3 := Bool.eq_false_iff.mpr c3
  subst c3
  have H1 : (some false) = some r := by rw [if_neg (show ¬ (false = true) by decide)] at H; exact H
  clear H
  have H := H1
  clear H1
  obtain rfl := Option.some.inj H
  go_enter Tryd.func59, Tryd.ntmps59
  go_wp2_with (first | ((with_reducible refine gate_dst (N := 1) rfl ?_); refine box_event ?hg (N := 1) ?hd (cs := #[.int .u8 a0_0, .int .u32 a0_1, .string a0_2, .string a0_3]) (t := 60) ?hr ?_; (case hd => rfl); (case hg => rfl); (case hr => first | (go_simp; done) | (go_simp; rfl)); intro gb101 hg w32 hbox hb; have n0_ := Aside0.mk (below_step z59z1 hb); have n1_ := Aside0.mk (hbox); have n2_ := Aside0.mk ((by rw [hg]; exact (below_size z59z1) : w.heap.size ≤ gb101)); have n3_ := Aside0.mk ((by rw [hg]; exact (below_size z59z1) : w.heap.size ≤ gb101)); replace HB := n0_; have BK101 := n1_; have GW101 := n2_; have GE101 := n3_; clear n0_ n1_ n2_ n3_; clear hb hbox hg; have hcz33_0 := cc4_0 BK101.out; have hcz33_1 := cc4_1 BK101.out; have hcz33_2 := cc4_2 BK101.out; have hcz33_3 := cc4_3 BK101.out) | ((with_reducible refine gate_callee (f := 65) rfl ?_); refine goesL_ (some 5) rfl rfl Tryd.func65 (by kernel_rfl) rfl #[.agg #[.int .u8 a0_0, .int .u32 a0_1, .string a0_2, .string a0_3]] rfl z59z2 ?_; (with_reducible refine (prop_Right.calls k a0_0 a0_1 a0_2 a0_3 false _ ?side1 A2.out).mono ?_); (case side1 => exact GW.below HG.out z59z0); rintro e w34 ⟨rfl, hb⟩; refine ⟨_, rfl, ?_⟩; have n0_ := Aside0.mk (blk_below (g := gb101) (o := .cells #[.int .u8 a0_0, .int .u32 a0_1, .string a0_2, .string a0_3] 60 (0, 0)) z59z3 hb); have n1_ := Aside0.mk (below_step z59z0 hb); replace BK101 := n0_; replace HB := n1_; clear n0_ n1_; clear hb))
  go_ret
  exact ⟨by first | rfl | (simp [errW_none, errW_some] <;> rfl) | (simp [*, errW_none, errW_some] <;> rfl), by repeat (first | (with_reducible first | exact HB.out | apply below_alloc | apply pw_below_drewN | apply below_drew1 | refine below_set ?_ GE101.out) | exact HB.out)⟩
end Go.Proofs.YtkmkgpigmldhnaaDoor.P

namespace Go.Proofs.YtkmkgpigmldhnaaDoor.P
open Go.RowKit Go.Proofs.YtkmkgpigmldhnaaDoorW.PrintWords Go.Proofs.YtkmkgpigmldhnaaDoorW.PrintLast Go.Proofs.YtkmkgpigmldhnaaDoorW.PrintMore
attribute [local go_sem] max2_int min2_int max_two min_two max_three min_three max_four min_four
set_option linter.unusedVariables false
set_option linter.unusedSimpArgs false
def prop_Often.f (a0 : Int) (a1 : Int) : Option (Bool) := (prop_For.f a0 a1).bind fun t101 => (if t101 = true then (if a0 = 38 then (some true) else (if a0 = 11 then (some (a1 == 3)) else (some false))) else (some false))
theorem z61z0 {p : Prop} (h : p := by (try simp only [List.map_toArray, List.map_cons, List.map_nil]); first | done | rfl | (simp only [List.length_drop, List.length_take]; rfl)) : p := h
theorem z61z1 {p : Prop} (h : p := by repeat (first | (with_reducible first | exact HB.out | apply below_alloc | apply pw_below_drewN | apply below_drew1) | exact HB.out)) : p := h
set_option maxHeartbeats 8000000 in
set_option maxRecDepth 100000 in
theorem prop_Often.calls (a0 : Int) (a1 : Int) (r : Bool) (w : World) (h : prop_Often.f a0 a1 = some r) :
  Calls Tryd.prog 61 #[.int .u8 a0, .int .i64 a1] w fun e w' => e = .returned (.bool r) ∧ Below w.heap.size w w' := by
 have HB := Aside0.mk (Below.refl w.heap.size w)
 have H : ((prop_For.f a0 a1).bind fun t101 => (if t101 = true then (if a0 = 38 then (some true) else (if a0 = 11 then (some (a1 == 3)) else (some false))) else (some false))) = some r := h
 clear h
 replace H := Option.bind_eq_some_iff.mp H
 obtain ⟨t101, A30, H⟩ := H
 replace H : (if t101 = true then (if a0 = 38 then (some true) else (if a0 = 11 then (some (a1 == 3)) else (some false))) else (some false)) = some r := H
 have A3 := Aside0.mk A30
 clear A30
 by_cases c4 : t101 = true
 ·subst c4
  have H1 : (if a0 = 38 then (some true) else (if a0 = 11 then (some (a1 == 3)) else (some false))) = some r := by rw [if_pos rfl] at H; exact H
  clear H
  have H := H1
  clear H1
  by_cases c5 : a0 = 38
  ·rw [if_pos c5] at H
   have c5b0 : (a0 == 38) = true := beq_iff_eq.mpr c5
   have c5b1 : (a0 != 38) = false := bne_eq_false_iff_eq.mpr c5
   clear c5
   obtain rfl := Option.some.inj H
   go_enter Tryd.func61, Tryd.ntmps61
   go_wp2_with (first | ((with_reducible refine gate_callee (f := 60) rfl ?_); refine goesL_ (some 7) rfl rfl Tryd.func60 (by kernel_rfl) rfl #[.int .u8 a0, .int .i64 a1] rfl z61z0 ?_; (with_reducible refine (prop_For.calls a0 a1 true _ A3.out).mono ?_); rintro e w6 ⟨rfl, hb⟩; refine ⟨_, rfl, ?_⟩; have n0_ := Aside0.mk (below_step z61z1 hb); replace HB := n0_; clear n0_; clear hb))
   go_ret
   exact ⟨by first | rfl | (simp [errW_none, errW_some] <;> rfl) | (simp [*, errW_none, errW_some] <;> rfl), by repeat (first | (with_reducible first | exact HB.out | apply below_alloc | apply pw_below_drewN | apply below_drew1) | exact HB.out)⟩
  ·rw [if_neg c5] at H
   have c5b0 : (a0 == 38) = false := beq_eq_false_iff_ne.mpr c5
   have c5b1 : (a0 != 38) = true := bne_iff_ne.mpr c5
   by_cases c7 : a0 = 11
   ·rw [if_pos c7] at H
    have c7b0 : (a0 == 11) = true := beq_iff_eq.mpr c7
    have c7b1 : (a0 != 11) = false := bne_eq_false_iff_eq.mpr c7
    clear c7
    obtain rfl := Option.some.inj H
    go_enter Tryd.func61, Tryd.ntmps61
    go_wp2_with (first | ((with_reducible refine gate_callee (f := 60) rfl ?_); refine goesL_ (some 7) rfl rfl Tryd.func60 (by kernel_rfl) rfl #[.int .u8 a0, .int .i64 a1] rfl z61z0 ?_; (with_reducible refine (prop_For.calls a0 a1 true _ A3.out).mono ?_); rintro e w8 ⟨rfl, hb⟩; refine ⟨_, rfl, ?_⟩; have n0_ := Aside0.mk (below_step z61z1 hb); replace HB := n0_; clear n0_; clear hb))
    go_ret
    exact ⟨by first | rfl | (simp [errW_none, errW_some] <;> rfl) | (simp [*, errW_none, errW_some] <;> rfl), by repeat (first | (with_reducible first | exact HB.out | apply below_alloc | apply pw_below_drewN | apply below_drew1) | exact HB.out)⟩
   ·rw [if_neg c7] at H
    have c7b0 : (a0 == 11) = false := beq_eq_false_iff_ne.mpr c7
    have c7b1 : (a0 != 11) = true := bne_iff_ne.mpr c7
    obtain rfl := Option.some.inj H
    go_enter Tryd.func61, Tryd.ntmps61
    go_wp2_with (first | ((with_reducible refine gate_callee (f := 60) rfl ?_); refine goesL_ (some 7) rfl rfl Tryd.func60 (by kernel_rfl) rfl #[.int .u8 a0, .int .i64 a1] rfl z61z0 ?_; (with_reducible refine (prop_For.calls a0 a1 true _ A3.out).mono ?_); rintro e w9 ⟨rfl, hb⟩; refine ⟨_, rfl, ?_⟩; have n0_ := Aside0.mk (below_step z61z1 hb); replace HB := n0_; clear n0_; clear hb))
    go_ret
    exact ⟨by first | rfl | (simp [errW_none, errW_some] <;> rfl) | (simp [*, errW_none, errW_some] <;> rfl), by repeat (first | (with_reducible first | exact HB.out | apply below_alloc | apply pw_below_drewN | apply below_drew1) | exact HB.out)⟩
 ·replace c4 := Bool.eq_false_iff.mpr c4
  subst c4
  have H1 : (some false) = some r := by rw [if_neg (show ¬ (false = true) by decide)] at H; exact H
  clear H
  have H := H1
  clear H1
  obtain rfl := Option.some.inj H
  go_enter Tryd.func61, Tryd.ntmps61
  go_wp2_with (first | ((with_reducible refine gate_callee (f := 60) rfl ?_); refine goesL_ (some 7) rfl rfl Tryd.func60 (by kernel_rfl) rfl #[.int .u8 a0, .int .i64 a1] rfl z61z0 ?_; (with_reducible refine (prop_For.calls a0 a1 false _ A3.out).mono ?_); rintro e w10 ⟨rfl, hb⟩; refine ⟨_, rfl, ?_⟩; have n0_ := Aside0.mk (below_step z61z1 hb); replace HB := n0_; clear n0_; clear hb))
  go_ret
  exact ⟨by first | rfl | (simp [errW_none, errW_some] <;> rfl) | (simp [*, errW_none, errW_some] <;> rfl), by repeat (first | (with_reducible first | exact HB.out | apply below_alloc | apply pw_below_drewN | apply below_drew1) | exact HB.out)⟩
end Go.Proofs.YtkmkgpigmldhnaaDoor.P
