import Derived.Test.YtkmkgpigmldhnaaDoorCPropsEach0
import Derived.Test.YtkmkgpigmldhnaaDoorCPropsEach1
import Derived.Test.YtkmkgpigmldhnaaDoorCPropsEach2
import Derived.Test.YtkmkgpigmldhnaaDoorCPropsEach3
import Derived.Test.YtkmkgpigmldhnaaDoorCPropsEach4
import Derived.Test.YtkmkgpigmldhnaaDoorCPropsEach5
namespace Go.Proofs.YtkmkgpigmldhnaaDoor.Pr
open Go Go.RowKit Go.Lib Go.Proofs.YtkmkgpigmldhnaaDoorW.PrintWords Go.Proofs.YtkmkgpigmldhnaaDoorW.PrintLast Go.Proofs.YtkmkgpigmldhnaaDoorW.PrintMore
open Go.Proofs.YtkmkgpigmldhnaaDoor.P
structure PV where
  id : Int
  n : Int
  a : List UInt8
  b : List UInt8
def readL (l : List UInt8) : PV × List UInt8 × Int :=
  let h := numL 1 l 0
  if tyP h.1 = 1 then (⟨h.1, (numL 1 h.2.1 h.2.2).1, [], []⟩, (numL 1 h.2.1 h.2.2).2.1, (numL 1 h.2.1 h.2.2).2.2)
  else if tyP h.1 = 2 then (⟨h.1, (numL 2 h.2.1 h.2.2).1, [], []⟩, (numL 2 h.2.1 h.2.2).2.1, (numL 2 h.2.1 h.2.2).2.2)
  else if tyP h.1 = 3 then (⟨h.1, (numL 4 h.2.1 h.2.2).1, [], []⟩, (numL 4 h.2.1 h.2.2).2.1, (numL 4 h.2.1 h.2.2).2.2)
  else if tyP h.1 = 4 then (⟨h.1, (varL h.2.1 h.2.2).1, [], []⟩, (varL h.2.1 h.2.2).2.1, (varL h.2.1 h.2.2).2.2)
  else if tyP h.1 = 5 ∨ tyP h.1 = 6 then (⟨h.1, 0, (binL h.2.1 h.2.2).1, []⟩, (binL h.2.1 h.2.2).2.1, (binL h.2.1 h.2.2).2.2)
  else if tyP h.1 = 7 then (⟨h.1, 0, (binL h.2.1 h.2.2).1, (binL (binL h.2.1 h.2.2).2.1 (binL h.2.1 h.2.2).2.2).1⟩, (binL (binL h.2.1 h.2.2).2.1 (binL h.2.1 h.2.2).2.2).2.1, (binL (binL h.2.1 h.2.2).2.1 (binL h.2.1 h.2.2).2.2).2.2)
  else (⟨h.1, 0, [], []⟩, h.2.1, h.2.2)
def okV (v : PV) (e : Int) : Bool := decide (e = 0) && rightP v.id v.n v.a v.b
theorem num_range (n : Int) (hn : n = 1 ∨ n = 2 ∨ n = 4) (l : List UInt8) (e : Int) : 0 ≤ (numL n l e).1 ∧ (numL n l e).1 < 4294967296 ∧ (n = 1 → (numL n l e).1 < 256) ∧ (n = 2 → (numL n l e).1 < 65536) := by
  unfold numL
  by_cases h : (tkL n l e).2.1 = true
  · obtain ⟨_, hl⟩ := tk_len h
    rw [if_pos h]
    rcases hn with rfl | rfl | rfl
    · obtain ⟨a, ha⟩ := list1 hl
      have := a.toNat_lt
      rw [ha]; simp [beL]; omega
    · obtain ⟨a, b, ha⟩ := list2 hl
      have := a.toNat_lt
      have := b.toNat_lt
      rw [ha]; simp [beL]; omega
    · obtain ⟨a, b, c, d, ha⟩ := list4 hl
      have := a.toNat_lt
      have := b.toNat_lt
      have := c.toNat_lt
      have := d.toNat_lt
      rw [ha]; simp [beL]; omega
  · rw [if_neg h]; simp
def emp : ByteArray := ⟨#[]⟩
abbrev RP := Int × Int × ByteArray × ByteArray × Bool × ByteArray × Int
def finP (ok : Bool) (id n : Int) (a b s : ByteArray) (e : Int) : RP := if ok = true then (id, n, a, b, true, s, e) else (0, 0, emp, emp, false, s, e)
theorem now {α : Type} {f : Nat → Option α} {r : α} (h : ∀ k, f k = some r) : Ev f r := Ev.congr (f := fun _ => some r) h (Ev.now r)
theorem j1_prog (s : ByteArray) (e id n : Int) (a b : ByteArray) : Ev (fun k => props_next.j1 k s e id n a b) (finP (okV ⟨id, n, dl a, dl b⟩ e) id n a b s e) := by
  refine Ev.step (f := fun k => if e = 0 then ((prop_Right.f k id n a b).bind fun t => if t = true then some (id, n, a, b, true, s, e) else some (0, 0, emp, emp, false, s, e)) else some (0, 0, emp, emp, false, s, e)) (fun k => ?_) ?_
  · simp only [props_next.j1, wire_Reader_Err.f, Option.bind_some]; rfl
  · by_cases he : e = 0
    · refine Ev.congr (fun k => if_pos he) (Ev.bind (prop_right_ev id n a b) (now fun k => ?_))
      unfold finP okV
      rw [decide_eq_true he, Bool.true_and]
      by_cases hr : rightP id n (dl a) (dl b) = true
      · rw [if_pos hr, if_pos hr]
      · rw [if_neg hr, if_neg hr]
    · refine now fun k => ?_
      unfold finP okV
      rw [if_neg he, decide_eq_false he, Bool.false_and, if_neg (by simp)]
theorem next_prog (s : ByteArray) : ∃ a b s', Ev (fun k => props_next.f k s 0) (finP (okV (readL (dl s)).1 (readL (dl s)).2.2) (readL (dl s)).1.id (readL (dl s)).1.n a b s' (readL (dl s)).2.2) ∧ dl a = (readL (dl s)).1.a ∧ dl b = (readL (dl s)).1.b ∧ dl s' = (readL (dl s)).2.1 := by
  obtain ⟨s1, h1, h2⟩ := byte_prog s 0
  have hr := num_range 1 (.inl rfl) (dl s) 0
  have hf : ∀ (r : RP), Ev (fun k => if tyP (numL 1 (dl s) 0).1 = 1 then ((wire_Reader_Byte.f s1 (numL 1 (dl s) 0).2.2).bind fun b => props_next.j1 k b.2.1 b.2.2 (numL 1 (dl s) 0).1 (b.1 % 4294967296) emp emp) else
      if tyP (numL 1 (dl s) 0).1 = 2 then ((wire_Reader_Two.f s1 (numL 1 (dl s) 0).2.2).bind fun b => props_next.j1 k b.2.1 b.2.2 (numL 1 (dl s) 0).1 (b.1 % 4294967296) emp emp) else
      if tyP (numL 1 (dl s) 0).1 = 3 then ((wire_Reader_Four.f s1 (numL 1 (dl s) 0).2.2).bind fun b => props_next.j1 k b.2.1 b.2.2 (numL 1 (dl s) 0).1 b.1 emp emp) else
      if tyP (numL 1 (dl s) 0).1 = 4 then ((wire_Reader_Var.f k s1 (numL 1 (dl s) 0).2.2).bind fun b => props_next.j1 k b.2.1 b.2.2 (numL 1 (dl s) 0).1 b.1 emp emp) else
      if tyP (numL 1 (dl s) 0).1 = 5 then props_next.j0 k (tyP (numL 1 (dl s) 0).1) (tyP (numL 1 (dl s) 0).1 == 5) s1 (numL 1 (dl s) 0).2.2 (numL 1 (dl s) 0).1 0 emp emp else
      props_next.j0 k (tyP (numL 1 (dl s) 0).1) (tyP (numL 1 (dl s) 0).1 == 6) s1 (numL 1 (dl s) 0).2.2 (numL 1 (dl s) 0).1 0 emp emp) r → Ev (fun k => props_next.f k s 0) r := fun r h => Ev.congr (fun k => by unfold props_next.f; rw [h1]; rfl) h
  have hm : ∀ x : Int, 0 ≤ x → x < 4294967296 → x % 4294967296 = x := fun x a b => Int.emod_eq_of_lt a b
  unfold readL
  dsimp only
  generalize hid : (numL 1 (dl s) 0).1 = id at *
  generalize he1 : (numL 1 (dl s) 0).2.2 = e1 at *
  generalize hl1 : (numL 1 (dl s) 0).2.1 = l1 at *
  by_cases t1 : tyP id = 1
  · obtain ⟨s2, k1, k2⟩ := byte_prog s1 e1
    have hr2 := num_range 1 (.inl rfl) (dl s1) e1
    rw [h2] at k1 k2 hr2
    rw [if_pos t1]
    refine ⟨emp, emp, s2, hf _ (Ev.congr (fun k => by rw [if_pos t1, k1]; simp only [Option.bind_some]; rw [hm _ hr2.1 hr2.2.1]) (j1_prog s2 _ id _ emp emp)), rfl, rfl, k2⟩
  rw [if_neg t1]
  by_cases t2 : tyP id = 2
  · obtain ⟨s2, k1, k2⟩ := two_prog s1 e1
    have hr2 := num_range 2 (.inr (.inl rfl)) (dl s1) e1
    rw [h2] at k1 k2 hr2
    rw [if_pos t2]
    refine ⟨emp, emp, s2, hf _ (Ev.congr (fun k => by rw [if_neg t1, if_pos t2, k1]; simp only [Option.bind_some]; rw [hm _ hr2.1 hr2.2.1]) (j1_prog s2 _ id _ emp emp)), rfl, rfl, k2⟩
  rw [if_neg t2]
  by_cases t3 : tyP id = 3
  · obtain ⟨s2, k1, k2⟩ := four_prog s1 e1
    rw [h2] at k1 k2
    rw [if_pos t3]
    refine ⟨emp, emp, s2, hf _ (Ev.congr (fun k => by rw [if_neg t1, if_neg t2, if_pos t3, k1]; simp only [Option.bind_some]) (j1_prog s2 _ id _ emp emp)), rfl, rfl, k2⟩
  rw [if_neg t3]
  by_cases t4 : tyP id = 4
  · obtain ⟨s2, k1, k2⟩ := var_prog s1 e1
    rw [h2] at k1 k2
    rw [if_pos t4]
    refine ⟨emp, emp, s2, hf _ (Ev.congr (fun k => by rw [if_neg t1, if_neg t2, if_neg t3, if_pos t4]) (Ev.bind (f := fun k b => props_next.j1 k b.2.1 b.2.2 id b.1 emp emp) k1 (j1_prog s2 _ id _ emp emp))), rfl, rfl, k2⟩
  rw [if_neg t4]
  by_cases t5 : tyP id = 5 ∨ tyP id = 6
  · obtain ⟨t, s2, k1, k2, k3⟩ := bin_prog s1 e1
    rw [h2] at k1 k2 k3
    rw [if_pos t5]
    have hj : Ev (fun k => props_next.j0 k (tyP id) true s1 e1 id 0 emp emp) (finP (okV ⟨id, 0, dl t, []⟩ (binL l1 e1).2.2) id 0 t emp s2 (binL l1 e1).2.2) :=
      Ev.step (fun k => by simp only [props_next.j0]; rw [if_pos trivial, k1]; simp only [Option.bind_some]) (j1_prog s2 _ id 0 t emp)
    rw [k2] at hj
    refine ⟨t, emp, s2, hf _ ?_, k2, rfl, k3⟩
    rcases t5 with t5 | t5
    · exact Ev.congr (fun k => by rw [if_neg t1, if_neg t2, if_neg t3, if_neg t4, if_pos t5, show (tyP id == 5) = true by simp [t5]]) hj
    · exact Ev.congr (fun k => by rw [if_neg t1, if_neg t2, if_neg t3, if_neg t4, if_neg (by omega), show (tyP id == 6) = true by simp [t5]]) hj
  rw [if_neg t5]
  have hj0 : ∀ (r : RP), Ev (fun k => props_next.j0 k (tyP id) false s1 e1 id 0 emp emp) r → Ev (fun k => props_next.f k s 0) r := fun r h => hf r (Ev.congr (fun k => by rw [if_neg t1, if_neg t2, if_neg t3, if_neg t4, if_neg (by omega), show (tyP id == 6) = false by rw [beq_eq_false_iff_ne]; omega]) h)
  by_cases t7 : tyP id = 7
  · obtain ⟨t, s2, k1, k2, k3⟩ := bin_prog s1 e1
    rw [h2] at k1 k2 k3
    obtain ⟨u, s3, m1, m2, m3⟩ := bin_prog s2 (binL l1 e1).2.2
    rw [k3] at m1 m2 m3
    rw [if_pos t7]
    have hj := j1_prog s3 (binL (binL l1 e1).2.1 (binL l1 e1).2.2).2.2 id 0 t u
    rw [k2, m2] at hj
    refine ⟨t, u, s3, hj0 _ (Ev.step (fun k => by simp only [props_next.j0]; rw [if_neg (by simp), if_pos t7, k1]; simp only [Option.bind_some]; rw [m1]; simp only [Option.bind_some]) hj), k2, m2, m3⟩
  rw [if_neg t7]
  refine ⟨emp, emp, s1, hj0 _ (Ev.step (fun k => by simp only [props_next.j0]; rw [if_neg (by simp), if_neg t7]) (j1_prog s1 e1 id 0 emp emp)), rfl, rfl, h2⟩
abbrev RQ := Int × Int × ByteArray × ByteArray × Int
def finR (ok : Bool) (id n : Int) (a b : ByteArray) (at_ : Int) : RQ := if ok = true then (id, n, a, b, at_) else (0, 0, emp, emp, 0)
theorem chk_ref0 (id : Int) (h0 : 0 ≤ id) (h1 : id < 256) (n : Int) (a b : ByteArray) (at_ e : Int) : Ev (fun k => if e = 0 then ((pouchref05_Right.f k id n a b).bind fun t => if t = true then some (id, n, a, b, at_) else some (0, 0, emp, emp, 0)) else some (0, 0, emp, emp, 0)) (finR (okV ⟨id, n, dl a, dl b⟩ e) id n a b at_) := by
  by_cases he : e = 0
  · refine Ev.congr (fun k => if_pos he) (Ev.bind (ref_right id n h0 h1 a b) (now fun k => ?_))
    unfold finR okV
    rw [decide_eq_true he, Bool.true_and]
    by_cases hr : rightP id n (dl a) (dl b) = true
    · rw [if_pos hr, if_pos hr]
    · rw [if_neg hr, if_neg hr]
  · refine now fun k => ?_
    unfold finR okV
    rw [if_neg he, decide_eq_false he, Bool.false_and, if_neg (by simp)]
theorem chk_ref (B : ByteArray) (id : Int) (h0 : 0 ≤ id) (h1 : id < 256) (n : Int) (a b : ByteArray) (at_ e : Int) : Ev (fun k => pouchref06_Next.j1 k B at_ e id n a b) (finR (okV ⟨id, n, dl a, dl b⟩ e) id n a b at_) :=
  Ev.step (fun k => by simp only [pouchref06_Next.j1]; rfl) (chk_ref0 id h0 h1 n a b at_ e)
theorem right_zero {id : Int} (h : tyP id = 0) (n : Int) (a b : List UInt8) : rightP id n a b = false := by
  unfold rightP
  rw [if_neg (by omega), if_neg (by omega), if_neg (by omega), if_neg (by omega), if_neg (by omega), if_neg (by omega), if_neg (by omega)]
theorem next_ref (B : ByteArray) (hB : B.size ≤ 140737488355328) : ∃ (a b : ByteArray) (at' : Nat), Ev (fun k => pouchref06_Next.f k B) (finR (okV (readL (dl B)).1 (readL (dl B)).2.2) (readL (dl B)).1.id (readL (dl B)).1.n a b (at' : Int)) ∧ dl a = (readL (dl B)).1.a ∧ dl b = (readL (dl B)).1.b ∧ (dl B).drop at' = (readL (dl B)).2.1 ∧ at' ≤ B.size ∧ (okV (readL (dl B)).1 (readL (dl B)).2.2 = true → 0 < at') := by
  obtain ⟨a1, h1, h2, _, h4⟩ := num_ref B 0 0 1 (by omega) hB (Nat.zero_le _)
  rw [List.drop_zero] at h1 h2
  have hr := num_range 1 (.inl rfl) (dl B) 0
  have hpos : (numL 1 (dl B) 0).2.2 = 0 → 0 < a1 := by
    intro he
    unfold numL at he h2
    have hl : (tkL 1 (dl B) 0).2.2.1.length + 1 = (dl B).length := by
      unfold tkL at he ⊢
      rw [if_pos rfl] at he ⊢
      by_cases hc : (1 : Int) < 0 ∨ 1 > ((dl B).length : Int)
      · rw [if_pos hc] at he; cases he
      · rw [if_neg hc]
        show ((dl B).drop (1 : Int).toNat).length + 1 = _
        rw [List.length_drop]
        show (dl B).length - 1 + 1 = _
        omega
    have := congrArg List.length h2
    rw [List.length_drop] at this
    dsimp only at this
    omega
  have hf : ∀ (r : RQ), Ev (fun k => (pouchref05_Type.f k ((numL 1 (dl B) 0).1 % 256)).bind fun t108 => if t108 = 0 then some (0, 0, emp, emp, 0) else
      if t108 = 1 then ((pouchref01_Reader_Num.f k B a1 (numL 1 (dl B) 0).2.2 1).bind fun b => pouchref06_Next.j1 k b.2.1 b.2.2.1 b.2.2.2 ((numL 1 (dl B) 0).1 % 256) (b.1 % 4294967296) emp emp) else
      if t108 = 2 then ((pouchref01_Reader_Num.f k B a1 (numL 1 (dl B) 0).2.2 2).bind fun b => pouchref06_Next.j1 k b.2.1 b.2.2.1 b.2.2.2 ((numL 1 (dl B) 0).1 % 256) (b.1 % 4294967296) emp emp) else
      if t108 = 3 then ((pouchref01_Reader_Num.f k B a1 (numL 1 (dl B) 0).2.2 4).bind fun b => pouchref06_Next.j1 k b.2.1 b.2.2.1 b.2.2.2 ((numL 1 (dl B) 0).1 % 256) (b.1 % 4294967296) emp emp) else
      if t108 = 4 then ((pouchref01_Reader_Var.f k B a1 (numL 1 (dl B) 0).2.2).bind fun b => pouchref06_Next.j1 k b.2.1 b.2.2.1 b.2.2.2 ((numL 1 (dl B) 0).1 % 256) b.1 emp emp) else
      if t108 = 5 then pouchref06_Next.j0 k t108 (t108 == 5) B a1 (numL 1 (dl B) 0).2.2 ((numL 1 (dl B) 0).1 % 256) 0 emp emp else
      pouchref06_Next.j0 k t108 (t108 == 6) B a1 (numL 1 (dl B) 0).2.2 ((numL 1 (dl B) 0).1 % 256) 0 emp emp) r → Ev (fun k => pouchref06_Next.f k B) r := fun r h =>
    Ev.bind (g := fun k => pouchref01_Reader_Num.f k B 0 0 1) h1 h
  have hm : ∀ x : Int, 0 ≤ x → x < 4294967296 → x % 4294967296 = x := fun x a b => Int.emod_eq_of_lt a b
  have hm8 : (numL 1 (dl B) 0).1 % 256 = (numL 1 (dl B) 0).1 := Int.emod_eq_of_lt hr.1 (hr.2.2.1 rfl)
  rw [hm8] at hf
  have hid0 := hr.1
  have hid1 := hr.2.2.1 rfl
  have hty := type_ref (numL 1 (dl B) 0).1 hid0 hid1
  have hpre : okV (readL (dl B)).1 (readL (dl B)).2.2 = true → (readL (dl B)).2.2 = 0 := fun h => by
    unfold okV at h; rw [Bool.and_eq_true] at h; exact of_decide_eq_true h.1
  unfold readL at hpre ⊢
  dsimp only at hpre ⊢
  generalize hid : (numL 1 (dl B) 0).1 = id at *
  generalize he1 : (numL 1 (dl B) 0).2.2 = e1 at *
  generalize hl1 : (numL 1 (dl B) 0).2.1 = l1 at *
  have hst : ∀ (r : RQ), Ev (fun k => if tyP id = 0 then some (0, 0, emp, emp, 0) else
      if tyP id = 1 then ((pouchref01_Reader_Num.f k B a1 e1 1).bind fun b => pouchref06_Next.j1 k b.2.1 b.2.2.1 b.2.2.2 id (b.1 % 4294967296) emp emp) else
      if tyP id = 2 then ((pouchref01_Reader_Num.f k B a1 e1 2).bind fun b => pouchref06_Next.j1 k b.2.1 b.2.2.1 b.2.2.2 id (b.1 % 4294967296) emp emp) else
      if tyP id = 3 then ((pouchref01_Reader_Num.f k B a1 e1 4).bind fun b => pouchref06_Next.j1 k b.2.1 b.2.2.1 b.2.2.2 id (b.1 % 4294967296) emp emp) else
      if tyP id = 4 then ((pouchref01_Reader_Var.f k B a1 e1).bind fun b => pouchref06_Next.j1 k b.2.1 b.2.2.1 b.2.2.2 id b.1 emp emp) else
      if tyP id = 5 then pouchref06_Next.j0 k (tyP id) (tyP id == 5) B a1 e1 id 0 emp emp else
      pouchref06_Next.j0 k (tyP id) (tyP id == 6) B a1 e1 id 0 emp emp) r → Ev (fun k => pouchref06_Next.f k B) r := fun r h => hf r (Ev.bind hty h)
  -- one number, then the look
  have hnum : ∀ (n : Int), n = 1 ∨ n = 2 ∨ n = 4 → ∃ at' : Nat, Ev (fun k => (pouchref01_Reader_Num.f k B a1 e1 n).bind fun b => pouchref06_Next.j1 k b.2.1 b.2.2.1 b.2.2.2 id (b.1 % 4294967296) emp emp) (finR (okV ⟨id, (numL n l1 e1).1, [], []⟩ (numL n l1 e1).2.2) id (numL n l1 e1).1 emp emp (at' : Int)) ∧ (dl B).drop at' = (numL n l1 e1).2.1 ∧ a1 ≤ at' ∧ at' ≤ B.size := by
    intro n hn
    obtain ⟨a2, k1, k2, k3, k4⟩ := num_ref B a1 e1 n hn hB h4
    rw [h2] at k1 k2
    have hrn := num_range n hn l1 e1
    refine ⟨a2, Ev.bind k1 (Ev.congr (fun k => ?_) (chk_ref B id hid0 hid1 (numL n l1 e1).1 emp emp a2 (numL n l1 e1).2.2)), k2, k3, k4⟩
    dsimp only
    rw [hm _ hrn.1 hrn.2.1]
  have e10 : ∀ {n : Int} {l : List UInt8} {e : Int}, (numL n l e).2.2 = 0 → e = 0 := fun {n l e} h => by
    unfold numL tkL at h
    by_cases he : e = 0
    · exact he
    · rw [if_neg he] at h; exact h
  have b10 : ∀ {l : List UInt8} {e : Int}, (binL l e).2.2 = 0 → e = 0 := fun {l e} h => by
    unfold binL at h
    have h3 : (numL 2 l e).2.2 = 0 := by
      by_cases he : (numL 2 l e).2.2 = 0
      · exact he
      · unfold tkL at h; rw [if_neg he] at h; exact h
    exact e10 h3
  by_cases t0 : tyP id = 0
  · have hbad : ∀ (v : PV) (e : Int), v.id = id → okV v e = false := fun v e hv => by unfold okV; rw [hv, right_zero t0, Bool.and_false]
    rw [if_neg (by omega), if_neg (by omega), if_neg (by omega), if_neg (by omega), if_neg (by omega), if_neg (by omega)]
    refine ⟨emp, emp, a1, hst _ (now fun k => ?_), rfl, rfl, h2, h4, fun h => ?_⟩
    · rw [if_pos t0, hbad _ _ rfl]; rfl
    · rw [hbad _ _ rfl] at h; cases h
  by_cases t1 : tyP id = 1
  · obtain ⟨a2, k1, k2, k3, k4⟩ := hnum 1 (by omega)
    rw [if_pos t1] at hpre ⊢
    exact ⟨emp, emp, a2, hst _ (Ev.congr (fun k => by rw [if_neg t0, if_pos t1]) k1), rfl, rfl, k2, k4, fun h => by have := hpos (e10 (hpre h)); omega⟩
  rw [if_neg t1] at hpre ⊢
  by_cases t2 : tyP id = 2
  · obtain ⟨a2, k1, k2, k3, k4⟩ := hnum 2 (by omega)
    rw [if_pos t2] at hpre ⊢
    exact ⟨emp, emp, a2, hst _ (Ev.congr (fun k => by rw [if_neg t0, if_neg t1, if_pos t2]) k1), rfl, rfl, k2, k4, fun h => by have := hpos (e10 (hpre h)); omega⟩
  rw [if_neg t2] at hpre ⊢
  by_cases t3 : tyP id = 3
  · obtain ⟨a2, k1, k2, k3, k4⟩ := hnum 4 (by omega)
    rw [if_pos t3] at hpre ⊢
    exact ⟨emp, emp, a2, hst _ (Ev.congr (fun k => by rw [if_neg t0, if_neg t1, if_neg t2, if_pos t3]) k1), rfl, rfl, k2, k4, fun h => by have := hpos (e10 (hpre h)); omega⟩
  rw [if_neg t3] at hpre ⊢
  by_cases t4 : tyP id = 4
  · obtain ⟨a2, k1, k2, k3, k4⟩ := var_ref B a1 e1 hB h4
    rw [h2] at k1 k2
    rw [if_pos t4] at hpre ⊢
    refine ⟨emp, emp, a2, hst _ (Ev.congr (fun k => by rw [if_neg t0, if_neg t1, if_neg t2, if_neg t3, if_pos t4]) (Ev.bind k1 (chk_ref B id hid0 hid1 (varL l1 e1).1 emp emp a2 (varL l1 e1).2.2))), rfl, rfl, k2, k4, fun h => ?_⟩
    have h5 := hpre h
    have : e1 = 0 := by
      unfold varL at h5
      by_cases he : e1 = 0
      · exact he
      · rw [if_neg he] at h5; exact h5
    have := hpos this
    omega
  rw [if_neg t4] at hpre ⊢
  by_cases t5 : tyP id = 5 ∨ tyP id = 6
  · obtain ⟨t, a2, k1, k2, k3, k4, k5⟩ := bin_ref B a1 e1 hB h4
    rw [h2] at k1 k2 k3
    rw [if_pos t5] at hpre ⊢
    have hj : Ev (fun k => pouchref06_Next.j0 k (tyP id) true B a1 e1 id 0 emp emp) (finR (okV ⟨id, 0, dl t, []⟩ (binL l1 e1).2.2) id 0 t emp a2) :=
      Ev.step (fun k => by simp only [pouchref06_Next.j0]; rw [if_pos trivial]) (Ev.bind k1 (chk_ref B id hid0 hid1 0 t emp a2 (binL l1 e1).2.2))
    rw [k2] at hj
    refine ⟨t, emp, a2, hst _ ?_, k2, rfl, k3, k5, fun h => by have := hpos (b10 (hpre h)); omega⟩
    rcases t5 with t5 | t5
    · exact Ev.congr (fun k => by rw [if_neg t0, if_neg t1, if_neg t2, if_neg t3, if_neg t4, if_pos t5, show (tyP id == 5) = true by simp [t5]]) hj
    · exact Ev.congr (fun k => by rw [if_neg t0, if_neg t1, if_neg t2, if_neg t3, if_neg t4, if_neg (by omega), show (tyP id == 6) = true by simp [t5]]) hj
  rw [if_neg t5] at hpre ⊢
  have hj0 : ∀ (r : RQ), Ev (fun k => pouchref06_Next.j0 k (tyP id) false B a1 e1 id 0 emp emp) r → Ev (fun k => pouchref06_Next.f k B) r := fun r h => hst r (Ev.congr (fun k => by rw [if_neg t0, if_neg t1, if_neg t2, if_neg t3, if_neg t4, if_neg (by omega), show (tyP id == 6) = false by rw [beq_eq_false_iff_ne]; omega]) h)
  by_cases t7 : tyP id = 7
  · obtain ⟨t, a2, k1, k2, k3, k4, k5⟩ := bin_ref B a1 e1 hB h4
    rw [h2] at k1 k2 k3
    obtain ⟨u, a3, m1, m2, m3, m4, m5⟩ := bin_ref B a2 (binL l1 e1).2.2 hB k5
    rw [k3] at m1 m2 m3
    rw [if_pos t7] at hpre ⊢
    have hj := chk_ref B id hid0 hid1 0 t u a3 (binL (binL l1 e1).2.1 (binL l1 e1).2.2).2.2
    rw [k2, m2] at hj
    refine ⟨t, u, a3, hj0 _ (Ev.step (fun k => by simp only [pouchref06_Next.j0]; rw [if_neg (by simp), if_pos t7]) (Ev.bind k1 (Ev.bind m1 hj))), k2, m2, m3, m5, fun h => by have := hpos (b10 (b10 (hpre h))); omega⟩
  rw [if_neg t7] at hpre ⊢
  refine ⟨emp, emp, a1, hj0 _ (Ev.step (fun k => by simp only [pouchref06_Next.j0]; rw [if_neg (by simp), if_neg t7]) (chk_ref B id hid0 hid1 0 emp emp a1 e1)), rfl, rfl, h2, h4, fun h => hpos (hpre h)⟩
end Go.Proofs.YtkmkgpigmldhnaaDoor.Pr

namespace Go.Proofs.YtkmkgpigmldhnaaDoor.Pr
open Go Go.RowKit Go.Lib Go.Proofs.YtkmkgpigmldhnaaDoorW.PrintWords Go.Proofs.YtkmkgpigmldhnaaDoorW.PrintLast Go.Proofs.YtkmkgpigmldhnaaDoorW.PrintMore
open Go.Proofs.YtkmkgpigmldhnaaDoor.P
def ba (l : List UInt8) : ByteArray := ⟨l.toArray⟩
theorem dl_ba (l : List UInt8) : dl (ba l) = l := rfl
theorem ba_of {s : ByteArray} {l : List UInt8} (h : dl s = l) : s = ba l := dl_inj h
def mkS (v : PV) : S60 := ⟨v.id, v.n, ba v.a, ba v.b⟩
def mkR (v : PV) : S58 := ⟨v.id, v.n, ba v.a, ba v.b⟩
theorem cv_mkS (v : PV) : cvR (mkS v) = mkR v := rfl
def allV : Nat → List UInt8 → List PV × Bool
  | 0, _ => ([], true)
  | d + 1, l => if l = [] then ([], true) else if okV (readL l).1 (readL l).2.2 = true then ((readL l).1 :: (allV d (readL l).2.1).1, (allV d (readL l).2.1).2) else ([], false)
theorem read_less (l : List UInt8) (hl : l.length ≤ 140737488355328) (h : okV (readL l).1 (readL l).2.2 = true) : (readL l).2.1.length < l.length ∧ (readL l).2.2 = 0 := by
  obtain ⟨_, _, at', _, _, _, h4, h5, h6⟩ := next_ref (ba l) (by rw [← dl_len]; exact hl)
  rw [dl_ba] at h4 h6
  have h7 := h6 h
  have h8 : (ba l).size = l.length := by rw [← dl_len]; rfl
  refine ⟨?_, ?_⟩
  · rw [← h4, List.length_drop]; omega
  · unfold okV at h; rw [Bool.and_eq_true] at h; exact of_decide_eq_true h.1
theorem all_len : ∀ (d : Nat) (l : List UInt8), l.length ≤ d → l.length ≤ 140737488355328 → (allV d l).1.length ≤ l.length
  | 0, _, _, _ => by simp [allV]
  | d + 1, l, h, h2 => by
    unfold allV
    by_cases h0 : l = []
    · rw [if_pos h0]; simp
    · rw [if_neg h0]
      by_cases hk : okV (readL l).1 (readL l).2.2 = true
      · rw [if_pos hk]
        have hr := read_less l h2 hk
        have := all_len d (readL l).2.1 (by omega) (by omega)
        rw [List.length_cons]; omega
      · rw [if_neg hk]; simp
def eps (r : List PV × Bool) : List EP := r.1.map (fun v => (mkS v, true)) ++ if r.2 = true then [] else [(⟨0, 0, emp, emp⟩, false)]
theorem each_prog : ∀ (d : Nat) (s : ByteArray), (dl s).length ≤ d → (dl s).length ≤ 140737488355328 → Ev (fun k => eachF k s) (eps (allV d (dl s)))
  | 0, s, h, _ => by
    have hs : s.size = 0 := by rw [← dl_len]; omega
    exact Ev.step (f := fun _ => some []) (fun k => by simp only [eachF]; rw [if_pos hs]) (Ev.now _)
  | d + 1, s, h, h2 => by
    unfold allV
    by_cases h0 : dl s = []
    · have hs : s.size = 0 := by rw [← dl_len, h0]; rfl
      rw [if_pos h0]
      exact Ev.step (f := fun _ => some []) (fun k => by simp only [eachF]; rw [if_pos hs]) (Ev.now _)
    · have hs : ¬ s.size = 0 := fun e => h0 (List.eq_nil_of_length_eq_zero (by rw [dl_len, e]))
      rw [if_neg h0]
      obtain ⟨a, b, s', hn, ha, hb, hs'⟩ := next_prog s
      by_cases hk : okV (readL (dl s)).1 (readL (dl s)).2.2 = true
      · have hr := read_less (dl s) h2 hk
        rw [if_pos hk]
        have ih := each_prog d s' (by rw [hs']; omega) (by rw [hs']; omega)
        rw [hs'] at ih
        refine Ev.step (f := fun k => (props_next.f k s 0).bind fun p => if p.2.2.2.2.1 = true then (if p.2.2.2.2.2.2 = 0 then (eachF k p.2.2.2.2.2.1).bind fun L => some ((⟨p.1, p.2.1, p.2.2.1, p.2.2.2.1⟩, true) :: L) else none) else some [(⟨p.1, p.2.1, p.2.2.1, p.2.2.2.1⟩, false)]) (fun k => by simp only [eachF]; rw [if_neg hs]) ?_
        refine Ev.bind hn (Ev.congr (f := fun k => (eachF k s').bind fun L => some ((mkS (readL (dl s)).1, true) :: L)) (fun k => ?_) (Ev.bind (f := fun _ L => some ((mkS (readL (dl s)).1, true) :: L)) ih (now fun k => ?_)))
        · unfold finP
          rw [if_pos hk]
          dsimp only
          rw [if_pos rfl, if_pos hr.2, ba_of ha, ba_of hb]; rfl
        · rfl
      · rw [if_neg hk]
        refine Ev.step (f := fun k => (props_next.f k s 0).bind fun p => if p.2.2.2.2.1 = true then (if p.2.2.2.2.2.2 = 0 then (eachF k p.2.2.2.2.2.1).bind fun L => some ((⟨p.1, p.2.1, p.2.2.1, p.2.2.2.1⟩, true) :: L) else none) else some [(⟨p.1, p.2.1, p.2.2.1, p.2.2.2.1⟩, false)]) (fun k => by simp only [eachF]; rw [if_neg hs]) ?_
        refine Ev.bind hn (now fun k => ?_)
        unfold finP
        rw [if_neg hk]
        dsimp only
        rw [if_neg (by simp)]; rfl
theorem each_ref : ∀ (d : Nat) (B : ByteArray) (acc : List S58), (dl B).length ≤ d → (dl B).length ≤ 140737488355328 → acc.length + d < 3518437208883 → Ev (fun k => pouchref06_Each.l0 k B acc) (acc ++ (allV d (dl B)).1.map mkR, (allV d (dl B)).2)
  | 0, B, acc, h, _, _ => by
    have hs : B.size = 0 := by rw [← dl_len]; omega
    refine Ev.step (f := fun _ => some (acc ++ [], true)) (fun k => by simp only [pouchref06_Each.l0]; rw [if_neg (by omega), List.append_nil]) (Ev.now _)
  | d + 1, B, acc, h, h2, h3 => by
    unfold allV
    by_cases h0 : dl B = []
    · have hs : B.size = 0 := by rw [← dl_len, h0]; rfl
      rw [if_pos h0]
      refine Ev.step (f := fun _ => some (acc ++ [], true)) (fun k => by simp only [pouchref06_Each.l0]; rw [if_neg (by omega), List.append_nil]) (Ev.now _)
    · have hs : ¬ B.size = 0 := fun e => h0 (List.eq_nil_of_length_eq_zero (by rw [dl_len, e]))
      have hsz := dl_len B
      rw [if_neg h0]
      obtain ⟨a, b, at', hn, ha, hb, hd, hle, hpos⟩ := next_ref B (by omega)
      by_cases hk : okV (readL (dl B)).1 (readL (dl B)).2.2 = true
      · have hr := read_less (dl B) h2 hk
        have hp := hpos hk
        rw [if_pos hk]
        have hdl : dl (B.extract at' B.size) = (readL (dl B)).2.1 := by rw [dl_from, hd]
        have ih := each_ref d (B.extract at' B.size) (acc ++ [mkR (readL (dl B)).1]) (by rw [hdl]; omega) (by rw [hdl]; omega) (by rw [List.length_append]; simp; omega)
        rw [hdl] at ih
        refine Ev.step (f := fun k => (pouchref06_Next.f k B).bind fun p => if p.2.2.2.2 = 0 then some (acc, false) else if acc.length < 3518437208883 then (if 0 ≤ p.2.2.2.2 then (if p.2.2.2.2 ≤ (B.size : Int) then pouchref06_Each.l0 k (B.extract (p.2.2.2.2 : Int).toNat B.size) (acc ++ [⟨p.1, p.2.1, p.2.2.1, p.2.2.2.1⟩]) else none) else none) else none) (fun k => by simp only [pouchref06_Each.l0]; rw [if_pos (by omega)]) ?_
        refine Ev.bind hn (Ev.congr (fun k => ?_) (show Ev (fun k => pouchref06_Each.l0 k (B.extract at' B.size) (acc ++ [mkR (readL (dl B)).1])) (acc ++ ((readL (dl B)).1 :: (allV d (readL (dl B)).2.1).1).map mkR, _) from by rw [show acc ++ ((readL (dl B)).1 :: (allV d (readL (dl B)).2.1).1).map mkR = acc ++ [mkR (readL (dl B)).1] ++ (allV d (readL (dl B)).2.1).1.map mkR by simp]; exact ih))
        unfold finR
        rw [if_pos hk]
        dsimp only
        rw [if_neg (by omega), if_pos (by omega), if_pos (by omega), if_pos (by omega), ba_of ha, ba_of hb]; rfl
      · rw [if_neg hk]
        refine Ev.step (f := fun k => (pouchref06_Next.f k B).bind fun p => if p.2.2.2.2 = 0 then some (acc, false) else if acc.length < 3518437208883 then (if 0 ≤ p.2.2.2.2 then (if p.2.2.2.2 ≤ (B.size : Int) then pouchref06_Each.l0 k (B.extract (p.2.2.2.2 : Int).toNat B.size) (acc ++ [⟨p.1, p.2.1, p.2.2.1, p.2.2.2.1⟩]) else none) else none) else none) (fun k => by simp only [pouchref06_Each.l0]; rw [if_pos (by omega)]) ?_
        refine Ev.bind hn (now fun k => ?_)
        unfold finR
        rw [if_neg hk]
        dsimp only
        rw [if_pos rfl]; simp
theorem eachO_all (most : Int) (ok : Bool) : ∀ (vs : List PV) (acc : List S58), (acc.length + vs.length : Int) < most → eachO most (eps (vs, ok)) acc = (acc ++ vs.map mkR, ok)
  | [], acc, h => by
    cases ok
    · simp [eps, eachO]
    · simp [eps, eachO]
  | v :: vs, acc, h => by
    have e : eps (v :: vs, ok) = (mkS v, true) :: eps (vs, ok) := rfl
    rw [e]
    simp only [eachO]
    rw [List.length_cons] at h
    rw [if_pos trivial, if_neg (by omega), eachO_all most ok vs (acc ++ [cvR (mkS v)]) (by rw [List.length_append]; simp; omega)]
    simp [cv_mkS]
theorem eachO_some (most : Int) (ok : Bool) : ∀ (vs : List PV) (acc : List S58), (acc.length : Int) ≤ most → (eachO most (eps (vs, ok)) acc).1 = (acc ++ vs.map mkR).take most.toNat
  | [], acc, h => by
    have e : (acc ++ List.map mkR []).take most.toNat = acc := by rw [List.map_nil, List.append_nil, List.take_of_length_le (by omega)]
    rw [e]
    cases ok
    · simp [eps, eachO]
    · simp [eps, eachO]
  | v :: vs, acc, h => by
    have e : eps (v :: vs, ok) = (mkS v, true) :: eps (vs, ok) := rfl
    rw [e]
    simp only [eachO]
    rw [if_pos trivial]
    by_cases h2 : (acc.length : Int) ≥ most
    · rw [if_pos h2, List.take_append_of_le_length (by omega), List.take_of_length_le (by omega)]
    · rw [if_neg h2, eachO_some most ok vs (acc ++ [cvR (mkS v)]) (by rw [List.length_append]; simp; omega)]
      simp [cv_mkS]
end Go.Proofs.YtkmkgpigmldhnaaDoor.Pr

namespace Go.Proofs.YtkmkgpigmldhnaaDoor.Pr
open Go Go.RowKit Go.Lib Go.Proofs.YtkmkgpigmldhnaaDoorW.PrintWords Go.Proofs.YtkmkgpigmldhnaaDoorW.PrintLast Go.Proofs.YtkmkgpigmldhnaaDoorW.PrintMore
open Go.Proofs.YtkmkgpigmldhnaaDoor.P
theorem told_at : pouchlaw06_told.f 40 = some true := by decide +kernel
theorem told_ev : Ev (fun k => pouchlaw06_told.f k) true := Ev.of (fun k => pouchlaw06_told.mono k) told_at
def eqR (x y : S58) : Bool := !(!(x.f0 == y.f0) || (!(x.f1 == y.f1) || (!(x.f2.toList == y.f2.toList) || !(x.f3.toList == y.f3.toList))))
def sameR : List S58 → List S58 → Bool
  | [], [] => true
  | x :: l, y :: m => eqR x y && sameR l m
  | _, _ => false
theorem sameR_len : ∀ (l m : List S58), l.length ≠ m.length → sameR l m = false
  | [], [], h => absurd rfl h
  | [], _ :: _, _ => rfl
  | _ :: _, [], _ => rfl
  | x :: l, y :: m, h => by
    rw [sameR, sameR_len l m (fun e => h (by simp [e])), Bool.and_false]
theorem eqR_refl (x : S58) : eqR x x = true := by simp [eqR]
theorem sameR_refl : ∀ (l : List S58), sameR l l = true
  | [] => rfl
  | x :: l => by rw [sameR, eqR_refl, sameR_refl l]; rfl
theorem rdR (L : List S58) (i : Nat) (h : i < L.length) : rd_T58 L (i : Int) = L[i] := by
  unfold rd_T58
  simp [List.getD, h]
theorem same_l0 (l m : List S58) (he : l.length = m.length) (hl : l.length < 4611686018427387900) : ∀ (d i : Nat), i + d = l.length → Ev (fun k => pouchref06_Same.l0 k l m (i : Int)) (sameR (l.drop i) (m.drop i))
  | 0, i, h => by
    rw [List.drop_eq_nil_of_le (by omega), List.drop_eq_nil_of_le (by omega)]
    exact Ev.step (f := fun _ => some true) (fun k => by simp only [pouchref06_Same.l0]; rw [if_neg (by omega)]) (Ev.now _)
  | d + 1, i, h => by
    have hi : i < l.length := by omega
    have hi2 : i < m.length := by omega
    rw [List.drop_eq_getElem_cons hi, List.drop_eq_getElem_cons hi2, sameR]
    have E := Aside0.mk (w64_n1 (i := i) (by omega))
    by_cases hq : eqR l[i] m[i] = true
    · rw [hq, Bool.true_and]
      refine Ev.step (f := fun k => pouchref06_Same.l0 k l m ((i + 1 : Nat) : Int)) (fun k => ?_) (same_l0 l m he hl d (i + 1) (by omega))
      simp only [pouchref06_Same.l0]
      rw [if_pos (by omega), if_pos (by omega), if_pos (by omega), rdR l i hi, rdR m i hi2, if_neg (by unfold eqR at hq; simpa using hq), E.out]
    · have hf : eqR l[i] m[i] = false := by simpa using hq
      rw [hf, Bool.false_and]
      refine Ev.step (f := fun _ => some false) (fun k => ?_) (Ev.now _)
      simp only [pouchref06_Same.l0]
      rw [if_pos (by omega), if_pos (by omega), if_pos (by omega), rdR l i hi, rdR m i hi2, if_pos (by unfold eqR at hf; rw [Bool.not_eq_eq_eq_not, Bool.not_false] at hf; exact hf)]
theorem same_ref (l m : List S58) (hl : l.length < 4611686018427387900) : Ev (fun k => pouchref06_Same.f k l m) (sameR l m) := by
  by_cases he : l.length = m.length
  · have := same_l0 l m he hl l.length 0 (by omega)
    rw [List.drop_zero, List.drop_zero] at this
    refine Ev.congr (fun k => ?_) this
    unfold pouchref06_Same.f
    rw [if_pos (by omega)]; rfl
  · rw [sameR_len l m he]
    refine now fun k => ?_
    unfold pouchref06_Same.f
    rw [if_neg (by omega)]
end Go.Proofs.YtkmkgpigmldhnaaDoor.Pr

namespace Go.Proofs.YtkmkgpigmldhnaaDoor.Pure
open Go Go.RowKit Go.Lib Go.Proofs.YtkmkgpigmldhnaaDoorW.PrintWords Go.Proofs.YtkmkgpigmldhnaaDoorW.PrintLast Go.Proofs.YtkmkgpigmldhnaaDoorW.PrintMore
open Go.Proofs.YtkmkgpigmldhnaaDoor.P Go.Proofs.YtkmkgpigmldhnaaDoor.Pr
theorem PropsEach (l0 : List Int) (a1 : Int) (_hm : l0.length ≤ maxLen) (_hy : l0.length * 1 ≤ 140737488351232) (_hw : ∀ x ∈ l0, (Lit.int .u8 x).wf = true) (_ha : (Lit.int .i64 a1).wf = true) : ∃ k, pouchlaw06_PropsEach.f k l0 a1 = some true := by
  refine Ev.rounds ?_
  obtain ⟨n, hn⟩ : ∃ n, n = mn (l0.length : Int) 300 := ⟨_, rfl⟩
  have hn0 : 0 ≤ n ∧ n ≤ (l0.length : Int) ∧ n ≤ 300 := by rw [hn]; unfold mn; split <;> omega
  obtain ⟨b, hb⟩ : ∃ b, b = l0.take n.toNat := ⟨_, rfl⟩
  have hbl : b.length ≤ 300 := by rw [hb, List.length_take]; omega
  obtain ⟨j, hj⟩ : ∃ j, j = wrap64 (Int.tmod (IntKind.u64.wrap a1) 5) := ⟨_, rfl⟩
  have hj0 : 0 ≤ j ∧ j < 5 := by
    have h1 : 0 ≤ IntKind.u64.wrap a1 := by rw [IntKind.wrap_u64]; omega
    have h2 : Int.tmod (IntKind.u64.wrap a1) 5 = IntKind.u64.wrap a1 % 5 := Int.tmod_eq_emod_of_nonneg h1
    have h3 : 0 ≤ IntKind.u64.wrap a1 % 5 ∧ IntKind.u64.wrap a1 % 5 < 5 := by omega
    rw [hj, h2, w64 (by omega) (by omega)]; exact h3
  have hs : (dl (strOfNums b)).length = b.length := by rw [dl_len, strOfNums_size]
  obtain ⟨V, hV⟩ : ∃ V, V = allV 300 (dl (strOfNums b)) := ⟨_, rfl⟩
  have hvl : V.1.length ≤ 300 := by rw [hV]; have := all_len 300 (dl (strOfNums b)) (by omega) (by omega); omega
  have h1 : Ev (fun k => eachF k (strOfNums b)) (eps V) := by rw [hV]; exact each_prog 300 _ (by omega) (by omega)
  have h2 : Ev (fun k => pouchref06_Each.f k (strOfNums b)) (V.1.map mkR, V.2) := by
    have := each_ref 300 (strOfNums b) [] (by omega) (by omega) (by simp)
    rw [List.nil_append, ← hV] at this
    exact this
  have hel : (eps V).length < 3518437208832 := by
    unfold eps
    rw [List.length_append, List.length_map]
    split <;> simp <;> omega
  have h3 : ∀ m : Int, Ev (fun k => pouchlaw06_each.f k b m) (eachO m (eps V) []) := fun m => by
    refine Ev.congr (f := fun k => (eachF k (strOfNums b)).bind fun L => if L.length < 3518437208832 then some (eachO m L []) else none) (fun k => ?_) (Ev.bind h1 (now fun k => by rw [if_pos hel]))
    unfold pouchlaw06_each.f
    rw [if_pos (by omega)]
  have ha : eachO 1000 (eps V) [] = (V.1.map mkR, V.2) := by
    have := eachO_all 1000 V.2 V.1 [] (by simp; omega)
    rwa [List.nil_append] at this
  have hc : (eachO j (eps V) []).1 = (V.1.map mkR).take j.toNat := by
    have := eachO_some j V.2 V.1 [] (by simp; omega)
    rwa [List.nil_append] at this
  have hw : ((V.1.map mkR).length : Int) ≤ 300 := by rw [List.length_map]; omega
  obtain ⟨t, ht⟩ : ∃ t, t = mn ((V.1.map mkR).length : Int) j := ⟨_, rfl⟩
  have ht0 : 0 ≤ t ∧ t ≤ ((V.1.map mkR).length : Int) ∧ (V.1.map mkR).take t.toNat = (V.1.map mkR).take j.toNat := by
    rw [ht]
    unfold mn
    by_cases h : j < ((V.1.map mkR).length : Int)
    · rw [if_pos h]; exact ⟨by omega, by omega, rfl⟩
    · rw [if_neg h]; refine ⟨by omega, by omega, ?_⟩
      rw [List.take_of_length_le (by omega), List.take_of_length_le (by omega)]
  refine Ev.congr (f := fun k => (pouchlaw06_each.f k b 1000).bind fun bt102 => (pouchref06_Each.f k (strOfNums b)).bind fun bt106 => (pouchlaw06_each.f k b j).bind fun bt110 => (pouchlaw06_told.f k).bind fun t114 => if t114 = true then (if (bt102.2 == bt106.2) = true then ((pouchref06_Same.f k bt102.1 bt106.1).bind fun t115 => if t115 = true then (if 0 ≤ mn (bt106.1.length : Int) j then (if mn (bt106.1.length : Int) j ≤ (bt106.1.length : Int) then ((pouchref06_Same.f k bt110.1 (bt106.1.take (mn (bt106.1.length : Int) j).toNat)).bind fun t120 => some t120) else none) else none) else some false) else some false) else some false) (fun k => ?_) ?_
  · unfold pouchlaw06_PropsEach.f
    rw [← hn, if_pos hn0.1, if_pos hn0.2.1, ← hb, ← hj]
  refine Ev.bind (h3 1000) (Ev.bind h2 (Ev.bind (h3 j) (Ev.bind told_ev ?_)))
  rw [ha]
  refine Ev.congr (fun k => by rw [if_pos rfl, if_pos (by simp)]) (Ev.bind (same_ref (V.1.map mkR) (V.1.map mkR) (by omega)) ?_)
  rw [sameR_refl]
  refine Ev.congr (fun k => by rw [if_pos rfl, ← ht, if_pos ht0.1, if_pos ht0.2.1]) (Ev.bind (f := fun _ t120 => some t120) (same_ref _ _ ?_) ?_)
  · rw [hc, List.length_take]; omega
  · rw [hc, ht0.2.2, sameR_refl]; exact Ev.now _
end Go.Proofs.YtkmkgpigmldhnaaDoor.Pure
