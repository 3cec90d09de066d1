/-
  The document's Memory (own work).
-/
import Derived.Test.YtlonlfiaclacdaaPaY
import Derived.RangeFuncNested
import Derived.RangeFuncBound
import Derived.RangeFuncCalls
import Derived.RangeFuncLeaves
import Derived.OwnWalkIn
import Derived.TacticsInMore
import Derived.LoopIn
import Derived.Sort.LoopGhostIn
namespace Go.Pa
open Go Go.RowKit Go.Proofs

theorem anyN_true {f : Nat → Bool} {i k : Nat} (h : i < k) (hf : f i = true) : anyN f k = true := by
  induction k with
  | zero => omega
  | succ k ih =>
    rw [anyN, Bool.or_eq_true]
    rcases (by omega : i = k ∨ i < k) with rfl | hi
    · exact .inr hf
    · exact .inl (ih hi)

set_option maxHeartbeats 16000000 in
set_option maxRecDepth 100000 in
theorem refMemory_in (t : Tree) : ∀ (B : Nat → Prop) (p : ER) (w : World), IsExp B w p t → t.cnt ≤ 20000 → Calls Try.prog 19 #[.agg p.row] w (RetT w (isAny gMem t.pre)) := by
  induction t with
  | none =>
    intro B p w hE
    cases hE
  | node f nm k kid ih =>
    intro B p w hE hcn
    have hc : Aside (1 + sumN (fun i => (kid i).cnt) k ≤ 20000) := hcn
    cases hE with
    | mk p k ps _ hk hr =>
      obtain ⟨f, s, nm, tk, tl, n, m, ka, kl, kc, at'⟩ := p
      dsimp only [ER.ks] at hk hc ih hr ⊢
      dsimp only [ER.row]
      obtain rfl : k = kl := (kids_len hk).symm
      have hk2 : k ≤ 20000 := Nat.le_trans (Nat.le_trans (kids_cnt kid k) (Nat.le_add_left _ _)) hc.out
      have HK : Aside _ := fun h : 0 < k => kids_at hk h
      clear hk hcn
      by_cases h6 : f = 6
      · subst h6
        go_enter Try.func19, Try.ntmps19
        go_wp2
        go_ret
        have e : isAny gMem (Tree.node 6 nm k kid).pre = true := by rw [isAny_node]; rfl
        rw [e]
        exact .mk ((Nu.refl w).alloc _)
      by_cases h7 : f = 7
      · subst h7
        go_enter Try.func19, Try.ntmps19
        go_wp2
        go_ret
        have e : isAny gMem (Tree.node 7 nm k kid).pre = true := by rw [isAny_node]; rfl
        rw [e]
        exact .mk ((Nu.refl w).alloc _)
      by_cases h8 : f = 8
      · subst h8
        go_enter Try.func19, Try.ntmps19
        go_wp2
        go_ret
        have e : isAny gMem (Tree.node 8 nm k kid).pre = true := by rw [isAny_node]; rfl
        rw [e]
        exact .mk ((Nu.refl w).alloc _)
      by_cases h12 : f = 12
      · subst h12
        go_enter Try.func19, Try.ntmps19
        go_wp2
        go_ret
        have e : isAny gMem (Tree.node 12 nm k kid).pre = true := by rw [isAny_node]; rfl
        rw [e]
        exact .mk ((Nu.refl w).alloc _)
      have e6 : (f == 6) = false := by simp [h6]
      have e7 : (f == 7) = false := by simp [h7]
      have e8 : (f == 8) = false := by simp [h8]
      have e12 : (f == 12) = false := by simp [h12]
      go_enter Try.func19, Try.ntmps19
      go_wp2_with (fail)
      refine (isCall_in f _).mono ?_
      rintro _ _ ⟨rfl, rfl⟩
      generalize hg : gCall f = gb
      cases gb
      case true =>
        go_wp2
        go_ret
        have e : isAny gMem (Tree.node f nm k kid).pre = true := by rw [isAny_node]; simp [gMem, hg]
        rw [e]
        exact .mk ((Nu.refl w).alloc _)
      case false =>
        have HG : gMem f = false := by simp [gMem, e6, e7, e8, e12, hg]
        go_wp2
        go_loopg [2, 3, 4] k (fun kx s2 s3 s4 wr => ∃ i : Nat, s3 = .int .i64 (i : Int) ∧ i ≤ k ∧ k - i ≤ kx ∧ Aside (anyN (fun i => isAny gMem (kid i).pre) i = false ∧ Nu (w.alloc (.cells #[.int .i64 f, .int .i64 s, .string nm, .int .i64 tk, .int .i64 tl, .int .i64 n, .int .i64 m, .slice ka k kc, .int .i64 at'] 45)) wr))
        case atStart => exact ⟨0, rfl, by omega, by omega, rfl, Nu.refl _⟩
        case round =>
          obtain ⟨i, rfl, hik, hix, A⟩ := hrel
          have B0 : wr.heap[w.heap.size]? = some (.cells #[.int .i64 f, .int .i64 s, .string nm, .int .i64 tk, .int .i64 tl, .int .i64 n, .int .i64 m, .slice ka k kc, .int .i64 at'] 45 (0, 0)) := nu_block A.out.2 (alloc_self w _)
          obtain ⟨hc0, hf0⟩ := row_cells B0
          have hl0 := lt_of_block B0
          clear B0
          rcases Nat.lt_or_ge i k with hlt | hge
          · have hlt' : (i : Int) < k := by omega
            obtain ⟨b, cb, hks, hcc⟩ := HK.out (by omega)
            obtain ⟨rfl, rfl⟩ : ka = some ⟨b, 0, none⟩ ∧ kc = cb := by injection hks with h1 h2 h3; exact ⟨h1, h3⟩
            obtain ⟨q, hq⟩ : ∃ q, ps i = q := ⟨_, rfl⟩
            have hkn : Nu w wr := ((Nu.refl w).alloc _).trans A.out.2
            have hEq : IsExp B wr q (kid i) := by rw [← hq]; exact (hr i (by omega)).nu hkn
            obtain ⟨k0, k1, k2, k3, k4, k5, k6, k7, k8⟩ := kid_cells hcc (by omega) hq
            have hb : b < w.heap.size := lt_of_cell k0
            have tr : ∀ o v, w.cell? ⟨b, o, none⟩ = some v → wr.cell? ⟨b, o, none⟩ = some v := fun o v h => (hkn.cell hb).trans h
            replace k0 := tr _ _ k0
            replace k1 := tr _ _ k1
            replace k2 := tr _ _ k2
            replace k3 := tr _ _ k3
            replace k4 := tr _ _ k4
            replace k5 := tr _ _ k5
            replace k6 := tr _ _ k6
            replace k7 := tr _ _ k7
            replace k8 := tr _ _ k8
            have hbl : b < wr.heap.size := lt_of_cell k0
            have hcnt : (kid i).cnt ≤ 20000 := Nat.le_trans (Nat.le_trans (kid_cnt kid (by omega : i < k)) (Nat.le_add_left _ _)) hc.out
            have hcall := ih i B q wr hEq hcnt
            obtain ⟨f2, s2, nm2, tk2, tl2, n2, m2, ka2, kl2, kc2, at2⟩ := q
            dsimp only at k0 k1 k2 k3 k4 k5 k6 k7 k8
            have HC : Aside (Calls Try.prog 19 #[.agg #[.int .i64 f2, .int .i64 s2, .string nm2, .int .i64 tk2, .int .i64 tl2, .int .i64 n2, .int .i64 m2, .slice ka2 kl2 kc2, .int .i64 at2]] wr (RetT wr (isAny gMem (kid i).pre))) := hcall
            clear hcall hEq tr hcc hks hq
            generalize hg2 : isAny gMem (kid i).pre = g2 at HC
            go_wp2_with (fail)
            refine HC.out.mono ?_
            rintro _ w2 @⟨_, hk2⟩
            have hN2 : Aside _ := A.out.2.trans hk2
            clear hk2
            cases g2
            · go_wp2
              go_roundg (k - (i + 1))
              case measure => omega
              case rel => exact ⟨i + 1, by go_num, by omega, by omega, by rw [anyN, A.out.1, hg2]; rfl, hN2.out⟩
            · go_wp2
              go_ret
              have e : isAny gMem (Tree.node f nm k kid).pre = true := by rw [isAny_node, anyN_true (f := fun i => isAny gMem (kid i).pre) hlt hg2, Bool.or_true]
              rw [e]
              exact .mk (((Nu.refl w).alloc _).trans hN2.out)
          · have hge' : ¬ (i : Int) < k := by omega
            obtain rfl : i = k := by omega
            go_wp2
            go_ret
            have e : isAny gMem (Tree.node f nm i kid).pre = false := by rw [isAny_node, A.out.1, HG]; rfl
            rw [e]
            exact .mk (((Nu.refl w).alloc _).trans A.out.2)
end Go.Pa

namespace Go.Pa
open Go Go.RowKit Go.Proofs
attribute [local go_sem] Oper.semAt_some

/-- The box Lb, and the block that the list in it lies in. -/
def Wr (Lb : Nat) (A : World) (k : Nat) : Prop := k = Lb ∨ ∃ n c, A.cell? ⟨Lb, 0, none⟩ = some (.slice (some ⟨k, 0, none⟩) n c)
structure WrOk (Lb : Nat) (A : World) : Prop where
  lt : Lb < A.heap.size
  ok : ∀ k, Wr Lb A k → k < A.heap.size
/-- What a round keeps: every block of cells but those two. -/
structure Kp (Lb : Nat) (A B : World) : Prop where
  size : A.heap.size ≤ B.heap.size
  ok : WrOk Lb A → WrOk Lb B
  same : ∀ k o, A.heap[k]? = some o → o.isCells = true → ¬ Wr Lb A k → B.heap[k]? = some o ∧ ¬ Wr Lb B k
theorem Kp.refl (Lb : Nat) (A : World) : Kp Lb A A := ⟨Nat.le_refl _, id, fun _ _ h _ hn => ⟨h, hn⟩⟩
theorem Kp.trans {Lb : Nat} {A B C : World} (h : Kp Lb A B) (k : Kp Lb B C) : Kp Lb A C :=
  ⟨Nat.le_trans h.size k.size, fun o => k.ok (h.ok o), fun i o hi hc hn => k.same i o (h.same i o hi hc hn).1 hc (h.same i o hi hc hn).2⟩
theorem wr_cell {Lb : Nat} {A B : World} (h : B.cell? ⟨Lb, 0, none⟩ = A.cell? ⟨Lb, 0, none⟩) (k : Nat) : Wr Lb B k ↔ Wr Lb A k := by unfold Wr; rw [h]
theorem lt_get {A : World} {k : Nat} {o : Obj} (h : A.heap[k]? = some o) : k < A.heap.size := (Array.getElem?_eq_some_iff.1 h).1
theorem Kp.alloc {Lb : Nat} {A : World} (h : Lb < A.heap.size) (o : Obj) : Kp Lb A (A.alloc o) := by
  have hc : (A.alloc o).cell? ⟨Lb, 0, none⟩ = A.cell? ⟨Lb, 0, none⟩ := World.cell?_of_block (w := A) (Below.heap_alloc A o _ h)
  refine ⟨by simp, fun k => ⟨by have := k.lt; simp; omega, fun i hi => by have := k.ok i ((wr_cell hc i).1 hi); simp; omega⟩, fun i u hi _ hn => ⟨(Below.heap_alloc A o _ (lt_get hi)).trans hi, fun hw => hn ((wr_cell hc i).1 hw)⟩⟩
/-- A new block is none of the two. -/
theorem WrOk.new {Lb : Nat} {A : World} (h : WrOk Lb A) (o : Obj) : ¬ Wr Lb (A.alloc o) A.heap.size := fun hw => by
  have hc : (A.alloc o).cell? ⟨Lb, 0, none⟩ = A.cell? ⟨Lb, 0, none⟩ := World.cell?_of_block (w := A) (Below.heap_alloc A o _ h.lt)
  have := h.ok _ ((wr_cell hc _).1 hw)
  omega

theorem cells_of {w : World} {b o : Nat} {v : Value} (h : w.cell? ⟨b, o, none⟩ = some v) : ∃ u, w.heap[b]? = some u ∧ u.isCells = true := by
  unfold World.cell? at h
  split at h
  · rename_i c t f hb
    exact ⟨_, hb, rfl⟩
  · cases h
theorem KidsAt.cells {B : Nat → Prop} {w : World} {v : Value} {k : Nat} {ps : Nat → ER} (h : KidsAt B w v k ps) : KidsAt (fun b => B b ∧ ∃ u, w.heap[b]? = some u ∧ u.isCells = true) w v k ps := by
  rcases h with h | ⟨b, c, h1, h2, h3⟩
  · exact .inl h
  · rcases Nat.eq_zero_or_pos k with rfl | hk
    · exact .inl ⟨rfl, _, _, h1⟩
    · exact .inr ⟨b, c, h1, ⟨h2, cells_of ((h3 0 hk 0 (by omega)).trans rfl)⟩, h3⟩
theorem IsExp.cells {B : Nat → Prop} {w : World} {p : ER} {t : Tree} (h : IsExp B w p t) : IsExp (fun b => B b ∧ ∃ u, w.heap[b]? = some u ∧ u.isCells = true) w p t := by
  induction h with
  | mk p k ps ts hk hr ih => exact .mk p k ps ts hk.cells ih
theorem IsExp.kp {Lb : Nat} {A B : World} {p : ER} {t : Tree} (h : IsExp (fun b => ¬ Wr Lb A b) A p t) (k : Kp Lb A B) : IsExp (fun b => ¬ Wr Lb B b) B p t := by
  have hk : ∀ b, (¬ Wr Lb A b ∧ ∃ u, A.heap[b]? = some u ∧ u.isCells = true) → B.heap[b]? = A.heap[b]? ∧ ¬ Wr Lb B b := fun b ⟨h1, u, h2, h3⟩ => ⟨(k.same b u h2 h3 h1).1.trans h2.symm, (k.same b u h2 h3 h1).2⟩
  exact (h.cells.frame fun b hb _ => (hk b hb).1).mono fun b hb => (hk b hb).2
theorem exp_open {B : Nat → Prop} {w : World} {p : ER} {f : Int} {nm : ByteArray} {k : Nat} {kid : Nat → Tree} (h : IsExp B w p (.node f nm k kid)) : f = p.f ∧ nm = p.nm ∧ ∃ ps, KidsAt B w p.ks k ps ∧ ∀ i, i < k → IsExp B w (ps i) (kid i) := by
  cases h with
  | mk p k ps _ hk hr => exact ⟨rfl, rfl, ps, hk, hr⟩
theorem catN_prefix {α : Type} (f : Nat → List α) {i k : Nat} (h : i ≤ k) : catN f i <+: catN f k := by
  induction k with
  | zero =>
    obtain rfl : i = 0 := by omega
    exact List.prefix_refl _
  | succ k ih =>
    rcases (by omega : i = k + 1 ∨ i ≤ k) with rfl | hi
    · exact List.prefix_refl _
    · exact (ih hi).trans (List.prefix_append _ _)

theorem sumN_mono (f : Nat → Nat) {i k : Nat} (h : i ≤ k) : sumN f i ≤ sumN f k := by
  induction k with
  | zero =>
    obtain rfl : i = 0 := by omega
    exact Nat.le_refl _
  | succ k ih =>
    rcases (by omega : i = k + 1 ∨ i ≤ k) with rfl | hi
    · exact Nat.le_refl _
    · rw [sumN]
      have := ih hi
      omega

/-- What is looked at of a part. -/
def ER.key (p : ER) : Int × ByteArray := (p.f, p.nm)

/-- What parts hands back. -/
inductive PartsR (Lb : Nat) (J Jx : List ER → World → Prop) (pre : List ER) (W : World) (l : List (Int × ByteArray)) : Ending → World → Prop
  | all (xs : List ER) {W' : World} (hx : xs.map ER.key = l) (hj : J (pre ++ xs) W') (hk : Kp Lb W W') : PartsR Lb J Jx pre W l (.returned (.bool true)) W'
  | cut (xs : List ER) {W' : World} (hx : xs.map ER.key <+: l) (hj : Jx (pre ++ xs) W') : PartsR Lb J Jx pre W l (.returned (.bool false)) W'
/-- What a round hands back. -/
inductive RoundR (Lb : Nat) (J Jx : List ER → World → Prop) (pre : List ER) (x : ER) (W : World) : Ending → World → Prop
  | on {W' : World} (hj : J (pre ++ [x]) W') (hk : Kp Lb W W') : RoundR Lb J Jx pre x W (.returned (.bool true)) W'
  | off {W' : World} (hj : Jx (pre ++ [x]) W') : RoundR Lb J Jx pre x W (.returned (.bool false)) W'

set_option maxHeartbeats 16000000 in
set_option maxRecDepth 100000 in
theorem parts_in (Lb l N : Nat) (J Jx : List ER → World → Prop) (hJ : ∀ s A o, J s A → J s (A.alloc o))
    (hY : ∀ m pre x A, J pre A → WrOk Lb A → pre.length < N → YieldAt Fence.wide m Try.prog l #[.agg x.row] A (RoundR Lb J Jx pre x A)) (t : Tree) :
    ∀ (n : Nat) (p : ER) (pre : List ER) (W : World), IsExp (fun b => ¬ Wr Lb W b) W p t → J pre W → WrOk Lb W → pre.length + t.cnt ≤ N → t.cnt ≤ 20000 →
      CallsIn Fence.wide n Try.prog 35 #[.agg p.row, .func (.yield l) #[] #[]] W (PartsR Lb J Jx pre W t.pre) := by
  induction t with
  | none =>
    intro n p pre W hE
    cases hE
  | node f nm k kid ih =>
    intro n p pre W hE hj hok hN hcn
    have hc : Aside (1 + sumN (fun i => (kid i).cnt) k ≤ 20000) := hcn
    have hN1 : Aside (pre.length + (1 + sumN (fun i => (kid i).cnt) k) ≤ N) := hN
    obtain ⟨rfl, rfl, ps0, hk0, hr0⟩ := exp_open hE
    have hkl := kids_len hk0
    have hk2 : k ≤ 20000 := Nat.le_trans (Nat.le_trans (kids_cnt kid k) (Nat.le_add_left _ _)) hc.out
    have hK0 : Kp Lb W (W.alloc (.cells p.row 45)) := Kp.alloc hok.lt _
    have hyy := hY (n - 1) pre p (W.alloc (.cells p.row 45)) (hJ _ _ _ hj) (hK0.ok hok) (by have := hN1.out; omega)
    have HE : Aside _ := hE
    have HB : Aside (¬ Wr Lb (W.alloc (.cells p.row 45)) W.heap.size) := hok.new _
    have HO : Aside _ := hok
    clear hr0 hE hk0 hj hok hN hcn ps0
    obtain ⟨f, s, nm, tk, tl, nn, m, ka, kl, kc, at'⟩ := p
    dsimp only [ER.row] at hyy hkl HE HB hK0
    dsimp only [ER.row]
    obtain rfl : k = kl := hkl.symm
    have HK0 : Aside _ := hK0
    clear hK0
    obtain ⟨fn, tmps, assign, body, hy, hR⟩ := hyy
    refine callsIn_of_wp Try.func35 rfl trivial ?_ rfl
    simp only [Try.ntmps35, List.size_toArray, List.length_cons, List.length_nil, Nat.reduceAdd, Nat.reduceSub, Array.replicate_succ, Array.replicate_zero, List.push_toArray, List.append_toArray, List.nil_append, List.cons_append]
    gi_wp2
    refine ⟨fun h => by simp [Fence.wide] at h, hR.mono ?_⟩
    clear hy hR
    rintro _ W1 hT
    cases hT with
    | off hx =>
      gi_wp2
      go_ret
      exact .cut [⟨f, s, nm, tk, tl, nn, m, ka, k, kc, at'⟩] (by rw [Tree.pre]; exact ⟨_, rfl⟩) hx
    | on hj1 hk1 =>
      have B1 : W1.heap[W.heap.size]? = some (.cells #[.int .i64 f, .int .i64 s, .string nm, .int .i64 tk, .int .i64 tl, .int .i64 nn, .int .i64 m, .slice ka k kc, .int .i64 at'] 45 (0, 0)) := (hk1.same _ _ (alloc_self W _) rfl HB.out).1
      have HX : Aside (Kp Lb W W1) := HK0.out.trans hk1
      have HB1 : Aside (¬ Wr Lb W1 W.heap.size) := (hk1.same _ _ (alloc_self W _) rfl HB.out).2
      have HJ1 : Aside _ := hj1
      obtain ⟨hc1, hf1⟩ := row_cells B1
      have hl1 := lt_of_block B1
      clear hj1 hk1 B1
      gi_wp2
      gi_loopg [4, 6, 14] k (fun kx s4 s6 s14 wr => ∃ (i : Nat) (xs : List ER), s14 = .int .i64 (i : Int) ∧ i ≤ k ∧ k - i ≤ kx ∧ Aside (xs.map ER.key = (f, nm) :: catN (fun i => (kid i).pre) i ∧ J (pre ++ xs) wr ∧ Kp Lb W wr))
      case atStart => exact ⟨0, [⟨f, s, nm, tk, tl, nn, m, ka, k, kc, at'⟩], rfl, by omega, by omega, rfl, HJ1.out, HX.out⟩
      case round =>
        clear HX HJ1
        obtain ⟨i, xs, rfl, hik, hix, A⟩ := hrel
        rcases Nat.lt_or_ge i k with hlt | hge
        · have hlt' : (i : Int) < k := by omega
          obtain ⟨_, _, ps, hk, hr⟩ := exp_open (HE.out.kp A.out.2.2)
          obtain ⟨b, cb, hks, hcc⟩ := kids_at hk (by omega)
          dsimp only [ER.ks] at hks
          obtain ⟨rfl, rfl⟩ : ka = some ⟨b, 0, none⟩ ∧ kc = cb := by injection hks with h1 h2 h3; exact ⟨h1, h3⟩
          obtain ⟨q, hq⟩ : ∃ q, ps i = q := ⟨_, rfl⟩
          have hEq : IsExp (fun b => ¬ Wr Lb wr b) wr q (kid i) := by rw [← hq]; exact hr i hlt
          obtain ⟨k0, k1, k2, k3, k4, k5, k6, k7, k8⟩ := kid_cells hcc hlt hq
          have hbl : b < wr.heap.size := lt_of_cell k0
          have hcnt : (kid i).cnt ≤ 20000 := Nat.le_trans (Nat.le_trans (kid_cnt kid hlt) (Nat.le_add_left _ _)) hc.out
          have hokr : WrOk Lb wr := A.out.2.2.ok HO.out
          have hka : Kp Lb wr (wr.alloc (.cells q.row 45)) := Kp.alloc hokr.lt _
          have hlen : (pre ++ xs).length + (kid i).cnt ≤ N := by
            have h1 : xs.length = 1 + (catN (fun i => (kid i).pre) i).length := by rw [← List.length_map (f := ER.key), A.out.1, List.length_cons]; omega
            have h2 := catN_length (fun i => (kid i).pre) (fun i => (kid i).cnt) i fun i _ => (kid i).pre_length
            have h3 := hN1.out
            have h4 : sumN (fun i => (kid i).cnt) (i + 1) ≤ sumN (fun i => (kid i).cnt) k := sumN_mono _ hlt
            rw [sumN] at h4
            rw [List.length_append]
            omega
          have hcall := ih i (n - 1) q (pre ++ xs) (wr.alloc (.cells q.row 45)) (hEq.kp hka) (hJ _ _ _ A.out.2.1) (hka.ok hokr) hlen hcnt
          obtain ⟨f2, s2, nm2, tk2, tl2, n2, m2, ka2, kl2, kc2, at2⟩ := q
          dsimp only at k0 k1 k2 k3 k4 k5 k6 k7 k8
          dsimp only [ER.row] at hcall hka
          have HC : Aside (CallsIn Fence.wide (n - 1) Try.prog 35 #[.agg #[.int .i64 f2, .int .i64 s2, .string nm2, .int .i64 tk2, .int .i64 tl2, .int .i64 n2, .int .i64 m2, .slice ka2 kl2 kc2, .int .i64 at2], .func (.yield l) #[] #[]] (wr.alloc (.cells #[.int .i64 f2, .int .i64 s2, .string nm2, .int .i64 tk2, .int .i64 tl2, .int .i64 n2, .int .i64 m2, .slice ka2 kl2 kc2, .int .i64 at2] 45)) (PartsR Lb J Jx (pre ++ xs) (wr.alloc (.cells #[.int .i64 f2, .int .i64 s2, .string nm2, .int .i64 tk2, .int .i64 tl2, .int .i64 n2, .int .i64 m2, .slice ka2 kl2 kc2, .int .i64 at2] 45)) (kid i).pre)) := hcall
          have HKA : Aside _ := A.out.2.2.trans hka
          clear hcall hEq hcc hks hlen hq hokr hk hr hka
          gi_wp2_with (fail)
          refine ⟨trivial, fun h => by simp [Fence.wide] at h, HC.out.mono ?_⟩
          rintro _ W2 hT
          cases hT with
          | all xs2 hx2 hj2 hk2 =>
            have A2 : Aside ((xs ++ xs2).map ER.key = (f, nm) :: catN (fun i => (kid i).pre) (i + 1) ∧ J (pre ++ (xs ++ xs2)) W2 ∧ Kp Lb W W2) := by
              refine ⟨by rw [List.map_append, A.out.1, hx2, catN, List.cons_append], by rw [← List.append_assoc]; exact hj2, HKA.out.trans hk2⟩
            clear hx2 hj2 hk2
            gi_wp2
            gi_roundg (k - (i + 1))
            case measure => omega
            case rel => exact ⟨i + 1, xs ++ xs2, by go_num, by omega, by omega, A2⟩
          | cut xs2 hx2 hj2 =>
            have hpx : (xs ++ xs2).map ER.key <+: (Tree.node f nm k kid).pre := by
              rw [List.map_append, A.out.1, Tree.pre, List.cons_append]
              have h1 : catN (fun i => (kid i).pre) i ++ xs2.map ER.key <+: catN (fun i => (kid i).pre) (i + 1) := by
                rw [catN]
                exact (List.prefix_append_right_inj _).2 hx2
              exact (List.prefix_cons_inj _).2 (h1.trans (catN_prefix _ hlt))
            have HP : Aside _ := hpx
            have HJ2 : Aside (Jx (pre ++ (xs ++ xs2)) W2) := by rw [← List.append_assoc]; exact hj2
            clear hx2 hj2 hpx
            gi_wp2
            go_ret
            exact .cut _ HP.out HJ2.out
        · have hge' : ¬ (i : Int) < k := by omega
          obtain rfl : i = k := by omega
          gi_wp2
          go_ret
          exact .all xs (by rw [A.out.1, Tree.pre]) A.out.2.1 A.out.2.2
end Go.Pa

namespace Go.Pa
open Go Go.RowKit Go.Proofs
attribute [local go_sem] Oper.semAt_some

/-- What use or call hands back. -/
inductive PickR (g : Int → Bool) (p : ER) (w : World) : Ending → World → Prop
  | yes (h : g p.f = true) : PickR g p w (.returned (.tuple #[.string p.nm, .bool true])) (w.alloc (.cells p.row 45))
  | no (h : g p.f = false) : PickR g p w (.returned (.tuple #[.string ⟨#[]⟩, .bool false])) (w.alloc (.cells p.row 45))

set_option maxHeartbeats 4000000 in
set_option maxRecDepth 100000 in
theorem use_in (p : ER) (w : World) : Calls Try.prog 23 #[.agg p.row] w (PickR gUse p w) := by
  obtain ⟨f, s, nm, tk, tl, n, m, ka, kl, kc, at'⟩ := p
  dsimp only [ER.row]
  by_cases h2 : f = 2
  · subst h2
    go_enter Try.func23, Try.ntmps23
    go_wp2
    go_ret2
    exact .yes (p := ⟨2, s, nm, tk, tl, n, m, ka, kl, kc, at'⟩) rfl
  by_cases h9 : f = 9
  · subst h9
    go_enter Try.func23, Try.ntmps23
    go_wp2
    go_ret2
    exact .yes (p := ⟨9, s, nm, tk, tl, n, m, ka, kl, kc, at'⟩) rfl
  by_cases h10 : f = 10
  · subst h10
    go_enter Try.func23, Try.ntmps23
    go_wp2
    go_ret2
    exact .yes (p := ⟨10, s, nm, tk, tl, n, m, ka, kl, kc, at'⟩) rfl
  have e2 : (f == 2) = false := by simp [h2]
  have e9 : (f == 9) = false := by simp [h9]
  have e10 : (f == 10) = false := by simp [h10]
  go_enter Try.func23, Try.ntmps23
  go_wp2
  go_ret2
  exact .no (p := ⟨f, s, nm, tk, tl, n, m, ka, kl, kc, at'⟩) (by simp [gUse, e2, e9, e10])

set_option maxHeartbeats 4000000 in
set_option maxRecDepth 100000 in
theorem call_part (p : ER) (w : World) : Calls Try.prog 24 #[.agg p.row] w (PickR gCall p w) := by
  obtain ⟨f, s, nm, tk, tl, n, m, ka, kl, kc, at'⟩ := p
  dsimp only [ER.row]
  by_cases h13 : f = 13
  · subst h13
    go_enter Try.func24, Try.ntmps24
    go_wp2
    go_ret2
    exact .yes (p := ⟨13, s, nm, tk, tl, n, m, ka, kl, kc, at'⟩) rfl
  by_cases h14 : f = 14
  · subst h14
    go_enter Try.func24, Try.ntmps24
    go_wp2
    go_ret2
    exact .yes (p := ⟨14, s, nm, tk, tl, n, m, ka, kl, kc, at'⟩) rfl
  by_cases h18 : f = 18
  · subst h18
    go_enter Try.func24, Try.ntmps24
    go_wp2
    go_ret2
    exact .yes (p := ⟨18, s, nm, tk, tl, n, m, ka, kl, kc, at'⟩) rfl
  by_cases h19 : f = 19
  · subst h19
    go_enter Try.func24, Try.ntmps24
    go_wp2
    go_ret2
    exact .yes (p := ⟨19, s, nm, tk, tl, n, m, ka, kl, kc, at'⟩) rfl
  have e13 : (f == 13) = false := by simp [h13]
  have e14 : (f == 14) = false := by simp [h14]
  have e18 : (f == 18) = false := by simp [h18]
  have e19 : (f == 19) = false := by simp [h19]
  go_enter Try.func24, Try.ntmps24
  go_wp2
  go_ret2
  exact .no (p := ⟨f, s, nm, tk, tl, n, m, ka, kl, kc, at'⟩) (by simp [gCall, e13, e14, e18, e19])

set_option maxHeartbeats 4000000 in
set_option maxRecDepth 100000 in
theorem Parts_in (p : ER) (w : World) : Calls Try.prog 26 #[.agg p.row] w fun e w' => e = .returned (.func (.func 34) #[] #[.pointer (some ⟨w.heap.size, 0, none⟩)]) ∧ w' = w.alloc (.cells p.row 45) := by
  obtain ⟨f, s, nm, tk, tl, n, m, ka, kl, kc, at'⟩ := p
  dsimp only [ER.row]
  go_enter Try.func26, Try.ntmps26
  go_wp2
  go_ret
  exact ⟨rfl, rfl⟩

theorem round_any {m m' : Nat} {P : Program} {l : Nat} {f : FuncId} {tmps : Array Value} {assign body : Code} {w : World} {R : Ending → World → Prop}
    (h : RoundIn Fence.wide m P l f tmps assign body w R) : RoundIn Fence.wide m' P l f tmps assign body w R := ⟨h.1, fun c cs _ => h.2 c cs (fun d h => by cases h)⟩
theorem yield_any {m : Nat} (m' : Nat) {P : Program} {l : Nat} {args : Array Value} {W : World} {R : Ending → World → Prop} (h : YieldAt Fence.wide m P l args W R) : YieldAt Fence.wide m' P l args W R := by
  obtain ⟨fn, tmps, assign, body, hy, hR⟩ := h
  exact ⟨fn, tmps, assign, body, hy, round_any hR⟩

theorem Kp.of_below {Lb : Nat} {w W : World} (h : Below w.heap.size w W) (hok : WrOk Lb w) : Kp Lb w W := by
  have hc : W.cell? ⟨Lb, 0, none⟩ = w.cell? ⟨Lb, 0, none⟩ := World.cell?_of_block (w := w) (h.block Lb hok.lt)
  exact ⟨h.size, fun _ => ⟨Nat.lt_of_lt_of_le hok.lt h.size, fun k hk => Nat.lt_of_lt_of_le (hok.ok k ((wr_cell hc k).1 hk)) h.size⟩, fun k o hk _ hn => ⟨(h.block k (lt_get hk)).trans hk, fun hw => hn ((wr_cell hc k).1 hw)⟩⟩

set_option maxHeartbeats 8000000 in
set_option maxRecDepth 100000 in
/-- Parts hands the parts one by one. -/
theorem parts_seq (n Lb N Bt : Nat) (p : ER) (t : Tree) (w : World) (hB : w.heap[Bt]? = some (.cells p.row 45 (0, 0))) (hE : IsExp (fun b => ¬ Wr Lb w b) w p t) (hok : WrOk Lb w) (hN : t.cnt ≤ N) (hc : t.cnt ≤ 20000) :
    SeqStopsK Fence.wide n Try.prog 34 #[.pointer (some ⟨Bt, 0, none⟩)] (fun x : ER => #[.agg x.row]) (Kp Lb) (fun ys => ys.map ER.key = t.pre) (fun pre => pre.map ER.key <+: t.pre) N w := by
  intro l J Jx W hW hJ hJx hY h0
  have hk := Kp.of_below hW hok
  have hBt := lt_get hB
  have hBW : W.heap[Bt]? = some (.cells p.row 45 (0, 0)) := (hW.block Bt hBt).trans hB
  have hcall := parts_in Lb l N J Jx (fun s A o h => hJ s A (A.alloc o) none h (World.grownBy_alloc A o none) (fun r e => by cases e))
    (fun m pre x A h _ hl => yield_any m ((hY pre x A h hl).mono fun e B hh => by
      rcases hh with ⟨rfl, h1, h2⟩ | ⟨rfl, h1⟩
      · exact .on h1 h2
      · exact .off h1)) t (n - 1) p [] W (hE.kp hk) h0 (hk.ok hok) (by simpa using hN) hc
  obtain ⟨hc1, hf1⟩ := row_cells hBW
  have hl1 := lt_of_block hBW
  obtain ⟨f, s, nm, tk, tl, nn, m, ka, kl, kc, at'⟩ := p
  dsimp only [ER.row] at hcall hc1 hf1
  have HC : Aside (CallsIn Fence.wide (n - 1) Try.prog 35 #[.agg #[.int .i64 f, .int .i64 s, .string nm, .int .i64 tk, .int .i64 tl, .int .i64 nn, .int .i64 m, .slice ka kl kc, .int .i64 at'], .func (.yield l) #[] #[]] W (PartsR Lb J Jx [] W t.pre)) := hcall
  clear hcall hBW hB hE hk hY h0
  refine callsIn_of_wp Try.func34 rfl trivial ?_ rfl
  simp only [Try.ntmps34, List.size_toArray, List.length_cons, List.length_nil, Nat.reduceAdd, Nat.reduceSub, Array.replicate_succ, Array.replicate_zero, List.push_toArray, List.append_toArray, List.nil_append, List.cons_append]
  gi_wp2_with (fail)
  refine ⟨trivial, fun h => by simp [Fence.wide] at h, HC.out.mono ?_⟩
  rintro _ W2 hT
  cases hT with
  | all xs hx hj hk2 =>
    gi_wp2
    go_end0
    exact ⟨⟨_, rfl⟩, .inl ⟨_, hx, hj⟩⟩
  | cut xs hx hj =>
    gi_wp2
    go_end0
    exact ⟨⟨_, rfl⟩, .inr ⟨_, hx, hj⟩⟩
end Go.Pa
