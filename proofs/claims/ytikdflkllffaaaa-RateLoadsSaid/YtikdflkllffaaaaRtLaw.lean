/-
  A loop over an iterator that keeps state of its own in cells (own work, after the kit's law of ranges over functions): what the iterator keeps lies in blocks laid since the loop began; what the body writes lay ahead of it.
-/
import Derived.RangeFuncWrites
namespace Go.Rt
open Go Go.RowKit

variable {n : Nat} {P : Program}

/-- Whatever lay in A lies as it lay, but the blocks of R. -/
structure KeepsBut (R : Nat → Prop) (A B : World) : Prop where
  size : A.heap.size ≤ B.heap.size
  same : ∀ k, k < A.heap.size → ¬ R k → B.heap[k]? = A.heap[k]?
theorem KeepsBut.refl (R : Nat → Prop) (A : World) : KeepsBut R A A := ⟨Nat.le_refl _, fun _ _ _ => rfl⟩
theorem KeepsBut.trans {R : Nat → Prop} {A B C : World} (h : KeepsBut R A B) (k : KeepsBut R B C) : KeepsBut R A C :=
  ⟨Nat.le_trans h.size k.size, fun i hi hr => (k.same i (Nat.lt_of_lt_of_le hi h.size) hr).trans (h.same i hi hr)⟩
theorem KeepsBut.setCell {R : Nat → Prop} {A B : World} (h : KeepsBut R A B) {p : Addr} (hp : R p.block) (u : Value) : KeepsBut R A (B.setCell p u) :=
  h.trans ⟨by simp [World.setCell], fun k _ hr => Below.heap_setCell _ _ _ _ (fun e => hr (e ▸ hp))⟩
theorem KeepsBut.alloc {R : Nat → Prop} {A B : World} (h : KeepsBut R A B) (o : Obj) : KeepsBut R A (B.alloc o) :=
  h.trans ⟨by simp, fun k hk _ => Below.heap_alloc _ _ _ hk⟩
theorem KeepsBut.mono {R R' : Nat → Prop} {A B : World} (h : KeepsBut R A B) (hr : ∀ k, R k → R' k) : KeepsBut R' A B := ⟨h.size, fun k hk hn => h.same k hk (fun e => hn (hr k e))⟩
theorem KeepsBut.from {R : Nat → Prop} {A B : World} (h : KeepsBut R A B) {N : Nat} (hr : ∀ k, R k → k < N) : KeepsFrom N A B :=
  ⟨h.size, fun k o hN hk _ => (h.same k (Array.getElem?_eq_some_iff.1 hk).1 (fun e => by have := hr k e; omega)).trans hk⟩
theorem KeepsBut.cell {R : Nat → Prop} {A B : World} (h : KeepsBut R A B) {p : Addr} (hp : p.block < A.heap.size) (hr : ¬ R p.block) : B.cell? p = A.cell? p := World.cell?_of_block (w := A) (h.same _ hp hr)
theorem KeepsBut.frozen {R : Nat → Prop} {A B : World} (h : KeepsBut R A B) {p : Addr} (hp : p.block < A.heap.size) (hr : ¬ R p.block) : B.frozen? p = A.frozen? p := World.frozen?_of_block (w := A) (h.same _ hp hr)

/-- THE ITERATOR's CONTRACT: g, called with whatever loop body, hands it xs one by one. -/
def Runs {α : Type} (n : Nat) (P : Program) (g : Nat) (lb : Array Value) (encs : α → Array Value) (Wr : Nat → Prop) (S : List α → Prop) (w : World) : Prop :=
  ∀ (l : Nat) (J : List α → World → Prop) (W : World), Below w.heap.size w W → w.heap.size ≤ l → l < W.heap.size →
    (∀ pre A B, J pre A → Below W.heap.size A B → J pre B) →
    (∀ pre x A, J pre A → W.heap.size ≤ A.heap.size → YieldAt Fence.wide (n - 1) P l (encs x) A fun e B => e = .returned (.bool true) ∧ J (pre ++ [x]) B ∧ KeepsBut (fun k => Wr k ∨ k = l) A B) →
    J [] W →
    CallsIn Fence.wide n P g (#[.func (.yield l) #[] #[]] ++ lb) W fun e W' => (∃ v, e = .returned v) ∧ ∃ xs, S xs ∧ J xs W'

/-- HOW THE BODY OF A ROUND IS LEFT. -/
def bodyLeaves {α : Type} (Wr : Nat → Prop) (I : List α → World → Prop) (xs : List α) (W : World) : Exit → Act → World → Prop
  | .normal, _, W' => KeepsBut Wr W W' ∧ I xs W'
  | _, _, _ => False

theorem wpIn_rangeFunc_runs {α : Type} {g : Operand} {ps : Array Tmp} {assign body : Code} {Q : Exit → Act → World → Prop} {a : Act} {w : World}
    {gf : Nat} {lb : Array Value} (hg : a.eval g = .func (.func gf) #[] lb) (eg : ∀ args w, (callFunc gf args).run P w = .ok (.enter gf args) w)
    {encs : α → Array Value} {Wr : Nat → Prop} {S : List α → Prop} (hseq : Runs (n - 1) P gf lb encs Wr S w) (hWr : ∀ k, Wr k → k < w.heap.size) (hps : ∀ x, (encs x).size = ps.size)
    (I : List α → World → Prop) (hI : ∀ pre A B, I pre A → Below w.heap.size A B → I pre B) (h0 : I [] w) (Ax : α → Act → World → Prop)
    (hAx : ∀ (x : α) (a : Act) (W : World) (l : Nat) (o o' : Obj), Ax x a W → W.heap[l]? = some o → o.isCells = false → Ax x a (W.putObj l o'))
    (hassign : ∀ (l : Nat) (pre : List α) (x : α) (W : World), I pre W → w.heap.size ≤ W.heap.size →
      assign.wpIn (Fence.wide.inRound l) (n - 1 - 1) P (Exit.then (fun a' W' => KeepsBut Wr W W' ∧ I pre W' ∧ Ax x a' W') (fun _ _ _ => False)) { tmps := (ps.zip (encs x)).foldl (fun t (p, v) => t.setIfInBounds p v) a.tmps, defers := [] } W)
    (hbody : ∀ (l : Nat) (pre : List α) (x : α) (a' : Act) (W : World), I pre W → Ax x a' W → w.heap.size ≤ W.heap.size → body.wpIn (Fence.wide.inRound l) (n - 1 - 1) P (bodyLeaves Wr I (pre ++ [x]) W) a' W)
    (hdone : ∀ (D : Nat) (xs : List α) (W : World), w.heap.size ≤ D → S xs → I xs W → W.heap[D]? = some (.deferred (some [])) → Q .normal { a with defers := { target := .collected D, args := #[] } :: a.defers } W) :
    (Code.rangeFunc g ps assign body).wpIn Fence.wide n P Q a w := by
  refine wpIn_rangeFunc ?_
  intro fn hfn
  obtain ⟨rec, hrec⟩ : ∃ rec : LoopState → Option Code → Loop, rec = fun st pe => { state := st, pending := pe, fn, tmps := a.tmps, params := ps, assign, body, defers := w.heap.size } := ⟨_, rfl⟩
  obtain ⟨W1, hW1⟩ : ∃ W1, (w.alloc (.deferred (some []))).alloc (.loop (rec .ready none)) = W1 := ⟨_, rfl⟩
  have hL1 : W1.heap[w.heap.size + 1]? = some (.loop (rec .ready none)) := by
    rw [← hW1]; have := World.alloc_heap_new (w.alloc (.deferred (some []))) (.loop (rec .ready none)); rwa [World.size_alloc] at this
  have hK1 : W1.heap[w.heap.size]? = some (.deferred (some [])) := by
    rw [← hW1]; exact (Below.heap_alloc _ _ _ (by simp)).trans (World.alloc_heap_new w _)
  have hb1 : Below w.heap.size w W1 := by
    rw [← hW1]; exact ((Below.refl _ w).alloc (Nat.le_refl _) _).alloc (by simp) _
  have hI1 : I [] W1 := hI _ _ _ h0 hb1
  have hs1 : W1.heap.size = w.heap.size + 2 := by rw [← hW1]; simp
  have bput : ∀ (A : World) (o : Obj), Below w.heap.size A (A.putObj (w.heap.size + 1) o) := fun A o => by
    have hg := grownBy_putObj' A (w.heap.size + 1) o
    exact ⟨hg.os, hg.tape, hg.output, hg.size, fun k hk => World.putObj_heap_other (by omega)⟩
  refine ⟨w.heap.size + 1, [{ target := .collected w.heap.size, args := #[] }], W1, { target := .fn (.func gf) lb, args := #[.func (.yield (w.heap.size + 1)) #[] #[]] }, W1, gf,
    #[.func (.yield (w.heap.size + 1)) #[] #[]] ++ lb, W1, ?_, ?_, ?_, ?_, fun _ => ?_, ?_⟩
  · rw [← hW1, hrec]; exact run_enterLoop_outer _ _ _ _ _
  · simp only [resolve, hg]
    simp [go_sem]
  · intro _ _; trivial
  · simp [invoke, go_sem, eg]
  · simp [Fence.wide] at *
  · -- THE ITERATOR's CONTRACT, AT THE CALLER's INVARIANT WITH THE TWO FACTS OF BOOK-KEEPING BESIDE IT
    refine (hseq (w.heap.size + 1)
      (fun pre W => I pre W ∧ W.heap[w.heap.size + 1]? = some (.loop (rec .ready none)) ∧ W.heap[w.heap.size]? = some (.deferred (some [])))
      W1 hb1 (by omega) (by omega)
      (fun s A B hs hg' => ⟨hI s A B hs.1 (hg'.mono (by omega)), (hg'.block _ (by omega)).trans hs.2.1, (hg'.block _ (by omega)).trans hs.2.2⟩)
      ?_ ⟨hI1, hL1, hK1⟩).mono ?_
    · -- ONE ROUND
      rintro pre x W ⟨hi, hl, hk⟩ hsz
      have hlt : w.heap.size + 1 < W.heap.size := (Array.getElem?_eq_some_iff.1 hl).1
      have hy := run_yield (P := P) (args := encs x) hl (by rw [hrec]; exact hps x)
      rw [hrec] at hy
      refine ⟨fn, _, assign, body, hy, roundIn_of_wpIn hfn (wpIn_mono (hassign (w.heap.size + 1) pre x W hi (by omega)) ?_)⟩
      have kput : ∀ (A : World) (o : Obj), KeepsBut (fun k => Wr k ∨ k = w.heap.size + 1) A (A.putObj (w.heap.size + 1) o) := fun A o =>
        ⟨(grownBy_putObj' A _ o).size, fun k _ hr => World.putObj_heap_other (fun e => hr (.inr e))⟩
      intro e a' W' hp
      refine match e, hp with
        | .normal, hp => ?_
        | .ret, hp => hp.elim
        | .exit id, hp => hp.elim
        | .goto t, hp => hp.elim
        | .panic ch, hp => hp.elim
        | .outgrown, hp => hp.elim
      obtain ⟨hk', hi', hx'⟩ := hp
      have hkf' := hk'.from hWr
      have hl' := hkf'.same _ _ (by omega) hl rfl
      have hkk' := hkf'.same _ _ (Nat.le_refl _) hk rfl
      have hlt' : w.heap.size + 1 < W'.heap.size := (Array.getElem?_eq_some_iff.1 hl').1
      refine ⟨_, run_beginRound hl' (by rw [hrec]), ?_⟩
      have hl2 : (W'.putObj (w.heap.size + 1) (.loop { rec .ready none with state := .busy })).heap[w.heap.size + 1]? = some (.loop { rec .ready none with state := .busy }) := World.putObj_heap_same hlt'
      have hk2 : (W'.putObj (w.heap.size + 1) (.loop { rec .ready none with state := .busy })).heap[w.heap.size]? = some (.deferred (some [])) := (World.putObj_heap_other (by omega)).trans hkk'
      refine wpIn_mono (hbody _ pre x _ _ (hI _ _ _ hi' (bput _ _)) (hAx _ _ _ _ _ _ hx' hl' rfl) (by simp; omega)) ?_
      rintro e a3 W3 hp
      cases e with
      | normal =>
        obtain ⟨hk3, hi3⟩ := hp
        have hkf := hk3.from hWr
        have hl3 := hkf.same _ _ (by omega) hl2 rfl
        have hr := run_endRound (P := P) none hl3
        rw [hrec] at hr
        refine ⟨_, _, hr, rfl, ⟨hI _ _ _ hi3 (bput _ _), ?_, (World.putObj_heap_other (by omega)).trans (hkf.same _ _ (Nat.le_refl _) hk2 rfl)⟩, (((hk'.mono fun _ => .inl).trans (kput _ _)).trans (hk3.mono fun _ => .inl)).trans (kput _ _)⟩
        rw [hrec]
        exact World.putObj_heap_same (Array.getElem?_eq_some_iff.1 hl3).1
      | ret => exact hp.elim
      | exit id => exact hp.elim
      | goto t => exact hp.elim
      | panic ch => exact hp.elim
      | outgrown => exact hp.elim
    · -- BEHIND THE ITERATOR
      rintro e W2 ⟨⟨v, rfl⟩, xs, hS, hi, hl, hk⟩
      exact ⟨none, _, by have := run_endLoop (P := P) hl (by rw [hrec]; simp); rw [hrec] at this; exact this, hdone _ xs _ (Nat.le_refl _) hS (hI _ _ _ hi (bput _ _)) ((World.putObj_heap_other (by omega)).trans hk)⟩
end Go.Rt
