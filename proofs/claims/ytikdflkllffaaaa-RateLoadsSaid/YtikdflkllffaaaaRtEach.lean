/-
  The sums of the costs (own work): sums.add and each.
-/
import Derived.Test.YtikdflkllffaaaaRtTable
namespace Go.Rt
open Go Go.RowKit Go.Proofs Go.Shelf
attribute [local go_sem] Oper.semAt_some

/-- What has been added to a tick. -/
def sumAt (cs : Nat → Int) (pre : List T) (t : Int) : Int := (pre.map fun x => if x.1 = t then cs x.2.toNat else 0).sum
theorem sumAt_snoc (cs : Nat → Int) (pre : List T) (x : T) (t : Int) : sumAt cs (pre ++ [x]) t = sumAt cs pre t + (if x.1 = t then cs x.2.toNat else 0) := by
  simp [sumAt, List.sum_append]
/-- The sum over the clocks of which P holds. -/
def sumIf (cs : Nat → Int) (P : Nat → Bool) : Nat → Int
  | 0 => 0
  | m + 1 => sumIf cs P m + (if P m then cs m else 0)
theorem sumIf_congr {cs : Nat → Int} {P Q : Nat → Bool} : ∀ {m : Nat}, (∀ c, c < m → P c = Q c) → sumIf cs P m = sumIf cs Q m
  | 0, _ => rfl
  | m + 1, h => by simp only [sumIf]; rw [sumIf_congr (fun c hc => h c (by omega)), h m (by omega)]
theorem sumIf_insert {cs : Nat → Int} {P Q : Nat → Bool} {c0 : Nat} (h0 : P c0 = false) (hq : ∀ c, Q c = (P c || decide (c = c0))) : ∀ {m : Nat}, c0 < m → sumIf cs Q m = sumIf cs P m + cs c0
  | 0, h => by omega
  | m + 1, h => by
    simp only [sumIf]
    by_cases e : c0 = m
    · subst e
      rw [sumIf_congr (P := Q) (Q := P) (m := c0) (fun c hc => by rw [hq]; simp; omega), hq, h0]
      simp
    · rw [sumIf_insert h0 hq (show c0 < m by omega), hq m]
      have : decide (m = c0) = false := decide_eq_false (fun h => e h.symm)
      rw [this, Bool.or_false]
      omega
theorem sumAt_nodup {cs : Nat → Int} {m : Nat} {t : Int} : ∀ {xs : List T}, xs.Nodup → (∀ x ∈ xs, 0 ≤ x.2 ∧ x.2 < m) → sumAt cs xs t = sumIf cs (fun c => decide ((t, (c : Int)) ∈ xs)) m
  | [], _, _ => by
    have : ∀ k, sumIf cs (fun c => decide ((t, (c : Int)) ∈ ([] : List T))) k = 0 := fun k => by
      induction k with
      | zero => rfl
      | succ k ih => simp only [sumIf, ih]; simp
    rw [this]; rfl
  | x :: xs, hn, hx => by
    obtain ⟨hn1, hn2⟩ := List.nodup_cons.1 hn
    have ih := sumAt_nodup (cs := cs) (m := m) (t := t) hn2 (fun y hy => hx y (List.mem_cons_of_mem _ hy))
    have hx0 := hx x (List.mem_cons_self ..)
    have e : sumAt cs (x :: xs) t = (if x.1 = t then cs x.2.toNat else 0) + sumAt cs xs t := by simp [sumAt]
    rw [e, ih]
    by_cases h1 : x.1 = t
    · have hxx : x = (t, ((x.2.toNat : Nat) : Int)) := Prod.ext h1 (by simp; omega)
      rw [if_pos h1, sumIf_insert (P := fun c => decide ((t, (c : Int)) ∈ xs)) (Q := fun c => decide ((t, (c : Int)) ∈ x :: xs)) (c0 := x.2.toNat) (by rw [← hxx]; simpa using hn1) (fun c => ?_) (by omega)]
      · omega
      · rw [Bool.eq_iff_iff]
        simp only [decide_eq_true_eq, List.mem_cons, Bool.or_eq_true]
        constructor
        · rintro (h | h)
          · right
            have := congrArg Prod.snd h
            simp only at this
            omega
          · exact .inl h
        · rintro (h | h)
          · exact .inr h
          · left; subst h; exact hxx.symm
    · rw [if_neg h1]
      have := sumIf_congr (cs := cs) (m := m) (P := fun c => decide ((t, (c : Int)) ∈ x :: xs)) (Q := fun c => decide ((t, (c : Int)) ∈ xs)) (fun c _ => by
        rw [Bool.eq_iff_iff]
        simp only [decide_eq_true_eq, List.mem_cons]
        constructor
        · rintro (h | h)
          · exact absurd (congrArg Prod.fst h).symm h1
          · exact h
        · exact .inr)
      rw [this]; omega

def CLst (N : Nat) (ao : Option Addr) (k : Nat) (cs : Nat → Int) (w : World) : Prop :=
  0 < k → ∃ b o, ao = some ⟨b, o, none⟩ ∧ b < N ∧ ∀ j, j < k → w.cell? ⟨b, o + j, none⟩ = some (.int .i64 (cs j))
theorem CLst.below {N : Nat} {ao : Option Addr} {k : Nat} {cs : Nat → Int} {w w' : World} (h : CLst N ao k cs w) (hb : Below N w w') : CLst N ao k cs w' := fun hm => by
  obtain ⟨b, o, e, h1, h2⟩ := h hm
  exact ⟨b, o, e, h1, fun j hj => (hb.cell (p := ⟨b, o + j, none⟩) h1).trans (h2 j hj)⟩

theorem wrap_add (a b : Int) : wrap64 (wrap64 a + b) = wrap64 (a + b) := by unfold wrap64; omega

set_option maxHeartbeats 4000000 in
set_option maxRecDepth 100000 in
theorem add_in {g L cap t : Nat} {v x : Int} {w : World} {f : Nat → Value} (hr : w.rowIs g 3 L f) (ht : t < L) (hv : f t = .int .i64 v) :
    Calls Try.prog 21 #[.slice (some ⟨g, 0, none⟩) L cap, .int .i64 t, .int .i64 x] w fun e w' => e = .returned (.tuple #[]) ∧ w.setCell ⟨g, t, none⟩ (.int .i64 (wrap64 (v + x))) = w' := by
  have hc := hr.cell ht
  rw [hv] at hc
  have hf := hr.frozen t
  have ht' : (t : Int) < L := by omega
  clear hr hv
  go_enter Try.func21, Try.ntmps21
  go_wp2
  go_end0
  exact ⟨rfl, rfl⟩

/-- What each leaves of the sums. -/
structure Sm (w : World) (g L : Nat) (N bc bd : Nat) (co : Option Addr) (k cc : Nat) (cs : Nat → Int) (pre : List T) (W : World) : Prop where
  row : W.rowIs g 3 L (fun t => .int .i64 (wrap64 (sumAt cs pre t)))
  costs : W.cell? ⟨bc, 0, none⟩ = some (.slice co k cc)
  fn : W.cell? ⟨bd, 0, none⟩ = some (.func (.func 21) #[.slice (some ⟨g, 0, none⟩) L L] #[])
  list : CLst N co k cs W
  size : w.heap.size ≤ W.heap.size
  keep : ∀ j, j < w.heap.size → j ≠ g → W.heap[j]? = w.heap[j]?
  os : W.os = w.os
  output : W.output = w.output
  tape : W.tape = w.tape
theorem Sm.of_below {w A B : World} {g L N M bc bd : Nat} {co : Option Addr} {k cc : Nat} {cs : Nat → Int} {pre : List T} (h : Sm w g L N bc bd co k cc cs pre A) (hg : g < M) (hc : bc < M) (hd : bd < M) (hN : N ≤ M) (hw : w.heap.size ≤ M) (hb : Below M A B) : Sm w g L N bc bd co k cc cs pre B :=
  ⟨h.row.of_block (hb.block _ hg), (hb.cell (p := ⟨bc, 0, none⟩) hc).trans h.costs, (hb.cell (p := ⟨bd, 0, none⟩) hd).trans h.fn, h.list.below (hb.mono hN), Nat.le_trans h.size hb.size,
    fun j hj hne => (hb.block j (by omega)).trans (h.keep j hj hne), hb.os.trans h.os, hb.output.trans h.output, hb.tape.trans h.tape⟩
theorem Sm.step {w W : World} {g L N bc bd : Nat} {co : Option Addr} {k cc : Nat} {cs : Nat → Int} {pre : List T} (h : Sm w g L N bc bd co k cc cs pre W) (hc : bc ≠ g) (hd : bd ≠ g) (hn : ∀ b o, co = some ⟨b, o, none⟩ → b ≠ g) {t c : Nat} (q : Nat) :
    Sm w g L N bc bd co k cc cs (pre ++ [((t : Int), (c : Int))]) ((W.setCell ⟨g, t, none⟩ (.int .i64 (wrap64 (wrap64 (sumAt cs pre t) + cs c)))).drewN q) := by
  have cell : ∀ b o, b ≠ g → ((W.setCell ⟨g, t, none⟩ (.int .i64 (wrap64 (wrap64 (sumAt cs pre t) + cs c)))).drewN q).cell? ⟨b, o, none⟩ = W.cell? ⟨b, o, none⟩ := fun b o hb =>
    World.cell?_of_block (w := W) (a := ⟨b, o, none⟩) (Below.heap_setCell _ _ _ _ hb)
  refine ⟨?_, (cell _ _ hc).trans h.costs, (cell _ _ hd).trans h.fn, fun hk => ?_, ?_, fun j hj hne => (Below.heap_setCell W _ _ _ hne).trans (h.keep j hj hne), h.os, h.output, h.tape⟩
  · have := h.row.set t (.int .i64 (wrap64 (wrap64 (sumAt cs pre t) + cs c)))
    have h2 : ((W.setCell ⟨g, t, none⟩ (.int .i64 (wrap64 (wrap64 (sumAt cs pre t) + cs c)))).drewN q).rowIs g 3 L (fun j => if j = t then .int .i64 (wrap64 (wrap64 (sumAt cs pre t) + cs c)) else .int .i64 (wrap64 (sumAt cs pre j))) := this
    refine h2.congr (fun i _ => ?_)
    simp only [sumAt_snoc, Int.toNat_natCast]
    by_cases e : i = t
    · subst e; simp only [if_true]; rw [wrap_add]
    · have e' : ¬ (t : Int) = (i : Int) := by omega
      rw [if_neg e, if_neg e', Int.add_zero]
  · obtain ⟨b, o, e, h1, h2⟩ := h.list hk
    exact ⟨b, o, e, h1, fun j hj => (cell _ _ (hn b o e)).trans (h2 j hj)⟩
  · show w.heap.size ≤ (W.setCell _ _).heap.size
    simpa [World.setCell] using h.size
end Go.Rt
