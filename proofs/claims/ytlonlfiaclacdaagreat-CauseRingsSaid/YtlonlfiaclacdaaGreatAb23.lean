/-
  CALLS FOR THE KERNEL (own work): the rules by which a function's body is written out, and the evaluator with a table of written-out functions.
-/
import Derived.Test.YtlonlfiaclacdaaGreatAb22
namespace Go.Ab
section
variable (P : Program)

abbrev runs (ev : Task → M AV) : Task → St → R AV := fun t => (ev t).run

noncomputable abbrev resF2 (rs : List ResultVar) : F → (List AV → St → R AV) → St → R AV :=
  @List.rec ResultVar (fun _ => F → (List AV → St → R AV) → St → R AV) (fun _ k s => k [] s) (fun r _ ih f k s => match r with
    | .tmp t => ih f (fun l s => k (f t :: l) s) s
    | .cell a t => kLoad P t (f a) (fun x s => ih f (fun l s => k (x :: l) s) s) s) rs

theorem resF2_eq (fr : Tr AV) : ∀ (rs : List ResultVar) (k : List AV → St → R AV) (s : St), resF2 P rs (frF fr) k s = bindRun (resultsA P fr rs).run k s
  | [], k, s => rfl
  | .tmp t :: r, k, s => by
    show resF2 P r (frF fr) (fun l s => k (frF fr t :: l) s) s = bindRun (bindRun (resultsA P fr r).run fun l => pureRun ((fr.get t).getD undefA :: l)) k s
    rw [resF2_eq fr r, bindRun_assoc]; rfl
  | .cell a t :: r, k, s => by
    show kLoad P t (frF fr a) (fun x s => resF2 P r (frF fr) (fun l s => k (x :: l) s) s) s =
      bindRun (bindRun (loadA P t ((fr.get a).getD undefA)).run fun x => bindRun (resultsA P fr r).run fun l => pureRun (x :: l)) k s
    rw [kLoad_eq, bindRun_assoc]
    congr 1; funext x s'
    rw [resF2_eq fr r, bindRun_assoc]; rfl

noncomputable abbrev retK (rs : List ResultVar) : Kx := fun x f s => @AExit.rec (fun _ => R AV) (resF2 P rs f (fun l s => .ok (tupA l) s) s) (fun _ => .fail) (resF2 P rs f (fun l s => .ok (tupA l) s) s) x

theorem call_is {ev : Task → M AV} {f : FuncId} {fn : Func} {c : Code} (hf : P.funcs[f]? = some fn) (hb : fn.body = some c) (hn : noRange c = true) {T : Ks} {nt : Nat} (args : List AV)
    (hnt : max args.length fn.ntmps = nt) (h : dF P (runs ev) nt c (retK P fn.results.toList) = T) (s : St) : (stepN P ev (.call f args)).run s = T (frF (fillTr args 0 .nil)) s := by
  subst hnt
  rw [← h]
  unfold stepN
  simp only [hf, hb]
  show bindRun (den P ev (max args.length fn.ntmps) false c (fillTr args 0 .nil)).run (fun p => M.run (match p.1 with | .exit _ => failM | _ => do
          let l ← resultsA P p.2 fn.results.toList
          pure (tupA l))) s = _
  rw [dF_eq P _ ev c _ _ s hn]
  congr 1; funext p s'
  obtain ⟨x, fr⟩ := p
  cases x with
  | normal => exact (resF2_eq P fr fn.results.toList (fun l s => .ok (tupA l) s) s').symm
  | exit id => rfl
  | ret => exact (resF2_eq P fr fn.results.toList (fun l s => .ok (tupA l) s) s').symm

/-! ### The rules -/
section
variable {P} {e : Task → St → R AV} {nt : Nat}

theorem w_seq {a b : Code} {K : Kx} {B T : Ks} (hb : dF P e nt b K = B) (ha : dF P e nt a (seqK B K) = T) : dF P e nt (.seq a b) K = T := by
  subst hb; exact ha
theorem w_block {c : Code} {id : Nat} {K : Kx} {T : Ks} (h : dF P e nt c (blockK id K) = T) : dF P e nt (.block id c) K = T := h
theorem w_scope {c : Code} {K : Kx} {T : Ks} (h : dF P e nt c K = T) : dF P e nt (.scope c) K = T := h
noncomputable abbrev condF (c : Operand) (A B : Ks) : Ks := fun f s => match valF f c with
  | some x => kIf x (A f s) (B f s)
  | none => .fail
theorem w_cond {c : Operand} {a b : Code} {K : Kx} {A B : Ks} (ha : dF P e nt a K = A) (hb : dF P e nt b K = B) : dF P e nt (.cond c a b) K = condF c A B := by
  subst ha hb; rfl
theorem w_loop {c : Code} {K : Kx} (L : Nat → Ks) (h0 : ∀ f s, L 0 f s = .fail) (hs : ∀ n, dF P e nt c (seqK (L n) K) = L (n + 1)) : dF P e nt (.loop c) K = L fuelN := by
  have key : ∀ n, loopF (fun w => dF P e nt c (seqK w K)) n = L n := by
    intro n
    induction n with
    | zero => funext f s; exact (h0 f s).symm
    | succ n ih =>
      show dF P e nt c (seqK (loopF (fun w => dF P e nt c (seqK w K)) n) K) = _
      rw [ih, hs]
  exact key fuelN
theorem w_as {c : Code} {K : Kx} {T : Ks} (J : Ks) (h : dF P e nt c K = T) (hJ : ∀ f s, T f s = J f s) : dF P e nt c K = J := by
  rw [h]; funext f s; exact hJ f s
theorem w_any {c : Code} {K : Kx} : dF P e nt c K = dF P e nt c K := rfl
end

/-- The program's only 'maps.clone' is function k. -/
def onlyAt (k : Nat) : Bool := P.funcs.toList.zipIdx.all fun p => Nat.beq p.2 k || !(p.1.body.isNone && p.1.name == "maps.clone")
theorem extOk_of_at (k : Nat) (g : Func) (hk : P.funcs[k]? = some g) (h1 : (g.name == "runtime.NumGoroutine") = false) (h2 : Extern.findNext g = none)
    (h3 : Extern.find g = some Extern.MapsClone.clone) (h : onlyAt P k = true) : ExtOk P := by
  intro f fn hfn hb hn
  by_cases hf : f = k
  · subst hf
    rw [hk] at hfn
    cases hfn
    exact ⟨h1, h2, h3⟩
  · have hm : (fn, f) ∈ P.funcs.toList.zipIdx := by
      rw [List.mem_zipIdx_iff_getElem?]
      rw [← hfn]; simp
    have := List.all_eq_true.1 h (fn, f) hm
    have hbf : Nat.beq f k = false := by
      cases hb : Nat.beq f k with
      | false => rfl
      | true => exact absurd (Nat.eq_of_beq_eq_true hb) hf
    simp [hb, hn, hbf] at this

/-! ### The table -/

/-! ### Forms that are written out -/
noncomputable def kMv (x : AV) (k : Kv) (s : St) : R AV := k x s
noncomputable def kBox (x : AV) (k : Kv) (s : St) : R AV := x.onCells fun l => kAlloc l k s
noncomputable def kNewMap (k : Kv) (s : St) : R AV := kNew (.map []) (fun r s => k (.map r) s) s

abbrev Cg := (Task → M AV) → List AV → St → R AV

structure Tbl where
  tbl : List (Nat × Cg)
  ok : ∀ f g, (f, g) ∈ tbl → ∀ ev args s, g ev args s = (stepN P ev (.call f args)).run s

noncomputable def ar0 (f : FuncId) (c : (Task → St → R AV) → St → R AV) : Cg := fun ev args s => @List.rec AV (fun _ => R AV) (c (runs ev) s) (fun _ _ _ => (stepN P ev (.call f args)).run s) args
theorem ar0_ok {f : FuncId} {c : (Task → St → R AV) → St → R AV} (h : ∀ (ev : Task → M AV) (s : St), (stepN P ev (.call f [])).run s = c (runs ev)  s) (ev : Task → M AV) (args : List AV) (s : St) : ar0 P f c ev args s = (stepN P ev (.call f args)).run s := by
  rcases args with _ | ⟨z, r⟩ <;> first | rfl | exact (h _ _).symm
noncomputable def ar1 (f : FuncId) (c : (Task → St → R AV) → AV → St → R AV) : Cg := fun ev args s => @List.rec AV (fun _ => R AV) ((stepN P ev (.call f args)).run s) (fun x0 l1 _ => @List.rec AV (fun _ => R AV) (c (runs ev) x0 s) (fun _ _ _ => (stepN P ev (.call f args)).run s) l1) args
theorem ar1_ok {f : FuncId} {c : (Task → St → R AV) → AV → St → R AV} (h : ∀ (ev : Task → M AV) (x0 : AV) (s : St), (stepN P ev (.call f [x0])).run s = c (runs ev) x0 s) (ev : Task → M AV) (args : List AV) (s : St) : ar1 P f c ev args s = (stepN P ev (.call f args)).run s := by
  rcases args with _ | ⟨x0, _ | ⟨z, r⟩⟩ <;> first | rfl | exact (h _ _ _).symm
noncomputable def ar2 (f : FuncId) (c : (Task → St → R AV) → AV → AV → St → R AV) : Cg := fun ev args s => @List.rec AV (fun _ => R AV) ((stepN P ev (.call f args)).run s) (fun x0 l1 _ => @List.rec AV (fun _ => R AV) ((stepN P ev (.call f args)).run s) (fun x1 l2 _ => @List.rec AV (fun _ => R AV) (c (runs ev) x0 x1 s) (fun _ _ _ => (stepN P ev (.call f args)).run s) l2) l1) args
theorem ar2_ok {f : FuncId} {c : (Task → St → R AV) → AV → AV → St → R AV} (h : ∀ (ev : Task → M AV) (x0 x1 : AV) (s : St), (stepN P ev (.call f [x0, x1])).run s = c (runs ev) x0 x1 s) (ev : Task → M AV) (args : List AV) (s : St) : ar2 P f c ev args s = (stepN P ev (.call f args)).run s := by
  rcases args with _ | ⟨x0, _ | ⟨x1, _ | ⟨z, r⟩⟩⟩ <;> first | rfl | exact (h _ _ _ _).symm
noncomputable def ar3 (f : FuncId) (c : (Task → St → R AV) → AV → AV → AV → St → R AV) : Cg := fun ev args s => @List.rec AV (fun _ => R AV) ((stepN P ev (.call f args)).run s) (fun x0 l1 _ => @List.rec AV (fun _ => R AV) ((stepN P ev (.call f args)).run s) (fun x1 l2 _ => @List.rec AV (fun _ => R AV) ((stepN P ev (.call f args)).run s) (fun x2 l3 _ => @List.rec AV (fun _ => R AV) (c (runs ev) x0 x1 x2 s) (fun _ _ _ => (stepN P ev (.call f args)).run s) l3) l2) l1) args
theorem ar3_ok {f : FuncId} {c : (Task → St → R AV) → AV → AV → AV → St → R AV} (h : ∀ (ev : Task → M AV) (x0 x1 x2 : AV) (s : St), (stepN P ev (.call f [x0, x1, x2])).run s = c (runs ev) x0 x1 x2 s) (ev : Task → M AV) (args : List AV) (s : St) : ar3 P f c ev args s = (stepN P ev (.call f args)).run s := by
  rcases args with _ | ⟨x0, _ | ⟨x1, _ | ⟨x2, _ | ⟨z, r⟩⟩⟩⟩ <;> first | rfl | exact (h _ _ _ _ _).symm
noncomputable def ar4 (f : FuncId) (c : (Task → St → R AV) → AV → AV → AV → AV → St → R AV) : Cg := fun ev args s => @List.rec AV (fun _ => R AV) ((stepN P ev (.call f args)).run s) (fun x0 l1 _ => @List.rec AV (fun _ => R AV) ((stepN P ev (.call f args)).run s) (fun x1 l2 _ => @List.rec AV (fun _ => R AV) ((stepN P ev (.call f args)).run s) (fun x2 l3 _ => @List.rec AV (fun _ => R AV) ((stepN P ev (.call f args)).run s) (fun x3 l4 _ => @List.rec AV (fun _ => R AV) (c (runs ev) x0 x1 x2 x3 s) (fun _ _ _ => (stepN P ev (.call f args)).run s) l4) l3) l2) l1) args
theorem ar4_ok {f : FuncId} {c : (Task → St → R AV) → AV → AV → AV → AV → St → R AV} (h : ∀ (ev : Task → M AV) (x0 x1 x2 x3 : AV) (s : St), (stepN P ev (.call f [x0, x1, x2, x3])).run s = c (runs ev) x0 x1 x2 x3 s) (ev : Task → M AV) (args : List AV) (s : St) : ar4 P f c ev args s = (stepN P ev (.call f args)).run s := by
  rcases args with _ | ⟨x0, _ | ⟨x1, _ | ⟨x2, _ | ⟨x3, _ | ⟨z, r⟩⟩⟩⟩⟩ <;> first | rfl | exact (h _ _ _ _ _ _).symm
noncomputable def ar5 (f : FuncId) (c : (Task → St → R AV) → AV → AV → AV → AV → AV → St → R AV) : Cg := fun ev args s => @List.rec AV (fun _ => R AV) ((stepN P ev (.call f args)).run s) (fun x0 l1 _ => @List.rec AV (fun _ => R AV) ((stepN P ev (.call f args)).run s) (fun x1 l2 _ => @List.rec AV (fun _ => R AV) ((stepN P ev (.call f args)).run s) (fun x2 l3 _ => @List.rec AV (fun _ => R AV) ((stepN P ev (.call f args)).run s) (fun x3 l4 _ => @List.rec AV (fun _ => R AV) ((stepN P ev (.call f args)).run s) (fun x4 l5 _ => @List.rec AV (fun _ => R AV) (c (runs ev) x0 x1 x2 x3 x4 s) (fun _ _ _ => (stepN P ev (.call f args)).run s) l5) l4) l3) l2) l1) args
theorem ar5_ok {f : FuncId} {c : (Task → St → R AV) → AV → AV → AV → AV → AV → St → R AV} (h : ∀ (ev : Task → M AV) (x0 x1 x2 x3 x4 : AV) (s : St), (stepN P ev (.call f [x0, x1, x2, x3, x4])).run s = c (runs ev) x0 x1 x2 x3 x4 s) (ev : Task → M AV) (args : List AV) (s : St) : ar5 P f c ev args s = (stepN P ev (.call f args)).run s := by
  rcases args with _ | ⟨x0, _ | ⟨x1, _ | ⟨x2, _ | ⟨x3, _ | ⟨x4, _ | ⟨z, r⟩⟩⟩⟩⟩⟩ <;> first | rfl | exact (h _ _ _ _ _ _ _).symm
noncomputable def ar6 (f : FuncId) (c : (Task → St → R AV) → AV → AV → AV → AV → AV → AV → St → R AV) : Cg := fun ev args s => @List.rec AV (fun _ => R AV) ((stepN P ev (.call f args)).run s) (fun x0 l1 _ => @List.rec AV (fun _ => R AV) ((stepN P ev (.call f args)).run s) (fun x1 l2 _ => @List.rec AV (fun _ => R AV) ((stepN P ev (.call f args)).run s) (fun x2 l3 _ => @List.rec AV (fun _ => R AV) ((stepN P ev (.call f args)).run s) (fun x3 l4 _ => @List.rec AV (fun _ => R AV) ((stepN P ev (.call f args)).run s) (fun x4 l5 _ => @List.rec AV (fun _ => R AV) ((stepN P ev (.call f args)).run s) (fun x5 l6 _ => @List.rec AV (fun _ => R AV) (c (runs ev) x0 x1 x2 x3 x4 x5 s) (fun _ _ _ => (stepN P ev (.call f args)).run s) l6) l5) l4) l3) l2) l1) args
theorem ar6_ok {f : FuncId} {c : (Task → St → R AV) → AV → AV → AV → AV → AV → AV → St → R AV} (h : ∀ (ev : Task → M AV) (x0 x1 x2 x3 x4 x5 : AV) (s : St), (stepN P ev (.call f [x0, x1, x2, x3, x4, x5])).run s = c (runs ev) x0 x1 x2 x3 x4 x5 s) (ev : Task → M AV) (args : List AV) (s : St) : ar6 P f c ev args s = (stepN P ev (.call f args)).run s := by
  rcases args with _ | ⟨x0, _ | ⟨x1, _ | ⟨x2, _ | ⟨x3, _ | ⟨x4, _ | ⟨x5, _ | ⟨z, r⟩⟩⟩⟩⟩⟩⟩ <;> first | rfl | exact (h _ _ _ _ _ _ _ _).symm
noncomputable def ar7 (f : FuncId) (c : (Task → St → R AV) → AV → AV → AV → AV → AV → AV → AV → St → R AV) : Cg := fun ev args s => @List.rec AV (fun _ => R AV) ((stepN P ev (.call f args)).run s) (fun x0 l1 _ => @List.rec AV (fun _ => R AV) ((stepN P ev (.call f args)).run s) (fun x1 l2 _ => @List.rec AV (fun _ => R AV) ((stepN P ev (.call f args)).run s) (fun x2 l3 _ => @List.rec AV (fun _ => R AV) ((stepN P ev (.call f args)).run s) (fun x3 l4 _ => @List.rec AV (fun _ => R AV) ((stepN P ev (.call f args)).run s) (fun x4 l5 _ => @List.rec AV (fun _ => R AV) ((stepN P ev (.call f args)).run s) (fun x5 l6 _ => @List.rec AV (fun _ => R AV) ((stepN P ev (.call f args)).run s) (fun x6 l7 _ => @List.rec AV (fun _ => R AV) (c (runs ev) x0 x1 x2 x3 x4 x5 x6 s) (fun _ _ _ => (stepN P ev (.call f args)).run s) l7) l6) l5) l4) l3) l2) l1) args
theorem ar7_ok {f : FuncId} {c : (Task → St → R AV) → AV → AV → AV → AV → AV → AV → AV → St → R AV} (h : ∀ (ev : Task → M AV) (x0 x1 x2 x3 x4 x5 x6 : AV) (s : St), (stepN P ev (.call f [x0, x1, x2, x3, x4, x5, x6])).run s = c (runs ev) x0 x1 x2 x3 x4 x5 x6 s) (ev : Task → M AV) (args : List AV) (s : St) : ar7 P f c ev args s = (stepN P ev (.call f args)).run s := by
  rcases args with _ | ⟨x0, _ | ⟨x1, _ | ⟨x2, _ | ⟨x3, _ | ⟨x4, _ | ⟨x5, _ | ⟨x6, _ | ⟨z, r⟩⟩⟩⟩⟩⟩⟩⟩ <;> first | rfl | exact (h _ _ _ _ _ _ _ _ _).symm
noncomputable def ar8 (f : FuncId) (c : (Task → St → R AV) → AV → AV → AV → AV → AV → AV → AV → AV → St → R AV) : Cg := fun ev args s => @List.rec AV (fun _ => R AV) ((stepN P ev (.call f args)).run s) (fun x0 l1 _ => @List.rec AV (fun _ => R AV) ((stepN P ev (.call f args)).run s) (fun x1 l2 _ => @List.rec AV (fun _ => R AV) ((stepN P ev (.call f args)).run s) (fun x2 l3 _ => @List.rec AV (fun _ => R AV) ((stepN P ev (.call f args)).run s) (fun x3 l4 _ => @List.rec AV (fun _ => R AV) ((stepN P ev (.call f args)).run s) (fun x4 l5 _ => @List.rec AV (fun _ => R AV) ((stepN P ev (.call f args)).run s) (fun x5 l6 _ => @List.rec AV (fun _ => R AV) ((stepN P ev (.call f args)).run s) (fun x6 l7 _ => @List.rec AV (fun _ => R AV) ((stepN P ev (.call f args)).run s) (fun x7 l8 _ => @List.rec AV (fun _ => R AV) (c (runs ev) x0 x1 x2 x3 x4 x5 x6 x7 s) (fun _ _ _ => (stepN P ev (.call f args)).run s) l8) l7) l6) l5) l4) l3) l2) l1) args
theorem ar8_ok {f : FuncId} {c : (Task → St → R AV) → AV → AV → AV → AV → AV → AV → AV → AV → St → R AV} (h : ∀ (ev : Task → M AV) (x0 x1 x2 x3 x4 x5 x6 x7 : AV) (s : St), (stepN P ev (.call f [x0, x1, x2, x3, x4, x5, x6, x7])).run s = c (runs ev) x0 x1 x2 x3 x4 x5 x6 x7 s) (ev : Task → M AV) (args : List AV) (s : St) : ar8 P f c ev args s = (stepN P ev (.call f args)).run s := by
  rcases args with _ | ⟨x0, _ | ⟨x1, _ | ⟨x2, _ | ⟨x3, _ | ⟨x4, _ | ⟨x5, _ | ⟨x6, _ | ⟨x7, _ | ⟨z, r⟩⟩⟩⟩⟩⟩⟩⟩⟩ <;> first | rfl | exact (h _ _ _ _ _ _ _ _ _ _).symm
noncomputable def ar9 (f : FuncId) (c : (Task → St → R AV) → AV → AV → AV → AV → AV → AV → AV → AV → AV → St → R AV) : Cg := fun ev args s => @List.rec AV (fun _ => R AV) ((stepN P ev (.call f args)).run s) (fun x0 l1 _ => @List.rec AV (fun _ => R AV) ((stepN P ev (.call f args)).run s) (fun x1 l2 _ => @List.rec AV (fun _ => R AV) ((stepN P ev (.call f args)).run s) (fun x2 l3 _ => @List.rec AV (fun _ => R AV) ((stepN P ev (.call f args)).run s) (fun x3 l4 _ => @List.rec AV (fun _ => R AV) ((stepN P ev (.call f args)).run s) (fun x4 l5 _ => @List.rec AV (fun _ => R AV) ((stepN P ev (.call f args)).run s) (fun x5 l6 _ => @List.rec AV (fun _ => R AV) ((stepN P ev (.call f args)).run s) (fun x6 l7 _ => @List.rec AV (fun _ => R AV) ((stepN P ev (.call f args)).run s) (fun x7 l8 _ => @List.rec AV (fun _ => R AV) ((stepN P ev (.call f args)).run s) (fun x8 l9 _ => @List.rec AV (fun _ => R AV) (c (runs ev) x0 x1 x2 x3 x4 x5 x6 x7 x8 s) (fun _ _ _ => (stepN P ev (.call f args)).run s) l9) l8) l7) l6) l5) l4) l3) l2) l1) args
theorem ar9_ok {f : FuncId} {c : (Task → St → R AV) → AV → AV → AV → AV → AV → AV → AV → AV → AV → St → R AV} (h : ∀ (ev : Task → M AV) (x0 x1 x2 x3 x4 x5 x6 x7 x8 : AV) (s : St), (stepN P ev (.call f [x0, x1, x2, x3, x4, x5, x6, x7, x8])).run s = c (runs ev) x0 x1 x2 x3 x4 x5 x6 x7 x8 s) (ev : Task → M AV) (args : List AV) (s : St) : ar9 P f c ev args s = (stepN P ev (.call f args)).run s := by
  rcases args with _ | ⟨x0, _ | ⟨x1, _ | ⟨x2, _ | ⟨x3, _ | ⟨x4, _ | ⟨x5, _ | ⟨x6, _ | ⟨x7, _ | ⟨x8, _ | ⟨z, r⟩⟩⟩⟩⟩⟩⟩⟩⟩⟩ <;> first | rfl | exact (h _ _ _ _ _ _ _ _ _ _ _).symm
noncomputable def ar10 (f : FuncId) (c : (Task → St → R AV) → AV → AV → AV → AV → AV → AV → AV → AV → AV → AV → St → R AV) : Cg := fun ev args s => @List.rec AV (fun _ => R AV) ((stepN P ev (.call f args)).run s) (fun x0 l1 _ => @List.rec AV (fun _ => R AV) ((stepN P ev (.call f args)).run s) (fun x1 l2 _ => @List.rec AV (fun _ => R AV) ((stepN P ev (.call f args)).run s) (fun x2 l3 _ => @List.rec AV (fun _ => R AV) ((stepN P ev (.call f args)).run s) (fun x3 l4 _ => @List.rec AV (fun _ => R AV) ((stepN P ev (.call f args)).run s) (fun x4 l5 _ => @List.rec AV (fun _ => R AV) ((stepN P ev (.call f args)).run s) (fun x5 l6 _ => @List.rec AV (fun _ => R AV) ((stepN P ev (.call f args)).run s) (fun x6 l7 _ => @List.rec AV (fun _ => R AV) ((stepN P ev (.call f args)).run s) (fun x7 l8 _ => @List.rec AV (fun _ => R AV) ((stepN P ev (.call f args)).run s) (fun x8 l9 _ => @List.rec AV (fun _ => R AV) ((stepN P ev (.call f args)).run s) (fun x9 l10 _ => @List.rec AV (fun _ => R AV) (c (runs ev) x0 x1 x2 x3 x4 x5 x6 x7 x8 x9 s) (fun _ _ _ => (stepN P ev (.call f args)).run s) l10) l9) l8) l7) l6) l5) l4) l3) l2) l1) args
theorem ar10_ok {f : FuncId} {c : (Task → St → R AV) → AV → AV → AV → AV → AV → AV → AV → AV → AV → AV → St → R AV} (h : ∀ (ev : Task → M AV) (x0 x1 x2 x3 x4 x5 x6 x7 x8 x9 : AV) (s : St), (stepN P ev (.call f [x0, x1, x2, x3, x4, x5, x6, x7, x8, x9])).run s = c (runs ev) x0 x1 x2 x3 x4 x5 x6 x7 x8 x9 s) (ev : Task → M AV) (args : List AV) (s : St) : ar10 P f c ev args s = (stepN P ev (.call f args)).run s := by
  rcases args with _ | ⟨x0, _ | ⟨x1, _ | ⟨x2, _ | ⟨x3, _ | ⟨x4, _ | ⟨x5, _ | ⟨x6, _ | ⟨x7, _ | ⟨x8, _ | ⟨x9, _ | ⟨z, r⟩⟩⟩⟩⟩⟩⟩⟩⟩⟩⟩ <;> first | rfl | exact (h _ _ _ _ _ _ _ _ _ _ _ _).symm

/-! ### Building the table -/
def Tbl.nil : Tbl P := ⟨[], fun _ _ h => by cases h⟩
def Tbl.add (T : Tbl P) (f : Nat) (g : Cg) (h : ∀ ev args s, g ev args s = (stepN P ev (.call f args)).run s) : Tbl P :=
  ⟨(f, g) :: T.tbl, fun f' g' hm => by
    cases hm with
    | head => exact h
    | tail _ hm => exact T.ok f' g' hm⟩

noncomputable def lookT (f : Nat) (l : List (Nat × Cg)) : Option Cg := @List.rec (Nat × Cg) (fun _ => Option Cg) none (fun p _ ih => ifb (Nat.beq f p.1) (some p.2) ih) l
theorem lookT_mem (f : Nat) (g : Cg) : ∀ l, lookT f l = some g → (f, g) ∈ l
  | [], h => by cases h
  | p :: l, h => by
    obtain ⟨f', g'⟩ := p
    have h' : ifb (Nat.beq f f') (some g') (lookT f l) = some g := h
    rw [ifb_eq] at h'
    cases hb : Nat.beq f f' with
    | true =>
      rw [hb] at h'
      have e := Nat.eq_of_beq_eq_true hb
      subst e
      cases h'
      exact List.mem_cons_self ..
    | false =>
      rw [hb] at h'
      exact List.mem_cons_of_mem _ (lookT_mem f g l h')

variable {P} (T : Tbl P)
noncomputable def disp (ev : Task → M AV) (t : Task) : St → R AV :=
  @Task.rec (fun _ => St → R AV) (fun f args s => onO (lookT f T.tbl) ((stepN P ev (.call f args)).run s) fun g => g ev args s) (fun l args s => (stepN P ev (.round l args)).run s) t
theorem disp_eq (ev : Task → M AV) (t : Task) : disp T ev t = (stepN P ev t).run := by
  funext s
  cases t with
  | round l args => rfl
  | call f args =>
    show onO (lookT f T.tbl) ((stepN P ev (.call f args)).run s) (fun g => g ev args s) = _
    cases h : lookT f T.tbl with
    | none => rfl
    | some g => exact T.ok f g (lookT_mem f g _ h) ev args s

noncomputable def mkM {α : Type} (x : St → R α) (y : M α) (h : x = y.run) : M α := ⟨x, by rw [h]; exact y.loc⟩
theorem mkM_eq {α : Type} (x : St → R α) (y : M α) (h : x = y.run) : mkM x y h = y := by subst h; rfl

noncomputable def evalH (n : Nat) : Task → M AV := @Nat.rec (fun _ => Task → M AV) (fun _ => failM) (fun _ ev t => mkM (disp T ev t) (stepN P ev t) (disp_eq T ev t)) n
theorem evalH_eq : ∀ n, evalH T n = evalN P n
  | 0 => by funext t; cases t <;> rfl
  | n + 1 => by
    funext t
    show mkM (disp T (evalH T n) t) (stepN P (evalH T n) t) (disp_eq T (evalH T n) t) = _
    rw [mkM_eq, evalH_eq n, evalN_step]

def AV.isTrue (x : AV) : Bool := match x with | .bool b => b | _ => false

noncomputable def evalsH (n : Nat) (f : FuncId) (avs : List AV) : Bool :=
  @R.rec AV (fun _ => Bool) false (fun v _ => v.isTrue) ((evalH T n (.call f avs)).run st0)
theorem evalsTrue_of_H {n : Nat} {f : FuncId} {avs : List AV} (h : evalsH T n f avs = true) : evalsTrue P n f avs = true := by
  unfold evalsH at h
  rw [evalH_eq] at h
  unfold evalsTrue
  cases hr : (evalN P n (.call f avs)).run st0 with
  | fail => rw [hr] at h; cases h
  | ok v s =>
    rw [hr] at h
    cases v with
    | bool b => exact h
    | _ => cases h

end
end Go.Ab
