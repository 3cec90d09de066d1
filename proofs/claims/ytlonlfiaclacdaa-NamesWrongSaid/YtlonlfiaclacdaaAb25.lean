/-
  FUNCTIONS THAT ARE ANSWERED BY A CONTRACT (own work): a table of functions with an answer of their own (a run of the evaluator's monad), each proved to be the model's.
-/
import Derived.Test.YtlonlfiaclacdaaAb24
namespace Go.Ab
section
variable (P : Program)

structure Nats where
  tab : List (Nat × (List AV → Option (M AV)))
  ok : ∀ f g args x, (f, g) ∈ tab → g args = some x → ∀ s v s', x.run s = .ok v s' → ∀ m w cargs, Rel m s.heap.get w → VRs m args cargs → Fresh s s' →
    CallsIn Fence.wide 0 P f cargs.toArray w (Back m w s' v)

noncomputable def lookN (f : Nat) (l : List (Nat × (List AV → Option (M AV)))) : Option (List AV → Option (M AV)) :=
  @List.rec (Nat × (List AV → Option (M AV))) (fun _ => Option (List AV → Option (M AV))) none (fun p _ ih => ifb (Nat.beq f p.1) (some p.2) ih) l
theorem lookN_mem (f : Nat) (g : List AV → Option (M AV)) : ∀ l, lookN f l = some g → (f, g) ∈ l
  | [], h => by cases h
  | p :: l, h => by
    obtain ⟨f', g'⟩ := p
    have h' : ifb (Nat.beq f f') (some g') (lookN f l) = some g := h
    rw [ifb_eq] at h'
    cases hb : Nat.beq f f' with
    | true =>
      rw [hb] at h'
      have e := Nat.eq_of_beq_eq_true hb
      subst e
      cases h'
      exact List.mem_cons_self ..
    | false =>
      rw [hb] at h'
      exact List.mem_cons_of_mem _ (lookN_mem f g l h')

variable {P} (T : Tbl P) (K : Memo P) (N : Nats P)

noncomputable def askN (t : Task) : Option (M AV) := @Task.rec (fun _ => Option (M AV)) (fun f args => onO (lookN f N.tab) none fun g => g args) (fun _ _ => none) t
theorem askN_some {t : Task} {x : M AV} (h : askN N t = some x) : ∃ f g args, t = .call f args ∧ (f, g) ∈ N.tab ∧ g args = some x := by
  cases t with
  | round l args => cases h
  | call f args =>
    have h' : onO (lookN f N.tab) none (fun g => g args) = some x := h
    cases hl : lookN f N.tab with
    | none => rw [hl] at h'; cases h'
    | some g => rw [hl] at h'; exact ⟨f, g, args, rfl, lookN_mem f g _ hl, h'⟩

noncomputable def stepX (ev : Task → M AV) (t : Task) : M AV := match askN N t with
  | some x => x
  | none => stepM K ev t

theorem stepX_ok (hext : ExtOk P) {ev : Task → M AV} (hev : EvOk P ev) : EvOk P (stepX K N ev) := by
  have hs := stepM_ok K hext hev
  refine ⟨fun f args s v s' h m w cargs hr ha hf => ?_, fun l args s v s' h m w cargs hr ha hf B t e hm => ?_⟩
  · unfold stepX at h
    cases hk : askN N (.call f args) with
    | none => rw [hk] at h; exact hs.call f args s v s' h m w cargs hr ha hf
    | some x =>
      rw [hk] at h
      obtain ⟨f', g, args', he, h1, h2⟩ := askN_some N hk
      cases he
      exact N.ok f g args x h1 h2 s v s' h m w cargs hr ha hf
  · unfold stepX at h
    exact hs.round l args s v s' h m w cargs hr ha hf B t e hm

noncomputable def dispX (ev : Task → M AV) (t : Task) : St → R AV := onO (askN N t) (dispM T K ev t) fun x => x.run
theorem dispX_eq (ev : Task → M AV) (t : Task) : dispX T K N ev t = (stepX K N ev t).run := by
  unfold dispX stepX
  cases askN N t with
  | none => exact dispM_eq T K ev t
  | some v => rfl

noncomputable def evalX (n : Nat) : Task → M AV := @Nat.rec (fun _ => Task → M AV) (fun _ => failM) (fun _ ev t => mkM (dispX T K N ev t) (stepX K N ev t) (dispX_eq T K N ev t)) n
theorem evalX_ok (hext : ExtOk P) : ∀ n, EvOk P (evalX T K N n)
  | 0 => ⟨fun f args s v s' h => (fail_ok h).elim, fun l args s v s' h => (fail_ok h).elim⟩
  | n + 1 => by
    have h := stepX_ok K N hext (evalX_ok hext n)
    have e : evalX T K N (n + 1) = stepX K N (evalX T K N n) := by
      funext t
      show mkM (dispX T K N (evalX T K N n) t) (stepX K N (evalX T K N n) t) (dispX_eq T K N (evalX T K N n) t) = _
      rw [mkM_eq]
    rw [e]; exact h

noncomputable def evalsX (n : Nat) (f : FuncId) (avs : List AV) : Bool :=
  @R.rec AV (fun _ => Bool) false (fun v _ => v.isTrue) ((evalX T K N n (.call f avs)).run st0)

theorem calls_of_evalsX (hext : ExtOk P) {n : Nat} {f : FuncId} {avs : List AV} {cargs : List Value} {w : World} (h : evalsX T K N n f avs = true)
    (ha : VRs (fun _ _ => none) avs cargs) : Calls P f cargs.toArray w fun e w' => e = .returned (.bool true) ∧ Go.RowKit.Grown w w' := by
  unfold evalsX at h
  cases hr : (evalX T K N n (.call f avs)).run st0 with
  | fail => rw [hr] at h; cases h
  | ok v s1 =>
    rw [hr] at h
    have hv : v = .bool true := by cases v <;> first | (cases h; done) | (rename_i b; cases b <;> first | rfl | cases h)
    subst hv
    have hc := (evalX_ok T K N hext n).call f avs st0 _ s1 hr _ w cargs (Rel.empty w) ha (fun b _ _ => rfl)
    refine (callsIn_wide (n := 0)).1 (hc.mono ?_)
    rintro e w' ⟨m', v', rfl, he, _, hv⟩
    cases hv
    exact ⟨rfl, he.grown⟩
end
end Go.Ab
