/-
  CODE (own work).
-/
import Derived.Test.YtlonlfiaclacdaaAb15
import Derived.RangeFuncLeaves
namespace Go.Ab

section
variable {P : Program} {ev : Task → M AV}

/-! ### The marks of ranges over functions -/

/-- The deferred calls of an activation are marks of blocks of its own, shut to all else. -/
def DOk (base : Nat) (m : Inj) (w : World) : List Deferred → Prop
  | [] => True
  | d :: ds => (∃ r, d = { target := .collected r, args := #[] } ∧ base ≤ r ∧ w.heap[r]? = some (.deferred (some [])) ∧ (∀ b u t e, m b u ≠ some (r, t, e)) ∧ ∀ d' ∈ ds, d' ≠ d) ∧ DOk base m w ds

theorem DOk.ext {base : Nat} {m m' : Inj} {w w' : World} (h : Ext m w m' w') : ∀ {ds : List Deferred}, DOk base m w ds → DOk base m' w' ds
  | [], _ => trivial
  | d :: ds, ⟨⟨r, h1, h2, h3, h4, h5⟩, h6⟩ => by
    have hlt : r < w.heap.size := (Array.getElem?_eq_some_iff.1 h3).1
    refine ⟨⟨r, h1, h2, by rw [h.same r hlt h4]; exact h3, fun b u t e hm => ?_, h5⟩, DOk.ext h h6⟩
    rcases h.img _ _ _ _ _ hm with ⟨b', u', t', e', h'⟩ | h'
    · exact h4 _ _ _ _ h'
    · omega

/-- How the evaluator's way out reads. -/
def exitOf : AExit → Exit
  | .normal => .normal
  | .exit id => .exit id
  | .ret => .ret

theorem stepR_scope {b : Frame} {a : Act} {k : List Item} {cs : List Frame} {w : World} {c : Code} :
    step P (lone (b.atR a (.code (.scope c) :: k)) cs w) = .next (lone (b.atR a (.code c :: .inScope c :: k)) cs w) :=
  step_lone_go (by simp [stepG, stepG.exec, Frame.atR])
theorem stepR_inScope {b : Frame} {a : Act} {k : List Item} {cs : List Frame} {w : World} {c : Code} : step P (lone (b.atR a (.inScope c :: k)) cs w) = .next (lone (b.atR a k) cs w) :=
  step_lone_go (by simp [stepG, stepG.exec, Frame.atR])

theorem wpIn_scope {F : Fence} {n : Nat} {c : Code} {Q : Exit → Act → World → Prop} {a : Act} {w : World} (h : c.wpIn F n P (fun e a w => (∀ l, e ≠ .goto l) ∧ Q e a w) a w) : (Code.scope c).wpIn F n P Q a w := by
  intro b k cs hro hb hr
  have h0 : (lone (b.atR a (.code (.scope c) :: k)) cs w).fenced P F := fenced_calm hb hr rfl
  obtain ⟨e, a₁, w₁, ⟨hng, hq⟩, harr⟩ := h b (.inScope c :: k) cs hro hb hr
  cases e with
  | normal => exact ⟨.normal, a₁, w₁, hq, .head h0 stepR_scope (StepsIn.trans harr (.one (fenced_calm hb hr rfl) stepR_inScope))⟩
  | exit id =>
    have hx : exitTo id (.inScope c :: k) = exitTo id k := by simp [exitTo]
    exact ⟨.exit id, a₁, w₁, hq, fun k' hk => .head h0 stepR_scope (harr.1 k' (by rw [hx]; exact hk)),
      fun hr' hk => let ⟨k₁, h1, h2⟩ := harr.2 hr' (by rw [hx]; exact hk); ⟨k₁, h1, .head h0 stepR_scope h2⟩⟩
  | goto l => exact absurd rfl (hng l)
  | ret => exact ⟨_, a₁, w₁, hq, .of_steps (.one h0 stepR_scope) harr⟩
  | panic ch => exact ⟨_, a₁, w₁, hq, .of_steps (.one h0 stepR_scope) harr⟩
  | outgrown => exact ⟨_, a₁, w₁, hq, .of_steps (.one h0 stepR_scope) harr⟩

/-- A loop's rounds, one at a time. -/
def RoundsIn (F : Fence) (n : Nat) (P : Program) (c : Code) (Q : Exit → Act → World → Prop) (a : Act) (w : World) : Prop :=
  ∀ (b : Frame) (k : List Item) (cs : List Frame), b.roundOf = F.round → F.fn b.fn → F.room (cs.length + 1 + n) →
    ∃ e a' w', Q e a' w' ∧ ArrivesIn (Machine.fenced P F) P (lone (b.atR a (.code c :: .inLoop c :: k)) cs w) b k cs e a' w'

theorem roundsIn_step {F : Fence} {n : Nat} {c : Code} {Q : Exit → Act → World → Prop} {a : Act} {w : World} (h : c.wpIn F n P (Exit.then (RoundsIn F n P c Q) Q) a w) : RoundsIn F n P c Q a w := by
  intro b k cs hro hb hr
  obtain ⟨e, a₁, w₁, hq, harr⟩ := h b (.inLoop c :: k) cs hro hb hr
  cases e with
  | normal =>
    obtain ⟨e₂, a₂, w₂, hq₂, harr₂⟩ := hq b k cs hro hb hr
    exact ⟨e₂, a₂, w₂, hq₂, .of_steps (StepsIn.trans harr (.one (fenced_calm hb hr rfl) stepR_inLoop)) harr₂⟩
  | exit id => exact ⟨_, a₁, w₁, hq, .pass (x := .inLoop c) rfl (fun _ _ => .inl (by simp)) harr⟩
  | goto l => exact ⟨_, a₁, w₁, hq, .pass (x := .inLoop c) rfl (fun _ _ => .inl (by simp)) harr⟩
  | ret => exact ⟨_, a₁, w₁, hq, .pass (x := .inLoop c) rfl (fun _ _ => .inl (by simp)) harr⟩
  | panic ch => exact ⟨_, a₁, w₁, hq, .pass (x := .inLoop c) rfl (fun _ _ => .inl (by simp)) harr⟩
  | outgrown => exact ⟨_, a₁, w₁, hq, .pass (x := .inLoop c) rfl (fun _ _ => .inl (by simp)) harr⟩

theorem wpIn_of_rounds {F : Fence} {n : Nat} {c : Code} {Q : Exit → Act → World → Prop} {a : Act} {w : World} (h : RoundsIn F n P c Q a w) : (Code.loop c).wpIn F n P Q a w := by
  intro b k cs hro hb hr
  obtain ⟨e, a', w', hq, harr⟩ := h b k cs hro hb hr
  exact ⟨e, a', w', hq, .of_steps (.one (fenced_calm hb hr rfl) stepR_loop) harr⟩

/-! ### Code -/

/-- What a piece of code does, where the evaluator has carried it out. -/
def Does (P : Program) (ro : Option Nat) (base nt : Nat) (c : Code) (x : Tr AV → M (AExit × Tr AV)) : Prop :=
  ∀ ⦃m : Inj⦄ ⦃w : World⦄ ⦃s : St⦄ ⦃fr : Tr AV⦄ ⦃p : AExit × Tr AV⦄ ⦃s' : St⦄ ⦃a : Act⦄, (x fr).run s = .ok p s' → Rel m s.heap.get w → FR m nt fr a.tmps → DOk base m w a.defers → base ≤ w.heap.size → Fresh s s' →
    ∀ Q : Exit → Act → World → Prop, (∀ m' a' w', Ext m w m' w' → Rel m' s'.heap.get w' → FR m' nt p.2 a'.tmps → DOk base m' w' a'.defers → Q (exitOf p.1) a' w') → c.wpIn (Fw ro) 0 P Q a w

theorem does_seq {ro : Option Nat} {base nt : Nat} {x y : Code} {X Y : Tr AV → M (AExit × Tr AV)} (hx : Does P ro base nt x X) (hy : Does P ro base nt y Y) :
    Does P ro base nt (.seq x y) (fun fr => do
      let p ← X fr
      match p.1 with
      | .normal => Y p.2
      | e => pure (e, p.2)) := by
  intro m w s fr p s' a h hr hfr hd hbase hf Q hQ
  obtain ⟨q, s1, h1, h2⟩ := bind_ok h
  obtain ⟨f1, f2⟩ := Fresh.split h1 h2 hf
  apply wpIn_seq
  refine hx h1 hr hfr hd hbase f1 _ fun m1 a1 w1 e1 r1 fr1 d1 => ?_
  obtain ⟨qe, qf⟩ := q
  cases qe with
  | normal => exact hy h2 r1 fr1 d1 (Nat.le_trans hbase e1.size) f2 Q fun m2 a2 w2 e2 r2 fr2 d2 => hQ m2 a2 w2 (e1.trans e2) r2 fr2 d2
  | exit id =>
    obtain ⟨rfl, rfl⟩ := pure_ok h2
    exact hQ m1 a1 w1 e1 r1 fr1 d1
  | ret =>
    obtain ⟨rfl, rfl⟩ := pure_ok h2
    exact hQ m1 a1 w1 e1 r1 fr1 d1

theorem does_loop {ro : Option Nat} {base nt : Nat} {c : Code} {X : Tr AV → M (AExit × Tr AV)} (hx : Does P ro base nt c X) (fuel : Nat) : Does P ro base nt (.loop c) (loopN X fuel) := by
  have key : ∀ (fuel : Nat) {m : Inj} {w : World} {s : St} {fr : Tr AV} {p : AExit × Tr AV} {s' : St} {a : Act}, (loopN X fuel fr).run s = .ok p s' → Rel m s.heap.get w → FR m nt fr a.tmps → DOk base m w a.defers → base ≤ w.heap.size → Fresh s s' →
      ∀ Q : Exit → Act → World → Prop, (∀ m' a' w', Ext m w m' w' → Rel m' s'.heap.get w' → FR m' nt p.2 a'.tmps → DOk base m' w' a'.defers → Q (exitOf p.1) a' w') → RoundsIn (Fw ro) 0 P c Q a w := by
    intro fuel
    induction fuel with
    | zero => intro m w s fr p s' a h; exact (fail_ok h).elim
    | succ fuel ih =>
      intro m w s fr p s' a h hr hfr hd hbase hf Q hQ
      obtain ⟨q, s1, h1, h2⟩ := bind_ok h
      obtain ⟨f1, f2⟩ := Fresh.split h1 h2 hf
      apply roundsIn_step
      refine hx h1 hr hfr hd hbase f1 _ fun m1 a1 w1 e1 r1 fr1 d1 => ?_
      obtain ⟨qe, qf⟩ := q
      cases qe with
      | normal => exact ih h2 r1 fr1 d1 (Nat.le_trans hbase e1.size) f2 Q fun m2 a2 w2 e2 r2 fr2 d2 => hQ m2 a2 w2 (e1.trans e2) r2 fr2 d2
      | exit id =>
        obtain ⟨rfl, rfl⟩ := pure_ok h2
        exact hQ m1 a1 w1 e1 r1 fr1 d1
      | ret =>
        obtain ⟨rfl, rfl⟩ := pure_ok h2
        exact hQ m1 a1 w1 e1 r1 fr1 d1
  intro m w s fr p s' a h hr hfr hd hbase hf Q hQ
  exact wpIn_of_rounds (key fuel h hr hfr hd hbase hf Q hQ)

/-! ### A range over a function -/

/-- A block of the model's that is no version's. -/
theorem Rel.foreign {m : Inj} {h : Nat → Option Obj} {w : World} (hr : Rel m h w) (obj : Go.Obj) (hfro : ∀ a, (w.alloc obj).frozen? a = w.frozen? a) : Ext m w m (w.alloc obj) ∧ Rel m h (w.alloc obj) := by
  refine ⟨⟨Inj.le_refl m, by simp, fun b u B t e hm => .inl ⟨_, _, _, _, hm⟩, fun B hB _ => heap_alloc_old w obj B hB, rfl, rfl, hfro⟩, ⟨fun b o hb => ?_, hr.dom, hr.apart, fun b u B t e hm => ?_⟩⟩
  · exact (hr.obj b o hb).mono (Inj.le_refl m) (fun _ => rfl) (fun u B t e hm => heap_alloc_old w obj B (hr.lt _ _ _ _ _ hm))
  · rw [World.size_alloc]; have := hr.lt _ _ _ _ _ hm; omega

theorem run_getLoop {B : Nat} {r : Loop} {w : World} (h : w.heap[B]? = some (.loop r)) : (Instr.getLoop B).run P w = .ok r w := by
  simp [Instr.getLoop, getObj, Sem.run, h]

theorem run_setLoop {B : Nat} {r : Loop} {w : World} (h : w.heap[B]? = some (.loop r)) (o : Go.Obj) : (setObj B o).run P w = .ok () (World.putObj w B o) := by
  simp only [setObj, Sem.run, h]; rfl

theorem turn_loop {m : Inj} {h : Nat → Option Obj} {w : World} (hr : Rel m h w) {b B t e : Nat} {L L' : ALoop} (hb : h b = some (.loop L)) (hm : m b 0 = some (B, t, e))
    {r r' : Loop} (hw : w.heap[B]? = some (.loop r)) (ho : ∀ w', w'.heap[B]? = some (.loop r') → ORel m w' b (.loop L')) :
    Ext m w m (World.putObj w B (.loop r')) ∧ Rel m (fun x => if x = b then some (.loop L') else h x) (World.putObj w B (.loop r')) := by
  obtain ⟨g1, g2, g3, g4⟩ := putObj_facts w B _ (.loop r') hw (fun c t fr h => by cases h) (fun c t fr h => by cases h)
  exact hr.turn (Inj.le_refl m) (fun _ _ _ => rfl) ⟨0, t, e, hm⟩ (fun u B' t' e' hh => ⟨u, t', e', hh⟩) g2 g3 rfl rfl g4 (ho _ g1) ⟨_, hb⟩

theorem does_range (hev : EvOk P ev) {base nt : Nat} {f : Operand} {params : Array Tmp} {assign body : Code} :
    Does P none base nt (.rangeFunc f params assign body) (fun fr => match evalO fr f with
      | some (.func (.func g) first captured) => match P.funcs[g]? with
        | some fn => match fn.body with
          | some _ => bif fn.name == "runtime.NumGoroutine" then failM else do
            let l ← newObj (.loop { params, tmps := fr, nt, assign, body, state := .ready, pending := .normal })
            let _ ← ev (.call g (first ++ [.func (.yield l) [] []] ++ captured))
            let e ← upd l endLoopO
            pure (e, fr)
          | none => failM
        | none => failM
      | _ => failM) := by
  intro m w s fr p s' a h hr hfr hd hbase hf Q hQ
  simp only at h
  split at h
  · rename_i g first captured hef
    split at h
    · rename_i fn hfn
      split at h
      · rename_i cc hb
        cases hn : fn.name == "runtime.NumGoroutine" with
        | true => simp only [hn, cond_true] at h; exact (fail_ok h).elim
        | false =>
          simp only [hn, cond_false] at h
          obtain ⟨l, s1, h1, h2⟩ := bind_ok h
          obtain ⟨v, s2, h3, h4⟩ := bind_ok h2
          obtain ⟨e, s3, h5, h6⟩ := bind_ok h4
          obtain ⟨rfl, rfl⟩ := pure_ok h6
          obtain ⟨f1, f2⟩ := Fresh.split h1 h2 hf
          obtain ⟨f3, f4⟩ := Fresh.split h3 h4 f2
          obtain ⟨hl, hh1, hn1⟩ := new_ok h1
          have hfv := evalO_rel hfr hef
          generalize hgv : a.eval f = fv at hfv
          cases hfv with
          | func _ _ _ fs cs _ hfs hcs =>
            apply wpIn_rangeFunc
            intro fnid _
            -- the mark's block, the loop's record
            have hD : ∀ c t fr, (Go.Obj.deferred (some [])) = .cells c t fr → fr = (0, 0) := fun c t fr h => by cases h
            obtain ⟨e1, r1⟩ := hr.foreign (.deferred (some [])) (frozen_alloc w _ hD)
            have hb1 : s.heap.get l = none := by rw [hl]; exact f1 _ (Nat.le_refl _) (by omega)
            let rec0 : Loop := { state := .ready, pending := none, fn := fnid, tmps := a.tmps, params, assign, body, defers := w.heap.size }
            obtain ⟨m1, e2, r2, hm1⟩ := r1.new hb1 (.loop { params, tmps := fr, nt, assign, body, state := .ready, pending := .normal }) (.loop rec0) 0 0 (by
              intro m' hle hnew hcell
              refine ⟨fun u => by rw [hnew]; split <;> simp_all, fun B t e hm => ?_⟩
              rw [hnew] at hm
              simp only [if_true, Option.some.injEq, Prod.mk.injEq] at hm
              obtain ⟨rfl, rfl, rfl⟩ := hm
              exact ⟨fnid, a.tmps, none, w.heap.size, hcell, hfr.mono hle, rfl⟩) (frozen_alloc _ _ (fun c t fr h => by cases h))
            have hsz1 : (w.alloc (.deferred (some []))).heap.size = w.heap.size + 1 := by simp
            rw [hsz1] at hm1
            have e12 := e1.trans e2
            have hcall := hev.call g (first ++ [.func (.yield l) [] []] ++ captured) s1 v s2 h3 m1 ((w.alloc (.deferred (some []))).alloc (.loop rec0)) (fs ++ [Go.Value.func (.yield (w.heap.size + 1)) #[] #[]] ++ cs)
              (r2.congr fun x => by rw [hh1, Tr.get_set, hl]) (((hfs.mono e12.le).append (.one (.yield _ _ _ _ hm1))).append (hcs.mono e12.le)) f3
            refine ⟨w.heap.size + 1, [{ target := .collected w.heap.size, args := #[] }], (w.alloc (.deferred (some []))).alloc (.loop rec0), { target := .fn (.func g) cs.toArray, args := fs.toArray ++ #[Go.Value.func (.yield (w.heap.size + 1)) #[] #[]] },
              (w.alloc (.deferred (some []))).alloc (.loop rec0), g, (fs ++ [Go.Value.func (.yield (w.heap.size + 1)) #[] #[]] ++ cs).toArray, (w.alloc (.deferred (some []))).alloc (.loop rec0), ?_, ?_, fun _ _ => trivial, ?_, fun h => by simp [Fw, Fence.wide] at h, ?_⟩
            · simp only [Instr.enterLoop, Fw, Sem.run_bind]
              have hno : ∀ (w : World) (o : Go.Obj), (Go.newObj o).run P w = .ok w.heap.size (w.alloc o) := fun w o => rfl
              simp only [hno, Result.andThen_ok, Sem.run_pure, hsz1]
              rfl
            · show Sem.run P (Deferred.ofValue (a.eval f) _) _ = _
              rw [hgv]
              have hargs : Array.map a.eval (rangeCall f (w.heap.size + 1)).args = #[Go.Value.func (.yield (w.heap.size + 1)) #[] #[]] := by simp [Act.eval]
              rw [hargs]
              rfl
            · simp only [invoke, callFunc, Sem.run_bind, run_program, Result.andThen_ok, hfn, hn, Bool.false_eq_true, if_false, hb, Option.isNone_some]
              simp
            · have hcall' : CallsIn (Fw none) (0 - 1) P g (fs ++ [Go.Value.func (.yield (w.heap.size + 1)) #[] #[]] ++ cs).toArray ((w.alloc (.deferred (some []))).alloc (.loop rec0)) (Back m1 ((w.alloc (.deferred (some []))).alloc (.loop rec0)) s2 v) := hcall
              refine hcall'.mono ?_
              rintro en w3 ⟨m3, v3, rfl, e3, r3, hv3⟩
              -- the end of the loop
              obtain ⟨o, o', g1, g2, g3, g4⟩ := upd_ok h5
              cases o with
              | row r => simp [endLoopO] at g2
              | map es g => simp [endLoopO] at g2
              | iter i => simp [endLoopO] at g2
              | loop L =>
                obtain ⟨_, hL⟩ := r3.obj _ _ g1
                have hm3 := e3.le _ _ _ hm1
                obtain ⟨fn3, tmps3, pend3, defers3, q1, q2, q3⟩ := hL _ _ _ hm3
                have hst : L.state ≠ .busy := by
                  intro hbusy
                  simp only [endLoopO, hbusy] at g2
                  cases g2
                have hg2 : (e, o') = (L.pending, Obj.loop { L with state := .exhausted }) := by
                  simp only [endLoopO] at g2
                  revert g2
                  cases hs : L.state <;> intro g2
                  · simpa using g2.symm
                  · exact absurd hs hst
                  · simpa using g2.symm
                  · simpa using g2.symm
                simp only [Prod.mk.injEq] at hg2
                obtain ⟨rfl, rfl⟩ := hg2
                obtain ⟨e4, r4⟩ := turn_loop (L' := { L with state := .exhausted }) (r' := { state := .exhausted, pending := pend3, fn := fn3, tmps := tmps3, params := L.params, assign := L.assign, body := L.body, defers := defers3 }) r3 g1 hm3 q1 (fun w' hw' =>
                  ⟨(r3.obj _ _ g1).1, fun B t e hh => by rw [hm3] at hh; cases hh; exact ⟨fn3, tmps3, pend3, defers3, hw', q2, q3⟩⟩)
                have hend : (Instr.endLoop (w.heap.size + 1)).run P w3 = .ok pend3 (World.putObj w3 (w.heap.size + 1) (.loop { state := .exhausted, pending := pend3, fn := fn3, tmps := tmps3, params := L.params, assign := L.assign, body := L.body, defers := defers3 })) := by
                  have hbq : (L.state == LoopState.busy) = false := by
                    cases hs : L.state with
                    | busy => exact absurd hs hst
                    | _ => rfl
                  simp only [Instr.endLoop, Sem.run_bind, run_getLoop q1, Result.andThen_ok, hbq, Bool.false_eq_true, if_false, run_setLoop q1]
                  rfl
                have eall := (e12.trans e3).trans e4
                have hQ' := hQ m3 { a with defers := [{ target := .collected w.heap.size, args := #[] }] ++ a.defers } _ eall (r4.congr fun x => by rw [g3, Tr.get_set]) (hfr.mono eall.le) (by
                  -- the marks
                  have hmark : DOk base m (w.alloc (.deferred (some []))) ([{ target := .collected w.heap.size, args := #[] }] ++ a.defers) := by
                    refine ⟨⟨w.heap.size, rfl, hbase, heap_alloc_new w _, fun b u t e hm => ?_, ?_⟩, hd.ext e1⟩
                    · have := hr.lt _ _ _ _ _ hm; omega
                    · intro d' hd' hde
                      subst hde
                      have hgen : ∀ ds, DOk base m w ds → ∀ d ∈ ds, ∃ r, d.target = .collected r ∧ r < w.heap.size := by
                        intro ds
                        induction ds with
                        | nil => intro _ d hd; cases hd
                        | cons d0 ds ih =>
                          rintro ⟨⟨r, rfl, _, h3, _, _⟩, hrest⟩ d hd
                          rcases List.mem_cons.1 hd with rfl | hd
                          · exact ⟨r, rfl, (Array.getElem?_eq_some_iff.1 h3).1⟩
                          · exact ih hrest d hd
                      obtain ⟨r, hr1, hr2⟩ := hgen _ hd _ hd'
                      simp only [Target.collected.injEq] at hr1
                      omega
                  exact ((hmark.ext e2).ext e3).ext e4)
                refine ⟨pend3, _, hend, ?_⟩
                cases hp : L.pending with
                | normal =>
                  rw [hp] at q3 hQ'
                  have : pend3 = none := q3
                  subst this
                  exact hQ'
                | exit id =>
                  rw [hp] at q3 hQ'
                  have : pend3 = some (.exit id) := q3
                  subst this
                  exact wpIn_exit hQ'
                | ret =>
                  rw [hp] at q3 hQ'
                  have : pend3 = some .ret := q3
                  subst this
                  exact wpIn_ret hQ'
      · exact (fail_ok h).elim
    · exact (fail_ok h).elim
  · exact (fail_ok h).elim

theorem den_loop (P : Program) (ev : Task → M AV) (nt : Nat) (rnd : Bool) (c : Code) (fr : Tr AV) : den P ev nt rnd (.loop c) fr = loopN (den P ev nt rnd c) loopFuel fr := by rw [den]

theorem den_sim (hext : ExtOk P) (hev : EvOk P ev) (ro : Option Nat) (base nt : Nat) (c : Code) : Does P ro base nt c (den P ev nt ro.isSome c) := by
  induction c with
  | skip =>
    intro m w s fr p s' a h hr hfr hd hbase hf Q hQ
    obtain ⟨rfl, rfl⟩ := pure_ok h
    exact wpIn_skip (hQ _ _ _ (Ext.refl _ _) hr hfr hd)
  | label _ =>
    intro m w s fr p s' a h hr hfr hd hbase hf Q hQ
    obtain ⟨rfl, rfl⟩ := pure_ok h
    exact wpIn_label (hQ _ _ _ (Ext.refl _ _) hr hfr hd)
  | exit id =>
    intro m w s fr p s' a h hr hfr hd hbase hf Q hQ
    obtain ⟨rfl, rfl⟩ := pure_ok h
    exact wpIn_exit (hQ _ _ _ (Ext.refl _ _) hr hfr hd)
  | ret =>
    intro m w s fr p s' a h hr hfr hd hbase hf Q hQ
    obtain ⟨rfl, rfl⟩ := pure_ok h
    exact wpIn_ret (hQ _ _ _ (Ext.refl _ _) hr hfr hd)
  | goto _ =>
    intro m w s fr p s' a h; exact (fail_ok h).elim
  | refuse _ =>
    intro m w s fr p s' a h; exact (fail_ok h).elim
  | region id ops draw =>
    intro m w s fr p s' a h hr hfr hd hbase hf Q hQ
    simp only [den] at h
    cases draw with
    | true =>
      simp only [cond_true] at h
      obtain ⟨fr', s1, h1, h2⟩ := bind_ok h
      obtain ⟨rfl, rfl⟩ := pure_ok h2
      exact draw_sim hext hev ro Q hr hfr h1 hf fun m' a' w' e1 r1 fr1 d1 => hQ m' a' w' e1 r1 fr1 (by rw [d1]; exact hd.ext e1)
    | false =>
      simp only [cond_false] at h
      obtain ⟨fr', s1, h1, h2⟩ := bind_ok h
      obtain ⟨rfl, rfl⟩ := pure_ok h2
      exact region_sim hext hev ro Q hr hfr h1 hf fun m' a' w' e1 r1 fr1 d1 => hQ m' a' w' e1 r1 fr1 (by rw [d1]; exact hd.ext e1)
  | seq x y ihx ihy => exact does_seq ihx ihy
  | cond c x y ihx ihy =>
    intro m w s fr p s' a h hr hfr hd hbase hf Q hQ
    simp only [den] at h
    split at h
    · rename_i hc
      have := evalO_rel hfr hc
      generalize hcv : a.eval c = cv at this
      cases this
      exact wpIn_cond_true hcv (ihx h hr hfr hd hbase hf Q hQ)
    · rename_i hc
      have := evalO_rel hfr hc
      generalize hcv : a.eval c = cv at this
      cases this
      exact wpIn_cond_false hcv (ihy h hr hfr hd hbase hf Q hQ)
    · exact (fail_ok h).elim
  | block id c ih =>
    intro m w s fr p s' a h hr hfr hd hbase hf Q hQ
    simp only [den] at h
    obtain ⟨q, s1, h1, h2⟩ := bind_ok h
    obtain ⟨f1, f2⟩ := Fresh.split h1 h2 hf
    apply wpIn_block
    refine ih h1 hr hfr hd hbase f1 _ fun m1 a1 w1 e1 r1 fr1 d1 => ?_
    obtain ⟨qe, qf⟩ := q
    cases qe with
    | normal =>
      obtain ⟨rfl, rfl⟩ := pure_ok h2
      exact hQ m1 a1 w1 e1 r1 fr1 d1
    | exit id' =>
      obtain ⟨rfl, rfl⟩ := pure_ok h2
      have := hQ m1 a1 w1 e1 r1 fr1 d1
      simp only [exitOf, Exit.inBlock]
      by_cases hid : id' = id
      · subst hid; rw [if_pos rfl]; simpa [beq_self, exitOf] using this
      · rw [if_neg hid]; simpa [beq_ne hid, exitOf] using this
    | ret =>
      obtain ⟨rfl, rfl⟩ := pure_ok h2
      exact hQ m1 a1 w1 e1 r1 fr1 d1
  | loop c ih =>
    intro m w s fr p s' a h
    rw [den_loop] at h
    revert h
    generalize loopFuel = fuel
    intro h
    exact does_loop ih fuel h
  | scope c ih =>
    intro m w s fr p s' a h hr hfr hd hbase hf Q hQ
    apply wpIn_scope
    refine ih h hr hfr hd hbase hf _ fun m1 a1 w1 e1 r1 fr1 d1 => ⟨?_, hQ m1 a1 w1 e1 r1 fr1 d1⟩
    intro l; cases p.1 <;> simp [exitOf]
  | rangeFunc f params assign body _ _ =>
    cases ro with
    | some l => intro m w s fr p s' a h; exact (fail_ok h).elim
    | none =>
      exact does_range hev

end
end Go.Ab
