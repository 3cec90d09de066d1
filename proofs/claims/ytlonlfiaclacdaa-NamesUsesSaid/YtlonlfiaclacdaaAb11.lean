/-
  ONE OPERATION, CALLS WITH IT (own work): the evaluator's step is the model's, under the walk's own calculus.
-/
import Derived.Test.YtlonlfiaclacdaaAb10
import Derived.RangeFuncIn
namespace Go.Ab

/-- The fence that asks nothing, in a round or not. -/
def Fw (ro : Option Nat) : Fence := { Fence.wide with round := ro }

/-- What the evaluator says of a library function without a body that it knows. -/
def ExtOk (P : Program) : Prop := ∀ (f : FuncId) (fn : Func), P.funcs[f]? = some fn → fn.body = none → (fn.name == "maps.clone") = true →
  (fn.name == "runtime.NumGoroutine") = false ∧ Extern.findNext fn = none ∧ Extern.find fn = some Extern.MapsClone.clone

def Back (m : Inj) (w : World) (s' : St) (v : AV) : Ending → World → Prop := fun e w' =>
  ∃ m' v', e = .returned v' ∧ Ext m w m' w' ∧ Rel m' s'.heap.get w' ∧ VR m' v v'

structure EvOk (P : Program) (ev : Task → M AV) : Prop where
  call : ∀ f args s v s', (ev (.call f args)).run s = .ok v s' → ∀ m w cargs, Rel m s.heap.get w → VRs m args cargs → Fresh s s' →
    CallsIn Fence.wide 0 P f cargs.toArray w (Back m w s' v)
  round : ∀ l args s v s', (ev (.round l args)).run s = .ok v s' → ∀ m w cargs, Rel m s.heap.get w → VRs m args cargs → Fresh s s' → ∀ B t e, m l 0 = some (B, t, e) →
    ∃ r : Loop, w.heap[B]? = some (.loop r) ∧ cargs.length = r.params.size ∧
      RoundIn Fence.wide 0 P B r.fn ((r.params.zip cargs.toArray).foldl (fun tmps (t, a) => tmps.setIfInBounds t a) r.tmps) r.assign r.body w (Back m w s' v)

section
variable {P : Program} {m : Inj} {w : World} {ev : Task → M AV}

/-- What a call made by an operation comes to. -/
def NextOk (P : Program) (ro : Option Nat) (m : Inj) (w : World) (s' : St) (y : AV) (r : Result Next) : Prop :=
  ∀ (o : Oper) (a : Act) (K : Act → World → Prop) (Q : Exit → Act → World → Prop),
    (∀ m' v' w', Ext m w m' w' → Rel m' s'.heap.get w' → VR m' y v' → K (a.put o.dst v') w') → o.uponIn (Fw ro) 0 P a K Q r

theorem nextOk_value {ro : Option Nat} {s' : St} {y : AV} {v : Value} {w' : World} {m' : Inj} (h1 : Ext m w m' w') (h2 : Rel m' s'.heap.get w') (h3 : VR m' y v) :
    NextOk P ro m w s' y (.ok (.value v) w') := fun _ _ _ _ hK => hK _ _ _ h1 h2 h3

theorem nextOk_skip {ro : Option Nat} {s' : St} {w' : World} {m' : Inj} (h1 : Ext m w m' w') (h2 : Rel m' s'.heap.get w') :
    NextOk P ro m w s' undefA (.ok .skip w') := fun _ _ _ _ hK => hK _ _ _ h1 h2 (.tuple [] [] .nil)

theorem nextOk_enter {ro : Option Nat} {s' : St} {y : AV} {f : FuncId} {args : Array Value} (h : CallsIn Fence.wide 0 P f args w (Back m w s' y)) :
    NextOk P ro m w s' y (.ok (.enter f args) w) := by
  intro o a K Q hK
  refine ⟨fun h => by simp [Fw, Fence.wide] at h, ?_⟩
  have h' : CallsIn (Fw ro) (0 - 1) P f args w (Back m w s' y) := h
  refine h'.mono ?_
  rintro e w' ⟨m', v', rfl, h1, h2, h3⟩
  exact hK _ _ _ h1 h2 h3

theorem nextOk_round {ro : Option Nat} {s' : St} {y : AV} {l : Nat} {f : FuncId} {tmps : Array Value} {assign body : Code} (h : RoundIn Fence.wide 0 P l f tmps assign body w (Back m w s' y)) :
    NextOk P ro m w s' y (.ok (.round l f tmps assign body) w) := by
  intro o a K Q hK
  refine ⟨fun h => by simp [Fw, Fence.wide] at h, ?_⟩
  have h' : RoundIn (Fw ro) (0 - 1) P l f tmps assign body w (Back m w s' y) := h
  refine h'.mono ?_
  rintro e w' ⟨m', v', rfl, h1, h2, h3⟩
  exact hK _ _ _ h1 h2 h3

theorem extern_sim (hext : ExtOk P) {s : St} (hr : Rel m s.heap.get w) {f : FuncId} {fn : Func} (hfn : P.funcs[f]? = some fn) (hb : fn.body = none) {args : List AV} {y : AV} {s' : St}
    (h : (externA fn.name args).run s = .ok y s') (hf : Fresh s s') {cargs : List Value} (ha : VRs m args cargs) (ro : Option Nat) :
    NextOk P ro m w s' y ((callFunc f cargs.toArray).run P w) := by
  unfold externA at h
  split at h
  · rename_i t r
    cases hn : fn.name == "maps.clone" with
    | false => simp only [hn, cond_false] at h; exact (fail_ok h).elim
    | true =>
      simp only [hn, cond_true] at h
      obtain ⟨e0, e1, e2⟩ := hext f fn hfn hb hn
      obtain ⟨es, s1, h1, h2⟩ := bind_ok h
      obtain ⟨r', s2, h3, h4⟩ := bind_ok h2
      obtain ⟨rfl, rfl⟩ := pure_ok h4
      obtain ⟨o, g1, g2, g3, g4⟩ := look_ok h1
      cases ha with
      | cons _ cv _ cl hv hl =>
        cases hl
        cases hv with
        | iface _ _ v hv =>
          cases hv with
          | map _ B t' e' hmm =>
            cases o with
            | row r' => simp [getMapGO] at g2
            | loop L => simp [getMapGO] at g2
            | iter i => simp [getMapGO] at g2
            | map es0 g0 =>
              simp only [getMapGO, Option.some.injEq] at g2; subst g2
              obtain ⟨_, ho⟩ := hr.obj _ _ g1
              obtain ⟨ents, clock, hw', he, hg⟩ := ho B t' e' hmm
              have hr1 : Rel m s1.heap.get w := by rw [g3]; exact hr
              obtain ⟨m', k1, k2, k3⟩ := newMap_sim hr1 clock he hg h3 (hf.right h1)
              have hrun : (callFunc f [Value.iface t (.map (some B))].toArray).run P w = .ok (.value (.iface t (.map (some w.heap.size)))) (w.alloc (.map ents clock)) := by
                simp only [callFunc, Sem.run_bind, run_program, Result.andThen_ok, hfn, e0, Bool.false_eq_true, if_false, hb, Option.isNone_none, if_true, run_mark, e1, e2]
                have hc : (Extern.MapsClone.clone [Value.iface t (.map (some B))].toArray).run P w = .ok (.iface t (.map (some w.heap.size))) (w.alloc (.map ents clock)) := by
                  show (getObj B >>= fun o => match o with
                    | .map entries clock => (do pure (.iface t (.map (some (← Go.newObj (.map entries clock))))) : Sem Value)
                    | _ => stuck "maps.clone: a map expected").run P w = _
                  rw [Sem.run_bind, run_getObj' w B ents clock hw']
                  rfl
                rw [hc]
                rfl
              rw [hrun]
              exact nextOk_value k1 k2 (.iface _ _ _ k3)
  · exact (fail_ok h).elim

theorem enter_sim (hext : ExtOk P) (hev : EvOk P ev) {s : St} (hr : Rel m s.heap.get w) {f : FuncId} {args : List AV} {y : AV} {s' : St}
    (h : (enterA P ev f args).run s = .ok y s') (hf : Fresh s s') {cargs : List Value} (ha : VRs m args cargs) (ro : Option Nat) :
    NextOk P ro m w s' y ((callFunc f cargs.toArray).run P w) := by
  unfold enterA at h
  split at h
  · rename_i fn hfn
    split at h
    · rename_i c hb
      cases hn : fn.name == "runtime.NumGoroutine" with
      | true => simp only [hn, cond_true] at h; exact (fail_ok h).elim
      | false =>
        simp only [hn, cond_false] at h
        have hrun : (callFunc f cargs.toArray).run P w = .ok (.enter f cargs.toArray) w := by
          simp only [callFunc, Sem.run_bind, run_program, Result.andThen_ok, hfn, hn, Bool.false_eq_true, if_false, hb, Option.isNone_some]
          rfl
        rw [hrun]
        exact nextOk_enter (hev.call f args s y s' h m w cargs hr ha hf)
    · rename_i hb
      exact extern_sim hext hr hfn hb h hf ha ro
  · exact (fail_ok h).elim

theorem callVal_sim (hext : ExtOk P) (hev : EvOk P ev) {s : St} (hr : Rel m s.heap.get w) {f : AV} {args : List AV} {y : AV} {s' : St}
    (h : (callVal P ev f args).run s = .ok y s') (hf : Fresh s s') {fv : Value} {cargs : List Value} (hfv : VR m f fv) (ha : VRs m args cargs) (ro : Option Nat) :
    NextOk P ro m w s' y ((do let d ← Deferred.ofValue fv cargs.toArray; invoke d.target d.args : Sem Next).run P w) := by
  unfold callVal at h
  split at h
  · rename_i g first captured
    cases hfv with
    | func _ _ _ fs cs _ h1 h2 =>
      have hrun : (do let d ← Deferred.ofValue (.func (.func g) fs.toArray cs.toArray) cargs.toArray; invoke d.target d.args : Sem Next).run P w = (callFunc g (fs ++ cargs ++ cs).toArray).run P w := by
        simp only [Deferred.ofValue, pure_bind, invoke]
        simp
      rw [hrun]
      exact enter_sim hext hev hr h hf ((h1.append ha).append h2) ro
  · rename_i l
    cases hfv with
    | func _ _ _ fs cs hno _ _ => exact absurd rfl (hno l)
    | yield _ B t e hm =>
      obtain ⟨r, h1, h2, h3⟩ := hev.round l args s y s' h m w cargs hr ha hf B t e hm
      have hgo : (getObj B).run P w = .ok (.loop r) w := by simp [getObj, Sem.run, h1]
      have hrun : (do let d ← Deferred.ofValue (.func (.yield B) #[] #[]) cargs.toArray; invoke d.target d.args : Sem Next).run P w =
          .ok (.round B r.fn ((r.params.zip cargs.toArray).foldl (fun tmps (t, a) => tmps.setIfInBounds t a) r.tmps) r.assign r.body) w := by
        simp only [Deferred.ofValue, pure_bind, invoke, Array.empty_append, Instr.yield, Instr.getLoop, Sem.run_bind, hgo, Result.andThen_ok, Sem.run_pure]
        rw [if_neg (by simpa using h2)]
        rfl
      rw [hrun]
      exact nextOk_round h3
  · exact (fail_ok h).elim

theorem method_sim {t : TypeId} {name : String} {f : FuncId} {pr : Bool} {el : Option TypeId} (h : methodA P t name = some (f, pr, el)) :
    ∃ i mt, P.info? t = some i ∧ i.methods.find? (·.name == name) = some mt ∧ mt.path.isEmpty = true ∧ mt.func = some (f, pr) ∧
      (∃ d, P.underlying t = some d ∧ ((∃ e, d = .pointer e ∧ el = some e) ∨ ((∀ e, d ≠ .pointer e) ∧ el = none))) := by
  unfold methodA at h
  split at h
  · rename_i i hi
    split at h
    · rename_i mt hmt
      cases hp : mt.path.isEmpty with
      | false => simp [hp] at h
      | true =>
        simp only [hp, cond_true] at h
        split at h
        · rename_i f' pr' hfn
          split at h
          · rename_i e hu
            simp only [Option.some.injEq, Prod.mk.injEq] at h
            obtain ⟨rfl, rfl, rfl⟩ := h
            exact ⟨i, mt, hi, hmt, hp, hfn, _, hu, .inl ⟨e, rfl, rfl⟩⟩
          · rename_i d hno hu
            simp only [Option.some.injEq, Prod.mk.injEq] at h
            obtain ⟨rfl, rfl, rfl⟩ := h
            exact ⟨i, mt, hi, hmt, hp, hfn, d, hu, .inr ⟨fun e he => hno e he, rfl⟩⟩
          · cases h
        · cases h
    · cases h
  · cases h

theorem invoke_sim (hext : ExtOk P) (hev : EvOk P ev) {s : St} (hr : Rel m s.heap.get w) {r : AV} {name : String} {args : List AV} {y : AV} {s' : St}
    (h : (invokeA P ev r name args).run s = .ok y s') (hf : Fresh s s') {rv : Value} {cargs : List Value} (hrv : VR m r rv) (ha : VRs m args cargs) (ro : Option Nat) :
    NextOk P ro m w s' y ((callMethod rv name cargs.toArray).run P w) := by
  unfold invokeA at h
  split at h
  · rename_i t x
    cases hrv with
    | iface _ _ v hv =>
      have hmeth : ∀ (f : FuncId) (pr : Bool) (el : Option TypeId), methodA P t name = some (f, pr, el) → (∀ rv', (Go.receiverAt t (.val v) pr (some ((name.splitOn ".").getLastD name))).run P w = .ok rv' w →
          (callMethod (.iface t v) name cargs.toArray).run P w = (callFunc f (rv' :: cargs).toArray).run P w) := by
        intro f pr el hm rv' hrec
        obtain ⟨i, mt, hi, hmt, hp, hfn, _⟩ := method_sim hm
        have hpl : mt.path.toList = [] := by
          have : mt.path = #[] := by simpa using hp
          rw [this]
        have hmeth : (Go.method (P.types.size + Made.depth) t v name).run P w = .ok (f, rv') w := by
          have hdep : ∃ n, P.types.size + Made.depth = n + 1 := ⟨P.types.size + 99, rfl⟩
          obtain ⟨n, hn⟩ := hdep
          rw [hn]
          simp only [Go.method, Sem.run_bind, typeInfo, run_program, Result.andThen_ok, hi, Sem.run_pure, hmt, hpl, follow, hfn, hp, if_true]
          rw [hrec]; rfl
        simp only [callMethod, Sem.run_bind, run_program, Result.andThen_ok, hmeth]
        simp
      split at h
      · rename_i f e hm
        obtain ⟨_, _, _, _, _, _, d, hd, hc⟩ := method_sim hm
        obtain ⟨e', rfl, _⟩ := hc.resolve_right (by rintro ⟨_, hc⟩; cases hc)
        rw [hmeth f true (some e) hm v (by simp [receiverAt, run_underlying hd, Place.get])]
        exact enter_sim hext hev hr h hf (.cons _ _ _ _ hv ha) ro
      · rename_i f hm
        obtain ⟨_, _, _, _, _, _, d, hd, hc⟩ := method_sim hm
        obtain ⟨hno, _⟩ := hc.resolve_left (by rintro ⟨_, _, hc⟩; cases hc)
        rw [hmeth f false none hm v (by
          simp only [receiverAt, Sem.run_bind, run_underlying hd, Result.andThen_ok]
          cases d <;> first | (exact absurd rfl (hno _)) | rfl)]
        exact enter_sim hext hev hr h hf (.cons _ _ _ _ hv ha) ro
      · rename_i f e hm
        obtain ⟨_, _, _, _, _, _, d, hd, hc⟩ := method_sim hm
        obtain ⟨e', rfl, he⟩ := hc.resolve_right (by rintro ⟨_, hc⟩; cases hc)
        cases he
        obtain ⟨x', s1, h1, h2⟩ := bind_ok h
        obtain ⟨v', g1, g2, g3, g4⟩ := load_sim (P := P) hr h1 hv
        have hr1 : Rel m s1.heap.get w := by rw [g3]; exact hr
        obtain ⟨av, hav⟩ : ∃ av, v = .pointer (some av) := by
          cases hv <;> first | exact ⟨_, rfl⟩ | (exfalso; simp only [loadA] at h1; exact fail_ok h1)
        subst hav
        rw [hmeth f false (some e) hm v' (by
          simp only [Instr.loadAt, Instr.sureAddr, pure_bind] at g1
          have hchk : ∀ nm, Builtin.ssaWrapNilChk_ #[t] t #[Value.pointer (some av), strVal "", strVal nm] = pure (.pointer (some av)) := fun nm => rfl
          simp only [receiverAt, Sem.run_bind, run_underlying hd, Result.andThen_ok, Place.get, Sem.run_pure, hchk, asAddr, g1])]
        exact enter_sim hext hev hr1 h2 (hf.right h1) (.cons _ _ _ _ g2 ha) ro
      · exact (fail_ok h).elim
  · exact (fail_ok h).elim

end
end Go.Ab
