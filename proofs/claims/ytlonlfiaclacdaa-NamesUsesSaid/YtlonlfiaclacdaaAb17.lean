/-
  CALLS AND ROUNDS (own work): the evaluator's answer is the model's.
-/
import Derived.Test.YtlonlfiaclacdaaAb16
import Derived.RowKit3
namespace Go.Ab
open Go.RowKit

section
variable {P : Program}

theorem tupA_rel {m : Inj} {l : List AV} {l' : List Value} (h : VRs m l l') : VR m (tupA l) (if h : l'.toArray.size = 1 then l'.toArray[0] else .tuple l'.toArray) := by
  cases h with
  | nil => exact .tuple _ _ .nil
  | cons a v l l' h1 h2 =>
    cases h2 with
    | nil => exact h1
    | cons b u k k' h3 h4 =>
      rw [dif_neg (by simp)]
      exact .tuple _ _ (.cons _ _ _ _ h1 (.cons _ _ _ _ h3 h4))

theorem asAddr_of_load {t : TypeId} {v u : Value} {w w' : World} (h : (Instr.loadAt t v).run P w = .ok u w') : (do loadVar t (← asAddr v) : Sem Value).run P w = .ok u w' := by
  unfold Instr.loadAt Instr.sureAddr at h
  split at h
  · exact h
  · simp [Sem.run, stuck] at h

/-- One result variable. -/
def resF (tmps : Array Value) : ResultVar → Sem Value
  | .tmp t => pure (tmps.getD t undef)
  | .cell a t => do loadVar t (← asAddr (tmps.getD a undef))

theorem results_eq (fn : Func) (tmps : Array Value) : results fn tmps = (List.toArray <$> fn.results.toList.mapM (resF tmps)) >>= fun vs => pure (if h : vs.size = 1 then vs[0] else .tuple vs) := by
  have h : ∀ g : ResultVar → Sem Value, g = resF tmps → (fn.results.mapM g >>= fun vs => (pure (if h : vs.size = 1 then vs[0] else .tuple vs) : Sem Value)) = (List.toArray <$> fn.results.toList.mapM (resF tmps)) >>= fun vs => pure (if h : vs.size = 1 then vs[0] else .tuple vs) := by
    rintro _ rfl
    rw [Array.mapM_eq_mapM_toList]
  refine h _ (funext fun x => ?_)
  cases x <;> rfl

theorem results_sim {m : Inj} {w : World} {nt : Nat} {fr : Tr AV} {tmps : Array Value} (hfr : FR m nt fr tmps) : ∀ (rs : List ResultVar) {s : St} {l : List AV} {s' : St}, (resultsA P fr rs).run s = .ok l s' → Rel m s.heap.get w →
    ∃ l', (rs.mapM (resF tmps)).run P w = .ok l' w ∧ VRs m l l' ∧ s'.heap = s.heap
  | [], s, l, s', h, hr => by
    obtain ⟨rfl, rfl⟩ := pure_ok h
    exact ⟨[], by simp, .nil, rfl⟩
  | .tmp t :: rs, s, l, s', h, hr => by
    obtain ⟨l1, s1, h1, h2⟩ := bind_ok h
    obtain ⟨rfl, rfl⟩ := pure_ok h2
    obtain ⟨l', g1, g2, g3⟩ := results_sim hfr rs h1 hr
    refine ⟨tmps.getD t undef :: l', ?_, .cons _ _ _ _ (hfr.get t) g2, g3⟩
    rw [List.mapM_cons]
    simp only [resF, pure_bind, Sem.run_bind, g1, Result.andThen_ok, Sem.run_pure]
  | .cell a t :: rs, s, l, s', h, hr => by
    obtain ⟨x, s0, h0, h3⟩ := bind_ok h
    obtain ⟨l1, s1, h1, h2⟩ := bind_ok h3
    obtain ⟨rfl, rfl⟩ := pure_ok h2
    obtain ⟨v, k1, k2, k3, k4⟩ := load_sim (P := P) hr h0 (hfr.get a)
    obtain ⟨l', g1, g2, g3⟩ := results_sim hfr rs h1 (s := s0) (by rw [k3]; exact hr)
    refine ⟨v :: l', ?_, .cons _ _ _ _ k2 g2, g3.trans k3⟩
    have k1' : (resF tmps (.cell a t)).run P w = .ok v w := asAddr_of_load k1
    rw [List.mapM_cons, Sem.run_bind, k1']
    simp only [Sem.run_bind, g1, Result.andThen_ok, Sem.run_pure]

/-- The marks are taken: their blocks are the call's own. -/
theorem marks_leave {fn : Func} {tmps : Array Value} {R : Ending → World → Prop} {m m1 : Inj} {w : World} {h : Nat → Option Obj} :
    ∀ (ds : List Deferred) {w1 : World}, Ext m w m1 w1 → Rel m1 h w1 → DOk w.heap.size m1 w1 ds → (∀ w2, Ext m w m1 w2 → Rel m1 h w2 → LeavesIn Fence.wide 0 P fn tmps R [] .returning w2) →
      LeavesInM Fence.wide 0 P fn tmps R ds .returning w1
  | [], w1, he, hr, _, hk => hk w1 he hr
  | d :: ds, w1, he, hr, ⟨⟨r, h1, h2, h3, h4, h5⟩, h6⟩, hk => by
    subst h1
    refine ⟨(by intro h; cases h), .inl ⟨r, World.putObj w1 r (.deferred none), rfl, ?_, ?_⟩⟩
    · have hgo : (getObj r).run P w1 = .ok (.deferred (some [])) w1 := by simp [getObj, Sem.run, h3]
      have hset : (setObj r (.deferred none)).run P w1 = .ok () (World.putObj w1 r (.deferred none)) := by simp only [setObj, Sem.run, h3]; rfl
      simp only [Instr.takeDeferred, Sem.run_bind, hgo, Result.andThen_ok, hset, Sem.run_pure]
    · obtain ⟨g1, g2, g3, g4⟩ := putObj_facts w1 r _ (.deferred none) h3 (fun c t fr h => by cases h) (fun c t fr h => by cases h)
      refine marks_leave ds (m1 := m1) ⟨he.le, by rw [g3]; exact he.size, he.img, fun B hB hn => ?_, he.os, he.output, fun a => (g4 a).trans (he.frozen a)⟩ ⟨fun b o hb => ?_, hr.dom, hr.apart, fun b u B t e hm => ?_⟩ ?_ hk
      · rw [g2 B (by omega)]; exact he.same B hB hn
      · refine (hr.obj b o hb).mono (Inj.le_refl m1) (fun _ => rfl) fun u B t e hm => g2 B ?_
        rintro rfl
        exact h4 _ _ _ _ hm
      · rw [g3]; exact hr.lt _ _ _ _ _ hm
      · have key : ∀ ds, DOk w.heap.size m1 w1 ds → (∀ d' ∈ ds, d' ≠ ({ target := .collected r, args := #[] } : Deferred)) → DOk w.heap.size m1 (World.putObj w1 r (.deferred none)) ds := by
          intro ds
          induction ds with
          | nil => intro _ _; trivial
          | cons d0 ds ih =>
            rintro ⟨⟨q, k1, k2, k3, k4, k5⟩, k6⟩ hne
            refine ⟨⟨q, k1, k2, ?_, k4, k5⟩, ih k6 fun d' hd' => hne d' (List.mem_cons_of_mem _ hd')⟩
            rw [g2 q (by rintro rfl; exact hne d0 List.mem_cons_self k1)]
            exact k3
        exact key ds h6 h5

theorem enter_fr {m : Inj} {args : List AV} {cargs : List Value} (h : VRs m args cargs) (n : Nat) :
    FR m (max args.length n) (fillTr args 0 .nil) (cargs.toArray ++ Array.replicate (n - cargs.toArray.size) undef) := by
  have hl := h.length
  refine ⟨by simp; omega, fun t => ?_⟩
  rw [get_fillTr]
  by_cases ht : t < args.length
  · rw [if_pos ⟨Nat.zero_le _, by omega⟩]
    obtain ⟨v, g1, g2⟩ := h.get (List.getElem?_eq_getElem ht)
    have : (cargs.toArray ++ Array.replicate (n - cargs.toArray.size) undef).getD t undef = v := by
      rw [Array.getD_eq_getD_getElem?, Array.getElem?_append_left (by simp; omega)]
      simp [g1]
    rw [this, Nat.sub_zero, List.getElem?_eq_getElem ht]
    exact g2
  · rw [if_neg (by omega)]
    have : (cargs.toArray ++ Array.replicate (n - cargs.toArray.size) undef).getD t undef = undef := by
      rw [Array.getD_eq_getD_getElem?, Array.getElem?_append_right (by simp; omega)]
      simp only [Array.getElem?_replicate]
      split <;> rfl
    rw [this]
    simp only [Tr.get, Option.getD_none]
    exact .tuple _ _ .nil

theorem bind_fr {m : Inj} {nt : Nat} : ∀ (ps : List Nat) {args : List AV} {cargs : List Value} {fr fr' : Tr AV} {tmps : Array Value}, bindParams nt fr ps args = some fr' → VRs m args cargs → FR m nt fr tmps →
    cargs.length = ps.length ∧ FR m nt fr' ((ps.zip cargs).foldl (fun tmps (t, a) => tmps.setIfInBounds t a) tmps)
  | [], args, cargs, fr, fr', tmps, h, ha, hf => by
    cases ha with
    | nil => simp only [bindParams, Option.some.injEq] at h; subst h; exact ⟨rfl, hf⟩
    | cons _ _ _ _ _ _ => simp [bindParams] at h
  | p :: ps, args, cargs, fr, fr', tmps, h, ha, hf => by
    cases ha with
    | nil => simp [bindParams] at h
    | cons a v l l' h1 h2 =>
      simp only [bindParams] at h
      cases hp : Nat.blt p nt with
      | false => simp [hp] at h
      | true =>
        simp only [hp, cond_true] at h
        obtain ⟨g1, g2⟩ := bind_fr ps h h2 (hf.set (blt_lt hp) h1)
        exact ⟨by simp [g1], by simpa using g2⟩

/-- One level of the evaluator. -/
def stepN (P : Program) (ev : Task → M AV) : Task → M AV
  | .call f args => match P.funcs[f]? with
    | some fn => match fn.body with
      | some c => do
        let p ← den P ev (max args.length fn.ntmps) false c (fillTr args 0 .nil)
        match p.1 with
        | .exit _ => failM
        | _ => do
          let l ← resultsA P p.2 fn.results.toList
          pure (tupA l)
      | none => failM
    | none => failM
  | .round l args => do
    let L ← look l getLoopO
    match bindParams L.nt L.tmps L.params.toList args with
    | some fr => do
      let p ← den P ev L.nt true L.assign fr
      match p.1 with
      | .normal => do
        upd l (setLoopO fun L => match L.state with | .ready => some { L with state := .busy } | _ => none)
        let q ← den P ev L.nt true L.body p.2
        match q.1 with
        | .normal => do
          upd l (setLoopO fun L => some { L with state := .ready, pending := .normal })
          pure (.bool true)
        | e => do
          upd l (setLoopO fun L => some { L with state := .done, pending := e })
          pure (.bool false)
      | _ => failM
    | none => failM

theorem evalN_step (P : Program) (n : Nat) (t : Task) : evalN P (n + 1) t = stepN P (evalN P n) t := by cases t <;> rfl

theorem stepN_ok (hext : ExtOk P) {ev : Task → M AV} (hev : EvOk P ev) : EvOk P (stepN P ev) := by
    refine ⟨?_, ?_⟩
    · intro f args s v s' h m w cargs hr ha hf
      simp only [stepN] at h
      split at h
      · rename_i fn hfn
        split at h
        · rename_i c hb
          obtain ⟨p, s1, h1, h2⟩ := bind_ok h
          obtain ⟨f1, f2⟩ := Fresh.split h1 h2 hf
          refine callsIn_of_wp_marks hfn hb trivial ?_
          have hden := den_sim hext hev none w.heap.size (max args.length fn.ntmps) c
          refine hden (a := { tmps := _, defers := [] }) h1 hr (enter_fr ha fn.ntmps) trivial (Nat.le_refl _) f1 _ fun m1 a1 w1 e1 r1 fr1 d1 => ?_
          have hleave : (resultsA P p.2 fn.results.toList >>= fun l => pure (tupA l)).run s1 = .ok v s' → LeavesInM Fence.wide 0 P fn a1.tmps (Back m w s' v) a1.defers .returning w1 := by
            intro h2
            obtain ⟨l, s2, h3, h4⟩ := bind_ok h2
            obtain ⟨rfl, rfl⟩ := pure_ok h4
            refine marks_leave a1.defers e1 r1 d1 fun w2 e2 r2 => ?_
            obtain ⟨l', g1, g2, g3⟩ := results_sim fr1 _ h3 r2
            refine ⟨_, ?_, m1, _, rfl, e2, by rw [g3]; exact r2, tupA_rel g2⟩
            rw [results_eq, Sem.run_bind]
            simp only [map_eq_pure_bind, Sem.run_bind, g1, Result.andThen_ok, Sem.run_pure]
          obtain ⟨pe, pf⟩ := p
          cases pe with
          | normal => exact hleave h2
          | exit id => exact (fail_ok h2).elim
          | ret => exact hleave h2
        · exact (fail_ok h).elim
      · exact (fail_ok h).elim
    · intro l args s v s' h m w cargs hr ha hf B t e hm
      simp only [stepN] at h
      obtain ⟨L, s1, h1, h2⟩ := bind_ok h
      obtain ⟨o, g1, g2, g3, g4⟩ := look_ok h1
      have hfr1 := hf.right h1
      cases o with
      | row r => simp [getLoopO] at g2
      | map es g => simp [getLoopO] at g2
      | iter i => simp [getLoopO] at g2
      | loop L0 =>
        simp only [getLoopO, Option.some.injEq] at g2; subst g2
        obtain ⟨_, hL⟩ := hr.obj _ _ g1
        obtain ⟨fn0, tmps0, pend0, defers0, q1, q2, q3⟩ := hL _ _ _ hm
        split at h2
        · rename_i fr hbind
          obtain ⟨b1, b2⟩ := bind_fr L0.params.toList hbind ha q2
          refine ⟨_, q1, by simpa using b1, ?_⟩
          have hz : (L0.params.zip cargs.toArray).foldl (fun tmps (t, a) => tmps.setIfInBounds t a) tmps0 = (L0.params.toList.zip cargs).foldl (fun tmps (t, a) => tmps.setIfInBounds t a) tmps0 := by
            rw [← Array.foldl_toList]; simp
          simp only
          rw [hz]
          refine roundIn_of_wpIn trivial ?_
          obtain ⟨p, s2, h3, h4⟩ := bind_ok h2
          obtain ⟨f3, f4⟩ := Fresh.split h3 h4 hfr1
          have hr1 : Rel m s1.heap.get w := by rw [g3]; exact hr
          have hden := den_sim hext hev (some B) 0 L0.nt L0.assign
          refine hden (a := { tmps := _, defers := [] }) h3 hr1 b2 trivial (Nat.zero_le _) f3 _ fun m1 a1 w1 e1 r1 fr1 d1 => ?_
          obtain ⟨pe, pf⟩ := p
          cases pe with
          | exit id => exact (fail_ok h4).elim
          | ret => exact (fail_ok h4).elim
          | normal =>
            obtain ⟨_, s3, h5, h6⟩ := bind_ok h4
            obtain ⟨f5, f6⟩ := Fresh.split h5 h6 f4
            obtain ⟨o, o', k1, k2, k3, k4⟩ := upd_ok h5
            cases o with
            | row r => simp [setLoopO] at k2
            | map es g => simp [setLoopO] at k2
            | iter i => simp [setLoopO] at k2
            | loop L1 =>
              obtain ⟨_, hL1⟩ := r1.obj _ _ k1
              have hm1 := e1.le _ _ _ hm
              obtain ⟨fn1, tmps1, pend1, defers1, p1, p2, p3⟩ := hL1 _ _ _ hm1
              have hst : L1.state = .ready ∧ o' = .loop { L1 with state := .busy } := by
                simp only [setLoopO] at k2
                revert k2
                cases hs : L1.state <;> intro k2 <;> simp_all
              obtain ⟨hst, rfl⟩ := hst
              obtain ⟨e2, r2⟩ := turn_loop (L' := { L1 with state := .busy }) (r' := { state := .busy, pending := pend1, fn := fn1, tmps := tmps1, params := L1.params, assign := L1.assign, body := L1.body, defers := defers1 }) r1 k1 hm1 p1 (fun w' hw' =>
                  ⟨(r1.obj _ _ k1).1, fun B t e hh => by rw [hm1] at hh; cases hh; exact ⟨fn1, tmps1, pend1, defers1, hw', p2, p3⟩⟩)
              refine ⟨World.putObj w1 B (.loop { state := .busy, pending := pend1, fn := fn1, tmps := tmps1, params := L1.params, assign := L1.assign, body := L1.body, defers := defers1 }), ?_, ?_⟩
              · simp only [Instr.beginRound, Sem.run_bind, run_getLoop p1, Result.andThen_ok, run_setLoop p1, hst]
                rfl
              · obtain ⟨q, s4, h7, h8⟩ := bind_ok h6
                obtain ⟨f7, f8⟩ := Fresh.split h7 h8 f6
                have hden2 := den_sim hext hev (some B) 0 L0.nt L0.body
                refine hden2 h7 (r2.congr fun x => by rw [k3, Tr.get_set]) (fr1.mono e2.le) (d1.ext e2) (Nat.zero_le _) f7 _ fun m3 a3 w3 e3 r3 fr3 d3 => ?_
                have eall := (e1.trans e2).trans e3
                have hend : ∀ (pe : AExit) (pend : Option Code) (st : LoopState) (v' : AV), PRel pe pend → (upd l (setLoopO fun L => some { L with state := st, pending := pe }) >>= fun _ => pure v').run s4 = .ok v s' → (st = if pend.isNone then .ready else .done) → VR m3 v' (.bool pend.isNone) →
                    ∃ v w', (Instr.endRound B pend).run P w3 = .ok v w' ∧ Back m w s' v'  (.returned v) w' := by
                  intro pe pend st v' hp hu hst hv
                  obtain ⟨_, s5, h9, h10⟩ := bind_ok hu
                  obtain ⟨rfl, rfl⟩ := pure_ok h10
                  obtain ⟨o, o', j1, j2, j3, j4⟩ := upd_ok h9
                  cases o with
                  | row r => simp [setLoopO] at j2
                  | map es g => simp [setLoopO] at j2
                  | iter i => simp [setLoopO] at j2
                  | loop L3 =>
                    simp only [setLoopO, Option.some.injEq, Prod.mk.injEq, true_and] at j2
                    subst j2
                    obtain ⟨_, hL3⟩ := r3.obj _ _ j1
                    have hm3 := eall.le _ _ _ hm
                    obtain ⟨fn3, tmps3, pend3, defers3, u1, u2, u3⟩ := hL3 _ _ _ hm3
                    obtain ⟨e4, r4⟩ := turn_loop (L' := { L3 with state := st, pending := pe }) (r' := { state := st, pending := pend, fn := fn3, tmps := tmps3, params := L3.params, assign := L3.assign, body := L3.body, defers := defers3 }) r3 j1 hm3 u1 (fun w' hw' =>
                      ⟨(r3.obj _ _ j1).1, fun B t e hh => by rw [hm3] at hh; cases hh; exact ⟨fn3, tmps3, pend, defers3, hw', u2, hp⟩⟩)
                    refine ⟨.bool pend.isNone, World.putObj w3 B (.loop { state := st, pending := pend, fn := fn3, tmps := tmps3, params := L3.params, assign := L3.assign, body := L3.body, defers := defers3 }), ?_, m3, _, rfl, eall.trans e4, r4.congr (fun x => by rw [j3, Tr.get_set]), hv⟩
                    simp only [Instr.endRound, Sem.run_bind, run_getLoop u1, Result.andThen_ok, run_setLoop u1, hst]
                    rfl
                obtain ⟨qe, qf⟩ := q
                cases qe with
                | normal =>
                  have hv : v = .bool true := by
                    obtain ⟨_, s5, h9, h10⟩ := bind_ok h8
                    obtain ⟨rfl, _⟩ := pure_ok h10
                    rfl
                  subst hv
                  exact hend .normal none .ready _ rfl h8 rfl (.bool _)
                | exit id =>
                  have hv : v = .bool false := by
                    obtain ⟨_, s5, h9, h10⟩ := bind_ok h8
                    obtain ⟨rfl, _⟩ := pure_ok h10
                    rfl
                  subst hv
                  exact hend (.exit id) (some (.exit id)) .done _ rfl h8 rfl (.bool _)
                | ret =>
                  have hv : v = .bool false := by
                    obtain ⟨_, s5, h9, h10⟩ := bind_ok h8
                    obtain ⟨rfl, _⟩ := pure_ok h10
                    rfl
                  subst hv
                  exact hend .ret (some .ret) .done _ rfl h8 rfl (.bool _)
        · exact (fail_ok h2).elim

theorem evalN_ok (hext : ExtOk P) : ∀ n, EvOk P (evalN P n)
  | 0 => ⟨fun f args s v s' h => (fail_ok h).elim, fun l args s v s' h => (fail_ok h).elim⟩
  | n + 1 => by
    have h := stepN_ok hext (evalN_ok hext n)
    have e : evalN P (n + 1) = stepN P (evalN P n) := funext fun t => evalN_step P n t
    rw [e]; exact h

def st0 : St := { heap := .nil, next := 0, rd := 0, wr := 0 }

theorem Ext.grown {w w' : World} {m' : Inj} (h : Ext (fun _ _ => none) w m' w') : Grown w w' := by
  refine ⟨⟨h.os, h.output, fun i hi => ?_⟩, h.frozen, h.size⟩
  rw [h.same i hi (fun _ _ _ _ hh => by cases hh)]
  split <;> simp_all

/-- **THE EVALUATOR's WORD IS THE MODEL's.** -/
theorem calls_of_eval (hext : ExtOk P) {n : Nat} {f : FuncId} {avs : List AV} {cargs : List Value} {s' : St} {w : World} (h : (evalN P n (.call f avs)).run st0 = .ok (.bool true) s')
    (ha : VRs (fun _ _ => none) avs cargs) : Calls P f cargs.toArray w fun e w' => e = .returned (.bool true) ∧ Grown w w' := by
  have hr : Rel (fun _ _ => none) st0.heap.get w := Rel.empty w
  have hf : Fresh st0 s' := fun b _ _ => rfl
  have := (evalN_ok hext n).call f avs st0 _ s' h _ w cargs hr ha hf
  refine (callsIn_wide (n := 0)).1 (this.mono ?_)
  rintro e w' ⟨m', v', rfl, he, _, hv⟩
  cases hv
  exact ⟨rfl, he.grown⟩

/-- The evaluator finds 'true'. -/
def evalsTrue (P : Program) (n : Nat) (f : FuncId) (avs : List AV) : Bool :=
  match (evalN P n (.call f avs)).run st0 with
  | .ok (.bool b) _ => b
  | _ => false

theorem calls_of_evals (hext : ExtOk P) {n : Nat} {f : FuncId} {avs : List AV} {cargs : List Value} {w : World} (h : evalsTrue P n f avs = true)
    (ha : VRs (fun _ _ => none) avs cargs) : Calls P f cargs.toArray w fun e w' => e = .returned (.bool true) ∧ Grown w w' := by
  unfold evalsTrue at h
  split at h
  · rename_i b s' he
    subst h
    exact calls_of_eval hext he ha
  · cases h

/-- The program calls no 'maps.clone'. -/
def noClone (P : Program) : Bool := P.funcs.toList.all fun fn => !(fn.body.isNone && fn.name == "maps.clone")

theorem extOk_of_noClone (h : noClone P = true) : ExtOk P := by
  intro f fn hfn hb hn
  have := List.all_eq_true.1 h fn (by rw [Array.getElem?_eq_some_iff] at hfn; obtain ⟨hlt, rfl⟩ := hfn; exact Array.getElem_mem_toList _)
  simp [hb, hn] at this

end
end Go.Ab
