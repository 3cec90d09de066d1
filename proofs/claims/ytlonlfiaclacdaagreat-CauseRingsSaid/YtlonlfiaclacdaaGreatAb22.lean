/-
  CODE FOR THE KERNEL (own work): regions and code over frames that are functions; it is the evaluator's; the rules by which it is written out.
-/
import Derived.Test.YtlonlfiaclacdaaGreatAb21
namespace Go.Ab

abbrev F := Nat → AV
abbrev Ks := F → St → R AV
abbrev Kx := AExit → F → St → R AV

noncomputable abbrev setF (f : F) (d : Nat) (v : AV) : F := fun t => ifb (Nat.beq t d) v (f t)
noncomputable abbrev putF (f : F) (d : Option Nat) (v : AV) : F := @Option.rec Nat (fun _ => F) f (fun d => setF f d v) d
/-- The values of a frame's slots. -/
abbrev frF (fr : Tr AV) : F := fun t => (fr.get t).getD undefA

theorem frF_putT (fr : Tr AV) (d : Option Nat) (v : AV) : frF (putT fr d v) = putF (frF fr) d v := by
  cases d with
  | none => rfl
  | some d =>
    funext t
    show ((fr.set d v).get t).getD undefA = ifb (Nat.beq t d) v ((fr.get t).getD undefA)
    rw [Tr.get_set, ifb_eq]
    by_cases h : t = d
    · subst h; rw [if_pos rfl, Nat.beq_refl]; rfl
    · rw [if_neg h]
      cases hb : Nat.beq t d with
      | false => rfl
      | true => exact absurd (Nat.eq_of_beq_eq_true hb) h

abbrev valF (f : F) : Operand → Option AV
  | .tmp t => some (f t)
  | .const v => absConst v
  | .global _ => none
  | .func g => some (.func (.func g) [] [])
noncomputable abbrev valsF (f : F) (l : List Operand) : Option (List AV) :=
  @List.rec Operand (fun _ => Option (List AV)) (some []) (fun o _ ih => match valF f o with
    | some a => match ih with
      | some l => some (a :: l)
      | none => none
    | none => none) l

theorem valF_eq (fr : Tr AV) (o : Operand) : valF (frF fr) o = evalO fr o := by cases o <;> rfl
theorem valsF_eq (fr : Tr AV) : ∀ l, valsF (frF fr) l = evalOs fr l
  | [] => rfl
  | o :: r => by
    have e : valsF (frF fr) (o :: r) = (match valF (frF fr) o with
      | some a => match valsF (frF fr) r with
        | some l => some (a :: l)
        | none => none
      | none => none) := rfl
    rw [e, valF_eq, valsF_eq fr r]; rfl

/-- What goes on under a guard. -/
noncomputable def kIf1 (x : AV) (X : Kv → St → R AV) (k : Kv) (s : St) : R AV := x.onBool (k undefA s) fun b => ifb b (X k s) (k undefA s)
noncomputable def kIf0 (x : AV) (X : Kv → St → R AV) (k : Kv) (s : St) : R AV := x.onBool (k undefA s) fun b => ifb b (k undefA s) (X k s)
noncomputable def kIf (x : AV) (a b : R AV) : R AV := x.onBool .fail fun c => ifb c a b

section
variable (P : Program) (e : Task → St → R AV) (nt : Nat)

noncomputable abbrev oneF (op : Op) (f : F) (k : Kv) (s : St) : R AV := match valsF f op.operands.toList with
  | some vs => kop P e op vs k s
  | none => .fail

noncomputable abbrev guardF (ops : List Oper) (o : Oper) (f : F) (k : Kv) (s : St) : R AV := match o.guard with
  | none => oneF P e o.op f k s
  | some (j, true) => (match ops[j]? with
    | some o' => (match o'.dst with
      | some d => kIf1 (f d) (oneF P e o.op f) k s
      | none => k undefA s)
    | none => k undefA s)
  | some (j, false) => (match ops[j]? with
    | some o' => (match o'.dst with
      | some d => kIf0 (f d) (oneF P e o.op f) k s
      | none => k undefA s)
    | none => k undefA s)

theorem oneF_eq (ev : Task → M AV) (op : Op) (fr : Tr AV) (k : Kv) (s : St) : oneF P (fun t => (ev t).run) op (frF fr) k s =
    bindRun (M.run (match evalOs fr op.operands.toList with | some vs => opV P ev op vs | none => failM)) k s := by
  unfold oneF
  rw [valsF_eq]
  cases evalOs fr op.operands.toList with
  | none => rfl
  | some vs => exact kop_eq P ev op vs k s

theorem guardF_eq (ev : Task → M AV) (ops : List Oper) (o : Oper) (fr : Tr AV) (k : Kv) (s : St) : guardF P (fun t => (ev t).run) ops o (frF fr) k s = bindRun (valA P ev ops fr o).run k s := by
  unfold guardF valA wantedA
  cases o.guard with
  | none => exact oneF_eq P ev _ fr k s
  | some p =>
    obtain ⟨j, w⟩ := p
    have key : ∀ (w : Bool) (d : Nat), (bif (match fr.get d with | some (.bool b) => b == w | _ => false) then (match evalOs fr o.op.operands.toList with | some vs => opV P ev o.op vs | none => failM) else pure undefA : M AV).run =
        (bif w then fun s => kIf1 (frF fr d) (oneF P (fun t => (ev t).run) o.op (frF fr)) (fun v s => .ok v s) s else fun s => kIf0 (frF fr d) (oneF P (fun t => (ev t).run) o.op (frF fr)) (fun v s => .ok v s) s) := by
      intro w d
      funext s
      have h1 : oneF P (fun t => (ev t).run) o.op (frF fr) (fun v s => .ok v s) s = M.run (match evalOs fr o.op.operands.toList with | some vs => opV P ev o.op vs | none => failM) s := by
        rw [oneF_eq]; unfold bindRun; cases M.run (match evalOs fr o.op.operands.toList with | some vs => opV P ev o.op vs | none => failM) s <;> rfl
      unfold frF
      cases fr.get d with
      | none => cases w <;> rfl
      | some v =>
        cases v with
        | bool b =>
          cases b <;> cases w
          · exact h1.symm
          · rfl
          · rfl
          · exact h1.symm
        | _ => cases w <;> rfl
    cases w with
    | true =>
      simp only
      cases ops[j]? with
      | none => rfl
      | some o' =>
        simp only
        cases o'.dst with
        | none => rfl
        | some d =>
          simp only
          refine Eq.trans (b := bindRun (fun s => kIf1 (frF fr d) (oneF P (fun t => (ev t).run) o.op (frF fr)) (fun v s => .ok v s) s) k s) ?_ (congrArg (fun x => bindRun x k s) (key true d)).symm
          have h2 : oneF P (fun t => (ev t).run) o.op (frF fr) k s = bindRun (fun s => oneF P (fun t => (ev t).run) o.op (frF fr) (fun v s => .ok v s) s) k s := by
            rw [oneF_eq]; unfold bindRun; simp only [oneF_eq]; unfold bindRun
            cases M.run (match evalOs fr o.op.operands.toList with | some vs => opV P ev o.op vs | none => failM) s <;> rfl
          generalize frF fr d = x
          cases x with
          | bool b => cases b with
            | true => exact h2
            | false => rfl
          | _ => rfl
    | false =>
      simp only
      cases ops[j]? with
      | none => rfl
      | some o' =>
        simp only
        cases o'.dst with
        | none => rfl
        | some d =>
          simp only
          refine Eq.trans (b := bindRun (fun s => kIf0 (frF fr d) (oneF P (fun t => (ev t).run) o.op (frF fr)) (fun v s => .ok v s) s) k s) ?_ (congrArg (fun x => bindRun x k s) (key false d)).symm
          have h2 : oneF P (fun t => (ev t).run) o.op (frF fr) k s = bindRun (fun s => oneF P (fun t => (ev t).run) o.op (frF fr) (fun v s => .ok v s) s) k s := by
            rw [oneF_eq]; unfold bindRun; simp only [oneF_eq]; unfold bindRun
            cases M.run (match evalOs fr o.op.operands.toList with | some vs => opV P ev o.op vs | none => failM) s <;> rfl
          generalize frF fr d = x
          cases x with
          | bool b => cases b with
            | false => exact h2
            | true => rfl
          | _ => rfl

noncomputable abbrev oF (ops : List Oper) (r : List Oper) : Ks → Ks :=
  @List.rec Oper (fun _ => Ks → Ks) (fun K => K) (fun o _ ih K f s => match fitsT nt o.dst with
    | true => guardF P e ops o f (fun v s => ih K (putF f o.dst v) s) s
    | false => .fail) r

theorem oF_eq (ev : Task → M AV) (ops : List Oper) (K : Ks) : ∀ (r : List Oper) (fr : Tr AV) (s : St),
    oF P (fun t => (ev t).run) nt ops r K (frF fr) s = bindRun (opsA P ev nt ops r fr).run (fun fr s => K (frF fr) s) s
  | [], fr, s => rfl
  | o :: r, fr, s => by
    show (match fitsT nt o.dst with | true => guardF P (fun t => (ev t).run) ops o (frF fr) (fun v s => oF P (fun t => (ev t).run) nt ops r K (putF (frF fr) o.dst v) s) s | false => .fail) = _
    unfold opsA
    cases fitsT nt o.dst with
    | false => rfl
    | true =>
      simp only
      rw [guardF_eq]
      show _ = bindRun (bindRun (valA P ev ops fr o).run fun v => (opsA P ev nt ops r (putT fr o.dst v)).run) _ s
      rw [bindRun_assoc]
      congr 1; funext v s'
      rw [← frF_putT, oF_eq ev ops K r]

/-! regions whose order is drawn -/

/-- One operation, and what it reads and writes. -/
noncomputable def kLg (X : Kv → St → R AV) (k : AV → Nat → Nat → St → R AV) (s : St) : R AV :=
  s.onSt fun heap next rd wr => @R.rec AV (fun _ => R AV) .fail (fun v s' => @St.rec (fun _ => R AV) (fun heap next rd' wr' =>
    force (Nat.lor rd rd') fun rd => force (Nat.lor wr wr') fun wr => k v rd' wr' ⟨heap, next, rd, wr⟩) s') (X (fun v s => .ok v s) ⟨heap, next, 0, 0⟩)

theorem kLg_eq (x : M AV) (X : Kv → St → R AV) (hX : ∀ s, X (fun v s => .ok v s) s = x.run s) (k : AV → Nat → Nat → St → R AV) (s : St) :
    kLg X k s = bindRun (logged x).run (fun p s => k p.1 p.2.1 p.2.2 s) s := by
  cases s with
  | mk heap next rd wr =>
    show @R.rec AV (fun _ => R AV) .fail _ (X (fun v s => .ok v s) ⟨heap, next, 0, 0⟩) = bindRun (loggedRun x.run) _ ⟨heap, next, rd, wr⟩
    rw [hX]
    unfold bindRun loggedRun
    simp only
    cases x.run ⟨heap, next, 0, 0⟩ with
    | fail => rfl
    | ok v s' =>
      cases s' with
      | mk heap' next' rd' wr' =>
        show (force (Nat.lor rd rd') fun rd => force (Nat.lor wr wr') fun wr => k v rd' wr' ⟨heap', next', rd, wr⟩) = _
        rw [force_eq, force_eq]; rfl

/-- Operations that neither read nor write the memory. -/
def pureOp : Op → Bool
  | .move _ | .assign _ | .pick .. | .build .. | .nilCheck _ | .binOp .. | .unOp .. | .convert .. | .makeInterface .. | .makeFunc .. | .fieldAddr .. | .field .. | .indexAddr .. | .index .. | .typeAssert .. | .extract .. | .slice .. => true
  | _ => false

theorem pure_run (ev : Task → M AV) (op : Op) (vs : List AV) (h : pureOp op = true) : ∃ o, opV P ev op vs = ofO o := by
  cases op <;> first | (simp [pureOp] at h; done) | skip
  all_goals
    unfold opV
    simp only
    repeat' split
    all_goals first | exact ⟨_, rfl⟩ | exact ⟨none, rfl⟩ | exact ⟨some _, rfl⟩

theorem pure_val (ev : Task → M AV) (ops : List Oper) (fr : Tr AV) (o : Oper) (h : pureOp o.op = true) : ∃ x, valA P ev ops fr o = ofO x := by
  unfold valA
  cases wantedA ops fr o with
  | false => exact ⟨some undefA, rfl⟩
  | true =>
    simp only [cond_true]
    cases evalOs fr o.op.operands.toList with
    | none => exact ⟨none, rfl⟩
    | some vs => exact pure_run P ev o.op vs h

theorem logged_pure (x : Option AV) (k : AV × Nat × Nat → St → R AV) (s : St) : bindRun (logged (ofO x)).run k s = bindRun (ofO x).run (fun v s => k (v, 0, 0) s) s := by
  cases x with
  | none => rfl
  | some v =>
    show k (v, 0, 0) { s with rd := s.rd ||| 0, wr := s.wr ||| 0 } = k (v, 0, 0) s
    simp

def unlog : Option (Nat × Nat) → Nat × Nat
  | some p => p
  | none => (0, 0)

noncomputable abbrev oDF (ops : List Oper) (r : List Oper) : (F → List (Option (Nat × Nat)) → St → R AV) → Ks :=
  @List.rec Oper (fun _ => (F → List (Option (Nat × Nat)) → St → R AV) → Ks) (fun K f s => K f [] s) (fun o _ ih K f s => match fitsT nt o.dst with
    | true => (match pureOp o.op with
      | true => guardF P e ops o f (fun v s => ih (fun f l s => K f (none :: l) s) (putF f o.dst v) s) s
      | false => kLg (guardF P e ops o f) (fun v rd wr s => ih (fun f l s => K f (some (rd, wr) :: l) s) (putF f o.dst v) s) s)
    | false => .fail) r

theorem oDF_eq (ev : Task → M AV) (ops : List Oper) : ∀ (r : List Oper) (K : F → List (Nat × Nat) → St → R AV) (fr : Tr AV) (s : St),
    oDF P (fun t => (ev t).run) nt ops r (fun f l s => K f (l.map unlog) s) (frF fr) s = bindRun (opsD P ev nt ops r fr).run (fun q s => K (frF q.1) q.2 s) s
  | [], K, fr, s => rfl
  | o :: r, K, fr, s => by
    show (match fitsT nt o.dst with
      | true => (match pureOp o.op with
        | true => guardF P (fun t => (ev t).run) ops o (frF fr) (fun v s => oDF P (fun t => (ev t).run) nt ops r (fun f l s => K f ((0, 0) :: l.map unlog) s) (putF (frF fr) o.dst v) s) s
        | false => kLg (guardF P (fun t => (ev t).run) ops o (frF fr)) (fun v rd wr s => oDF P (fun t => (ev t).run) nt ops r (fun f l s => K f ((rd, wr) :: l.map unlog) s) (putF (frF fr) o.dst v) s) s)
      | false => .fail) = _
    unfold opsD
    cases fitsT nt o.dst with
    | false => rfl
    | true =>
      simp only [cond_true]
      show _ = bindRun (bindRun (logged (valA P ev ops fr o)).run fun p => bindRun (opsD P ev nt ops r (putT fr o.dst p.1)).run fun q => pureRun (q.1, p.2 :: q.2)) _ s
      rw [bindRun_assoc]
      cases hp : pureOp o.op with
      | true =>
        simp only
        rw [guardF_eq]
        obtain ⟨x, hx⟩ := pure_val P ev ops fr o hp
        rw [hx, logged_pure]
        congr 1; funext v s'
        rw [← frF_putT, oDF_eq ev ops r (fun f l s => K f ((0, 0) :: l) s), bindRun_assoc]; rfl
      | false =>
        have hX : ∀ s, guardF P (fun t => (ev t).run) ops o (frF fr) (fun v s => .ok v s) s = (valA P ev ops fr o).run s := by
          intro s; rw [guardF_eq]; unfold bindRun; cases (valA P ev ops fr o).run s <;> rfl
        simp only
        rw [kLg_eq _ _ hX]
        congr 1; funext p s'
        rw [← frF_putT, oDF_eq ev ops r (fun f l s => K f ((p.2.1, p.2.2) :: l) s), bindRun_assoc]; rfl

/-- Does the one clash with the other? else the rest. -/
noncomputable def kClash (r1 w1 r2 w2 : Nat) (rest : Bool) : Bool := ifb (Nat.beq (Nat.land w1 (Nat.lor r2 w2)) 0) (ifb (Nat.beq (Nat.land r1 w2) 0) rest true) true
noncomputable abbrev lClashIn (m r w : Nat) (l : List (Option (Nat × Nat))) : Nat → Bool → Bool :=
  @List.rec (Option (Nat × Nat)) (fun _ => Nat → Bool → Bool) (fun _ k => k) (fun p _ ih i k => @Bool.rec (fun _ => Bool) (@Option.rec (Nat × Nat) (fun _ => Bool) (ih (Nat.succ i) k) (fun q => kClash q.1 q.2 r w (ih (Nat.succ i) k)) p) (ih (Nat.succ i) k) (Nat.testBit m i)) l
noncomputable abbrev lClashes (ls : List (Option (Nat × Nat))) : List (Option (Nat × Nat)) → List Nat → Bool :=
  @List.rec (Option (Nat × Nat)) (fun _ => List (Option (Nat × Nat)) → List Nat → Bool) (fun _ _ => false) (fun p _ ih done ms => @List.rec Nat (fun _ => Bool) true (fun m ms _ =>
    @Option.rec (Nat × Nat) (fun _ => Bool) (ih (lApp done [p]) ms) (fun q => lClashIn m q.1 q.2 done 0 (ih (lApp done [p]) ms)) p) ms) ls

theorem clash_zero (a : Nat × Nat) : clash a (0, 0) = false := by simp [clash]
theorem zero_clash (a : Nat × Nat) : clash (0, 0) a = false := by simp [clash]
theorem clashIn_zero (m : Nat) : ∀ l i, clashIn m (0, 0) l i = false
  | [], i => rfl
  | a :: l, i => by unfold clashIn; rw [clash_zero, clashIn_zero m l]; simp

theorem lClashIn_eq (m : Nat) (p : Nat × Nat) (k : Bool) : ∀ l i, lClashIn m p.1 p.2 l i k = (clashIn m p (l.map unlog) i || k)
  | [], i => rfl
  | none :: l, i => by
    show ifb (Nat.testBit m i) (lClashIn m p.1 p.2 l (i + 1) k) (lClashIn m p.1 p.2 l (i + 1) k) = ((!(Nat.testBit m i) && clash (0, 0) p) || clashIn m p (l.map unlog) (i + 1) || k)
    rw [lClashIn_eq m p k l, zero_clash, ifb_eq]
    cases Nat.testBit m i <;> simp
  | some a :: l, i => by
    show ifb (Nat.testBit m i) (lClashIn m p.1 p.2 l (i + 1) k) (kClash a.1 a.2 p.1 p.2 (lClashIn m p.1 p.2 l (i + 1) k)) = ((!(Nat.testBit m i) && clash a p) || clashIn m p (l.map unlog) (i + 1) || k)
    rw [lClashIn_eq m p k l]
    show ifb (Nat.testBit m i) _ (ifb (Nat.beq (a.2 &&& (p.1 ||| p.2)) 0) (ifb (Nat.beq (a.1 &&& p.2) 0) _ true) true) = _
    unfold clash
    cases Nat.testBit m i <;> cases Nat.beq (a.2 &&& (p.1 ||| p.2)) 0 <;> cases Nat.beq (a.1 &&& p.2) 0 <;> cases clashIn m p (l.map unlog) (i + 1) <;> cases k <;> rfl

theorem lClashes_eq : ∀ ls done ms, lClashes ls done ms = clashes (done.map unlog) (ls.map unlog) ms
  | [], done, ms => by simp only [List.map_nil]; unfold clashes; rfl
  | p :: ls, done, [] => rfl
  | none :: ls, done, m :: ms => by
    show lClashes ls (lApp done [none]) ms = (clashIn m (0, 0) (done.map unlog) 0 || clashes (done.map unlog ++ [(0, 0)]) (ls.map unlog) ms)
    rw [lClashes_eq, lApp_eq, clashIn_zero, List.map_append]; rfl
  | some p :: ls, done, m :: ms => by
    show lClashIn m p.1 p.2 done 0 (lClashes ls (lApp done [some p]) ms) = (clashIn m p (done.map unlog) 0 || clashes (done.map unlog ++ [p]) (ls.map unlog) ms)
    rw [lClashIn_eq, lClashes_eq, lApp_eq, List.map_append]; rfl

noncomputable abbrev regF (ops : List Oper) (d : Bool) (K : Ks) (f : F) (s : St) : R AV := match d with
  | false => oF P e nt ops ops K f s
  | true => (match staticOk ops && P.follows .mixedOrders with
    | true => oDF P e nt ops ops (fun f l s => ifb (lClashes l [] (befores ops [])) .fail (K f s)) f s
    | false => .fail)

/-! ### Code -/
noncomputable abbrev seqK (B : Ks) (K : Kx) : Kx := fun x f s => @AExit.rec (fun _ => R AV) (B f s) (fun id => K (.exit id) f s) (K .ret f s) x
noncomputable abbrev blockK (id : Nat) (K : Kx) : Kx := fun x f s => @AExit.rec (fun _ => R AV) (K .normal f s) (fun id' => ifb (Nat.beq id' id) (K .normal f s) (K (.exit id') f s)) (K .ret f s) x

def fuelN : Nat := 1000000
noncomputable def loopF (body : Ks → Ks) (n : Nat) : Ks := @Nat.rec (fun _ => Ks) (fun _ _ => .fail) (fun _ w => body w) n

noncomputable abbrev dF (c : Code) : Kx → Ks :=
  @Code.rec (fun _ => Kx → Ks) (fun K => K .normal) (fun _ ops d K => regF P e nt ops.toList d (K .normal)) (fun _ _ iha ihb K => iha (seqK (ihb K) K))
    (fun c _ _ iha ihb K f s => match valF f c with
      | some x => kIf x (iha K f s) (ihb K f s)
      | none => .fail)
    (fun id _ ih K => ih (blockK id K)) (fun _ ih K => loopF (fun w => ih (seqK w K)) fuelN)
    (fun _ _ _ _ _ _ _ _ _ => .fail) (fun id K => K (.exit id)) (fun _ ih => ih) (fun _ K => K .normal) (fun _ _ _ _ => .fail) (fun K => K .ret) (fun _ _ _ _ => .fail) c

theorem fuelN_eq : fuelN = loopFuel := by unfold fuelN loopFuel; rfl

def noRange : Code → Bool
  | .seq a b => noRange a && noRange b
  | .cond _ a b => noRange a && noRange b
  | .block _ c => noRange c
  | .loop c => noRange c
  | .scope c => noRange c
  | .rangeFunc .. => false
  | _ => true

theorem kIf_eq (x : AV) (a b : R AV) : kIf x a b = match x with | .bool true => a | .bool false => b | _ => .fail := by
  cases x with
  | bool b => cases b <;> rfl
  | _ => rfl

theorem dF_eq (ev : Task → M AV) : ∀ (c : Code) (K : Kx) (fr : Tr AV) (s : St), noRange c = true →
    dF P (fun t => (ev t).run) nt c K (frF fr) s = bindRun (den P ev nt false c fr).run (fun p s => K p.1 (frF p.2) s) s
  | .skip, K, fr, s, _ => rfl
  | .label _, K, fr, s, _ => rfl
  | .exit _, K, fr, s, _ => rfl
  | .ret, K, fr, s, _ => rfl
  | .goto _, K, fr, s, _ => rfl
  | .refuse _, K, fr, s, _ => rfl
  | .rangeFunc .., K, fr, s, h => by simp [noRange] at h
  | .scope c, K, fr, s, h => dF_eq ev c K fr s h
  | .region id ops d, K, fr, s, _ => by
    show regF P (fun t => (ev t).run) nt ops.toList d (K .normal) (frF fr) s = _
    cases d with
    | false =>
      show oF P (fun t => (ev t).run) nt ops.toList ops.toList (K .normal) (frF fr) s = bindRun (bindRun (opsA P ev nt ops.toList ops.toList fr).run fun fr' => pureRun (AExit.normal, fr')) _ s
      rw [oF_eq, bindRun_assoc]; rfl
    | true =>
      show (match staticOk ops.toList && P.follows .mixedOrders with | true => _ | false => _) = bindRun (bindRun (regionD P ev nt ops.toList fr).run fun fr' => pureRun (AExit.normal, fr')) _ s
      unfold regionD
      cases staticOk ops.toList && P.follows .mixedOrders with
      | false => rfl
      | true =>
        show oDF P (fun t => (ev t).run) nt ops.toList ops.toList (fun f l s => ifb (lClashes l [] (befores ops.toList [])) .fail (K .normal f s)) (frF fr) s =
          bindRun (bindRun (bindRun (opsD P ev nt ops.toList ops.toList fr).run fun q => M.run (bif clashes [] q.2 (befores ops.toList []) then failM else pure q.1)) fun fr' => pureRun (AExit.normal, fr')) _ s
        have e : (fun (f : F) (l : List (Option (Nat × Nat))) (s : St) => ifb (lClashes l [] (befores ops.toList [])) (R.fail : R AV) (K .normal f s)) =
            fun f l s => (fun (f : F) (l : List (Nat × Nat)) (s : St) => ifb (clashes [] l (befores ops.toList [])) (R.fail : R AV) (K .normal f s)) f (l.map unlog) s := by
          funext f l s; simp only [lClashes_eq, List.map_nil]
        rw [e, oDF_eq P nt ev ops.toList ops.toList (fun (f : F) (l : List (Nat × Nat)) (s : St) => ifb (clashes [] l (befores ops.toList [])) (R.fail : R AV) (K .normal f s)) fr s, bindRun_assoc, bindRun_assoc]
        congr 1; funext q s'
        simp only [ifb_eq]
        cases clashes [] q.2 (befores ops.toList []) <;> rfl
  | .seq a b, K, fr, s, h => by
    simp only [noRange, Bool.and_eq_true] at h
    show dF P (fun t => (ev t).run) nt a (seqK (dF P (fun t => (ev t).run) nt b K) K) (frF fr) s = _
    rw [dF_eq ev a _ fr s h.1]
    show _ = bindRun (bindRun (den P ev nt false a fr).run fun p => M.run (match p.1 with | .normal => den P ev nt false b p.2 | x => pure (x, p.2))) _ s
    rw [bindRun_assoc]
    congr 1; funext p s'
    obtain ⟨x, fr'⟩ := p
    cases x with
    | normal => exact dF_eq ev b K fr' s' h.2
    | exit id => rfl
    | ret => rfl
  | .cond c a b, K, fr, s, h => by
    simp only [noRange, Bool.and_eq_true] at h
    show (match valF (frF fr) c with | some x => kIf x (dF P (fun t => (ev t).run) nt a K (frF fr) s) (dF P (fun t => (ev t).run) nt b K (frF fr) s) | none => .fail) = _
    rw [valF_eq, dF_eq ev a K fr s h.1, dF_eq ev b K fr s h.2]
    show _ = bindRun (M.run (match evalO fr c with | some (.bool true) => den P ev nt false a fr | some (.bool false) => den P ev nt false b fr | _ => failM)) _ s
    cases evalO fr c with
    | none => rfl
    | some x =>
      simp only [kIf_eq]
      cases x with
      | bool b => cases b <;> rfl
      | _ => rfl
  | .block id c, K, fr, s, h => by
    show dF P (fun t => (ev t).run) nt c (blockK id K) (frF fr) s = _
    rw [dF_eq ev c _ fr s h]
    show _ = bindRun (bindRun (den P ev nt false c fr).run fun p => M.run (match p.1 with | .exit id' => pure (bif Nat.beq id' id then .normal else .exit id', p.2) | x => pure (x, p.2))) _ s
    rw [bindRun_assoc]
    congr 1; funext p s'
    obtain ⟨x, fr'⟩ := p
    cases x with
    | normal => rfl
    | exit id' =>
      show ifb (Nat.beq id' id) (K .normal (frF fr') s') (K (.exit id') (frF fr') s') = K (bif Nat.beq id' id then .normal else .exit id') (frF fr') s'
      rw [ifb_eq]
      cases Nat.beq id' id <;> rfl
    | ret => rfl
  | .loop c, K, fr, s, h => by
    have key : ∀ n fr s, loopF (fun w => dF P (fun t => (ev t).run) nt c (seqK w K)) n (frF fr) s =
        bindRun (loopN (den P ev nt false c) n fr).run (fun p s => K p.1 (frF p.2) s) s := by
      intro n
      induction n with
      | zero => intro fr s; rfl
      | succ n ih =>
        intro fr s
        show dF P (fun t => (ev t).run) nt c (seqK (loopF (fun w => dF P (fun t => (ev t).run) nt c (seqK w K)) n) K) (frF fr) s = _
        rw [dF_eq ev c _ fr s h]
        show _ = bindRun (bindRun (den P ev nt false c fr).run fun p => M.run (match p.1 with | .normal => loopN (den P ev nt false c) n p.2 | x => pure (x, p.2))) _ s
        rw [bindRun_assoc]
        congr 1; funext p s'
        obtain ⟨x, fr'⟩ := p
        cases x with
        | normal => exact ih fr' s'
        | exit id => rfl
        | ret => rfl
    rw [den_loop, ← fuelN_eq, ← key fuelN fr s]

end
end Go.Ab
