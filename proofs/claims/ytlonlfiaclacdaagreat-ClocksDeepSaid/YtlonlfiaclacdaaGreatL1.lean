/- Part of the proof of ClocksDeep (own work). -/
import Derived.Test.YtlonlfiaclacdaaGreatB3
set_option linter.all false
set_option maxRecDepth 100000
namespace Go.Vi
open Go.Ab (Tr AExit fitsT staticOk befores)
structure ES where
  fr : Tr PV
  hp : Tr Obj
  nx : Nat
def ES.f (s : ES) : Fr := fun t => (s.fr.get t).getD .undef
def ES.st (s : ES) : St := ⟨s.hp.get, s.nx⟩
def ES.put (s : ES) (d : Option Tmp) (v : PV) : ES := match d with
  | some d => { s with fr := s.fr.set d v }
  | none => s
def ES.obj (s : ES) (b : Nat) (o : Obj) : ES := { s with hp := s.hp.set b o }
def ES.new (s : ES) (o : Obj) : ES := { s with hp := s.hp.set s.nx o, nx := s.nx + 1 }
theorem ES.f_put (s : ES) (d : Option Tmp) (v : PV) : (s.put d v).f = s.f.put d v := by
  cases d with
  | none => rfl
  | some d =>
    funext t
    show ((s.fr.set d v).get t).getD _ = bif Nat.beq t d then v else (s.fr.get t).getD _
    rw [Tr.get_set, beq_if]
    split <;> rfl
theorem ES.st_put (s : ES) (d : Option Tmp) (v : PV) : (s.put d v).st = s.st := by cases d <;> rfl
theorem ES.st_obj (s : ES) (b : Nat) (o : Obj) : (s.obj b o).st = s.st.set b o := by
  show St.mk _ _ = St.mk _ _
  congr 1
  funext x
  show (s.hp.set b o).get x = bif Nat.beq x b then some o else s.hp.get x
  rw [Tr.get_set, beq_if]
theorem ES.st_new (s : ES) (o : Obj) : (s.new o).st = s.st.new o := by
  have := s.st_obj s.nx o
  show St.mk _ _ = St.mk _ _
  simp only [ES.st, St.set, ES.obj, St.mk.injEq] at this
  congr 1
  exact this.1
theorem f_of {s s' : ES} (h : s'.fr = s.fr) : s'.f = s.f := by unfold ES.f; rw [h]
def Req.runE (q : Req) (s : ES) : Option (PV × ES) := match q with
  | .val v => some (v, s)
  | .load b f => match s.hp.get b with
    | some (.box cs) => match f cs with
      | some v => some (v, s)
      | none => none
    | some (.arr _ cs) => match f cs with
      | some v => some (v, s)
      | none => none
    | _ => none
  | .store b f => match s.hp.get b with
    | some (.box cs) => match f cs with
      | some cs' => some (.undef, s.obj b (.box cs'))
      | none => none
    | some (.arr e cs) => match f cs with
      | some cs' => some (.undef, s.obj b (.arr e cs'))
      | none => none
    | _ => none
  | .box cs f => some (f s.nx, s.new (.box cs))
  | .push b n e m v => match s.hp.get b with
    | some (.own n' e') => bif Nat.beq n n' && (Nat.beq n 0 || Nat.beq e e') then some (v, s.obj b (.own (n + m) e)) else none
    | _ => none
  | .own n e f => some (f s.nx, s.new (.own n e))
  | .arr e cs f => some (f s.nx, s.new (.arr e cs))
  | .grow b e f g => match s.hp.get b with
    | some (.arr e' cs) => bif Nat.beq e e' then (match f cs with
      | some cs' => some (g s.nx, (s.obj b .dead).new (.arr e cs'))
      | none => none) else none
    | _ => none
  | _ => none
theorem Req.runE_ok {q : Req} {s : ES} {v : PV} {s' : ES} (h : q.runE s = some (v, s')) : q.run s.st = some (v, s'.st) ∧ s'.fr = s.fr := by
  have hh : s.st.heap = s.hp.get := rfl
  cases q with
  | val v => cases h; exact ⟨rfl, rfl⟩
  | load b f =>
    simp only [runE] at h
    simp only [Req.run, hh]
    split at h
    · rename_i cs hb
      simp only [hb]
      split at h
      · rename_i hv; cases h; exact ⟨by rw [hv], rfl⟩
      · cases h
    · rename_i e cs hb
      simp only [hb]
      split at h
      · rename_i hv; cases h; exact ⟨by rw [hv], rfl⟩
      · cases h
    · cases h
  | store b f =>
    simp only [runE] at h
    simp only [Req.run, hh]
    split at h
    · rename_i cs hb
      simp only [hb]
      split at h
      · rename_i hv; cases h; exact ⟨by rw [hv, ES.st_obj], rfl⟩
      · cases h
    · rename_i e cs hb
      simp only [hb]
      split at h
      · rename_i hv; cases h; exact ⟨by rw [hv, ES.st_obj], rfl⟩
      · cases h
    · cases h
  | box cs f => cases h; exact ⟨by rw [ES.st_new]; rfl, rfl⟩
  | push b n e m v =>
    simp only [runE] at h
    simp only [Req.run, hh]
    split at h
    · rename_i n' e' hb
      simp only [hb]
      cases hc : Nat.beq n n' && (Nat.beq n 0 || Nat.beq e e') with
      | false => rw [hc] at h; cases h
      | true => rw [hc] at h; cases h; exact ⟨by rw [ES.st_obj]; rfl, rfl⟩
    · cases h
  | own n e f => cases h; exact ⟨by rw [ES.st_new]; rfl, rfl⟩
  | arr e cs f => cases h; exact ⟨by rw [ES.st_new]; rfl, rfl⟩
  | grow b e f g =>
    simp only [runE] at h
    simp only [Req.run, hh]
    split at h
    · rename_i e' cs hb
      simp only [hb]
      cases hc : Nat.beq e e' with
      | false => rw [hc] at h; cases h
      | true =>
        rw [hc] at h
        simp only [cond_true] at h ⊢
        split at h
        · rename_i cs' hf
          cases h
          exact ⟨by rw [hf, ES.st_new, ES.st_obj]; rfl, rfl⟩
        · cases h
    · cases h
  | map l f => cases h
  | look b f => cases h
  | upd b f => cases h
  | lookS b f => cases h
  | updS b f => cases h
theorem loc_keeps {Step : St → PV → St → Prop} {st : St} {v : PV} {st' : St} {rd wr : List Nat} (L : Loc Step st v st' rd wr) (hf : Free st) : Free st' ∧ Grows st st' := by
  have hn := L.next
  refine ⟨fun b hb => ?_, hn, fun b hb h0 => ?_⟩
  · by_cases c : b ∈ wr
    · exact absurd (hf b (by omega)) (L.ex b (.inr c))
    · rw [L.frame b c (fun hh => by unfold newIds at hh; omega)]
      exact hf b (by omega)
  · by_cases c : b ∈ wr
    · exact absurd h0 (L.ex b (.inr c))
    · rw [L.frame b c (fun hh => by unfold newIds at hh; omega)]; exact h0
abbrev Ev (α : Type) := Except String α
abbrev CallE := Bool → FuncId → List PV → ES → Ev (PV × ES × List Nat)
section
variable (P : Program) (md : Bool) (nt : Nat) (call : CallE)
def eqB : List UInt8 → List UInt8 → Bool
  | [], [] => true
  | a :: l, b :: r => Nat.beq a.toNat b.toNat && eqB l r
  | _, _ => false
def strE (op : Op) (vs : List PV) : Option PV := match op, vs with
  | .binOp .eql _ _ _ _, [.str a, .str b] => some (.bool (eqB a.data.toList b.data.toList))
  | .binOp .neq _ _ _ _, [.str a, .str b] => some (.bool (!eqB a.data.toList b.data.toList))
  | _, _ => none
def plainE (op : Op) (vs : List PV) (s : ES) : Ev (PV × ES × List Nat × List Nat) := match strE op vs with
  | some v => .ok (v, s, [], [])
  | none => match opQ P md op vs with
    | none => .error "none"
    | some q => match q.runE s with
      | none => .error "state"
      | some (v, s') => .ok (v, s', q.rd, q.wr)
def opE (u : Bool) (op : Op) (s : ES) : Ev (PV × ES × List Nat × List Nat) := match evalOs s.f (argsOf op) with
  | none => .error "args"
  | some vs => match op with
    | .call ⟨.value (.func f), _, _⟩ => bif entersB P f then (match call u f vs s with
      | .ok (v, s', wr) => .ok (v, s', [], wr)
      | .error e => .error e) else .error "enter"
    | .call ⟨.value _, _, _⟩ => .error "value"
    | .call ⟨.invoke _ _, _, _⟩ => .error "invoke"
    | op => plainE P md op vs s
def gE (u : Bool) (ops : List Oper) (o : Oper) (s : ES) : Ev (PV × ES × List Nat × List Nat) := match o.guard with
  | none => opE P md call u o.op s
  | some (j, want) => match ops[j]? with
    | none => .ok (.undef, s, [], [])
    | some o' => match o'.dst with
      | none => .ok (.undef, s, [], [])
      | some d => match guardV (s.f d) want with
        | some true => opE P md call u o.op s
        | some false => .ok (.undef, s, [], [])
        | none => .error "guard"
def opsE (ops : List Oper) : List Oper → ES → Ev ES
  | [], s => .ok s
  | o :: r, s => bif fitsT nt o.dst then (match gE P md call true ops o s with
    | .ok (v, s', _, _) => opsE ops r (s'.put o.dst v)
    | .error e => .error (e ++ " " ++ o.pos)) else .error "fits"
def opsDE (ops : List Oper) : List Oper → ES → Ev (List Log × ES)
  | [], s => .ok ([], s)
  | o :: r, s => bif fitsT nt o.dst then (match gE P md call false ops o s with
    | .ok (v, s', rd, wr) => (match opsDE ops r (s'.put o.dst v) with
      | .ok (l, s2) => .ok ((rd, wr ++ ids s.nx s'.nx) :: l, s2)
      | .error e => .error e)
    | .error e => .error (e ++ " " ++ o.pos)) else .error "fits"
def loopE (body : ES → Ev (AExit × ES)) : Nat → ES → Ev (AExit × ES)
  | 0, _ => .error "rounds"
  | n + 1, s => match body s with
    | .ok (.normal, s') => loopE body n s'
    | r => r
def codeE (n : Nat) : Code → ES → Ev (AExit × ES)
  | .skip, s => .ok (.normal, s)
  | .label _, s => .ok (.normal, s)
  | .region _ ops d, s => match d with
    | false => (match opsE P md nt call ops.toList ops.toList s with
      | .ok s' => .ok (.normal, s')
      | .error e => .error e)
    | true => bif staticOk ops.toList && P.follows .mixedOrders then (match opsDE P md nt call ops.toList ops.toList s with
      | .ok (l, s') => bif clashesB [] l (befores ops.toList []) then .error "clash" else .ok (.normal, s')
      | .error e => .error e) else .error "orders"
  | .seq a b, s => match codeE n a s with
    | .ok (.normal, s') => codeE n b s'
    | r => r
  | .cond c a b, s => match evalO s.f c with
    | some (.bool true) => codeE n a s
    | some (.bool false) => codeE n b s
    | _ => .error "cond"
  | .block id c, s => match codeE n c s with
    | .ok (.exit id', s') => bif Nat.beq id' id then .ok (.normal, s') else .ok (.exit id', s')
    | r => r
  | .loop c, s => loopE (fun s => codeE n c s) n s
  | .scope c, s => codeE n c s
  | .exit id, s => .ok (.exit id, s)
  | .ret, s => .ok (.ret, s)
  | _, _ => .error "code"
end
def KeepsE (s s' : ES) : Prop := Free s'.st ∧ Grows s.st s'.st
theorem KeepsE.trans {a b c : ES} (h : KeepsE a b) (k : KeepsE b c) : KeepsE a c := ⟨k.1, h.2.trans k.2⟩
section
variable {P : Program} {md : Bool} {nt : Nat} {X : Mode} {call : CallE}
def CallOk (P : Program) (X : Mode) (call : CallE) : Prop := ∀ (u : Bool) (f : FuncId) (vs : List PV) (s : ES) (v : PV) (s' : ES) (wr : List Nat), call u f vs s = .ok (v, s', wr) → Free s.st →
  s'.fr = s.fr ∧ KeepsE s s' ∧ ∀ K : PV → St → List Nat → List Nat → Prop, K v s'.st [] wr → callU P X u f vs s.st K
theorem eqB_eq : ∀ a b : List UInt8, eqB a b = (a == b)
  | [], [] => rfl
  | [], _ :: _ => rfl
  | _ :: _, [] => rfl
  | a :: l, b :: r => by
    show (Nat.beq a.toNat b.toNat && eqB l r) = (a == b && l == r)
    rw [eqB_eq l r]
    congr 1
    rw [Bool.eq_iff_iff, Nat.beq_eq, beq_iff_eq, UInt8.toNat_inj]
theorem strE_ok {op : Op} {vs : List PV} {v : PV} (h : strE op vs = some v) : opQ P md op vs = some (.val v) := by
  unfold strE at h
  split at h
  · cases h
    simp only [opQ, binP, strP, ByteArray.toList_eq, eqB_eq]
  · cases h
    simp only [opQ, binP, strP, ByteArray.toList_eq, eqB_eq]
  · cases h
theorem plainE_ok {op : Op} {vs : List PV} {s : ES} {v : PV} {s' : ES} {rd wr : List Nat} (h : plainE P md op vs s = .ok (v, s', rd, wr)) (hf : Free s.st) :
    s'.fr = s.fr ∧ KeepsE s s' ∧ ∀ K : PV → St → List Nat → List Nat → Prop, K v s'.st rd wr → optP (opQ P md op vs) fun q => optP (q.run s.st) fun p => K p.1 p.2 q.rd q.wr := by
  unfold plainE at h
  split at h
  · rename_i v1 h1
    cases h
    exact ⟨rfl, ⟨hf, Grows.refl _⟩, fun K hK => by rw [strE_ok h1]; exact hK⟩
  split at h
  · cases h
  · rename_i q hq
    split at h
    · cases h
    · rename_i v' s1 hr
      cases h
      obtain ⟨h1, h2⟩ := Req.runE_ok hr
      refine ⟨h2, loc_keeps (req_loc h1) hf, fun K hK => ?_⟩
      rw [hq]
      show optP (q.run s.st) _
      rw [h1]
      exact hK
theorem opE_ok (hc : CallOk P X call) {u : Bool} {op : Op} {s : ES} {v : PV} {s' : ES} {rd wr : List Nat} (h : opE P md call u op s = .ok (v, s', rd, wr)) (hf : Free s.st) :
    s'.fr = s.fr ∧ KeepsE s s' ∧ ∀ K : PV → St → List Nat → List Nat → Prop, K v s'.st rd wr → oneP P md X u op s.f s.st K := by
  unfold opE at h
  unfold oneP
  split at h
  · cases h
  · rename_i vs hv
    rw [hv]
    show _ ∧ _ ∧ ∀ K : PV → St → List Nat → List Nat → Prop, _ → opP P md X u op vs s.st K
    split at h
    · rename_i f args ats
      cases he : entersB P f with
      | false => rw [he] at h; cases h
      | true =>
        rw [he] at h
        simp only [cond_true] at h
        split at h
        · rename_i v1 s1 wr1 hcall
          cases h
          obtain ⟨g1, g2, g3⟩ := hc _ _ _ _ _ _ _ hcall hf
          refine ⟨g1, g2, fun K hK => ?_⟩
          show (bif entersB P f then callU P X u f vs s.st K else False)
          rw [he]
          exact g3 K hK
        · cases h
    · cases h
    · cases h
    · rename_i h1 h2 h3
      obtain ⟨g1, g2, g3⟩ := plainE_ok h hf
      refine ⟨g1, g2, fun K hK => ?_⟩
      unfold opP
      split
      · exact (h1 _ _ _ rfl).elim
      · exact (h2 _ _ _ rfl).elim
      · exact (h3 _ _ _ _ rfl).elim
      · exact g3 K hK
theorem gE_ok (hc : CallOk P X call) {u : Bool} {ops : List Oper} {o : Oper} {s : ES} {v : PV} {s' : ES} {rd wr : List Nat} (h : gE P md call u ops o s = .ok (v, s', rd, wr)) (hf : Free s.st) :
    s'.fr = s.fr ∧ KeepsE s s' ∧ ∀ K : PV → St → List Nat → List Nat → Prop, K v s'.st rd wr → gP P md X u ops o s.f s.st K := by
  unfold gE at h
  unfold gP
  cases hg : o.guard with
  | none => rw [hg] at h; exact opE_ok hc h hf
  | some p =>
    obtain ⟨j, want⟩ := p
    rw [hg] at h
    simp only at h ⊢
    cases hj : ops[j]? with
    | none => rw [hj] at h; cases h; exact ⟨rfl, ⟨hf, Grows.refl _⟩, fun K hK => hK⟩
    | some o' =>
      rw [hj] at h
      simp only at h ⊢
      cases hd : o'.dst with
      | none => rw [hd] at h; cases h; exact ⟨rfl, ⟨hf, Grows.refl _⟩, fun K hK => hK⟩
      | some d =>
        rw [hd] at h
        simp only at h ⊢
        split at h
        · rename_i he
          obtain ⟨g1, g2, g3⟩ := opE_ok hc h hf
          exact ⟨g1, g2, fun K hK => by unfold pGL; rw [he]; exact g3 K hK⟩
        · rename_i he; cases h; exact ⟨rfl, ⟨hf, Grows.refl _⟩, fun K hK => by unfold pGL; rw [he]; exact hK⟩
        · cases h
theorem opsE_ok (hc : CallOk P X call) {ops : List Oper} : ∀ {rest : List Oper} {s s' : ES}, opsE P md nt call ops rest s = .ok s' → Free s.st → KeepsE s s' ∧ ∀ K : Ks, K s'.f s'.st → oP P md X nt ops rest K s.f s.st
  | [], s, s', h, hf => by cases h; exact ⟨⟨hf, Grows.refl _⟩, fun K hK => hK⟩
  | o :: rest, s, s', h, hf => by
    simp only [opsE] at h
    simp only [oP]
    cases hfit : fitsT nt o.dst with
    | false => rw [hfit] at h; cases h
    | true =>
      rw [hfit] at h
      simp only [cond_true] at h
      split at h
      · rename_i v s1 rd wr hg
        obtain ⟨g1, g2, g3⟩ := gE_ok hc hg hf
        obtain ⟨k1, k2⟩ := opsE_ok hc h (by rw [ES.st_put]; exact g2.1)
        refine ⟨g2.trans (by unfold KeepsE at k1; rw [ES.st_put] at k1; exact k1), fun K hK => g3 _ ?_⟩
        have := k2 K hK
        rw [ES.f_put, ES.st_put, f_of g1] at this
        exact this
      · cases h
theorem opsDE_ok (hc : CallOk P X call) {ops : List Oper} : ∀ {rest : List Oper} {s s' : ES} {l : List Log}, opsDE P md nt call ops rest s = .ok (l, s') → Free s.st → KeepsE s s' ∧ ∀ K : Fr → List Log → St → Prop, K s'.f l s'.st → oDP P md X nt ops rest K s.f s.st
  | [], s, s', l, h, hf => by cases h; exact ⟨⟨hf, Grows.refl _⟩, fun K hK => hK⟩
  | o :: rest, s, s', l, h, hf => by
    simp only [opsDE] at h
    simp only [oDP]
    cases hfit : fitsT nt o.dst with
    | false => rw [hfit] at h; cases h
    | true =>
      rw [hfit] at h
      simp only [cond_true] at h
      split at h
      · rename_i v s1 rd wr hg
        split at h
        · rename_i l1 s2 hr
          cases h
          obtain ⟨g1, g2, g3⟩ := gE_ok hc hg hf
          obtain ⟨k1, k2⟩ := opsDE_ok hc hr (by rw [ES.st_put]; exact g2.1)
          refine ⟨g2.trans (by unfold KeepsE at k1; rw [ES.st_put] at k1; exact k1), fun K hK => g3 _ ?_⟩
          have := k2 (fun fr l s2 => K fr ((rd, wr ++ ids s.nx s1.nx) :: l) s2) hK
          rw [ES.f_put, ES.st_put, f_of g1] at this
          exact this
        · cases h
      · cases h
theorem codeE_ok (hc : CallOk P X call) {n : Nat} : ∀ (c : Code) {s s' : ES} {x : AExit}, codeE P md nt call n c s = .ok (x, s') → Free s.st → KeepsE s s' ∧ ∀ (rg : Bool) (K : Kx), K x s'.f s'.st → codeP P md X nt c rg K s.f s.st := by
  intro c
  induction c with
  | skip => intro s s' x h hf; cases h; exact ⟨⟨hf, Grows.refl _⟩, fun rg K hK => hK⟩
  | label _ => intro s s' x h hf; cases h; exact ⟨⟨hf, Grows.refl _⟩, fun rg K hK => hK⟩
  | region id ops d =>
    intro s s' x h hf
    simp only [codeE] at h
    show _ ∧ ∀ (rg : Bool) (K : Kx), _ → regP P md X nt ops.toList d (K .normal) s.f s.st
    cases d with
    | false =>
      simp only at h
      split at h
      · rename_i s1 h1
        cases h
        obtain ⟨k1, k2⟩ := opsE_ok hc h1 hf
        exact ⟨k1, fun rg K hK => k2 _ hK⟩
      · cases h
    | true =>
      simp only at h
      simp only [regP]
      cases hs : staticOk ops.toList && P.follows .mixedOrders with
      | false => rw [hs] at h; cases h
      | true =>
        rw [hs] at h
        simp only [cond_true] at h
        split at h
        · rename_i l s1 h1
          cases hcl : clashesB [] l (befores ops.toList []) with
          | true => rw [hcl] at h; cases h
          | false =>
            rw [hcl] at h
            cases h
            obtain ⟨k1, k2⟩ := opsDE_ok hc h1 hf
            exact ⟨k1, fun rg K hK => k2 (fun fr l st => clashesB [] l (befores ops.toList []) = false ∧ K .normal fr st) ⟨hcl, hK⟩⟩
        · cases h
  | seq a b iha ihb =>
    intro s s' x h hf
    simp only [codeE] at h
    split at h
    · rename_i s1 h1
      obtain ⟨k1, k2⟩ := iha h1 hf
      obtain ⟨k3, k4⟩ := ihb h k1.1
      exact ⟨k1.trans k3, fun rg K hK => k2 rg _ (k4 rg K hK)⟩
    · rename_i hn
      obtain ⟨k1, k2⟩ := iha h hf
      refine ⟨k1, fun rg K hK => k2 rg _ ?_⟩
      cases x with
      | normal => exact (hn _ h).elim
      | exit id => exact hK
      | ret => exact hK
  | cond c a b iha ihb =>
    intro s s' x h hf
    simp only [codeE] at h
    show _ ∧ ∀ (rg : Bool) (K : Kx), _ → optP (evalO s.f c) fun x => condP x _ _
    split at h
    · rename_i he
      obtain ⟨k1, k2⟩ := iha h hf
      exact ⟨k1, fun rg K hK => by rw [he]; exact ⟨fun _ => k2 rg K hK, fun hb => by cases hb⟩⟩
    · rename_i he
      obtain ⟨k1, k2⟩ := ihb h hf
      exact ⟨k1, fun rg K hK => by rw [he]; exact ⟨(fun hb => by cases hb), fun _ => k2 rg K hK⟩⟩
    · cases h
  | block id c ih =>
    intro s s' x h hf
    simp only [codeE] at h
    split at h
    · rename_i id' s1 h1
      obtain ⟨k1, k2⟩ := ih h1 hf
      cases he : Nat.beq id' id with
      | true =>
        rw [he] at h; cases h
        refine ⟨k1, fun rg K hK => k2 rg _ ?_⟩
        show (bif Nat.beq id' id then K .normal else K (.exit id')) s'.f s'.st
        rw [he]; exact hK
      | false =>
        rw [he] at h; cases h
        refine ⟨k1, fun rg K hK => k2 rg _ ?_⟩
        show (bif Nat.beq id' id then K .normal else K (.exit id')) s'.f s'.st
        rw [he]; exact hK
    · rename_i hn
      obtain ⟨k1, k2⟩ := ih h hf
      refine ⟨k1, fun rg K hK => k2 rg _ ?_⟩
      cases x with
      | normal => exact hK
      | exit id => exact (hn _ _ h).elim
      | ret => exact hK
  | loop c ih =>
    intro s s' x h hf
    have key : ∀ m s, loopE (fun s => codeE P md nt call n c s) m s = .ok (x, s') → Free s.st → KeepsE s s' ∧ ∀ (rg : Bool) (K : Kx), K x s'.f s'.st → loopP (fun W => codeP P md X nt c rg (seqK W K)) m s.f s.st := by
      intro m
      induction m with
      | zero => intro s h; cases h
      | succ m ihm =>
        intro s h hf
        simp only [loopE] at h
        split at h
        · rename_i s1 h1
          obtain ⟨k1, k2⟩ := ih h1 hf
          obtain ⟨k3, k4⟩ := ihm s1 h k1.1
          exact ⟨k1.trans k3, fun rg K hK => k2 rg _ (k4 rg K hK)⟩
        · rename_i hn
          obtain ⟨k1, k2⟩ := ih h hf
          refine ⟨k1, fun rg K hK => k2 rg _ ?_⟩
          cases x with
          | normal => exact (hn _ h).elim
          | exit id => exact hK
          | ret => exact hK
    obtain ⟨k1, k2⟩ := key n s h hf
    exact ⟨k1, fun rg K hK => ⟨n, k2 rg K hK⟩⟩
  | scope c ih => intro s s' x h hf; obtain ⟨k1, k2⟩ := ih h hf; exact ⟨k1, fun rg K hK => k2 rg K hK⟩
  | exit id => intro s s' x h hf; cases h; exact ⟨⟨hf, Grows.refl _⟩, fun rg K hK => hK⟩
  | ret => intro s s' x h hf; cases h; exact ⟨⟨hf, Grows.refl _⟩, fun rg K hK => hK⟩
  | goto _ => intro s s' x h; cases h
  | refuse _ => intro s s' x h; cases h
  | rangeFunc _ _ _ _ _ _ => intro s s' x h; cases h
end
theorem rowsOf_get (e : Nat) : ∀ (n : Nat) (l : List PV) (i : Nat) (row : List PV), (rowsOf e n l)[i]? = some row → i < n ∧ row = (l.drop (i * e)).take e
  | 0, l, i, row, h => by simp [rowsOf] at h
  | n + 1, l, 0, row, h => by simp [rowsOf] at h; subst h; simp
  | n + 1, l, i + 1, row, h => by
    simp only [rowsOf, List.getElem?_cons_succ] at h
    obtain ⟨h1, h2⟩ := rowsOf_get e n (l.drop e) i row h
    refine ⟨by omega, ?_⟩
    rw [h2, List.drop_drop, Nat.add_mul, Nat.one_mul, Nat.add_comm]
theorem rowsOf_len (e : Nat) : ∀ (n : Nat) (l : List PV), (rowsOf e n l).length = n
  | 0, _ => rfl
  | n + 1, l => by simp [rowsOf, rowsOf_len e n]
theorem datas_len : ∀ {l k : List PV}, datas l = some k → k.length = l.length
  | [], k, h => by cases h; rfl
  | a :: l, k, h => by
    simp only [datas] at h
    split at h
    · split at h
      · rename_i hl; cases h; simp [datas_len hl]
      · cases h
    · cases h
theorem freeze_rel {m m' : J} {w w' : World} {st s' : St} {b n e : Nat} {cs k : List PV} (he : Ext m w m' w') (hr : Rel m st.heap w) (hf : Free st) (hr' : Rel m' s'.heap w')
    (hb : s'.heap b = some (.arr e cs)) (hnew : st.next ≤ b) (hno : ∀ b0, b0 < st.next → s'.heap b0 ≠ some .dead) (hk : datas cs = some k) (hl : n * e = cs.length) (hn : 0 < n) :
    ∃ m2, Ext m w m2 w' ∧ m'.le m2 ∧ Rel m2 (s'.set b .dead).heap w' ∧ ∀ v, VR m' (.bsl b n) v → VR m2 (.lst (rowsOf e n k)) v := by
  obtain ⟨B, vs, ty, h1, h2, h3, h4⟩ := hr'.arr b e cs hb
  have hlive : s'.heap b ≠ some .dead := by rw [hb]; exact not_dead rfl
  have hK0 : m'.K B = none := hr'.bK b B h1 hlive
  have hset : ∀ x, (s'.set b .dead).heap x = bif Nat.beq x b then some .dead else s'.heap x := fun _ => rfl
  have hb1 : (s'.set b .dead).heap b = some .dead := by rw [hset, Nat.beq_refl]; rfl
  have hne : ∀ {x : Nat}, x ≠ b → (s'.set b .dead).heap x = s'.heap x := fun {x} hx => by rw [hset, beq_if, if_neg hx]
  have hmiss : ∀ {x : Nat}, (s'.set b .dead).heap x ≠ some .dead → x ≠ b ∧ s'.heap x ≠ some .dead := fun {x} hx => by
    have : x ≠ b := fun c => hx (by rw [c]; exact hb1)
    exact ⟨this, by rw [← hne this]; exact hx⟩
  let ks := vs.toList.take cs.length
  let m2 : J := { m' with K := fun X => if X = B then some ks else m'.K X }
  have hK2 : ∀ {X : Nat} {l : List Value}, m'.K X = some l → m2.K X = some l := fun {X l} hX => by
    show (if X = B then some ks else m'.K X) = _
    rw [if_neg (fun c => by rw [c, hK0] at hX; cases hX)]; exact hX
  have hle : m'.le m2 := ⟨fun _ _ h => h, fun X l hX => ⟨l, hK2 hX, List.prefix_refl _⟩, fun b B n e t h => ⟨B, n, t, h, Nat.le_refl _, fun _ => ⟨rfl, rfl⟩⟩, fun _ _ _ => rfl⟩
  have hBnew : w.heap.size ≤ B := by
    rcases he.bimg b B h1 with ⟨b0, h0⟩ | h0
    · obtain ⟨o, ho, _⟩ := hr.bdom b0 B h0
      have hlt : b0 < st.next := by
        refine Nat.lt_of_not_le fun c => ?_
        rw [hf b0 c] at ho; cases ho
      have := hr'.bapart b0 b B (he.le.box b0 B h0) h1 (hno b0 hlt) hlive
      omega
    · exact h0
  have hd : DRs m'.K k ks := h4.toData hk
  have hlen : k.length = ks.length := hd.length
  have hlk := datas_len hk
  have hrel : Rel m2 (s'.set b .dead).heap w' := by
    refine ⟨fun x o hx => ?_, hr'.env, fun x n e hx => ?_, fun X l hX => ?_, fun x X hx => ?_, fun x y hx => ?_, fun x y X hx hy hx2 hy2 => hr'.bapart x y X hx hy (hmiss hx2).2 (hmiss hy2).2, hr'.oapart, fun x X hx hx2 => ?_, hr'.blt⟩
    · by_cases c : x = b
      · rw [c, hb1] at hx; cases hx; trivial
      · rw [hne c] at hx; exact (hr'.obj x o hx).keep hle fun _ _ _ => rfl
    · have c : x ≠ b := fun c => by rw [c, hb1] at hx; cases hx
      rw [hne c] at hx
      rcases hr'.own x n e hx with h0 | ⟨h0, B', t, g1, l, g2, g3⟩
      · exact .inl h0
      · exact .inr ⟨h0, B', t, g1, l, hK2 g2, g3⟩
    · by_cases c : X = B
      · subst c
        have : (if X = X then some ks else m'.K X) = some l := hX
        rw [if_pos rfl] at this; cases this
        exact ⟨vs, ty, _, h3, List.take_prefix _ _⟩
      · have : (if X = B then some ks else m'.K X) = some l := hX
        rw [if_neg c] at this
        exact hr'.fro X l this
    · by_cases c : x = b
      · rw [c]; exact ⟨_, hb1, rfl⟩
      · rw [hne c]; exact hr'.bdom x X hx
    · have c : x ≠ b := fun c => by
        obtain ⟨n', e', ho⟩ := hr'.odom x y hx
        rw [c, hb] at ho; cases ho
      rw [hne c]; exact hr'.odom x y hx
    · obtain ⟨g1, g2⟩ := hmiss hx2
      show (if X = B then some ks else m'.K X) = none
      rw [if_neg (fun c => g1 (hr'.bapart x b B (by rw [← c]; exact hx) h1 g2 hlive))]
      exact hr'.bK x X hx g2
  have hext : Ext m w m2 w' := ⟨he.le.trans hle, he.size, he.bimg, he.oimg, fun X l hX => by
    by_cases c : X = B
    · exact .inr (.inr (by rw [c]; exact hBnew))
    · have : (if X = B then some ks else m'.K X) = some l := hX
      rw [if_neg c] at this
      exact he.knew X l this, he.same, he.os, he.output, he.frozen, he.env⟩
  refine ⟨m2, hext, hle, hrel, fun v hv' => ?_⟩
  · cases hv' with
    | data _ _ hd => cases hd
    | bsl _ _ B' c g1 g2 g3 =>
      rw [h1] at g1; cases g1
      have hd2 : DRs m2.K k ks := hd.mono hle.K
      have : ∀ {L : Nat}, L = (rowsOf e n k).length → VR m2 (.lst (rowsOf e n k)) (.slice (some ⟨B, 0, none⟩) L c) := fun {L} hL => by
        subst hL
        refine .data _ _ (.lst _ B 0 c e ks (if_pos rfl) (by rw [rowsOf_len]; exact hn) (by rw [rowsOf_len]; exact g2) (by rw [rowsOf_len]; omega) (fun i row hi => ?_) fun i row hi => ?_)
        · obtain ⟨hi1, rfl⟩ := rowsOf_get e n k i row hi
          have := row_le (o := 0) (sz := e) (L := k.length) hi1 (by rw [hlk]; omega)
          simp; omega
        · obtain ⟨hi1, rfl⟩ := rowsOf_get e n k i row hi
          rw [Nat.zero_add]
          exact (hd2.drop _).take _
      exact this (rowsOf_len e n k).symm
theorem SW.freeze {E : Env} {P : Program} {f : FuncId} {args : List PV} {st st' : St} {b n e : Nat} {cs k : List PV} (h : SW E P f args st fun r s => r = .bsl b n ∧ s = st') (hf : Free st)
    (hb : st'.heap b = some (.arr e cs)) (hnew : st.next ≤ b) (hno : ∀ b0, b0 < st.next → st'.heap b0 ≠ some .dead) (hk : datas cs = some k) (hl : n * e = cs.length) (hn : 0 < n) :
    SW E P f args st fun r s => r = .lst (rowsOf e n k) ∧ s = st'.set b .dead := by
  intro m w cargs hE hr hv
  refine (h m w cargs hE hr hv).mono ?_
  rintro en w' ⟨m', v, r, s', rfl, he, hr', hv', hg, hfr, rfl, rfl⟩
  obtain ⟨m2, hext, _, hrel, hval⟩ := freeze_rel he hr hf hr' hb hnew hno hk hl hn
  have hne : ∀ {x : Nat}, x ≠ b → (s'.set b .dead).heap x = s'.heap x := fun {x} hx => by
    show (bif Nat.beq x b then some Obj.dead else s'.heap x) = _
    rw [beq_if, if_neg hx]
  have hbn : b < s'.next := by
    refine Nat.lt_of_not_le fun c => ?_
    rw [hfr b c] at hb; cases hb
  exact ⟨m2, v, _, _, rfl, hext, hrel, hval v hv', ⟨hg.next, fun x hx h0 => by rw [hne (by omega)]; exact hg.none x hx h0⟩, fun x hx => by
    have hx : s'.next ≤ x := hx
    rw [hne (by omega)]; exact hfr x hx, rfl, rfl⟩
theorem VRs.set_at {m : J} {p : PV} : ∀ {l : List PV} {l' : List Value} (i : Nat), VRs m l l' → (∀ v, l'[i]? = some v → VR m p v) → VRs m (l.set i p) l'
  | _, _, _, .nil, _ => .nil
  | _, _, 0, .cons a v l l' h1 h2, h => .cons _ _ _ _ (h v rfl) h2
  | _, _, i + 1, .cons a v l l' h1 h2, h => .cons _ _ _ _ h1 (VRs.set_at i h2 fun v hv => h v (by simpa using hv))
theorem SW.freezeC {E : Env} {P : Program} {f : FuncId} {args : List PV} {st st' : St} {rv : PV} {b b' n e e' i : Nat} {cs cs' k : List PV} (h : SW E P f args st fun r s => r = rv ∧ s = st') (hf : Free st)
    (hb : st'.heap b = some (.arr e cs)) (hnew : st.next ≤ b) (hno : ∀ b0, b0 < st.next → st'.heap b0 ≠ some .dead) (hk : datas cs = some k) (hl : n * e = cs.length) (hn : 0 < n)
    (hb' : st'.heap b' = some (.arr e' cs')) (hi : cs'[i]? = some (.bsl b n)) (hbb : b' ≠ b) (hnew' : st.next ≤ b') :
    SW E P f args st fun r s => r = rv ∧ s = (st'.set b .dead).set b' (.arr e' (cs'.set i (.lst (rowsOf e n k)))) := by
  intro m w cargs hE hr hv
  refine (h m w cargs hE hr hv).mono ?_
  rintro en w' ⟨m', v, r, s', rfl, he, hr', hv', hg, hfr, rfl, rfl⟩
  obtain ⟨m2, hext, hle, hrel, hval⟩ := freeze_rel he hr hf hr' hb hnew hno hk hl hn
  have hne : ∀ {x : Nat}, x ≠ b → (s'.set b .dead).heap x = s'.heap x := fun {x} hx => by
    show (bif Nat.beq x b then some Obj.dead else s'.heap x) = _
    rw [beq_if, if_neg hx]
  have hb2 : (s'.set b .dead).heap b' = some (.arr e' cs') := (hne hbb).trans hb'
  have hbox : ∀ x, m2.box x = m'.box x ∨ True := fun _ => .inr trivial
  have hrel2 : Rel m2 ((s'.set b .dead).set b' (.arr e' (cs'.set i (.lst (rowsOf e n k))))).heap w' := by
    obtain ⟨B, vs, ty, h1, h2, h3, h4⟩ := hr'.arr b' e' cs' hb'
    obtain ⟨v0, hv0, hvr⟩ := h4.get hi
    have hset : ∀ x, ((s'.set b .dead).set b' (.arr e' (cs'.set i (.lst (rowsOf e n k))))).heap x = if x = b' then some (.arr e' (cs'.set i (.lst (rowsOf e n k)))) else (s'.set b .dead).heap x := fun x => by
      show (bif Nat.beq x b' then _ else _) = _
      rw [beq_if]
    have hd : ∀ {x}, ((s'.set b .dead).set b' (.arr e' (cs'.set i (.lst (rowsOf e n k))))).heap x ≠ some .dead → (s'.set b .dead).heap x ≠ some .dead := fun {x} hx c => by
      rw [hset] at hx
      by_cases hxb : x = b'
      · subst hxb; rw [hb2] at c; cases c
      · rw [if_neg hxb] at hx; exact hx c
    refine ⟨fun x o hx => ?_, hrel.env, fun x n e' hx => ?_, hrel.fro, fun x X hx => ?_, fun x y hx => ?_, fun x y X hx hy h1 h2 => hrel.bapart x y X hx hy (hd h1) (hd h2), hrel.oapart, fun x X hx h1 => hrel.bK x X hx (hd h1), hrel.blt⟩
    · rw [hset] at hx
      by_cases hxb : x = b'
      · rw [if_pos hxb] at hx; cases hx
        subst hxb
        refine ⟨B, vs, ty, hle.box _ _ h1, (hle.siz _ _ h1).trans h2, h3, ?_⟩
        rw [List.length_set]
        refine (h4.mono hle).set_at i fun v hv => ?_
        rw [hv0] at hv; cases hv
        exact hval _ hvr
      · rw [if_neg hxb] at hx; exact hrel.obj x o hx
    · rw [hset] at hx
      by_cases hxb : x = b'
      · rw [if_pos hxb] at hx; cases hx
      · rw [if_neg hxb] at hx; exact hrel.own x n e' hx
    · obtain ⟨o, h1, h2⟩ := hrel.bdom x X hx
      rw [hset]
      by_cases hxb : x = b'
      · rw [if_pos hxb]; exact ⟨_, rfl, rfl⟩
      · rw [if_neg hxb]; exact ⟨o, h1, h2⟩
    · obtain ⟨n, e', ho⟩ := hrel.odom x y hx
      rw [hset]
      by_cases hxb : x = b'
      · subst hxb; rw [hb2] at ho; cases ho
      · rw [if_neg hxb]; exact ⟨n, e', ho⟩
  have hlt : ∀ {x e0 : Nat} {l : List PV}, s'.heap x = some (.arr e0 l) → x < s'.next := fun {x e0 l} hx => by
    refine Nat.lt_of_not_le fun c => ?_
    rw [hfr x c] at hx; cases hx
  have hbn := hlt hb
  have hbn' := hlt hb'
  have hne2 : ∀ {x : Nat}, x ≠ b → x ≠ b' → ((s'.set b .dead).set b' (.arr e' (cs'.set i (.lst (rowsOf e n k))))).heap x = s'.heap x := fun {x} hx hx' => by
    show (bif Nat.beq x b' then _ else _) = _
    rw [beq_if, if_neg hx']; exact hne hx
  exact ⟨m2, v, _, _, rfl, hext, hrel2, hv'.mono hle, ⟨hg.next, fun x hx h0 => by rw [hne2 (by omega) (by omega)]; exact hg.none x hx h0⟩, fun x hx => by
    have hx : s'.next ≤ x := hx
    rw [hne2 (by omega) (by omega)]; exact hfr x hx, rfl, rfl⟩
def trOf : List PV → Nat → Tr PV → Tr PV
  | [], _, t => t
  | v :: r, i, t => trOf r (i + 1) (t.set i v)
theorem trOf_get : ∀ (vs : List PV) (i : Nat) (t : Tr PV) (j : Nat), (trOf vs i t).get j = if i ≤ j ∧ j < i + vs.length then vs[j - i]? else t.get j
  | [], i, t, j => by rw [if_neg (by simp <;> omega)]; rfl
  | v :: r, i, t, j => by
    show (trOf r (i + 1) (t.set i v)).get j = _
    rw [trOf_get r, Tr.get_set]
    by_cases h : j = i
    · subst h
      rw [if_neg (by omega), if_pos rfl, if_pos (by simp), Nat.sub_self]; rfl
    · rw [if_neg h]
      by_cases h2 : i + 1 ≤ j ∧ j < i + 1 + r.length
      · rw [if_pos h2, if_pos (by simp; omega), show j - i = (j - (i + 1)) + 1 by omega]; rfl
      · rw [if_neg h2, if_neg (by simp; omega)]
theorem trOf_f (vs : List PV) (h : Tr Obj) (n : Nat) : (ES.mk (trOf vs 0 .nil) h n).f = frameOf vs := by
  funext t
  show ((trOf vs 0 .nil).get t).getD .undef = (vs[t]?).getD .undef
  rw [trOf_get]
  split
  · rfl
  · rename_i hn
    rw [Tr.get_nil, List.getElem?_eq_none (by omega)]
def cutT (t : Tr Obj) : List Nat → Tr Obj → Tr Obj
  | [], a => a
  | b :: r, a => cutT t r (match t.get b with
    | some o => a.set b o
    | none => a)
theorem cutT_get (t : Tr Obj) : ∀ (l : List Nat) (a : Tr Obj) (x : Nat), (cutT t l a).get x = if x ∈ l ∧ t.get x ≠ none then t.get x else a.get x
  | [], a, x => by simp [cutT]
  | b :: r, a, x => by
    show (cutT t r _).get x = _
    rw [cutT_get t r]
    by_cases h : x ∈ r ∧ t.get x ≠ none
    · rw [if_pos h, if_pos ⟨List.mem_cons_of_mem _ h.1, h.2⟩]
    · rw [if_neg h]
      by_cases hx : x = b
      · subst hx
        cases ht : t.get x with
        | none => rw [if_neg (by simp)]
        | some o => rw [if_pos (by simp)]; show (a.set x o).get x = _; rw [Tr.get_set, if_pos rfl]
      · have : (match t.get b with
          | some o => a.set b o
          | none => a).get x = a.get x := by
          cases t.get b with
          | none => rfl
          | some o => show (a.set b o).get x = _; rw [Tr.get_set, if_neg hx]
        rw [this, if_neg]
        rintro ⟨h1, h2⟩
        exact h ⟨(List.mem_cons.1 h1).resolve_left hx, h2⟩
mutual
def refsOf : PV → List Nat
  | .ptr b _ => [b]
  | .bsl b _ => [b]
  | .map b => [b]
  | .acc b _ => [b]
  | .agg l => refsOfL l
  | .tuple l => refsOfL l
  | .fn _ l => refsOfL l
  | .iface _ v => refsOf v
  | _ => []
def refsOfL : List PV → List Nat
  | [] => []
  | a :: l => refsOf a ++ refsOfL l
end
def reachE (t : Tr Obj) : Nat → List Nat → List Nat → List Nat
  | n + 1, b :: r, a => bif a.contains b then reachE t n r a else reachE t n ((match t.get b with
    | some (.box cs) => refsOfL cs
    | some (.arr _ cs) => refsOfL cs
    | _ => []) ++ r) (b :: a)
  | _, _, a => a
def liveE (t : Tr Obj) (n : Nat) (fp : List Nat) : Bool := fp.all fun b => Nat.blt b n && match t.get b with
  | some o => !o.isDead && o.refsIn (fun b => fp.contains b)
  | none => false
section
variable (P : Program) (mdf fz : FuncId → Bool) (ml : FuncId → Nat) (orc : FuncId → List PV → Option PV) (fu : Nat)
def thawT : Nat → Tr PV → Tr PV
  | 0, t => t
  | n + 1, t => thawT n (match t.get n with
    | some (.acc _ []) => t.set n .nil
    | _ => t)
def meltE (md : Bool) (nt : Nat) (call : CallE) : Nat → Code → ES → Ev (AExit × ES)
  | n + 1, .seq a b, s => (match codeE P md nt call fu a s with
    | .ok (.normal, s1) => meltE md nt call n b { s1 with fr := thawT nt s1.fr }
    | .ok _ => .error "melt"
    | .error e => .error e)
  | _, c, s => codeE P md nt call fu c s
def body0 (call : CallE) (f : FuncId) (vs : List PV) (s : ES) : Ev (PV × ES) := match P.funcs[f]? with
  | none => .error "func"
  | some fn => match fn.body with
    | none => .error "body"
    | some c => match meltE P fu (mdf f) (max vs.length fn.ntmps) call (ml f) c ⟨trOf vs 0 .nil, s.hp, s.nx⟩ with
      | .error e => .error e
      | .ok (.exit _, _) => .error "exit"
      | .ok (_, s1) => match resAll P s1.f s1.st fn.results.toList with
        | some l => .ok (tupP l, ⟨s.fr, s1.hp, s1.nx⟩)
        | none => .error "result"
def iceE (s : ES) (v : PV) (s' : ES) : Ev (PV × ES) := match v with
  | .bsl b n => match s'.hp.get b with
    | some (.arr e cs) => match datas cs with
      | some k => bif Nat.ble s.nx b && (Nat.beq (n * e) cs.length && (Nat.blt 0 n && (ids 0 s.nx).all fun x => match s'.hp.get x with
          | some .dead => false
          | _ => true)) then .ok (.lst (rowsOf e n k), s'.obj b .dead) else .error "ice"
      | none => .error "data"
    | _ => .error "array"
  | v => .ok (v, s')
def iceC (s : ES) (b : Nat) : Nat → ES → Ev ES
  | 0, s' => .ok s'
  | i + 1, s' => match s'.hp.get b with
    | some (.arr E CS) => match CS[i]? with
      | some (.bsl b' n) => (match s'.hp.get b' with
        | some (.arr e cs) => match datas cs with
          | some k => bif Nat.ble s.nx b' && (Nat.ble s.nx b && (!(Nat.beq b b') && (Nat.beq (n * e) cs.length && (Nat.blt 0 n && (ids 0 s.nx).all fun x => match s'.hp.get x with
            | some .dead => false
            | _ => true)))) then iceC s b i ((s'.obj b' .dead).obj b (.arr E (CS.set i (.lst (rowsOf e n k))))) else .error "iceC"
          | none => .error "dataC"
        | _ => .error "arrayC")
      | _ => iceC s b i s'
    | _ => .ok s'
def iceB : PV → Nat
  | .bsl b _ => b
  | _ => 0
def iceN (v : PV) (s' : ES) : Nat := match s'.hp.get (iceB v) with
  | some (.arr _ cs) => cs.length
  | _ => 0
def PV.thaw : PV → PV
  | .acc _ [] => .nil
  | v => v
def bodyE (call : CallE) (f : FuncId) (vs : List PV) (s : ES) : Ev (PV × ES) := match fz f with
  | true => (match body0 P mdf ml fu call f (vs.map PV.thaw) s with
    | .ok (v, s') => (match iceC s (iceB v) (iceN v s') s' with
      | .ok s2 => iceE s v s2
      | .error e => .error e)
    | .error e => .error e)
  | false => body0 P mdf ml fu call f vs s
def footE (body : ES → Ev (PV × ES)) (vs : List PV) (s : ES) (fp : List Nat) : Ev (PV × ES × List Nat) := bif refsInL (fun b => fp.contains b) vs && liveE s.hp s.nx fp then (match body ⟨s.fr, cutT s.hp fp .nil, s.nx⟩ with
  | .ok (v, s0) => bif fp.all (fun b => (s0.hp.get b).isSome) then .ok (v, ⟨s.fr, cutT s0.hp (fp ++ ids s.nx s0.nx) s.hp, s0.nx⟩, fp) else .error "lost"
  | .error e => .error e) else .error "foot"
def evalE : Nat → CallE
  | 0 => fun _ _ _ _ => .error "deep"
  | n + 1 => fun u f vs s => match orc f vs with
    | some v => .ok (v, s, [])
    | none => bif u && !fz f then (match bodyE P mdf fz ml fu (evalE n) f vs s with
      | .ok (v, s') => .ok (v, s', [])
      | .error e => .error e)
    else (match footE (bodyE P mdf fz ml fu (evalE n) f vs) vs s (reachE s.hp 1000 (refsOfL vs) []) with
      | .ok (v, s', wr) => .ok (v, s', bif u then [] else wr)
      | .error e => .error e)
end
section
variable {P : Program} {mdf fz : FuncId → Bool} {ml : FuncId → Nat} {orc : FuncId → List PV → Option PV} {fu : Nat}
theorem thawT_get {m : J} {v : Value} : ∀ (n : Nat) (t : Tr PV) (x : Nat), VR m ((t.get x).getD .undef) v → VR m (((thawT n t).get x).getD .undef) v
  | 0, t, x, h => h
  | n + 1, t, x, h => by
    refine thawT_get n _ x ?_
    split
    · rename_i b hb
      rw [Tr.get_set]
      split
      · rename_i hx
        subst hx
        rw [hb] at h
        show VR m .nil v
        replace h : VR m (.acc b []) v := h
        cases h with
        | data _ _ hd => cases hd
        | acc0 => exact .nil
        | acc _ _ _ _ _ _ _ _ _ h0 => simp at h0
      · exact h
    · exact h
def CodeS (P : Program) (nt : Nat) (c : Code) (x : AExit) (s s' : ES) : Prop :=
  ∀ (base : Nat) (m : J) (w : World) (a : Act), Rel m s.st.heap w → Free s.st → FR m nt s.f a.tmps → DOk base m w a.defers → base ≤ w.heap.size → ∀ Q : Exit → Act → World → Prop,
    (∀ m' a' w', Ext m w m' w' → Rel m' s'.st.heap w' → Free s'.st → Grows s.st s'.st → FR m' nt s'.f a'.tmps → DOk base m' w' a'.defers → Q (Go.Ab.exitOf x) a' w') → c.wpIn (Go.Ab.Fw none) 0 P Q a w
theorem codeS_of {call : CallE} (hc : CallOk P (.weak .top) call) {md : Bool} {nt : Nat} {c : Code} {x : AExit} {s s' : ES} (h : codeE P md nt call fu c s = .ok (x, s')) : CodeS P nt c x s s' := by
  intro base m w a hr hf hfr hd hb Q hQ
  obtain ⟨_, k2⟩ := codeE_ok hc c h hf
  refine code_sim nt c none base (k2 true (fun x' f st => x' = x ∧ f = s'.f ∧ st = s'.st) ⟨rfl, rfl, rfl⟩) trivial hr hf hfr hd hb Q fun m' a' w' x' fr' st' e1 e2 e3 e4 e5 e6 hk => ?_
  obtain ⟨rfl, rfl, rfl⟩ := hk
  exact hQ m' a' w' e1 e2 e3 e4 e5 e6
theorem meltE_ok {call : CallE} (hc : CallOk P (.weak .top) call) {md : Bool} {nt : Nat} : ∀ {n : Nat} {c : Code} {x : AExit} {s s' : ES}, meltE P fu md nt call n c s = .ok (x, s') → Free s.st → KeepsE s s' ∧ CodeS P nt c x s s' := by
  intro n
  induction n with
  | zero => intro c x s s' h hf; exact ⟨(codeE_ok hc c h hf).1, codeS_of hc h⟩
  | succ n ih =>
    intro c x s s' h hf
    by_cases hs : ∃ a b, c = .seq a b
    · obtain ⟨a, b, rfl⟩ := hs
      simp only [meltE] at h
      split at h
      · rename_i s1 h1
        obtain ⟨k1, _⟩ := codeE_ok hc a h1 hf
        obtain ⟨k3, k4⟩ := ih h k1.1
        refine ⟨k1.trans k3, ?_⟩
        intro base m w ac hr hf hfr hd hb Q hQ
        apply wpIn_seq
        refine codeS_of hc h1 base m w ac hr hf hfr hd hb _ fun m1 a1 w1 e1 e2 e3 e4 e5 e6 => ?_
        refine k4 base m1 w1 a1 e2 e3 ⟨e5.size, fun t => thawT_get nt s1.fr t (e5.get t)⟩ e6 (Nat.le_trans hb e1.size) Q fun m2 a2 w2 g1 g2 g3 g4 g5 g6 => ?_
        exact hQ m2 a2 w2 (e1.trans g1) g2 g3 (e4.trans g4) g5 g6
      · cases h
      · cases h
    · have h : codeE P md nt call fu c s = .ok (x, s') := by
        cases c <;> first | exact h | exact (hs ⟨_, _, rfl⟩).elim
      exact ⟨(codeE_ok hc c h hf).1, codeS_of hc h⟩
theorem sw_of_codeS {f : FuncId} {fn : Func} {c : Code} (hfn : P.funcs[f]? = some fn) (hb : fn.body = some c) {args : List PV} {x : AExit} {s s' : ES} (hfa : s.f = frameOf args) (hf : Free s.st) (hx : ∀ id, x ≠ .exit id) {l : List PV} (hl : resAll P s'.f s'.st fn.results.toList = some l)
    (h : CodeS P (max args.length fn.ntmps) c x s s') : SW .top P f args s.st fun r st => r = tupP l ∧ st = s'.st := by
  intro m w cargs hE hr hvs
  have hlen : args.length = cargs.length := hvs.length
  refine callsIn_of_wp_marks hfn hb trivial ?_
  refine h w.heap.size m w { tmps := _, defers := [] } hr hf (by rw [hfa]; exact enter_fr hvs fn.ntmps) trivial (Nat.le_refl _) _ fun m1 a1 w1 e1 r1 f1 w1' g1 d1 => ?_
  have fin : LeavesInM Fence.wide 0 P fn a1.tmps (Ends m w s.st fun r st => r = tupP l ∧ st = s'.st) a1.defers .returning w1 := by
    refine marks_leave a1.defers e1 r1 d1 fun w2 e2 r2 => ?_
    obtain ⟨l', q1, q2⟩ := resAll_sim g1 r2 hl
    refine ⟨if h : l'.toArray.size = 1 then l'.toArray[0] else .tuple l'.toArray, ?_, m1, _, tupP l, s'.st, rfl, e2, r2, tupP_rel q2, w1', f1, rfl, rfl⟩
    rw [Go.Ab.results_eq, Sem.run_bind]
    simp only [map_eq_pure_bind, Sem.run_bind, q1, Result.andThen_ok, Sem.run_pure]
  cases x with
  | normal => exact fin
  | exit id => exact (hx id rfl).elim
  | ret => exact fin
theorem body0_ok {call : CallE} (hc : CallOk P (.weak .top) call) {f : FuncId} {vs : List PV} {s : ES} {v : PV} {s' : ES} (h : body0 P mdf ml fu call f vs s = .ok (v, s')) (hf : Free s.st) :
    s'.fr = s.fr ∧ KeepsE s s' ∧ SW .top P f vs s.st fun r st => r = v ∧ st = s'.st := by
  unfold body0 at h
  split at h
  · cases h
  · rename_i fn hfn
    split at h
    · cases h
    · rename_i c hb
      split at h
      · cases h
      · cases h
      · rename_i x s1 hx hcode
        split at h
        · rename_i l hl
          cases h
          obtain ⟨k1, k2⟩ := meltE_ok hc hcode hf
          refine ⟨rfl, k1, ?_⟩
          exact sw_of_codeS (s' := s1) hfn hb (trOf_f vs s.hp s.nx) hf (fun id e => hx id e) hl k2
        · cases h
theorem thaw_wk : ∀ vs : List PV, WkL vs (vs.map PV.thaw)
  | [] => WkL.refl _
  | v :: l => .cons (fun m x h => by
    unfold PV.thaw
    split
    · cases h with
      | data _ _ hd => cases hd
      | acc0 => exact .nil
      | acc _ _ _ _ _ _ _ _ _ h0 => simp at h0
    · exact h) (thaw_wk l)
theorem iceC_ok {s : ES} {b : Nat} {f : FuncId} {vs : List PV} {v : PV} (hf : Free s.st) : ∀ (i : Nat) {s1 s2 : ES}, iceC s b i s1 = .ok s2 → s1.fr = s.fr → KeepsE s s1 → SW .top P f vs s.st (fun r st => r = v ∧ st = s1.st) →
    s2.fr = s.fr ∧ KeepsE s s2 ∧ SW .top P f vs s.st fun r st => r = v ∧ st = s2.st
  | 0, s1, s2, h, g1, g2, g3 => by cases h; exact ⟨g1, g2, g3⟩
  | i + 1, s1, s2, h, g1, g2, g3 => by
    simp only [iceC] at h
    split at h
    · rename_i E CS hb
      split at h
      · rename_i b' n hi
        split at h
        · rename_i e cs hb'
          split at h
          · rename_i k hk
            cases hc : Nat.ble s.nx b' && (Nat.ble s.nx b && (!(Nat.beq b b') && (Nat.beq (n * e) cs.length && (Nat.blt 0 n && (ids 0 s.nx).all fun x => match s1.hp.get x with
              | some .dead => false
              | _ => true)))) with
            | false => rw [hc] at h; cases h
            | true =>
              rw [hc] at h
              simp only [cond_true] at h
              obtain ⟨c1, hc⟩ := Go.Ab.and_true hc
              obtain ⟨c2, hc⟩ := Go.Ab.and_true hc
              obtain ⟨c3, hc⟩ := Go.Ab.and_true hc
              obtain ⟨c4, hc⟩ := Go.Ab.and_true hc
              obtain ⟨c5, c6⟩ := Go.Ab.and_true hc
              have hbb : b ≠ b' := by
                rintro rfl
                simp at c3
              have hb1 : s1.st.heap b = some (.arr E CS) := hb
              have hb2 : s1.st.heap b' = some (.arr e cs) := hb'
              have hlt : ∀ {x : Nat} {o : Obj}, s1.st.heap x = some o → x < s1.st.next := fun {x o} hx => Nat.lt_of_not_le fun c => by rw [g2.1 x c] at hx; cases hx
              have hl1 := hlt hb1
              have hl2 := hlt hb2
              have hle1 : s.st.next ≤ b := Nat.le_of_ble_eq_true c2
              have hle2 : s.st.next ≤ b' := Nat.le_of_ble_eq_true c1
              have := SW.freezeC g3 hf hb2 hle2 (fun x hx hd => by
                have := List.all_eq_true.1 c6 x (mem_ids.2 ⟨Nat.zero_le _, hx⟩)
                rw [show s1.hp.get x = some .dead from hd] at this
                cases this) hk (Nat.eq_of_beq_eq_true c4) (Go.Ab.blt_lt c5) hb1 hi hbb hle1
              have hst : ((s1.obj b' .dead).obj b (.arr E (CS.set i (.lst (rowsOf e n k))))).st = (s1.st.set b' .dead).set b (.arr E (CS.set i (.lst (rowsOf e n k)))) := by rw [ES.st_obj, ES.st_obj]
              have hne : ∀ {x : Nat}, x ≠ b → x ≠ b' → ((s1.st.set b' .dead).set b (.arr E (CS.set i (.lst (rowsOf e n k))))).heap x = s1.st.heap x := fun {x} hx hx' => by
                show (bif Nat.beq x b then _ else (bif Nat.beq x b' then _ else _)) = _
                rw [beq_if, if_neg hx, beq_if, if_neg hx']
              refine iceC_ok hf i h g1 ?_ (by rw [hst]; exact this)
              unfold KeepsE
              rw [hst]
              exact ⟨fun x hx => by
                have hx : s1.st.next ≤ x := hx
                rw [hne (by omega) (by omega)]; exact g2.1 x hx, g2.2.next, fun x hx h0 => by rw [hne (by omega) (by omega)]; exact g2.2.none x hx h0⟩
          · cases h
        · cases h
      · exact iceC_ok hf i h g1 g2 g3
    · cases h; exact ⟨g1, g2, g3⟩
theorem bodyE_ok {call : CallE} (hc : CallOk P (.weak .top) call) {f : FuncId} {vs : List PV} {s : ES} {v : PV} {s' : ES} (h : bodyE P mdf fz ml fu call f vs s = .ok (v, s')) (hf : Free s.st) :
    s'.fr = s.fr ∧ KeepsE s s' ∧ SW .top P f vs s.st fun r st => r = v ∧ st = s'.st := by
  unfold bodyE at h
  split at h
  · split at h
    · rename_i v1 s0 h1
      split at h
      rotate_left
      · cases h
      rename_i s1 h2
      obtain ⟨q1, q2, q3⟩ := body0_ok hc h1 hf
      obtain ⟨g1, g2, g3⟩ := iceC_ok hf _ h2 q1 q2 q3
      clear h2 q1 q2 q3 h1
      replace g3 := g3.weak (thaw_wk vs)
      unfold iceE at h
      split at h
      · rename_i b n
        split at h
        · rename_i e cs hb
          split at h
          · rename_i k hk
            cases hc : Nat.ble s.nx b && (Nat.beq (n * e) cs.length && (Nat.blt 0 n && (ids 0 s.nx).all fun x => match s1.hp.get x with
              | some .dead => false
              | _ => true)) with
            | false => rw [hc] at h; cases h
            | true =>
              rw [hc] at h
              cases h
              obtain ⟨c1, hc⟩ := Go.Ab.and_true hc
              obtain ⟨c2, hc⟩ := Go.Ab.and_true hc
              obtain ⟨c3, c4⟩ := Go.Ab.and_true hc
              have hb' : s1.st.heap b = some (.arr e cs) := hb
              have hlt : b < s1.st.next := Nat.lt_of_not_le fun c => by rw [g2.1 b c] at hb'; cases hb'
              have := SW.freeze g3 hf hb' (Nat.le_of_ble_eq_true c1) (fun x hx hd => by
                have := List.all_eq_true.1 c4 x (mem_ids.2 ⟨Nat.zero_le _, hx⟩)
                rw [show s1.hp.get x = some .dead from hd] at this
                cases this) hk (Nat.eq_of_beq_eq_true c2) (Go.Ab.blt_lt c3)
              refine ⟨g1, ?_, by rw [ES.st_obj]; exact this⟩
              unfold KeepsE
              rw [ES.st_obj]
              have hne : ∀ {x : Nat}, x ≠ b → (s1.st.set b .dead).heap x = s1.st.heap x := fun {x} hx => by show (bif Nat.beq x b then _ else _) = _; rw [beq_if, if_neg hx]
              have hle : s.st.next ≤ b := Nat.le_of_ble_eq_true c1
              exact ⟨fun x hx => by
                have hx : s1.st.next ≤ x := hx
                rw [hne (by omega)]; exact g2.1 x hx, g2.2.next, fun x hx h0 => by rw [hne (by omega)]; exact g2.2.none x hx h0⟩
          · cases h
        · cases h
      · cases h; exact ⟨g1, g2, g3⟩
    · cases h
  · exact body0_ok hc h hf
theorem footE_ok {call : CallE} (hc : CallOk P (.weak .top) call) {f : FuncId} {vs : List PV} {s s' : ES} {fp : List Nat} {v : PV} {wr : List Nat} (h : footE (bodyE P mdf fz ml fu call f vs) vs s fp = .ok (v, s', wr)) (hf : Free s.st) :
    s'.fr = s.fr ∧ KeepsE s s' ∧ SC .top P f vs s.st v s'.st ∧ CallS .top P f vs s.st v s'.st wr := by
  unfold footE at h
  cases hl : refsInL (fun b => fp.contains b) vs && liveE s.hp s.nx fp with
  | false => rw [hl] at h; cases h
  | true =>
    rw [hl] at h
    simp only [cond_true] at h
    obtain ⟨hl1, hl2⟩ := Go.Ab.and_true hl
    split at h
    · rename_i v1 s0 hb
      cases hal : fp.all (fun b => (s0.hp.get b).isSome) with
      | false => rw [hal] at h; cases h
      | true =>
        rw [hal] at h
        cases h
        have hcut : (ES.mk s.fr (cutT s.hp fp .nil) s.nx).st = restrict s.st fp := by
          show St.mk _ _ = St.mk _ _
          congr 1
          funext x
          rw [cutT_get, Tr.get_nil]
          show _ = if fp.contains x = true then s.hp.get x else none
          by_cases c : x ∈ fp
          · rw [if_pos (show fp.contains x = true by simpa using c)]
            split
            · rfl
            · rename_i hn
              cases hh : s.hp.get x with
              | none => rfl
              | some o => exact absurd ⟨c, by rw [hh]; simp⟩ hn
          · rw [if_neg (fun h => c h.1), if_neg (show ¬ fp.contains x = true by simpa using c)]
        have hfr : Free (restrict s.st fp) := hf.restrict
        obtain ⟨_, g2, g3⟩ := bodyE_ok hc hb (by rw [hcut]; exact hfr)
        unfold KeepsE at g2
        rw [hcut] at g2 g3
        have hFp : FpOk s.st fp := fun b hb => by
          have := List.all_eq_true.1 hl2 b hb
          obtain ⟨h1, h2⟩ := Go.Ab.and_true this
          refine ⟨Go.Ab.blt_lt h1, ?_⟩
          show ∃ o, s.hp.get b = some o ∧ _
          split at h2
          · rename_i o ho
            obtain ⟨h3, h4⟩ := Go.Ab.and_true h2
            exact ⟨o, ho, by simpa using h3, h4⟩
          · cases h2
        have hsc : SC .top P f vs (restrict s.st fp) v s0.st := .of_sw g3 g2.2 g2.1
        have hmer : (ES.mk s.fr (cutT s0.hp (fp ++ ids s.nx s0.nx) s.hp) s0.nx).st = merge s.st fp s0.st := by
          show St.mk _ _ = St.mk _ _
          congr 1
          funext x
          rw [cutT_get]
          show _ = if mine s.st fp s0.st x = true then s0.hp.get x else s.hp.get x
          have hm : mine s.st fp s0.st x = true ↔ x ∈ fp ++ ids s.nx s0.nx := by rw [mine_iff, List.mem_append, mem_ids]; exact Iff.rfl
          by_cases c : x ∈ fp ++ ids s.nx s0.nx
          · rw [if_pos (hm.2 c)]
            split
            · rfl
            · rename_i hn
              have h0 : s0.hp.get x = none := by
                cases hh : s0.hp.get x with
                | none => rfl
                | some o => exact absurd ⟨c, by rw [hh]; simp⟩ hn
              rw [h0]
              rcases List.mem_append.1 c with c | c
              · have := List.all_eq_true.1 hal x c
                rw [h0] at this; cases this
              · exact hf x (mem_ids.1 c).1
          · rw [if_neg (fun h => c (hm.1 h)), if_neg (fun h => c h.1)]
        have hF := SC.frame (E := .top) (fun _ _ _ => trivial) hsc hl1 hFp hf
        rw [← hmer] at hF
        exact ⟨rfl, ⟨hF.free, hF.grows⟩, hF, ⟨vs, s0.st, fun _ _ _ => trivial, WkL.refl vs, hl1, hsc, hFp, hmer⟩⟩
    · cases h
def OrcOk (P : Program) (orc : FuncId → List PV → Option PV) : Prop := ∀ f vs v, orc f vs = some v → PC P f vs [] v [] ∧ toArgs vs 0 = some (vs, []) ∧ ∀ s, place v s = (v, s)
variable (ho : OrcOk P orc)
include ho
theorem evalE_ok : ∀ n, CallOk P (.weak .top) (evalE P mdf fz ml orc fu n)
  | 0 => fun u f vs s v s' wr h => by cases h
  | n + 1 => fun u f vs s v s' wr h hf => by
    simp only [evalE] at h
    split at h
    · rename_i v1 hv
      cases h
      obtain ⟨h1, h2, h3⟩ := ho f vs v hv
      exact ⟨rfl, ⟨hf, Grows.refl _⟩, fun K hK => (callU_or P _).2 (.inl ⟨v, s.st, [], ⟨vs, [], v, [], h2, rfl, rfl, rfl, h1, (h3 _).symm⟩, hK⟩)⟩
    cases hu : u && !fz f with
    | true =>
      rw [hu] at h
      obtain ⟨rfl, _⟩ := Go.Ab.and_true hu
      simp only [cond_true] at h
      split at h
      · rename_i v1 s1 hb
        cases h
        obtain ⟨g1, g2, g3⟩ := bodyE_ok (evalE_ok n) hb hf
        exact ⟨g1, g2, fun K hK => (callU_or P _).2 (.inr ⟨_, g3, fun v st' _ _ hq => by obtain ⟨rfl, rfl⟩ := hq; exact hK⟩)⟩
      · cases h
    | false =>
      rw [hu] at h
      simp only [cond_false] at h
      split at h
      · rename_i v1 s1 wr1 hb
        cases h
        obtain ⟨g1, g2, g3, g4⟩ := footE_ok (evalE_ok n) hb hf
        refine ⟨g1, g2, fun K hK => (callU_or P _).2 (.inr ?_)⟩
        cases u with
        | true => exact ⟨_, g3.sw (Q := fun r st => r = v ∧ st = s'.st) ⟨rfl, rfl⟩, fun v' st' _ _ hq => by obtain ⟨rfl, rfl⟩ := hq; exact hK⟩
        | false => exact ⟨v, _, wr1, g4, hK⟩
      · cases h
theorem sw_of_evalE {n : Nat} {f : FuncId} {vs : List PV} {s : ES} {v : PV} {s' : ES} (h : bodyE P mdf fz ml fu (evalE P mdf fz ml orc fu n) f vs s = .ok (v, s')) (hf : Free s.st) : SW .top P f vs s.st fun r st => r = v ∧ st = s'.st := (bodyE_ok (evalE_ok ho n) h hf).2.2
end
end Go.Vi
namespace Go.Vi
open Go.Ab (Tr)
def eqL {α : Type} (e : α → α → Bool) : List α → List α → Bool
  | [], [] => true
  | a :: l, b :: r => e a b && eqL e l r
  | _, _ => false
theorem eqL_eq {α : Type} {e : α → α → Bool} (h : ∀ a b, e a b = true → a = b) : ∀ {l r : List α}, eqL e l r = true → l = r
  | [], [], _ => rfl
  | [], _ :: _, k => by cases k
  | _ :: _, [], k => by cases k
  | a :: l, b :: r, k => by
    obtain ⟨h1, h2⟩ := Go.Ab.and_true k
    rw [h a b h1, eqL_eq h h2]
def eqI : Int → Int → Bool
  | .ofNat a, .ofNat b => Nat.beq a b
  | .negSucc a, .negSucc b => Nat.beq a b
  | _, _ => false
theorem eqI_eq : ∀ {a b : Int}, eqI a b = true → a = b
  | .ofNat a, .ofNat b, h => by rw [Nat.eq_of_beq_eq_true h]
  | .negSucc a, .negSucc b, h => by rw [Nat.eq_of_beq_eq_true h]
  | .ofNat _, .negSucc _, h => by cases h
  | .negSucc _, .ofNat _, h => by cases h
def eqV1 (e : PV → PV → Bool) : PV → PV → Bool
  | .int .i64 a, .int .i64 b => eqI a b
  | .bool true, .bool true => true
  | .bool false, .bool false => true
  | .str a, .str b => eqB a.data.toList b.data.toList
  | .lst a, .lst b => eqL (eqL e) a b
  | _, _ => false
def eqV : Nat → PV → PV → Bool
  | 0 => fun _ _ => false
  | n + 1 => eqV1 (eqV n)
theorem eqV_eq : ∀ {n : Nat} {a b : PV}, eqV n a b = true → a = b := by
  intro n
  induction n with
  | zero => intro a b h; cases h
  | succ n ih =>
    intro a b h
    have h : eqV1 (eqV n) a b = true := h
    unfold eqV1 at h
    split at h
    · rw [eqI_eq h]
    · rfl
    · rfl
    · rw [eqB_eq, beq_iff_eq] at h
      rw [ByteArray.ext (Array.toList_inj.1 h)]
    · rw [eqL_eq (fun a b h => eqL_eq (fun a b h => ih h) h) h]
    · cases h
def numsE (P : Program) (ml : FuncId → Nat) (orc : FuncId → List PV → Option PV) (fu n : Nat) (f : FuncId) (vs : List PV) : Option (List PV) := match bodyE P (fun _ => true) (fun _ => false) ml fu (evalE P (fun _ => true) (fun _ => false) ml orc fu n) f vs ⟨.nil, .nil, 0⟩ with
  | .ok (.tuple l, _) => some l
  | _ => none
theorem numsE_sw {P : Program} {ml : FuncId → Nat} {orc : FuncId → List PV → Option PV} (ho : OrcOk P orc) {fu n : Nat} {f : FuncId} {vs l : List PV} (h : numsE P ml orc fu n f vs = some l) : SW .top P f vs (initSt []) fun r _ => r = .tuple l := by
  unfold numsE at h
  split at h
  · rename_i l1 s1 hb
    cases h
    have h0 : (ES.mk .nil .nil 0).st = initSt [] := by
      show St.mk _ _ = St.mk _ _
      congr 1
    have := sw_of_evalE ho hb (by rw [h0]; exact fun b _ => rfl)
    rw [h0] at this
    exact this.mono fun r s hq => hq.1
  · cases h
theorem free_init {conts : List (List PV)} : Free (initSt conts) := fun b hb => by
  show (conts[b]?).map Obj.box = none
  have hb' : conts.length ≤ b := hb
  rw [List.getElem?_eq_none hb']; rfl
theorem pc_of_sw {P : Program} {f : FuncId} {args : List PV} {Q : PV → St → Prop} (h : SW .top P f args (initSt []) Q) {x : PV} (hQ : ∀ r s, Q r s → back0 r = some x) : PC P f args [] x [] := by
  intro K w Bs cargs hK hC hnd hargs
  have hr := init_rel hK hC hnd
  have hvs := ars_vrs hargs
  cases hC
  refine (h _ w cargs trivial hr hvs).mono ?_
  rintro e w' ⟨m', v, r, s', rfl, e2, r2, hv, _, _, hq⟩
  refine ⟨m'.K, v, rfl, e2.le.K, r2.fro, fun B ks hk2 hlt => ?_, .nil, e2.size, fun B hlt hn => e2.same B hlt ?_, e2.os, e2.output, e2.frozen, back0_rel hv (hQ r s' hq) _⟩
  · rcases e2.knew B ks hk2 with ⟨_, _, _, _, h1⟩ | h1 | h1
    · cases h1
    · exact h1
    · omega
  · rintro (⟨b, hb⟩ | ⟨b, n, e, t, hb⟩)
    · cases hb
    · cases hb
end Go.Vi
