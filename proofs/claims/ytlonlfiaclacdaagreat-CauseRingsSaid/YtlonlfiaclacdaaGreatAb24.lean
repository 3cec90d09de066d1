/-
  ANSWERS THAT ARE KNOWN (own work): a call of flat arguments whose answer is flat, and which the evaluator finds from the empty memory, gives that answer anywhere and leaves the
  memory as it is; the evaluator with a table of such answers.
-/
import Derived.Test.YtlonlfiaclacdaaGreatAb23
namespace Go.Ab
section
variable {P : Program}

def AV.flat : AV → Bool
  | .int _ _ | .bool _ | .str _ _ | .nilptr | .nilslice | .nilmap | .nilfunc | .niliface => true
  | _ => false

theorem VR.flat {m : Inj} (m' : Inj) {a : AV} {v : Value} (h : VR m a v) (hf : a.flat = true) : VR m' a v := by
  cases h <;> first | (simp [AV.flat] at hf; done) | constructor <;> assumption

theorem VRs.flat {m : Inj} (m' : Inj) : ∀ {l : List AV} {l' : List Value}, VRs m l l' → l.all AV.flat = true → VRs m' l l'
  | _, _, .nil, _ => .nil
  | _, _, .cons a v l l' h1 h2, hf => by
    simp only [List.all_cons, Bool.and_eq_true] at hf
    exact .cons _ _ _ _ (h1.flat m' hf.1) (VRs.flat m' h2 hf.2)

theorem Ext.of_none {m m' : Inj} {h : Nat → Option Obj} {w w' : World} (hr : Rel m h w) (he : Ext (fun _ _ => none) w m' w') : Ext m w m w' ∧ Rel m h w' := by
  have same : ∀ B, B < w.heap.size → w'.heap[B]? = w.heap[B]? := fun B hB => he.same B hB fun _ _ _ _ hh => by cases hh
  refine ⟨⟨Inj.le_refl m, he.size, fun b u B t e hb => .inl ⟨b, u, t, e, hb⟩, fun B hB _ => same B hB, he.os, he.output, he.frozen⟩, ?_⟩
  refine ⟨fun b o hb => ?_, hr.dom, hr.apart, fun b u B t e hm => Nat.lt_of_lt_of_le (hr.lt _ _ _ _ _ hm) he.size⟩
  exact (hr.obj b o hb).mono (Inj.le_refl m) (fun _ => rfl) fun u B t e hm => same B (hr.lt _ _ _ _ _ hm)

theorem known_ok (hext : ExtOk P) {n : Nat} {f : FuncId} {args : List AV} {v : AV} {s1 : St} (hn : (evalN P n (.call f args)).run st0 = .ok v s1) (ha : args.all AV.flat = true) (hv : v.flat = true)
    {s : St} {m : Inj} {w : World} {cargs : List Value} (hr : Rel m s.heap.get w) (hargs : VRs m args cargs) : CallsIn Fence.wide 0 P f cargs.toArray w (Back m w s v) := by
  have := (evalN_ok hext n).call f args st0 v s1 hn _ w cargs (Rel.empty w) (hargs.flat _ ha) (fun b _ _ => rfl)
  refine this.mono ?_
  rintro e w' ⟨m', v', rfl, he, _, hv'⟩
  obtain ⟨e1, r1⟩ := Ext.of_none hr he
  exact ⟨m, v', rfl, e1, r1, hv'.flat m hv⟩

variable (P) in
structure Memo where
  tab : List (Nat × (List AV → Option AV))
  ok : ∀ f g args v, (f, g) ∈ tab → g args = some v → args.all AV.flat = true ∧ v.flat = true ∧ ∃ n s1, (evalN P n (.call f args)).run st0 = .ok v s1

noncomputable def lookM (f : Nat) (l : List (Nat × (List AV → Option AV))) : Option (List AV → Option AV) :=
  @List.rec (Nat × (List AV → Option AV)) (fun _ => Option (List AV → Option AV)) none (fun p _ ih => ifb (Nat.beq f p.1) (some p.2) ih) l
theorem lookM_mem (f : Nat) (g : List AV → Option AV) : ∀ l, lookM f l = some g → (f, g) ∈ l
  | [], h => by cases h
  | p :: l, h => by
    obtain ⟨f', g'⟩ := p
    have h' : ifb (Nat.beq f f') (some g') (lookM f l) = some g := h
    rw [ifb_eq] at h'
    cases hb : Nat.beq f f' with
    | true =>
      rw [hb] at h'
      have e := Nat.eq_of_beq_eq_true hb
      subst e
      cases h'
      exact List.mem_cons_self ..
    | false =>
      rw [hb] at h'
      exact List.mem_cons_of_mem _ (lookM_mem f g l h')

variable (T : Tbl P) (K : Memo P)

/-- The known answer, if there is one. -/
noncomputable def ask (t : Task) : Option AV := @Task.rec (fun _ => Option AV) (fun f args => onO (lookM f K.tab) none fun g => g args) (fun _ _ => none) t
theorem ask_some {t : Task} {v : AV} (h : ask K t = some v) : ∃ f args n s1, t = .call f args ∧ args.all AV.flat = true ∧ v.flat = true ∧ (evalN P n (.call f args)).run st0 = .ok v s1 := by
  cases t with
  | round l args => cases h
  | call f args =>
    have h' : onO (lookM f K.tab) none (fun g => g args) = some v := h
    cases hl : lookM f K.tab with
    | none => rw [hl] at h'; cases h'
    | some g =>
      rw [hl] at h'
      obtain ⟨h1, h2, n, s1, h3⟩ := K.ok f g args v (lookM_mem f g _ hl) h'
      exact ⟨f, args, n, s1, rfl, h1, h2, h3⟩

noncomputable def stepM (ev : Task → M AV) (t : Task) : M AV := match ask K t with
  | some v => pure v
  | none => stepN P ev t

theorem stepM_ok (hext : ExtOk P) {ev : Task → M AV} (hev : EvOk P ev) : EvOk P (stepM K ev) := by
  have hs := stepN_ok hext hev
  refine ⟨fun f args s v s' h m w cargs hr ha hf => ?_, fun l args s v s' h m w cargs hr ha hf B t e hm => ?_⟩
  · unfold stepM at h
    cases hk : ask K (.call f args) with
    | none => rw [hk] at h; exact hs.call f args s v s' h m w cargs hr ha hf
    | some u =>
      rw [hk] at h
      obtain ⟨rfl, rfl⟩ := pure_ok h
      obtain ⟨f', args', n, s1, he, h1, h2, h3⟩ := ask_some K hk
      cases he
      exact known_ok hext h3 h1 h2 hr ha
  · unfold stepM at h
    exact hs.round l args s v s' h m w cargs hr ha hf B t e hm

noncomputable def dispM (ev : Task → M AV) (t : Task) : St → R AV := onO (ask K t) (disp T ev t) fun v s => .ok v s
theorem dispM_eq (ev : Task → M AV) (t : Task) : dispM T K ev t = (stepM K ev t).run := by
  unfold dispM stepM
  cases ask K t with
  | none => exact disp_eq T ev t
  | some v => rfl

noncomputable def evalK (n : Nat) : Task → M AV := @Nat.rec (fun _ => Task → M AV) (fun _ => failM) (fun _ ev t => mkM (dispM T K ev t) (stepM K ev t) (dispM_eq T K ev t)) n
theorem evalK_ok (hext : ExtOk P) : ∀ n, EvOk P (evalK T K n)
  | 0 => ⟨fun f args s v s' h => (fail_ok h).elim, fun l args s v s' h => (fail_ok h).elim⟩
  | n + 1 => by
    have h := stepM_ok K hext (evalK_ok hext n)
    have e : evalK T K (n + 1) = stepM K (evalK T K n) := by
      funext t
      show mkM (dispM T K (evalK T K n) t) (stepM K (evalK T K n) t) (dispM_eq T K (evalK T K n) t) = _
      rw [mkM_eq]
    rw [e]; exact h

noncomputable def evalsK (n : Nat) (f : FuncId) (avs : List AV) : Bool :=
  @R.rec AV (fun _ => Bool) false (fun v _ => v.isTrue) ((evalK T K n (.call f avs)).run st0)

theorem calls_of_evalsK (hext : ExtOk P) {n : Nat} {f : FuncId} {avs : List AV} {cargs : List Value} {w : World} (h : evalsK T K n f avs = true)
    (ha : VRs (fun _ _ => none) avs cargs) : Calls P f cargs.toArray w fun e w' => e = .returned (.bool true) ∧ Go.RowKit.Grown w w' := by
  unfold evalsK at h
  cases hr : (evalK T K n (.call f avs)).run st0 with
  | fail => rw [hr] at h; cases h
  | ok v s1 =>
    rw [hr] at h
    have hv : v = .bool true := by cases v <;> first | (cases h; done) | (rename_i b; cases b <;> first | rfl | cases h)
    subst hv
    have hc := (evalK_ok T K hext n).call f avs st0 _ s1 hr _ w cargs (Rel.empty w) ha (fun b _ _ => rfl)
    refine (callsIn_wide (n := 0)).1 (hc.mono ?_)
    rintro e w' ⟨m', v', rfl, he, _, hv⟩
    cases hv
    exact ⟨rfl, he.grown⟩

variable (P) in
def Memo.nil : Memo P := ⟨[], fun _ _ _ _ h => by cases h⟩

/-- A function of no arguments that says true. -/
def sayTrue (args : List AV) : Option AV := match args with
  | [] => some (.bool true)
  | _ => none

def Memo.addTrue (f n : Nat) (h : evalsH T n f [] = true) : Memo P :=
  ⟨(f, sayTrue) :: K.tab, fun f' g args v hm hg => by
    rcases List.mem_cons.1 hm with e | hm
    · cases e
      have ha : args = [] := by cases args <;> first | rfl | (simp [sayTrue] at hg)
      subst ha
      have hv : v = .bool true := by simp [sayTrue] at hg; exact hg.symm
      subst hv
      refine ⟨rfl, rfl, n, ?_⟩
      have ht := evalsTrue_of_H T h
      unfold evalsTrue at ht
      cases hr : (evalN P n (.call f [])).run st0 with
      | fail => rw [hr] at ht; cases ht
      | ok v s1 =>
        rw [hr] at ht
        cases v with
        | bool b => cases b with
          | true => exact ⟨s1, rfl⟩
          | false => cases ht
        | _ => cases ht
    · exact K.ok f' g args v hm hg⟩

end
end Go.Ab
