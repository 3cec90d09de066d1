/-
  REGIONS IN THE ORDER OF THE TEXT (own work).
-/
import Derived.Test.YtlonlfiaclacdaaAb12
import Derived.OrdersIn
namespace Go.Ab

section
variable {P : Program} {m : Inj} {w : World} {ev : Task → M AV}

theorem getD_set (tmps : Array Value) (d : Nat) (v : Value) (h : d < tmps.size) (t : Nat) : (tmps.setIfInBounds d v).getD t undef = if t = d then v else tmps.getD t undef := by
  simp only [Array.getD_eq_getD_getElem?, Array.getElem?_setIfInBounds]
  by_cases e : t = d
  · subst e; simp [h]
  · rw [if_neg (Ne.symm e), if_neg e]

theorem FR.set {nt : Nat} {fr : Tr AV} {tmps : Array Value} (h : FR m nt fr tmps) {d : Nat} (hd : d < nt) {a : AV} {v : Value} (hv : VR m a v) : FR m nt (fr.set d a) (tmps.setIfInBounds d v) := by
  refine ⟨by simp [h.size], fun t => ?_⟩
  rw [getD_set tmps d v (by rw [h.size]; exact hd), Tr.get_set]
  by_cases e : t = d
  · rw [if_pos e, if_pos e]; exact hv
  · rw [if_neg e, if_neg e]; exact h.get t

theorem FR.put {nt : Nat} {fr : Tr AV} {a : Act} (h : FR m nt fr a.tmps) {d : Option Tmp} (hd : fitsT nt d = true) {x : AV} {v : Value} (hv : VR m x v) : FR m nt (putT fr d x) (a.put d v).tmps := by
  cases d with
  | none => exact h
  | some d => exact h.set (blt_lt hd) hv

theorem put_defers (a : Act) (d : Option Tmp) (v : Value) : (a.put d v).defers = a.defers := by cases d <;> rfl

theorem evalO_rel {nt : Nat} {fr : Tr AV} {a : Act} (h : FR m nt fr a.tmps) {o : Operand} {x : AV} (he : evalO fr o = some x) : VR m x (a.eval o) := by
  cases o with
  | tmp t => simp only [evalO, Option.some.injEq] at he; subst he; exact h.get t
  | const v => exact absConst_rel he
  | global g => cases he
  | func f => simp only [evalO, Option.some.injEq] at he; subst he; exact .func _ _ _ [] [] (fun l e => by cases e) .nil .nil

theorem evalOs_rel {nt : Nat} {fr : Tr AV} {a : Act} (h : FR m nt fr a.tmps) : ∀ {l : List Operand} {vs : List AV}, evalOs fr l = some vs → VRs m vs (l.map a.eval)
  | [], vs, he => by simp only [evalOs, Option.some.injEq] at he; subst he; exact .nil
  | o :: r, vs, he => by
    simp only [evalOs] at he
    split at he
    · rename_i x hx
      split at he
      · rename_i l hl
        simp only [Option.some.injEq] at he; subst he
        exact .cons _ _ _ _ (evalO_rel h hx) (evalOs_rel h hl)
      · cases he
    · cases he

theorem wanted_rel {nt : Nat} {fr : Tr AV} {tmps : Array Value} (h : FR m nt fr tmps) (ops : Array Oper) (o : Oper) : Region.wanted o (yielded ops tmps) = wantedA ops.toList fr o := by
  unfold Region.wanted wantedA yielded
  cases o.guard with
  | none => rfl
  | some p =>
    obtain ⟨j, want⟩ := p
    simp only [Array.getElem?_toList]
    cases ops[j]? with
    | none => rfl
    | some o' =>
      simp only [Option.bind_some]
      cases o'.dst with
      | none => rfl
      | some d =>
        simp only [Option.bind_some]
        have hg := h.get d
        rw [Array.getD_eq_getD_getElem?] at hg
        cases hf : fr.get d with
        | none =>
          rw [hf] at hg
          cases ht : tmps[d]? with
          | none => rfl
          | some v =>
            rw [ht] at hg
            simp only [Option.getD_none, Option.getD_some, undefA] at hg
            cases hg; rfl
        | some x =>
          rw [hf] at hg
          cases ht : tmps[d]? with
          | none =>
            rw [ht] at hg
            simp only [Option.getD_none, Option.getD_some, undef] at hg
            cases hg; rfl
          | some v =>
            rw [ht] at hg
            simp only [Option.getD_some] at hg
            cases hg <;> first | rfl | (rename_i b; cases b <;> cases want <;> rfl)

/-- One operation of a region, wanted or not. -/
theorem step_sim (hext : ExtOk P) (hev : EvOk P ev) {s : St} (hr : Rel m s.heap.get w) {nt : Nat} {fr : Tr AV} {a : Act} (hfr : FR m nt fr a.tmps) {ops : Array Oper} {i : Nat} {o : Oper} (ho : ops[i]? = some o)
    (hfit : fitsT nt o.dst = true) {v : AV} {s' : St} (h : (valA P ev ops.toList fr o).run s = .ok v s') (hf : Fresh s s') (ro : Option Nat) (K : Act → World → Prop) (Q : Exit → Act → World → Prop)
    (hK : ∀ m' a' w', Ext m w m' w' → Rel m' s'.heap.get w' → FR m' nt (putT fr o.dst v) a'.tmps → a'.defers = a.defers → K a' w') :
    wpOpIn (Fw ro) 0 P ops Q i K a w := by
  unfold wpOpIn
  rw [ho]
  simp only
  rw [wanted_rel hfr]
  unfold valA at h
  cases hw : wantedA ops.toList fr o with
  | false =>
    simp only [hw, cond_false] at h
    obtain ⟨rfl, rfl⟩ := pure_ok h
    rw [if_neg (by simp)]
    exact ⟨fun _ _ => trivial, hK m (a.put o.dst undef) w (Ext.refl m w) hr (hfr.put hfit (.tuple [] [] .nil)) (put_defers _ _ _)⟩
  | true =>
    simp only [hw, cond_true] at h
    rw [if_pos rfl]
    split at h
    · rename_i vs hvs
      have hrel := evalOs_rel hfr hvs
      refine ⟨fun _ _ => trivial, ?_⟩
      have hsem : o.semAt (Fw ro).round a.eval = execOp a.eval o := by
        apply Oper.semAt_eq
        intro c hc
        rw [hc] at h
        exact fail_ok h
      rw [hsem]
      exact op_sim hext hev hr h hf hrel ro o a K Q fun m' v' w' h1 h2 h3 => hK m' _ w' h1 h2 ((hfr.mono h1.le).put hfit h3) (put_defers _ _ _)
    · exact (fail_ok h).elim

theorem ops_sim (hext : ExtOk P) (hev : EvOk P ev) (ro : Option Nat) {nt : Nat} {ops : Array Oper} (Q : Exit → Act → World → Prop) : ∀ (rest : List Oper) (i : Nat), rest = ops.toList.drop i →
    ∀ {m : Inj} {w : World} {s : St} {fr fr' : Tr AV} {a : Act} {s' : St}, Rel m s.heap.get w → FR m nt fr a.tmps → (opsA P ev nt ops.toList rest fr).run s = .ok fr' s' → Fresh s s' →
    (∀ m' a' w', Ext m w m' w' → Rel m' s'.heap.get w' → FR m' nt fr' a'.tmps → a'.defers = a.defers → Q .normal a' w') →
    wpOpsIn (Fw ro) 0 P ops Q (List.range' i rest.length) a w
  | [], i, hrest, m, w, s, fr, fr', a, s', hr, hfr, h, hf, hQ => by
    obtain ⟨rfl, rfl⟩ := pure_ok (by simpa only [opsA] using h)
    exact hQ m a w (Ext.refl m w) hr hfr rfl
  | o :: rest, i, hrest, m, w, s, fr, fr', a, s', hr, hfr, h, hf, hQ => by
    have ho : ops[i]? = some o := by
      have : (ops.toList.drop i)[0]? = some o := by rw [← hrest]; rfl
      rw [List.getElem?_drop] at this
      simpa using this
    have hrest' : rest = ops.toList.drop (i + 1) := by
      have : (ops.toList.drop i).drop 1 = rest := by rw [← hrest]; rfl
      rw [List.drop_drop] at this
      exact this.symm
    simp only [opsA] at h
    cases hfit : fitsT nt o.dst with
    | false => simp only [hfit, cond_false] at h; exact (fail_ok h).elim
    | true =>
      simp only [hfit, cond_true] at h
      obtain ⟨v, s1, h1, h2⟩ := bind_ok h
      obtain ⟨f1, f2⟩ := Fresh.split h1 h2 hf
      rw [List.length_cons, List.range'_succ, wpOpsIn_cons]
      exact step_sim hext hev hr hfr ho hfit h1 f1 ro _ Q fun m1 a1 w1 e1 r1 fr1 d1 =>
        ops_sim hext hev ro Q rest (i + 1) hrest' r1 fr1 h2 f2 fun m2 a2 w2 e2 r2 fr2 d2 => hQ m2 a2 w2 (e1.trans e2) r2 fr2 (d2.trans d1)

theorem region_sim (hext : ExtOk P) (hev : EvOk P ev) (ro : Option Nat) {nt : Nat} {ops : Array Oper} {id : Nat} (Q : Exit → Act → World → Prop) {s : St} {fr fr' : Tr AV} {a : Act} {s' : St}
    (hr : Rel m s.heap.get w) (hfr : FR m nt fr a.tmps) (h : (opsA P ev nt ops.toList ops.toList fr).run s = .ok fr' s') (hf : Fresh s s')
    (hQ : ∀ m' a' w', Ext m w m' w' → Rel m' s'.heap.get w' → FR m' nt fr' a'.tmps → a'.defers = a.defers → Q .normal a' w') : (Code.region id ops false).wpIn (Fw ro) 0 P Q a w := by
  apply wpIn_region
  have := ops_sim hext hev ro Q ops.toList 0 (by simp) hr hfr h hf hQ
  rw [List.range_eq_range']
  simpa using this

end
end Go.Ab
