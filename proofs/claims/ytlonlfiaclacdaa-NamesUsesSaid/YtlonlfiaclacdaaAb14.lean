/-
  REGIONS THAT DRAW THEIR ORDER (own work): whatever order is drawn, the memory is the one of the order of the text, where no two operations clash that the text leaves unordered.
-/
import Derived.Test.YtlonlfiaclacdaaAb13
namespace Go.Ab

section
variable {P : Program} {ev : Task → M AV}

/-! ### The run in the order of the text, step by step -/

structure Trace (P : Program) (ev : Task → M AV) (nt : Nat) (ops : List Oper) where
  S : Nat → St
  F : Nat → Tr AV
  V : Nat → AV
  L : Nat → Nat × Nat

/-- What holds of each step. -/
def Trace.Ok {nt : Nat} {ops : List Oper} (T : Trace P ev nt ops) : Prop :=
  ∀ i o, ops[i]? = some o → fitsT nt o.dst = true ∧ (logged (valA P ev ops (T.F i) o)).run (T.S i) = .ok (T.V i, T.L i) (T.S (i + 1)) ∧ T.F (i + 1) = putT (T.F i) o.dst (T.V i)

theorem opsD_trace {nt : Nat} {ops : List Oper} : ∀ (rest : List Oper) (k : Nat), rest = ops.drop k → ∀ {s : St} {fr : Tr AV} {q : Tr AV × List (Nat × Nat)} {s' : St}, (opsD P ev nt ops rest fr).run s = .ok q s' →
    ∃ (S : Nat → St) (F : Nat → Tr AV) (V : Nat → AV), S k = s ∧ F k = fr ∧ S (k + rest.length) = s' ∧ F (k + rest.length) = q.1 ∧ q.2.length = rest.length ∧
      ∀ i o, k ≤ i → ops[i]? = some o → fitsT nt o.dst = true ∧ (logged (valA P ev ops (F i) o)).run (S i) = .ok (V i, q.2.getD (i - k) (0, 0)) (S (i + 1)) ∧ F (i + 1) = putT (F i) o.dst (V i)
  | [], k, hrest, s, fr, q, s', h => by
    obtain ⟨rfl, rfl⟩ := pure_ok (by simpa only [opsD] using h)
    refine ⟨fun _ => s', fun _ => fr, fun _ => undefA, rfl, rfl, rfl, rfl, rfl, fun i o hi ho => ?_⟩
    have : (ops.drop k)[i - k]? = some o := by rw [List.getElem?_drop, show k + (i - k) = i by omega]; exact ho
    rw [← hrest] at this; simp at this
  | o :: rest, k, hrest, s, fr, q, s', h => by
    have ho : ops[k]? = some o := by
      have : (ops.drop k)[0]? = some o := by rw [← hrest]; rfl
      rw [List.getElem?_drop] at this; simpa using this
    have hrest' : rest = ops.drop (k + 1) := by
      have : (ops.drop k).drop 1 = rest := by rw [← hrest]; rfl
      rw [List.drop_drop] at this; exact this.symm
    simp only [opsD] at h
    cases hfit : fitsT nt o.dst with
    | false => simp only [hfit, cond_false] at h; exact (fail_ok h).elim
    | true =>
      simp only [hfit, cond_true] at h
      obtain ⟨p, s1, h1, h2⟩ := bind_ok h
      obtain ⟨q2, s2, h3, h4⟩ := bind_ok h2
      obtain ⟨rfl, rfl⟩ := pure_ok h4
      obtain ⟨S, F, V, g1, g2, g3, g4, g5, g6⟩ := opsD_trace rest (k + 1) hrest' h3
      refine ⟨fun i => if i = k then s else S i, fun i => if i = k then fr else F i, fun i => if i = k then p.1 else V i, by simp, by simp, ?_, ?_, by simp [g5], fun i o' hi ho' => ?_⟩
      · simp only [List.length_cons]
        rw [if_neg (by omega), show k + (rest.length + 1) = k + 1 + rest.length by omega]; exact g3
      · simp only [List.length_cons]
        rw [if_neg (by omega), show k + (rest.length + 1) = k + 1 + rest.length by omega]; exact g4
      · by_cases hik : i = k
        · subst hik
          rw [ho] at ho'; cases ho'
          refine ⟨hfit, ?_, ?_⟩
          · simp only [if_true, Nat.sub_self, List.getD_cons_zero]
            rw [if_neg (by omega), g1]; exact h1
          · simp only [if_true]
            rw [if_neg (by omega), g2]
        · obtain ⟨k1, k2, k3⟩ := g6 i o' (by omega) ho'
          refine ⟨k1, ?_, ?_⟩
          · simp only [if_neg hik]
            rw [if_neg (by omega)]
            have : ((p.2 :: q2.2).getD (i - k) (0, 0)) = q2.2.getD (i - (k + 1)) (0, 0) := by
              rw [show i - k = (i - (k + 1)) + 1 by omega]; simp
            rw [this]; exact k2
          · simp only [if_neg hik]
            rw [if_neg (by omega)]; exact k3

/-! ### What the checks say -/

theorem befores_length : ∀ (r : List Oper) (acc : List Nat), (befores r acc).length = acc.length + r.length
  | [], acc => by simp [befores]
  | o :: r, acc => by simp only [befores, befores_length r, List.length_append, List.length_cons, List.length_nil]; omega

theorem befores_old : ∀ (r : List Oper) (acc : List Nat) (i : Nat), i < acc.length → (befores r acc).getD i 0 = acc.getD i 0
  | [], acc, i, _ => by simp [befores]
  | o :: r, acc, i, h => by
    simp only [befores]
    rw [befores_old r _ i (by simp; omega)]
    simp [List.getD, List.getElem?_append_left h]

def maskOf (acc : List Nat) (o : Oper) : Nat := o.after.toList.foldl (fun m e => bif Region.binds .any e then m ||| 1 <<< e.on ||| acc.getD e.on 0 else m) 0

theorem befores_new : ∀ (r : List Oper) (acc : List Nat) (k : Nat) (o : Oper), r[k]? = some o → ∃ acc', acc'.length = acc.length + k ∧ (∀ i, i < acc.length + k → acc'.getD i 0 = (befores r acc).getD i 0) ∧ (befores r acc).getD (acc.length + k) 0 = maskOf acc' o
  | [], acc, k, o, h => by simp at h
  | o' :: r, acc, 0, o, h => by
    simp at h; subst h
    refine ⟨acc, by simp, fun i hi => ?_, ?_⟩
    · simp only [befores]
      rw [befores_old r _ i (by simp at hi ⊢; omega)]
      simp at hi
      simp [List.getD, List.getElem?_append_left hi]
    · simp only [befores]
      rw [befores_old r _ _ (by simp)]
      simp [List.getD, maskOf]
  | o' :: r, acc, k + 1, o, h => by
    simp at h
    obtain ⟨acc', h1, h2, h3⟩ := befores_new r (acc ++ [maskOf acc o']) k o h
    simp only [List.length_append, List.length_cons, List.length_nil] at h1 h2 h3
    refine ⟨acc', by omega, fun i hi => ?_, ?_⟩
    · simp only [befores]; exact h2 i (by omega)
    · simp only [befores]
      rw [show acc.length + (k + 1) = acc.length + (0 + 1) + k by omega]; exact h3

theorem mask_bit (acc : List Nat) (o : Oper) (j : Nat) (h : bit (maskOf acc o) j) : ∃ e ∈ o.after.toList, Region.binds .any e = true ∧ (j = e.on ∨ bit (acc.getD e.on 0) j) := by
  unfold maskOf at h
  have gen : ∀ (l : List Edge) (m0 : Nat), bit (l.foldl (fun m e => bif Region.binds .any e then m ||| 1 <<< e.on ||| acc.getD e.on 0 else m) m0) j → bit m0 j ∨ ∃ e ∈ l, Region.binds .any e = true ∧ (j = e.on ∨ bit (acc.getD e.on 0) j) := by
    intro l
    induction l with
    | nil => intro m0 h; exact .inl h
    | cons e l ih =>
      intro m0 h
      simp only [List.foldl_cons] at h
      rcases ih _ h with h | ⟨e', he', h'⟩
      · cases hb : Region.binds .any e with
        | false => simp only [hb, cond_false] at h; exact .inl h
        | true =>
          simp only [hb, cond_true] at h
          rw [bit_or, bit_or, bit_one] at h
          rcases h with (h | h) | h
          · exact .inl h
          · exact .inr ⟨e, by simp, hb, .inl h⟩
          · exact .inr ⟨e, by simp, hb, .inr h⟩
      · exact .inr ⟨e', by simp [he'], h'⟩
  rcases gen _ _ h with h | h
  · simp [bit] at h
  · exact h

/-- The mask of an operation of the region. -/
def bs (ops : List Oper) (i : Nat) : Nat := (befores ops []).getD i 0

theorem bs_bit {ops : List Oper} {i : Nat} {o : Oper} (ho : ops[i]? = some o) (hedge : ∀ e ∈ o.after.toList, Region.binds .any e = true → e.on < i) {j : Nat} (h : bit (bs ops i) j) :
    ∃ e ∈ o.after.toList, Region.binds .any e = true ∧ (j = e.on ∨ bit (bs ops e.on) j) := by
  obtain ⟨acc', h1, h2, h3⟩ := befores_new ops [] i o ho
  simp only [List.length_nil, Nat.zero_add] at h1 h2 h3
  unfold bs at h
  rw [h3] at h
  obtain ⟨e, he, hb, hj⟩ := mask_bit acc' o j h
  refine ⟨e, he, hb, ?_⟩
  rw [h2 e.on (hedge e he hb)] at hj
  exact hj

theorem clash_false {a b : Nat × Nat} (h : clash a b = false) (x : Nat) : ¬ (bit a.2 x ∧ (bit b.1 x ∨ bit b.2 x)) ∧ ¬ (bit a.1 x ∧ bit b.2 x) := by
  unfold clash at h
  simp only [Bool.not_eq_false', Bool.and_eq_true, Nat.beq_eq] at h
  obtain ⟨h1, h2⟩ := h
  constructor
  · rintro ⟨h3, h4⟩
    have : bit (a.2 &&& (b.1 ||| b.2)) x := by
      simp only [bit, Nat.testBit_and, Nat.testBit_or, Bool.and_eq_true, Bool.or_eq_true]; exact ⟨h3, h4⟩
    rw [h1] at this; simp [bit] at this
  · rintro ⟨h3, h4⟩
    have : bit (a.1 &&& b.2) x := by simp only [bit, Nat.testBit_and, Bool.and_eq_true]; exact ⟨h3, h4⟩
    rw [h2] at this; simp [bit] at this

theorem clashIn_false {m : Nat} {l : Nat × Nat} : ∀ {done : List (Nat × Nat)} {i : Nat}, clashIn m l done i = false → ∀ j a, done[j]? = some a → bit m (i + j) ∨ clash a l = false
  | [], i, _, j, a, h => by simp at h
  | x :: r, i, h, j, a, hj => by
    simp only [clashIn, Bool.or_eq_false_iff, Bool.and_eq_false_iff, Bool.not_eq_false'] at h
    cases j with
    | zero => simp at hj; subst hj; exact h.1
    | succ j =>
      simp at hj
      have := clashIn_false h.2 j a hj
      rwa [show i + 1 + j = i + (j + 1) by omega] at this

theorem clashes_false : ∀ {rest done : List (Nat × Nat)} {ms : List Nat}, clashes done rest ms = false → ∀ i j l a, i < done.length + j → rest[j]? = some l → (done ++ rest)[i]? = some a → bit (ms.getD j 0) i ∨ clash a l = false
  | [], done, ms, _, i, j, l, a, _, h, _ => by simp at h
  | x :: r, done, [], h, i, j, l, a, _, _, _ => by simp [clashes] at h
  | x :: r, done, m :: ms, h, i, j, l, a, hij, hl, ha => by
    simp only [clashes, Bool.or_eq_false_iff] at h
    cases j with
    | zero =>
      simp at hl; subst hl
      rw [List.getElem?_append_left (by omega)] at ha
      have := clashIn_false h.1 i a ha
      rw [Nat.zero_add] at this
      simpa using this
    | succ j =>
      simp at hl
      have := clashes_false h.2 i j l a (by simp; omega) hl (by simpa using ha)
      simpa using this

theorem edgesOk_spec : ∀ {l : List Oper} {i : Nat}, edgesOk l i = true → ∀ j o, l[j]? = some o → ∀ e ∈ o.after.toList, Region.binds .any e = true → e.on < i + j
  | [], i, _, j, o, h, _, _, _ => by simp at h
  | x :: r, i, h, j, o, hj, e, he, hb => by
    simp only [edgesOk, Bool.and_eq_true, List.all_eq_true, Bool.or_eq_true, Bool.not_eq_true'] at h
    cases j with
    | zero =>
      simp at hj; subst hj
      rcases h.1 e he with h | h
      · have := blt_lt h; omega
      · rw [hb] at h; cases h
    | succ j =>
      simp at hj
      have := edgesOk_spec h.2 j o hj e he hb
      omega

theorem slotsIn_spec {ops : List Oper} {m : Nat} {o : Oper} : ∀ {done : List Oper} {i : Nat}, slotsIn ops m o done i = true → ∀ j a, done[j]? = some a → bit m (i + j) ∨ slotsOk ops a o = true
  | [], i, _, j, a, h => by simp at h
  | x :: r, i, h, j, a, hj => by
    simp only [slotsIn, Bool.and_eq_true, Bool.or_eq_true] at h
    cases j with
    | zero => simp at hj; subst hj; exact h.1
    | succ j =>
      simp at hj
      have := slotsIn_spec h.2 j a hj
      rwa [show i + 1 + j = i + (j + 1) by omega] at this

theorem slotsAll_spec {ops : List Oper} : ∀ {rest done : List Oper} {ms : List Nat}, slotsAll ops done rest ms = true → ∀ i j o a, i < done.length + j → rest[j]? = some o → (done ++ rest)[i]? = some a → bit (ms.getD j 0) i ∨ slotsOk ops a o = true
  | [], done, ms, _, i, j, o, a, _, h, _ => by simp at h
  | x :: r, done, [], h, i, j, o, a, _, _, _ => by simp [slotsAll] at h
  | x :: r, done, m :: ms, h, i, j, o, a, hij, hl, ha => by
    simp only [slotsAll, Bool.and_eq_true] at h
    cases j with
    | zero =>
      simp at hl; subst hl
      rw [List.getElem?_append_left (by omega)] at ha
      have := slotsIn_spec h.1 i a ha
      rw [Nat.zero_add] at this
      simpa using this
    | succ j =>
      simp at hl
      have := slotsAll_spec h.2 i j o a (by simp; omega) hl (by simpa using ha)
      simpa using this

theorem slotsOk_spec {ops : List Oper} {a b : Oper} (h : slotsOk ops a b = true) : (∀ d, a.dst = some d → d ∉ namesOf ops b ∧ b.dst ≠ some d) ∧ (∀ d, b.dst = some d → d ∉ namesOf ops a) := by
  unfold slotsOk at h
  simp only [Bool.and_eq_true] at h
  obtain ⟨h1, h2⟩ := h
  constructor
  · intro d hd
    rw [hd] at h1
    simp only [Bool.and_eq_true, Bool.not_eq_true', List.contains_eq_mem, decide_eq_false_iff_not, beq_eq_false_iff_ne] at h1
    exact h1
  · intro d hd
    rw [hd] at h2
    simpa using h2

/-- An operation looks at its own names alone. -/
theorem evalOs_congr {f g : Tr AV} : ∀ {l : List Operand}, (∀ x ∈ tmpsOf l, f.get x = g.get x) → evalOs f l = evalOs g l
  | [], _ => rfl
  | o :: r, h => by
    have ho : evalO f o = evalO g o := by
      cases o with
      | tmp t => simp only [evalO, h t (by simp [tmpsOf])]
      | _ => rfl
    have hr : evalOs f r = evalOs g r := evalOs_congr fun x hx => h x (by
      unfold tmpsOf at hx ⊢
      cases o <;> simp_all)
    simp only [evalOs, ho, hr]

theorem valA_congr {ops : List Oper} {o : Oper} {f g : Tr AV} (h : ∀ x ∈ namesOf ops o, f.get x = g.get x) : valA P ev ops f o = valA P ev ops g o := by
  have h1 : wantedA ops f o = wantedA ops g o := by
    unfold wantedA
    cases hg : o.guard with
    | none => rfl
    | some p =>
      obtain ⟨j, want⟩ := p
      simp only
      cases ho : ops[j]? with
      | none => rfl
      | some o' =>
        simp only
        cases hd : o'.dst with
        | none => rfl
        | some d =>
          simp only
          rw [h d (by simp [namesOf, hg, ho, hd])]
  have h2 : evalOs f o.op.operands.toList = evalOs g o.op.operands.toList := evalOs_congr fun x hx => h x (by unfold namesOf; exact List.mem_append_left _ hx)
  unfold valA
  rw [h1, h2]

end
end Go.Ab
