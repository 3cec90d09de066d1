/-
  A REGION THAT DRAWS ITS ORDER, WHOLE (own work).
-/
import Derived.Test.YtlonlfiaclacdaaAb14
namespace Go.Ab

section
variable {P : Program} {ev : Task → M AV}

theorem putT_get (fr : Tr AV) (d : Option Tmp) (v : AV) (x : Nat) : (putT fr d v).get x = if d = some x then some v else fr.get x := by
  cases d with
  | none => simp [putT]
  | some d =>
    simp only [putT, Tr.get_set, Option.some.injEq]
    by_cases e : x = d
    · rw [if_pos e, if_pos e.symm]
    · rw [if_neg e, if_neg (Ne.symm e)]

/-- The memory when just the operations of D have been carried out. -/
def HD (S : Nat → St) (L : Nat → Nat × Nat) (D : Nat → Bool) : Nat → Nat → Option Obj
  | 0, b => (S 0).heap.get b
  | k + 1, b => if D k = true ∧ bit (L k).2 b then (S (k + 1)).heap.get b else HD S L D k b

/-- The slots when just the operations of D have been carried out. -/
def FD (ops : List Oper) (F : Nat → Tr AV) (V : Nat → AV) (D : Nat → Bool) : Nat → Nat → Option AV
  | 0, x => (F 0).get x
  | k + 1, x => if D k = true ∧ (ops[k]?).bind (·.dst) = some x then some (V k) else FD ops F V D k x

theorem HD_agree {S : Nat → St} {L : Nat → Nat × Nat} {D : Nat → Bool} {N i b : Nat} (hi : i < N) (hD : D i = false)
    (hframe : ∀ k, k < N → ¬ bit (L k).2 b → (S (k + 1)).heap.get b = (S k).heap.get b)
    (hlow : ∀ k, k < i → bit (L k).2 b → D k = true) (hhigh : ∀ k, i < k → k < N → bit (L k).2 b → D k = false) :
    HD S L D N b = (S i).heap.get b := by
  have h1 : ∀ k, k ≤ i → HD S L D k b = (S k).heap.get b := by
    intro k
    induction k with
    | zero => intro _; rfl
    | succ k ih =>
      intro hk
      simp only [HD]
      by_cases hw : bit (L k).2 b
      · rw [if_pos ⟨hlow k (by omega) hw, hw⟩]
      · rw [if_neg (by rintro ⟨_, h⟩; exact hw h), ih (by omega), hframe k (by omega) hw]
  have h2 : ∀ k, i ≤ k → k ≤ N → HD S L D k b = (S i).heap.get b := by
    intro k
    induction k with
    | zero => intro h _; have : i = 0 := by omega
              subst this; rfl
    | succ k ih =>
      intro hk hN
      by_cases e : i = k + 1
      · rw [← e]; exact h1 i (Nat.le_refl _)
      · simp only [HD]
        rw [if_neg, ih (by omega) (by omega)]
        rintro ⟨h3, h4⟩
        by_cases e' : k = i
        · subst e'; rw [hD] at h3; cases h3
        · rw [hhigh k (by omega) (by omega) h4] at h3; cases h3
  exact h2 N (by omega) (Nat.le_refl _)

theorem HD_add {S : Nat → St} {L : Nat → Nat × Nat} {D D' : Nat → Bool} {N i b : Nat} (hi : i < N) (hD' : ∀ k, D' k = (D k || k == i))
    (hhigh : ∀ k, i < k → k < N → bit (L i).2 b → bit (L k).2 b → D k = false) :
    HD S L D' N b = if bit (L i).2 b then (S (i + 1)).heap.get b else HD S L D N b := by
  by_cases hw : bit (L i).2 b
  · rw [if_pos hw]
    have : ∀ k, i + 1 ≤ k → k ≤ N → HD S L D' k b = (S (i + 1)).heap.get b := by
      intro k
      induction k with
      | zero => intro h _; omega
      | succ k ih =>
        intro hk hN
        simp only [HD]
        by_cases e : k = i
        · subst e; rw [if_pos ⟨by rw [hD']; simp, hw⟩]
        · rw [if_neg, ih (by omega) (by omega)]
          rintro ⟨h3, h4⟩
          rw [hD', hhigh k (by omega) (by omega) hw h4] at h3
          simp at h3; omega
    exact this N (by omega) (Nat.le_refl _)
  · rw [if_neg hw]
    have : ∀ k, HD S L D' k b = HD S L D k b := by
      intro k
      induction k with
      | zero => rfl
      | succ k ih =>
        simp only [HD, ih]
        by_cases e : k = i
        · subst e; rw [if_neg (by rintro ⟨_, h⟩; exact hw h), if_neg (by rintro ⟨_, h⟩; exact hw h)]
        · have : D' k = D k := by rw [hD']; simp [e]
          rw [this]
    exact this N

theorem HD_all {S : Nat → St} {L : Nat → Nat × Nat} {D : Nat → Bool} {N b : Nat} (hD : ∀ k, k < N → D k = true) (hframe : ∀ k, k < N → ¬ bit (L k).2 b → (S (k + 1)).heap.get b = (S k).heap.get b) :
    HD S L D N b = (S N).heap.get b := by
  have : ∀ k, k ≤ N → HD S L D k b = (S k).heap.get b := by
    intro k
    induction k with
    | zero => intro _; rfl
    | succ k ih =>
      intro hk
      simp only [HD]
      by_cases hw : bit (L k).2 b
      · rw [if_pos ⟨hD k (by omega), hw⟩]
      · rw [if_neg (by rintro ⟨_, h⟩; exact hw h), ih (by omega), hframe k (by omega) hw]
  exact this N (Nat.le_refl _)

theorem FD_agree {ops : List Oper} {F : Nat → Tr AV} {V : Nat → AV} {D : Nat → Bool} {N i x : Nat} (hi : i < N) (hD : D i = false) (hN : N ≤ ops.length)
    (hstep : ∀ k o, ops[k]? = some o → F (k + 1) = putT (F k) o.dst (V k))
    (hlow : ∀ k, k < i → (ops[k]?).bind (·.dst) = some x → D k = true) (hhigh : ∀ k, i < k → k < N → (ops[k]?).bind (·.dst) = some x → D k = false) :
    FD ops F V D N x = (F i).get x := by
  have hs : ∀ k, k < N → (F (k + 1)).get x = if (ops[k]?).bind (·.dst) = some x then some (V k) else (F k).get x := by
    intro k hk
    obtain ⟨o, ho⟩ : ∃ o, ops[k]? = some o := ⟨ops[k]'(by omega), by rw [List.getElem?_eq_getElem]⟩
    rw [hstep k o ho, ho]
    simp only [Option.bind_some]
    exact putT_get _ _ _ _
  have h1 : ∀ k, k ≤ i → FD ops F V D k x = (F k).get x := by
    intro k
    induction k with
    | zero => intro _; rfl
    | succ k ih =>
      intro hk
      simp only [FD]
      rw [hs k (by omega)]
      by_cases hw : (ops[k]?).bind (·.dst) = some x
      · rw [if_pos ⟨hlow k (by omega) hw, hw⟩, if_pos hw]
      · rw [if_neg (by rintro ⟨_, h⟩; exact hw h), if_neg hw, ih (by omega)]
  have h2 : ∀ k, i ≤ k → k ≤ N → FD ops F V D k x = (F i).get x := by
    intro k
    induction k with
    | zero => intro h _; have : i = 0 := by omega
              subst this; rfl
    | succ k ih =>
      intro hk hN'
      by_cases e : i = k + 1
      · rw [← e]; exact h1 i (Nat.le_refl _)
      · simp only [FD]
        rw [if_neg, ih (by omega) (by omega)]
        rintro ⟨h3, h4⟩
        by_cases e' : k = i
        · subst e'; rw [hD] at h3; cases h3
        · rw [hhigh k (by omega) (by omega) h4] at h3; cases h3
  exact h2 N (by omega) (Nat.le_refl _)

theorem FD_add {ops : List Oper} {F : Nat → Tr AV} {V : Nat → AV} {D D' : Nat → Bool} {N i x : Nat} (hi : i < N) (hD' : ∀ k, D' k = (D k || k == i))
    (hhigh : ∀ k, i < k → k < N → (ops[i]?).bind (·.dst) = some x → (ops[k]?).bind (·.dst) = some x → D k = false) :
    FD ops F V D' N x = if (ops[i]?).bind (·.dst) = some x then some (V i) else FD ops F V D N x := by
  by_cases hw : (ops[i]?).bind (·.dst) = some x
  · rw [if_pos hw]
    have : ∀ k, i + 1 ≤ k → k ≤ N → FD ops F V D' k x = some (V i) := by
      intro k
      induction k with
      | zero => intro h _; omega
      | succ k ih =>
        intro hk hN
        simp only [FD]
        by_cases e : k = i
        · subst e; rw [if_pos ⟨by rw [hD']; simp, hw⟩]
        · rw [if_neg, ih (by omega) (by omega)]
          rintro ⟨h3, h4⟩
          rw [hD', hhigh k (by omega) (by omega) hw h4] at h3
          simp at h3; omega
    exact this N (by omega) (Nat.le_refl _)
  · rw [if_neg hw]
    have : ∀ k, FD ops F V D' k x = FD ops F V D k x := by
      intro k
      induction k with
      | zero => rfl
      | succ k ih =>
        simp only [FD, ih]
        by_cases e : k = i
        · subst e; rw [if_neg (by rintro ⟨_, h⟩; exact hw h), if_neg (by rintro ⟨_, h⟩; exact hw h)]
        · have : D' k = D k := by rw [hD']; simp [e]
          rw [this]
    exact this N

theorem FD_all {ops : List Oper} {F : Nat → Tr AV} {V : Nat → AV} {D : Nat → Bool} {N x : Nat} (hD : ∀ k, k < N → D k = true) (hN : N ≤ ops.length)
    (hstep : ∀ k o, ops[k]? = some o → F (k + 1) = putT (F k) o.dst (V k)) : FD ops F V D N x = (F N).get x := by
  have : ∀ k, k ≤ N → FD ops F V D k x = (F k).get x := by
    intro k
    induction k with
    | zero => intro _; rfl
    | succ k ih =>
      intro hk
      obtain ⟨o, ho⟩ : ∃ o, ops[k]? = some o := ⟨ops[k]'(by omega), by rw [List.getElem?_eq_getElem]⟩
      rw [hstep k o ho]
      simp only [FD, ho, Option.bind_some, ih (by omega)]
      rw [putT_get]
      by_cases e : o.dst = some x
      · rw [if_pos ⟨hD k (by omega), e⟩, if_pos e]
      · rw [if_neg (by rintro ⟨_, h⟩; exact e h), if_neg e]
  exact this N (Nat.le_refl _)

/-- The locality of one step of the text's run, with the masks that it has logged. -/
theorem step_locs {ops : List Oper} {f : Tr AV} {o : Oper} {s : St} {v : AV} {l : Nat × Nat} {s' : St} (h : (logged (valA P ev ops f o)).run s = .ok (v, l) s') :
    s.next ≤ s'.next ∧ (∀ b, bit l.1 b ∨ bit l.2 b → b < s'.next) ∧ (∀ b, s.next ≤ b → b < s'.next → bit l.2 b) ∧ (∀ b, ¬ bit l.2 b → s'.heap.get b = s.heap.get b) ∧
    (∀ b, s.heap.get b = none → b < s.next ∨ s'.next ≤ b → s'.heap.get b = none) ∧
    (∀ t : St, t.next = s.next → (∀ b, bit l.1 b ∨ bit l.2 b → b < s.next → t.heap.get b = s.heap.get b) →
      ∃ t', (valA P ev ops f o).run t = .ok v t' ∧ t'.next = s'.next ∧ (∀ b, bit l.2 b → t'.heap.get b = s'.heap.get b) ∧ (∀ b, ¬ bit l.2 b → t'.heap.get b = t.heap.get b)) := by
  obtain ⟨a, s1, h1, h2, rfl⟩ := loggedRun_ok.1 h
  simp only [Prod.mk.injEq] at h2
  obtain ⟨rfl, rfl⟩ := h2
  obtain ⟨r, w, X⟩ := (valA P ev ops f o).loc _ _ _ h1
  have hr : s1.rd = r := by rw [X.hrd]; simp
  have hw : s1.wr = w := by rw [X.hwr]; simp
  simp only [hr, hw]
  refine ⟨X.next, X.below, X.new, X.frame, X.dom, fun t ht hag => ?_⟩
  obtain ⟨t', e, n', _, _, g, k⟩ := X.again t ht hag
  exact ⟨t', e, n', g, k⟩

/-! ### The drawn order -/

/-- How many operations are not listed yet. -/
def left (N : Nat) (listed : Array Bool) : Nat := (List.range N).countP fun k => !listed.getD k false

theorem left_zero {N : Nat} {listed : Array Bool} (h : left N listed = 0) : ∀ k, k < N → listed.getD k false = true := by
  intro k hk
  unfold left at h
  rw [List.countP_eq_zero] at h
  have := h k (List.mem_range.2 hk)
  simpa using this

theorem countP_range_set {N i : Nat} {p q : Nat → Bool} (hi : i < N) (hp : p i = true) (hq : ∀ k, q k = (p k && !(k == i))) : (List.range N).countP p = (List.range N).countP q + 1 := by
  induction N with
  | zero => omega
  | succ N ih =>
    rw [List.range_succ, List.countP_append, List.countP_append]
    by_cases e : i = N
    · subst e
      have : (List.range i).countP p = (List.range i).countP q := List.countP_congr fun k hk => by
        have := List.mem_range.1 hk
        rw [hq]; simp; intro _; omega
      have hqi : q i = false := by rw [hq]; simp
      simp [this, hp, hqi]
    · have := ih (by omega)
      have hN : q N = p N := by rw [hq]; simp; omega
      simp only [List.countP_singleton, hN]
      omega

theorem left_set {N i : Nat} {listed : Array Bool} (hs : listed.size = N) (hi : i < N) (h : listed.getD i false = false) : left N listed = left N (listed.setIfInBounds i true) + 1 := by
  refine countP_range_set hi (by rw [h]; rfl) fun k => ?_
  simp only [Array.getD_eq_getD_getElem?, Array.getElem?_setIfInBounds]
  by_cases e : i = k
  · subst e; simp [hs, hi]
  · have : (k == i) = false := by simpa using Ne.symm e
    simp [e, this]

theorem getD_listed {listed : Array Bool} {i : Nat} (hi : i < listed.size) (k : Nat) : (listed.setIfInBounds i true).getD k false = (listed.getD k false || k == i) := by
  simp only [Array.getD_eq_getD_getElem?, Array.getElem?_setIfInBounds]
  by_cases e : i = k
  · subst e; simp [hi]
  · have : (k == i) = false := by simpa using Ne.symm e
    simp [e, this]

/-- What is known of a region's run in the order of the text. -/
structure Known (P : Program) (ev : Task → M AV) (nt : Nat) (ops : Array Oper) (S : Nat → St) (F : Nat → Tr AV) (V : Nat → AV) (L : Nat → Nat × Nat) : Prop where
  step : ∀ i o, ops[i]? = some o → fitsT nt o.dst = true ∧ (logged (valA P ev ops.toList (F i) o)).run (S i) = .ok (V i, L i) (S (i + 1)) ∧ F (i + 1) = putT (F i) o.dst (V i)
  edge : ∀ i o, ops[i]? = some o → ∀ e ∈ o.after.toList, Region.binds .any e = true → e.on < i
  mem : ∀ i j, i < j → j < ops.size → bit (bs ops.toList j) i ∨ clash (L i) (L j) = false
  slot : ∀ i j a b, i < j → ops[i]? = some a → ops[j]? = some b → bit (bs ops.toList j) i ∨ slotsOk ops.toList a b = true
  fresh : Fresh (S 0) (S ops.size)

theorem Known.next_le {nt : Nat} {ops : Array Oper} {S : Nat → St} {F : Nat → Tr AV} {V : Nat → AV} {L : Nat → Nat × Nat} (K : Known P ev nt ops S F V L) : ∀ i j, i ≤ j → j ≤ ops.size → (S i).next ≤ (S j).next := by
  intro i j hij
  induction j with
  | zero => intro _; have : i = 0 := by omega
            subst this; exact Nat.le_refl _
  | succ j ih =>
    intro hj
    by_cases e : i = j + 1
    · subst e; exact Nat.le_refl _
    · have ho : ops[j]? = some ops[j] := Array.getElem?_eq_getElem (by omega)
      have := (step_locs (K.step j _ ho).2.1).1
      exact Nat.le_trans (ih (by omega) (by omega)) this

/-- At each step of the text's run the numbers to come are free. -/
theorem Known.free {nt : Nat} {ops : Array Oper} {S : Nat → St} {F : Nat → Tr AV} {V : Nat → AV} {L : Nat → Nat × Nat} (K : Known P ev nt ops S F V L) : ∀ i, i ≤ ops.size → ∀ b, (S i).next ≤ b → b < (S ops.size).next → (S i).heap.get b = none := by
  intro i
  induction i with
  | zero => intro _ b h1 h2; exact K.fresh b h1 h2
  | succ i ih =>
    intro hi b h1 h2
    have ho : ops[i]? = some ops[i] := Array.getElem?_eq_getElem (by omega)
    obtain ⟨g1, _, _, _, g5, _⟩ := step_locs (K.step i _ ho).2.1
    exact g5 b (ih (by omega) b (by omega) h2) (.inr h1)

theorem any_sim (hext : ExtOk P) (hev : EvOk P ev) (ro : Option Nat) {nt : Nat} {ops : Array Oper} {S : Nat → St} {F : Nat → Tr AV} {V : Nat → AV} {L : Nat → Nat × Nat} (K : Known P ev nt ops S F V L)
    (Q : Exit → Act → World → Prop) {m0 : Inj} {w0 : World} {df : List Deferred}
    (hQ : ∀ m' a' w', Ext m0 w0 m' w' → Rel m' (S ops.size).heap.get w' → FR m' nt (F ops.size) a'.tmps → a'.defers = df → Q .normal a' w') :
    ∀ (fuel : Nat) (listed : Array Bool) (a : Act) (w : World) (m : Inj) (t : St) (f : Tr AV), listed.size = ops.size → left ops.size listed = fuel →
      (∀ k, k < ops.size → listed.getD k false = true → ∀ j, bit (bs ops.toList k) j → listed.getD j false = true) →
      Ext m0 w0 m w → (∀ b, t.heap.get b = HD S L (fun k => listed.getD k false) ops.size b) → (∀ x, f.get x = FD ops.toList F V (fun k => listed.getD k false) ops.size x) →
      Rel m t.heap.get w → FR m nt f a.tmps → a.defers = df → wpAnyIn (Fw ro) 0 P .any ops Q fuel listed a w := by
  -- what all steps keep
  have hframe : ∀ b k, k < ops.size → ¬ bit (L k).2 b → (S (k + 1)).heap.get b = (S k).heap.get b := by
    intro b k hk
    have ho : ops[k]? = some ops[k] := Array.getElem?_eq_getElem hk
    exact (step_locs (K.step k _ ho).2.1).2.2.2.1 b
  have hstep : ∀ k o, ops.toList[k]? = some o → F (k + 1) = putT (F k) o.dst (V k) := fun k o ho => (K.step k o (by simpa using ho)).2.2
  have hlen : ops.size ≤ ops.toList.length := by simp
  -- when all are listed
  have hdone : ∀ (listed : Array Bool) (a : Act) (w : World) (m : Inj) (t : St) (f : Tr AV), (∀ k, k < ops.size → listed.getD k false = true) →
      Ext m0 w0 m w → (∀ b, t.heap.get b = HD S L (fun k => listed.getD k false) ops.size b) → (∀ x, f.get x = FD ops.toList F V (fun k => listed.getD k false) ops.size x) →
      Rel m t.heap.get w → FR m nt f a.tmps → a.defers = df → Q .normal a w := by
    intro listed a w m t f hall he ht hf' hr hfr hd
    refine hQ m a w he ?_ ?_ hd
    · exact hr.congr fun b => by rw [ht, HD_all hall (hframe b)]
    · refine ⟨hfr.size, fun x => ?_⟩
      have := hfr.get x
      rw [hf', FD_all hall hlen hstep] at this
      exact this
  intro fuel
  induction fuel with
  | zero =>
    intro listed a w m t f hs hl hdown he ht hf' hr hfr hd
    have hall := left_zero hl
    refine ⟨?_, hdone listed a w m t f hall he ht hf' hr hfr hd⟩
    unfold Region.ready
    rw [List.filter_eq_nil_iff]
    intro i hi
    have hi' := List.mem_range.1 hi
    have := hall i hi'
    have h2 : listed.getD i true = true := by
      simp only [Array.getD_eq_getD_getElem?] at this ⊢
      rw [Array.getElem?_eq_getElem (by omega)] at this ⊢
      simpa using this
    simp [h2]
  | succ fuel ih =>
    intro listed a w m t f hs hl hdown he ht hf' hr hfr hd
    have hready : ∀ i, i ∈ Region.ready .any ops listed ↔ ∃ o, ops[i]? = some o ∧ listed.getD i false = false ∧ ∀ e ∈ o.after.toList, Region.binds .any e = true → listed.getD e.on false = true := by
      intro i
      unfold Region.ready
      rw [List.mem_filter, List.mem_range]
      constructor
      · rintro ⟨hi, h⟩
        have ho : ops[i]? = some ops[i] := Array.getElem?_eq_getElem hi
        rw [ho] at h
        simp only [Option.map_some, Option.getD_some, Bool.and_eq_true, Bool.not_eq_true'] at h
        refine ⟨_, ho, ?_, ?_⟩
        · have := h.1
          simp only [Array.getD_eq_getD_getElem?] at this ⊢
          rw [Array.getElem?_eq_getElem (by omega)] at this ⊢
          simpa using this
        · intro e he hb
          have := h.2
          rw [Array.all_eq_true_iff_forall_mem] at this
          have := this e (by simpa using he)
          rw [hb] at this; simpa using this
      · rintro ⟨o, ho, h1, h2⟩
        have hi : i < ops.size := (Array.getElem?_eq_some_iff.1 ho).1
        refine ⟨hi, ?_⟩
        rw [ho]
        simp only [Option.map_some, Option.getD_some, Bool.and_eq_true, Bool.not_eq_true']
        refine ⟨?_, ?_⟩
        · simp only [Array.getD_eq_getD_getElem?] at h1 ⊢
          rw [Array.getElem?_eq_getElem (by omega)] at h1 ⊢
          simpa using h1
        · rw [Array.all_eq_true_iff_forall_mem]
          intro e he
          cases hb : Region.binds .any e with
          | false => rfl
          | true => have := h2 e (by simpa using he) hb; simpa using this
    refine ⟨fun hnil => ?_, fun i hi => ?_⟩
    · -- nothing is ready: all are listed
      refine hdone listed a w m t f ?_ he ht hf' hr hfr hd
      have hall : ∀ n, n < ops.size → ∀ k, k ≤ n → listed.getD k false = true := by
        intro n
        induction n using Nat.strongRecOn with
        | _ n ihn =>
          intro hn k hk
          by_cases hkn : k < n
          · exact ihn k hkn (by omega) k (Nat.le_refl _)
          · have : k = n := by omega
            subst this
            cases hc : listed.getD k false with
            | true => rfl
            | false =>
              have ho : ops[k]? = some ops[k] := Array.getElem?_eq_getElem hn
              have : k ∈ Region.ready .any ops listed := (hready k).2 ⟨_, ho, hc, fun e he hb => by
                have := K.edge k _ ho e he hb
                exact ihn e.on this (by omega) e.on (Nat.le_refl _)⟩
              rw [hnil] at this; cases this
      exact fun k hk => hall k hk k (Nat.le_refl _)
    · -- the operation that is drawn
      obtain ⟨o, ho, hD, hedges⟩ := (hready i).1 hi
      have hi' : i < ops.size := (Array.getElem?_eq_some_iff.1 ho).1
      have hol : ops.toList[i]? = some o := by simpa using ho
      obtain ⟨hfit, hrun, hF⟩ := K.step i o ho
      obtain ⟨n1, n2, n3, n4, n5, n6⟩ := step_locs hrun
      -- all ahead of it are listed
      have hbefore : ∀ j, bit (bs ops.toList i) j → listed.getD j false = true := by
        intro j hj
        obtain ⟨e, he, hb, hj⟩ := bs_bit hol (fun e he hb => K.edge i o ho e he hb) hj
        have hlist := hedges e he hb
        rcases hj with rfl | hj
        · exact hlist
        · exact hdown e.on (by have := K.edge i o ho e he hb; omega) hlist j hj
      have hafter : ∀ k, i < k → k < ops.size → bit (bs ops.toList k) i → listed.getD k false = false := by
        intro k hik hk hb
        cases hc : listed.getD k false with
        | false => rfl
        | true => have := hdown k hk hc i hb; rw [hD] at this; cases this
      -- the blocks that it looks at
      have hagree : ∀ b, (bit (L i).1 b ∨ bit (L i).2 b) → t.heap.get b = (S i).heap.get b := by
        intro b hb
        rw [ht]
        refine HD_agree hi' hD (hframe b) (fun k hk hw => ?_) (fun k hk hkN hw => ?_)
        · rcases K.mem k i hk hi' with h | h
          · exact hbefore k h
          · exact absurd ⟨hw, hb⟩ (clash_false h b).1
        · rcases K.mem i k hk hkN with h | h
          · exact hafter k hk hkN h
          · rcases hb with hb | hb
            · exact absurd ⟨hb, hw⟩ (clash_false h b).2
            · exact absurd ⟨hb, .inr hw⟩ (clash_false h b).1
      -- the slots that it looks at
      have hnames : ∀ x ∈ namesOf ops.toList o, f.get x = (F i).get x := by
        intro x hx
        rw [hf']
        refine FD_agree hi' hD hlen hstep (fun k hk hw => ?_) (fun k hk hkN hw => ?_)
        · have hok : ops[k]? = some ops[k] := Array.getElem?_eq_getElem (by omega)
          rcases K.slot k i _ o hk hok ho with h | h
          · exact hbefore k h
          · rw [show ops.toList[k]? = some ops[k] by simp] at hw
            exact absurd hx ((slotsOk_spec h).1 x hw).1
        · have hok : ops[k]? = some ops[k] := Array.getElem?_eq_getElem hkN
          rcases K.slot i k o _ hk ho hok with h | h
          · exact hafter k hk hkN h
          · rw [show ops.toList[k]? = some ops[k] by simp] at hw
            exact absurd hx ((slotsOk_spec h).2 x hw)
      -- its run here
      obtain ⟨t', r1, r2, r3, r4⟩ := n6 { t with next := (S i).next } rfl (fun b hb _ => hagree b hb)
      have hfresh : Fresh { t with next := (S i).next } t' := by
        intro b h1 h2
        simp only at h1
        rw [r2] at h2
        have hw := n3 b h1 h2
        show t.heap.get b = none
        rw [hagree b (.inr hw)]
        exact K.free i (by omega) b h1 (by have := K.next_le (i + 1) ops.size (by omega) (Nat.le_refl _); omega)
      rw [← valA_congr hnames] at r1
      refine step_sim (s := { t with next := (S i).next }) hext hev hr hfr ho hfit r1 hfresh ro _ Q fun m1 a1 w1 e1 q1 fr1 d1 => ?_
      -- what is listed now
      have hgd := getD_listed (listed := listed) (i := i) (by omega)
      refine ih (listed.setIfInBounds i true) a1 w1 m1 t' (putT f o.dst (V i)) (by simp [hs]) (by have := left_set hs hi' hD; omega) ?_ (he.trans e1) ?_ ?_ q1 fr1 (d1.trans hd)
      · intro k hk hk2 j hj
        rw [hgd] at hk2 ⊢
        rw [Bool.or_eq_true] at hk2 ⊢
        rcases hk2 with h | h
        · exact .inl (hdown k hk h j hj)
        · have : k = i := by simpa using h
          subst this; exact .inl (hbefore j hj)
      · intro b
        rw [HD_add (D := fun k => listed.getD k false) hi' hgd (fun k hk hkN h1 h2 => by
          rcases K.mem i k hk hkN with h | h
          · exact hafter k hk hkN h
          · exact absurd ⟨h1, .inr h2⟩ (clash_false h b).1)]
        by_cases hw : bit (L i).2 b
        · rw [if_pos hw]; exact r3 b hw
        · rw [if_neg hw, r4 b hw]; exact ht b
      · intro x
        rw [FD_add (D := fun k => listed.getD k false) hi' hgd (fun k hk hkN h1 h2 => by
          have hok : ops[k]? = some ops[k] := Array.getElem?_eq_getElem hkN
          rcases K.slot i k o _ hk ho hok with h | h
          · exact hafter k hk hkN h
          · rw [hol] at h1
            rw [show ops.toList[k]? = some ops[k] by simp] at h2
            exact absurd h2 ((slotsOk_spec h).1 x h1).2), putT_get, hol]
        simp only [Option.bind_some]
        rw [hf']

theorem draw_sim (hext : ExtOk P) (hev : EvOk P ev) (ro : Option Nat) {nt : Nat} {ops : Array Oper} {id : Nat} (Q : Exit → Act → World → Prop) {m : Inj} {w : World} {s : St} {fr fr' : Tr AV} {a : Act} {s' : St}
    (hr : Rel m s.heap.get w) (hfr : FR m nt fr a.tmps) (h : (regionD P ev nt ops.toList fr).run s = .ok fr' s') (hf : Fresh s s')
    (hQ : ∀ m' a' w', Ext m w m' w' → Rel m' s'.heap.get w' → FR m' nt fr' a'.tmps → a'.defers = a.defers → Q .normal a' w') : (Code.region id ops true).wpIn (Fw ro) 0 P Q a w := by
  unfold regionD at h
  cases hst : staticOk ops.toList && P.follows .mixedOrders with
  | false => simp only [hst, cond_false] at h; exact (fail_ok h).elim
  | true =>
    simp only [hst, cond_true] at h
    obtain ⟨hst1, hmix⟩ := and_true hst
    obtain ⟨q, s1, h1, h2⟩ := bind_ok h
    cases hcl : clashes [] q.2 (befores ops.toList []) with
    | true => simp only [hcl, cond_true] at h2; exact (fail_ok h2).elim
    | false =>
      simp only [hcl, cond_false] at h2
      obtain ⟨rfl, rfl⟩ := pure_ok h2
      obtain ⟨S, F, V, g1, g2, g3, g4, g5, g6⟩ := opsD_trace ops.toList 0 (by simp) h1
      simp only [Nat.zero_add, Array.length_toList] at g3 g4 g5
      simp only [staticOk, Bool.and_eq_true] at hst1
      have hK : Known P ev nt ops S F V (fun i => q.2.getD i (0, 0)) := by
        refine ⟨fun i o ho => ?_, fun i o ho e he hb => ?_, fun i j hij hj => ?_, fun i j a b hij ha hb => ?_, ?_⟩
        · have := g6 i o (Nat.zero_le _) (by simpa using ho)
          simpa using this
        · have := edgesOk_spec hst1.1 i o (by simpa using ho) e he hb
          omega
        · have hlj : q.2[j]? = some (q.2.getD j (0, 0)) := by
            simp only [List.getD]; rw [List.getElem?_eq_getElem (by omega)]; rfl
          have hli : ([] ++ q.2)[i]? = some (q.2.getD i (0, 0)) := by
            simp only [List.getD, List.nil_append]; rw [List.getElem?_eq_getElem (by omega)]; rfl
          exact clashes_false hcl i j _ _ (by simpa using hij) hlj hli
        · exact slotsAll_spec hst1.2 i j b a (by simpa using hij) (by simpa using hb) (by simpa using ha)
        · rw [g1, g3]; exact hf
      apply wpIn_region_draw
      intro tp
      rw [hmix]
      show wpOpsIn (Fw ro) 0 P ops Q (Region.linearise .any ops tp) a _
      unfold Region.linearise
      apply wpAnyIn_sound
      have hrep : ∀ k, (Array.replicate ops.size false).getD k false = false := by
        intro k
        simp only [Array.getD_eq_getD_getElem?, Array.getElem?_replicate]
        split <;> rfl
      have hHD : ∀ N b, HD S (fun i => q.2.getD i (0, 0)) (fun k => (Array.replicate ops.size false).getD k false) N b = (S 0).heap.get b := by
        intro N b
        induction N with
        | zero => rfl
        | succ N ih => simp only [HD, hrep]; rw [if_neg (by simp), ← ih]; simp only [hrep]
      have hFD : ∀ N x, FD ops.toList F V (fun k => (Array.replicate ops.size false).getD k false) N x = (F 0).get x := by
        intro N x
        induction N with
        | zero => rfl
        | succ N ih => simp only [FD, hrep]; rw [if_neg (by simp), ← ih]; simp only [hrep]
      refine any_sim hext hev ro hK Q (m0 := m) (w0 := w) (df := a.defers) (by rw [g3, g4]; exact hQ) ops.size _ a _ m s fr (by simp) ?_ ?_ (Ext.drew m w) ?_ ?_ hr.drew hfr rfl
      · unfold left
        rw [List.countP_eq_length.2 (fun k _ => by rw [hrep]; rfl), List.length_range]
      · intro k _ hk; rw [hrep] at hk; cases hk
      · intro b; rw [hHD, g1]
      · intro x; rw [hFD, g2]

end
end Go.Ab
