/-
  WHAT THE EVALUATOR's MEMORY SAYS OF THE MODEL's (own work): values, blocks, worlds; what a piece of a run leaves alone.
-/
import Derived.Test.YtlonlfiaclacdaaAb2
import Derived.Laws.AppendOwn
namespace Go.Ab

/-- Where a version of a block lies: the model's block, how many cells that has, how many cells an element takes. -/
abbrev Inj := Nat → Nat → Option (Nat × Nat × Nat)

def Inj.le (m m' : Inj) : Prop := ∀ b u p, m b u = some p → m' b u = some p

theorem Inj.le_refl (m : Inj) : m.le m := fun _ _ _ h => h
theorem Inj.le_trans {m m' m'' : Inj} (h : m.le m') (h' : m'.le m'') : m.le m'' := fun b u p e => h' b u p (h b u p e)

mutual
inductive VR (m : Inj) : AV → Value → Prop
  | int (k : IntKind) (n : Int) : VR m (.int k n) (.int k n)
  | rng (k : IntKind) (lo hi n : Int) : lo ≤ n → n ≤ hi → VR m (.rng k lo hi) (.int k n)
  | bool (b : Bool) : VR m (.bool b) (.bool b)
  | str (s : ByteArray) (len code : Nat) : s.size = len → encB s.data.toList = code → VR m (.str len code) (.string s)
  | ptr (b v o B t e : Nat) : m b v = some (B, t, e) → VR m (.ptr b v o) (.pointer (some ⟨B, o, none⟩))
  | nilptr : VR m .nilptr (.pointer none)
  | slice (b v o len : Nat) (cap : Option Nat) (B t e c : Nat) : m b v = some (B, t, e) → len ≤ c → (∀ c', cap = some c' → c = c') →
      (cap = none → o = 0 → c * e ≤ t) → VR m (.slice b v o len cap) (.slice (some ⟨B, o, none⟩) len c)
  | nilslice : VR m .nilslice (.slice none 0 0)
  | map (r B t e : Nat) : m r 0 = some (B, t, e) → VR m (.map r) (.map (some B))
  | nilmap : VR m .nilmap (.map none)
  | func (fn : Fn) (fs cs : List AV) (fs' cs' : List Value) : (∀ l, fn ≠ .yield l) → VRs m fs fs' → VRs m cs cs' → VR m (.func fn fs cs) (.func fn fs'.toArray cs'.toArray)
  | yield (l B t e : Nat) : m l 0 = some (B, t, e) → VR m (.func (.yield l) [] []) (.func (.yield B) #[] #[])
  | nilfunc : VR m .nilfunc .nilFunc
  | iface (t : TypeId) (a : AV) (v : Value) : VR m a v → VR m (.iface t a) (.iface t v)
  | niliface : VR m .niliface .nilIface
  | agg (l : List AV) (l' : List Value) : VRs m l l' → VR m (.agg l) (.agg l'.toArray)
  | tuple (l : List AV) (l' : List Value) : VRs m l l' → VR m (.tuple l) (.tuple l'.toArray)
inductive VRs (m : Inj) : List AV → List Value → Prop
  | nil : VRs m [] []
  | cons (a : AV) (v : Value) (l : List AV) (l' : List Value) : VR m a v → VRs m l l' → VRs m (a :: l) (v :: l')
end

mutual
theorem VR.mono {m m' : Inj} (h : m.le m') {a : AV} {v : Value} : VR m a v → VR m' a v
  | .int k n => .int k n
  | .rng k lo hi n h1 h2 => .rng k lo hi n h1 h2
  | .bool b => .bool b
  | .str s n c h1 h2 => .str s n c h1 h2
  | .ptr b v o B t e hm => .ptr b v o B t e (h _ _ _ hm)
  | .nilptr => .nilptr
  | .slice b v o len cap B t e c hm h1 h2 h3 => .slice b v o len cap B t e c (h _ _ _ hm) h1 h2 h3
  | .nilslice => .nilslice
  | .map r B t e hm => .map r B t e (h _ _ _ hm)
  | .nilmap => .nilmap
  | .func fn fs cs fs' cs' h0 h1 h2 => .func fn fs cs fs' cs' h0 (VRs.mono h h1) (VRs.mono h h2)
  | .yield l B t e hm => .yield l B t e (h _ _ _ hm)
  | .nilfunc => .nilfunc
  | .iface t a v h1 => .iface t a v (VR.mono h h1)
  | .niliface => .niliface
  | .agg l l' h1 => .agg l l' (VRs.mono h h1)
  | .tuple l l' h1 => .tuple l l' (VRs.mono h h1)
theorem VRs.mono {m m' : Inj} (h : m.le m') {l : List AV} {l' : List Value} : VRs m l l' → VRs m' l l'
  | .nil => .nil
  | .cons a v l l' h1 h2 => .cons a v l l' (VR.mono h h1) (VRs.mono h h2)
end

theorem VRs.length {m : Inj} {l : List AV} {l' : List Value} (h : VRs m l l') : l.length = l'.length := by
  induction l generalizing l' with
  | nil => cases h; rfl
  | cons a l ih => cases h with | cons _ v _ l' h1 h2 => simp [ih h2]

theorem VRs.append {m : Inj} {l : List AV} {l' : List Value} {k : List AV} {k' : List Value} (h : VRs m l l') (hk : VRs m k k') : VRs m (l ++ k) (l' ++ k') := by
  induction l generalizing l' with
  | nil => cases h; exact hk
  | cons a l ih => cases h with | cons _ v _ l' h1 h2 => exact .cons _ _ _ _ h1 (ih h2)

theorem VRs.take {m : Inj} {l : List AV} {l' : List Value} (h : VRs m l l') (n : Nat) : VRs m (l.take n) (l'.take n) := by
  induction l generalizing l' n with
  | nil => cases h; simp; exact .nil
  | cons a l ih =>
    cases h with
    | cons _ v _ l' h1 h2 =>
      cases n with
      | zero => exact .nil
      | succ n => exact .cons _ _ _ _ h1 (ih h2 n)

theorem VRs.drop {m : Inj} {l : List AV} {l' : List Value} (h : VRs m l l') (n : Nat) : VRs m (l.drop n) (l'.drop n) := by
  induction l generalizing l' n with
  | nil => cases h; simp; exact .nil
  | cons a l ih =>
    cases h with
    | cons _ v _ l' h1 h2 =>
      cases n with
      | zero => exact .cons _ _ _ _ h1 h2
      | succ n => exact ih h2 n

theorem VRs.get {m : Inj} {l : List AV} {l' : List Value} (h : VRs m l l') {i : Nat} {a : AV} (ha : l[i]? = some a) : ∃ v, l'[i]? = some v ∧ VR m a v := by
  induction l generalizing l' i with
  | nil => simp at ha
  | cons x l ih =>
    cases h with
    | cons _ v _ l' h1 h2 =>
      cases i with
      | zero => simp at ha; subst ha; exact ⟨v, rfl, h1⟩
      | succ i => simp at ha; simpa using ih h2 ha

theorem VRs.of_get {m : Inj} {l : List AV} {l' : List Value} (hl : l.length = l'.length) (h : ∀ (i : Nat) (a : AV) (v : Value), l[i]? = some a → l'[i]? = some v → VR m a v) : VRs m l l' := by
  induction l generalizing l' with
  | nil => cases l' with
    | nil => exact .nil
    | cons => simp at hl
  | cons a l ih =>
    cases l' with
    | nil => simp at hl
    | cons v l' => exact .cons _ _ _ _ (h 0 a v rfl rfl) (ih (by simpa using hl) fun i a v h1 h2 => h (i + 1) a v (by simpa using h1) (by simpa using h2))

theorem VRs.one {m : Inj} {a : AV} {v : Value} (h : VR m a v) : VRs m [a] [v] := .cons _ _ _ _ h .nil

theorem VR.cells {m : Inj} {a : AV} {v : Value} (h : VR m a v) : VRs m a.cells v.cells.toList := by
  cases h with
  | agg l l' h => exact h
  | func => exact .one (.func _ _ _ _ _ ‹_› ‹_› ‹_›)
  | int => exact .one (.int _ _)
  | rng => exact .one (.rng _ _ _ _ ‹_› ‹_›)
  | bool => exact .one (.bool _)
  | str => exact .one (.str _ _ _ ‹_› ‹_›)
  | ptr => exact .one (.ptr _ _ _ _ _ _ ‹_›)
  | nilptr => exact .one .nilptr
  | slice => exact .one (.slice _ _ _ _ _ _ _ _ _ ‹_› ‹_› ‹_› ‹_›)
  | nilslice => exact .one .nilslice
  | map => exact .one (.map _ _ _ _ ‹_›)
  | nilmap => exact .one .nilmap
  | yield => exact .one (.yield _ _ _ _ ‹_›)
  | nilfunc => exact .one .nilfunc
  | iface => exact .one (.iface _ _ _ ‹_›)
  | niliface => exact .one .niliface
  | tuple => exact .one (.tuple _ _ ‹_›)

theorem VR.scalar {m : Inj} {a : AV} {v : Value} (h : VR m a v) (ha : a.scalar = true) : v.oneCell' = true := by
  cases h <;> first | rfl | (simp [AV.scalar] at ha)

/-! ### Blocks -/

/-- The slots of an activation. -/
structure FR (m : Inj) (nt : Nat) (fr : Tr AV) (tmps : Array Value) : Prop where
  size : tmps.size = nt
  get : ∀ t, VR m ((fr.get t).getD undefA) (tmps.getD t undef)

def ERel (m : Inj) : List (AV × AV) → List MapEntry → Prop
  | [], [] => True
  | (k, x) :: r, e :: r' => VR m k e.key ∧ VR m x e.val ∧ ERel m r r'
  | _, _ => False

def PRel : AExit → Option Code → Prop
  | .normal, p => p = none
  | .exit id, p => p = some (.exit id)
  | .ret, p => p = some .ret

def GRel (g : MG) (ents : List MapEntry) (clock : Nat) : Prop := ents.map (·.born) = g.bs ∧ clock = g.clk

def ORel (m : Inj) (w : World) (b : Nat) : Obj → Prop
  | .row r => r.cur < r.nv ∧ (∀ u, (m b u).isSome = true ↔ u < r.nv) ∧
      ∀ u B t e, m b u = some (B, t, e) → e = r.esz ∧ ∃ cs ty, w.heap[B]? = some (.cells cs ty (0, 0)) ∧ cs.size = t ∧
        ∀ i, i < r.n → (u = r.cur ∨ i < r.low) → ∃ a v, r.cells.get i = some a ∧ cs[i]? = some v ∧ VR m a v
  | .map es g => (∀ u, (m b u).isSome = true ↔ u = 0) ∧ ∀ B t e, m b 0 = some (B, t, e) → ∃ ents clock, w.heap[B]? = some (.map ents clock) ∧ ERel m es ents.toList ∧ GRel g ents.toList clock
  | .loop L => (∀ u, (m b u).isSome = true ↔ u = 0) ∧ ∀ B t e, m b 0 = some (B, t, e) → ∃ fn tmps pend defers,
      w.heap[B]? = some (.loop { state := L.state, pending := pend, fn := fn, tmps := tmps, params := L.params, assign := L.assign, body := L.body, defers := defers }) ∧
      FR m L.nt L.tmps tmps ∧ PRel L.pending pend
  | .iter i => (∀ u, (m b u).isSome = true ↔ u = 0) ∧ ∀ B t e, m b 0 = some (B, t, e) → ∃ mr, w.heap[B]? = some (.mapIter mr i.since i.seen.toArray i.last) ∧
      match i.r with
      | none => mr = none
      | some r => ∃ M t' e', m r 0 = some (M, t', e') ∧ mr = some M

structure Rel (m : Inj) (h : Nat → Option Obj) (w : World) : Prop where
  obj : ∀ b o, h b = some o → ORel m w b o
  dom : ∀ b u p, m b u = some p → ∃ o, h b = some o
  apart : ∀ b u B t e b' u' t' e', m b u = some (B, t, e) → m b' u' = some (B, t', e') → b = b'
  lt : ∀ b u B t e, m b u = some (B, t, e) → B < w.heap.size

/-- What a piece of a run leaves: what was placed stays placed; the model's blocks that are no version's stay as they were. -/
structure Ext (m : Inj) (w : World) (m' : Inj) (w' : World) : Prop where
  le : m.le m'
  size : w.heap.size ≤ w'.heap.size
  img : ∀ b u B t e, m' b u = some (B, t, e) → (∃ b' u' t' e', m b' u' = some (B, t', e')) ∨ w.heap.size ≤ B
  same : ∀ B, B < w.heap.size → (∀ b u t e, m b u ≠ some (B, t, e)) → w'.heap[B]? = w.heap[B]?
  os : w'.os = w.os
  output : w'.output = w.output
  frozen : ∀ a, w'.frozen? a = w.frozen? a

theorem Ext.refl (m : Inj) (w : World) : Ext m w m w :=
  ⟨(Inj.le_refl m), Nat.le_refl _, fun b u _ t e h => .inl ⟨b, u, t, e, h⟩, fun _ _ _ => rfl, rfl, rfl, fun _ => rfl⟩

theorem Ext.trans {m m' m'' : Inj} {w w' w'' : World} (h : Ext m w m' w') (h' : Ext m' w' m'' w'') : Ext m w m'' w'' := by
  refine ⟨Inj.le_trans h.le h'.le, Nat.le_trans h.size h'.size, ?_, ?_, h'.os.trans h.os, h'.output.trans h.output, fun a => (h'.frozen a).trans (h.frozen a)⟩
  · intro b u B t e hb
    rcases h'.img b u B t e hb with ⟨b', u', t', e', h1⟩ | h1
    · exact h.img _ _ _ _ _ h1
    · exact .inr (Nat.le_trans h.size h1)
  · intro B hB hn
    rw [h'.same B (Nat.lt_of_lt_of_le hB h.size) ?_, h.same B hB hn]
    intro b u t e hb
    rcases h.img b u B t e hb with ⟨b', u', t', e', h1⟩ | h1
    · exact hn _ _ _ _ h1
    · omega

theorem Ext.drew (m : Inj) (w : World) : Ext m w m { w with drawn := w.drawn + 1 } :=
  ⟨(Inj.le_refl m), Nat.le_refl _, fun b u _ t e h => .inl ⟨b, u, t, e, h⟩, fun _ _ _ => rfl, rfl, rfl, fun _ => rfl⟩

theorem FR.mono {m m' : Inj} (h : m.le m') {nt : Nat} {fr : Tr AV} {tmps : Array Value} (hf : FR m nt fr tmps) : FR m' nt fr tmps :=
  ⟨hf.size, fun t => (hf.get t).mono h⟩

theorem ERel.mono {m m' : Inj} (h : m.le m') : ∀ {es : List (AV × AV)} {l : List MapEntry}, ERel m es l → ERel m' es l
  | [], [], _ => trivial
  | (_, _) :: _, _ :: _, ⟨h1, h2, h3⟩ => ⟨h1.mono h, h2.mono h, h3.mono h⟩
  | [], _ :: _, h => h
  | (_, _) :: _, [], h => h

/-- A block's relation hangs on its own versions' places and their blocks alone. -/
theorem ORel.mono {m m' : Inj} {w w' : World} {b : Nat} {o : Obj} (hle : m.le m') (hsame : ∀ u, m' b u = m b u)
    (hw : ∀ u B t e, m b u = some (B, t, e) → w'.heap[B]? = w.heap[B]?) (h : ORel m w b o) : ORel m' w' b o := by
  cases o with
  | row r =>
    obtain ⟨h1, h2, h3⟩ := h
    refine ⟨h1, fun u => by rw [hsame]; exact h2 u, fun u B t e hm => ?_⟩
    rw [hsame] at hm
    obtain ⟨he, cs, ty, hc, hs, hi⟩ := h3 u B t e hm
    refine ⟨he, cs, ty, by rw [hw u B t e hm]; exact hc, hs, fun i h1 h2 => ?_⟩
    obtain ⟨a, v, ha, hv, hr⟩ := hi i h1 h2
    exact ⟨a, v, ha, hv, hr.mono hle⟩
  | map es g =>
    obtain ⟨h2, h3⟩ := h
    refine ⟨fun u => by rw [hsame]; exact h2 u, fun B t e hm => ?_⟩
    rw [hsame] at hm
    obtain ⟨ents, clock, hc, he, hg⟩ := h3 B t e hm
    exact ⟨ents, clock, by rw [hw 0 B t e hm]; exact hc, he.mono hle, hg⟩
  | iter i =>
    obtain ⟨h2, h3⟩ := h
    refine ⟨fun u => by rw [hsame]; exact h2 u, fun B t e hm => ?_⟩
    rw [hsame] at hm
    obtain ⟨mr, hc, hi⟩ := h3 B t e hm
    refine ⟨mr, by rw [hw 0 B t e hm]; exact hc, ?_⟩
    cases hr : i.r with
    | none => rw [hr] at hi; exact hi
    | some r =>
      rw [hr] at hi
      obtain ⟨M, t', e', h1, h4⟩ := hi
      exact ⟨M, t', e', hle _ _ _ h1, h4⟩
  | loop L =>
    obtain ⟨h2, h3⟩ := h
    refine ⟨fun u => by rw [hsame]; exact h2 u, fun B t e hm => ?_⟩
    rw [hsame] at hm
    obtain ⟨fn, tmps, pend, defers, hc, hf, hp⟩ := h3 B t e hm
    exact ⟨fn, tmps, pend, defers, by rw [hw 0 B t e hm]; exact hc, hf.mono hle, hp⟩

theorem Rel.congr {m : Inj} {h h' : Nat → Option Obj} {w : World} (hr : Rel m h w) (e : ∀ b, h' b = h b) : Rel m h' w := by
  have : h' = h := funext e
  rw [this]; exact hr

theorem Rel.drew {m : Inj} {h : Nat → Option Obj} {w : World} (hr : Rel m h w) : Rel m h { w with drawn := w.drawn + 1 } :=
  ⟨fun b o hb => (hr.obj b o hb).mono (Inj.le_refl m) (fun _ => rfl) (fun _ _ _ _ _ => rfl), hr.dom, hr.apart, hr.lt⟩

/-- The empty memory says nothing. -/
theorem Rel.empty (w : World) : Rel (fun _ _ => none) (fun _ => none) w :=
  ⟨fun _ _ h => (by cases h), fun _ _ _ h => (by cases h), fun _ _ _ _ _ _ _ _ _ h => (by cases h), fun _ _ _ _ _ h => (by cases h)⟩

/-! ### New blocks -/

/-- A new block of the model's for a new number. -/
theorem Rel.new {m : Inj} {h : Nat → Option Obj} {w : World} (hr : Rel m h w) {b : Nat} (hb : h b = none) (o : Obj) (obj : Go.Obj) (t e : Nat)
    (ho : ∀ m', m.le m' → (∀ u, m' b u = if u = 0 then some (w.heap.size, t, e) else none) → (w.alloc obj).heap[w.heap.size]? = some obj → ORel m' (w.alloc obj) b o)
    (hfro : ∀ a, (w.alloc obj).frozen? a = w.frozen? a) :
    ∃ m', Ext m w m' (w.alloc obj) ∧ Rel m' (fun x => if x = b then some o else h x) (w.alloc obj) ∧ m' b 0 = some (w.heap.size, t, e) := by
  have hmb : ∀ u, m b u = none := by
    intro u
    cases hm : m b u with
    | none => rfl
    | some p => obtain ⟨o', ho'⟩ := hr.dom _ _ _ hm; rw [hb] at ho'; cases ho'
  let m' : Inj := fun x u => if x = b then (if u = 0 then some (w.heap.size, t, e) else none) else m x u
  have hle : m.le m' := by
    intro x u p hx
    show (if x = b then _ else _) = _
    by_cases e' : x = b
    · subst e'; rw [hmb] at hx; cases hx
    · rw [if_neg e']; exact hx
  have hnew : ∀ u, m' b u = if u = 0 then some (w.heap.size, t, e) else none := fun u => by simp [m']
  have hold : ∀ x u, x ≠ b → m' x u = m x u := fun x u hx => by simp [m', hx]
  refine ⟨m', ⟨hle, by simp, ?_, ?_, rfl, rfl, hfro⟩, ⟨?_, ?_, ?_, ?_⟩, by rw [hnew]; simp⟩
  · intro x u B t' e' hx
    by_cases e1 : x = b
    · subst e1
      rw [hnew] at hx
      split at hx
      · cases hx; exact .inr (Nat.le_refl _)
      · cases hx
    · rw [hold x u e1] at hx; exact .inl ⟨_, _, _, _, hx⟩
  · intro B hB _
    exact heap_alloc_old w obj B hB
  · intro x o' hx
    by_cases e1 : x = b
    · subst e1
      rw [if_pos rfl] at hx
      cases hx
      exact ho m' hle hnew (heap_alloc_new w obj)
    · rw [if_neg e1] at hx
      exact (hr.obj x o' hx).mono hle (fun u => hold x u e1) (fun u B t' e' hm => heap_alloc_old w obj B (hr.lt _ _ _ _ _ hm))
  · intro x u p hx
    by_cases e1 : x = b
    · subst e1; exact ⟨o, by simp⟩
    · rw [hold x u e1] at hx
      obtain ⟨o', ho'⟩ := hr.dom _ _ _ hx
      exact ⟨o', by simp only [if_neg e1]; exact ho'⟩
  · intro x u B t1 e1 x' u' t2 e2 h1 h2
    by_cases c1 : x = b
    · by_cases c2 : x' = b
      · rw [c1, c2]
      · subst c1
        rw [hnew] at h1
        rw [hold x' u' c2] at h2
        split at h1
        · cases h1; have := hr.lt _ _ _ _ _ h2; omega
        · cases h1
    · rw [hold x u c1] at h1
      by_cases c2 : x' = b
      · subst c2
        rw [hnew] at h2
        split at h2
        · cases h2; have := hr.lt _ _ _ _ _ h1; omega
        · cases h2
      · rw [hold x' u' c2] at h2
        exact hr.apart _ _ _ _ _ _ _ _ _ h1 h2
  · intro x u B t1 e1 h1
    rw [World.size_alloc]
    by_cases c1 : x = b
    · subst c1
      rw [hnew] at h1
      split at h1
      · cases h1; omega
      · cases h1
    · rw [hold x u c1] at h1
      have := hr.lt _ _ _ _ _ h1
      omega

/-! ### Turning a block in place -/

/-- The block of a number is turned where it lies (each version's block as it was, but for B; new versions may come that lie in B). -/
theorem Rel.turn {m m' : Inj} {h : Nat → Option Obj} {w w' : World} (hr : Rel m h w) {b : Nat} {o : Obj} {B : Nat}
    (hle : m.le m') (hold : ∀ x u, x ≠ b → m' x u = m x u)
    (hin : ∃ u t e, m b u = some (B, t, e))
    (hver : ∀ u B' t e, m' b u = some (B', t, e) → (∃ u' t' e', m b u' = some (B', t', e')))
    (hw : ∀ B', B' ≠ B → w'.heap[B']? = w.heap[B']?) (hsz : w'.heap.size = w.heap.size)
    (hos : w'.os = w.os) (hout : w'.output = w.output) (hfro : ∀ a, w'.frozen? a = w.frozen? a)
    (ho : ORel m' w' b o) (hb : ∃ o', h b = some o') :
    Ext m w m' w' ∧ Rel m' (fun x => if x = b then some o else h x) w' := by
  obtain ⟨u0, t0, e0, hu0⟩ := hin
  refine ⟨⟨hle, by rw [hsz]; exact Nat.le_refl _, ?_, ?_, hos, hout, hfro⟩, ⟨?_, ?_, ?_, ?_⟩⟩
  · intro x u B' t e hx
    by_cases c : x = b
    · subst c; obtain ⟨u', t', e', h1⟩ := hver _ _ _ _ hx; exact .inl ⟨_, _, _, _, h1⟩
    · rw [hold _ _ c] at hx; exact .inl ⟨_, _, _, _, hx⟩
  · intro B' _ hn
    exact hw B' (fun e => hn b u0 t0 e0 (by rw [e]; exact hu0))
  · intro x o' hx
    by_cases c : x = b
    · subst c; rw [if_pos rfl] at hx; cases hx; exact ho
    · rw [if_neg c] at hx
      refine (hr.obj x o' hx).mono hle (fun u => hold x u c) (fun u B' t e hm => hw B' ?_)
      intro e'
      subst e'
      exact c (hr.apart _ _ _ _ _ _ _ _ _ hm hu0)
  · intro x u p hx
    by_cases c : x = b
    · subst c; exact ⟨o, by simp⟩
    · rw [hold _ _ c] at hx
      obtain ⟨o', ho'⟩ := hr.dom _ _ _ hx
      exact ⟨o', by simp only [if_neg c]; exact ho'⟩
  · intro x u B' t1 e1 x' u' t2 e2 h1 h2
    by_cases c1 : x = b
    · by_cases c2 : x' = b
      · rw [c1, c2]
      · subst c1
        obtain ⟨u3, t3, e3, h3⟩ := hver _ _ _ _ h1
        rw [hold _ _ c2] at h2
        exact hr.apart _ _ _ _ _ _ _ _ _ h3 h2
    · rw [hold _ _ c1] at h1
      by_cases c2 : x' = b
      · subst c2
        obtain ⟨u3, t3, e3, h3⟩ := hver _ _ _ _ h2
        exact hr.apart _ _ _ _ _ _ _ _ _ h1 h3
      · rw [hold _ _ c2] at h2
        exact hr.apart _ _ _ _ _ _ _ _ _ h1 h2
  · intro x u B' t1 e1 h1
    rw [hsz]
    by_cases c1 : x = b
    · subst c1
      obtain ⟨u3, t3, e3, h3⟩ := hver _ _ _ _ h1
      exact hr.lt _ _ _ _ _ h3
    · rw [hold _ _ c1] at h1
      exact hr.lt _ _ _ _ _ h1

end Go.Ab
