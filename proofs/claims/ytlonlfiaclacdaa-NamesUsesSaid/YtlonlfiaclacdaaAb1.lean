/-
  AN EVALUATOR OF Go CODE OVER AN ABSTRACT MEMORY, over any program (own work; no text of the kit).
  Values and blocks are abstract: a block has a number of its own, a slice that has been grown by append has no known capacity, an append at an
  unknown capacity makes a new VERSION of its block (other versions keep what is certainly not touched). Every step of the evaluator is local:
  it logs which blocks it reads and writes, and what it does hangs on these alone (the field 'loc' of 'M').
-/
import Derived.CallsIn
namespace Go.Ab

inductive AV where
  | int (k : IntKind) (n : Int)
  | rng (k : IntKind) (lo hi : Int)
  | bool (b : Bool)
  | str (len code : Nat)
  | ptr (b v o : Nat)
  | nilptr
  | slice (b v o len : Nat) (cap : Option Nat)
  | nilslice
  | map (r : Nat)
  | nilmap
  | func (fn : Fn) (first captured : List AV)
  | nilfunc
  | iface (t : TypeId) (v : AV)
  | niliface
  | agg (l : List AV)
  | tuple (l : List AV)

/-- A tree of entries by number. -/
inductive Tr (α : Type) where
  | nil
  | node (v : Option α) (a b c d : Tr α)

/-- Which of four. -/
inductive D4 where
  | a | b | c | d

def dig (n : Nat) : D4 := bif Nat.beq n 0 then .a else bif Nat.beq n 1 then .b else bif Nat.beq n 2 then .c else .d

def Tr.get {α : Type} : Tr α → Nat → Option α
  | .nil, _ => none
  | .node v a b c d, k => match k with
    | 0 => v
    | k + 1 => match dig (k % 4) with
      | .a => a.get (k / 4)
      | .b => b.get (k / 4)
      | .c => c.get (k / 4)
      | .d => d.get (k / 4)

def Tr.setF {α : Type} : Nat → Nat → α → Tr α → Tr α
  | 0, _, _, t => t
  | f + 1, k, x, .nil => match k with
    | 0 => .node (some x) .nil .nil .nil .nil
    | k + 1 => match dig (k % 4) with
      | .a => .node none (Tr.setF f (k / 4) x .nil) .nil .nil .nil
      | .b => .node none .nil (Tr.setF f (k / 4) x .nil) .nil .nil
      | .c => .node none .nil .nil (Tr.setF f (k / 4) x .nil) .nil
      | .d => .node none .nil .nil .nil (Tr.setF f (k / 4) x .nil)
  | f + 1, k, x, .node v a b c d => match k with
    | 0 => .node (some x) a b c d
    | k + 1 => match dig (k % 4) with
      | .a => .node v (Tr.setF f (k / 4) x a) b c d
      | .b => .node v a (Tr.setF f (k / 4) x b) c d
      | .c => .node v a b (Tr.setF f (k / 4) x c) d
      | .d => .node v a b c (Tr.setF f (k / 4) x d)

def Tr.set {α : Type} (k : Nat) (x : α) (t : Tr α) : Tr α := Tr.setF (k + 1) k x t

theorem Tr.get_nil {α : Type} (k : Nat) : (Tr.nil : Tr α).get k = none := by cases k <;> rfl

theorem dig_cases (n : Nat) : (n % 4 = 0 ∧ dig (n % 4) = .a) ∨ (n % 4 = 1 ∧ dig (n % 4) = .b) ∨ (n % 4 = 2 ∧ dig (n % 4) = .c) ∨ (n % 4 = 3 ∧ dig (n % 4) = .d) := by
  have : n % 4 = 0 ∨ n % 4 = 1 ∨ n % 4 = 2 ∨ n % 4 = 3 := by omega
  rcases this with h | h | h | h <;> rw [h]
  · exact .inl ⟨rfl, rfl⟩
  · exact .inr (.inl ⟨rfl, rfl⟩)
  · exact .inr (.inr (.inl ⟨rfl, rfl⟩))
  · exact .inr (.inr (.inr ⟨rfl, rfl⟩))

theorem Tr.get_setF {α : Type} (f : Nat) : ∀ (k : Nat) (x : α) (t : Tr α) (j : Nat), k < f → (Tr.setF f k x t).get j = if j = k then some x else t.get j := by
  induction f with
  | zero => intro k x t j h; omega
  | succ f ih =>
    intro k x t j h
    cases k with
    | zero =>
      cases t <;> cases j <;> simp [Tr.setF, Tr.get]
      rename_i j
      rcases dig_cases j with ⟨_, e⟩ | ⟨_, e⟩ | ⟨_, e⟩ | ⟨_, e⟩ <;> simp [e]
    | succ k =>
      have hk : k / 4 < f := by omega
      cases j with
      | zero =>
        rcases dig_cases k with ⟨_, e⟩ | ⟨_, e⟩ | ⟨_, e⟩ | ⟨_, e⟩ <;> cases t <;> simp [Tr.setF, Tr.get, e]
      | succ j =>
        have hjk : (j + 1 = k + 1) ↔ (j % 4 = k % 4 ∧ j / 4 = k / 4) := by omega
        rcases dig_cases k with ⟨hk4, e⟩ | ⟨hk4, e⟩ | ⟨hk4, e⟩ | ⟨hk4, e⟩ <;> rcases dig_cases j with ⟨hj4, e'⟩ | ⟨hj4, e'⟩ | ⟨hj4, e'⟩ | ⟨hj4, e'⟩ <;> cases t <;>
          simp only [Tr.setF, e, Tr.get, e', ih _ _ _ _ hk, hjk] <;> simp [hk4, hj4]

theorem Tr.get_set {α : Type} (k : Nat) (x : α) (t : Tr α) (j : Nat) : (t.set k x).get j = if j = k then some x else t.get j :=
  Tr.get_setF (k + 1) k x t j (by omega)

/-- A block's cells: few of them lie in a list, many in a tree. -/
inductive Cs where
  | tree (t : Tr AV)
  | list (l : List AV)

def Cs.get : Cs → Nat → Option AV
  | .tree t, k => t.get k
  | .list l, k => l[k]?

/-- A block of cells: how many are known; the version that is wholly known; how many versions there are; below which cell all versions agree; how many cells an element takes (of a block that append has made). -/
structure Row where
  n : Nat
  cells : Cs
  cur : Nat
  nv : Nat
  low : Nat
  esz : Nat

inductive AExit where
  | normal
  | exit (id : Nat)
  | ret

structure ALoop where
  params : Array Tmp
  tmps : Tr AV
  nt : Nat
  assign : Code
  body : Code
  state : LoopState
  pending : AExit

/-- When a map's entries were laid in (in their order), and how many have been. -/
structure MG where
  bs : List Nat
  clk : Nat

/-- A loop over a map. -/
structure AIter where
  r : Option Nat
  since : Nat
  seen : List Nat
  last : Nat

inductive Obj where
  | row (r : Row)
  | map (es : List (AV × AV)) (g : MG)
  | loop (l : ALoop)
  | iter (i : AIter)

structure St where
  heap : Tr Obj
  next : Nat
  rd : Nat
  wr : Nat

inductive R (α : Type) where
  | fail
  | ok (a : α) (s : St)

/-! ### Locality -/

/-- Bit i of a mask. -/
abbrev bit (m i : Nat) : Prop := m.testBit i = true

structure Locs {α : Type} (run : St → R α) (s : St) (a : α) (s' : St) (rd wr : Nat) : Prop where
  next : s.next ≤ s'.next
  hrd : s'.rd = s.rd ||| rd
  hwr : s'.wr = s.wr ||| wr
  below : ∀ b, bit rd b ∨ bit wr b → b < s'.next
  new : ∀ b, s.next ≤ b → b < s'.next → bit wr b
  frame : ∀ b, ¬ bit wr b → s'.heap.get b = s.heap.get b
  dom : ∀ b, s.heap.get b = none → b < s.next ∨ s'.next ≤ b → s'.heap.get b = none
  again : ∀ t : St, t.next = s.next → (∀ b, bit rd b ∨ bit wr b → b < s.next → t.heap.get b = s.heap.get b) →
    ∃ t', run t = .ok a t' ∧ t'.next = s'.next ∧ t'.rd = t.rd ||| rd ∧ t'.wr = t.wr ||| wr ∧
      (∀ b, bit wr b → t'.heap.get b = s'.heap.get b) ∧ (∀ b, ¬ bit wr b → t'.heap.get b = t.heap.get b)

def Loc {α : Type} (run : St → R α) : Prop := ∀ s a s', run s = .ok a s' → ∃ rd wr, Locs run s a s' rd wr

structure M (α : Type) where
  run : St → R α
  loc : Loc run

def pureRun {α : Type} (a : α) : St → R α := fun s => .ok a s

theorem loc_pure {α : Type} (a : α) : Loc (pureRun a) := by
  intro s a' s' h
  cases h
  exact ⟨0, 0, Nat.le_refl _, by simp, by simp, fun b h => by rcases h with h | h <;> simp [bit] at h, fun b h1 h2 => by omega, fun _ _ => rfl, fun _ h _ => h,
    fun t ht _ => ⟨t, rfl, ht, by simp, by simp, fun b h => by simp [bit] at h, fun _ _ => rfl⟩⟩

def failRun {α : Type} : St → R α := fun _ => .fail

theorem loc_fail {α : Type} : Loc (failRun (α := α)) := by
  intro s a' s' h; cases h

def bindRun {α β : Type} (x : St → R α) (f : α → St → R β) : St → R β := fun s => match x s with
  | .ok a s => f a s
  | .fail => .fail

theorem bindRun_ok {α β : Type} {x : St → R α} {f : α → St → R β} {s : St} {b : β} {s' : St} :
    bindRun x f s = .ok b s' ↔ ∃ a s1, x s = .ok a s1 ∧ f a s1 = .ok b s' := by
  unfold bindRun
  cases h : x s with
  | fail => simp
  | ok a s1 =>
    constructor
    · intro h'; exact ⟨a, s1, rfl, h'⟩
    · rintro ⟨a', s1', e, h'⟩; cases e; exact h'

theorem bit_or (a b i : Nat) : bit (a ||| b) i ↔ bit a i ∨ bit b i := by simp [bit, Nat.testBit_or]

theorem loc_bind {α β : Type} {x : St → R α} {f : α → St → R β} (hx : Loc x) (hf : ∀ a, Loc (f a)) : Loc (bindRun x f) := by
  intro s b s' h
  obtain ⟨a, s1, h1, h2⟩ := bindRun_ok.1 h
  obtain ⟨r1, w1, L1⟩ := hx _ _ _ h1
  obtain ⟨r2, w2, L2⟩ := hf a _ _ _ h2
  refine ⟨r1 ||| r2, w1 ||| w2, ?_⟩
  refine ⟨Nat.le_trans L1.next L2.next, ?_, ?_, ?_, ?_, ?_, ?_, ?_⟩
  · rw [L2.hrd, L1.hrd, Nat.or_assoc]
  · rw [L2.hwr, L1.hwr, Nat.or_assoc]
  · intro b hb
    have := L1.below b
    have := L2.below b
    have := L2.next
    simp only [bit_or] at hb
    rcases hb with (h | h) | (h | h)
    · have := L1.below b (.inl h); omega
    · exact L2.below b (.inl h)
    · have := L1.below b (.inr h); omega
    · exact L2.below b (.inr h)
  · intro b h1' h2'
    rw [bit_or]
    by_cases hb : b < s1.next
    · exact .inl (L1.new b h1' hb)
    · exact .inr (L2.new b (by omega) h2')
  · intro b hb
    rw [bit_or, not_or] at hb
    rw [L2.frame b hb.2, L1.frame b hb.1]
  · intro b hb ho
    have n1 := L1.next
    have n2 := L2.next
    have : s1.heap.get b = none := L1.dom b hb (by omega)
    exact L2.dom b this (by omega)
  · intro t ht hag
    obtain ⟨t1, e1, n1, rd1, wr1, g1, k1⟩ := L1.again t ht (fun b hb hlt => hag b (by rw [bit_or, bit_or]; exact hb.imp .inl .inl) hlt)
    have hag2 : ∀ b, bit r2 b ∨ bit w2 b → b < s1.next → t1.heap.get b = s1.heap.get b := by
      intro b hb hlt
      by_cases hw : bit w1 b
      · exact g1 b hw
      · rw [k1 b hw, L1.frame b hw]
        have hlt' : b < s.next := by
          by_cases hn : b < s.next
          · exact hn
          · exact absurd (L1.new b (by omega) hlt) hw
        exact hag b (by rw [bit_or, bit_or]; exact hb.imp .inr .inr) hlt'
    obtain ⟨t2, e2, n2, rd2, wr2, g2, k2⟩ := L2.again t1 n1 hag2
    refine ⟨t2, bindRun_ok.2 ⟨a, t1, e1, e2⟩, n2, ?_, ?_, ?_, ?_⟩
    · rw [rd2, rd1, Nat.or_assoc]
    · rw [wr2, wr1, Nat.or_assoc]
    · intro b hb
      by_cases h2' : bit w2 b
      · exact g2 b h2'
      · have h1' : bit w1 b := by rw [bit_or] at hb; rcases hb with h | h; exact h; exact absurd h h2'
        rw [k2 b h2', g1 b h1', L2.frame b h2']
    · intro b hb
      rw [bit_or, not_or] at hb
      rw [k2 b hb.2, k1 b hb.1]

instance : Monad M where
  pure a := ⟨pureRun a, loc_pure a⟩
  bind x f := ⟨bindRun x.run (fun a => (f a).run), loc_bind x.loc fun a => (f a).loc⟩

def failM {α : Type} : M α := ⟨failRun, loc_fail⟩

def ofO {α : Type} (x : Option α) : M α := match x with
  | some a => pure a
  | none => failM

/-! ### Primitives -/

theorem bit_one (b i : Nat) : bit (1 <<< b) i ↔ i = b := by
  rw [bit, Nat.one_shiftLeft, Nat.testBit_two_pow]
  simp [eq_comm]

def lookRun {α : Type} (b : Nat) (f : Obj → Option α) : St → R α := fun s =>
  bif Nat.blt b s.next then
    match s.heap.get b with
    | some o => match f o with
      | some a => .ok a { s with rd := s.rd ||| 1 <<< b }
      | none => .fail
    | none => .fail
  else .fail

theorem blt_iff (a b : Nat) : Nat.blt a b = true ↔ a < b := by simp [Nat.blt_eq]

theorem lookRun_ok {α : Type} {b : Nat} {f : Obj → Option α} {s : St} {a : α} {s' : St} :
    lookRun b f s = .ok a s' ↔ b < s.next ∧ ∃ o, s.heap.get b = some o ∧ f o = some a ∧ s' = { s with rd := s.rd ||| 1 <<< b } := by
  unfold lookRun
  by_cases hb : b < s.next
  · rw [(blt_iff b s.next).2 hb]
    simp only [cond_true]
    cases hg : s.heap.get b with
    | none => simp
    | some o =>
      cases hf : f o with
      | none => simp [hf]
      | some a' =>
        simp only [hf]
        constructor
        · intro h; cases h; exact ⟨hb, o, rfl, hf, rfl⟩
        · rintro ⟨_, o', e, hf', rfl⟩; cases e; rw [hf] at hf'; cases hf'; rfl
  · have : Nat.blt b s.next = false := by
      cases h : Nat.blt b s.next with
      | false => rfl
      | true => exact absurd ((blt_iff _ _).1 h) hb
    rw [this]
    simp [hb]

theorem loc_look {α : Type} (b : Nat) (f : Obj → Option α) : Loc (lookRun b f) := by
  intro s a s' h
  obtain ⟨hb, o, hg, hf, rfl⟩ := lookRun_ok.1 h
  refine ⟨1 <<< b, 0, Nat.le_refl _, rfl, by simp, ?_, by intro b h1 h2; simp at h2; omega, fun _ _ => rfl, fun _ h _ => h, ?_⟩
  · intro i hi
    rcases hi with hi | hi
    · rw [bit_one] at hi; subst hi; exact hb
    · simp [bit] at hi
  · intro t ht hag
    have hg' := hag b (.inl ((bit_one b b).2 rfl)) hb
    refine ⟨{ t with rd := t.rd ||| 1 <<< b }, lookRun_ok.2 ⟨by rw [ht]; exact hb, o, by rw [hg', hg], hf, rfl⟩, ht, rfl, by simp, by simp [bit], fun _ _ => rfl⟩

def updRun {α : Type} (b : Nat) (f : Obj → Option (α × Obj)) : St → R α := fun s =>
  bif Nat.blt b s.next then
    match s.heap.get b with
    | some o => match f o with
      | some (a, o') => .ok a { s with heap := s.heap.set b o', wr := s.wr ||| 1 <<< b }
      | none => .fail
    | none => .fail
  else .fail

theorem updRun_ok {α : Type} {b : Nat} {f : Obj → Option (α × Obj)} {s : St} {a : α} {s' : St} :
    updRun b f s = .ok a s' ↔ b < s.next ∧ ∃ o o', s.heap.get b = some o ∧ f o = some (a, o') ∧ s' = { s with heap := s.heap.set b o', wr := s.wr ||| 1 <<< b } := by
  unfold updRun
  by_cases hb : b < s.next
  · rw [(blt_iff b s.next).2 hb]
    simp only [cond_true]
    cases hg : s.heap.get b with
    | none => simp
    | some o =>
      cases hf : f o with
      | none => simp [hf]
      | some p =>
        obtain ⟨a', o'⟩ := p
        simp only [hf]
        constructor
        · intro h; cases h; exact ⟨hb, o, o', rfl, hf, rfl⟩
        · rintro ⟨_, o1, o2, e, hf', rfl⟩; cases e; rw [hf] at hf'; cases hf'; rfl
  · have : Nat.blt b s.next = false := by
      cases h : Nat.blt b s.next with
      | false => rfl
      | true => exact absurd ((blt_iff _ _).1 h) hb
    rw [this]
    simp [hb]

theorem loc_upd {α : Type} (b : Nat) (f : Obj → Option (α × Obj)) : Loc (updRun b f) := by
  intro s a s' h
  obtain ⟨hb, o, o', hg, hf, rfl⟩ := updRun_ok.1 h
  refine ⟨0, 1 <<< b, Nat.le_refl _, by simp, rfl, ?_, by intro b h1 h2; simp at h2; omega, ?_, ?_, ?_⟩
  · intro i hi
    rcases hi with hi | hi
    · simp [bit] at hi
    · rw [bit_one] at hi; subst hi; exact hb
  · intro i hi
    rw [bit_one] at hi
    simp only [Tr.get_set, if_neg hi]
  · intro i hi _
    simp only [Tr.get_set]
    by_cases e : i = b
    · subst e; rw [hg] at hi; cases hi
    · rw [if_neg e]; exact hi
  · intro t ht hag
    have hg' := hag b (.inr ((bit_one b b).2 rfl)) hb
    refine ⟨{ t with heap := t.heap.set b o', wr := t.wr ||| 1 <<< b }, updRun_ok.2 ⟨by rw [ht]; exact hb, o, o', by rw [hg', hg], hf, rfl⟩, ht, by simp, rfl, ?_, ?_⟩
    · intro i hi; rw [bit_one] at hi; subst hi; simp [Tr.get_set]
    · intro i hi; rw [bit_one] at hi; simp only [Tr.get_set, if_neg hi]

def newRun (o : Obj) : St → R Nat := fun s => .ok s.next { s with heap := s.heap.set s.next o, next := s.next + 1, wr := s.wr ||| 1 <<< s.next }

theorem loc_new (o : Obj) : Loc (newRun o) := by
  intro s a s' h
  cases h
  refine ⟨0, 1 <<< s.next, by simp, by simp, rfl, ?_, ?_, ?_, ?_, ?_⟩
  · intro i hi
    rcases hi with hi | hi
    · simp [bit] at hi
    · rw [bit_one] at hi; subst hi; simp
  · intro i h1 h2
    simp only at h2
    rw [bit_one]; omega
  · intro i hi
    rw [bit_one] at hi
    simp only [Tr.get_set, if_neg hi]
  · intro i hi ho
    simp only at ho
    have : ¬ i = s.next := by omega
    simp only [Tr.get_set, if_neg this]; exact hi
  · intro t ht _
    refine ⟨{ t with heap := t.heap.set t.next o, next := t.next + 1, wr := t.wr ||| 1 <<< t.next }, by simp [newRun, ht], by simp [ht], by simp, by simp [ht], ?_, ?_⟩
    · intro i hi; rw [bit_one] at hi; subst hi; simp [Tr.get_set, ht]
    · intro i hi; rw [bit_one] at hi; rw [ht]; simp only [Tr.get_set, if_neg hi]

def loggedRun {α : Type} (x : St → R α) : St → R (α × Nat × Nat) := fun s => match x { s with rd := 0, wr := 0 } with
  | .ok a s' => .ok (a, s'.rd, s'.wr) { s' with rd := s.rd ||| s'.rd, wr := s.wr ||| s'.wr }
  | .fail => .fail

theorem loggedRun_ok {α : Type} {x : St → R α} {s : St} {p : α × Nat × Nat} {s' : St} :
    loggedRun x s = .ok p s' ↔ ∃ a s1, x { s with rd := 0, wr := 0 } = .ok a s1 ∧ p = (a, s1.rd, s1.wr) ∧ s' = { s1 with rd := s.rd ||| s1.rd, wr := s.wr ||| s1.wr } := by
  unfold loggedRun
  cases h : x { s with rd := 0, wr := 0 } with
  | fail => simp
  | ok a s1 =>
    constructor
    · intro h'; cases h'; exact ⟨a, s1, rfl, rfl, rfl⟩
    · rintro ⟨a', s1', e, rfl, rfl⟩; cases e; rfl

theorem loc_logged {α : Type} {x : St → R α} (hx : Loc x) : Loc (loggedRun x) := by
  intro s p s' h
  obtain ⟨a, s1, h1, rfl, rfl⟩ := loggedRun_ok.1 h
  obtain ⟨r, w, L⟩ := hx _ _ _ h1
  have hr : s1.rd = r := by rw [L.hrd]; simp
  have hw : s1.wr = w := by rw [L.hwr]; simp
  refine ⟨r, w, L.next, by simp [hr], by simp [hw], L.below, L.new, L.frame, L.dom, ?_⟩
  intro t ht hag
  obtain ⟨t', e, n', rd', wr', g, k⟩ := L.again { t with rd := 0, wr := 0 } ht hag
  have hr' : t'.rd = r := by rw [rd']; simp
  have hw' : t'.wr = w := by rw [wr']; simp
  exact ⟨{ t' with rd := t.rd ||| t'.rd, wr := t.wr ||| t'.wr }, loggedRun_ok.2 ⟨a, t', e, by rw [hr, hw, hr', hw'], rfl⟩, n', by simp [hr'], by simp [hw'], g, k⟩

def look {α : Type} (b : Nat) (f : Obj → Option α) : M α := ⟨lookRun b f, loc_look b f⟩
def upd {α : Type} (b : Nat) (f : Obj → Option (α × Obj)) : M α := ⟨updRun b f, loc_upd b f⟩
def newObj (o : Obj) : M Nat := ⟨newRun o, loc_new o⟩
def logged {α : Type} (x : M α) : M (α × Nat × Nat) := ⟨loggedRun x.run, loc_logged x.loc⟩

end Go.Ab
