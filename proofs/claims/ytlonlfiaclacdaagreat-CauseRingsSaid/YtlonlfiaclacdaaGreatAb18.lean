/-
  OPERATIONS FOR THE KERNEL (own work): each operation of the evaluator in continuation style, by recursors and forced numbers, and that it is
  the evaluator's.
-/
import Derived.Test.YtlonlfiaclacdaaGreatAb17
namespace Go.Ab
set_option linter.unusedVariables false

/-! ### Taking values apart -/
section
variable {β : Type}

noncomputable def AV.onInt (x : AV) (d : (R AV)) (k : IntKind → Int → (R AV)) : (R AV) :=
  @AV.rec (fun _ => (IntKind → Int → (R AV)) → (R AV) → (R AV)) (fun _ => PUnit) (fun f0 f1 k d => k f0 f1) (fun _ _ _ k d => d) (fun _ k d => d) (fun _ _ k d => d) (fun _ _ _ k d => d) (fun k d => d) (fun _ _ _ _ _ k d => d) (fun k d => d) (fun _ k d => d) (fun k d => d) (fun _ _ _ _ _ k d => d) (fun k d => d) (fun _ _ _ k d => d) (fun k d => d) (fun _ _ k d => d) (fun _ _ k d => d) PUnit.unit (fun _ _ _ _ => PUnit.unit) x k d

noncomputable def AV.onBool (x : AV) (d : (R AV)) (k : Bool → (R AV)) : (R AV) :=
  @AV.rec (fun _ => (Bool → (R AV)) → (R AV) → (R AV)) (fun _ => PUnit) (fun _ _ k d => d) (fun _ _ _ k d => d) (fun f0 k d => k f0) (fun _ _ k d => d) (fun _ _ _ k d => d) (fun k d => d) (fun _ _ _ _ _ k d => d) (fun k d => d) (fun _ k d => d) (fun k d => d) (fun _ _ _ _ _ k d => d) (fun k d => d) (fun _ _ _ k d => d) (fun k d => d) (fun _ _ k d => d) (fun _ _ k d => d) PUnit.unit (fun _ _ _ _ => PUnit.unit) x k d

noncomputable def AV.onStr (x : AV) (d : (R AV)) (k : Nat → Nat → (R AV)) : (R AV) :=
  @AV.rec (fun _ => (Nat → Nat → (R AV)) → (R AV) → (R AV)) (fun _ => PUnit) (fun _ _ k d => d) (fun _ _ _ k d => d) (fun _ k d => d) (fun f0 f1 k d => k f0 f1) (fun _ _ _ k d => d) (fun k d => d) (fun _ _ _ _ _ k d => d) (fun k d => d) (fun _ k d => d) (fun k d => d) (fun _ _ _ _ _ k d => d) (fun k d => d) (fun _ _ _ k d => d) (fun k d => d) (fun _ _ k d => d) (fun _ _ k d => d) PUnit.unit (fun _ _ _ _ => PUnit.unit) x k d

noncomputable def AV.onPtr (x : AV) (d : (R AV)) (k : Nat → Nat → Nat → (R AV)) : (R AV) :=
  @AV.rec (fun _ => (Nat → Nat → Nat → (R AV)) → (R AV) → (R AV)) (fun _ => PUnit) (fun _ _ k d => d) (fun _ _ _ k d => d) (fun _ k d => d) (fun _ _ k d => d) (fun f0 f1 f2 k d => k f0 f1 f2) (fun k d => d) (fun _ _ _ _ _ k d => d) (fun k d => d) (fun _ k d => d) (fun k d => d) (fun _ _ _ _ _ k d => d) (fun k d => d) (fun _ _ _ k d => d) (fun k d => d) (fun _ _ k d => d) (fun _ _ k d => d) PUnit.unit (fun _ _ _ _ => PUnit.unit) x k d

noncomputable def AV.onSl (x : AV) (d dn : (R AV)) (k : Nat → Nat → Nat → Nat → Option Nat → (R AV)) : (R AV) :=
  @AV.rec (fun _ => (Nat → Nat → Nat → Nat → Option Nat → (R AV)) → (R AV) → (R AV) → (R AV)) (fun _ => PUnit) (fun _ _ k dn d => d) (fun _ _ _ k dn d => d) (fun _ k dn d => d) (fun _ _ k dn d => d) (fun _ _ _ k dn d => d) (fun k dn d => d) (fun f0 f1 f2 f3 f4 k dn d => k f0 f1 f2 f3 f4) (fun k dn d => dn) (fun _ k dn d => d) (fun k dn d => d) (fun _ _ _ _ _ k dn d => d) (fun k dn d => d) (fun _ _ _ k dn d => d) (fun k dn d => d) (fun _ _ k dn d => d) (fun _ _ k dn d => d) PUnit.unit (fun _ _ _ _ => PUnit.unit) x k dn d

noncomputable def AV.onMap (x : AV) (d dn : (R AV)) (k : Nat → (R AV)) : (R AV) :=
  @AV.rec (fun _ => (Nat → (R AV)) → (R AV) → (R AV) → (R AV)) (fun _ => PUnit) (fun _ _ k dn d => d) (fun _ _ _ k dn d => d) (fun _ k dn d => d) (fun _ _ k dn d => d) (fun _ _ _ k dn d => d) (fun k dn d => d) (fun _ _ _ _ _ k dn d => d) (fun k dn d => d) (fun f0 k dn d => k f0) (fun k dn d => dn) (fun _ _ _ _ _ k dn d => d) (fun k dn d => d) (fun _ _ _ k dn d => d) (fun k dn d => d) (fun _ _ k dn d => d) (fun _ _ k dn d => d) PUnit.unit (fun _ _ _ _ => PUnit.unit) x k dn d

noncomputable def AV.onIface (x : AV) (d : (R AV)) (k : TypeId → AV → (R AV)) : (R AV) :=
  @AV.rec (fun _ => (TypeId → AV → (R AV)) → (R AV) → (R AV)) (fun _ => PUnit) (fun _ _ k d => d) (fun _ _ _ k d => d) (fun _ k d => d) (fun _ _ k d => d) (fun _ _ _ k d => d) (fun k d => d) (fun _ _ _ _ _ k d => d) (fun k d => d) (fun _ k d => d) (fun k d => d) (fun _ _ _ _ _ k d => d) (fun k d => d) (fun f0 f1 _ k d => k f0 f1) (fun k d => d) (fun _ _ k d => d) (fun _ _ k d => d) PUnit.unit (fun _ _ _ _ => PUnit.unit) x k d

noncomputable def AV.onAgg (x : AV) (d : (R AV)) (k : List AV → (R AV)) : (R AV) :=
  @AV.rec (fun _ => (List AV → (R AV)) → (R AV) → (R AV)) (fun _ => PUnit) (fun _ _ k d => d) (fun _ _ _ k d => d) (fun _ k d => d) (fun _ _ k d => d) (fun _ _ _ k d => d) (fun k d => d) (fun _ _ _ _ _ k d => d) (fun k d => d) (fun _ k d => d) (fun k d => d) (fun _ _ _ _ _ k d => d) (fun k d => d) (fun _ _ _ k d => d) (fun k d => d) (fun f0 _ k d => k f0) (fun _ _ k d => d) PUnit.unit (fun _ _ _ _ => PUnit.unit) x k d

noncomputable def AV.onTup (x : AV) (d : (R AV)) (k : List AV → (R AV)) : (R AV) :=
  @AV.rec (fun _ => (List AV → (R AV)) → (R AV) → (R AV)) (fun _ => PUnit) (fun _ _ k d => d) (fun _ _ _ k d => d) (fun _ k d => d) (fun _ _ k d => d) (fun _ _ _ k d => d) (fun k d => d) (fun _ _ _ _ _ k d => d) (fun k d => d) (fun _ k d => d) (fun k d => d) (fun _ _ _ _ _ k d => d) (fun k d => d) (fun _ _ _ k d => d) (fun k d => d) (fun _ _ k d => d) (fun f0 _ k d => k f0) PUnit.unit (fun _ _ _ _ => PUnit.unit) x k d

/-- The cells of a value. -/
noncomputable def AV.onCells (x : AV) (k : List AV → (R AV)) : (R AV) :=
  @AV.rec (fun _ => (List AV → (R AV)) → (R AV)) (fun _ => PUnit) (fun f0 f1 k => k [.int f0 f1]) (fun f0 f1 f2 k => k [.rng f0 f1 f2]) (fun f0 k => k [.bool f0]) (fun f0 f1 k => k [.str f0 f1]) (fun f0 f1 f2 k => k [.ptr f0 f1 f2]) (fun k => k [.nilptr]) (fun f0 f1 f2 f3 f4 k => k [.slice f0 f1 f2 f3 f4]) (fun k => k [.nilslice]) (fun f0 k => k [.map f0]) (fun k => k [.nilmap]) (fun f0 f1 f2 _ _ k => k [.func f0 f1 f2]) (fun k => k [.nilfunc]) (fun f0 f1 _ k => k [.iface f0 f1]) (fun k => k [.niliface]) (fun f0 _ k => k f0) (fun f0 _ k => k [.tuple f0]) PUnit.unit (fun _ _ _ _ => PUnit.unit) x k

theorem AV.onCells_eq (x : AV) (k : List AV → (R AV)) : x.onCells k = k x.cells := by cases x <;> rfl

noncomputable def AV.on64 (x : AV) (d : (R AV)) (k : Nat → (R AV)) : (R AV) :=
  @AV.rec (fun _ => (Nat → (R AV)) → (R AV) → (R AV)) (fun _ => PUnit) (fun f0 f1 k d => @Int.rec (fun _ => IntKind → (Nat → (R AV)) → (R AV) → (R AV)) (fun a kd k d => @IntKind.rec (fun _ => Nat → (Nat → (R AV)) → (R AV) → (R AV)) (fun _ _ d => d) (fun _ _ d => d) (fun _ _ d => d) (fun a k _ => k a) (fun _ _ d => d) (fun _ _ d => d) (fun _ _ d => d) (fun _ _ d => d) kd a k d) (fun _ _ _ d => d) f1 f0 k d) (fun _ _ _ k d => d) (fun _ k d => d) (fun _ _ k d => d) (fun _ _ _ k d => d) (fun k d => d) (fun _ _ _ _ _ k d => d) (fun k d => d) (fun _ k d => d) (fun k d => d) (fun _ _ _ _ _ k d => d) (fun k d => d) (fun _ _ _ k d => d) (fun k d => d) (fun _ _ k d => d) (fun _ _ k d => d) PUnit.unit (fun _ _ _ _ => PUnit.unit) x k d
noncomputable def AV.on8 (x : AV) (d : (R AV)) (k : Nat → (R AV)) : (R AV) :=
  @AV.rec (fun _ => (Nat → (R AV)) → (R AV) → (R AV)) (fun _ => PUnit) (fun f0 f1 k d => @Int.rec (fun _ => IntKind → (Nat → (R AV)) → (R AV) → (R AV)) (fun a kd k d => @IntKind.rec (fun _ => Nat → (Nat → (R AV)) → (R AV) → (R AV)) (fun _ _ d => d) (fun _ _ d => d) (fun _ _ d => d) (fun _ _ d => d) (fun a k _ => k a) (fun _ _ d => d) (fun _ _ d => d) (fun _ _ d => d) kd a k d) (fun _ _ _ d => d) f1 f0 k d) (fun _ _ _ k d => d) (fun _ k d => d) (fun _ _ k d => d) (fun _ _ _ k d => d) (fun k d => d) (fun _ _ _ _ _ k d => d) (fun k d => d) (fun _ k d => d) (fun k d => d) (fun _ _ _ _ _ k d => d) (fun k d => d) (fun _ _ _ k d => d) (fun k d => d) (fun _ _ k d => d) (fun _ _ k d => d) PUnit.unit (fun _ _ _ _ => PUnit.unit) x k d
noncomputable def AV.onNat (x : AV) (d : (R AV)) (k : Nat → (R AV)) : (R AV) :=
  @AV.rec (fun _ => (Nat → (R AV)) → (R AV) → (R AV)) (fun _ => PUnit) (fun f0 f1 k d => @Int.rec (fun _ => (Nat → (R AV)) → (R AV) → (R AV)) (fun a k _ => k a) (fun _ _ d => d) f1 k d) (fun _ _ _ k d => d) (fun _ k d => d) (fun _ _ k d => d) (fun _ _ _ k d => d) (fun k d => d) (fun _ _ _ _ _ k d => d) (fun k d => d) (fun _ k d => d) (fun k d => d) (fun _ _ _ _ _ k d => d) (fun k d => d) (fun _ _ _ k d => d) (fun k d => d) (fun _ _ k d => d) (fun _ _ k d => d) PUnit.unit (fun _ _ _ _ => PUnit.unit) x k d
/-- Two integers of kind i64, or two of kind u8. -/
noncomputable def AV.onNN (x y : AV) (d : (R AV)) (k : Nat → Nat → (R AV)) : (R AV) :=
  @AV.rec (fun _ => AV → (Nat → Nat → (R AV)) → (R AV) → (R AV)) (fun _ => PUnit) (fun f0 f1 y k d => @Int.rec (fun _ => IntKind → AV → (Nat → Nat → (R AV)) → (R AV) → (R AV)) (fun a kd y k d => @IntKind.rec (fun _ => Nat → AV → (Nat → Nat → (R AV)) → (R AV) → (R AV)) (fun _ _ _ d => d) (fun _ _ _ d => d) (fun _ _ _ d => d) (fun a y k d => y.on64 d (k a)) (fun a y k d => y.on8 d (k a)) (fun _ _ _ d => d) (fun _ _ _ d => d) (fun _ _ _ d => d) kd a y k d) (fun _ _ _ _ d => d) f1 f0 y k d) (fun _ _ _ y k d => d) (fun _ y k d => d) (fun _ _ y k d => d) (fun _ _ _ y k d => d) (fun y k d => d) (fun _ _ _ _ _ y k d => d) (fun y k d => d) (fun _ y k d => d) (fun y k d => d) (fun _ _ _ _ _ y k d => d) (fun y k d => d) (fun _ _ _ y k d => d) (fun y k d => d) (fun _ _ y k d => d) (fun _ _ y k d => d) PUnit.unit (fun _ _ _ _ => PUnit.unit) x y k d

theorem AV.on64_cases (x : AV) : (∃ a, x = .int .i64 (.ofNat a)) ∨ ∀ (d : (R AV)) k, x.on64 d k = d := by
  cases x with
  | int kd n => cases kd <;> cases n <;> first | exact .inl ⟨_, rfl⟩ | exact .inr fun _ _ => rfl
  | _ => exact .inr fun _ _ => rfl

theorem AV.on8_cases (x : AV) : (∃ a, x = .int .u8 (.ofNat a)) ∨ ∀ (d : (R AV)) k, x.on8 d k = d := by
  cases x with
  | int kd n => cases kd <;> cases n <;> first | exact .inl ⟨_, rfl⟩ | exact .inr fun _ _ => rfl
  | _ => exact .inr fun _ _ => rfl

theorem AV.onNN_cases (x y : AV) : (∃ kd a b, x = .int kd (.ofNat a) ∧ y = .int kd (.ofNat b) ∧ ∀ (d : (R AV)) k, x.onNN y d k = k a b) ∨ ∀ (d : (R AV)) k, x.onNN y d k = d := by
  cases x with
  | int kd n =>
    cases n with
    | negSucc n => exact .inr fun _ _ => by cases kd <;> rfl
    | ofNat a =>
      cases kd
      case i64 =>
        rcases y.on64_cases  with ⟨b, rfl⟩ | h
        · exact .inl ⟨_, a, b, rfl, rfl, fun _ _ => rfl⟩
        · exact .inr fun d k => h d _
      case u8 =>
        rcases y.on8_cases  with ⟨b, rfl⟩ | h
        · exact .inl ⟨_, a, b, rfl, rfl, fun _ _ => rfl⟩
        · exact .inr fun d k => h d _
      all_goals exact .inr fun _ _ => rfl
  | _ => exact .inr fun _ _ => rfl

theorem AV.onNat_eq (x : AV) (d : (R AV)) (k : Nat → (R AV)) : x.onNat d k = match x.nat with | some n => k n | none => d := by
  cases x with
  | int kd n => cases n <;> rfl
  | _ => rfl

/-- A number, computed. -/
noncomputable def force (n : Nat) (k : Nat → β) : β := @Nat.rec (fun _ => β) (k 0) (fun n _ => k (Nat.succ n)) n
theorem force_eq (n : Nat) (k : Nat → β) : force n k = k n := by cases n <;> rfl

/-- If it is so, this, else that. -/
noncomputable def ifb (b : Bool) (x y : β) : β := @Bool.rec (fun _ => β) y x b
theorem ifb_eq (b : Bool) (x y : β) : ifb b x y = bif b then x else y := by cases b <;> rfl

noncomputable def onO {α : Type} (o : Option α) (d : β) (k : α → β) : β := @Option.rec α (fun _ => β) d k o
theorem onO_eq {α : Type} (o : Option α) (d : β) (k : α → β) : onO o d k = match o with | some a => k a | none => d := by cases o <;> rfl

end

/-! ### Trees and lists -/

noncomputable def kGet {α : Type} (t : Tr α) : Nat → Option α :=
  @Tr.rec α (fun _ => Nat → Option α) (fun _ => none) (fun _ v _ l r k => @Nat.rec (fun _ => Option α) v (fun k _ => ifb (Nat.beq (Nat.mod k 2) 0) (l (Nat.div k 2)) (r (Nat.div k 2))) k) t

theorem kGet_eq {α : Type} (t : Tr α) : ∀ k, kGet t k = t.get k := by
  induction t with
  | nil => intro k; cases k <;> rfl
  | node l v r hl hr =>
    intro k
    cases k with
    | zero => rfl
    | succ k =>
      show ifb (Nat.beq (k % 2) 0) (kGet l (k / 2)) (kGet r (k / 2)) = bif Nat.beq (k % 2) 0 then l.get (k / 2) else r.get (k / 2)
      rw [hl, hr, ifb_eq]

noncomputable def kSetF {α : Type} (f : Nat) : Nat → α → Tr α → Tr α :=
  @Nat.rec (fun _ => Nat → α → Tr α → Tr α) (fun _ _ t => t) (fun _ ih k x t =>
    @Tr.rec α (fun _ => Tr α)
      (@Nat.rec (fun _ => Tr α) (.node .nil (some x) .nil) (fun k _ => force (Nat.div k 2) fun h => ifb (Nat.beq (Nat.mod k 2) 0) (.node (ih h x .nil) none .nil) (.node .nil none (ih h x .nil))) k)
      (fun l v r _ _ => @Nat.rec (fun _ => Tr α) (.node l (some x) r) (fun k _ => force (Nat.div k 2) fun h => ifb (Nat.beq (Nat.mod k 2) 0) (.node (ih h x l) v r) (.node l v (ih h x r))) k) t) f

theorem kSetF_eq {α : Type} (f : Nat) : ∀ k (x : α) t, kSetF f k x t = Tr.setF f k x t := by
  induction f with
  | zero => intro k x t; cases t <;> rfl
  | succ f ih =>
    intro k x t
    cases t with
    | nil =>
      cases k with
      | zero => rfl
      | succ k =>
        have e : kSetF (f + 1) (k + 1) x (Tr.nil : Tr α) = force (k / 2) fun h => ifb (Nat.beq (k % 2) 0) (Tr.node (kSetF f h x .nil) none .nil) (Tr.node .nil none (kSetF f h x .nil)) := rfl
        rw [e, force_eq, ifb_eq, ih]; rfl
    | node l v r =>
      cases k with
      | zero => rfl
      | succ k =>
        have e : kSetF (f + 1) (k + 1) x (Tr.node l v r) = force (k / 2) fun h => ifb (Nat.beq (k % 2) 0) (Tr.node (kSetF f h x l) v r) (Tr.node l v (kSetF f h x r)) := rfl
        rw [e, force_eq, ifb_eq, ih, ih]; rfl

noncomputable def kSet {α : Type} (k : Nat) (x : α) (t : Tr α) : Tr α := kSetF (Nat.succ k) k x t
theorem kSet_eq {α : Type} (k : Nat) (x : α) (t : Tr α) : kSet k x t = t.set k x := kSetF_eq _ _ _ _

section
variable {α β : Type}
noncomputable def lLen (l : List α) : Nat := @List.rec α (fun _ => Nat) 0 (fun _ _ n => Nat.succ n) l
theorem lLen_eq (l : List α) : lLen l = l.length := by
  induction l with
  | nil => rfl
  | cons a l ih => show Nat.succ (lLen l) = _; rw [ih]; rfl

noncomputable def lNth (l : List α) (d : β) (k : α → β) (i : Nat) : β := @List.rec α (fun _ => Nat → β) (fun _ => d) (fun a _ ih i => @Nat.rec (fun _ => β) (k a) (fun i _ => ih i) i) l i
theorem lNth_eq (l : List α) (d : β) (k : α → β) : ∀ i, lNth l d k i = match l[i]? with | some a => k a | none => d := by
  induction l with
  | nil => intro i; rfl
  | cons a l ih =>
    intro i
    cases i with
    | zero => rfl
    | succ i => show lNth l d k i = _; rw [ih]; rfl

noncomputable def lDrop (n : Nat) : List α → List α := @Nat.rec (fun _ => List α → List α) (fun l => l) (fun _ ih l => @List.rec α (fun _ => List α) [] (fun _ l _ => ih l) l) n
theorem lDrop_eq (n : Nat) : ∀ l : List α, lDrop n l = l.drop n := by
  induction n with
  | zero => intro l; cases l <;> rfl
  | succ n ih => intro l; cases l with
    | nil => rfl
    | cons a l => show lDrop n l = _; rw [ih]; rfl

noncomputable def lTake (n : Nat) : List α → List α := @Nat.rec (fun _ => List α → List α) (fun _ => []) (fun _ ih l => @List.rec α (fun _ => List α) [] (fun a l _ => a :: ih l) l) n
theorem lTake_eq (n : Nat) : ∀ l : List α, lTake n l = l.take n := by
  induction n with
  | zero => intro l; cases l <;> rfl
  | succ n ih => intro l; cases l with
    | nil => rfl
    | cons a l => show a :: lTake n l = _; rw [ih]; rfl

noncomputable def lApp (l m : List α) : List α := @List.rec α (fun _ => List α) m (fun a _ ih => a :: ih) l
theorem lApp_eq (l m : List α) : lApp l m = l ++ m := by
  induction l with
  | nil => rfl
  | cons a l ih => show a :: lApp l m = _; rw [ih]; rfl
end

noncomputable def lFill (l : List AV) : Nat → Tr AV → Tr AV := @List.rec AV (fun _ => Nat → Tr AV → Tr AV) (fun _ t => t) (fun a _ ih i t => force (Nat.succ i) fun j => ih j (kSet i a t)) l
theorem lFill_eq (l : List AV) : ∀ i t, lFill l i t = fillTr l i t := by
  induction l with
  | nil => intro i t; rfl
  | cons a l ih =>
    intro i t
    show (force (Nat.succ i) fun j => lFill l j (kSet i a t)) = _
    rw [force_eq, ih, kSet_eq]; rfl

noncomputable def AV.isScalar (x : AV) : Bool :=
  @AV.rec (fun _ => Bool) (fun _ => PUnit) (fun _ _ => true) (fun _ _ _ => true) (fun _ => true) (fun _ _ => true) (fun _ _ _ => true) true (fun _ _ _ _ _ => true) true (fun _ => true) true
    (fun _ _ _ _ _ => true) true (fun _ _ _ => true) true (fun _ _ => false) (fun _ _ => false) PUnit.unit (fun _ _ _ _ => PUnit.unit) x
theorem AV.isScalar_eq (x : AV) : x.isScalar = x.scalar := by cases x <;> rfl

noncomputable def lScalar (l : List AV) : Bool := @List.rec AV (fun _ => Bool) true (fun a _ ih => ifb a.isScalar ih false) l
theorem lScalar_eq (l : List AV) : lScalar l = l.all AV.scalar := by
  induction l with
  | nil => rfl
  | cons a l ih =>
    show ifb a.isScalar (lScalar l) false = _
    rw [ih, a.isScalar_eq, ifb_eq, List.all_cons]
    cases a.scalar <;> rfl

/-! ### The state -/

abbrev Kv := AV → St → R AV

noncomputable def St.onSt (s : St) (k : Tr Obj → Nat → Nat → Nat → R AV) : R AV := @St.rec (fun _ => R AV) k s
noncomputable def Obj.onRow {β : Type} (o : Obj) (d : β) (k : Nat → Tr AV → Nat → Nat → Nat → Nat → β) : β :=
  @Obj.rec (fun _ => β) (fun r => @Row.rec (fun _ => β) k r) (fun _ => d) (fun _ => d) o
noncomputable def Obj.onMap {β : Type} (o : Obj) (d : β) (k : List (AV × AV) → β) : β :=
  @Obj.rec (fun _ => β) (fun _ => d) k (fun _ => d) o

/-- Block b, and the state in which it has been read. -/
noncomputable def kLook (b : Nat) (k : Obj → St → R AV) (s : St) : R AV :=
  s.onSt fun heap next rd wr => ifb (Nat.ble (Nat.succ b) next) (onO (kGet heap b) .fail fun o => force (Nat.lor rd (Nat.shiftLeft 1 b)) fun rd => k o ⟨heap, next, rd, wr⟩) .fail

theorem kLook_eq {α : Type} (b : Nat) (f : Obj → Option α) (k : α → St → R AV) (s : St) :
    kLook b (fun o s => onO (f o) .fail fun a => k a s) s = bindRun (lookRun b f) k s := by
  cases s with
  | mk heap next rd wr =>
    show ifb (Nat.blt b next) (onO (kGet heap b) _ _) _ = _
    simp only [ifb_eq, onO_eq, kGet_eq, force_eq, bindRun, lookRun]
    cases Nat.blt b next with
    | false => rfl
    | true =>
      cases heap.get b with
      | none => rfl
      | some o => simp only [cond_true]; cases f o <;> rfl

noncomputable def kUpd (b : Nat) (o : Obj) (k : St → R AV) (s : St) : R AV :=
  s.onSt fun heap next rd wr => force (Nat.lor wr (Nat.shiftLeft 1 b)) fun wr => k ⟨kSet b o heap, next, rd, wr⟩

noncomputable def kSee (b : Nat) (k : Obj → R AV) (s : St) : R AV :=
  s.onSt fun heap next _ _ => ifb (Nat.ble (Nat.succ b) next) (onO (kGet heap b) .fail k) .fail

theorem kUpd_eq {α : Type} (b : Nat) (f : Obj → Option (α × Obj)) (k : α → St → R AV) (s : St) :
    kSee b (fun o => onO (f o) .fail fun p => kUpd b p.2 (k p.1) s) s = bindRun (updRun b f) k s := by
  cases s with
  | mk heap next rd wr =>
    show ifb (Nat.blt b next) (onO (kGet heap b) _ _) _ = _
    simp only [ifb_eq, onO_eq, kGet_eq, bindRun, updRun]
    cases Nat.blt b next with
    | false => rfl
    | true =>
      cases heap.get b with
      | none => rfl
      | some o =>
        simp only [cond_true]
        cases f o with
        | none => rfl
        | some p =>
          show (force (Nat.lor wr (Nat.shiftLeft 1 b)) fun wr => k p.1 ⟨kSet b p.2 heap, next, rd, wr⟩) = _
          rw [force_eq, kSet_eq]; rfl

noncomputable def kNew (o : Obj) (k : Nat → St → R AV) (s : St) : R AV :=
  s.onSt fun heap next rd wr => force (Nat.succ next) fun next' => force (Nat.lor wr (Nat.shiftLeft 1 next)) fun wr => k next ⟨kSet next o heap, next', rd, wr⟩
theorem kNew_eq (o : Obj) (k : Nat → St → R AV) (s : St) : kNew o k s = bindRun (newRun o) k s := by
  cases s with
  | mk heap next rd wr =>
    show (force (Nat.succ next) fun next' => force (Nat.lor wr (Nat.shiftLeft 1 next)) fun wr => k next ⟨kSet next o heap, next', rd, wr⟩) = _
    rw [force_eq, force_eq, kSet_eq]; rfl

noncomputable def kFits (n cur nv low v upto : Nat) : Bool := ifb (Nat.ble upto n) (ifb (Nat.beq v cur) true (ifb (Nat.ble (Nat.succ v) nv) (Nat.ble upto low) false)) false
theorem kFits_eq (r : Row) (v upto : Nat) : kFits r.n r.cur r.nv r.low v upto = r.fits v upto := by
  unfold kFits Row.fits
  show ifb _ (ifb _ _ (ifb (Nat.blt v r.nv) _ _)) _ = _
  cases Nat.ble upto r.n <;> cases Nat.beq v r.cur <;> cases Nat.blt v r.nv <;> rfl

noncomputable def lRead (t : Tr AV) (n : Nat) : Nat → (List AV → R AV) → R AV :=
  @Nat.rec (fun _ => Nat → (List AV → R AV) → R AV) (fun _ k => k []) (fun _ ih i k => onO (kGet t i) .fail fun x => force (Nat.succ i) fun j => ih j fun l => k (x :: l)) n
theorem lRead_eq (t : Tr AV) (n : Nat) : ∀ i k, lRead t n i k = onO (readList t i n) .fail k := by
  induction n with
  | zero => intro i k; rfl
  | succ n ih =>
    intro i k
    show onO (kGet t i) .fail (fun x => force (Nat.succ i) fun j => lRead t n j fun l => k (x :: l)) = _
    simp only [onO_eq, kGet_eq, force_eq, ih, readList]
    cases t.get i with
    | none => rfl
    | some x => simp only; cases readList t (Nat.succ i) n <;> rfl

noncomputable def kReadOne (b v i : Nat) (k : Kv) : St → R AV :=
  kLook b fun o s => o.onRow .fail fun n cells cur nv low _ => ifb (kFits n cur nv low v (Nat.succ i)) (onO (kGet cells i) .fail fun x => k x s) .fail
theorem kReadOne_eq (b v i : Nat) (k : Kv) (s : St) : kReadOne b v i k s = bindRun (readCell b v i).run k s := by
  show _ = bindRun (lookRun b (readOne v i)) k s
  rw [← kLook_eq]
  unfold kReadOne
  congr 1
  funext o s'
  cases o with
  | row r =>
    show ifb (kFits r.n r.cur r.nv r.low v (Nat.succ i)) (onO (kGet r.cells i) _ _) _ = _
    simp only [kFits_eq, readOne, onO_eq, ifb_eq, kGet_eq]
    cases r.fits v (i + 1) with
    | false => rfl
    | true => rfl
  | _ => rfl

noncomputable def kRead (b v i n : Nat) (k : List AV → St → R AV) : St → R AV :=
  kLook b fun o s => o.onRow .fail fun rn cells cur nv low _ => ifb (kFits rn cur nv low v (Nat.add i n)) (lRead cells n i fun l => k l s) .fail
theorem kRead_eq (b v i n : Nat) (k : List AV → St → R AV) (s : St) : kRead b v i n k s = bindRun (readCells b v i n).run k s := by
  show _ = bindRun (lookRun b (readRow v i n)) k s
  rw [← kLook_eq]
  unfold kRead
  congr 1
  funext o s'
  cases o with
  | row r =>
    show ifb (kFits r.n r.cur r.nv r.low v (i + n)) (lRead r.cells n i _) _ = _
    simp only [kFits_eq, readRow, lRead_eq, ifb_eq]
    cases r.fits v (i + n) with
    | false => rfl
    | true => rfl
  | _ => rfl

noncomputable def kWriteO (v i : Nat) (xs : List AV) (k : Obj → R AV) (o : Obj) : R AV :=
  o.onRow .fail fun n cells cur nv low esz => ifb (kFits n cur nv low v (Nat.add i (lLen xs))) (ifb (lScalar xs)
    (force (ifb (Nat.beq v cur) n (ifb (Nat.ble n low) n low)) fun n' => force (ifb (Nat.beq nv 1) low (ifb (Nat.ble low i) low i)) fun low' => k (.row ⟨n', lFill xs i cells, v, nv, low', esz⟩)) .fail) .fail

theorem min_ifb (a b : Nat) : ifb (Nat.ble a b) a b = min a b := by
  rw [ifb_eq]
  by_cases h : a ≤ b
  · rw [Nat.ble_eq_true_of_le h, Nat.min_eq_left h]; rfl
  · have : Nat.ble a b = false := by
      cases hb : Nat.ble a b with
      | false => rfl
      | true => exact absurd (Nat.le_of_ble_eq_true hb) h
    rw [this, Nat.min_eq_right (by omega)]; rfl

theorem kWriteO_eq (v i : Nat) (xs : List AV) (k : Obj → R AV) (o : Obj) : kWriteO v i xs k o = onO (writeRow v i xs o) .fail fun p => k p.2 := by
  cases o with
  | row r =>
    show ifb (kFits r.n r.cur r.nv r.low v (i + lLen xs)) (ifb (lScalar xs) (force (ifb (Nat.beq v r.cur) r.n _) fun n' => force (ifb (Nat.beq r.nv 1) r.low _) fun low' => k (.row ⟨n', lFill xs i r.cells, v, r.nv, low', r.esz⟩)) _) _ = _
    simp only [kFits_eq, lLen_eq, lScalar_eq, lFill_eq, force_eq, min_ifb, writeRow]
    simp only [ifb_eq]
    cases r.fits v (i + xs.length) <;> cases xs.all AV.scalar <;> rfl
  | _ => rfl

noncomputable def kWrite (b v i : Nat) (xs : List AV) (k : St → R AV) (s : St) : R AV :=
  @List.rec AV (fun _ => R AV) (k s) (fun _ _ _ => kSee b (kWriteO v i xs fun o => kUpd b o k s) s) xs
theorem kWrite_eq (b v i : Nat) (xs : List AV) (k : St → R AV) (s : St) : kWrite b v i xs k s = bindRun (writeCells b v i xs).run (fun _ => k) s := by
  cases xs with
  | nil => rfl
  | cons x xs =>
    show kSee b (kWriteO v i (x :: xs) fun o => kUpd b o k s) s = bindRun (updRun b (writeRow v i (x :: xs))) (fun _ => k) s
    rw [← kUpd_eq]
    congr 1
    funext o
    exact kWriteO_eq _ _ _ _ _

end Go.Ab
