/-
  append (own work).
-/
import Derived.Deep.AppendLies
import Derived.Test.YtlonlfiaclacdaaPaR
namespace Go.Pa
open Go

section
variable {P : Program}
theorem run_append_none (w : World) (base : Nat) (t ty e : TypeId) (i : TypeInfo) (size : Nat) (ht : P.underlying t = some (.slice e)) (hi : P.info? e = some i)
    (v : Value) (n : Nat) (xs : List Value) (hown : w.ownsRow base e size v n xs) :
    (Builtin.append_ #[t, t] ty #[v, .slice none 0 0]).run P w = .ok v w := by
  rcases hown.2 with ⟨rfl, rfl⟩ | ⟨g, cap, cur, rfl, hbg, hg, hnc, hcm, hcs, htake⟩
  · simp [Builtin.append_, run_underlying ht, sizeOf, typeInfo, hi, Builtin.lenOf, Builtin.firstCells]
  · simp [Builtin.append_, run_underlying ht, sizeOf, typeInfo, hi, Builtin.lenOf, Builtin.firstCells, loadCells, hnc, storeCells]

/-- THE LAW. -/
theorem run_append_rows (w : World) (t ty : TypeId) (base : Nat) (e : TypeId) (i : TypeInfo) (z : Value) (size bytes : Nat) (ht : P.underlying t = some (.slice e)) (hi : P.info? e = some i) (hz : i.zero = some z)
    (hsize : i.size = size) (hby : i.bytes = bytes) (hzs : z.cells.size = size) (hsz : 0 < size)
    (v : Value) (n : Nat) (xs : List Value) (hown : w.ownsRow base e size v n xs)
    (base2 : Nat) (u : Value) (m : Nat) (news : List Value) (hnew : w.ownsRow base2 e size u m news) (h1 : ∀ u ∈ news, u.oneCell' = true)
    (h63 : n + m ≤ maxLen) (hbytes : (n + m) * bytes ≤ 140737488355328) (hbase : base ≤ w.heap.size) (H : Nat) (hH : w.heap.size = H) :
    ∃ a c w', (Builtin.append_ #[t, t] ty #[v, u]).run P w = .ok (.slice a (n + m) c) w' ∧
      w'.ownsRow base e size (.slice a (n + m) c) (n + m) (xs ++ news) ∧ w.grownBy w' v.ownBlock ∧ ((Value.slice a (n + m) c).ownBlock = v.ownBlock ∨ (Value.slice a (n + m) c).ownBlock = some H) := by
  rcases hnew.2 with ⟨rfl, rfl⟩ | ⟨g, cap, cur, rfl, hbg, hg, hnc, hcm, hcs, htake⟩
  · have hn : news = [] := List.eq_nil_of_length_eq_zero (by simpa using hnew.1)
    subst hn
    have hr := run_append_none (P := P) w base t ty e i size ht hi v n xs hown
    obtain ⟨a, c, rfl⟩ : ∃ a c, v = .slice a n c := by
      rcases hown.2 with ⟨rfl, rfl⟩ | ⟨g, cap, cur, rfl, _⟩
      · exact ⟨_, _, rfl⟩
      · exact ⟨_, _, rfl⟩
    exact ⟨a, c, w, hr, by simpa using hown, ⟨rfl, rfl, rfl, Nat.le_refl _, fun _ _ _ => rfl⟩, .inl rfl⟩
  · obtain ⟨v', w', hr, h2, h3, _, h5⟩ := run_append_own_at (P := P) w base t ty e i z size bytes ht hi hz hsize hby hzs hsz v n xs hown ⟨g, 0, none⟩ m cap news hnew.1 (hnew.cells (g := g) rfl) h1 h63 hbytes hbase
    obtain ⟨a, c, rfl⟩ : ∃ a c, v' = .slice a (n + m) c := by
      rcases h2.2 with ⟨rfl, h0⟩ | ⟨g, cap, cur, rfl, _⟩
      · exact ⟨none, 0, by rw [h0]⟩
      · exact ⟨_, _, rfl⟩
    exact ⟨a, c, w', hr, h2, h3, by rw [← hH]; exact h5⟩

theorem wp_append_rows (w : World) {o : Oper} {a : Act} {K : Act → World → Prop} {Q : Exit → Act → World → Prop} (s x : Operand) (t : TypeId)
    (ho : o.op = .call { callee := .builtin .append, args := #[s, x], argTypes := #[t, t] })
    (base : Nat) (e : TypeId) (i : TypeInfo) (z : Value) (size bytes : Nat) (ht : P.underlying t = some (.slice e)) (hi : P.info? e = some i) (hz : i.zero = some z)
    (hsize : i.size = size) (hby : i.bytes = bytes) (hzs : z.cells.size = size) (hsz : 0 < size)
    (v : Value) (n : Nat) (xs : List Value) (hs : a.eval s = v) (hown : w.ownsRow base e size v n xs)
    (base2 : Nat) (u : Value) (m : Nat) (news : List Value) (hx : a.eval x = u) (hnew : w.ownsRow base2 e size u m news) (h1 : ∀ u ∈ news, u.oneCell' = true)
    (h63 : n + m ≤ maxLen) (hbytes : (n + m) * bytes ≤ 140737488355328) (hbase : base ≤ w.heap.size) (H : Nat) (hH : w.heap.size = H)
    (h : ∀ b c w', w'.ownsRow base e size (.slice b (n + m) c) (n + m) (xs ++ news) → w.grownBy w' v.ownBlock → ((Value.slice b (n + m) c).ownBlock = v.ownBlock ∨ (Value.slice b (n + m) c).ownBlock = some H) → K (a.put o.dst (.slice b (n + m) c)) w') : o.wp P a w K Q := by
  obtain ⟨b, c, w', hr, h2, h3, h4⟩ := run_append_rows (P := P) w t o.type base e i z size bytes ht hi hz hsize hby hzs hsz v n xs hown base2 u m news hnew h1 h63 hbytes hbase H hH
  unfold Oper.wp execOp
  simp only [ho, resolve, invoke, builtin, Sem.run_bind, Sem.run_pure, Result.andThen_ok, List.map_toArray, List.map_cons, List.map_nil, hs, hx, hr]
  exact h b c w' h2 h3 h4

/-- At the list of a plain region's operations. -/
theorem wpList_append_rows (w : World) {ops : Array Oper} {rest : List Oper} {o : Oper} {a : Act} {Q : Exit → Act → World → Prop} (hgd : o.guard = none) (s x : Operand) (t : TypeId)
    (ho : o.op = .call { callee := .builtin .append, args := #[s, x], argTypes := #[t, t] })
    (base : Nat) (e : TypeId) (i : TypeInfo) (z : Value) (size bytes : Nat) (ht : P.underlying t = some (.slice e)) (hi : P.info? e = some i) (hz : i.zero = some z)
    (hsize : i.size = size) (hby : i.bytes = bytes) (hzs : z.cells.size = size) (hsz : 0 < size)
    (v : Value) (n : Nat) (xs : List Value) (hs : a.eval s = v) (hown : w.ownsRow base e size v n xs)
    (base2 : Nat) (u : Value) (m : Nat) (news : List Value) (hx : a.eval x = u) (hnew : w.ownsRow base2 e size u m news) (h1 : ∀ u ∈ news, u.oneCell' = true)
    (h63 : n + m ≤ maxLen) (hbytes : (n + m) * bytes ≤ 140737488355328) (hbase : base ≤ w.heap.size) (H : Nat) (hH : w.heap.size = H)
    (h : ∀ b c w', w'.ownsRow base e size (.slice b (n + m) c) (n + m) (xs ++ news) → w.grownBy w' v.ownBlock → ((Value.slice b (n + m) c).ownBlock = v.ownBlock ∨ (Value.slice b (n + m) c).ownBlock = some H) → wpList P ops Q rest (a.put o.dst (.slice b (n + m) c)) w') : wpList P ops Q (o :: rest) a w :=
  wpList_plain hgd fun _ hK => wp_append_rows w s x t ho base e i z size bytes ht hi hz hsize hby hzs hsz v n xs hs hown base2 u m news hx hnew h1 h63 hbytes hbase H hH fun b c w' h2 h3 h4 => hK _ _ (h b c w' h2 h3 h4)

/-- At a step of a region that draws its order. -/
theorem step_append_rows (w : World) {ops : Array Oper} {o : Oper} {a : Act} {K : Act → World → Prop} {Q : Exit → Act → World → Prop} {E : Prop} (hgd : o.guard = none) (s x : Operand) (t : TypeId)
    (ho : o.op = .call { callee := .builtin .append, args := #[s, x], argTypes := #[t, t] })
    (base : Nat) (e : TypeId) (i : TypeInfo) (z : Value) (size bytes : Nat) (ht : P.underlying t = some (.slice e)) (hi : P.info? e = some i) (hz : i.zero = some z)
    (hsize : i.size = size) (hby : i.bytes = bytes) (hzs : z.cells.size = size) (hsz : 0 < size)
    (v : Value) (n : Nat) (xs : List Value) (hs : a.eval s = v) (hown : w.ownsRow base e size v n xs)
    (base2 : Nat) (u : Value) (m : Nat) (news : List Value) (hx : a.eval x = u) (hnew : w.ownsRow base2 e size u m news) (h1 : ∀ u ∈ news, u.oneCell' = true)
    (h63 : n + m ≤ maxLen) (hbytes : (n + m) * bytes ≤ 140737488355328) (hbase : base ≤ w.heap.size) (H : Nat) (hH : w.heap.size = H)
    (h : ∀ b c w', w'.ownsRow base e size (.slice b (n + m) c) (n + m) (xs ++ news) → w.grownBy w' v.ownBlock → ((Value.slice b (n + m) c).ownBlock = v.ownBlock ∨ (Value.slice b (n + m) c).ownBlock = some H) → K (a.put o.dst (.slice b (n + m) c)) w') :
    if Region.wanted o (yielded ops a.tmps) = true then Oper.wp P o a w K Q else E := by
  have hw : Region.wanted o (yielded ops a.tmps) = true := by simp [Region.wanted, hgd]
  rw [if_pos hw]
  exact wp_append_rows w s x t ho base e i z size bytes ht hi hz hsize hby hzs hsz v n xs hs hown base2 u m news hx hnew h1 h63 hbytes hbase H hH h
end
end Go.Pa

namespace Go.Pa
open Go Go.RowKit Go.Proofs

/-- f 0 ++ .. ++ f (n - 1). -/
def catN {α : Type} (f : Nat → List α) : Nat → List α
  | 0 => []
  | n + 1 => catN f n ++ f n
/-- f 0 || .. || f (n - 1). -/
def anyN (f : Nat → Bool) : Nat → Bool
  | 0 => false
  | n + 1 => anyN f n || f n

/-- The parts, each ahead of its kids: the form and the name. -/
def Tree.pre : Tree → List (Int × ByteArray)
  | .none => []
  | .node f nm k kid => (f, nm) :: catN (fun i => (kid i).pre) k

theorem catN_length {α : Type} (f : Nat → List α) (g : Nat → Nat) (n : Nat) (h : ∀ i, i < n → (f i).length ≤ g i) : (catN f n).length ≤ sumN g n := by
  induction n with
  | zero => exact Nat.le_refl _
  | succ n ih =>
    rw [catN, List.length_append, sumN]
    have := ih fun i hi => h i (by omega)
    have := h n (by omega)
    omega
theorem Tree.pre_length (t : Tree) : t.pre.length ≤ t.cnt := by
  induction t with
  | none => exact Nat.zero_le _
  | node f nm k kid ih =>
    rw [Tree.pre, Tree.cnt, List.length_cons]
    have := catN_length (fun i => (kid i).pre) (fun i => (kid i).cnt) k fun i _ => ih i
    omega

/-- The names that the parts of some forms bear. -/
def told (g : Int → Bool) (l : List (Int × ByteArray)) : List ByteArray := (l.filter fun x => g x.1).map fun x => x.2
theorem told_append (g : Int → Bool) (l m : List (Int × ByteArray)) : told g (l ++ m) = told g l ++ told g m := by simp [told]
theorem told_length (g : Int → Bool) (l : List (Int × ByteArray)) : (told g l).length ≤ l.length := by
  unfold told
  rw [List.length_map]
  exact List.length_filter_le _ _
theorem told_one (g : Int → Bool) (f : Int) (nm : ByteArray) : told g [(f, nm)] = if g f then [nm] else [] := by
  unfold told
  cases h : g f <;> simp [h]
theorem told_catN (g : Int → Bool) (f : Nat → List (Int × ByteArray)) (n : Nat) : told g (catN f n) = catN (fun i => told g (f i)) n := by
  induction n with
  | zero => rfl
  | succ n ih => rw [catN, catN, told_append, ih]
theorem told_node (g : Int → Bool) (f : Int) (nm : ByteArray) (k : Nat) (kid : Nat → Tree) : told g (Tree.node f nm k kid).pre = (if g f then [nm] else []) ++ catN (fun i => told g (kid i).pre) k := by
  rw [Tree.pre, ← List.singleton_append, told_append, told_one, told_catN]
/-- Is one of the parts of such a form? -/
def isAny (g : Int → Bool) (l : List (Int × ByteArray)) : Bool := l.any fun x => g x.1
theorem isAny_append (g : Int → Bool) (l m : List (Int × ByteArray)) : isAny g (l ++ m) = (isAny g l || isAny g m) := by simp [isAny]
theorem isAny_catN (g : Int → Bool) (f : Nat → List (Int × ByteArray)) (n : Nat) : isAny g (catN f n) = anyN (fun i => isAny g (f i)) n := by
  induction n with
  | zero => rfl
  | succ n ih => rw [catN, anyN, isAny_append, ih]
theorem isAny_node (g : Int → Bool) (f : Int) (nm : ByteArray) (k : Nat) (kid : Nat → Tree) : isAny g (Tree.node f nm k kid).pre = (g f || anyN (fun i => isAny g (kid i).pre) k) := by
  rw [Tree.pre, ← List.singleton_append, isAny_append, isAny_catN]
  simp [isAny]
/-- The forms that use a name; that call a node; that have memory. -/
def gUse (f : Int) : Bool := f == 2 || f == 9 || f == 10
def gCall (f : Int) : Bool := f == 13 || f == 14 || f == 18 || f == 19
def gMem (f : Int) : Bool := f == 6 || f == 7 || f == 8 || f == 12 || gCall f
theorem told_le {g : Int → Bool} {t : Tree} {n : Nat} (h : t.cnt ≤ n) : (told g t.pre).length ≤ n := Nat.le_trans (told_length g _) (Nat.le_trans t.pre_length h)
end Go.Pa
