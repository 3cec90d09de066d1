/- Part of the proof of ClocksDeep (own work). -/
import Derived.Test.YtlonlfiaclacdaaGreatE2
set_option linter.all false
set_option maxRecDepth 100000
namespace Go.Vi
open Go.Proofs
def has (S : List ByteArray) (w : ByteArray) : Bool := S.any fun x => x.toList == w.toList
theorem has_true {S : List ByteArray} {w : ByteArray} : has S w = true ↔ ∃ x ∈ S, x.toList = w.toList := by simp [has, List.any_eq_true]
theorem name_rows {S : List ByteArray} {i : Int} (h0 : 0 ≤ i) (h : i < S.length) : (S.map nameRow)[i.toNat]? = some [.str (S[i.toNat]'(by omega))] := by
  rw [List.getElem?_map, List.getElem?_eq_getElem (by omega)]; rfl
theorem node_rows {N : List Node} {i : Int} (h0 : 0 ≤ i) (h : i < N.length) : (N.map Node.row)[i.toNat]? = some ((N[i.toNat]'(by omega)).row) := by
  rw [List.getElem?_map, List.getElem?_eq_getElem (by omega)]; rfl
def isCall (f : Int) : Bool := f == 13 || f == 14 || f == 18 || f == 19
attribute [local irreducible] qAsg qPick qBox qBuild qBsl qLoad1 qLoadN qStore qNil qBin qUn qConv qSlS qSlL qFA qF1 qFN qIA qIS qEx qLenS qLenL qApp pQ pQL pGL pCall pCallL condP optP pEnd OpS Int.instDecidableEq Int.decEq instBEqOfDecidableEq
theorem has_pc (S : List ByteArray) (w : ByteArray) (hS : S.length ≤ 1000000000) : PC Tryz.prog 85 [.lst (S.map nameRow), .str w] [] (.bool (has S w)) [] := by
  have loop : ∀ c : Nat, ∃ k, ∀ (i : Int) (s : St), 0 ≤ i → i ≤ S.length → S.length - i ≤ c → (∀ j : Nat, (h : j < S.length) → j < i → S[j].toList ≠ w.toList) → getBoxes s (List.range 0) = some [] →
      c85l2 0 0 (fun r c => c = [] ∧ r = .bool (has S w)) k (.lst (S.map nameRow)) (.str w) (.int .i64 i) s := by
    intro c
    induction c with
    | zero =>
      refine ⟨1, fun i s h0 h1 hc hno hs => ?_⟩
      show c85l2b _ _ _ _ _ _ _ _
      unfold c85l2b
      refine zv ?_
      refine cond_i (fun h => absurd (of_decide_eq_true h) (by simp; omega)) (fun _ => ?_)
      unfold c85j0
      refine fin_i rfl rfl hs ⟨rfl, ?_⟩
      have : has S w = false := by
        cases hh : has S w
        · rfl
        · obtain ⟨x, hx, he⟩ := has_true.1 hh
          obtain ⟨j, hj, rfl⟩ := List.getElem_of_mem hx
          exact absurd he (hno j hj (by omega))
      rw [this]
    | succ c ih =>
      obtain ⟨k, ih⟩ := ih
      refine ⟨k + 1, fun i s h0 h1 hc hno hs => ?_⟩
      show c85l2b _ _ _ _ _ _ _ _
      unfold c85l2b
      refine zv ?_
      refine cond_i (fun h => ?_) (fun h => ?_)
      · have hlt : i < S.length := by have := of_decide_eq_true h; simpa using this
        have hw : IntKind.i64.wrap (i + 1) = i + 1 := wrap64 (by omega) (by omega)
        refine pQ_r (o_iaL h0 (name_rows h0 hlt) rfl) ?_
        refine zv ?_
        refine cond_i (fun h2 => ?_) (fun h2 => ?_)
        · refine fin_i rfl rfl hs ⟨rfl, ?_⟩
          have : has S w = true := has_true.2 ⟨_, List.getElem_mem _, by simpa using h2⟩
          rw [this]
        · refine zv ?_
          refine ih _ _ (by omega) (by omega) (by omega) (fun j hj hji => ?_) hs
          by_cases hj2 : j < i
          · exact hno j hj hj2
          · have : j = i.toNat := by omega
            subst this
            simpa using h2
      · have hge : ¬ i < S.length := by have := of_decide_eq_false h; simpa using this
        unfold c85j0
        refine fin_i rfl rfl hs ⟨rfl, ?_⟩
        have : has S w = false := by
          cases hh : has S w
          · rfl
          · obtain ⟨x, hx, he⟩ := has_true.1 hh
            obtain ⟨j, hj, rfl⟩ := List.getElem_of_mem hx
            exact absurd he (hno j hj (by omega))
        rw [this]
  have : PQ Tryz.prog 85 [.lst (S.map nameRow), .str w] [] (fun r c => c = [] ∧ r = .bool (has S w)) := by
    refine c85_pq 0 rfl _ _ ?_
    unfold c85
    obtain ⟨k, hk⟩ := loop S.length
    exact ⟨k, hk 0 _ (by omega) (by omega) (by omega) (fun j hj h => by omega) rfl⟩
  obtain ⟨r, c, hpc, rfl, rfl⟩ := this
  exact hpc
theorem isCall_pc (f : Int) : PC Tryz.prog 117 [.int .i64 f] [] (.bool (isCall f)) [] := by
  have : PQ Tryz.prog 117 [.int .i64 f] [] (fun r c => c = [] ∧ r = .bool (isCall f)) := by
    refine c117_pq 0 rfl _ ?_
    unfold c117
    refine zv ?_
    cases h1 : (f == 13)
    case true =>
      refine zv ?_
      exact fin_i rfl rfl rfl ⟨rfl, by simp [isCall, h1]⟩
    refine zv ?_
    cases h2 : (f == 14)
    case true =>
      refine zv ?_
      exact fin_i rfl rfl rfl ⟨rfl, by simp [isCall, h2]⟩
    refine zv ?_
    cases h3 : (f == 18)
    case true =>
      refine zv ?_
      exact fin_i rfl rfl rfl ⟨rfl, by simp [isCall, h3]⟩
    refine zv ?_
    exact fin_i rfl rfl rfl ⟨rfl, by simp [isCall, h1, h2, h3]⟩
  obtain ⟨r, c, hpc, rfl, rfl⟩ := this
  exact hpc
end Go.Vi
namespace Go.Vi
open Go.Proofs
def IsNode (N : List Node) (w : ByteArray) (a r : Int) : Prop := (0 ≤ r ∧ r < a ∧ ∃ n, N[r.toNat]? = some n ∧ n.name.toList = w.toList) ∨ (r = -1 ∧ ∀ (j : Nat) (n : Node), N[j]? = some n → (j : Int) < a → n.name.toList ≠ w.toList)
def ck (N : List Node) (e a : Int) : List PV := [.lst (N.map Node.row), .int .i64 e, .int .i64 a]
attribute [local irreducible] qAsg qPick qBox qBuild qBsl qLoad1 qLoadN qStore qNil qBin qUn qConv qSlS qSlL qFA qF1 qFN qIA qIS qEx qLenS qLenL qApp pQ pQL pGL pCall pCallL condP optP pEnd OpS Int.instDecidableEq Int.decEq instBEqOfDecidableEq
theorem node_pc (N : List Node) (hN : N.length ≤ 60) (w : ByteArray) (a : Int) : ∃ r, PC Tryz.prog 84 [.agg [.lst (N.map Node.row)], .str w, .int .i64 a] [] (.int .i64 r) [] ∧ IsNode N w a r := by
  have loop : ∀ c : Nat, ∃ k, ∀ (i : Int) (hp : Nat → Option Obj), 0 ≤ i → i ≤ N.length → N.length - i ≤ c → (∀ (j : Nat) (n : Node), N[j]? = some n → (j : Int) < i → n.name.toList ≠ w.toList) →
      c84l4 0 0 (fun r c => c = [] ∧ ∃ r' : Int, r = .int .i64 r' ∧ IsNode N w a r') k (.str w) (.int .i64 a) (.ptr 0 0) (.int .i64 i) (stL [.box [.lst (N.map Node.row)]] hp 1) := by
    intro c
    induction c with
    | zero =>
      refine ⟨1, fun i hp h0 h1 hc hno => ?_⟩
      show c84l4b _ _ _ _ _ _ _ _ _
      unfold c84l4b
      refine zv ?_
      cases h : decide (i < a) <;> refine zv ?_
      · unfold c84j2
        refine fin_i rfl rfl rfl ⟨rfl, -1, rfl, .inr ⟨rfl, fun j n hj hja => hno j n hj (by have := of_decide_eq_false h; omega)⟩⟩
      · refine cond_i (fun h2 => absurd (of_decide_eq_true h2) (by simp; omega)) (fun _ => ?_)
        unfold c84j2
        refine fin_i rfl rfl rfl ⟨rfl, -1, rfl, .inr ⟨rfl, fun j n hj hja => hno j n hj (by have := (List.getElem?_eq_some_iff.1 hj).1; omega)⟩⟩
    | succ c ih =>
      obtain ⟨k, ih⟩ := ih
      refine ⟨k + 1, fun i hp h0 h1 hc hno => ?_⟩
      show c84l4b _ _ _ _ _ _ _ _ _
      unfold c84l4b
      refine zv ?_
      cases h : decide (i < a) <;> refine zv ?_
      · unfold c84j2
        refine fin_i rfl rfl rfl ⟨rfl, -1, rfl, .inr ⟨rfl, fun j n hj hja => hno j n hj (by have := of_decide_eq_false h; omega)⟩⟩
      · refine cond_i (fun h2 => ?_) (fun h2 => ?_)
        · have hlt : i < N.length := by have := of_decide_eq_true h2; simpa using this
          have hw : IntKind.i64.wrap (i + 1) = i + 1 := wrap64 (by omega) (by omega)
          have hget : N[i.toNat]? = some (N[i.toNat]'(by omega)) := List.getElem?_eq_getElem (by omega)
          refine zv ?_
          refine pQ_r (o_iaL h0 (node_rows h0 hlt) rfl) ?_
          refine zv ?_
          refine cond_i (fun h3 => ?_) (fun h3 => ?_)
          · refine zv ?_
            refine fin_i rfl rfl rfl ⟨rfl, i, rfl, .inl ⟨h0, of_decide_eq_true h, _, hget, by simpa using h3⟩⟩
          · refine zv ?_
            refine ih _ hp (by omega) (by omega) (by omega) (fun j n hj hji => ?_)
            by_cases hj2 : (j : Int) < i
            · exact hno j n hj hj2
            · have : j = i.toNat := by omega
              subst this
              rw [hget] at hj; cases hj
              simpa using h3
        · have hge : ¬ i < N.length := by have := of_decide_eq_false h2; simpa using this
          unfold c84j2
          refine fin_i rfl rfl rfl ⟨rfl, -1, rfl, .inr ⟨rfl, fun j n hj hja => hno j n hj (by have := (List.getElem?_eq_some_iff.1 hj).1; omega)⟩⟩
  have : PQ Tryz.prog 84 [.agg [.lst (N.map Node.row)], .str w, .int .i64 a] [] (fun r c => c = [] ∧ ∃ r' : Int, r = .int .i64 r' ∧ IsNode N w a r') := by
    refine c84_pq 0 rfl _ _ _ ?_
    unfold c84
    refine zv ?_
    obtain ⟨k, hk⟩ := loop N.length
    refine ⟨k, ?_⟩
    exact stL_to1 (c84l4 0 0 _ k _ _ _ _) rfl rfl fun hp' => hk 0 hp' (by omega) (by omega) (by omega) (fun j n _ h => by omega)
  obtain ⟨r, c, hpc, rfl, r', rfl, h⟩ := this
  exact ⟨r', hpc, h⟩
def CF (N : List Node) (f : Nat) (args : List PV) (e a : Int) (Q : PV → Int → Int → Prop) : Prop :=
  PQ Tryz.prog f (.ptr 0 0 :: args) [ck N e a] fun r c => ∃ e' a', c = [ck N e' a'] ∧ Q r e' a'
section
variable {N : List Node} {e a : Int} {s : St} {k : PV → St → Prop} {kl : PV → St → List Nat → List Nat → Prop} {args vs : List PV} {f : Nat} {Q : PV → Int → Int → Prop}
theorem CF.call (h : CF N f args e a Q) (h1 : toArgs vs 0 = some (.ptr 0 0 :: args, [0])) (h3 : getBoxes s [0] = some [ck N e a])
    (hk : ∀ r e' a', Q r e' a' → k (place r (s.set 0 (.box (ck N e' a')))).1 (place r (s.set 0 (.box (ck N e' a')))).2) : pCall Tryz.prog f vs s k := by
  obtain ⟨r, c, hpc, e', a', rfl, hq⟩ := h
  exact pCall_i hpc h1 rfl h3 rfl (hk r e' a' hq)
theorem CF.pc (h : CF N f args e a Q) : ∃ r e' a', PC Tryz.prog f (.ptr 0 0 :: args) [ck N e a] r [ck N e' a'] ∧ Q r e' a' := by
  obtain ⟨r, c, hpc, e', a', rfl, hq⟩ := h
  exact ⟨r, e', a', hpc, hq⟩
end
end Go.Vi
namespace Go.Vi
open Go.Proofs
inductive ResE (N : List Node) (S : List ByteArray) (nd : Int) : Exp → Prop
  | mk (f s : Int) (nm : ByteArray) (tk tl i m : Int) (kids : List Exp) (at' : Int) : (f = 2 ∨ f = 9 ∨ f = 10 → has S nm = true) → (isCall f = true → ∃ r, 0 ≤ r ∧ IsNode N nm nd r) → (f = 14 ∨ f = 15 ∨ f = 18 → 0 < kids.length) → (∀ k ∈ kids, ResE N S nd k) → ResE N S nd (.mk f s nm tk tl i m kids at')
theorem ResE.inv {N : List Node} {S : List ByteArray} {nd : Int} {f s tk tl i m at' : Int} {nm : ByteArray} {kids : List Exp} (h : ResE N S nd (.mk f s nm tk tl i m kids at')) : (f = 2 ∨ f = 9 ∨ f = 10 → has S nm = true) ∧ (isCall f = true → ∃ r, 0 ≤ r ∧ IsNode N nm nd r) ∧ (f = 14 ∨ f = 15 ∨ f = 18 → 0 < kids.length) ∧ (∀ k ∈ kids, ResE N S nd k) := by
  cases h with | mk _ _ _ _ _ _ _ _ _ h1 h2 h3 h4 => exact ⟨h1, h2, h3, h4⟩
theorem args_exp {x : Exp} {vs us : List PV} {bs : List Nat} (h : toArgs vs 1 = some (us, bs)) : toArgs (.ptr 0 0 :: .agg x.row :: vs) 0 = some (.ptr 0 0 :: .agg x.row :: us, 0 :: bs) := by
  simp [toArgs, PV.arg1, x.datas, h]
attribute [local irreducible] qAsg qPick qBox qBuild qBsl qLoad1 qLoadN qStore qNil qBin qUn qConv qSlS qSlL qFA qF1 qFN qIA qIS qEx qLenS qLenL qApp pQ pQL pGL pCall pCallL condP optP pEnd OpS Int.instDecidableEq Int.decEq instBEqOfDecidableEq
section
variable {P : Program} {b : Bool} {bx o : Nat} {row : List PV} {x c : Int} {s : St} {R : PV → St → Prop} {N : List Node} {e a : Int}
theorem or_f (h : s.heap bx = some (.box row)) (hx : row[o]? = some (.int .i64 x)) (hk : R (.bool (b || (x == c))) s) :
    pGL (.bool b) false (fun k => pQL (qFA o (.ptr bx 0)) s k) (fun v8 s9 _ _ => pGL (.bool b) false (fun k => pQL (qLoad1 v8) s9 k) (fun v10 s11 _ _ => pGL (.bool b) false (fun k => pQL (qBin P .eql 3 v10 (.int .i64 c)) s11 k) (fun v12 s13 _ _ => pQ (qPick (.bool b) (.bool true) v12) s13 R) s11) s9) s := by
  cases b
  · refine gq_f o_faP ?_
    refine gq_f (o_load1P h (by rw [Nat.zero_add]; exact hx)) ?_
    refine zv ?_
    exact hk
  · refine zv ?_
    exact hk
theorem and_E (h : s.heap 0 = some (.box (ck N e a))) (hk : R (.bool (b && (e == 0))) s) :
    pGL (.bool b) true (fun k => k (.ptr 0 0) s [] []) (fun v159 s160 _ _ => pGL (.bool b) true (fun k => pQL (qNil v159) s160 k) (fun v161 s162 _ _ => pGL (.bool b) true (fun k => pQL (qFA 1 v161) s162 k) (fun v163 s164 _ _ => pGL (.bool b) true (fun k => pQL (qLoad1 v163) s164 k) (fun v165 s166 _ _ => pGL (.bool b) true (fun k => pQL (qBin P .eql 3 v165 (.int .i64 0)) s166 k)
      (fun v167 s168 _ _ => pQ (qPick (.bool b) v167 (.bool false)) s168 R) s166) s164) s162) s160) s := by
  cases b
  · refine zv ?_
    exact hk
  · refine zv ?_
    exact hk
theorem and_len {rows : List (List PV)} (h : s.heap bx = some (.box row)) (hx : row[o]? = some (.lst rows)) (hk : R (.bool (b && decide ((rows.length : Int) < c))) s) :
    pGL (.bool b) true (fun k => pQL (qFA o (.ptr bx 0)) s k) (fun v126 s127 _ _ => pGL (.bool b) true (fun k => pQL (qLoad1 v126) s127 k) (fun v128 s129 _ _ => pGL (.bool b) true (fun k => pQL (qLenL v128) s129 k) (fun v130 s131 _ _ => pGL (.bool b) true (fun k => pQL (qBin P .lss 3 v130 (.int .i64 c)) s131 k)
      (fun v132 s133 _ _ => pQ (qPick (.bool b) v132 (.bool false)) s133 R) s131) s129) s127) s := by
  cases b
  · refine zv ?_
    exact hk
  · refine gq_t o_faP ?_
    refine gq_t (o_load1P h (by rw [Nat.zero_add]; exact hx)) ?_
    refine zv ?_
    exact hk
theorem and_not {d : Bool} (hk : R (.bool (b && !d)) s) :
    pGL (.bool b) true (fun k => k (.bool d) s [] []) (fun v34 s35 _ _ => pGL (.bool b) true (fun k => pQL (qUn .not v34) s35 k) (fun v36 s37 _ _ => pQ (qPick (.bool b) v36 (.bool false)) s37 R) s35) s := by
  cases b
  · refine zv ?_
    exact hk
  · refine zv ?_
    exact hk
end
theorem exp_rows {l : List Exp} {i : Int} (h0 : 0 ≤ i) (h : i < l.length) : (Exp.rows l)[i.toNat]? = some ((l[i.toNat]'(by omega)).row) := by
  rw [Exp.rows_map, List.getElem?_map, List.getElem?_eq_getElem (by omega)]; rfl
section
variable {N : List Node} {S : List ByteArray} {nd : Int}
end
end Go.Vi
namespace Go.Vi
open Go.Proofs
theorem Trans.cut (t : Trans) : cutN 9 t.row 0 = some (.agg t.cond.row) := by
  have := t.cond.row_len
  simp only [cutN, t.row_len, List.drop_zero]
  rw [if_pos (by omega)]
  simp only [Trans.row]
  rw [List.take_append_of_le_length (by omega), List.take_of_length_le (by omega)]
theorem var_rows {l : List Var} {i : Int} (h0 : 0 ≤ i) (h : i < l.length) : (l.map Var.row)[i.toNat]? = some ((l[i.toNat]'(by omega)).row) := by
  rw [List.getElem?_map, List.getElem?_eq_getElem (by omega)]; rfl
attribute [local irreducible] qAsg qPick qBox qBuild qBsl qLoad1 qLoadN qStore qNil qBin qUn qConv qSlS qSlL qFA qF1 qFN qIA qIS qEx qLenS qLenL qApp pQ pQL pGL pCall pCallL condP optP pEnd OpS Int.instDecidableEq Int.decEq instBEqOfDecidableEq
section
variable {N : List Node} {S T : List ByteArray} {nd : Int}
end
end Go.Vi
namespace Go.Vi
open Go.Proofs
mutual
def Item.defs (n : ByteArray) : Item → Prop
  | .mk names _ states _ => (states = [] ∧ n ∈ names) ∨ State.defsL n states
def Item.defsL (n : ByteArray) : List Item → Prop
  | [] => False
  | x :: r => x.defs n ∨ Item.defsL n r
def State.defs (n : ByteArray) : State → Prop
  | .mk _ _ _ locals items _ => n ∉ locals.map Var.name ∧ Item.defsL n items
def State.defsL (n : ByteArray) : List State → Prop
  | [] => False
  | x :: r => x.defs n ∨ State.defsL n r
end
mutual
inductive NI (N : List Node) (nd : Int) : List ByteArray → List ByteArray → Item → Prop
  | eq (S M : List ByteArray) (names : List ByteArray) (e : Exp) (at' : Int) : (∀ n ∈ names, has M n = true) → ResE N S nd e → NI N nd S M (.mk names e [] at')
  | auto (S M : List ByteArray) (names : List ByteArray) (e : Exp) (st : State) (states : List State) (at' : Int) : (∀ s ∈ st :: states, NS N nd S M s) → NI N nd S M (.mk names e (st :: states) at')
inductive NS (N : List Node) (nd : Int) : List ByteArray → List ByteArray → State → Prop
  | mk (S M : List ByteArray) (nm : ByteArray) (unl unt : List Trans) (locals : List Var) (items : List Item) (at' : Int) : (∀ t ∈ unl, ResE N S nd t.cond) → (∀ i ∈ items, NI N nd (S ++ locals.map Var.name) (M ++ locals.map Var.name) i) →
      (∀ t ∈ unt, ResE N (S ++ locals.map Var.name) nd t.cond) → (∀ (q : Nat) (h : q < locals.length), has (S ++ (locals.map Var.name).take q) locals[q].name = false) → (∀ v ∈ locals, Item.defsL v.name items) → NS N nd S M (.mk nm unl unt locals items at')
end
theorem item_rows {l : List Item} {i : Int} (h0 : 0 ≤ i) (h : i < l.length) : (l.map Item.row)[i.toNat]? = some ((l[i.toNat]'(by omega)).row) := by
  rw [List.getElem?_map, List.getElem?_eq_getElem (by omega)]; rfl
structure L86 (N : List Node) (e a : Int) (d : List ByteArray) (b eo : Nat) (s : St) : Prop where
  h0 : s.heap 0 = some (.box (ck N e a))
  hb : s.heap b = some (.own (d.map nameRow).length eo)
  ho : d.map nameRow = [] ∨ eo = 1
  n0 : b ≠ 0
  lt : b < s.next
structure L86x (N : List Node) (e a : Int) (d : List ByteArray) (b eo bx : Nat) (row : List PV) (s : St) : Prop where
  i : L86 N e a d b eo s
  hx : s.heap bx = some (.box row)
  x0 : bx ≠ 0
  xb : bx ≠ b
  xlt : bx < s.next
attribute [local irreducible] qAsg qPick qBox qBuild qBsl qLoad1 qLoadN qStore qNil qBin qUn qConv qSlS qSlL qFA qF1 qFN qIA qIS qEx qLenS qLenL qApp pQ pQL pGL pCall pCallL condP optP pEnd OpS Int.instDecidableEq Int.decEq instBEqOfDecidableEq
attribute [local irreducible] c86j4 c86j36 c86j71 c86j117 c86j145 c86j213 c86j202
section
variable {N : List Node} {S M : List ByteArray} {nd : Int}
theorem app_one {d : List ByteArray} (hd : d.length ≤ 90000) {s : St} {e a : Int} {bx : Nat} {row : List PV} {b eo : Nat} (h : L86x N e a d b eo bx row s) {i : Int} {nms : List ByteArray} (hrow : row[0]? = some (.lst (nms.map nameRow))) (h0 : 0 ≤ i) (hi : i < nms.length)
    {w10 : PV → PV → PV → PV → PV → PV → PV → St → Prop} {w170 : PV → PV → PV → PV → PV → PV → PV → PV → PV → St → Prop} {Q : PV → List (List PV) → Prop} {v2 v3 v4 v5 v7 : PV} (hw : nms.length ≤ 100000)
    (hk : ∀ b' s', L86x N e a (d ++ [nms[i.toNat]'(by omega)]) b' 1 bx row s' → w170 (.ptr 0 0) v2 v3 v4 v5 (.acc b' ((d ++ [nms[i.toNat]'(by omega)]).map nameRow)) v7 (.ptr bx 0) (.int .i64 (i + 1)) s') :
    c86j213 1 1 Q w10 w170 (.ptr 0 0) v2 v3 v4 v5 (.acc b (d.map nameRow)) v7 (.ptr bx 0) (.int .i64 i) s := by
  have hx := h.hx
  have hlt := h.xlt
  have hw1 : IntKind.i64.wrap (i + 1) = i + 1 := wrap64 (by omega) (by omega)
  have h00 := h.i.h0
  unfold c86j213
  refine pQL_r (o_appN rfl (all_len name_rows_len) (fits_small (by simp; omega) (by omega)) rfl) ?_
  refine zv ?_
  refine pQL_r (o_load1P zh hrow) ?_
  refine pQL_r (o_iaL h0 (name_rows h0 hi) rfl) ?_
  refine zv ?_
  refine pQL_r (o_app rfl rfl (fits_small (by simp; omega) (by omega)) (all_len name_rows_len) zh (.inr rfl)) ?_
  refine zv ?_
  have hb := h.i.lt
  have hb0 := h.i.n0
  have hx0 := h.x0
  have hxb := h.xb
  refine ⟨?_, ?_⟩
  · simp only [new_next, set_next, dN, ids_self, ids_succ, List.nil_append, List.append_nil]
    simp [clashesB, clashInB, clashB]
    refine ⟨fun _ => by omega, by kernel_rfl, fun _ => by omega⟩
  refine zv ?_
  rw [hw1]
  have hrow2 : (d ++ [nms[i.toNat]'(by omega)]).map nameRow = d.map nameRow ++ [[.str (nms[i.toNat]'(by omega))]] := by rw [List.map_append]; rfl
  rw [← hrow2]
  refine hk s.next _ ⟨⟨zh, ?_, .inr rfl, by omega, by simp [new_next, set_next]⟩, zh, hx0, by omega, by simp only [new_next, set_next]; omega⟩
  rw [hrow2, List.length_append]
  exact zh
theorem L86.box {e a e' a' : Int} {d : List ByteArray} {b eo : Nat} {s : St} (h : L86 N e a d b eo s) : L86 N e' a' d b eo (s.set 0 (.box (ck N e' a'))) :=
  have h0 := h.n0
  ⟨St.set_self, (St.set_ne2 h0).trans h.hb, h.ho, h.n0, h.lt⟩
theorem L86x.box {e a e' a' : Int} {d : List ByteArray} {b eo bx : Nat} {row : List PV} {s : St} (h : L86x N e a d b eo bx row s) : L86x N e' a' d b eo bx row (s.set 0 (.box (ck N e' a'))) :=
  have h0 := h.x0
  ⟨h.i.box, (St.set_ne2 h0).trans h.hx, h.x0, h.xb, h.xlt⟩
end
end Go.Vi
namespace Go.Vi
open Go.Proofs
theorem Item.r0 (x : Item) : x.row[0]? = some (.lst (x.names.map nameRow)) := by rw [Item.row_eq]; rfl
theorem Item.r10 (x : Item) : x.row[10]? = some (.lst (x.states.map State.row)) := by
  rw [Item.row_eq]; simp [x.e.row_len]
theorem Item.cut (x : Item) : cutN 9 x.row 1 = some (.agg x.e.row) := by
  have := x.e.row_len
  simp only [cutN, x.row_len]
  rw [if_pos (by omega), Item.row_eq]
  simp [this]
theorem Item.scal (x : Item) : x.row.all PV.scalar = true := by
  rw [Item.row_eq, Exp.row_eq]; rfl
attribute [local irreducible] qAsg qPick qBox qBuild qBsl qLoad1 qLoadN qStore qNil qBin qUn qConv qSlS qSlL qFA qF1 qFN qIA qIS qEx qLenS qLenL qApp pQ pQL pGL pCall pCallL condP optP pEnd OpS Int.instDecidableEq Int.decEq instBEqOfDecidableEq
attribute [local irreducible] c86j4 c86j36 c86j71 c86j117 c86j145 c86j213 c86j202
section
variable {N : List Node} {S M : List ByteArray} {nd : Int}
end
end Go.Vi
namespace Go.Vi
open Go.Proofs
structure L108 (N : List Node) (e a : Int) (f : List ByteArray) (b eo bx : Nat) (row : List PV) (bs : Nat) (srow : List PV) (s : St) : Prop where
  i : L86x N e a f b eo bx row s
  hs : s.heap bs = some (.box srow)
  s0 : bs ≠ 0
  sb : bs ≠ b
  sx : bs ≠ bx
  slt : bs < s.next
section
variable {N : List Node} {e a e' a' : Int} {f : List ByteArray} {b eo bx : Nat} {row : List PV} {bs : Nat} {srow : List PV} {s : St}
theorem L86.new (h : L86 N e a f b eo s) (h0 : 0 < s.next) (o : Obj) : L86 N e a f b eo (s.new o) :=
  have hlt := h.lt
  ⟨(St.new_ne2 rfl (by omega)).trans h.h0, (St.new_ne2 rfl (by omega)).trans h.hb, h.ho, h.n0, by rw [new_next]; omega⟩
theorem L86x.new (h : L86x N e a f b eo bx row s) (o : Obj) : L86x N e a f b eo bx row (s.new o) :=
  have hlt := h.xlt
  ⟨h.i.new (by omega) o, (St.new_ne2 rfl (by omega)).trans h.hx, h.x0, h.xb, by rw [new_next]; omega⟩
theorem L108.new (h : L108 N e a f b eo bx row bs srow s) (o : Obj) : L108 N e a f b eo bx row bs srow (s.new o) :=
  have hlt := h.slt
  ⟨h.i.new o, (St.new_ne2 rfl (by omega)).trans h.hs, h.s0, h.sb, h.sx, by rw [new_next]; omega⟩
theorem L108.box (h : L108 N e a f b eo bx row bs srow s) : L108 N e' a' f b eo bx row bs srow (s.set 0 (.box (ck N e' a'))) :=
  have h0 := h.s0
  ⟨h.i.box, (St.set_ne2 h0).trans h.hs, h.s0, h.sb, h.sx, h.slt⟩
end
attribute [local irreducible] qAsg qPick qBox qBuild qBsl qLoad1 qLoadN qStore qNil qBin qUn qConv qSlS qSlL qFA qF1 qFN qIA qIS qEx qLenS qLenL qApp pQ pQL pGL pCall pCallL condP optP pEnd OpS Int.instDecidableEq Int.decEq instBEqOfDecidableEq
section
variable {N : List Node} {S M : List ByteArray} {nd : Int} {Q : PV → List (List PV) → Prop} {v2 v3 : PV}
end
end Go.Vi
namespace Go.Vi
open Go.Proofs
theorem State.scal (x : State) : x.row.all PV.scalar = true := by rw [State.row_eq]; rfl
attribute [local irreducible] qAsg qPick qBox qBuild qBsl qLoad1 qLoadN qStore qNil qBin qUn qConv qSlS qSlL qFA qF1 qFN qIA qIS qEx qLenS qLenL qApp pQ pQL pGL pCall pCallL condP optP pEnd OpS Int.instDecidableEq Int.decEq instBEqOfDecidableEq
section
variable {N : List Node} {S M T : List ByteArray} {nd : Int} {Q : PV → List (List PV) → Prop} {v3 v4 v6 : PV}
end
end Go.Vi
namespace Go.Vi
open Go.Proofs
theorem edge_at {l : List Edge} {i : Int} (h0 : 0 ≤ i) (h : i < l.length) : (l.map Edge.row)[i.toNat]? = some ((l[i.toNat]'(by omega)).row) := by
  rw [List.getElem?_map, List.getElem?_eq_getElem (by omega)]; rfl
def ClkOk (S : List ByteArray) (v : Var) : Prop := ∀ c ∈ v.clock, has S c.name = true
attribute [local irreducible] qAsg qPick qBox qBuild qBsl qLoad1 qLoadN qStore qNil qBin qUn qConv qSlS qSlL qFA qF1 qFN qIA qIS qEx qLenS qLenL qApp pQ pQL pGL pCall pCallL condP optP pEnd OpS Int.instDecidableEq Int.decEq instBEqOfDecidableEq
section
variable {N : List Node} {S : List ByteArray}
end
end Go.Vi
namespace Go.Vi
open Go.Proofs
mutual
inductive NCI : List ByteArray → Item → Prop
  | mk (S : List ByteArray) (names : List ByteArray) (e : Exp) (states : List State) (at' : Int) : (∀ s ∈ states, NCS S s) → NCI S (.mk names e states at')
inductive NCS : List ByteArray → State → Prop
  | mk (S : List ByteArray) (nm : ByteArray) (unl unt : List Trans) (locals : List Var) (items : List Item) (at' : Int) : (∀ v ∈ locals, ClkOk (S ++ locals.map Var.name) v) → (∀ i ∈ items, NCI (S ++ locals.map Var.name) i) → NCS S (.mk nm unl unt locals items at')
end
theorem NCI.of {S : List ByteArray} {x : Item} (h : ∀ s ∈ x.states, NCS S s) : NCI S x := by
  obtain ⟨_, _, _, _⟩ := x
  exact .mk _ _ _ _ _ h
structure L88 (N : List Node) (e a : Int) (s : St) : Prop where
  h0 : s.heap 0 = some (.box (ck N e a))
  lt : 0 < s.next
theorem State.WF.parts {nm : ByteArray} {unl unt : List Trans} {locals : List Var} {items : List Item} {at' : Int} (h : (State.mk nm unl unt locals items at').WF) : Vars.WF locals ∧ items.length ≤ 100000 ∧ ∀ i ∈ items, i.WF := by
  cases h with | mk _ _ _ _ _ _ h1 h2 h3 h4 h5 => exact ⟨h3, h4, h5⟩
attribute [local irreducible] qAsg qPick qBox qBuild qBsl qLoad1 qLoadN qStore qNil qBin qUn qConv qSlS qSlL qFA qF1 qFN qIA qIS qEx qLenS qLenL qApp pQ pQL pGL pCall pCallL condP optP pEnd OpS Int.instDecidableEq Int.decEq instBEqOfDecidableEq
section
variable {N : List Node} {S : List ByteArray} {Q : PV → List (List PV) → Prop}
end
end Go.Vi
namespace Go.Vi
open Go.Proofs
def Node.all (n : Node) : List Var := n.ins ++ n.outs ++ n.locals
def Node.vars (n : Node) : List ByteArray := n.all.map Var.name
def Node.may (n : Node) : List ByteArray := n.vars.drop n.ins.length
def Dist (t : List ByteArray) : Prop := ∀ (q : Nat) (h : q < t.length), has (t.take q) t[q] = false
structure NNode (N : List Node) (i : Nat) (n : Node) : Prop where
  dist : Dist n.vars
  items : ∀ x ∈ n.items, NI N i n.vars n.may x
  clk : ∀ v ∈ n.locals, ClkOk n.vars v
  clks : ∀ x ∈ n.items, NCI n.vars x
theorem Node.rowc (n : Node) : n.row = [.str n.name, .lst (n.ins.map Var.row), .lst (n.outs.map Var.row), .lst (n.locals.map Var.row), .lst (n.items.map Item.row), .int .i64 n.at'] := by rw [Node.row, Item.rows_map]
theorem Node.row_len (n : Node) : n.row.length = 6 := rfl
theorem vrow_len {l : List Var} : ∀ r ∈ l.map Var.row, r.length = 5 := by
  intro r hr
  obtain ⟨v, _, rfl⟩ := List.mem_map.1 hr
  rfl
structure L54 (N : List Node) (e a : Int) (bn : Nat) (row : List PV) (t : List ByteArray) (bv eo : Nat) (s : St) : Prop where
  hp : s.heap 0 = some (.box [.lst (N.map Node.row)])
  hc : s.heap 1 = some (.box (ck N e a))
  hn : s.heap bn = some (.box row)
  hv : s.heap bv = some (.own (t.map nameRow).length eo)
  ho : t.map nameRow = [] ∨ eo = 1
  n0 : bn ≠ 0 ∧ bn ≠ 1
  v0 : bv ≠ 0 ∧ bv ≠ 1 ∧ bv ≠ bn
  lt : 1 < s.next ∧ bn < s.next ∧ bv < s.next
theorem gb1 {s : St} {cs k : List PV} (h : s.heap 1 = some (.box cs)) (hd : datas cs = some k) : getBoxes s [1] = some [k] := by
  simp only [getBoxes, h, hd]
attribute [local irreducible] qAsg qPick qBox qBuild qBsl qLoad1 qLoadN qStore qNil qBin qUn qConv qSlS qSlL qFA qF1 qFN qIA qIS qEx qLenS qLenL qApp pQ pQL pGL pCall pCallL condP optP pEnd OpS Int.instDecidableEq Int.decEq instBEqOfDecidableEq
attribute [local irreducible] c54j10 c54j72 c54j185 c54j248 c54j151 c54j295
section
variable {P : Program} {b : Bool} {bc : Nat} {s : St} {R : PV → St → Prop} {N : List Node} {e a : Int}
theorem and_E1 (h : s.heap bc = some (.box (ck N e a))) (hk : R (.bool (b && (e == 0))) s) :
    pGL (.bool b) true (fun k => k (.ptr bc 0) s [] []) (fun v159 s160 _ _ => pGL (.bool b) true (fun k => pQL (qNil v159) s160 k) (fun v161 s162 _ _ => pGL (.bool b) true (fun k => pQL (qFA 1 v161) s162 k) (fun v163 s164 _ _ => pGL (.bool b) true (fun k => pQL (qLoad1 v163) s164 k) (fun v165 s166 _ _ => pGL (.bool b) true (fun k => pQL (qBin P .eql 3 v165 (.int .i64 0)) s166 k)
      (fun v167 s168 _ _ => pQ (qPick (.bool b) v167 (.bool false)) s168 R) s166) s164) s162) s160) s := by
  cases b
  · refine zv ?_
    exact hk
  · refine zv ?_
    exact hk
end
section
variable {N : List Node} {Q : PV → List (List PV) → Prop}
theorem end54 {e a : Int} {s : St} (h : s.heap 1 = some (.box (ck N e a))) (hQ : Q (.tuple [.int .i64 a, .int .i64 e]) []) : c54j10 0 0 Q (.ptr 1 0) s := by
  unfold c54j10
  refine zv ?_
  refine ⟨?_, ?_⟩
  · exact zc
  refine zv ?_
  exact fin_i rfl rfl rfl hQ
end
end Go.Vi
namespace Go.Vi
open Go.Proofs
@[reducible] def Node.rowL (n : Node) : List PV := [.str n.name, .lst (n.ins.map Var.row), .lst (n.outs.map Var.row), .lst (n.locals.map Var.row), .lst (n.items.map Item.row), .int .i64 n.at']
section
variable {N : List Node} {e a : Int} {bn : Nat} {row : List PV} {t : List ByteArray} {bv eo : Nat} {s : St}
theorem L54.ck (h : L54 N e a bn row t bv eo s) (e' a' : Int) : L54 N e' a' bn row t bv eo (s.set 1 (.box (ck N e' a'))) :=
  have h1 := h.n0
  have h2 := h.v0
  ⟨(St.set_ne2 (by omega)).trans h.hp, St.set_self, (St.set_ne2 (by omega)).trans h.hn, (St.set_ne2 (by omega)).trans h.hv, h.ho, h.n0, h.v0, h.lt⟩
theorem L54.new (h : L54 N e a bn row t bv eo s) (o : Obj) : L54 N e a bn row t bv eo (s.new o) :=
  have h1 := h.lt
  ⟨(St.new_ne2 rfl (by omega)).trans h.hp, (St.new_ne2 rfl (by omega)).trans h.hc, (St.new_ne2 rfl (by omega)).trans h.hn, (St.new_ne2 rfl (by omega)).trans h.hv, h.ho, h.n0, h.v0, by rw [new_next]; omega⟩
end
attribute [local irreducible] qAsg qPick qBox qBuild qBsl qLoad1 qLoadN qStore qNil qBin qUn qConv qSlS qSlL qFA qF1 qFN qIA qIS qEx qLenS qLenL qApp pQ pQL pGL pCall pCallL condP optP pEnd OpS Int.instDecidableEq Int.decEq instBEqOfDecidableEq
attribute [local irreducible] c54j10 c54j72 c54j185 c54j248 c54j151 c54j295
section
variable {N : List Node} {Q : PV → List (List PV) → Prop} {n : Node} {i : Int}
end
end Go.Vi
namespace Go.Vi
open Go.Proofs
def IsVar (V : List Var) (w : ByteArray) (r : Int) : Prop := (0 ≤ r ∧ ∃ v, V[r.toNat]? = some v ∧ v.name.toList = w.toList) ∨ (r = -1 ∧ ∀ v ∈ V, v.name.toList ≠ w.toList)
theorem IsVar.has {V : List Var} {w : ByteArray} {r : Int} (h : IsVar V w r) (hh : Vi.has (V.map Var.name) w = true) : 0 ≤ r ∧ r < V.length := by
  obtain ⟨x, hx, he⟩ := has_true.1 hh
  obtain ⟨v, hv, rfl⟩ := List.mem_map.1 hx
  rcases h with ⟨h0, v', h1, h2⟩ | ⟨_, h1⟩
  · have := (List.getElem?_eq_some_iff.1 h1).1
    exact ⟨h0, by omega⟩
  · exact absurd he (h1 v hv)
def tyRow (t : Int × Int) : List PV := [.int .i64 t.1, .int .i64 t.2]
theorem ty_len {l : List (Int × Int)} : ∀ r ∈ l.map tyRow, r.length = 2 := by
  intro r hr
  obtain ⟨v, _, rfl⟩ := List.mem_map.1 hr
  rfl
def tyNe (t u : Int × Int) : Bool := !((t.1 == u.1) && ((t.2 == u.2) && true))
theorem ty_neq (a b c d : Int) : binP Tryz.prog .neq 74 (.agg [.int .i64 a, .int .i64 b]) (.agg [.int .i64 c, .int .i64 d]) = some (.bool (!((a == c) && ((b == d) && true)))) := by
  kernel_rfl
theorem o_neqT {t u : Int × Int} {s : St} : OpS (qBin Tryz.prog .neq 74 (.agg (tyRow t)) (.agg (tyRow u))) s (.bool (tyNe t u)) s [] [] := o_bin (ty_neq _ _ _ _)
attribute [local irreducible] qAsg qPick qBox qBuild qBsl qLoad1 qLoadN qStore qNil qBin qUn qConv qSlS qSlL qFA qF1 qFN qIA qIS qEx qLenS qLenL qApp pQ pQL pGL pCall pCallL condP optP pEnd OpS Int.instDecidableEq Int.decEq instBEqOfDecidableEq
theorem find_pc (V : List Var) (hV : V.length ≤ 100000) (w : ByteArray) : ∃ r, PC Tryz.prog 89 [.lst (V.map Var.row), .str w] [] (.int .i64 r) [] ∧ IsVar V w r := by
  have loop : ∀ c : Nat, ∃ k, ∀ (i : Int) (s : St), -1 ≤ i → i < V.length → i + 1 ≤ c → (∀ (j : Nat) (h : j < V.length), i < j → V[j].name.toList ≠ w.toList) → getBoxes s (List.range 0) = some [] →
      c89l8 0 0 (fun r c => c = [] ∧ ∃ r' : Int, r = .int .i64 r' ∧ IsVar V w r') k (.lst (V.map Var.row)) (.str w) (.int .i64 i) s := by
    intro c
    induction c with
    | zero =>
      refine ⟨1, fun i s h0 h1 hc hno hs => ?_⟩
      show c89l8b _ _ _ _ _ _ _ _
      unfold c89l8b
      refine zv ?_
      refine cond_i (fun h => absurd (of_decide_eq_true h) (by omega)) (fun _ => ?_)
      unfold c89j0
      refine fin_i rfl rfl hs ⟨rfl, -1, rfl, .inr ⟨rfl, fun v hv => ?_⟩⟩
      obtain ⟨j, hj, rfl⟩ := List.getElem_of_mem hv
      exact hno j hj (by omega)
    | succ c ih =>
      obtain ⟨k, ih⟩ := ih
      refine ⟨k + 1, fun i s h0 h1 hc hno hs => ?_⟩
      show c89l8b _ _ _ _ _ _ _ _
      unfold c89l8b
      refine zv ?_
      refine cond_i (fun h => ?_) (fun h => ?_)
      · have hi : 0 ≤ i := of_decide_eq_true h
        have hw : IntKind.i64.wrap (i - 1) = i - 1 := wrap64 (by omega) (by omega)
        have hget : V[i.toNat]? = some (V[i.toNat]'(by omega)) := List.getElem?_eq_getElem (by omega)
        refine pQ_r (o_iaL hi (var_rows hi h1) rfl) ?_
        refine zv ?_
        refine cond_i (fun h2 => ?_) (fun h2 => ?_)
        · refine zv ?_
          exact fin_i rfl rfl hs ⟨rfl, i, rfl, .inl ⟨hi, _, hget, by simpa using h2⟩⟩
        · refine zv ?_
          refine ih _ _ (by omega) (by omega) (by omega) (fun j hj hij => ?_) hs
          by_cases hj2 : i < j
          · exact hno j hj hj2
          · have : j = i.toNat := by omega
            subst this
            simpa using h2
      · have := of_decide_eq_false h
        unfold c89j0
        refine fin_i rfl rfl hs ⟨rfl, -1, rfl, .inr ⟨rfl, fun v hv => ?_⟩⟩
        obtain ⟨j, hj, rfl⟩ := List.getElem_of_mem hv
        exact hno j hj (by omega)
  have : PQ Tryz.prog 89 [.lst (V.map Var.row), .str w] [] (fun r c => c = [] ∧ ∃ r' : Int, r = .int .i64 r' ∧ IsVar V w r') := by
    refine c89_pq 0 rfl _ _ ?_
    unfold c89
    refine zv ?_
    obtain ⟨k, hk⟩ := loop V.length
    have hw : IntKind.i64.wrap (((V.map Var.row).length : Int) - 1) = (V.length : Int) - 1 := by rw [List.length_map]; exact wrap64 (by omega) (by omega)
    rw [hw]
    exact ⟨k, hk _ _ (by omega) (by omega) (by omega) (fun j hj h => by omega) rfl⟩
  obtain ⟨r, c, hpc, rfl, r', rfl, h⟩ := this
  exact ⟨r', hpc, h⟩
theorem bool1_pc : PC Tryz.prog 90 [] [] (.agg [.int .i64 1, .int .i64 0]) [] := by
  have : PQ Tryz.prog 90 [] [] (fun r c => c = [] ∧ r = .agg [.int .i64 1, .int .i64 0]) := by
    refine c90_pq 0 rfl ?_
    unfold c90
    refine zv ?_
    exact fin_i (resL1 (o_cellR zo)) rfl rfl ⟨rfl, rfl⟩
  obtain ⟨r, c, hpc, rfl, rfl⟩ := this
  exact hpc
theorem all_pc (n : Node) (X : List Var) (hl : n.all.length + X.length ≤ 100000) : PC Tryz.prog 40 [.agg n.rowL, .lst (X.map Var.row)] [] (.lst ((n.all ++ X).map Var.row)) [] := by
  have hlen : n.all.length = n.ins.length + n.outs.length + n.locals.length := by simp [Node.all]; omega
  have hrow1 : n.ins.map Var.row ++ n.outs.map Var.row ++ n.locals.map Var.row = n.all.map Var.row := by simp [Node.all]
  have : PQ Tryz.prog 40 [.agg n.rowL, .lst (X.map Var.row)] [] (fun r c => c = [] ∧ r = .lst ((n.all ++ X).map Var.row)) := by
    refine c40_pq 0 rfl _ _ ?_
    unfold c40
    refine zv ?_
    refine pQ_r (o_appN rfl (all_len vrow_len) (fits_small (by simp; omega) (by omega)) zn) ?_
    refine zv ?_
    refine pQL_r (o_app rfl (all_len vrow_len) (fits_small (by simp; omega) (by omega)) (all_len vrow_len) zh (.inr rfl)) ?_
    refine zv ?_
    refine pQL_r (o_app rfl (all_len vrow_len) (fits_small (by simp; omega) (by omega)) (by rw [← List.map_append]; exact all_len vrow_len) (by rw [List.length_append]; exact zh) (.inr rfl)) ?_
    rw [hrow1]
    refine zv ?_
    refine ⟨?_, ?_⟩
    · exact zc
    refine zv ?_
    refine pQ_r (o_app rfl (all_len vrow_len) (fits_small (by simp; omega) (by omega)) (all_len vrow_len) (by rw [← hrow1]; simp only [List.length_append]; exact zh) (.inr rfl)) ?_
    refine zv ?_
    rw [← List.map_append]
    refine fin_i rfl rfl rfl ⟨rfl, rfl⟩
  obtain ⟨r, c, hpc, rfl, rfl⟩ := this
  exact hpc
end Go.Vi
namespace Go.Vi
open Go.Proofs
def TyOk (t : Int × Int) : Prop := 0 ≤ t.1 ∧ t.1 ≤ 9
def Var.ty (v : Var) : Int × Int := (v.tk, v.tl)
structure L113 (N : List Node) (e a : Int) (xr : List PV) (n : Node) (s : St) : Prop where
  h0 : s.heap 0 = some (.box (ck N e a))
  h1 : s.heap 1 = some (.box xr)
  h3 : s.heap 3 = some (.box n.rowL)
  lt : 4 < s.next
attribute [local irreducible] qAsg qPick qBox qBuild qBsl qLoad1 qLoadN qStore qNil qBin qUn qConv qSlS qSlL qFA qF1 qFN qIA qIS qEx qLenS qLenL qApp pQ pQL pGL pCall pCallL condP optP pEnd OpS Int.instDecidableEq Int.decEq instBEqOfDecidableEq
section
variable {N : List Node} {e a : Int} {f s1 tk tl i m at' : Int} {nm : ByteArray} {kr : List (List PV)} {n : Node} {Q : PV → List (List PV) → Prop} {e0 : Int}
end
end Go.Vi
namespace Go.Vi
open Go.Proofs
theorem Exp.scal (x : Exp) : x.row.all PV.scalar = true := by rw [Exp.row_eq]; rfl
theorem IsNode.all {N : List Node} {w : ByteArray} {nd r r' : Int} (h : IsNode N w nd r) (h0 : 0 ≤ r) (h' : IsNode N w N.length r') : 0 ≤ r' ∧ r' < N.length := by
  rcases h with ⟨_, _, n, h1, h2⟩ | ⟨h1, _⟩
  · rcases h' with ⟨h3, h4, _⟩ | ⟨_, h4⟩
    · exact ⟨h3, h4⟩
    · have := (List.getElem?_eq_some_iff.1 h1).1
      exact absurd h2 (h4 _ _ h1 (by omega))
  · omega
attribute [local irreducible] qAsg qPick qBox qBuild qBsl qLoad1 qLoadN qStore qNil qBin qUn qConv qSlS qSlL qFA qF1 qFN qIA qIS qEx qLenS qLenL qApp pQ pQL pGL pCall pCallL condP optP pEnd OpS Int.instDecidableEq Int.decEq instBEqOfDecidableEq
section
variable {N : List Node} {nd : Int}
end
end Go.Vi
namespace Go.Vi
open Go.Proofs
structure L92 (N : List Node) (e a : Int) (xr : List PV) (bt : Nat) (t : Int × Int) (s : St) : Prop where
  h0 : s.heap 0 = some (.box (ck N e a))
  h1 : s.heap 1 = some (.box xr)
  ht : s.heap bt = some (.box (tyRow t))
  lt : 1 < bt ∧ bt < s.next
theorem L92.ty {N : List Node} {e a : Int} {xr : List PV} {bt : Nat} {t : Int × Int} {s : St} (h : L92 N e a xr bt t s) (u : Int × Int) : L92 N e a xr bt u (s.set bt (.box (tyRow u))) :=
  have h1 := h.lt
  ⟨(St.set_ne2 (by omega)).trans h.h0, (St.set_ne2 (by omega)).trans h.h1, St.set_self, h.lt⟩
attribute [local irreducible] qAsg qPick qBox qBuild qBsl qLoad1 qLoadN qStore qNil qBin qUn qConv qSlS qSlL qFA qF1 qFN qIA qIS qEx qLenS qLenL qApp pQ pQL pGL pCall pCallL condP optP pEnd OpS Int.instDecidableEq Int.decEq instBEqOfDecidableEq
attribute [local irreducible] c92j28 c92j126 c92j205 c92j280 c92j361 c92j398 c92j447 c92j528 c92j552 c92j619 c92j650 c92j714 c92j773 c92j588 c92j351 c92j6
section
variable {N : List Node} {e a : Int} {at' : Int} {Q : PV → List (List PV) → Prop} {xr : List PV} {bt bk : Nat} {t : Int × Int} {s : St} {K : List (Int × Int)} {bad : Int}
end
end Go.Vi
namespace Go.Vi
open Go.Proofs
@[reducible] def xrow (f s1 : Int) (nm : ByteArray) (tk tl i m : Int) (kids : List Exp) (at' : Int) : List PV := [.int .i64 f, .int .i64 s1, .str nm, .int .i64 tk, .int .i64 tl, .int .i64 i, .int .i64 m, .lst (Exp.rows kids), .int .i64 at']
attribute [local irreducible] qAsg qPick qBox qBuild qBsl qLoad1 qLoadN qStore qNil qBin qUn qConv qSlS qSlL qFA qF1 qFN qIA qIS qEx qLenS qLenL qApp pQ pQL pGL pCall pCallL condP optP pEnd OpS Int.instDecidableEq Int.decEq instBEqOfDecidableEq
attribute [local irreducible] c92j28 c92j126 c92j205 c92j280 c92j361 c92j398 c92j447 c92j528 c92j552 c92j619 c92j650 c92j714 c92j773 c92j588 c92j351 c92j6
section
variable {N : List Node} {nd : Int} {V : List Var} {e a : Int} {f s1 tk tl i m at' : Int} {nm : ByteArray} {kids : List Exp} {e0 : Int} {Q : PV → List (List PV) → Prop} {bt bk : Nat} {t : Int × Int} {s : St} {K : List (Int × Int)}
end
end Go.Vi
namespace Go.Vi
open Go.Proofs
def OneC (N : List Node) (V : List Var) (x : Exp) : Prop := ∀ e a, CF N 110 [.agg x.row, .lst (V.map Var.row)] e a fun r e' a' => ∃ t, r = .agg (tyRow t) ∧ TyOk t ∧ (e' = 0 → e = 0)
theorem Exp.r8 (x : Exp) : ∃ at', x.row[8]? = some (.int .i64 at') := by rw [Exp.row_eq]; exact ⟨_, rfl⟩
structure L92k (N : List Node) (e a : Int) (xr : List PV) (T : List (Int × Int)) (eo : Nat) (s : St) : Prop where
  h0 : s.heap 0 = some (.box (ck N e a))
  h1 : s.heap 1 = some (.box xr)
  h3 : s.heap 3 = some (.own (T.map tyRow).length eo)
  ho : T.map tyRow = [] ∨ eo = 2
  lt : 3 < s.next
attribute [local irreducible] qAsg qPick qBox qBuild qBsl qLoad1 qLoadN qStore qNil qBin qUn qConv qSlS qSlL qFA qF1 qFN qIA qIS qEx qLenS qLenL qApp pQ pQL pGL pCall pCallL condP optP pEnd OpS Int.instDecidableEq Int.decEq instBEqOfDecidableEq
attribute [local irreducible] c110j10 c92j6
section
variable {N : List Node} {nd : Int} {V : List Var} {e a : Int} {Q : PV → List (List PV) → Prop}
end
end Go.Vi
namespace Go.Vi
open Go.Proofs
structure L57 (N : List Node) (e a : Int) (bx : Nat) (row : List PV) (s : St) : Prop where
  h0 : s.heap 0 = some (.box (ck N e a))
  hx : s.heap bx = some (.box row)
  x0 : bx ≠ 0
  lt : bx < s.next
theorem L57.ck {N : List Node} {e a : Int} {bx : Nat} {row : List PV} {s : St} (h : L57 N e a bx row s) (e' a' : Int) : L57 N e' a' bx row (s.set 0 (.box (ck N e' a'))) :=
  ⟨St.set_self, (St.set_ne2 h.x0).trans h.hx, h.x0, h.lt⟩
def TItemsC (N : List Node) (V : List Var) (l : List Item) : Prop := ∀ e a, CF N 57 [.lst (l.map Item.row), .lst (V.map Var.row)] e a fun r _ _ => r = .tuple []
attribute [local irreducible] qAsg qPick qBox qBuild qBsl qLoad1 qLoadN qStore qNil qBin qUn qConv qSlS qSlL qFA qF1 qFN qIA qIS qEx qLenS qLenL qApp pQ pQL pGL pCall pCallL condP optP pEnd OpS Int.instDecidableEq Int.decEq instBEqOfDecidableEq
attribute [local irreducible] c57j24 c57j104 c57j65 c57j42
section
variable {N : List Node} {V : List Var} {Q : PV → List (List PV) → Prop} {l : List Item} {x : Item} {i : Int}
end
end Go.Vi
namespace Go.Vi
open Go.Proofs
structure TState (N : List Node) (V : List Var) (st : State) : Prop where
  loc : st.locals.length ≤ 20000
  unll : st.unl.length ≤ 100000
  untl : st.unt.length ≤ 100000
  clk : ∀ v ∈ st.locals, ClkOk ((V ++ st.locals).map Var.name) v
  cl : ∀ v ∈ st.locals, v.clock.length ≤ 17
  unl : ∀ t ∈ st.unl, OneC N V t.cond
  unt : ∀ t ∈ st.unt, OneC N (V ++ st.locals) t.cond
  items : TItemsC N (V ++ st.locals) st.items
attribute [local irreducible] qAsg qPick qBox qBuild qBsl qLoad1 qLoadN qStore qNil qBin qUn qConv qSlS qSlL qFA qF1 qFN qIA qIS qEx qLenS qLenL qApp pQ pQL pGL pCall pCallL condP optP pEnd OpS Int.instDecidableEq Int.decEq instBEqOfDecidableEq
attribute [local irreducible] c57j24 c57j104 c57j65 c57j42
section
variable {N : List Node} {V : List Var} {Q : PV → List (List PV) → Prop} {l : List Item} {x : Item} {i : Int}
end
end Go.Vi
namespace Go.Vi
open Go.Proofs
theorem NCI.inv {S : List ByteArray} {x : Item} (h : NCI S x) : ∀ s ∈ x.states, NCS S s := by
  cases h with | mk _ _ _ _ _ h1 => exact h1
attribute [local irreducible] qAsg qPick qBox qBuild qBsl qLoad1 qLoadN qStore qNil qBin qUn qConv qSlS qSlL qFA qF1 qFN qIA qIS qEx qLenS qLenL qApp pQ pQL pGL pCall pCallL condP optP pEnd OpS Int.instDecidableEq Int.decEq instBEqOfDecidableEq
attribute [local irreducible] c35j10
section
variable {N : List Node} {nd : Int} {Q : PV → List (List PV) → Prop}
theorem end35 {e a : Int} {s : St} (h : s.heap 1 = some (.box (ck N e a))) (hQ : Q (.tuple [.int .i64 a, .int .i64 e]) []) : c35j10 0 0 Q (.ptr 1 0) s := by
  unfold c35j10
  refine zv ?_
  refine ⟨?_, ?_⟩
  · exact zc
  refine zv ?_
  exact fin_i rfl rfl rfl hQ
end
end Go.Vi
