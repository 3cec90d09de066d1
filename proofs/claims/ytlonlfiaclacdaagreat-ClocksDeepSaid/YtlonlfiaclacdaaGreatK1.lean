/- Part of the proof of ClocksDeep (own work). -/
import Derived.Test.YtlonlfiaclacdaaGreatD1
import Derived.Test.YtlonlfiaclacdaaGreatE1
import Derived.Test.YtlonlfiaclacdaaGreatF1
set_option linter.all false
set_option maxRecDepth 100000
namespace Go.Vi
open Go.Proofs
def Edge.is (a b : Edge) : Bool := a.name.toList == b.name.toList && a.on == b.on
def sameE : List Edge → List Edge → Bool
  | [], [] => true
  | a :: l, b :: r => a.is b && sameE l r
  | _, _ => false
theorem sameE_len : ∀ {a b : List Edge}, a.length ≠ b.length → sameE a b = false
  | [], [], h => absurd rfl h
  | [], _ :: _, _ => rfl
  | _ :: _, [], _ => rfl
  | a :: l, b :: r, h => by
    have : sameE l r = false := sameE_len (by simpa using h)
    simp [sameE, this]
theorem sameE_self : ∀ (a : List Edge), sameE a a = true
  | [] => rfl
  | a :: l => by simp [sameE, Edge.is, sameE_self l]
abbrev eRows (l : List Edge) : List (List PV) := l.map Edge.row
theorem eRows_all {l : List Edge} : (eRows l).all (fun r => Nat.beq r.length 2) = true := by simp [eRows, Edge.row, List.all_map]
theorem edge_neq (a b : Edge) : binP Tryz.prog .neq 80 (.agg a.row) (.agg b.row) = some (.bool !(a.is b)) := by
  obtain ⟨n, o⟩ := a
  obtain ⟨n', o'⟩ := b
  have : binP Tryz.prog .neq 80 (.agg [.str n, .bool o]) (.agg [.str n', .bool o']) = some (.bool !(n.toList == n'.toList && (o == o' && true))) := by kernel_rfl
  rw [Bool.and_true] at this
  exact this
theorem o_cap {s : St} {size : Nat} {rows : List (List PV)} (h : rows.all (fun r => Nat.beq r.length size) = true) : OpS (qCap size (.lst rows) [.int .i64 rows.length, .int .i64 rows.length]) s (.cap rows) s [] [] := by
  refine ⟨.val (.cap rows), ?_, rfl, rfl, rfl⟩
  simp only [qCap, natOf, PV.rows]
  rw [if_pos (by omega)]
  simp only [Int.toNat_natCast, h, and_self, if_true]
theorem o_appC {s : St} {size bytes n : Nat} {x : PV} {rows xs : List (List PV)} (hx : x.rows = some xs) (ha : xs.all (fun r => Nat.beq r.length size) = true) (hf : Go.Ab.sizeFits (rows.length + xs.length) bytes = true) (hr : rows.all (fun r => Nat.beq r.length size) = true) (h0 : 0 < xs.length)
    (h : s.next = n) : OpS (qApp size bytes (.cap rows) x) s (.acc n (rows ++ xs)) (s.new (.own (rows.length + xs.length) size)) [] [] := by
  subst h
  refine ⟨.own (rows.length + xs.length) size fun b => .acc b (rows ++ xs), ?_, rfl, rfl, rfl⟩
  cases xs with
  | nil => simp at h0
  | cons x xs => simp only [qApp, hx, ha, hf, hr]; rfl
theorem o_appC0 {s : St} {size bytes : Nat} {x : PV} {rows : List (List PV)} (hx : x.rows = some []) (hf : Go.Ab.sizeFits rows.length bytes = true) (hr : rows.all (fun r => Nat.beq r.length size) = true) :
    OpS (qApp size bytes (.cap rows) x) s (.cap rows) s [] [] := by
  refine ⟨.val (.cap rows), ?_, rfl, rfl, rfl⟩
  simp only [qApp, hx, List.all_nil, List.length_nil, Nat.add_zero, hf, hr]; rfl
theorem o_asgC {s : St} {rows : List (List PV)} : OpS (qAsg (.cap rows)) s (.cap rows) s [] [] := o_val
theorem o_bsl0 {s : St} {size : Nat} : OpS (qBsl size []) s (.cap []) s [] [] := ⟨.val (.cap []), rfl, rfl, rfl, rfl⟩
attribute [local irreducible] qAsg qPick qBox qBuild qBsl qLoad1 qLoadN qStore qNil qBin qUn qConv qSlS qSlL qFA qF1 qFN qIA qIS qEx qLenS qLenL qApp pQ pQL pGL pCall pCallL condP optP pEnd OpS Int.instDecidableEq Int.decEq instBEqOfDecidableEq
theorem same_pc (a b : List Edge) (ha : a.length ≤ 1000000000) (hb : b.length ≤ 1000000000) : PC Tryz.prog 58 [.lst (eRows a), .lst (eRows b)] [] (.bool (sameE a b)) [] := by
  have : PQ Tryz.prog 58 [.lst (eRows a), .lst (eRows b)] [] (fun r c => c = [] ∧ r = .bool (sameE a b)) := by
    have hQ : ∀ r c, c = [] ∧ r = .bool (sameE a b) → (fun (r : PV) (c : List (List PV)) => c = [] ∧ r = .bool (sameE a b)) r c := fun _ _ h => h
    generalize (fun (r : PV) (c : List (List PV)) => c = [] ∧ r = .bool (sameE a b)) = Q at hQ
    have loop : a.length = b.length → ∀ (c i : Nat), a.length - i = c → sameE (a.drop i) (b.drop i) = sameE a b → ∃ k, ∀ s, getBoxes s (List.range 0) = some [] →
        c58l15 0 0 Q k (.lst (eRows a)) (.lst (eRows b)) bF (I a.length) (I i) s := by
      intro hl c
      induction c with
      | zero =>
        intro i hc he
        refine ⟨1, fun s hs => ?_⟩
        show c58l15b _ _ _ _ _ _ _ _ _ _
        unfold c58l15b
        refine zv ?_
        refine cond_i (fun h => absurd (of_decide_eq_true h) (by omega)) (fun _ => ?_)
        unfold c58j6
        refine zv ?_
        refine fin_i rfl rfl hs (hQ _ _ ⟨rfl, ?_⟩)
        rw [← he, List.drop_of_length_le (by omega), List.drop_of_length_le (by omega)]; rfl
      | succ c ih =>
        intro i hc he
        have hia : i < a.length := by omega
        have hib : i < b.length := by omega
        rw [List.drop_eq_getElem_cons hia, List.drop_eq_getElem_cons hib] at he
        simp only [sameE] at he
        have ra : (eRows a)[(i : Int).toNat]? = some (a[i]).row := by simp [eRows, hia]
        have rb : (eRows b)[(i : Int).toNat]? = some (b[i]).row := by simp [eRows, hib]
        have hw : IntKind.i64.wrap ((i : Int) + 1) = ((i + 1 : Nat) : Int) := by rw [wrap64 (by omega) (by omega)]; omega
        obtain ⟨k, hk⟩ : ∃ k, ∀ s, getBoxes s (List.range 0) = some [] → a[i].is b[i] = true → c58l15 0 0 Q k (.lst (eRows a)) (.lst (eRows b)) bF (I a.length) (I (i + 1 : Nat)) s := by
          cases hx : a[i].is b[i] with
          | false => exact ⟨0, fun _ _ h => by cases h⟩
          | true =>
            rw [hx, Bool.true_and] at he
            obtain ⟨k, hk⟩ := ih (i + 1) (by omega) he
            exact ⟨k, fun s hs _ => hk s hs⟩
        refine ⟨k + 1, fun s hs => ?_⟩
        show c58l15b _ _ _ _ _ _ _ _ _ _
        unfold c58l15b
        refine zv ?_
        refine cond_i (fun _ => ?_) (fun h => absurd (of_decide_eq_false h) (by omega))
        refine zv ?_
        refine pQL_r (o_iaL (by omega) ra rfl) ?_
        refine zv ?_
        refine pQL_r (o_iaL (by omega) rb rfl) ?_
        refine zv ?_
        refine pQL_r (o_bin (edge_neq _ _)) ?_
        refine ⟨zc, ?_⟩
        refine cond_i (fun h => ?_) (fun h => ?_)
        · unfold c58j6
          refine zv ?_
          refine fin_i rfl rfl hs (hQ _ _ ⟨rfl, ?_⟩)
          have hx : a[i].is b[i] = false := by simpa using h
          rw [hx] at he
          rw [← he]; rfl
        · refine zv ?_
          rw [hw]
          exact hk s hs (by simpa using h)
    refine c58_pq 0 rfl _ _ ?_
    unfold c58
    refine pQ_r (o_lenL rfl) ?_
    refine pQ_r (o_lenL rfl) ?_
    rw [List.length_map, List.length_map]
    refine zv ?_
    refine cond_i (fun h => ?_) (fun h => ?_)
    · refine fin_i rfl rfl rfl (hQ _ _ ⟨rfl, ?_⟩)
      rw [sameE_len (by intro hh; rw [hh] at h; simp at h)]
    · have hl : a.length = b.length := by have : (a.length : Int) = b.length := by simpa using h
                                          omega
      refine pQ_r (o_lenL rfl) ?_
      rw [List.length_map]
      obtain ⟨k, hk⟩ := loop hl a.length 0 (by omega) rfl
      exact ⟨k, hk _ rfl⟩
  obtain ⟨r, c, hpc, rfl, rfl⟩ := this
  exact hpc
abbrev Ck := Option (List Edge)
def Ck.any : Ck → Bool
  | none => true
  | some _ => false
def Ck.l : Ck → List Edge
  | none => []
  | some l => l
def Ck.row (c : Ck) : List PV := [.bool c.any, .lst (eRows c.l)]
def Ck.goes (c : Ck) (l : List Edge) : Bool := c.any || sameE c.l l
theorem goes_pc (c : Ck) (l : List Edge) (ha : c.l.length ≤ 1000000000) (hb : l.length ≤ 1000000000) : PC Tryz.prog 99 [.agg c.row, .lst (eRows l)] [] (.bool (c.goes l)) [] := by
  have : PQ Tryz.prog 99 [.agg c.row, .lst (eRows l)] [] (fun r c' => c' = [] ∧ r = .bool (c.goes l)) := by
    refine c99_pq 0 rfl _ _ ?_
    unfold c99
    cases c with
    | none =>
      rw [show Ck.row none = [.bool true, .lst []] from rfl]
      refine pQ_r (o_boxA rfl rfl) ?_
      refine zv ?_
      exact fin_i rfl rfl rfl ⟨rfl, rfl⟩
    | some c =>
      rw [show Ck.row (some c) = [.bool false, .lst (eRows c)] from rfl]
      refine pQ_r (o_boxA rfl rfl) ?_
      refine zv ?_
      refine pCallL_i (same_pc c l ha hb) rfl rfl rfl rfl ?_
      refine zv ?_
      exact fin_i rfl rfl rfl ⟨rfl, rfl⟩
  obtain ⟨r, c, hpc, rfl, rfl⟩ := this
  exact hpc
theorem on_pc (l : List Edge) (n : ByteArray) (on : Bool) (hl : l.length ≤ 1000000000) : PC Tryz.prog 158 [.lst (eRows l), .str n, .bool on] [] (.lst (eRows (l ++ [⟨n, on⟩]))) [] := by
  have : PQ Tryz.prog 158 [.lst (eRows l), .str n, .bool on] [] (fun r c => c = [] ∧ r = .lst (eRows (l ++ [⟨n, on⟩]))) := by
    refine c158_pq 0 rfl _ _ _ ?_
    unfold c158
    refine zv ?_
    refine pQ_r (o_cap eRows_all) ?_
    refine zv ?_
    refine pQ_r (o_appC (xs := [[.str n, .bool on]]) rfl rfl ?_ eRows_all (by simp) zn) ?_
    · rw [List.length_map]
      exact Bool.and_eq_true_iff.2 ⟨Nat.ble_eq_true_of_le (by simp; omega), Nat.ble_eq_true_of_le (by simp; omega)⟩
    refine zv ?_
    refine fin_i rfl rfl rfl ⟨rfl, ?_⟩
    simp only [eRows, List.map_append]; rfl
  obtain ⟨r, c, hpc, rfl, rfl⟩ := this
  exact hpc
theorem clone_pc (l : List Edge) (hl : l.length ≤ 1000000000) : PC Tryz.prog 36 [.lst (eRows l)] [] (.lst (eRows l)) [] := by
  cases l with
  | cons a l =>
    have : PQ Tryz.prog 36 [.lst (eRows (a :: l))] [] (fun r c => c = [] ∧ r = .lst (eRows (a :: l))) := by
      refine c36_pq 0 rfl _ ?_
      unfold c36
      refine zv ?_
      refine pQ_r o_bsl0 ?_
      refine pQ_r (o_appC (xs := eRows (a :: l)) rfl eRows_all ?_ rfl (by simp) zn) ?_
      · exact Bool.and_eq_true_iff.2 ⟨Nat.ble_eq_true_of_le (by simp [eRows] at hl ⊢; omega), Nat.ble_eq_true_of_le (by simp [eRows] at hl ⊢; omega)⟩
      refine zv ?_
      exact fin_i rfl rfl rfl ⟨rfl, rfl⟩
    obtain ⟨r, c, hpc, rfl, rfl⟩ := this
    exact hpc
  | nil =>
    have h1 : PC Tryz.prog 36 [.nil] [] (.lst []) [] := by
      have : PQ Tryz.prog 36 [.nil] [] (fun r c => c = [] ∧ r = .lst []) := by
        refine c36_pq 0 rfl _ ?_
        unfold c36
        refine zv ?_
        exact fin_i rfl rfl rfl ⟨rfl, rfl⟩
      obtain ⟨r, c, hpc, rfl, rfl⟩ := this
      exact hpc
    have h2 : PC Tryz.prog 36 [.emp] [] (.lst []) [] := by
      have : PQ Tryz.prog 36 [.emp] [] (fun r c => c = [] ∧ r = .lst []) := by
        refine c36_pq 0 rfl _ ?_
        unfold c36
        refine zv ?_
        refine pQ_r o_bsl0 ?_
        refine pQ_r (o_appC0 rfl rfl rfl) ?_
        refine pQ_r o_asgC ?_
        exact fin_i rfl rfl rfl ⟨rfl, rfl⟩
      obtain ⟨r, c, hpc, rfl, rfl⟩ := this
      exact hpc
    intro K w Bs cargs hK hC hnd hA
    have hA' := hA
    cases hA with
    | cons _ v _ l' hv hl' =>
      cases hl'
      cases hv with
      | data _ _ hd =>
        cases hd with
        | none a c ha =>
          cases a with
          | none =>
            rw [ha rfl]
            exact h1 K w Bs _ hK hC hnd (.cons _ _ _ _ (.data _ _ .nil) .nil)
          | some a => exact h2 K w Bs _ hK hC hnd (.cons _ _ _ _ (.data _ _ (.emp a c)) .nil)
        | lst _ _ _ _ _ _ _ h0 => simp at h0
end Go.Vi
namespace Go.Vi
open Go.Proofs
abbrev EM := List (ByteArray × List Edge)
def ms (M : EM) : MS := M.map fun p => (.s p.1, eRows p.2)
def efind (n : ByteArray) : EM → Option (List Edge)
  | [] => none
  | (k, l) :: r => if n = k then some l else efind n r
def el (M : EM) (n : ByteArray) : List Edge := (efind n M).getD []
def eput (n : ByteArray) (l : List Edge) : EM → EM
  | [] => [(n, l)]
  | (k, v) :: r => if n = k then (n, l) :: r else (k, v) :: eput n l r
theorem sfind_ms {n : ByteArray} : ∀ {M : EM}, sfind (.s n) (ms M) = (efind n M).map eRows
  | [] => rfl
  | (k, l) :: r => by
    show (bif MKey.is (.s n) (.s k) then some (eRows l) else sfind (.s n) (ms r)) = (if n = k then some l else efind n r).map eRows
    by_cases h : n = k
    · subst h; rw [is_self, if_pos rfl]; rfl
    · rw [is_ne h, if_neg h]; exact sfind_ms
theorem sput_ms {n : ByteArray} {l : List Edge} : ∀ {M : EM}, sput (.s n) (eRows l) (ms M) = ms (eput n l M)
  | [] => rfl
  | (k, v) :: r => by
    show (bif MKey.is (.s n) (.s k) then (MKey.s n, eRows l) :: ms r else (MKey.s k, eRows v) :: sput (.s n) (eRows l) (ms r)) = ms (if n = k then (n, l) :: r else (k, v) :: eput n l r)
    by_cases h : n = k
    · subst h; rw [is_self, if_pos rfl]; rfl
    · rw [is_ne h, if_neg h, sput_ms]; rfl
theorem efind_put {n n' : ByteArray} {l : List Edge} : ∀ {M : EM}, efind n' (eput n l M) = if n' = n then some l else efind n' M
  | [] => rfl
  | (k, v) :: r => by
    unfold eput
    by_cases h : n = k
    · subst h
      rw [if_pos rfl]
      unfold efind
      by_cases h' : n' = n
      · rw [if_pos h', if_pos h']
      · rw [if_neg h', if_neg h', if_neg h']
    · rw [if_neg h]
      unfold efind
      by_cases h' : n' = k
      · subst h'
        rw [if_pos rfl, if_neg (fun e => h e.symm), if_pos rfl]
      · rw [if_neg h', efind_put]
        by_cases h2 : n' = n
        · rw [if_pos h2, if_pos h2]
        · rw [if_neg h2, if_neg h2, if_neg h']
theorem el_put {n n' : ByteArray} {l : List Edge} {M : EM} : el (eput n l M) n' = if n' = n then l else el M n' := by
  unfold el
  rw [efind_put]
  split <;> rfl
theorem ms_like {n : ByteArray} {M : EM} : (ms M).all (fun p => (MKey.s n).like p.1) = true := by simp [ms, List.all_map, MKey.like]
theorem mapT67 (n : ByteArray) : mapT Tryz.prog 67 (.s n) = false := by kernel_rfl
theorem mapS67 (n : ByteArray) : mapS Tryz.prog 67 (.s n) = true := by kernel_rfl
theorem o_lookS {s : St} {b : Nat} {M : EM} {n : ByteArray} (hb : (s.heap b).bind Obj.asMS = some (ms M)) : OpS (lookupQ Tryz.prog 67 (.map b) (.str n) false) s (.lst (eRows (el M n))) s [b] [] := by
  refine ⟨_, by simp only [lookupQ, keyOf, mapT67, mapS67, cond_true, cond_false]; rfl, ?_, rfl, rfl⟩
  simp only [Req.run, hb, ms_like, cond_true, sfind_ms]
  unfold el
  cases efind n M <;> rfl
theorem o_updS {s : St} {b : Nat} {M : EM} {n : ByteArray} {x : PV} {l : List Edge} (hx : x.data = some (.lst (eRows l))) (hb : (s.heap b).bind Obj.asMS = some (ms M)) :
    OpS (updateQ Tryz.prog 67 (.map b) (.str n) x) s .undef (s.set b (.maps (ms (eput n l M)))) [] [b] := by
  refine ⟨_, by simp only [updateQ, keyOf, mapT67, mapS67, cond_true, cond_false, hx]; rfl, ?_, rfl, rfl⟩
  simp only [Req.run, hb, ms_like, cond_true, sput_ms]
structure CkS (s : St) (cb mb : Nat) (M : EM) : Prop where
  box : s.heap cb = some (.box [.map mb, .nmap, .nptr])
  map : (s.heap mb).bind Obj.asMS = some (ms M)
def CkB (s : St) (cb mb : Nat) (a : Int) : Prop := ∃ bb, s.heap cb = some (.box [.map mb, .nmap, .ptr bb 0]) ∧ s.heap bb = some (.box [.int .i64 a])
structure Kp (s s' : St) (ex : List Nat) : Prop where
  free : Free s'
  grows : Grows s s'
  keep : ∀ b, b < s.next → b ∉ ex → s'.heap b = s.heap b
theorem Kp.refl {s : St} {ex : List Nat} (hf : Free s) : Kp s s ex := ⟨hf, Grows.refl s, fun _ _ _ => rfl⟩
theorem Kp.trans {s s' s'' : St} {ex : List Nat} (h : Kp s s' ex) (h' : Kp s' s'' ex) : Kp s s'' ex := ⟨h'.free, h.grows.trans h'.grows, fun b hb hn => (h'.keep b (Nat.lt_of_lt_of_le hb h.grows.next) hn).trans (h.keep b hb hn)⟩
theorem Kp.mono {s s' : St} {ex ex' : List Nat} (h : Kp s s' ex) (hx : ∀ b, b ∈ ex → b ∈ ex') : Kp s s' ex' := ⟨h.free, h.grows, fun b hb hn => h.keep b hb fun hh => hn (hx b hh)⟩
theorem Kp.of {s s' : St} (hf : Free s') (hn : s.next ≤ s'.next) (hk : ∀ b, b < s.next → s'.heap b = s.heap b) : Kp s s' [] := ⟨hf, ⟨hn, fun b hb h => (hk b hb).trans h⟩, fun b hb _ => hk b hb⟩
theorem kp_new {s : St} {o : Obj} (hf : Free s) : Kp s (s.new o) [] := .of (free_new hf) (Nat.le_succ _) fun b hb => St.new_ne2 rfl (by omega)
theorem kp_set {s s0 : St} {b : Nat} {o : Obj} (h : Kp s0 s []) (hb : s0.next ≤ b) (ho : s.heap b ≠ none) : Kp s0 (s.set b o) [] := .of (free_set h.free ho) h.grows.next fun b' hb' => by rw [St.set_ne2 (by omega)]; exact h.keep b' hb' (by simp)
theorem CkS.lt {s : St} {cb mb : Nat} {M : EM} (h : CkS s cb mb M) (hf : Free s) : cb < s.next ∧ mb < s.next := by
  refine ⟨free_lt hf h.box, ?_⟩
  have := h.map
  cases ho : s.heap mb with
  | none => rw [ho] at this; cases this
  | some o => exact free_lt hf ho
theorem CkS.ne {s : St} {cb mb : Nat} {M : EM} (h : CkS s cb mb M) : cb ≠ mb := by
  rintro rfl
  have := h.map
  rw [h.box] at this
  cases this
theorem CkS.kp {s s' : St} {cb mb : Nat} {M : EM} (h : CkS s cb mb M) (hf : Free s) (k : Kp s s' []) : CkS s' cb mb M :=
  ⟨(k.keep cb (h.lt hf).1 (by simp)).trans h.box, by rw [k.keep mb (h.lt hf).2 (by simp)]; exact h.map⟩
theorem CkS.keep {s s' : St} {cb mb : Nat} {M : EM} (h : CkS s cb mb M) (h1 : s'.heap cb = s.heap cb) (h2 : s'.heap mb = s.heap mb) : CkS s' cb mb M := ⟨h1.trans h.box, by rw [h2]; exact h.map⟩
theorem CkS.fp {s : St} {cb mb : Nat} {M : EM} (h : CkS s cb mb M) (hf : Free s) : FpOk s [cb, mb] := by
  intro b hb
  simp only [List.mem_cons, List.not_mem_nil, or_false] at hb
  rcases hb with rfl | rfl
  · refine ⟨(h.lt hf).1, _, h.box, rfl, refs_all fun x hx => ?_⟩
    simp only [List.mem_cons, List.not_mem_nil, or_false] at hx
    rcases hx with rfl | rfl | rfl <;> simp [refsIn]
  · refine ⟨(h.lt hf).2, ?_⟩
    have := h.map
    cases ho : s.heap b with
    | none => rw [ho] at this; cases this
    | some o =>
      rw [ho] at this
      refine ⟨o, rfl, ?_⟩
      cases o <;> first | exact ⟨rfl, rfl⟩ | cases this
theorem CkS.restrict {s : St} {cb mb : Nat} {M : EM} (h : CkS s cb mb M) : CkS (restrict s [cb, mb]) cb mb M := h.keep (restrict_heap (by simp)) (restrict_heap (by simp))
theorem Kp.merge {s s0 : St} {fp ex : List Nat} (hf : Free s) (hfp : FpOk s fp) (h : Kp (Vi.restrict s fp) s0 ex) : Kp s (Vi.merge s fp s0) ex := by
  have hn : s.next ≤ s0.next := h.grows.next
  refine ⟨merge_free hf h.free hn fun b hb => (hfp b hb).1, merge_grows (fun b hb => by obtain ⟨_, o, ho, _⟩ := hfp b hb; rw [ho]; simp) hn, fun b hb hx => ?_⟩
  by_cases hm : b ∈ fp
  · rw [merge_mine (.inl hm), h.keep b hb hx, restrict_heap hm]
  · exact merge_keep hm hb
def CkV (v : PV) (c : Ck) : Prop := ∃ x, v = .agg [.bool c.any, x] ∧ (x = .lst (eRows c.l) ∨ (x = .nil ∧ c = none))
theorem CkV.row {c : Ck} : CkV (.agg c.row) c := ⟨_, rfl, .inl rfl⟩
theorem CkV.any : CkV (.agg [.bool true, .nil]) none := ⟨_, rfl, .inr ⟨rfl, rfl⟩⟩
theorem CkV.ex {v : PV} {c : Ck} (h : CkV v c) : ∃ l, v = .agg l ∧ datas l = some c.row ∧ l.length = 2 ∧ l.all PV.scalar = true := by
  obtain ⟨x, rfl, rfl | ⟨rfl, rfl⟩⟩ := h
  · exact ⟨_, rfl, rfl, rfl, rfl⟩
  · exact ⟨_, rfl, rfl, rfl, rfl⟩
theorem sc_of {E : Env} {f : FuncId} {args : List PV} {s s' : St} {r : PV} (h : ∀ Q : PV → St → Prop, Q r s' → Cd Tryz.prog false (.det E) f args Q s) (hf : Free s) (hg : Grows s s') (hf' : Free s') : SC E Tryz.prog f args s r s' := by
  obtain ⟨r', s'', h3, rfl, rfl⟩ := (h (fun r' s'' => r' = r ∧ s'' = s') ⟨rfl, rfl⟩).sc hf (by rintro r s'' ⟨_, rfl⟩; exact ⟨hg, hf'⟩)
  exact h3
theorem o_asgBf {s : St} {f : FuncId} {l : List PV} : OpS (qAsg (.bfn f l)) s (.bfn f l) s [] [] := o_val
attribute [local irreducible] qAsg qPick qBox qBuild qBsl qLoad1 qLoadN qStore qNil qBin qUn qConv qSlS qSlL qFA qF1 qFN qIA qIS qEx qLenS qLenL qApp pQ pQL pGL pCall pCallL condP optP pEnd OpS Int.instDecidableEq Int.decEq instBEqOfDecidableEq qBslN qMin qIf qAs lookupQ updateQ deleteQ pC pCL pGU pDyn pRng
section
variable {E : Env} {s : St} {cb mb : Nat} {M : EM}
theorem say_sc (hf : Free s) (h : CkS s cb mb M) (a : Int) : ∃ s', SC E Tryz.prog 60 [.ptr cb 0, .int .i64 a] s (.agg [.bool true, .nil]) s' ∧ CkB s' cb mb a ∧ Kp s s' [cb] := by
  have hc := (h.lt hf).1
  have hb := h.box
  obtain ⟨s2, hs2⟩ : ∃ s2, s2 = (s.new (.box [.bool false, .nil])).new (.box [.int .i64 a]) := ⟨_, rfl⟩
  obtain ⟨s3, hs3⟩ : ∃ s3, s3 = s2.set cb (.box [.map mb, .nmap, .ptr (s.next + 1) 0]) := ⟨_, rfl⟩
  have hcb2 : s2.heap cb = some (.box [.map mb, .nmap, .nptr]) := by rw [hs2]; exact (St.new_ne2 (n := s.next + 1) rfl (by omega)).trans ((St.new_ne2 rfl (by omega)).trans hb)
  have hf2 : Free s2 := by rw [hs2]; exact free_new (free_new hf)
  have hf3 : Free s3 := by rw [hs3]; exact free_set hf2 (by rw [hcb2]; simp)
  have hN3 : s3.heap s.next = some (.box [.bool false, .nil]) := by rw [hs3, St.set_ne2 (by omega), hs2]; exact (St.new_ne2 (n := s.next + 1) rfl (by omega)).trans (St.new_at rfl)
  have hn2 : s2.next = s.next + 2 := by rw [hs2]; rfl
  have hn3 : s3.next = s.next + 2 := by rw [hs3]; exact hn2
  have hf4 : Free (s3.set s.next (.box [.bool true, .nil])) := free_set hf3 (by rw [hN3]; simp)
  have hk : ∀ b, b < s.next → b ≠ cb → (s3.set s.next (.box [.bool true, .nil])).heap b = s.heap b := fun b h1 h2 => by
    rw [St.set_ne2 (by omega), hs3, St.set_ne2 h2, hs2]
    exact (St.new_ne2 (n := s.next + 1) rfl (by omega)).trans (St.new_ne2 rfl (by omega))
  have hg : Grows s (s3.set s.next (.box [.bool true, .nil])) := ⟨by show s.next ≤ s3.next; omega, fun b h1 h2 => by
    have : b ≠ cb := by rintro rfl; rw [hb] at h2; cases h2
    rw [hk b h1 this]; exact h2⟩
  refine ⟨s3.set s.next (.box [.bool true, .nil]), sc_of (fun Q hQ => ?_) hf hg hf4, ⟨s.next + 1, ?_, ?_⟩, ⟨hf4, hg, fun b h1 h2 => hk b h1 (by simpa using h2)⟩⟩
  · refine g60_cd (.det E) _ _ ?_
    unfold g60
    refine zw ?_
    refine fin_s (resL1 (o_cellR (o_loadAP St.set_self rfl))) ?_
    rw [hs3, hs2] at hQ
    exact hQ
  · rw [St.set_ne2 (by omega), hs3]; exact St.set_self
  · rw [St.set_ne2 (by omega), hs3, St.set_ne2 (by omega), hs2]; exact St.new_at rfl
theorem outside_sc (hf : Free s) (h : CkS s cb mb M) (l : PV) : SC E Tryz.prog 59 [.ptr cb 0, l] s (.bool true) s := by
  have hb := h.box
  refine sc_of (fun Q hQ => g59_cd (.det E) _ _ ?_) hf (Grows.refl s) hf
  unfold g59
  refine zw ?_
  exact fin_s rfl hQ
def ruleF (form : Int) : FuncId := if form = 2 then 135 else if form = 9 then 136 else if form = 10 then 137 else 138
theorem rule116_sc (hf : Free s) (form : Int) : SC E Tryz.prog 116 [.ptr cb 0, .int .i64 form] s (.bfn (ruleF form) [.ptr cb 0]) s := by
  refine sc_of (fun Q hQ => g116_cd (.det E) _ _ ?_) hf (Grows.refl s) hf
  unfold g116
  refine zw ?_
  refine cond_i (fun h => ?_) (fun h => ?_)
  · have h : form = 2 := by simpa using h
    subst h
    rw [show ruleF 2 = 135 by simp [ruleF]] at hQ
    refine pQ_r o_asgBf ?_
    exact fin_s rfl hQ
  have h2 : form ≠ 2 := by simpa using h
  refine zw ?_
  refine cond_i (fun h => ?_) (fun h => ?_)
  · have h : form = 9 := by simpa using h
    subst h
    rw [show ruleF 9 = 136 by simp [ruleF]] at hQ
    refine pQ_r o_asgBf ?_
    exact fin_s rfl hQ
  have h9 : form ≠ 9 := by simpa using h
  refine zw ?_
  refine cond_i (fun h => ?_) (fun h => ?_)
  · have h : form = 10 := by simpa using h
    subst h
    rw [show ruleF 10 = 137 by simp [ruleF]] at hQ
    refine pQ_r o_asgBf ?_
    exact fin_s rfl hQ
  have h10 : form ≠ 10 := by simpa using h
  refine pQ_r o_asgBf ?_
  rw [show ruleF form = 138 by simp [ruleF, h2, h9, h10]] at hQ
  exact fin_s rfl hQ
end
end Go.Vi
namespace Go.Vi
open Go.Proofs
theorem pGd_f {X : Mode} {f : FuncId} {vs : List PV} {s : St} {kl : PV → St → List Nat → List Nat → Prop} (h1 : pCL Tryz.prog X f vs s kl) : pGL (.bool false) false (fun k => pCL Tryz.prog X f vs s k) kl s := h1
theorem pGu_pc {P : Program} {X : Mode} {f : FuncId} {vs args : List PV} {s : St} {kl : PV → St → List Nat → List Nat → Prop} {conts conts' : List (List PV)} {r : PV} {bs : List Nat} (h : PC P f args conts r conts') (h1 : toArgs vs 0 = some (args, bs)) (h2 : distinct bs = true) (h3 : getBoxes s bs = some conts) (h4 : conts'.length = bs.length)
    (hk : kl (place r (setBoxes s bs conts')).1 (place r (setBoxes s bs conts')).2 [] bs) : pGL (.bool false) false (fun k => pGU P X f vs s k) kl s :=
  pGL_t (by simp [guardV]) (by unfold pGU; exact (callU_or P X).2 (.inl ⟨_, _, bs, ⟨args, conts, r, conts', h1, h2, h3, h4, h, rfl⟩, hk⟩))
attribute [local irreducible] qAsg qPick qBox qBuild qBsl qLoad1 qLoadN qStore qNil qBin qUn qConv qSlS qSlL qFA qF1 qFN qIA qIS qEx qLenS qLenL qApp pQ pQL pGL pCall pCallL condP optP pEnd OpS Int.instDecidableEq Int.decEq instBEqOfDecidableEq qBslN qMin qIf qAs lookupQ updateQ deleteQ pC pCL pGU pDyn pRng
section
variable {E : Env} {s : St} {cb mb : Nat} {M : EM} {form sub tk tl n m a : Int} {name : ByteArray} {ks : List (List PV)}
theorem name_sc (hf : Free s) (h : CkS s cb mb M) (kids : PV) :
    ∃ s' v, SC E Tryz.prog 135 [.ptr cb 0, .agg [.int .i64 form, .int .i64 sub, .str name, .int .i64 tk, .int .i64 tl, .int .i64 n, .int .i64 m, .lst ks, .int .i64 a], kids] s v s' ∧ CkV v (some (el M name)) ∧ Kp s s' [] := by
  have hc := (h.lt hf).1
  have hm := (h.lt hf).2
  have hb := h.box
  obtain ⟨row, hrow⟩ : ∃ row : List PV, row = [.int .i64 form, .int .i64 sub, .str name, .int .i64 tk, .int .i64 tl, .int .i64 n, .int .i64 m, .lst ks, .int .i64 a] := ⟨_, rfl⟩
  obtain ⟨s2, hs2⟩ : ∃ s2, s2 = (s.new (.box row)).new (.box [.bool false, .nil]) := ⟨_, rfl⟩
  have k2 : Kp s s2 [] := by rw [hs2]; exact (kp_new hf).trans (kp_new (free_new hf))
  have h2 : CkS s2 cb mb M := h.kp hf k2
  have hN1 : s2.heap (s.next + 1) = some (.box [.bool false, .nil]) := by rw [hs2]; exact St.new_at rfl
  have k3 : Kp s (s2.set (s.next + 1) (.box [.bool false, .lst (eRows (el M name))])) [] := kp_set k2 (by omega) (by rw [hN1]; simp)
  refine ⟨_, .agg [.bool false, .lst (eRows (el M name))], sc_of (fun Q hQ => g135_cd (.det E) _ _ _ ?_) hf k3.grows k3.free, ⟨_, rfl, .inl rfl⟩, k3⟩
  rw [← hrow]
  unfold g135
  apply pQ_r
  · exact o_boxA (by rw [hrow]; rfl) rfl
  apply pQ_r
  · exact o_box (n := s.next + 1) rfl
  rw [hrow] at hs2 ⊢
  rw [← hs2]
  have hb2 := h2.box
  have hN : s2.heap s.next = some (.box [.int .i64 form, .int .i64 sub, .str name, .int .i64 tk, .int .i64 tl, .int .i64 n, .int .i64 m, .lst ks, .int .i64 a]) := by rw [hs2]; exact (St.new_ne2 (n := s.next + 1) rfl (by omega)).trans (St.new_at rfl)
  refine zw ?_
  apply pQL_r
  · exact o_lookS h2.map
  refine zw ?_
  refine ⟨?_, ?_⟩
  · simp [clashesB, clashInB, clashB, ids]
    exact ⟨noBit (by kernel_rfl), noBit (by kernel_rfl), noBit (by kernel_rfl)⟩
  · exact fin_s (resL1 (o_cellR (o_loadAP St.set_self rfl))) hQ
theorem when_sc (hf : Free s) (h : CkS s cb mb M) (c : Ck) (hl : (el M name).length ≤ 1000) (hcl : c.l.length ≤ 2000) :
    ∃ s' v, SC E Tryz.prog 136 [.ptr cb 0, .agg [.int .i64 form, .int .i64 sub, .str name, .int .i64 tk, .int .i64 tl, .int .i64 n, .int .i64 m, .lst ks, .int .i64 a], .lst [c.row]] s v s' ∧
      (match c.goes (el M name) with
      | true => CkV v (some (el M name ++ [⟨name, n != 0⟩])) ∧ Kp s s' []
      | false => v = .agg [.bool true, .nil] ∧ CkB s' cb mb a ∧ Kp s s' [cb]) := by
  have hc := (h.lt hf).1
  have hm := (h.lt hf).2
  have hb := h.box
  obtain ⟨row, hrow⟩ : ∃ row : List PV, row = [.int .i64 form, .int .i64 sub, .str name, .int .i64 tk, .int .i64 tl, .int .i64 n, .int .i64 m, .lst ks, .int .i64 a] := ⟨_, rfl⟩
  obtain ⟨s2, hs2⟩ : ∃ s2, s2 = (s.new (.box row)).new (.box [.bool false, .nil]) := ⟨_, rfl⟩
  have k2 : Kp s s2 [] := by rw [hs2]; exact (kp_new hf).trans (kp_new (free_new hf))
  have h2 : CkS s2 cb mb M := h.kp hf k2
  have hn2 : s2.next = s.next + 2 := by rw [hs2]; rfl
  have hN1 : s2.heap (s.next + 1) = some (.box [.bool false, .nil]) := by rw [hs2]; exact St.new_at rfl
  have hN : s2.heap s.next = some (.box row) := by rw [hs2]; exact (St.new_ne2 (n := s.next + 1) rfl (by omega)).trans (St.new_at rfl)
  have hb2 := h2.box
  obtain ⟨s3, q1, q2, q3⟩ := say_sc (E := E) k2.free h2 a
  have hN13 : s3.heap (s.next + 1) = some (.box [.bool false, .nil]) := (q3.keep _ (by omega) (by simp; omega)).trans hN1
  have hpc := goes_pc c (el M name) (by omega) (by omega)
  have walk : ∀ (Q : PV → St → Prop), (c.goes (el M name) = true → Q (.agg [.bool false, .lst (eRows (el M name ++ [⟨name, n != 0⟩]))]) (s2.set (s.next + 1) (.box [.bool false, .lst (eRows (el M name ++ [⟨name, n != 0⟩]))]))) →
      (c.goes (el M name) = false → Q (.agg [.bool true, .nil]) (s3.set (s.next + 1) (.box [.bool true, .nil]))) → Cd Tryz.prog false (.det E) 136 [.ptr cb 0, .agg row, .lst [c.row]] Q s := by
    intro Q hQ1 hQ2
    refine g136_cd (.det E) _ _ _ ?_
    unfold g136
    apply pQ_r
    · exact o_boxA (by rw [hrow]; rfl) rfl
    apply pQ_r
    · exact o_box (n := s.next + 1) rfl
    rw [← hs2]
    rw [hrow] at hN
    refine zw ?_
    apply pQL_r
    · exact o_lookS h2.map
    refine zw ?_
    refine ⟨by simp [clashesB, clashInB, clashB, ids], ?_⟩
    refine zw ?_
    rw [show ((([c.row] : List (List PV)).length : Int) != 1) = false by simp]
    refine zw ?_
    refine gq_f (o_iaL (rows := [c.row]) (row := c.row) (Int.le_refl 0) rfl rfl) ?_
    refine gq_f (o_loadAE rfl) ?_
    refine zw ?_
    refine pGu_pc hpc rfl rfl rfl rfl ?_
    cases hg : c.goes (el M name) with
    | true =>
      refine zw ?_
      refine pC_pc (on_pc (el M name) name (n != 0) (by omega)) rfl rfl rfl rfl ?_
      refine zw ?_
      exact fin_s (resL1 (o_cellR (o_loadAP St.set_self rfl))) (hQ1 hg)
    | false =>
      refine zw ?_
      refine pC_d q1 ?_
      refine zw ?_
      exact fin_s (resL1 (o_cellR (o_loadAP St.set_self rfl))) (hQ2 hg)
  rw [← hrow]
  cases hg : c.goes (el M name) with
  | true =>
    have k3 : Kp s (s2.set (s.next + 1) (.box [.bool false, .lst (eRows (el M name ++ [⟨name, n != 0⟩]))])) [] := kp_set k2 (by omega) (by rw [hN1]; simp)
    exact ⟨_, _, sc_of (fun Q hQ => walk Q (fun _ => hQ) (fun h => by rw [hg] at h; cases h)) hf k3.grows k3.free, ⟨_, rfl, .inl rfl⟩, k3⟩
  | false =>
    have hf3 : Free (s3.set (s.next + 1) (.box [.bool true, .nil])) := free_set q3.free (by rw [hN13]; simp)
    have k3 : Kp s s3 [cb] := (k2.mono (by simp)).trans q3
    have k4 : Kp s (s3.set (s.next + 1) (.box [.bool true, .nil])) [cb] := ⟨hf3, k3.grows.trans (grows_set (by rw [hN13]; simp)), fun b hb1 hb2 => by rw [St.set_ne2 (by omega)]; exact k3.keep b hb1 hb2⟩
    refine ⟨_, _, sc_of (fun Q hQ => walk Q (fun h => by rw [hg] at h; cases h) (fun _ => hQ)) hf k4.grows k4.free, rfl, ?_, k4⟩
    obtain ⟨bb, e1, e2⟩ := q2
    exact ⟨bb, by rw [St.set_ne2 (by omega)]; exact e1, by rw [St.set_ne2 (by rintro rfl; rw [hN13] at e2; cases e2)]; exact e2⟩
end
end Go.Vi
namespace Go.Vi
open Go.Proofs
def allC : Ck → List Ck → Option Ck
  | out, [] => some out
  | out, none :: r => allC out r
  | none, some l :: r => allC (some l) r
  | some o, some l :: r => bif sameE o l then allC (some o) r else none
def oRow : Ck → List PV
  | none => [.bool true, .nil]
  | some l => Ck.row (some l)
theorem oRow_v (c : Ck) : CkV (.agg (oRow c)) c := by
  cases c with
  | none => exact .any
  | some l => exact .row
attribute [local irreducible] qAsg qPick qBox qBuild qBsl qLoad1 qLoadN qStore qNil qBin qUn qConv qSlS qSlL qFA qF1 qFN qIA qIS qEx qLenS qLenL qApp pQ pQL pGL pCall pCallL condP optP pEnd OpS Int.instDecidableEq Int.decEq instBEqOfDecidableEq qBslN qMin qIf qAs lookupQ updateQ deleteQ pC pCL pGU pDyn pRng
section
variable {E : Env} {cb bb db hb : Nat} {c : Ck} {cs : List Ck}
theorem all_loop (hl : cs.length ≤ 100000) (hb0 : ∀ k ∈ cs, k.l.length ≤ 2000) : ∀ (n j : Nat) (out : Ck) (s : St), cs.length - j = n → j ≤ cs.length → allC out (cs.drop j) = some c → out.l.length ≤ 2000 → Free s → s.heap hb = some (.box (oRow out)) → s.heap db = some (.box [.bool false, .nil]) → hb ≠ db →
    ∃ s' v, CkV v c ∧ Kp s s' [hb, db] ∧ ∀ Q : PV → St → Prop, Q v s' → g138l20 (.det E) Q (n + 1) (.ptr cb 0) (.ptr bb 0) (.ptr db 0) (.ptr hb 0) (.lst (cs.map Ck.row)) (I cs.length) (I j) s
  | 0, j, out, s, hn, hj, ha, hol, hf, hh, hd, hne => by
    rw [List.drop_of_length_le (by omega)] at ha
    have ha : out = c := by unfold allC at ha; simpa using ha
    subst ha
    have hlen : (oRow out).length = 2 := by cases out <;> rfl
    have hsc : (oRow out).all PV.scalar = true := by cases out <;> rfl
    refine ⟨s.set db (.box (oRow out)), .agg (oRow out), oRow_v out, ⟨free_set hf (by rw [hd]; simp), grows_set (by rw [hd]; simp), fun b h1 h2 => by rw [St.set_ne2 (by rintro rfl; simp at h2)]⟩, fun Q hQ => ?_⟩
    show g138l20b _ _ _ _ _ _ _ _ _ _ _
    unfold g138l20b
    refine zw ?_
    refine cond_f (by simp; omega) ?_
    unfold g138j10
    apply pQ_r
    · exact o_loadAP hh hlen
    apply pQ_r
    · exact o_storeA hd hlen hsc rfl
    exact fin_s (resL1 (o_cellR (o_loadAP St.set_self hlen))) hQ
  | n + 1, j, out, s, hn, hj, ha, hol, hf, hh, hd, hne => by
    have hlt : j < cs.length := by omega
    rw [List.drop_eq_getElem_cons hlt] at ha
    have hrow : (cs.map Ck.row)[(j : Int).toNat]? = some (cs[j]).row := by simp [hlt]
    have hkl := hb0 cs[j] (List.getElem_mem hlt)
    generalize cs[j] = k at ha hrow hkl
    have hw : IntKind.i64.wrap ((j : Int) + 1) = ((j + 1 : Nat) : Int) := by rw [wrap64 (by omega) (by omega)]; omega
    obtain ⟨s1, hs1⟩ : ∃ s1, s1 = (s.new (.box [.bool false, .nil])).set s.next (.box k.row) := ⟨_, rfl⟩
    have k1 : Kp s s1 [] := by rw [hs1]; exact kp_set (kp_new hf) (Nat.le_refl _) (by rw [St.new_at rfl]; simp)
    have hhl := free_lt hf hh
    have hdl := free_lt hf hd
    have hN : s1.heap s.next = some (.box k.row) := by rw [hs1]; exact St.set_self
    have hh1 := (k1.keep hb hhl (by simp)).trans hh
    have hd1 := (k1.keep db hdl (by simp)).trans hd
    have head : ∀ (Q : PV → St → Prop), (∀ W : F7, W = g138l20 (.det E) Q (n + 1) → cN (.bool k.any) (g138j33 (.det E) Q W (.ptr cb 0) (.ptr bb 0) (.ptr db 0) (.ptr hb 0) (.lst (cs.map Ck.row)) (I cs.length) (I j)) (oFL 0 (.ptr hb 0) fun k' => oAsg k' fun k' => cN k' (oLoadN 2 (.ptr s.next 0) fun k' => oStore 2 k' (.ptr hb 0) fun _ => g138j33 (.det E) Q W (.ptr cb 0) (.ptr bb 0) (.ptr db 0) (.ptr hb 0) (.lst (cs.map Ck.row)) (I cs.length) (I j)) (oFL 1 (.ptr hb 0) fun k' => oFL 1 (.ptr s.next 0) fun l => oG (.det E) 58 [k', l] fun k' => oUn .not k' fun k' => oAsg k' fun k' => cN k' (oFL 8 (.ptr bb 0) fun k' => oG (.det E) 60 [.ptr cb 0, k'] fun k' => oStore 2 k' (.ptr db 0) fun _ => sF (fun s => [qCell (qLoadN 2 (.ptr db 0)) s]) Q) (g138j33 (.det E) Q W (.ptr cb 0) (.ptr bb 0) (.ptr db 0) (.ptr hb 0) (.lst (cs.map Ck.row)) (I cs.length) (I j)))) s1) →
        g138l20 (.det E) Q (n + 2) (.ptr cb 0) (.ptr bb 0) (.ptr db 0) (.ptr hb 0) (.lst (cs.map Ck.row)) (I cs.length) (I j) s := by
      intro Q hQ
      show g138l20b _ _ _ _ _ _ _ _ _ _ _
      unfold g138l20b
      refine zw ?_
      refine cond_t (by simpa using hlt) ?_
      apply pQ_r
      · exact o_iaL (by omega) hrow rfl
      apply pQ_r
      · exact o_loadAE rfl
      apply pQ_r
      · exact o_box rfl
      apply pQ_r
      · exact o_storeA (St.new_at rfl) rfl rfl rfl
      rw [← hs1]
      apply pQ_r
      · exact o_faP
      apply pQ_r
      · exact o_load1P hN rfl
      apply pQ_r
      · exact o_asgB
      exact hQ _ rfl
    have next : ∀ (Q : PV → St → Prop) (s' : St), g138l20 (.det E) Q (n + 1) (.ptr cb 0) (.ptr bb 0) (.ptr db 0) (.ptr hb 0) (.lst (cs.map Ck.row)) (I cs.length) (I (j + 1 : Nat)) s' → ∀ W : F7, W = g138l20 (.det E) Q (n + 1) → g138j33 (.det E) Q W (.ptr cb 0) (.ptr bb 0) (.ptr db 0) (.ptr hb 0) (.lst (cs.map Ck.row)) (I cs.length) (I j) s' := by
      intro Q s' h W hW
      subst hW
      unfold g138j33
      apply pQ_r
      · exact o_bin (v := .int .i64 (j + 1 : Nat)) (by
          show some (PV.int .i64 (IntKind.i64.wrap _)) = _
          rw [hw])
      exact h
    cases k with
    | none =>
      have ha : allC out (cs.drop (j + 1)) = some c := by cases out <;> exact ha
      obtain ⟨s', v, e1, e2, e3⟩ := all_loop hl hb0 n (j + 1) out s1 (by omega) hlt ha hol k1.free hh1 hd1 hne
      refine ⟨s', v, e1, (k1.mono (by simp)).trans e2, fun Q hQ => head Q fun W hW => ?_⟩
      exact ct (next Q s1 (e3 Q hQ) W hW)
    | some l =>
      cases out with
      | none =>
        have ha : allC (some l) (cs.drop (j + 1)) = some c := ha
        have hf2 : Free (s1.set hb (.box (oRow (some l)))) := free_set k1.free (by rw [hh1]; simp)
        obtain ⟨s', v, e1, e2, e3⟩ := all_loop hl hb0 n (j + 1) (some l) (s1.set hb (.box (oRow (some l)))) (by omega) hlt ha hkl hf2 St.set_self (by rw [St.set_ne2 hne.symm]; exact hd1) hne
        have k2 : Kp s1 (s1.set hb (.box (oRow (some l)))) [hb, db] := ⟨hf2, grows_set (by rw [hh1]; simp), fun b h1 h2 => by rw [St.set_ne2 (by rintro rfl; simp at h2)]⟩
        refine ⟨s', v, e1, ((k1.mono (by simp)).trans k2).trans e2, fun Q hQ => head Q fun W hW => ?_⟩
        refine cf ?_
        apply pQ_r
        · exact o_faP
        apply pQ_r
        · exact o_load1P hh1 rfl
        apply pQ_r
        · exact o_asgB
        refine ct ?_
        apply pQ_r
        · exact o_loadAP hN rfl
        apply pQ_r
        · exact o_storeA hh1 rfl rfl rfl
        exact next Q _ (e3 Q hQ) W hW
      | some o =>
        have ha : (bif sameE o l then allC (some o) (cs.drop (j + 1)) else none) = some c := ha
        cases hs : sameE o l with
        | false => rw [hs] at ha; cases ha
        | true =>
          rw [hs, cond_true] at ha
          obtain ⟨s', v, e1, e2, e3⟩ := all_loop hl hb0 n (j + 1) (some o) s1 (by omega) hlt ha hol k1.free hh1 hd1 hne
          refine ⟨s', v, e1, (k1.mono (by simp)).trans e2, fun Q hQ => head Q fun W hW => ?_⟩
          refine cf ?_
          apply pQ_r
          · exact o_faP
          apply pQ_r
          · exact o_load1P hh1 rfl
          apply pQ_r
          · exact o_asgB
          refine cf ?_
          apply pQ_r
          · exact o_faP
          apply pQ_r
          · exact o_load1P hh1 rfl
          apply pQ_r
          · exact o_faP
          apply pQ_r
          · exact o_load1P hN rfl
          refine pC_pc (same_pc o l (by simp [Ck.l] at hol; omega) (by simp [Ck.l] at hkl; omega)) rfl rfl rfl rfl ?_
          rw [hs]
          apply pQ_r
          · exact o_not
          apply pQ_r
          · exact o_asgB
          refine cf ?_
          exact next Q s1 (e3 Q hQ) W hW
end
section
variable {E : Env} {s : St} {cb mb : Nat} {M : EM} {form sub tk tl n m a : Int} {name : ByteArray} {ks : List (List PV)}
theorem all_sc (hf : Free s) (h : CkS s cb mb M) {cs : List Ck} (hl : cs.length ≤ 100000) (hb0 : ∀ k ∈ cs, k.l.length ≤ 2000) {c : Ck} (hc : allC none cs = some c) :
    ∃ s' v, SC E Tryz.prog 138 [.ptr cb 0, .agg [.int .i64 form, .int .i64 sub, .str name, .int .i64 tk, .int .i64 tl, .int .i64 n, .int .i64 m, .lst ks, .int .i64 a], .lst (cs.map Ck.row)] s v s' ∧ CkV v c ∧ Kp s s' [] := by
  obtain ⟨row, hrow⟩ : ∃ row : List PV, row = [.int .i64 form, .int .i64 sub, .str name, .int .i64 tk, .int .i64 tl, .int .i64 n, .int .i64 m, .lst ks, .int .i64 a] := ⟨_, rfl⟩
  rw [← hrow]
  obtain ⟨s2, hs2⟩ : ∃ s2, s2 = ((s.new (.box row)).new (.box [.bool false, .nil])).new (.box [.bool false, .nil]) := ⟨_, rfl⟩
  have k2 : Kp s s2 [] := by rw [hs2]; exact ((kp_new hf).trans (kp_new (free_new hf))).trans (kp_new (free_new (free_new hf)))
  have hN2 : s2.heap (s.next + 2) = some (.box [.bool false, .nil]) := by rw [hs2]; exact St.new_at rfl
  have hN1 : s2.heap (s.next + 1) = some (.box [.bool false, .nil]) := by rw [hs2]; exact (St.new_ne2 (n := s.next + 2) rfl (by omega)).trans (St.new_at rfl)
  have k3 : Kp s (s2.set (s.next + 2) (.box (oRow none))) [] := kp_set k2 (by omega) (by rw [hN2]; simp)
  obtain ⟨s', v, e1, e2, e3⟩ := all_loop (E := E) (cb := cb) (bb := s.next) (db := s.next + 1) (hb := s.next + 2) hl hb0 cs.length 0 none (s2.set (s.next + 2) (.box (oRow none))) (by omega) (by omega) hc (by simp [Ck.l]) k3.free St.set_self (by rw [St.set_ne2 (by omega)]; exact hN1) (by omega)
  have k4 : Kp s s' [] := .of e2.free (Nat.le_trans k3.grows.next e2.grows.next) fun b hb => by
    rw [e2.keep b (Nat.lt_of_lt_of_le hb k3.grows.next) (by simp; omega)]; exact k3.keep b hb (by simp)
  refine ⟨s', v, sc_of (fun Q hQ => g138_cd (.det E) _ _ _ ?_) hf k4.grows k4.free, e1, k4⟩
  unfold g138
  apply pQ_r
  · exact o_boxA (by rw [hrow]; rfl) rfl
  apply pQ_r
  · exact o_box (n := s.next + 1) rfl
  apply pQ_r
  · exact o_build (l := [.bool true, .nil]) rfl rfl
  apply pQ_r
  · exact o_box (n := s.next + 2) rfl
  rw [← hs2]
  apply pQ_r
  · exact o_storeA hN2 rfl rfl rfl
  apply pQ_r
  · exact o_lenL rfl
  rw [List.length_map]
  exact ⟨_, e3 Q hQ⟩
end
end Go.Vi
namespace Go.Vi
open Go.Proofs
theorem merge_self {s : St} {fp : List Nat} (hf : Free s) : merge s fp (restrict s fp) = s := by
  cases s with | mk hp nx =>
  show St.mk _ _ = St.mk _ _
  congr 1
  funext b
  by_cases hb : b ∈ fp
  · exact (merge_mine (.inl hb)).trans (restrict_heap hb)
  · exact merge_other hb (by show ¬ (nx ≤ b ∧ b < nx); omega)
theorem pDynS_s {X : Mode} {g : FuncId} {bd rest args : List PV} {s s0 : St} {v : PV} {kl : PV → St → List Nat → List Nat → Prop} (fp : List Nat) (hen : entersB Tryz.prog g = true) (hX : X ≠ .old) (hE : ∀ S m, X.env.holds m → X.env.holds (jR S m)) (hw : WkL (bd ++ rest) args) (hr : refsInL (fun b => fp.contains b) args = true) (h : SC X.env Tryz.prog g args (restrict s fp) v s0) (hfp : FpOk s fp)
    (hk : kl v (merge s fp s0) [] fp) : pDynS Tryz.prog X (.bfn g bd :: rest) s kl := by
  unfold pDynS
  show (bif entersB Tryz.prog g then callSX Tryz.prog X g (bd ++ rest) s (fun v s' fp => kl v s' [] fp) else False)
  rw [hen]
  cases X with
  | old => exact absurd rfl hX
  | det E => exact ⟨v, _, fp, ⟨args, s0, hE, hw, hr, h, hfp, rfl⟩, hk⟩
  | weak E => exact ⟨v, _, fp, ⟨args, s0, hE, hw, hr, h, hfp, rfl⟩, hk⟩
attribute [local irreducible] qAsg qPick qBox qBuild qBsl qLoad1 qLoadN qStore qNil qBin qUn qConv qSlS qSlL qFA qF1 qFN qIA qIS qEx qLenS qLenL qApp pQ pQL pGL pCall pCallL condP optP pEnd OpS Int.instDecidableEq Int.decEq instBEqOfDecidableEq qBslN qMin qIf qAs lookupQ updateQ deleteQ pC pCL pGU pDyn pRng
section
variable {E : Env} {s : St} {cb mb : Nat} {M : EM} {form sub tk tl n m a : Int} {name : ByteArray} {ks : List (List PV)}
theorem merge_sc (hf : Free s) (h : CkS s cb mb M) (c d : Ck) (hl : (el M name).length ≤ 1000) (hcl : c.l.length ≤ 2000) (hdl : d.l.length ≤ 2000) (hc : c.goes (el M name ++ [⟨name, true⟩]) = true) (hd : d.goes (el M name ++ [⟨name, false⟩]) = true) :
    ∃ s' v, SC E Tryz.prog 137 [.ptr cb 0, .agg [.int .i64 form, .int .i64 sub, .str name, .int .i64 tk, .int .i64 tl, .int .i64 n, .int .i64 m, .lst ks, .int .i64 a], .lst [c.row, d.row]] s v s' ∧ CkV v (some (el M name)) ∧ Kp s s' [] := by
  have hcb := (h.lt hf).1
  have hm := (h.lt hf).2
  obtain ⟨row, hrow⟩ : ∃ row : List PV, row = [.int .i64 form, .int .i64 sub, .str name, .int .i64 tk, .int .i64 tl, .int .i64 n, .int .i64 m, .lst ks, .int .i64 a] := ⟨_, rfl⟩
  obtain ⟨s2, hs2⟩ : ∃ s2, s2 = (s.new (.box row)).new (.box [.bool false, .nil]) := ⟨_, rfl⟩
  have k2 : Kp s s2 [] := by rw [hs2]; exact (kp_new hf).trans (kp_new (free_new hf))
  have h2 : CkS s2 cb mb M := h.kp hf k2
  have hN1 : s2.heap (s.next + 1) = some (.box [.bool false, .nil]) := by rw [hs2]; exact St.new_at rfl
  have hN : s2.heap s.next = some (.box row) := by rw [hs2]; exact (St.new_ne2 (n := s.next + 1) rfl (by omega)).trans (St.new_at rfl)
  have hb2 := h2.box
  have k3 : Kp s (s2.set (s.next + 1) (.box [.bool false, .lst (eRows (el M name))])) [] := kp_set k2 (by omega) (by rw [hN1]; simp)
  have hp1 := goes_pc c (el M name ++ [⟨name, true⟩]) (by omega) (by simp; omega)
  have hp2 := goes_pc d (el M name ++ [⟨name, false⟩]) (by omega) (by simp; omega)
  have hq1 := on_pc (el M name) name true (by omega)
  have hq2 := on_pc (el M name) name false (by omega)
  rw [hc] at hp1
  rw [hd] at hp2
  rw [← hrow]
  refine ⟨_, .agg [.bool false, .lst (eRows (el M name))], sc_of (fun Q hQ => g137_cd (.det E) _ _ _ ?_) hf k3.grows k3.free, ⟨_, rfl, .inl rfl⟩, k3⟩
  unfold g137
  apply pQ_r
  · exact o_boxA (by rw [hrow]; rfl) rfl
  apply pQ_r
  · exact o_box (n := s.next + 1) rfl
  rw [← hs2]
  rw [hrow] at hN
  refine zw ?_
  apply pQL_r
  · exact o_lookS h2.map
  refine zw ?_
  refine ⟨by simp [clashesB, clashInB, clashB, ids], ?_⟩
  refine zw ?_
  rw [show ((([c.row, d.row] : List (List PV)).length : Int) != 2) = false by simp]
  refine zw ?_
  refine gq_f (o_iaL (rows := [c.row, d.row]) (row := c.row) (Int.le_refl 0) rfl rfl) ?_
  refine gq_f (o_loadAE rfl) ?_
  refine zw ?_
  refine pGd_f (pCL_pc hq1 rfl rfl rfl rfl ?_)
  refine pGd_f (pCL_pc hp1 rfl rfl rfl rfl ?_)
  refine zw ?_
  refine gq_f (o_iaL (rows := [c.row, d.row]) (row := d.row) (i := 1) (by omega) rfl rfl) ?_
  refine gq_f (o_loadAE rfl) ?_
  refine zw ?_
  refine pGd_f (pCL_pc hq2 rfl rfl rfl rfl ?_)
  refine pGd_f (pCL_pc hp2 rfl rfl rfl rfl ?_)
  refine zw ?_
  refine ⟨by simp [clashesB, clashInB, clashB, ids, place_lst, place_bool, set0], ?_⟩
  refine zw ?_
  exact fin_s (resL1 (o_cellR (o_loadAP St.set_self rfl))) hQ
end
def rule (M : EM) (form : Int) (name : ByteArray) (n : Int) (cs : List Ck) : Option Ck :=
  if form = 2 then some (some (el M name))
  else if form = 9 then (match cs with
    | [c] => bif c.goes (el M name) then some (some (el M name ++ [⟨name, n != 0⟩])) else none
    | _ => none)
  else if form = 10 then (match cs with
    | [c, d] => bif c.goes (el M name ++ [⟨name, true⟩]) && d.goes (el M name ++ [⟨name, false⟩]) then some (some (el M name)) else none
    | _ => none)
  else allC none cs
theorem allC_len {k : Nat} : ∀ {cs : List Ck} {out c : Ck}, allC out cs = some c → out.l.length ≤ k → (∀ x ∈ cs, x.l.length ≤ k) → c.l.length ≤ k
  | [], out, c, h, h1, _ => by
    unfold allC at h
    simp only [Option.some.injEq] at h; subst h; exact h1
  | none :: r, out, c, h, h1, h2 => by
    have h : allC out r = some c := by cases out <;> exact h
    exact allC_len h h1 fun x hx => h2 x (by simp [hx])
  | some l :: r, none, c, h, h1, h2 => allC_len (out := some l) h (h2 _ (by simp)) fun x hx => h2 x (by simp [hx])
  | some l :: r, some o, c, h, h1, h2 => by
    have h : (bif sameE o l then allC (some o) r else none) = some c := h
    cases hs : sameE o l with
    | false => rw [hs] at h; cases h
    | true => rw [hs] at h; exact allC_len h h1 fun x hx => h2 x (by simp [hx])
theorem rule_len {M : EM} (hM : ∀ n, (el M n).length ≤ 1000) {form n : Int} {name : ByteArray} {cs : List Ck} {c : Ck} (h : rule M form name n cs = some c) (hc : ∀ x ∈ cs, x.l.length ≤ 1001) : c.l.length ≤ 1001 := by
  have := hM name
  unfold rule at h
  split at h
  · cases h; show (el M name).length ≤ 1001; omega
  split at h
  · split at h
    · rename_i k
      cases hg : k.goes (el M name) with
      | false => rw [hg] at h; cases h
      | true => rw [hg] at h; cases h; show (el M name ++ [_]).length ≤ 1001; simp; omega
    · cases h
  split at h
  · split at h
    · rename_i k d
      cases hg : k.goes (el M name ++ [⟨name, true⟩]) && d.goes (el M name ++ [⟨name, false⟩]) with
      | false => rw [hg] at h; cases h
      | true => rw [hg] at h; cases h; show (el M name).length ≤ 1001; omega
    · cases h
  · exact allC_len h (by simp [Ck.l]) hc
theorem enters_rule (form : Int) : entersB Tryz.prog (ruleF form) = true := by
  unfold ruleF
  split
  · kernel_rfl
  split
  · kernel_rfl
  split
  · kernel_rfl
  · kernel_rfl
theorem rule_sc {E : Env} {s : St} {cb mb : Nat} {M : EM} {form sub tk tl n m a : Int} {name : ByteArray} {ks : List (List PV)} {cs : List Ck} {c : Ck} (hM : ∀ n, (el M n).length ≤ 1000) (hf : Free s) (h : CkS s cb mb M) (hl : cs.length ≤ 100000) (hcl : ∀ x ∈ cs, x.l.length ≤ 1001) (hr : rule M form name n cs = some c) :
    ∃ s' v, SC E Tryz.prog (ruleF form) [.ptr cb 0, .agg [.int .i64 form, .int .i64 sub, .str name, .int .i64 tk, .int .i64 tl, .int .i64 n, .int .i64 m, .lst ks, .int .i64 a], .lst (cs.map Ck.row)] s v s' ∧ CkV v c ∧ Kp s s' [] := by
  have hn := hM name
  unfold rule at hr
  unfold ruleF
  by_cases h2 : form = 2
  · rw [if_pos h2] at hr ⊢
    cases hr
    exact name_sc hf h _
  rw [if_neg h2] at hr ⊢
  by_cases h9 : form = 9
  · rw [if_pos h9] at hr ⊢
    split at hr
    · rename_i k
      cases hg : k.goes (el M name) with
      | false => rw [hg] at hr; cases hr
      | true =>
        rw [hg] at hr; cases hr
        obtain ⟨s', v, e1, e2⟩ := when_sc (E := E) (form := form) (sub := sub) (tk := tk) (tl := tl) (n := n) (m := m) (a := a) (ks := ks) hf h k hn (by have := hcl k (by simp); omega)
        rw [hg] at e2
        exact ⟨s', v, e1, e2.1, e2.2⟩
    · cases hr
  rw [if_neg h9] at hr ⊢
  by_cases h10 : form = 10
  · rw [if_pos h10] at hr ⊢
    split at hr
    · rename_i k d
      cases hg : k.goes (el M name ++ [⟨name, true⟩]) && d.goes (el M name ++ [⟨name, false⟩]) with
      | false => rw [hg] at hr; cases hr
      | true =>
        rw [hg] at hr; cases hr
        simp only [Bool.and_eq_true] at hg
        exact merge_sc hf h k d hn (by have := hcl k (by simp); omega) (by have := hcl d (by simp); omega) hg.1 hg.2
    · cases hr
  rw [if_neg h10] at hr ⊢
  exact all_sc hf h hl (fun k hk => by have := hcl k hk; omega) hr
end Go.Vi
namespace Go.Vi
open Go.Proofs
inductive CE (M : EM) : Exp → Ck → Prop
  | mk (form sub : Int) (name : ByteArray) (tk tl n m : Int) (kids : List Exp) (at' : Int) (cs : List Ck) (c : Ck) : kids.length ≤ 100000 → cs.length = kids.length → (∀ (i : Nat) (h : i < kids.length) (h' : i < cs.length), CE M kids[i] cs[i]) → rule M form name n cs = some c → CE M (.mk form sub name tk tl n m kids at') c
theorem CE.len {M : EM} (hM : ∀ n, (el M n).length ≤ 1000) {e : Exp} {c : Ck} (h : CE M e c) : c.l.length ≤ 1001 := by
  induction h with
  | mk form sub name tk tl n m kids at' cs c h1 h2 h3 h4 ih =>
    refine rule_len hM h4 fun x hx => ?_
    obtain ⟨i, hi, rfl⟩ := List.getElem_of_mem hx
    exact ih i (by omega) hi
theorem ckRows_all {cs : List Ck} : (cs.map Ck.row).all (fun r => Nat.beq r.length 2) = true := List.all_eq_true.2 fun r hr => by obtain ⟨c, _, rfl⟩ := List.mem_map.1 hr; rfl
attribute [local irreducible] qAsg qPick qBox qBuild qBsl qLoad1 qLoadN qStore qNil qBin qUn qConv qSlS qSlL qFA qF1 qFN qIA qIS qEx qLenS qLenL qApp pQ pQL pGL pCall pCallL condP optP pEnd OpS Int.instDecidableEq Int.decEq instBEqOfDecidableEq qBslN qMin qIf qAs lookupQ updateQ deleteQ pC pCL pGU pDyn pRng
section
variable {cb mb : Nat} {M : EM}
def ExpOk (cb mb : Nat) (M : EM) (e : Exp) (c : Ck) : Prop := ∀ s, Free s → CkS s cb mb M → SW .top Tryz.prog 98 [.ptr cb 0, .agg e.row] s fun r s' => CkV r c ∧ Kp s s' []
theorem kids_loop {kids : List Exp} {cs : List Ck} (hl : kids.length ≤ 100000) (hcl : cs.length = kids.length) (hk : ∀ (i : Nat) (h : i < kids.length) (h' : i < cs.length), ExpOk cb mb M kids[i] cs[i]) {eb xb d : Nat} {Q : PV → St → Prop} :
    ∀ (n j : Nat) (s : St) (e' : Nat), kids.length - j = n → j ≤ kids.length → Free s → CkS s cb mb M → s.heap d = some (.own j e') → (j = 0 ∨ e' = 2) →
      (∀ s' e', Kp s s' [d] → CkS s' cb mb M → s'.heap d = some (.own kids.length e') → g98j6 (.weak .top) Q (.ptr cb 0) (.ptr eb 0) (.ptr xb 0) (.acc d (cs.map Ck.row)) s') →
      g98l42 (.weak .top) Q (n + 1) (.ptr cb 0) (.ptr eb 0) (.ptr xb 0) (.acc d ((cs.take j).map Ck.row)) (.lst (kids.map Exp.row)) (I kids.length) (I j) s
  | 0, j, s, e', hn, hj, hf, hS, hd, he, hW => by
    show g98l42b _ _ _ _ _ _ _ _ _ _ _
    unfold g98l42b
    refine zw ?_
    refine cond_f (by simp; omega) ?_
    have := hW s e' (.refl hf) hS (by rw [hd]; congr 2; omega)
    rw [List.take_of_length_le (by omega)]
    exact this
  | n + 1, j, s, e', hn, hj, hf, hS, hd, he, hW => by
    have hlt : j < kids.length := by omega
    have hrow : (kids.map Exp.row)[(j : Int).toNat]? = some (kids[j]).row := by simp [hlt]
    have hw : IntKind.i64.wrap ((j : Int) + 1) = ((j + 1 : Nat) : Int) := by rw [wrap64 (by omega) (by omega)]; omega
    have hkj := hk j hlt (by omega)
    have hdl := free_lt hf hd
    have hcl2 := hS.lt hf
    have hdc : d ≠ cb := by rintro rfl; rw [hS.box] at hd; cases hd
    have hdm : d ≠ mb := by
      rintro rfl
      have := hS.map
      rw [hd] at this; cases this
    obtain ⟨s1, hs1⟩ : ∃ s1, s1 = (s.new (.box zE)).set s.next (.box (kids[j]).row) := ⟨_, rfl⟩
    have k1 : Kp s s1 [] := by rw [hs1]; exact kp_set (kp_new hf) (Nat.le_refl _) (by rw [St.new_at rfl]; simp)
    have hN : s1.heap s.next = some (.box (kids[j]).row) := by rw [hs1]; exact St.set_self
    show g98l42b _ _ _ _ _ _ _ _ _ _ _
    unfold g98l42b
    refine zw ?_
    refine cond_t (by simpa using hlt) ?_
    apply pQ_r
    · exact o_iaL (by omega) hrow (Exp.row_len _)
    apply pQ_r
    · exact o_loadAE (Exp.row_len _)
    apply pQ_r
    · exact o_box rfl
    apply pQ_r
    · exact o_storeA (St.new_at rfl) (Exp.row_len _) (by rw [Exp.row_eq]; rfl) rfl
    rw [← hs1]
    apply pQ_r
    · exact o_loadAP hN (Exp.row_len _)
    refine pC_w (hkj s1 k1.free (hS.kp hf k1)) fun v s2 _ _ hq => ?_
    obtain ⟨hv, k2⟩ := hq
    obtain ⟨l, rfl, hdl2, hll, hls⟩ := hv.ex
    have k12 := k1.trans k2
    have hd2 : s2.heap d = some (.own j e') := (k12.keep d hdl (by simp)).trans hd
    have hS2 := hS.kp hf k12
    have hjl : ((cs.take j).map Ck.row).length = j := by simp; omega
    apply pQ_r
    · exact o_bsl (rows := [cs[j].row]) (by simp only [rowsL, PV.cells, hll, Nat.beq_refl, hdl2, cond_true])
    apply pQ_r
    · exact o_app (xs := [cs[j].row]) rfl rfl (by
        rw [hjl]
        exact Bool.and_eq_true_iff.2 ⟨Nat.ble_eq_true_of_le (by simp; omega), Nat.ble_eq_true_of_le (by simp; omega)⟩) ckRows_all (by rw [hjl]; exact hd2) (by rw [hjl]; exact he.imp id fun h => h.symm)
    have hf3 : Free (s2.set d (.own (((cs.take j).map Ck.row).length + [cs[j].row].length) 2)) := free_set k2.free (by rw [hd2]; simp)
    have hk3 : Kp s2 (s2.set d (.own (((cs.take j).map Ck.row).length + [cs[j].row].length) 2)) [d] := ⟨hf3, grows_set (by rw [hd2]; simp), fun b h1 h2 => by rw [St.set_ne2 (by simpa using h2)]⟩
    have hS3 : CkS (s2.set d (.own (((cs.take j).map Ck.row).length + [cs[j].row].length) 2)) cb mb M := hS2.keep (by rw [St.set_ne2 hdc.symm]) (by rw [St.set_ne2 hdm.symm])
    have hb3 := hS3.box
    have hself : (s2.set d (.own (((cs.take j).map Ck.row).length + [cs[j].row].length) 2)).heap d = some (.own (j + 1) 2) := by rw [St.set_self]; simp; omega
    generalize s2.set d (.own (((cs.take j).map Ck.row).length + [cs[j].row].length) 2) = s3 at hf3 hk3 hS3 hb3 hself ⊢
    apply pQ_r
    · exact o_asgA
    apply pQ_r
    · exact o_nilP
    apply pQ_r
    · exact o_faP
    apply pQ_r
    · exact o_load1P hb3 rfl
    apply pQ_r
    · exact o_bin (v := .bool false) (by kernel_rfl)
    refine cf ?_
    apply pQ_r
    · exact o_bin (v := .int .i64 (j + 1 : Nat)) (by
        show some (PV.int .i64 (IntKind.i64.wrap _)) = _
        rw [hw])
    have htk : (cs.take j).map Ck.row ++ [cs[j].row] = (cs.take (j + 1)).map Ck.row := by
      rw [List.take_add_one, List.map_append, List.getElem?_eq_getElem (by omega)]; rfl
    rw [htk]
    exact kids_loop hl hcl hk n (j + 1) s3 2 (by omega) hlt hf3 hS3 hself (.inr rfl) fun s' e'' q1 q2 q3 => hW s' e'' ((k12.mono (by simp)).trans (hk3.trans q1)) q2 q3
theorem j6_walk {form sub tk tl n m a : Int} {name : ByteArray} {ks : List (List PV)} {eb xb d : Nat} {rows : List (List PV)} {l : List PV} {s s0 : St} {Q : PV → St → Prop} (hf : Free s) (hS : CkS s cb mb M)
    (hE : s.heap eb = some (.box [.int .i64 form, .int .i64 sub, .str name, .int .i64 tk, .int .i64 tl, .int .i64 n, .int .i64 m, .lst ks, .int .i64 a])) (hx : s.heap xb = some (.box [.bool false, .nil])) (hxc : xb ≠ cb) (hec : eb ≠ cb) (hem : eb ≠ mb) (hxm : xb ≠ mb)
    (h : SC .top Tryz.prog (ruleF form) [.ptr cb 0, .agg [.int .i64 form, .int .i64 sub, .str name, .int .i64 tk, .int .i64 tl, .int .i64 n, .int .i64 m, .lst ks, .int .i64 a], .lst rows] (restrict s [cb, mb]) (.agg l) s0) (hl : l.length = 2) (hsc : l.all PV.scalar = true)
    (hQ : Q (.agg l) ((merge s [cb, mb] s0).set xb (.box l))) : g98j6 (.weak .top) Q (.ptr cb 0) (.ptr eb 0) (.ptr xb 0) (.acc d rows) s := by
  have hfp := hS.fp hf
  have hxl := free_lt hf hx
  have hel := free_lt hf hE
  have hn0 : s.next ≤ s0.next := h.grows.next
  have hxe : xb ≠ eb := by rintro rfl; rw [hx] at hE; cases hE
  have hx1 : (merge s [cb, mb] s0).heap xb = some (.box [.bool false, .nil]) := (merge_keep (by simp [hxc, hxm]) hxl).trans hx
  unfold g98j6
  apply pQL_r
  · exact o_faP
  apply pQL_r
  · exact o_load1P hE rfl
  refine pCL_s [cb, mb] (by simp) (fun _ _ _ => trivial) (WkL.refl _) (by simp [refsInL, refsIn]) (rule116_sc (E := .top) hf.restrict form) hfp ?_
  rw [merge_self hf]
  apply pQL_r
  · exact o_loadAP hE rfl
  refine pDynS_s (args := [.ptr cb 0, .agg [.int .i64 form, .int .i64 sub, .str name, .int .i64 tk, .int .i64 tl, .int .i64 n, .int .i64 m, .lst ks, .int .i64 a], .lst rows]) [cb, mb] (enters_rule form) (by simp) (fun _ _ _ => trivial) (.cons (wk_same _) (.cons (wk_same _) (.cons (wk_data rfl) (.refl [])))) (by simp [refsInL, refsIn]) h hfp ?_
  apply pQL_r
  · exact o_storeA hx1 hl hsc rfl
  refine ⟨?_, ?_⟩
  · simp [clashesB, clashInB, clashB, ids]
    exact ⟨fun _ => ⟨hec, hem⟩, ⟨hec.symm, hem.symm⟩, ⟨fun _ => ⟨hec, hem, fun h => by omega⟩, by kernel_rfl, fun _ => ⟨hec, hem, fun h => by omega⟩⟩, noBit (by kernel_rfl), noBit (by kernel_rfl), noBit (by kernel_rfl), noBit (by kernel_rfl)⟩
  · exact fin_s (resL1 (o_cellR (o_loadAP St.set_self hl))) hQ
theorem exp98 {form sub tk tl n m a : Int} {name : ByteArray} {kids : List Exp} {cs : List Ck} (hl : kids.length ≤ 100000) (hcl : cs.length = kids.length) (hk : ∀ (i : Nat) (h : i < kids.length) (h' : i < cs.length), ExpOk cb mb M kids[i] cs[i]) {P : List PV → St → St → Prop}
    (hR : ∀ s1, Free s1 → CkS s1 cb mb M → ∃ s0 l, SC .top Tryz.prog (ruleF form) [.ptr cb 0, .agg [.int .i64 form, .int .i64 sub, .str name, .int .i64 tk, .int .i64 tl, .int .i64 n, .int .i64 m, .lst (kids.map Exp.row), .int .i64 a], .lst (cs.map Ck.row)] s1 (.agg l) s0 ∧ l.length = 2 ∧ l.all PV.scalar = true ∧ P l s1 s0)
    {s : St} (hf : Free s) (hS : CkS s cb mb M) : SW .top Tryz.prog 98 [.ptr cb 0, .agg (Exp.mk form sub name tk tl n m kids a).row] s fun r s' => ∃ l s1 s0 xb, r = .agg l ∧ Kp s s1 [] ∧ CkS s1 cb mb M ∧ P l (restrict s1 [cb, mb]) s0 ∧ Free s0 ∧ Grows (restrict s1 [cb, mb]) s0 ∧ s.next ≤ xb ∧ s1.heap xb = some (.box [.bool false, .nil]) ∧ xb ≠ cb ∧ xb ≠ mb ∧ s' = (merge s1 [cb, mb] s0).set xb (.box l) := by
  have hlt := hS.lt hf
  have hrow : (Exp.mk form sub name tk tl n m kids a).row = [.int .i64 form, .int .i64 sub, .str name, .int .i64 tk, .int .i64 tl, .int .i64 n, .int .i64 m, .lst (kids.map Exp.row), .int .i64 a] := Exp.row_eq _
  rw [hrow]
  refine (g98_cd (.weak .top) _ _ ?_).sw hf
  obtain ⟨row, hr⟩ : ∃ row : List PV, row = [.int .i64 form, .int .i64 sub, .str name, .int .i64 tk, .int .i64 tl, .int .i64 n, .int .i64 m, .lst (kids.map Exp.row), .int .i64 a] := ⟨_, rfl⟩
  rw [← hr]
  obtain ⟨s3, hs3⟩ : ∃ s3, s3 = ((s.new (.box row)).new (.box [.bool false, .nil])).new (.own 0 0) := ⟨_, rfl⟩
  have k3 : Kp s s3 [] := by rw [hs3]; exact ((kp_new hf).trans (kp_new (free_new hf))).trans (kp_new (free_new (free_new hf)))
  have hn3 : s3.next = s.next + 3 := by rw [hs3]; rfl
  have hd : s3.heap (s.next + 2) = some (.own 0 0) := by rw [hs3]; exact St.new_at rfl
  have hxb : s3.heap (s.next + 1) = some (.box [.bool false, .nil]) := by rw [hs3]; exact (St.new_ne2 (n := s.next + 2) rfl (by omega)).trans (St.new_at rfl)
  have heb : s3.heap s.next = some (.box row) := by rw [hs3]; exact (St.new_ne2 (n := s.next + 2) rfl (by omega)).trans ((St.new_ne2 (n := s.next + 1) rfl (by omega)).trans (St.new_at rfl))
  unfold g98
  apply pQ_r
  · exact o_boxA (by rw [hr]; rfl) rfl
  apply pQ_r
  · exact o_box (n := s.next + 1) rfl
  apply pQ_r
  · exact o_own (n := s.next + 2) rfl
  rw [← hs3]
  apply pQ_r
  · exact o_faP
  apply pQ_r
  · exact o_load1P heb (v := .lst (kids.map Exp.row)) (by rw [hr]; rfl)
  apply pQ_r
  · exact o_lenL rfl
  rw [List.length_map]
  refine ⟨_, kids_loop (cs := cs) hl hcl hk kids.length 0 s3 0 (by omega) (by omega) k3.free (hS.kp hf k3) hd (.inl rfl) fun s' e' q1 q2 q3 => ?_⟩
  have k4 : Kp s s' [] := .of q1.free (Nat.le_trans k3.grows.next q1.grows.next) fun b hb => by rw [q1.keep b (by omega) (by simp; omega)]; exact k3.keep b hb (by simp)
  have hx' : s'.heap (s.next + 1) = some (.box [.bool false, .nil]) := (q1.keep _ (by omega) (by simp)).trans hxb
  have he' : s'.heap s.next = some (.box row) := (q1.keep _ (by omega) (by simp)).trans heb
  obtain ⟨s0, l, r1, r2, r3, r4⟩ := hR (restrict s' [cb, mb]) k4.free.restrict q2.restrict
  rw [hr] at he'
  exact j6_walk k4.free q2 he' hx' (by omega) (by omega) (by omega) (by omega) r1 r2 r3 ⟨l, s', s0, s.next + 1, rfl, k4, q2, r4, r1.free, r1.grows, by omega, hx', by omega, by omega, rfl⟩
theorem exp_ok (hM : ∀ n, (el M n).length ≤ 1000) {e : Exp} {c : Ck} (h : CE M e c) : ExpOk cb mb M e c := by
  induction h with
  | mk form sub name tk tl n m kids at' cs c h1 h2 h3 h4 ih =>
    intro s hf hS
    refine (exp98 h1 h2 ih (P := fun l s1 s0 => CkV (.agg l) c ∧ Kp s1 s0 []) (fun s1 hf1 hS1 => ?_) hf hS).mono fun r s' hq => ?_
    · obtain ⟨s0, v, r1, r2, r3⟩ := rule_sc (E := .top) (sub := sub) (tk := tk) (tl := tl) (m := m) (a := at') (ks := kids.map Exp.row) hM hf1 hS1 (by omega) (fun x hx => by
        obtain ⟨i, hi, rfl⟩ := List.getElem_of_mem hx
        exact (h3 i (by omega) hi).len hM) h4
      obtain ⟨l, rfl, _, g1, g2⟩ := r2.ex
      exact ⟨s0, l, r1, g1, g2, r2, r3⟩
    · obtain ⟨l, s1, s0, xb, rfl, k1, hS1, ⟨r2, r3⟩, hf0, hg0, hx, hxb, _, _, rfl⟩ := hq
      have k2 : Kp s1 (merge s1 [cb, mb] s0) [] := r3.merge k1.free (hS1.fp k1.free)
      have hxb' : (merge s1 [cb, mb] s0).heap xb = some (.box [.bool false, .nil]) := (k2.keep xb (free_lt k1.free hxb) (by simp)).trans hxb
      exact ⟨r2, kp_set (k1.trans k2) hx (by rw [hxb']; simp)⟩
theorem exp_bad (hM : ∀ n, (el M n).length ≤ 1000) {sub tk tl n m a : Int} {name : ByteArray} {k : Exp} {c : Ck} (hk : CE M k c) (hg : c.goes (el M name) = false) {s : St} (hf : Free s) (hS : CkS s cb mb M) :
    SW .top Tryz.prog 98 [.ptr cb 0, .agg (Exp.mk 9 sub name tk tl n m [k] a).row] s fun r s' => r = .agg [.bool true, .nil] ∧ CkB s' cb mb a ∧ Kp s s' [cb] := by
  refine (exp98 (kids := [k]) (cs := [c]) (by simp) rfl (fun i h h' => by
    have : i = 0 := by simpa using h
    subst this
    exact exp_ok hM hk) (P := fun l s1 s0 => l = [.bool true, .nil] ∧ CkB s0 cb mb a ∧ Kp s1 s0 [cb]) (fun s1 hf1 hS1 => ?_) hf hS).mono fun r s' hq => ?_
  · obtain ⟨s0, v, r1, r2⟩ := when_sc (E := .top) (form := 9) (sub := sub) (name := name) (tk := tk) (tl := tl) (n := n) (m := m) (a := a) (ks := [k].map Exp.row) hf1 hS1 c (hM name) (by have := hk.len hM; omega)
    rw [hg] at r2
    obtain ⟨rfl, r3, r4⟩ := r2
    rw [show ruleF 9 = 136 by simp [ruleF]]
    exact ⟨s0, _, r1, rfl, rfl, rfl, r3, r4⟩
  · obtain ⟨l, s1, s0, xb, rfl, k1, hS1, ⟨rfl, r2, r3⟩, hf0, hg0, hx, hxb, hxc, hxm, rfl⟩ := hq
    have hfp := hS1.fp k1.free
    have k2 : Kp s1 (merge s1 [cb, mb] s0) [cb] := r3.merge k1.free hfp
    have hxl := free_lt k1.free hxb
    have hxb' : (merge s1 [cb, mb] s0).heap xb = some (.box [.bool false, .nil]) := (k2.keep xb hxl (by simpa using hxc)).trans hxb
    have hxs : xb ∉ [cb] := by simpa using hxc
    refine ⟨rfl, ?_, ?_⟩
    · obtain ⟨bb, e1, e2⟩ := r2
      have hbl : bb < s0.next := free_lt hf0 e2
      have hbm : (merge s1 [cb, mb] s0).heap bb = some (.box [.int .i64 a]) := by
        rw [merge_mine]
        · exact e2
        · by_cases hm : bb ∈ [cb, mb]
          · exact .inl hm
          · refine .inr ⟨?_, hbl⟩
            apply Nat.le_of_not_lt
            intro hlt
            have hh := hg0.none bb hlt (restrict_none hm)
            rw [e2] at hh; cases hh
      refine ⟨bb, ?_, ?_⟩
      · rw [St.set_ne2 hxc.symm, merge_mine (.inl (by simp))]; exact e1
      · rw [St.set_ne2 (by rintro rfl; rw [hxb'] at hbm; cases hbm)]; exact hbm
    · have k12 := (k1.mono (ex' := [cb]) (by simp)).trans k2
      exact ⟨free_set k12.free (by rw [hxb']; simp), k12.grows.trans (grows_set (by rw [hxb']; simp)), fun b h1 h2 => by rw [St.set_ne2 (by omega)]; exact k12.keep b h1 h2⟩
end
end Go.Vi
namespace Go.Vi
open Go.Proofs
mutual
def prV : Exp → List PV
  | .mk f s n tk tl nn m kids a => .agg (Exp.mk f s n tk tl nn m kids a).row :: prVs kids
def prVs : List Exp → List PV
  | [] => []
  | k :: r => prV k ++ prVs r
end
def BK (lb : Nat) (s s' : St) : Prop := ∀ b cs, s.heap b = some (.box cs) → b ≠ lb → s'.heap b = some (.box cs)
structure RndK (E : Env) (L lb : Nat) (xs : List PV) (I : List PV → St → Prop) : Prop where
  stable : ∀ {pre s s'}, I pre s → Free s → Free s' → s.next ≤ s'.next → (∀ b, b < s.next → s'.heap b = s.heap b) → I pre s'
  lt : ∀ {pre s}, I pre s → Free s → lb < s.next
  round : ∀ pre x post s, xs = pre ++ x :: post → I pre s → Free s → YW E Tryz.prog L [x] s fun r s' => r = .bool true ∧ I (pre ++ [x]) s' ∧ BK lb s s'
attribute [local irreducible] qAsg qPick qBox qBuild qBsl qLoad1 qLoadN qStore qNil qBin qUn qConv qSlS qSlL qFA qF1 qFN qIA qIS qEx qLenS qLenL qApp pQ pQL pGL pCall pCallL condP optP pEnd OpS Int.instDecidableEq Int.decEq instBEqOfDecidableEq qBslN qMin qIf qAs lookupQ updateQ deleteQ pC pCL pGU pDyn pRng
section
variable {E : Env} {L lb : Nat} {xs : List PV} {I : List PV → St → Prop}
def PrOk (E : Env) (L : Nat) (xs : List PV) (I : List PV → St → Prop) (e : Exp) : Prop := ∀ pre post s, xs = pre ++ (prV e ++ post) → I pre s → Free s → SW E Tryz.prog 157 [.agg e.row, .yield L] s fun r s' => r = .bool true ∧ I (pre ++ prV e) s'
theorem pr_loop (hR : RndK E L lb xs I) {ks : List Exp} (hk : ∀ k, k ∈ ks → PrOk E L xs I k) (hl : ks.length ≤ 100000) {Q : PV → St → Prop} {fin : List PV} (hQ : ∀ s, I fin s → Free s → Q (.bool true) s) : ∀ (n i : Nat), ks.length - i = n → i ≤ ks.length → ∀ (pre post : List PV) (s : St), xs = pre ++ (prVs (ks.drop i) ++ post) → pre ++ prVs (ks.drop i) = fin → I pre s → Free s →
    g157l16 (.weak E) Q (n + 1) (.yield L) (.lst (ks.map Exp.row)) (.int .i64 ks.length) (.int .i64 i) s
  | 0, i, hi, hi2, pre, post, s, hx, hfin, hI, hf => by
    rw [List.drop_of_length_le (by omega)] at hfin
    simp only [prVs, List.append_nil] at hfin
    subst hfin
    show g157l16b _ _ _ _ _ _ _ _
    unfold g157l16b
    refine zw ?_
    refine cond_f (by simp; omega) ?_
    unfold g157j8
    exact fin_s rfl (hQ s hI hf)
  | n + 1, i, hi, hi2, pre, post, s, hx, hfin, hI, hf => by
    have hlt : i < ks.length := by omega
    have hki : ks[i]? = some ks[i] := List.getElem?_eq_getElem hlt
    rw [List.drop_eq_getElem_cons hlt] at hx hfin
    simp only [prVs] at hx hfin
    show g157l16b _ _ _ _ _ _ _ _
    unfold g157l16b
    refine zw ?_
    refine cond_t (by simpa using hlt) ?_
    apply pQ_r
    · exact o_iaL (by omega) (row := ks[i].row) (by rw [List.getElem?_map]; simp [hki]) ks[i].row_len
    apply pQ_r
    · exact o_loadAE ks[i].row_len
    apply pQ_r
    · exact o_box rfl
    apply pQ_r
    · exact o_storeA (St.new_at rfl) ks[i].row_len (by rw [Exp.row_eq]; rfl) rfl
    apply pQ_r
    · exact o_loadAP St.set_self ks[i].row_len
    have k2 : Kp s ((s.new (.box zE)).set s.next (.box ks[i].row)) [] := kp_set (kp_new hf) (Nat.le_refl _) (by rw [St.new_at rfl]; simp)
    have hI2 : I pre ((s.new (.box zE)).set s.next (.box ks[i].row)) := hR.stable hI hf k2.free k2.grows.next fun b hb => k2.keep b hb (by simp)
    refine pC_w (hk ks[i] (List.getElem_mem hlt) pre (prVs (ks.drop (i + 1)) ++ post) _ (by rw [hx]; simp) hI2 k2.free) fun v s' hG hf' hq => ?_
    obtain ⟨rfl, hI'⟩ := hq
    apply pQ_r
    · exact o_not
    refine cf ?_
    apply pQ_r
    · exact o_bin (v := .int .i64 (i + 1 : Nat)) (by
        show some (PV.int .i64 (IntKind.i64.wrap _)) = _
        rw [wrap64 (by omega) (by omega)]; simp)
    exact pr_loop hR hk hl hQ n (i + 1) (by omega) hlt (pre ++ prV ks[i]) post s' (by rw [hx]; simp) (by rw [← hfin]; simp) hI' hf'
theorem pr_ok (hR : RndK E L lb xs I) {e : Exp} (he : e.WF) : PrOk E L xs I e := by
  induction he with
  | mk form sub name tk tl n m kids at' har hf0 hs hs' ht hk ih =>
    intro pre post s hx hI hf
    have hkl : kids.length ≤ 100000 := har.2.2.2.2
    have hrow : (Exp.mk form sub name tk tl n m kids at').row = [.int .i64 form, .int .i64 sub, .str name, .int .i64 tk, .int .i64 tl, .int .i64 n, .int .i64 m, .lst (kids.map Exp.row), .int .i64 at'] := Exp.row_eq _
    have hQ : ∀ s', I (pre ++ prV (.mk form sub name tk tl n m kids at')) s' → Free s' → (fun (r : PV) (s' : St) => r = .bool true ∧ I (pre ++ prV (.mk form sub name tk tl n m kids at')) s') (.bool true) s' := fun s' h _ => ⟨rfl, h⟩
    generalize (fun (r : PV) (s' : St) => r = .bool true ∧ I (pre ++ prV (.mk form sub name tk tl n m kids at')) s') = Q at hQ
    have hp : prV (.mk form sub name tk tl n m kids at') = .agg (Exp.mk form sub name tk tl n m kids at').row :: prVs kids := by simp only [prV]
    rw [hp] at hQ hx
    generalize (Exp.mk form sub name tk tl n m kids at').row = row at hrow hQ hx ⊢
    obtain ⟨s1, hs1⟩ : ∃ s1, s1 = s.new (.box row) := ⟨_, rfl⟩
    have k1 : Kp s s1 [] := by rw [hs1]; exact kp_new hf
    have hb1 : s1.heap s.next = some (.box row) := by rw [hs1]; exact St.new_self
    refine (g157_cd (.weak E) _ _ ?_).sw hf
    unfold g157
    apply pQ_r
    · exact o_boxA (by rw [hrow]; rfl) rfl
    rw [← hs1]
    apply pQ_r
    · exact o_loadAP hb1 (by rw [hrow]; rfl)
    refine pDyn_w (.inr (.inl ⟨L, [.agg row], rfl, hR.round pre (.agg row) (prVs kids ++ post) s1 (by rw [hx]; simp) (hR.stable hI hf k1.free k1.grows.next fun b hb => k1.keep b hb (by simp)) k1.free⟩)) fun v s' hG hf' hq => ?_
    obtain ⟨rfl, hI', hB⟩ := hq
    have hlb := hR.lt hI hf
    have hb2 := hB _ _ hb1 (by omega)
    apply pQ_r
    · exact o_not
    refine cf ?_
    apply pQ_r
    · exact o_faP
    apply pQ_r
    · exact o_load1P hb2 (v := .lst (kids.map Exp.row)) (by rw [hrow]; rfl)
    apply pQ_r
    · exact o_lenL rfl
    rw [List.length_map]
    exact ⟨_, pr_loop hR ih hkl hQ kids.length 0 (by omega) (by omega) (pre ++ [.agg row]) post s' (by rw [hx]; simp) (by simp) hI' hf'⟩
theorem parts_sw (hR : RndK E L lb xs I) {e : Exp} (he : e.WF) (hx : xs = prV e) {s : St} (hf : Free s) (hI : I [] s) {eb : Nat} (hb : s.heap eb = some (.box e.row)) : SW E Tryz.prog 156 [.yield L, .ptr eb 0] s fun _ s' => I xs s' := by
  refine (g156_cd (.weak E) _ _ ?_).sw hf
  unfold g156
  apply pQ_r
  · exact o_loadAP hb e.row_len
  refine pC_w (pr_ok hR he [] [] s (by rw [hx]; simp) hI hf) fun v s' hG hf' hq => ?_
  have h2 := hq.2
  rw [List.nil_append, ← hx] at h2
  exact fin_s (Q := fun _ s' => I xs s') rfl h2
end
theorem use_sw {E : Env} {e : Exp} {s : St} (hf : Free s) : SW E Tryz.prog 115 [.agg e.row] s fun r s' => (∃ n u, r = .tuple [.str n, .bool u]) ∧ Kp s s' [] := by
  obtain ⟨row, hrow⟩ : ∃ row, row = e.row := ⟨_, rfl⟩
  have he := Exp.row_eq e
  rw [← hrow] at he ⊢
  have k1 : Kp s (s.new (.box row)) [] := kp_new hf
  have hQ : ∀ n u, (fun (r : PV) (s' : St) => (∃ n u, r = .tuple [.str n, .bool u]) ∧ Kp s s' []) (.tuple [.str n, .bool u]) (s.new (.box row)) := fun n u => ⟨⟨n, u, rfl⟩, k1⟩
  generalize (fun (r : PV) (s' : St) => (∃ n u, r = .tuple [.str n, .bool u]) ∧ Kp s s' []) = Q at hQ
  have hb : (s.new (.box row)).heap s.next = some (.box row) := St.new_at rfl
  refine (g115_cd (.weak E) _ ?_).sw hf
  unfold g115
  apply pQ_r
  · exact o_boxA (by rw [he]; rfl) rfl
  generalize s.new (.box row) = s1 at hb hQ ⊢
  rw [he] at hb
  have j6 : g115j6 (.weak E) Q (.ptr s.next 0) s1 := by
    unfold g115j6
    refine zw ?_
    exact fin_s rfl (hQ _ _)
  have j19 : ∀ u, g115j19 (.weak E) Q (.ptr s.next 0) (.bool u) s1 := fun u => by
    unfold g115j19
    refine cond_0 j6 ?_
    exact fin_s rfl (hQ _ _)
  refine zw ?_
  refine cond_0 j6 ?_
  refine zw ?_
  refine cond_0 (j19 _) ?_
  refine zw ?_
  exact j19 _
structure UsI (s0 : St) (fb lb : Nat) (pre : List PV) (s : St) : Prop where
  kp : ∀ b, b < s0.next → b ≠ lb → s.heap b = s0.heap b
  next : s0.next ≤ s.next
  grows : Grows s0 s
  fn : s.heap fb = some (.box [.fn 115 []])
  lst : s.heap lb = some (.box [.nil]) ∨ ∃ ab rows, s.heap lb = some (.box [.acc ab rows]) ∧ s.heap ab = some (.own rows.length 1) ∧ s0.next ≤ ab ∧ rows.all (fun r => Nat.beq r.length 1) = true ∧ rows.length ≤ pre.length
end Go.Vi
