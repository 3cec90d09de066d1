/- Part of the proof of ClocksDeep (own work). -/
import Derived.Test.YtlonlfiaclacdaaGreatB4
import Derived.Test.YtlonlfiaclacdaaGreatC1
import Derived.IntWalk
set_option linter.all false
set_option maxRecDepth 100000
namespace Go.Vi
def OpS (x : Option Req) (s : St) (v : PV) (s' : St) (rd wr : List Nat) : Prop := ∃ q, x = some q ∧ q.run s = some (v, s') ∧ q.rd = rd ∧ q.wr = wr
section
variable {P : Program} {s s' s0 s1 : St} {k : PV → St → Prop} {kl : PV → St → List Nat → List Nat → Prop} {v : PV} {x : Option Req} {rd wr : List Nat}
theorem pQ_r (h : OpS x s v s' rd wr) (hk : k v s') : pQ x s k := by
  obtain ⟨q, h1, h2, _⟩ := h
  exact pQ_i h1 h2 hk
theorem pQL_r (h : OpS x s v s' rd wr) (hk : kl v s' rd wr) : pQL x s kl := by
  obtain ⟨q, h1, h2, rfl, rfl⟩ := h
  exact pQL_i h1 h2 hk
theorem gk_t (hk : kl v s1 [] []) : pGL (.bool true) true (fun k => k v s1 [] []) kl s0 := hk
theorem gk_f (hk : kl v s1 [] []) : pGL (.bool false) false (fun k => k v s1 [] []) kl s0 := hk
theorem gq_t (h1 : OpS x s v s' rd wr) (hk : kl v s' rd wr) : pGL (.bool true) true (fun k => pQL x s k) kl s0 := pQL_r h1 hk
theorem gq_f (h1 : OpS x s v s' rd wr) (hk : kl v s' rd wr) : pGL (.bool false) false (fun k => pQL x s k) kl s0 := pQL_r h1 hk
theorem gc_t {f : FuncId} {vs : List PV} (h1 : pCallL P f vs s kl) : pGL (.bool true) true (fun k => pCallL P f vs s k) kl s0 := h1
theorem gc_f {f : FuncId} {vs : List PV} (h1 : pCallL P f vs s kl) : pGL (.bool false) false (fun k => pCallL P f vs s k) kl s0 := h1
theorem gs_t {X : (PV → St → List Nat → List Nat → Prop) → Prop} (hk : kl .undef s [] []) : pGL (.bool true) false X kl s := hk
theorem gs_f {X : (PV → St → List Nat → List Nat → Prop) → Prop} (hk : kl .undef s [] []) : pGL (.bool false) true X kl s := hk
theorem gs_u {want : Bool} {X : (PV → St → List Nat → List Nat → Prop) → Prop} (hk : kl .undef s [] []) : pGL .undef want X kl s := hk
theorem ct {A B : Prop} (h : A) : condP (.bool true) A B := cond_t rfl h
theorem cf {A B : Prop} (h : B) : condP (.bool false) A B := cond_f rfl h
theorem cond_i {b : Bool} {A B : Prop} (h : b = true → A) (h' : b = false → B) : condP (.bool b) A B := ⟨h, h'⟩
theorem fin_i {l : Option (List PV)} {l' : List PV} {e n : Nat} {r : PV} {c : List (List PV)} {Q : PV → List (List PV) → Prop} (h0 : l = some l') (h : (bif Nat.beq e 0 then back0 (tupP l') else backV e s (tupP l')) = some r) (h2 : getBoxes s (List.range n) = some c) (hk : Q r c) :
    optP l fun l => pEnd e n (tupP l) s Q := by
  subst h0
  exact pEnd_i h h2 hk
end
section
variable {P : Program} {s : St} {v x y : PV} {b o n off size : Nat} {cs cs' row l : List PV} {rows : List (List PV)} {i : Int} {kk : IntKind}
theorem o_val {v : PV} : OpS (some (.val v)) s v s [] [] := ⟨_, rfl, rfl, rfl, rfl⟩
theorem o_box (h : s.next = n) : OpS (some (.box cs fun b => .ptr b 0)) s (.ptr n 0) (s.new (.box cs)) [] [] := by subst h; exact ⟨_, rfl, rfl, rfl, rfl⟩
theorem o_own (h : s.next = n) : OpS (some (.own 0 0 fun b => .acc b [])) s (.acc n []) (s.new (.own 0 0)) [] [] := by subst h; exact ⟨_, rfl, rfl, rfl, rfl⟩
theorem o_boxA (hx : l.all PV.scalar = true) (h : s.next = n) : OpS (qBox (.agg l)) s (.ptr n 0) (s.new (.box l)) [] [] := by
  subst h
  refine ⟨.box l fun b => .ptr b 0, ?_, rfl, rfl, rfl⟩
  show (bif l.all PV.scalar then _ else _) = _
  rw [hx]; rfl
theorem o_boxI (h : s.next = n) : OpS (qBox (.int kk i)) s (.ptr n 0) (s.new (.box [.int kk i])) [] [] := by subst h; exact ⟨_, rfl, rfl, rfl, rfl⟩
theorem o_nilP : OpS (qNil (.ptr b o)) s (.ptr b o) s [] [] := o_val
theorem o_nilE : OpS (qNil (.eptr row o)) s (.eptr row o) s [] [] := o_val
theorem o_faP : OpS (qFA off (.ptr b o)) s (.ptr b (o + off)) s [] [] := o_val
theorem o_faE : OpS (qFA off (.eptr row o)) s (.eptr row (o + off)) s [] [] := o_val
theorem o_load1P (h : s.heap b = some (.box cs)) (h2 : cs[o]? = some v) : OpS (qLoad1 (.ptr b o)) s v s [b] [] := ⟨_, rfl, by simp only [Req.run, h, h2], rfl, rfl⟩
theorem o_load1E (h2 : row[o]? = some v) : OpS (qLoad1 (.eptr row o)) s v s [] [] := ⟨.val v, by simp only [qLoad1, h2], rfl, rfl, rfl⟩
theorem o_loadAP (h : s.heap b = some (.box cs)) (h2 : cs.length = n) : OpS (qLoadN n (.ptr b 0)) s (.agg cs) s [b] [] := by
  subst h2
  refine ⟨_, rfl, ?_, rfl, rfl⟩
  simp [Req.run, h, cutN]
theorem o_loadNP (h : s.heap b = some (.box cs)) (h2 : cutN n cs o = some v) : OpS (qLoadN n (.ptr b o)) s v s [b] [] := ⟨_, rfl, by simp only [Req.run, h, h2], rfl, rfl⟩
theorem o_loadAE (h2 : row.length = n) : OpS (qLoadN n (.eptr row 0)) s (.agg row) s [] [] := by
  subst h2
  refine ⟨.val (.agg row), ?_, rfl, rfl, rfl⟩
  simp [qLoadN, cutN]
theorem o_loadNE (h2 : cutN n row o = some v) : OpS (qLoadN n (.eptr row o)) s v s [] [] := ⟨.val v, by simp only [qLoadN, h2], rfl, rfl, rfl⟩
theorem splice1 {cs : List PV} {o : Nat} {x : PV} (h : o < cs.length) : spliceP cs o [x] = some (cs.set o x) := by
  unfold spliceP
  rw [if_pos (by simp; omega), List.set_eq_take_append_cons_drop, if_pos h]
  simp
theorem o_store1 (h : s.heap b = some (.box cs)) (hx : x.scalar = true) (ho : Nat.blt o cs.length = true) (hs : cs.set o x = cs') : OpS (qStore 1 x (.ptr b o)) s .undef (s.set b (.box cs')) [] [b] := by
  subst hs
  have hc : x.cells = [x] := by cases x <;> first | rfl | cases hx
  refine ⟨.store b fun cs => spliceP cs o x.cells, ?_, ?_, rfl, rfl⟩
  · show (bif Nat.beq x.cells.length 1 && x.cells.all PV.scalar then _ else _) = _
    rw [hc]; simp [hx]
  · simp only [Req.run, h, hc]
    rw [splice1 (by simp [Nat.blt] at ho; omega)]
theorem o_storeA (h : s.heap b = some (.box cs)) (hl : l.length = n) (hx : l.all PV.scalar = true) (ho : cs.length = n) : OpS (qStore n (.agg l) (.ptr b 0)) s .undef (s.set b (.box l)) [] [b] := by
  subst hl
  refine ⟨.store b fun cs => spliceP cs 0 l, ?_, ?_, rfl, rfl⟩
  · show (bif Nat.beq l.length l.length && l.all PV.scalar then _ else _) = _
    rw [hx]; simp; rfl
  · simp [Req.run, h, spliceP, ho, List.drop_eq_nil_of_le (Nat.le_of_eq ho)]
theorem o_storeN (h : s.heap b = some (.box cs)) (hl : l.length = n) (hx : l.all PV.scalar = true) (ho : spliceP cs o l = some cs') : OpS (qStore n (.agg l) (.ptr b o)) s .undef (s.set b (.box cs')) [] [b] := by
  subst hl
  refine ⟨.store b fun cs => spliceP cs o l, ?_, ?_, rfl, rfl⟩
  · show (bif Nat.beq l.length l.length && l.all PV.scalar then _ else _) = _
    rw [hx]; simp; rfl
  · simp only [Req.run, h, ho]
theorem o_asgI : OpS (qAsg (.int kk i)) s (.int kk i) s [] [] := o_val
theorem o_asgB {c : Bool} : OpS (qAsg (.bool c)) s (.bool c) s [] [] := o_val
theorem o_asgS {c : ByteArray} : OpS (qAsg (.str c)) s (.str c) s [] [] := o_val
theorem o_asgL : OpS (qAsg (.lst rows)) s (.lst rows) s [] [] := o_val
theorem o_asgA : OpS (qAsg (.acc b rows)) s (.acc b rows) s [] [] := o_val
theorem o_asgG : OpS (qAsg (.agg l)) s (.agg l) s [] [] := o_val
theorem o_asgT : OpS (qAsg (.tuple l)) s (.tuple l) s [] [] := o_val
theorem o_asgP : OpS (qAsg (.ptr b o)) s (.ptr b o) s [] [] := o_val
theorem o_asgE : OpS (qAsg (.eptr row o)) s (.eptr row o) s [] [] := o_val
theorem o_asgN (h : s.next = n) : OpS (qAsg .nil) s (.acc n []) (s.new (.own 0 0)) [] [] := o_own h
theorem o_bin {op : BinOp} {t : TypeId} (h : binP P op t x y = some v) : OpS (qBin P op t x y) s v s [] [] := ⟨.val v, by simp only [qBin, h], rfl, rfl, rfl⟩
theorem o_pickT : OpS (qPick (.bool true) x y) s x s [] [] := o_val
theorem o_pickF : OpS (qPick (.bool false) x y) s y s [] [] := o_val
theorem o_pickB {c d e : Bool} : OpS (qPick (.bool c) (.bool d) (.bool e)) s (.bool (bif c then d else e)) s [] [] := by cases c <;> exact o_val
theorem o_not {c : Bool} : OpS (qUn .not (.bool c)) s (.bool !c) s [] [] := o_val
theorem o_neg : OpS (qUn .neg (.int kk i)) s (.int kk (kk.wrap (0 - i))) s [] [] := o_val
theorem o_conv {k2 : IntKind} : OpS (qConv kk (.int k2 i)) s (.int kk (kk.wrap i)) s [] [] := o_val
theorem o_lenL (h : x.rows = some rows) : OpS (qLenL x) s (.int .i64 rows.length) s [] [] := ⟨.val _, by
  unfold qLenL
  cases x with
  | bsl _ _ => cases h
  | _ => simp only [h], rfl, rfl, rfl⟩
theorem o_lenS {t : ByteArray} : OpS (qLenS (.str t)) s (.int .i64 t.size) s [] [] := o_val
theorem o_f1 (h : l[off]? = some v) : OpS (qF1 off (.agg l)) s v s [] [] := ⟨.val v, by simp only [qF1, h], rfl, rfl, rfl⟩
theorem o_fN (h : cutN n l off = some v) : OpS (qFN off n (.agg l)) s v s [] [] := ⟨.val v, by simp only [qFN, h], rfl, rfl, rfl⟩
theorem o_ex {ix : Nat} (h : l[ix]? = some v) : OpS (qEx ix (.tuple l)) s v s [] [] := ⟨.val v, by simp only [qEx, h], rfl, rfl, rfl⟩
theorem o_bsl (h : rowsL size l = some rows) (h0 : lstP rows = .lst rows := by rfl) : OpS (qBsl size l) s (.lst rows) s [] [] := ⟨.val (.lst rows), by simp only [qBsl, h, h0], rfl, rfl, rfl⟩
theorem o_build {z : List PV} {parts : List (Option (Nat × Nat) × PV)} (h : (parts.map Prod.snd).all PV.solid = true) (h2 : fillL z parts = some l) : OpS (qBuild z parts) s (.agg l) s [] [] := ⟨.val _, by simp only [qBuild, h, h2]; rfl, rfl, rfl, rfl⟩
theorem rowAt_of {sz : Nat} {rows : List (List PV)} {i : Nat} {row : List PV} (h : rows[i]? = some row) (hl : row.length = sz) : rowAt sz rows i = some (.eptr row 0) := by
  unfold rowAt; rw [h]; simp [hl]
theorem o_iaL (h0 : 0 ≤ i) (h : rows[i.toNat]? = some row) (hl : row.length = size) : OpS (qIA size (.lst rows) (.int kk i)) s (.eptr row 0) s [] [] :=
  ⟨.val (.eptr row 0), by unfold qIA; simp only [natOf]; rw [if_pos h0]; simp only [rowAt_of h hl], rfl, rfl, rfl⟩
theorem o_iaA (h0 : 0 ≤ i) (h : rows[i.toNat]? = some row) (hl : row.length = size) : OpS (qIA size (.acc b rows) (.int kk i)) s (.eptr row 0) s [] [] :=
  ⟨.val (.eptr row 0), by unfold qIA; simp only [natOf]; rw [if_pos h0]; simp only [rowAt_of h hl], rfl, rfl, rfl⟩
theorem o_is {t : ByteArray} {c : UInt8} (h0 : 0 ≤ i) (h : t[i.toNat]? = some c) : OpS (qIS (.str t) (.int kk i)) s (.int .u8 c.toNat) s [] [] :=
  ⟨.val _, by unfold qIS; simp only [natOf]; rw [if_pos h0]; simp only [h], rfl, rfl, rfl⟩
theorem o_app {bytes : Nat} {xs : List (List PV)} {e' : Nat} (hx : x.rows = some xs) (ha : xs.all (fun r => Nat.beq r.length size) = true) (hf : Go.Ab.sizeFits (rows.length + xs.length) bytes = true) (hr : rows.all (fun r => Nat.beq r.length size) = true)
    (hb : s.heap b = some (.own rows.length e')) (he : rows.length = 0 ∨ size = e') : OpS (qApp size bytes (.acc b rows) x) s (.acc b (rows ++ xs)) (s.set b (.own (rows.length + xs.length) size)) [] [b] := by
  refine ⟨.push b rows.length size xs.length (.acc b (rows ++ xs)), ?_, ?_, rfl, rfl⟩
  · simp only [qApp, hx, ha, hf, hr]; rfl
  · simp only [Req.run, hb]
    have : (Nat.beq rows.length rows.length && (Nat.beq rows.length 0 || Nat.beq size e')) = true := by
      rcases he with h | h <;> simp [h]
    rw [this]; rfl
theorem o_appN {bytes : Nat} {xs : List (List PV)} (hx : x.rows = some xs) (ha : xs.all (fun r => Nat.beq r.length size) = true) (hf : Go.Ab.sizeFits xs.length bytes = true)
    (h : s.next = n) : OpS (qApp size bytes .nil x) s (.acc n xs) (s.new (.own xs.length size)) [] [] := by
  subst h
  refine ⟨.own xs.length size fun b => .acc b xs, ?_, rfl, rfl, rfl⟩
  simp only [qApp, hx, ha, hf]; rfl
theorem o_slS {lo hi : Bool} {t : ByteArray} {r r2 : List PV} {r1 : List PV} {a c : Option Nat} (h1 : takeB lo r = some (a, r1)) (h2 : takeB hi r1 = some (c, r2)) (h3 : c.getD t.size ≤ t.size) (h4 : a.getD 0 ≤ c.getD t.size) :
    OpS (qSlS lo hi (.str t) r) s (.str (t.extract (a.getD 0) (c.getD t.size))) s [] [] :=
  ⟨.val _, by simp only [qSlS, h1, h2, slStr]; rw [if_pos ⟨h3, h4⟩], rfl, rfl, rfl⟩
theorem o_slL {lo hi : Bool} {r r2 : List PV} {r1 : List PV} {a c : Option Nat} (hx : x.rows = some rows) (h1 : takeB lo r = some (a, r1)) (h2 : takeB hi r1 = some (c, r2)) (h3 : c.getD rows.length ≤ rows.length) (h4 : a.getD 0 ≤ c.getD rows.length) (h5 : rows.all (fun r => Nat.beq r.length size) = true) :
    OpS (qSlL size lo hi x r) s (.lst ((rows.drop (a.getD 0)).take (c.getD rows.length - a.getD 0))) s [] [] :=
  ⟨.val _, by
  simp only [qSlL, h1, h2]
  cases x with
  | bsl _ _ => cases hx
  | _ => simp only [slLst, hx]; rw [if_pos ⟨h3, h4, h5⟩], rfl, rfl, rfl⟩
end
def stL (l : List Obj) (hp : Nat → Option Obj) (n : Nat) : St := ⟨fun b => (l[b]?).or (hp b), n⟩
theorem stL_of {s : St} {l : List Obj} {n : Nat} (h : ∀ i, i < l.length → s.heap i = l[i]?) (hn : s.next = n) : s = stL l s.heap n := by
  subst hn
  cases s with | mk hp n =>
  simp only [stL, St.mk.injEq, and_true]
  funext b
  by_cases hb : b < l.length
  · rw [show hp b = l[b]? from h b hb]; simp
  · rw [List.getElem?_eq_none (by omega)]; rfl
theorem stL_of1 {s : St} {o0 : Obj} {n : Nat} (h0 : s.heap 0 = some o0) (hn : s.next = n) : s = stL [o0] s.heap n := stL_of (fun i hi => by
  match i, hi with
  | 0, _ => exact h0) hn
theorem stL_of2 {s : St} {o0 o1 : Obj} {n : Nat} (h0 : s.heap 0 = some o0) (h1 : s.heap 1 = some o1) (hn : s.next = n) : s = stL [o0, o1] s.heap n := stL_of (fun i hi => by
  match i, hi with
  | 0, _ => exact h0
  | 1, _ => exact h1) hn
theorem stL_of3 {s : St} {o0 o1 o2 : Obj} {n : Nat} (h0 : s.heap 0 = some o0) (h1 : s.heap 1 = some o1) (h2 : s.heap 2 = some o2) (hn : s.next = n) : s = stL [o0, o1, o2] s.heap n := stL_of (fun i hi => by
  match i, hi with
  | 0, _ => exact h0
  | 1, _ => exact h1
  | 2, _ => exact h2) hn
theorem stL_of4 {s : St} {o0 o1 o2 o3 : Obj} {n : Nat} (h0 : s.heap 0 = some o0) (h1 : s.heap 1 = some o1) (h2 : s.heap 2 = some o2) (h3 : s.heap 3 = some o3) (hn : s.next = n) : s = stL [o0, o1, o2, o3] s.heap n := stL_of (fun i hi => by
  match i, hi with
  | 0, _ => exact h0
  | 1, _ => exact h1
  | 2, _ => exact h2
  | 3, _ => exact h3) hn
theorem stL_to4 (C : St → Prop) {s : St} {o0 o1 o2 o3 : Obj} {n : Nat} (h0 : s.heap 0 = some o0) (h1 : s.heap 1 = some o1) (h2 : s.heap 2 = some o2) (h3 : s.heap 3 = some o3) (hn : s.next = n) (h : ∀ hp, C (stL [o0, o1, o2, o3] hp n)) : C s := by rw [stL_of4 h0 h1 h2 h3 hn]; exact h _
theorem stL_to1 (C : St → Prop) {s : St} {o0 : Obj} {n : Nat} (h0 : s.heap 0 = some o0) (hn : s.next = n) (h : ∀ hp, C (stL [o0] hp n)) : C s := by rw [stL_of1 h0 hn]; exact h _
theorem stL_to2 (C : St → Prop) {s : St} {o0 o1 : Obj} {n : Nat} (h0 : s.heap 0 = some o0) (h1 : s.heap 1 = some o1) (hn : s.next = n) (h : ∀ hp, C (stL [o0, o1] hp n)) : C s := by rw [stL_of2 h0 h1 hn]; exact h _
theorem stL_to3 (C : St → Prop) {s : St} {o0 o1 o2 : Obj} {n : Nat} (h0 : s.heap 0 = some o0) (h1 : s.heap 1 = some o1) (h2 : s.heap 2 = some o2) (hn : s.next = n) (h : ∀ hp, C (stL [o0, o1, o2] hp n)) : C s := by rw [stL_of3 h0 h1 h2 hn]; exact h _
theorem St.set_self {s : St} {b : Nat} {o : Obj} : (s.set b o).heap b = some o := by simp [St.set]
theorem St.new_self {s : St} {o : Obj} : (s.new o).heap s.next = some o := by simp [St.new]
theorem St.new_at {s : St} {o : Obj} {n : Nat} (h : s.next = n) : (s.new o).heap n = some o := by subst h; exact St.new_self
theorem St.set_ne {s : St} {b b' : Nat} {o : Obj} (h : Nat.beq b' b = false) : (s.set b o).heap b' = s.heap b' := by simp only [St.set, h, cond_false]
theorem St.new_ne {s : St} {b' : Nat} {o : Obj} (h : Nat.beq b' s.next = false) : (s.new o).heap b' = s.heap b' := by simp only [St.new, h, cond_false]
theorem nbeq {a b : Nat} (h : a ≠ b) : Nat.beq a b = false := by
  cases h2 : Nat.beq a b
  · rfl
  · exact absurd (Nat.eq_of_beq_eq_true h2) h
theorem St.set_ne2 {s : St} {b b' : Nat} {o : Obj} (h : b' ≠ b) : (s.set b o).heap b' = s.heap b' := St.set_ne (nbeq h)
theorem St.new_ne2 {s : St} {b' n : Nat} {o : Obj} (hn : s.next = n) (h : b' ≠ n) : (s.new o).heap b' = s.heap b' := St.new_ne (by rw [hn]; exact nbeq h)
theorem o_cellR {x : Option Req} {s s' : St} {v : PV} {rd wr : List Nat} (h : OpS x s v s' rd wr) : qCell x s = some v := by
  obtain ⟨q, h1, h2, _⟩ := h
  simp only [qCell, h1, h2]
theorem resL1 {r : Option PV} {v : PV} (h : r = some v) : resL [r] = some [v] := by subst h; rfl
theorem place_agg {l : List PV} {s : St} : place (.agg l) s = (.agg l, s) := rfl
theorem place_tuple {l : List PV} {s : St} : place (.tuple l) s = (.tuple l, s) := rfl
theorem place_bool {c : Bool} {s : St} : place (.bool c) s = (.bool c, s) := rfl
theorem place_int {k : IntKind} {i : Int} {s : St} : place (.int k i) s = (.int k i, s) := rfl
theorem place_str {c : ByteArray} {s : St} : place (.str c) s = (.str c, s) := rfl
theorem place_lst {l : List (List PV)} {s : St} : place (.lst l) s = (.lst l, s) := rfl
theorem place_acc {e : Nat} {l : List (List PV)} {s : St} : place (.acc e l) s = (.acc s.next l, s.new (.own l.length e)) := rfl
theorem set1 {b : Nat} {c : List PV} {s : St} : setBoxes s [b] [c] = s.set b (.box c) := rfl
theorem set0 {s : St} : setBoxes s [] [] = s := rfl
theorem new_next {o : Obj} {s : St} : (s.new o).next = s.next + 1 := rfl
theorem set_next {b : Nat} {o : Obj} {s : St} : (s.set b o).next = s.next := rfl
theorem stL_next {l : List Obj} {hp : Nat → Option Obj} {n : Nat} : (stL l hp n).next = n := rfl
theorem initSt_next {c : List (List PV)} : (initSt c).next = c.length := rfl
theorem wrap64 {n : Int} (h : -9223372036854775808 ≤ n) (h' : n ≤ 9223372036854775807) : IntKind.i64.wrap n = n := IntWalk.i64_in n ⟨h, h'⟩
theorem zn {p : Prop} (h : p := by dsimp only [initSt_next, stL_next, new_next, set_next, place_agg, place_tuple, place_bool, place_int, place_str, place_lst, place_acc, set1, set0, List.length_cons, List.length_nil] <;> rfl) : p := h
theorem zs {p : Prop} (h : p := by dsimp only [cells, PT.row, List.set_cons_zero, List.set_cons_succ] <;> rfl) : p := h
theorem zh {p : Prop} (h : p := by repeat (first | exact St.set_self | exact St.new_at rfl | refine (St.set_ne rfl).trans ?_ | refine (St.new_ne rfl).trans ?_ | refine (St.set_ne2 (by omega)).trans ?_ | refine (St.new_ne2 zn (by omega)).trans ?_ | rfl | assumption)) : p := h
theorem zo {p : Prop} (h : p := by first | exact o_nilP | exact o_faP | exact o_load1P rfl rfl | exact o_bin rfl | exact o_box zn | exact o_boxA rfl zn | exact o_boxI zn | exact o_store1 rfl rfl rfl zs | exact o_pickT | exact o_pickF | exact o_pickB | exact o_asgI | exact o_asgB | exact o_asgS | exact o_asgL | exact o_asgA | exact o_asgG | exact o_asgT | exact o_asgP | exact o_asgE | exact o_asgN zn | exact o_f1 rfl | exact o_loadAP rfl rfl | exact o_storeA rfl rfl rfl rfl | exact o_own zn | exact o_nilE | exact o_faE | exact o_load1E rfl | exact o_loadAE rfl | exact o_not | exact o_neg | exact o_lenS | exact o_lenL rfl | exact o_ex rfl | exact o_build rfl (by dsimp only [fillL, spliceP, PV.cells] <;> rfl) | exact o_bsl (by dsimp only [rowsL, datas, PV.cells, PV.data] <;> rfl) | exact o_fN rfl | exact o_loadNP rfl rfl | exact o_loadNE rfl | exact o_conv | exact o_storeN rfl rfl rfl rfl | exact o_load1P zh rfl | exact o_loadAP zh rfl | exact o_store1 zh rfl rfl zs | exact o_storeA zh rfl rfl rfl | exact o_storeA zh rfl rfl (by assumption) | exact o_storeN zh rfl rfl rfl) : p := h
theorem ids_self (a : Nat) : ids a a = [] := by simp [ids]
theorem ids_succ (a : Nat) : ids a (a + 1) = [a] := by simp [ids]
theorem zc {p : Prop} (h : p := by simp only [new_next, set_next, initSt_next, place_agg, place_tuple, place_acc, place_int, place_bool, place_str, place_lst, set0, set1, dN, ids_self, ids_succ, List.nil_append, List.append_nil] <;> kernel_rfl) : p := h
structure ZH (B : Prop) : Prop where
  out : B
theorem zv {A B : Prop} (h : B) (k : ZH B → A := by intro zq; (repeat (first | (apply pQ_r; · exact zo) | refine ct ?_ | refine cf ?_ | (apply pQL_r; · exact zo) | refine gs_t ?_ | refine gs_f ?_ | refine gs_u ?_ | refine gk_t ?_ | refine gk_f ?_ | (apply gq_t; · exact zo) | (apply gq_f; · exact zo) | refine gc_t ?_ | refine gc_f ?_)); exact zq.out) : A := k ⟨h⟩
section
variable {P : Program} {s s' s0 s1 : St} {k : PV → St → Prop} {kl : PV → St → List Nat → List Nat → Prop} {v : PV} {x : Option Req} {rd wr : List Nat} {B : Prop}
end
theorem cond_0 {b : Bool} {A B : Prop} (h : A) (h' : B) : condP (.bool b) A B := ⟨fun _ => h, fun _ => h'⟩
section
variable {P : Program} {s : St} {k : PV → St → Prop} {kl : PV → St → List Nat → List Nat → Prop} {f : FuncId} {vs args : List PV} {conts conts' : List (List PV)} {r : PV} {bs : List Nat} {B : Prop}
end
end Go.Vi
namespace Go.Vi
open Go.Proofs
structure PT where
  kind : Int
  text : ByteArray
  n : Int
  tk : Int
  tl : Int
  at' : Int
instance : Inhabited PT := ⟨⟨5, ⟨#[]⟩, 0, 0, 0, 0⟩⟩
def PT.row (t : PT) : List PV := [.int .i64 t.kind, .str t.text, .int .i64 t.n, .int .i64 t.tk, .int .i64 t.tl, .int .i64 t.at']
def cells (L : List PT) (a e b n : Int) : List PV := [.lst (L.map PT.row), .int .i64 a, .int .i64 e, .int .i64 b, .int .i64 n]
def At (L : List PT) (a : Int) : Prop := 0 ≤ a ∧ a < L.length
@[irreducible] def tokAt (L : List PT) (a : Int) : PT := L.getD a.toNat default
def mu (L : List PT) (a e : Int) : Int := if e = 0 then L.length - a else 0
theorem tok_row {L : List PT} {a : Int} (h : At L a) : (L.map PT.row)[a.toNat]? = some (tokAt L a).row := by
  obtain ⟨h0, h1⟩ := h
  have hlt : a.toNat < L.length := by omega
  unfold tokAt
  simp [List.getD_eq_getElem?_getD, List.getElem?_eq_getElem hlt]
structure Toks (L : List PT) : Prop where
  pos : 0 < L.length
  le : L.length ≤ 20000
  end_ : ∀ a, At L a → (tokAt L a).kind ≠ 5 → a + 1 < L.length
  tk : ∀ a, At L a → 0 ≤ (tokAt L a).tk ∧ (tokAt L a).tk ≤ 9
  tl : ∀ a, At L a → (tokAt L a).tl = 0
section
variable {L : List PT} {a e b n : Int}
theorem mu_bad (he : e ≠ 0) : mu L a e = 0 := by unfold mu; rw [if_neg he]
theorem At.end_ (hL : Toks L) : At L (L.length - 1) := by have := hL.pos; constructor <;> omega
theorem At.lt (hL : Toks L) (h : At L a) : a < 20000 := by have := hL.le; unfold At at h; omega
end
def isW (L : List PT) (a e : Int) (w : ByteArray) : Bool := (e == 0) && ((tokAt L a).kind == 3 || (tokAt L a).kind == 4) && ((tokAt L a).text.toList == w.toList)
theorem isW_true {L : List PT} {a e : Int} {w : ByteArray} (h : isW L a e w = true) : e = 0 ∧ ((tokAt L a).kind = 3 ∨ (tokAt L a).kind = 4) ∧ (tokAt L a).text.toList = w.toList := by
  simp only [isW, Bool.and_eq_true, Bool.or_eq_true, beq_iff_eq] at h
  exact ⟨h.1.1, h.1.2, h.2⟩
theorem isW_step {L : List PT} {a e : Int} {w : ByteArray} (hL : Toks L) (ha : At L a) (h : isW L a e w = true) : e = 0 ∧ At L (a + 1) := by
  obtain ⟨h1, h2, _⟩ := isW_true h
  have := hL.end_ a ha (by omega)
  exact ⟨h1, by unfold At at *; omega⟩
def PF (L : List PT) (f : Nat) (args : List PV) (a e b n : Int) (Q : PV → Int → Int → Int → Int → Prop) : Prop :=
  PQ Tryz.prog f (.ptr 0 0 :: args) [cells L a e b n] fun r c => ∃ a' e' b' n', c = [cells L a' e' b' n'] ∧ Q r a' e' b' n'
section
variable {L : List PT} {a e b n : Int} {s : St} {k : PV → St → Prop} {kl : PV → St → List Nat → List Nat → Prop} {args vs : List PV} {f : Nat} {Q : PV → Int → Int → Int → Int → Prop}
theorem PF.call (h : PF L f args a e b n Q) (h1 : toArgs vs 0 = some (.ptr 0 0 :: args, [0])) (h3 : getBoxes s [0] = some [cells L a e b n])
    (hk : ∀ r a' e' b' n', Q r a' e' b' n' → k (place r (s.set 0 (.box (cells L a' e' b' n')))).1 (place r (s.set 0 (.box (cells L a' e' b' n')))).2) : pCall Tryz.prog f vs s k := by
  obtain ⟨r, c, hpc, a', e', b', n', rfl, hq⟩ := h
  exact pCall_i hpc h1 rfl h3 rfl (hk r a' e' b' n' hq)
theorem PF.callL (h : PF L f args a e b n Q) (h1 : toArgs vs 0 = some (.ptr 0 0 :: args, [0])) (h3 : getBoxes s [0] = some [cells L a e b n])
    (hk : ∀ r a' e' b' n', Q r a' e' b' n' → kl (place r (s.set 0 (.box (cells L a' e' b' n')))).1 (place r (s.set 0 (.box (cells L a' e' b' n')))).2 [] [0]) : pCallL Tryz.prog f vs s kl := by
  obtain ⟨r, c, hpc, a', e', b', n', rfl, hq⟩ := h
  exact pCallL_i hpc h1 rfl h3 rfl (hk r a' e' b' n' hq)
end
attribute [local irreducible] qAsg qPick qBox qBuild qBsl qLoad1 qLoadN qStore qNil qBin qUn qConv qSlS qSlL qFA qF1 qFN qIA qIS qEx qLenS qLenL qApp pQ pQL pGL pCall pCallL condP optP pEnd OpS Int.instDecidableEq Int.decEq instBEqOfDecidableEq
section
variable {L : List PT} {a e b n : Int}
theorem tok_pf (ha : At L a) : PF L 119 [] a e b n (fun r a' e' b' n' => r = .agg (tokAt L a).row ∧ a' = a ∧ e' = e ∧ b' = b ∧ n' = n) := by
  refine c119_pq 0 rfl _ ?_
  unfold c119
  refine zv ?_
  refine pQL_r (o_iaL ha.1 (tok_row ha) rfl) ?_
  refine zv ?_
  refine ⟨by kernel_rfl, fin_i (resL1 (o_cellR zo)) rfl rfl ⟨a, e, b, n, rfl, rfl, rfl, rfl, rfl, rfl⟩⟩
theorem call_tok {s : St} {k : PV → St → Prop} (h3 : getBoxes s [0] = some [cells L a e b n]) (ha : At L a) (hk : k (.agg (tokAt L a).row) (s.set 0 (.box (cells L a e b n)))) : pCall Tryz.prog 119 [.ptr 0 0] s k :=
  (tok_pf ha).call rfl h3 fun r a' e' b' n' h => by obtain ⟨rfl, rfl, rfl, rfl, rfl⟩ := h; exact hk
theorem callL_tok {s : St} {k : PV → St → List Nat → List Nat → Prop} (h3 : getBoxes s [0] = some [cells L a e b n]) (ha : At L a) (hk : k (.agg (tokAt L a).row) (s.set 0 (.box (cells L a e b n))) [] [0]) : pCallL Tryz.prog 119 [.ptr 0 0] s k :=
  (tok_pf ha).callL rfl h3 fun r a' e' b' n' h => by obtain ⟨rfl, rfl, rfl, rfl, rfl⟩ := h; exact hk
theorem is_pf (ha : At L a) (w : ByteArray) : PF L 120 [.str w] a e b n (fun r a' e' b' n' => r = .bool (isW L a e w) ∧ a' = a ∧ e' = e ∧ b' = b ∧ n' = n) := by
  refine c120_pq 0 rfl _ _ ?_
  unfold c120
  refine call_tok rfl ha ?_
  refine zv ?_
  cases h : e == 0
  · refine zv ?_
    refine fin_i rfl rfl rfl ⟨a, e, b, n, rfl, ?_, rfl, rfl, rfl, rfl⟩
    simp only [isW, h]; rfl
  · refine zv ?_
    cases h1 : (tokAt L a).kind == 3
    · refine zv ?_
      cases h2 : (tokAt L a).kind == 4
      · refine zv ?_
        refine fin_i rfl rfl rfl ⟨a, e, b, n, rfl, ?_, rfl, rfl, rfl, rfl⟩
        simp only [isW, h, h1, h2]; rfl
      · refine zv ?_
        refine fin_i rfl rfl rfl ⟨a, e, b, n, rfl, ?_, rfl, rfl, rfl, rfl⟩
        simp only [isW, h, h1, h2]; rfl
    · refine zv ?_
      refine fin_i rfl rfl rfl ⟨a, e, b, n, rfl, ?_, rfl, rfl, rfl, rfl⟩
      simp only [isW, h, h1]; rfl
theorem call_is {s : St} {k : PV → St → Prop} {w : ByteArray} (h3 : getBoxes s [0] = some [cells L a e b n]) (ha : At L a) (hk : k (.bool (isW L a e w)) (s.set 0 (.box (cells L a e b n)))) : pCall Tryz.prog 120 [.ptr 0 0, .str w] s k :=
  (is_pf ha w).call rfl h3 fun r a' e' b' n' h => by obtain ⟨rfl, rfl, rfl, rfl, rfl⟩ := h; exact hk
theorem fail_pf (hL : Toks L) (ha : At L a) {x : Int} (hx : x ≠ 0) : PF L 121 [.int .i64 x] a e b n (fun r a' e' b' n' => r = .tuple [] ∧ a' = L.length - 1 ∧ e' ≠ 0 ∧ n' = n) := by
  have hp := hL.pos
  have hle := hL.le
  have hw : IntKind.i64.wrap (↑(L.map PT.row).length - 1) = L.length - 1 := by rw [List.length_map]; exact wrap64 (by omega) (by omega)
  refine c121_pq 0 rfl _ _ ?_
  unfold c121
  refine zv ?_
  cases h : e == 0
  · refine zv ?_
    refine fin_i rfl rfl rfl ⟨_, e, b, n, rfl, rfl, hw, by simpa using h, rfl⟩
  · refine zv ?_
    refine pQL_r (o_iaL ha.1 (tok_row ha) rfl) ?_
    refine zv ?_
    refine ⟨by kernel_rfl, ?_⟩
    refine zv ?_
    refine fin_i rfl rfl rfl ⟨_, x, _, n, rfl, rfl, hw, hx, rfl⟩
theorem call_fail {s : St} {k : PV → St → Prop} {x : Int} (hL : Toks L) (hx : x ≠ 0) (h3 : getBoxes s [0] = some [cells L a e b n]) (ha : At L a) (hk : ∀ e' b', e' ≠ 0 → k (.tuple []) (s.set 0 (.box (cells L (L.length - 1) e' b' n)))) : pCall Tryz.prog 121 [.ptr 0 0, .int .i64 x] s k :=
  (fail_pf hL ha hx).call rfl h3 fun r a' e' b' n' h => by obtain ⟨rfl, rfl, h, rfl⟩ := h; exact hk e' b' h
def Adv1 (L : List PT) (a e a' e' : Int) : Prop := At L a' ∧ (e = 0 → mu L a' e' < mu L a e) ∧ (e ≠ 0 → e' ≠ 0)
theorem succ64 (hL : Toks L) (ha : At L a) : IntKind.i64.wrap (a + 1) = a + 1 := by
  have := ha.lt hL
  exact wrap64 (by unfold At at ha; omega) (by omega)
theorem maybe_pf (hL : Toks L) (ha : At L a) (w : ByteArray) : PF L 148 [.str w] a e b n (fun r a' e' b' n' => n' = n ∧ b' = b ∧ e' = e ∧ ((r = .bool false ∧ isW L a e w = false ∧ a' = a) ∨ (r = .bool true ∧ isW L a e w = true ∧ e = 0 ∧ a' = a + 1 ∧ At L (a + 1)))) := by
  refine c148_pq 0 rfl _ _ ?_
  unfold c148
  refine call_is rfl ha ?_
  cases h : isW L a e w
  · refine zv ?_
    refine fin_i rfl rfl rfl ⟨_, _, _, _, rfl, rfl, rfl, rfl, .inl ⟨rfl, rfl, rfl⟩⟩
  · obtain ⟨he, ha'⟩ := isW_step hL ha h
    refine zv ?_
    refine fin_i rfl rfl rfl ⟨_, _, _, _, rfl, rfl, rfl, rfl, .inr ⟨rfl, rfl, he, succ64 hL ha, ha'⟩⟩
theorem full_pf (hL : Toks L) (ha : At L a) (x y : Int) : PF L 122 [.int .i64 x, .int .i64 y] a e b n (fun r a' e' b' n' => n' = n ∧ ((r = .bool false ∧ x < y ∧ a' = a ∧ e' = e ∧ b' = b) ∨ (r = .bool true ∧ y ≤ x ∧ a' = L.length - 1 ∧ e' ≠ 0))) := by
  refine c122_pq 0 rfl _ _ _ ?_
  unfold c122
  refine zv ?_
  refine cond_i (fun h => ?_) (fun h => ?_)
  · refine call_fail hL (by omega) rfl ha fun e' b' he => ?_
    refine fin_i rfl rfl rfl ⟨_, _, _, _, rfl, rfl, .inr ⟨rfl, by simpa using h, rfl, he⟩⟩
  · refine fin_i rfl rfl rfl ⟨_, _, _, _, rfl, rfl, .inl ⟨rfl, by simpa using h, rfl, rfl, rfl⟩⟩
end
end Go.Vi
namespace Go.Vi
structure Edge where
  name : ByteArray
  on : Bool
def Edge.row (g : Edge) : List PV := [.str g.name, .bool g.on]
structure Var where
  name : ByteArray
  tk : Int
  tl : Int
  clock : List Edge
  at' : Int
def Var.row (v : Var) : List PV := [.str v.name, .int .i64 v.tk, .int .i64 v.tl, .lst (v.clock.map Edge.row), .int .i64 v.at']
inductive Exp where
  | mk (form sub : Int) (name : ByteArray) (tk tl n m : Int) (kids : List Exp) (at' : Int)
mutual
def Exp.row : Exp → List PV
  | .mk form sub name tk tl n m kids a => [.int .i64 form, .int .i64 sub, .str name, .int .i64 tk, .int .i64 tl, .int .i64 n, .int .i64 m, .lst (Exp.rows kids), .int .i64 a]
def Exp.rows : List Exp → List (List PV)
  | [] => []
  | k :: r => k.row :: Exp.rows r
end
structure Trans where
  cond : Exp
  to : ByteArray
  cont : Bool
  at' : Int
def Trans.row (t : Trans) : List PV := t.cond.row ++ [.str t.to, .bool t.cont, .int .i64 t.at']
mutual
inductive Item where
  | mk (names : List ByteArray) (e : Exp) (states : List State) (at' : Int)
inductive State where
  | mk (name : ByteArray) (unl unt : List Trans) (locals : List Var) (items : List Item) (at' : Int)
end
def nameRow (n : ByteArray) : List PV := [.str n]
mutual
def Item.row : Item → List PV
  | .mk names e states a => [.lst (names.map nameRow)] ++ e.row ++ [.lst (State.rows states), .int .i64 a]
def Item.rows : List Item → List (List PV)
  | [] => []
  | k :: r => k.row :: Item.rows r
def State.row : State → List PV
  | .mk name unl unt locals items a => [.str name, .lst (unl.map Trans.row), .lst (unt.map Trans.row), .lst (locals.map Var.row), .lst (Item.rows items), .int .i64 a]
def State.rows : List State → List (List PV)
  | [] => []
  | k :: r => k.row :: State.rows r
end
structure Node where
  name : ByteArray
  ins : List Var
  outs : List Var
  locals : List Var
  items : List Item
  at' : Int
def Node.row (n : Node) : List PV := [.str n.name, .lst (n.ins.map Var.row), .lst (n.outs.map Var.row), .lst (n.locals.map Var.row), .lst (Item.rows n.items), .int .i64 n.at']
def Exp.form : Exp → Int | .mk f _ _ _ _ _ _ _ _ => f
def Exp.sub : Exp → Int | .mk _ s _ _ _ _ _ _ _ => s
def Exp.name : Exp → ByteArray | .mk _ _ n _ _ _ _ _ _ => n
def Exp.tk : Exp → Int | .mk _ _ _ t _ _ _ _ _ => t
def Exp.tl : Exp → Int | .mk _ _ _ _ t _ _ _ _ => t
def Exp.n : Exp → Int | .mk _ _ _ _ _ n _ _ _ => n
def Exp.m : Exp → Int | .mk _ _ _ _ _ _ m _ _ => m
def Exp.kids : Exp → List Exp | .mk _ _ _ _ _ _ _ k _ => k
def Exp.at' : Exp → Int | .mk _ _ _ _ _ _ _ _ a => a
def Item.names : Item → List ByteArray | .mk n _ _ _ => n
def Item.e : Item → Exp | .mk _ e _ _ => e
def Item.states : Item → List State | .mk _ _ s _ => s
def Item.at' : Item → Int | .mk _ _ _ a => a
def State.name : State → ByteArray | .mk n _ _ _ _ _ => n
def State.unl : State → List Trans | .mk _ u _ _ _ _ => u
def State.unt : State → List Trans | .mk _ _ u _ _ _ => u
def State.locals : State → List Var | .mk _ _ _ l _ _ => l
def State.items : State → List Item | .mk _ _ _ _ i _ => i
def State.at' : State → Int | .mk _ _ _ _ _ a => a
theorem Exp.rows_map : ∀ l : List Exp, Exp.rows l = l.map Exp.row
  | [] => by simp [Exp.rows]
  | k :: r => by simp [Exp.rows, Exp.rows_map r]
theorem Item.rows_map : ∀ l : List Item, Item.rows l = l.map Item.row
  | [] => by simp [Item.rows]
  | k :: r => by simp [Item.rows, Item.rows_map r]
theorem State.rows_map : ∀ l : List State, State.rows l = l.map State.row
  | [] => by simp [State.rows]
  | k :: r => by simp [State.rows, State.rows_map r]
theorem Exp.row_eq (x : Exp) : x.row = [.int .i64 x.form, .int .i64 x.sub, .str x.name, .int .i64 x.tk, .int .i64 x.tl, .int .i64 x.n, .int .i64 x.m, .lst (x.kids.map Exp.row), .int .i64 x.at'] := by
  cases x; simp only [Exp.row, Exp.rows_map]; rfl
theorem Item.row_eq (x : Item) : x.row = [.lst (x.names.map nameRow)] ++ x.e.row ++ [.lst (x.states.map State.row), .int .i64 x.at'] := by
  cases x; simp only [Item.row, State.rows_map]; rfl
theorem State.row_eq (x : State) : x.row = [.str x.name, .lst (x.unl.map Trans.row), .lst (x.unt.map Trans.row), .lst (x.locals.map Var.row), .lst (x.items.map Item.row), .int .i64 x.at'] := by
  cases x; simp only [State.row, Item.rows_map]; rfl
theorem Exp.row_len (x : Exp) : x.row.length = 9 := by rw [Exp.row_eq]; rfl
theorem Item.row_len (x : Item) : x.row.length = 12 := by rw [Item.row_eq]; simp [Exp.row_len]
theorem State.row_len (x : State) : x.row.length = 6 := by rw [State.row_eq]; rfl
theorem Trans.row_len (x : Trans) : x.row.length = 12 := by simp [Trans.row, Exp.row_len]
mutual
def Exp.wt : Exp → Nat
  | .mk form _ _ _ _ _ _ kids _ => (if form = 0 then 0 else 1) + Exp.wts kids
def Exp.wts : List Exp → Nat
  | [] => 0
  | k :: r => k.wt + Exp.wts r
end
def Trans.wt (t : Trans) : Nat := 1 + t.cond.wt
def Trans.wts : List Trans → Nat
  | [] => 0
  | t :: r => t.wt + Trans.wts r
mutual
def Item.wt : Item → Nat
  | .mk names e states _ => names.length + e.wt + State.wts states
def Item.wts : List Item → Nat
  | [] => 0
  | k :: r => k.wt + Item.wts r
def State.wt : State → Nat
  | .mk _ unl unt locals items _ => 1 + Trans.wts unl + Trans.wts unt + locals.length + Item.wts items
def State.wts : List State → Nat
  | [] => 0
  | k :: r => k.wt + State.wts r
end
def Node.wt (n : Node) : Nat := 1 + n.ins.length + n.outs.length + n.locals.length + Item.wts n.items
def Node.wts : List Node → Nat
  | [] => 0
  | k :: r => k.wt + Node.wts r
section
variable {f s tk tl i m at' p q : Int} {nm : ByteArray} {x y z : Exp} {l : List Exp}
end
theorem datas_append : ∀ {l k : List PV}, datas l = some l → datas k = some k → datas (l ++ k) = some (l ++ k)
  | [], k, _, h => h
  | v :: l, k, h, h' => by
    simp only [datas] at h
    split at h
    · rename_i x hx
      split at h
      · rename_i r hr
        simp only [Option.some.injEq, List.cons.injEq] at h
        obtain ⟨rfl, rfl⟩ := h
        simp only [List.cons_append, datas, hx, datas_append hr h']
      · cases h
    · cases h
theorem Exp.datas (x : Exp) : datas x.row = some x.row := by rw [Exp.row_eq]; rfl
theorem Trans.datas (x : Trans) : Vi.datas x.row = some x.row := datas_append x.cond.datas rfl
theorem Item.datas (x : Item) : Vi.datas x.row = some x.row := by rw [Item.row_eq]; exact datas_append (datas_append rfl x.e.datas) rfl
theorem State.datas (x : State) : Vi.datas x.row = some x.row := by rw [State.row_eq]; rfl
theorem Node.datas (x : Node) : Vi.datas x.row = some x.row := rfl
def arOk (f : Int) (k : Nat) : Prop := (f = 3 ∨ f = 6 ∨ f = 9 ∨ f = 11 ∨ f = 16 ∨ f = 17 → k = 1) ∧ (f = 4 ∨ f = 7 ∨ f = 8 ∨ f = 10 ∨ f = 19 → k = 2) ∧ (f = 5 → k = 3) ∧ (f = 14 → 1 ≤ k) ∧ k ≤ 100000
inductive Exp.WF : Exp → Prop
  | mk (form sub : Int) (name : ByteArray) (tk tl n m : Int) (kids : List Exp) (at' : Int) (har : arOk form kids.length) (hf : 0 ≤ form ∧ form ≤ 19) (hs : form = 3 → sub = 1 ∨ sub = 2) (hs' : form = 4 → 3 ≤ sub ∧ sub ≤ 19) (ht : 0 ≤ tk ∧ tk ≤ 9)
      (hk : ∀ k ∈ kids, Exp.WF k) : Exp.WF (.mk form sub name tk tl n m kids at')
structure Var.WF (v : Var) : Prop where
  tk : 0 ≤ v.tk ∧ v.tk ≤ 9
  clock : v.clock.length ≤ 17
structure Vars.WF (l : List Var) : Prop where
  len : l.length ≤ 100000
  all : ∀ v ∈ l, v.WF
structure Transs.WF (l : List Trans) : Prop where
  len : l.length ≤ 100000
  all : ∀ t ∈ l, t.cond.WF
mutual
inductive Item.WF : Item → Prop
  | mk (names : List ByteArray) (e : Exp) (states : List State) (at' : Int) (hn : names.length ≤ 100000) (he : e.WF) (hl : states.length ≤ 100000) (hs : ∀ s ∈ states, State.WF s) : Item.WF (.mk names e states at')
inductive State.WF : State → Prop
  | mk (name : ByteArray) (unl unt : List Trans) (locals : List Var) (items : List Item) (at' : Int) (h1 : Transs.WF unl) (h2 : Transs.WF unt) (h3 : Vars.WF locals) (h4 : items.length ≤ 100000) (h5 : ∀ i ∈ items, Item.WF i) : State.WF (.mk name unl unt locals items at')
end
structure Node.WF (n : Node) : Prop where
  ins : Vars.WF n.ins
  outs : Vars.WF n.outs
  locals : Vars.WF n.locals
  len : n.items.length ≤ 100000
  items : ∀ i ∈ n.items, i.WF
  clin : ∀ v ∈ n.ins, v.clock = []
  clout : ∀ v ∈ n.outs, v.clock = []
end Go.Vi
namespace Go.Vi
open Go.Proofs
attribute [local irreducible] qAsg qPick qBox qBuild qBsl qLoad1 qLoadN qStore qNil qBin qUn qConv qSlS qSlL qFA qF1 qFN qIA qIS qEx qLenS qLenL qApp pQ pQL pGL pCall pCallL condP optP pEnd OpS Int.instDecidableEq Int.decEq instBEqOfDecidableEq
section
variable {L : List PT} {a e b n : Int}
def PE (L : List PT) (f : Nat) (args : List PV) (a e b n : Int) : Prop := PF L f args a e b n fun r a' e' b' n' =>
  ∃ f s nm tk tl k m kids at', r = .agg [.int .i64 f, .int .i64 s, .str nm, .int .i64 tk, .int .i64 tl, .int .i64 k, .int .i64 m, .lst (Exp.rows kids), .int .i64 at'] ∧ (Exp.mk f s nm tk tl k m kids at').WF ∧ At L a' ∧ ((Exp.mk f s nm tk tl k m kids at').wt : Int) + mu L a' e' ≤ mu L a e
theorem PE.call {f : Nat} {args vs : List PV} {s : St} {k : PV → St → Prop} (h : PE L f args a e b n) (h1 : toArgs vs 0 = some (.ptr 0 0 :: args, [0])) (h3 : getBoxes s [0] = some [cells L a e b n])
    (hk : ∀ f s1 nm tk tl i m kids at' a' e' b' n', (Exp.mk f s1 nm tk tl i m kids at').WF → At L a' → ((Exp.mk f s1 nm tk tl i m kids at').wt : Int) + mu L a' e' ≤ mu L a e →
      k (.agg [.int .i64 f, .int .i64 s1, .str nm, .int .i64 tk, .int .i64 tl, .int .i64 i, .int .i64 m, .lst (Exp.rows kids), .int .i64 at']) (s.set 0 (.box (cells L a' e' b' n')))) : pCall Tryz.prog f vs s k :=
  PF.call h h1 h3 fun r a' e' b' n' h => by
    obtain ⟨f, s1, nm, tk, tl, i, m, kids, at', rfl, hw, h2, h3⟩ := h
    exact hk f s1 nm tk tl i m kids at' a' e' b' n' hw h2 h3
theorem two_pq (f s : Int) (x y : Exp) : PQ Tryz.prog 172 [.int .i64 f, .int .i64 s, .agg x.row, .agg y.row] [] (fun r c => r = .agg (Exp.mk f s ⟨#[]⟩ 0 0 0 0 [x, y] x.at').row ∧ c = []) := by
  refine c172_pq 0 rfl _ _ _ _ ?_
  unfold c172
  cases x with | mk f1 s1 nm1 tk1 tl1 i1 m1 kids1 at1 =>
  cases y with | mk f2 s2 nm2 tk2 tl2 i2 m2 kids2 at2 =>
  simp only [Exp.row]
  refine zv ?_
  refine fin_i (resL1 (o_cellR zo)) rfl rfl ⟨rfl, rfl⟩
theorem call_two {f s : Int} {st : St} {k : PV → St → Prop} {f1 s1 tk1 tl1 i1 m1 at1 f2 s2 tk2 tl2 i2 m2 at2 : Int} {nm1 nm2 : ByteArray} {kids1 kids2 : List Exp}
    (hk : k (.agg [.int .i64 f, .int .i64 s, .str ⟨#[]⟩, .int .i64 0, .int .i64 0, .int .i64 0, .int .i64 0, .lst (Exp.rows [.mk f1 s1 nm1 tk1 tl1 i1 m1 kids1 at1, .mk f2 s2 nm2 tk2 tl2 i2 m2 kids2 at2]), .int .i64 at1]) st) :
    pCall Tryz.prog 172 [.int .i64 f, .int .i64 s, .agg [.int .i64 f1, .int .i64 s1, .str nm1, .int .i64 tk1, .int .i64 tl1, .int .i64 i1, .int .i64 m1, .lst (Exp.rows kids1), .int .i64 at1],
      .agg [.int .i64 f2, .int .i64 s2, .str nm2, .int .i64 tk2, .int .i64 tl2, .int .i64 i2, .int .i64 m2, .lst (Exp.rows kids2), .int .i64 at2]] st k := by
  obtain ⟨r, c, hpc, rfl, rfl⟩ := two_pq f s (.mk f1 s1 nm1 tk1 tl1 i1 m1 kids1 at1) (.mk f2 s2 nm2 tk2 tl2 i2 m2 kids2 at2)
  simp only [Exp.row] at hpc
  exact pCall_i hpc rfl rfl rfl rfl hk
end
end Go.Vi
namespace Go.Vi
open Go.Proofs
attribute [local irreducible] qAsg qPick qBox qBuild qBsl qLoad1 qLoadN qStore qNil qBin qUn qConv qSlS qSlL qFA qF1 qFN qIA qIS qEx qLenS qLenL qApp pQ pQL pGL pCall pCallL condP optP pEnd OpS Int.instDecidableEq Int.decEq instBEqOfDecidableEq
section
variable {L : List PT} {a e b n : Int}
theorem is_pc (ha : At L a) (w : ByteArray) : PC Tryz.prog 120 [.ptr 0 0, .str w] [cells L a e b n] (.bool (isW L a e w)) [cells L a e b n] := by
  obtain ⟨r, c, hpc, a', e', b', n', hc, hr, h1, h2, h3, h4⟩ := is_pf (b := b) (n := n) (e := e) ha w
  rw [h1, h2, h3, h4] at hc; rw [hr, hc] at hpc
  exact hpc
theorem maybe_pc0 (hL : Toks L) (ha : At L a) {w : ByteArray} (h : isW L a e w = false) : PC Tryz.prog 148 [.ptr 0 0, .str w] [cells L a e b n] (.bool false) [cells L a e b n] := by
  obtain ⟨r, c, hpc, a', e', b', n', hc, h1, h2, h3, ⟨hr, _, h4⟩ | ⟨hr, h5, _⟩⟩ := maybe_pf (b := b) (n := n) (e := e) hL ha w
  · rw [h1, h2, h3, h4] at hc; rw [hr, hc] at hpc
    exact hpc
  · rw [h] at h5; cases h5
theorem maybe_pc1 (hL : Toks L) (ha : At L a) {w : ByteArray} (h : isW L a e w = true) : PC Tryz.prog 148 [.ptr 0 0, .str w] [cells L a e b n] (.bool true) [cells L (a + 1) e b n] := by
  obtain ⟨r, c, hpc, a', e', b', n', hc, h1, h2, h3, ⟨hr, h5, h4⟩ | ⟨hr, h5, _, h4, _⟩⟩ := maybe_pf (b := b) (n := n) (e := e) hL ha w
  · rw [h] at h5; cases h5
  · rw [h1, h2, h3, h4] at hc; rw [hr, hc] at hpc
    exact hpc
theorem full_pc0 (hL : Toks L) (ha : At L a) {x y : Int} (h : x < y) : PC Tryz.prog 122 [.ptr 0 0, .int .i64 x, .int .i64 y] [cells L a e b n] (.bool false) [cells L a e b n] := by
  obtain ⟨r, c, hpc, a', e', b', n', hc, h1, ⟨hr, h2, h3, h4, h5⟩ | ⟨hr, h2, _⟩⟩ := full_pf (b := b) (n := n) (e := e) hL ha x y
  · rw [h1, h3, h4, h5] at hc; rw [hr, hc] at hpc
    exact hpc
  · omega
theorem Adv1.le {a' e' : Int} (h : Adv1 L a e a' e') (ha : At L a) : mu L a' e' ≤ mu L a e := by
  by_cases he : e = 0
  · have := h.2.1 he; omega
  · rw [mu_bad he, mu_bad (h.2.2 he)]; omega
def PEx (L : List PT) (f : Nat) (args : List PV) (W a e b n : Int) : Prop := PF L f args a e b n fun r a' e' b' n' =>
  ∃ f s nm tk tl k m kids at', r = .agg [.int .i64 f, .int .i64 s, .str nm, .int .i64 tk, .int .i64 tl, .int .i64 k, .int .i64 m, .lst (Exp.rows kids), .int .i64 at'] ∧ (Exp.mk f s nm tk tl k m kids at').WF ∧ At L a' ∧ ((Exp.mk f s nm tk tl k m kids at').wt : Int) + mu L a' e' ≤ W + mu L a e
theorem PEx.call {f : Nat} {args vs : List PV} {s : St} {k : PV → St → Prop} {W : Int} (h : PEx L f args W a e b n) (h1 : toArgs vs 0 = some (.ptr 0 0 :: args, [0])) (h3 : getBoxes s [0] = some [cells L a e b n])
    (hk : ∀ f s1 nm tk tl i m kids at' a' e' b' n', (Exp.mk f s1 nm tk tl i m kids at').WF → At L a' → ((Exp.mk f s1 nm tk tl i m kids at').wt : Int) + mu L a' e' ≤ W + mu L a e →
      k (.agg [.int .i64 f, .int .i64 s1, .str nm, .int .i64 tk, .int .i64 tl, .int .i64 i, .int .i64 m, .lst (Exp.rows kids), .int .i64 at']) (s.set 0 (.box (cells L a' e' b' n')))) : pCall Tryz.prog f vs s k :=
  PF.call h h1 h3 fun r a' e' b' n' h => by
    obtain ⟨f, s1, nm, tk, tl, i, m, kids, at', rfl, hw, h2, h3⟩ := h
    exact hk f s1 nm tk tl i m kids at' a' e' b' n' hw h2 h3
end
end Go.Vi
namespace Go.Vi
open Go.Proofs
theorem backV_acc {s : St} {b e eo : Nat} {rows : List (List PV)} (h : s.heap b = some (.own rows.length eo)) (he : rows = [] ∨ eo = e + 1) (hr : ∀ r ∈ rows, r.length = e + 1) : backV (e + 1) s (.acc b rows) = some (.acc (e + 1) rows) := by
  cases rows with
  | nil => rfl
  | cons r l =>
    have he : eo = e + 1 := by simpa using he
    subst he
    simp only [backV, h]
    have : (r :: l).all (fun r => Nat.beq r.length (e + 1)) = true := List.all_eq_true.2 fun x hx => by rw [hr x hx]; exact Nat.beq_refl _
    rw [this]
    simp only [Nat.beq_refl, Bool.and_true, Bool.true_and, Nat.blt]
    rw [show Nat.ble (Nat.succ 0) (e + 1) = true from Nat.ble_eq_true_of_le (by omega)]
    rfl
theorem all_len {rows : List (List PV)} {n : Nat} (h : ∀ r ∈ rows, r.length = n) : rows.all (fun r => Nat.beq r.length n) = true := List.all_eq_true.2 fun x hx => by rw [h x hx]; exact Nat.beq_refl _
theorem fits_small {n b : Nat} (h : n ≤ 100000) (hb : b ≤ 200) : Go.Ab.sizeFits n b = true := by
  unfold Go.Ab.sizeFits
  have h1 : n * b ≤ 100000 * 200 := Nat.mul_le_mul h hb
  rw [Nat.ble_eq_true_of_le (by omega), Nat.ble_eq_true_of_le (by omega)]
  rfl
attribute [local irreducible] qAsg qPick qBox qBuild qBsl qLoad1 qLoadN qStore qNil qBin qUn qConv qSlS qSlL qFA qF1 qFN qIA qIS qEx qLenS qLenL qApp pQ pQL pGL pCall pCallL condP optP pEnd OpS Int.instDecidableEq Int.decEq instBEqOfDecidableEq
section
variable {L : List PT} {a e b n : Int}
end
end Go.Vi
namespace Go.Vi
open Go.Proofs
attribute [local irreducible] qAsg qPick qBox qBuild qBsl qLoad1 qLoadN qStore qNil qBin qUn qConv qSlS qSlL qFA qF1 qFN qIA qIS qEx qLenS qLenL qApp pQ pQL pGL pCall pCallL condP optP pEnd OpS Int.instDecidableEq Int.decEq instBEqOfDecidableEq
theorem signed1_pq (k : Int) : ∃ w : Bool, PC Tryz.prog 155 [.int .i64 k] [] (.bool w) [] := by
  have : PQ Tryz.prog 155 [.int .i64 k] [] (fun r c => c = [] ∧ ∃ w : Bool, r = .bool w) := by
    refine c155_pq 0 rfl _ ?_
    unfold c155
    refine zv ?_
    cases h : decide (k ≥ 2)
    · refine zv ?_
      exact fin_i rfl rfl rfl ⟨rfl, _, rfl⟩
    · refine zv ?_
      exact fin_i rfl rfl rfl ⟨rfl, _, rfl⟩
  obtain ⟨r, c, hpc, rfl, w, rfl⟩ := this
  exact ⟨w, hpc⟩
end Go.Vi
namespace Go.Vi
open Go.Proofs
attribute [local irreducible] qAsg qPick qBox qBuild qBsl qLoad1 qLoadN qStore qNil qBin qUn qConv qSlS qSlL qFA qF1 qFN qIA qIS qEx qLenS qLenL qApp pQ pQL pGL pCall pCallL condP optP pEnd OpS Int.instDecidableEq Int.decEq instBEqOfDecidableEq
section
variable {L : List PT} {a e b n : Int}
theorem edge_rows_len {l : List Edge} : ∀ r ∈ l.map Edge.row, r.length = 2 := by
  intro r hr
  obtain ⟨x, _, rfl⟩ := List.mem_map.1 hr
  rfl
end
end Go.Vi
namespace Go.Vi
open Go.Proofs
attribute [local irreducible] qAsg qPick qBox qBuild qBsl qLoad1 qLoadN qStore qNil qBin qUn qConv qSlS qSlL qFA qF1 qFN qIA qIS qEx qLenS qLenL qApp pQ pQL pGL pCall pCallL condP optP pEnd OpS Int.instDecidableEq Int.decEq instBEqOfDecidableEq
section
variable {L : List PT} {a e b n : Int}
theorem PE.callL {f : Nat} {args vs : List PV} {s : St} {k : PV → St → List Nat → List Nat → Prop} (h : PE L f args a e b n) (h1 : toArgs vs 0 = some (.ptr 0 0 :: args, [0])) (h3 : getBoxes s [0] = some [cells L a e b n])
    (hk : ∀ f s1 nm tk tl i m kids at' a' e' b' n', (Exp.mk f s1 nm tk tl i m kids at').WF → At L a' → ((Exp.mk f s1 nm tk tl i m kids at').wt : Int) + mu L a' e' ≤ mu L a e →
      k (.agg [.int .i64 f, .int .i64 s1, .str nm, .int .i64 tk, .int .i64 tl, .int .i64 i, .int .i64 m, .lst (Exp.rows kids), .int .i64 at']) (s.set 0 (.box (cells L a' e' b' n'))) [] [0]) : pCallL Tryz.prog f vs s k :=
  PF.callL h h1 h3 fun r a' e' b' n' h => by
    obtain ⟨f, s1, nm, tk, tl, i, m, kids, at', rfl, hw, h2, h3⟩ := h
    exact hk f s1 nm tk tl i m kids at' a' e' b' n' hw h2 h3
theorem back_exp {s : St} {f s1 tk tl i m at' : Int} {nm : ByteArray} {kv : PV} {kids : List Exp} (h : kv.data = some (.lst (Exp.rows kids))) :
    (bif Nat.beq 0 0 then back0 (tupP [.agg [.int .i64 f, .int .i64 s1, .str nm, .int .i64 tk, .int .i64 tl, .int .i64 i, .int .i64 m, kv, .int .i64 at']]) else backV 0 s (tupP [.agg [.int .i64 f, .int .i64 s1, .str nm, .int .i64 tk, .int .i64 tl, .int .i64 i, .int .i64 m, kv, .int .i64 at']])) =
      some (.agg [.int .i64 f, .int .i64 s1, .str nm, .int .i64 tk, .int .i64 tl, .int .i64 i, .int .i64 m, .lst (Exp.rows kids), .int .i64 at']) := by
  have : datas [.int .i64 f, .int .i64 s1, .str nm, .int .i64 tk, .int .i64 tl, .int .i64 i, .int .i64 m, kv, .int .i64 at'] = some [.int .i64 f, .int .i64 s1, .str nm, .int .i64 tk, .int .i64 tl, .int .i64 i, .int .i64 m, .lst (Exp.rows kids), .int .i64 at'] := by
    simp only [datas, h]
    rfl
  show back0 (.agg _) = _
  simp only [back0, back1, this]
end
end Go.Vi
namespace Go.Vi
open Go.Proofs
theorem gb0 {s : St} {cs k : List PV} (h : s.heap 0 = some (.box cs)) (hd : datas cs = some k) : getBoxes s [0] = some [k] := by
  simp only [getBoxes, h, hd]
attribute [local irreducible] qAsg qPick qBox qBuild qBsl qLoad1 qLoadN qStore qNil qBin qUn qConv qSlS qSlL qFA qF1 qFN qIA qIS qEx qLenS qLenL qApp pQ pQL pGL pCall pCallL condP optP pEnd OpS Int.instDecidableEq Int.decEq instBEqOfDecidableEq
section
variable {L : List PT} {a e b n : Int}
end
end Go.Vi
