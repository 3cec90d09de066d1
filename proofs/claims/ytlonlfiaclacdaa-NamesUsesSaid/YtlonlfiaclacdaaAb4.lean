/-
  READING AND WRITING CELLS (own work): the evaluator's reads, writes, new rows, appends are the model's.
-/
import Derived.Test.YtlonlfiaclacdaaAb3
namespace Go.Ab

theorem run_pure' {α : Type} (a : α) (s : St) : (pure a : M α).run s = .ok a s := rfl
theorem run_bind' {α β : Type} (x : M α) (f : α → M β) (s : St) : (x >>= f).run s = bindRun x.run (fun a => (f a).run) s := rfl
theorem run_failM {α : Type} (s : St) : (failM : M α).run s = .fail := rfl

theorem bind_ok {α β : Type} {x : M α} {f : α → M β} {s : St} {b : β} {s' : St} (h : (x >>= f).run s = .ok b s') :
    ∃ a s1, x.run s = .ok a s1 ∧ (f a).run s1 = .ok b s' := bindRun_ok.1 h
theorem pure_ok {α : Type} {a b : α} {s s' : St} (h : (pure a : M α).run s = .ok b s') : b = a ∧ s' = s := by
  cases h; exact ⟨rfl, rfl⟩
theorem fail_ok {α : Type} {b : α} {s s' : St} (h : (failM : M α).run s = .ok b s') : False := by cases h
theorem ofO_ok {α : Type} {x : Option α} {a : α} {s s' : St} (h : (ofO x).run s = .ok a s') : x = some a ∧ s' = s := by
  unfold ofO at h
  cases x with
  | none => exact (fail_ok h).elim
  | some b => obtain ⟨rfl, rfl⟩ := pure_ok h; exact ⟨rfl, rfl⟩
theorem look_ok {α : Type} {b : Nat} {f : Obj → Option α} {s : St} {a : α} {s' : St} (h : (look b f).run s = .ok a s') :
    ∃ o, s.heap.get b = some o ∧ f o = some a ∧ s'.heap = s.heap ∧ s'.next = s.next := by
  obtain ⟨_, o, h1, h2, rfl⟩ := lookRun_ok.1 h
  exact ⟨o, h1, h2, rfl, rfl⟩
theorem upd_ok {α : Type} {b : Nat} {f : Obj → Option (α × Obj)} {s : St} {a : α} {s' : St} (h : (upd b f).run s = .ok a s') :
    ∃ o o', s.heap.get b = some o ∧ f o = some (a, o') ∧ s'.heap = s.heap.set b o' ∧ s'.next = s.next := by
  obtain ⟨_, o, o', h1, h2, rfl⟩ := updRun_ok.1 h
  exact ⟨o, o', h1, h2, rfl, rfl⟩
theorem new_ok {o : Obj} {s : St} {b : Nat} {s' : St} (h : (newObj o).run s = .ok b s') : b = s.next ∧ s'.heap = s.heap.set s.next o ∧ s'.next = s.next + 1 := by
  cases h; exact ⟨rfl, rfl, rfl⟩

/-- Numbers that come on the way are free ahead of it. -/
def Fresh (s s' : St) : Prop := ∀ b, s.next ≤ b → b < s'.next → s.heap.get b = none

theorem M.next_le {α : Type} {x : M α} {s : St} {a : α} {s' : St} (h : x.run s = .ok a s') : s.next ≤ s'.next := by
  obtain ⟨r, w, L⟩ := x.loc _ _ _ h
  exact L.next

theorem Fresh.left {s s1 s' : St} (h : Fresh s s') (h1 : s1.next ≤ s'.next) : Fresh s s1 := fun b h2 h3 => h b h2 (by omega)

theorem Fresh.right {α : Type} {x : M α} {s : St} {a : α} {s1 s' : St} (hx : x.run s = .ok a s1) (h : Fresh s s') : Fresh s1 s' := by
  obtain ⟨r, w, L⟩ := x.loc _ _ _ hx
  intro b h2 h3
  exact L.dom b (h b (Nat.le_trans L.next h2) h3) (.inr h2)

theorem Fresh.split {α β : Type} {x : M α} {y : M β} {s : St} {a : α} {b : β} {s1 s' : St} (hx : x.run s = .ok a s1) (hy : y.run s1 = .ok b s') (h : Fresh s s') :
    Fresh s s1 ∧ Fresh s1 s' := ⟨h.left (M.next_le hy), h.right hx⟩

/-! ### Trees and lists -/

theorem get_fillTr (l : List AV) : ∀ (i : Nat) (t : Tr AV) (j : Nat), (fillTr l i t).get j = if i ≤ j ∧ j < i + l.length then l[j - i]? else t.get j := by
  induction l with
  | nil => intro i t j; simp only [fillTr, List.length_nil]; rw [if_neg (by omega)]
  | cons x l ih =>
    intro i t j
    simp only [fillTr, ih, Tr.get_set, List.length_cons]
    by_cases h1 : i + 1 ≤ j ∧ j < i + 1 + l.length
    · rw [if_pos h1, if_pos (by omega)]
      have : j - i = (j - (i + 1)) + 1 := by omega
      rw [this]; simp
    · rw [if_neg h1]
      by_cases h2 : j = i
      · subst h2; rw [if_pos rfl, if_pos (by omega)]; simp
      · rw [if_neg h2, if_neg (by omega)]

theorem Cs.get_of (xs : List AV) (j : Nat) : (Cs.of xs).get j = xs[j]? := by
  unfold Cs.of
  cases Nat.ble xs.length 16 with
  | true => rfl
  | false =>
    show (fillTr xs 0 .nil).get j = xs[j]?
    rw [get_fillTr]
    by_cases h : j < xs.length
    · rw [if_pos (by omega)]; rfl
    · rw [if_neg (by omega), Tr.get_nil, List.getElem?_eq_none (by omega)]

theorem Cs.get_fill (xs : List AV) (i : Nat) (c : Cs) (j : Nat) : (Cs.fill xs i c).get j = if i ≤ j ∧ j < i + xs.length then xs[j - i]? else c.get j := by
  cases c with
  | tree t => exact get_fillTr xs i t j
  | list l =>
    simp only [Cs.fill]
    cases hb : Nat.ble (i + xs.length) l.length with
    | true =>
      have hle := Nat.le_of_ble_eq_true hb
      show (l.take i ++ (xs ++ l.drop (i + xs.length)))[j]? = _
      have hl : (l.take i).length = i := by rw [List.length_take]; omega
      by_cases h1 : j < i
      · rw [List.getElem?_append_left (by omega), if_neg (by omega), List.getElem?_take, if_pos h1]; rfl
      · rw [List.getElem?_append_right (by omega), hl]
        by_cases h2 : j < i + xs.length
        · rw [List.getElem?_append_left (by omega), if_pos (by omega)]
        · rw [List.getElem?_append_right (by omega), if_neg (by omega), List.getElem?_drop]
          show l[_]? = l[j]?
          congr 1; omega
    | false =>
      show (fillTr xs i (fillTr l 0 .nil)).get j = _
      rw [get_fillTr]
      by_cases h : i ≤ j ∧ j < i + xs.length
      · rw [if_pos h, if_pos h]
      · rw [if_neg h, if_neg h, get_fillTr]
        show _ = l[j]?
        by_cases h : j < l.length
        · rw [if_pos (by omega)]; rfl
        · rw [if_neg (by omega), Tr.get_nil, List.getElem?_eq_none (by omega)]

theorem readList_get {t : Cs} : ∀ {n i : Nat} {l : List AV}, readList t i n = some l → l.length = n ∧ ∀ j, j < n → t.get (i + j) = l[j]? := by
  intro n
  induction n with
  | zero => intro i l h; simp [readList] at h; subst h; exact ⟨rfl, fun j hj => by omega⟩
  | succ n ih =>
    intro i l h
    simp only [readList] at h
    cases ht : t.get i with
    | none => simp [ht] at h
    | some x =>
      cases hr : readList t (i + 1) n with
      | none => simp [ht, hr] at h
      | some r =>
        simp [ht, hr] at h
        subst h
        obtain ⟨h1, h2⟩ := ih hr
        refine ⟨by simp [h1], fun j hj => ?_⟩
        cases j with
        | zero => simpa using ht
        | succ j => have := h2 j (by omega); rw [show i + (j + 1) = i + 1 + j by omega, this]; simp

theorem beq_ne {a b : Nat} (h : a ≠ b) : Nat.beq a b = false := by
  cases e : Nat.beq a b with
  | false => rfl
  | true => exact absurd (Nat.eq_of_beq_eq_true e) h
theorem beq_self (a : Nat) : Nat.beq a a = true := by rw [Nat.beq_eq]

theorem fits_spec {r : Row} {v upto : Nat} (h : r.fits v upto = true) : upto ≤ r.n ∧ (v = r.cur ∨ (v < r.nv ∧ upto ≤ r.low)) := by
  unfold Row.fits at h
  simp only [Bool.and_eq_true, Bool.or_eq_true, Nat.ble_eq, Nat.beq_eq, Nat.blt_eq] at h
  exact h

/-! ### Reading -/

section
variable {P : Program} {m : Inj} {w : World}

theorem read_row {h : Nat → Option Obj} (hr : Rel m h w) {b v i n : Nat} {o : Obj} {l : List AV} (ho : h b = some o) (hl : readRow v i n o = some l)
    {B t e : Nat} (hm : m b v = some (B, t, e)) :
    ∃ l', VRs m l l' ∧ l'.length = n ∧ ∀ j u, l'[j]? = some u → w.cell? ((⟨B, i, none⟩ : Addr).add j) = some u := by
  cases o with
  | map es => simp [readRow] at hl
  | loop L => simp [readRow] at hl
  | iter i => simp [readRow] at hl
  | row r =>
    simp only [readRow] at hl
    cases hf : r.fits v (i + n) with
    | false => simp [hf] at hl
    | true =>
      rw [hf] at hl
      simp only [cond_true] at hl
      obtain ⟨h1, h2⟩ := readList_get hl
      obtain ⟨hn, hv⟩ := fits_spec hf
      obtain ⟨_, _, h5⟩ := hr.obj b _ ho
      obtain ⟨_, cs, ty, hcs, _, hi⟩ := h5 v B t e hm
      have hcell : ∀ j, j < n → ∃ a u, l[j]? = some a ∧ cs[i + j]? = some u ∧ VR m a u := by
        intro j hj
        obtain ⟨a, u, ha, hu, hvr⟩ := hi (i + j) (by omega) (by rcases hv with h | h; exact .inl h; exact .inr (by omega))
        rw [h2 j hj] at ha
        exact ⟨a, u, ha, hu, hvr⟩
      refine ⟨(List.range n).map fun j => (cs[i + j]?).getD undef, VRs.of_get (by simp [h1]) ?_, by simp, ?_⟩
      · intro j a u ha hu
        have hj : j < n := by rw [← h1]; exact (List.getElem?_eq_some_iff.1 ha).1
        obtain ⟨a', u', ha', hu', hvr⟩ := hcell j hj
        rw [ha] at ha'; cases ha'
        simp [hj, hu'] at hu
        subst hu; exact hvr
      · intro j u hu
        have hj : j < n := by have := (List.getElem?_eq_some_iff.1 hu).1; simpa using this
        obtain ⟨a', u', ha', hu', hvr⟩ := hcell j hj
        simp [hj, hu'] at hu
        subst hu
        have hadd : (⟨B, i, none⟩ : Addr).add j = ⟨B, i + j, none⟩ := by unfold Addr.add; split <;> simp_all
        rw [hadd, cell_of_row w B (i + j) cs ty (0, 0) hcs, hu']

theorem readCells_sim {s : St} (hr : Rel m s.heap.get w) {b v i n : Nat} {l : List AV} {s' : St} (h : (readCells b v i n).run s = .ok l s') {B t e : Nat} (hm : m b v = some (B, t, e)) :
    ∃ l', VRs m l l' ∧ l'.length = n ∧ (∀ j u, l'[j]? = some u → w.cell? ((⟨B, i, none⟩ : Addr).add j) = some u) ∧ (loadCells ⟨B, i, none⟩ n).run P w = .ok l'.toArray w ∧ s'.heap = s.heap ∧ s'.next = s.next := by
  obtain ⟨o, h1, h2, h3, h4⟩ := look_ok h
  obtain ⟨l', hl1, hl2, hl3⟩ := read_row hr h1 h2 hm
  refine ⟨l', hl1, hl2, hl3, ?_, h3, h4⟩
  rw [← hl2]
  exact run_loadCells_list w _ _ hl3

theorem readCell_sim {s : St} (hr : Rel m s.heap.get w) {b v i : Nat} {a : AV} {s' : St} (h : (readCell b v i).run s = .ok a s') {B t e : Nat} (hm : m b v = some (B, t, e)) :
    ∃ u, VR m a u ∧ w.cell? ⟨B, i, none⟩ = some u ∧ s'.heap = s.heap ∧ s'.next = s.next := by
  obtain ⟨o, h1, h2, h3, h4⟩ := look_ok h
  cases o with
  | map es => simp [readOne] at h2
  | loop L => simp [readOne] at h2
  | iter i => simp [readOne] at h2
  | row r =>
    simp only [readOne] at h2
    cases hf : r.fits v (i + 1) with
    | false => simp [hf] at h2
    | true =>
      rw [hf] at h2
      simp only [cond_true] at h2
      obtain ⟨hn, hv⟩ := fits_spec hf
      obtain ⟨_, _, h5⟩ := hr.obj b _ h1
      obtain ⟨_, cs, ty, hcs, _, hi⟩ := h5 v B t e hm
      obtain ⟨a', u, ha, hu, hvr⟩ := hi i (by omega) (by rcases hv with h | h; exact .inl h; exact .inr (by omega))
      rw [h2] at ha; cases ha
      exact ⟨u, hvr, by rw [cell_of_row w B i cs ty (0, 0) hcs, hu], h3, h4⟩

/-! ### New rows -/

theorem frozen_alloc (w : World) (o : Go.Obj) (h : ∀ c t fr, o = .cells c t fr → fr = (0, 0)) (a : Addr) : (w.alloc o).frozen? a = w.frozen? a := by
  by_cases ha : a.block = w.heap.size
  · have e1 : (w.alloc o).heap[a.block]? = some o := by rw [ha]; exact heap_alloc_new w o
    have e2 : w.heap[a.block]? = none := by rw [ha]; simp
    simp only [World.frozen?, e1, e2]
    cases o with
    | cells c t fr => rw [h c t fr rfl]; simp
    | _ => rfl
  · by_cases hlt : a.block < w.heap.size
    · simp only [World.frozen?, heap_alloc_old w o a.block hlt]
    · have e1 : (w.alloc o).heap[a.block]? = none := by show (w.heap.push o)[a.block]? = none; simp; omega
      have e2 : w.heap[a.block]? = none := by simp; omega
      simp only [World.frozen?, e1, e2]

/-- A row of new cells: the evaluator knows the first ones. -/
theorem new_row {s : St} (hr : Rel m s.heap.get w) {l : List AV} {cells : Array Value} {e : TypeId} {esz : Nat} {o : Obj}
    (ho : o = .row { n := l.length, cells := Cs.of l, cur := 0, nv := 1, low := bigLow, esz := esz })
    {b : Nat} {s' : St} (h : (newObj o).run s = .ok b s') (hf : Fresh s s')
    (hl : VRs m l (cells.toList.take l.length)) :
    ∃ m', Ext m w m' (w.alloc (.cells cells e)) ∧ Rel m' s'.heap.get (w.alloc (.cells cells e)) ∧ m' b 0 = some (w.heap.size, cells.size, esz) := by
  subst ho
  obtain ⟨rfl, h2, h3⟩ := new_ok h
  have hb : s.heap.get s.next = none := hf _ (Nat.le_refl _) (by omega)
  obtain ⟨m', h5, h6, h7⟩ := hr.new hb (.row { n := l.length, cells := Cs.of l, cur := 0, nv := 1, low := bigLow, esz := esz }) (.cells cells e) cells.size esz (by
    intro m' hle' hnew hcell
    refine ⟨by simp, fun u => by rw [hnew]; split <;> simp <;> omega, ?_⟩
    intro u B t e' hm
    rw [hnew] at hm
    split at hm
    · cases hm
      refine ⟨rfl, cells, e, hcell, rfl, fun i hi _ => ?_⟩
      simp only at hi
      obtain ⟨a, ha⟩ : ∃ a, l[i]? = some a := ⟨l[i], by simp [hi]⟩
      obtain ⟨v, hv, hvr⟩ := hl.get ha
      rw [List.getElem?_take, if_pos hi] at hv
      refine ⟨a, v, ?_, by simpa using hv, hvr.mono hle'⟩
      show (Cs.of l).get i = some a
      rw [Cs.get_of]; exact ha
    · cases hm) (frozen_alloc w _ (fun c t fr e => by cases e; rfl))
  refine ⟨m', h5, ?_, h7⟩
  refine h6.congr fun x => ?_
  rw [h2, Tr.get_set]

/-! ### Writing -/

theorem setRow_facts (w : World) (g : Nat) (old cs : Array Value) (ty : TypeId) (hg : w.heap[g]? = some (.cells old ty (0, 0))) :
    (w.setRow g cs).heap[g]? = some (.cells cs ty (0, 0)) ∧ (∀ k, k ≠ g → (w.setRow g cs).heap[k]? = w.heap[k]?) ∧ (w.setRow g cs).heap.size = w.heap.size ∧
    ∀ a, (w.setRow g cs).frozen? a = w.frozen? a := by
  have h1 := setRow_heap w g old cs ty (0, 0) hg
  have h2 : ∀ k, k ≠ g → (w.setRow g cs).heap[k]? = w.heap[k]? := fun k hk => setRow_other w g k cs hk
  refine ⟨h1, h2, by simp [World.setRow], fun a => ?_⟩
  by_cases e : a.block = g
  · simp only [World.frozen?, e, h1, hg]
  · simp only [World.frozen?, h2 _ e]

/-- The cells of a row behind a store of several. -/
theorem splice_get (cs : List Value) (i : Nat) (xs : List Value) (h : i + xs.length ≤ cs.length) (j : Nat) :
    (cs.take i ++ xs ++ cs.drop (i + xs.length))[j]? = if i ≤ j ∧ j < i + xs.length then xs[j - i]? else cs[j]? := by
  by_cases h1 : j < i
  · rw [if_neg (by omega), List.append_assoc, List.getElem?_append_left (by simp; omega), List.getElem?_take, if_pos h1]
  · by_cases h2 : j < i + xs.length
    · rw [if_pos (by omega), List.getElem?_append_left (by simp; omega), List.getElem?_append_right (by simp; omega)]
      congr 1; simp; omega
    · rw [if_neg (by omega), List.getElem?_append_right (by simp; omega), List.getElem?_drop]
      congr 1; simp; omega

theorem splice_length (cs : List Value) (i : Nat) (xs : List Value) (h : i + xs.length ≤ cs.length) : (cs.take i ++ xs ++ cs.drop (i + xs.length)).length = cs.length := by
  simp; omega

theorem all_scalar {l : List AV} {l' : List Value} (h : VRs m l l') (ha : l.all AV.scalar = true) : ∀ v ∈ l', v.oneCell' = true := by
  induction l generalizing l' with
  | nil => cases h; simp
  | cons a l ih =>
    cases h with
    | cons _ v _ l' h1 h2 =>
      simp only [List.all_cons, Bool.and_eq_true] at ha
      intro x hx
      rcases List.mem_cons.1 hx with rfl | hx
      · exact h1.scalar ha.1
      · exact ih h2 ha.2 x hx

theorem write_sim {s : St} (hr : Rel m s.heap.get w) {b v i : Nat} {xs : List AV} {xs' : List Value} {s' : St} (h : (writeCells b v i xs).run s = .ok () s')
    {B t e : Nat} (hm : m b v = some (B, t, e)) (hx : VRs m xs xs') :
    ∃ w', (storeCells ⟨B, i, none⟩ xs' 0).run P w = .ok () w' ∧ Ext m w m w' ∧ Rel m s'.heap.get w' := by
  cases hxs : xs with
  | nil =>
    subst hxs
    cases hx
    obtain ⟨_, rfl⟩ := pure_ok (h : (pure () : M Unit).run s = .ok () s')
    exact ⟨w, rfl, Ext.refl m w, hr⟩
  | cons x0 xr =>
    have h' : (upd b (writeRow v i xs)).run s = .ok () s' := by rw [hxs] at h ⊢; exact h
    obtain ⟨o, o', h1, h2, h3, h4⟩ := upd_ok h'
    cases o with
    | map es => simp [writeRow] at h2
    | loop L => simp [writeRow] at h2
    | iter i => simp [writeRow] at h2
    | row r =>
      simp only [writeRow] at h2
      cases hf : r.fits v (i + xs.length) && xs.all AV.scalar with
      | false => simp [hf] at h2
      | true =>
        rw [hf] at h2
        simp only [cond_true, Option.some.injEq, Prod.mk.injEq, true_and] at h2
        obtain ⟨hf1, hf2⟩ := Bool.and_eq_true_iff.1 hf
        obtain ⟨hn, hv⟩ := fits_spec hf1
        have ho := hr.obj b _ h1
        obtain ⟨hcur, hnv, h5⟩ := ho
        obtain ⟨hesz, cs, ty, hcs, hct, hi⟩ := h5 v B t e hm
        have hlen := hx.length
        have hpos : 0 < xs.length := by rw [hxs]; simp
        have hsize : i + xs'.length ≤ cs.toList.length := by
          obtain ⟨a, u, _, hu, _⟩ := hi (i + xs.length - 1) (by omega) (by rcases hv with h | h; exact .inl h; exact .inr (by omega))
          have := (Array.getElem?_eq_some_iff.1 hu).1
          simp; omega
        have hrun := run_storeCells_at (P := P) B i ty xs' 0 cs w hcs (by simpa using hsize) (all_scalar hx hf2)
        simp only [Nat.add_zero] at hrun
        obtain ⟨g1, g2, g3, g4⟩ := setRow_facts w B cs (cs.toList.take i ++ xs' ++ cs.toList.drop (i + xs'.length)).toArray ty hcs
        refine ⟨_, hrun, ?_⟩
        have key := hr.turn (m' := m) (b := b) (B := B) (o := o') (w' := w.setRow B (cs.toList.take i ++ xs' ++ cs.toList.drop (i + xs'.length)).toArray)
          (Inj.le_refl m) (fun _ _ _ => rfl) ⟨v, t, e, hm⟩ (fun u B' t e hh => ⟨u, t, e, hh⟩) g2 g3 rfl rfl g4 ?_ ⟨_, h1⟩
        · refine ⟨key.1, key.2.congr fun x => ?_⟩
          rw [h3, Tr.get_set]
        · rw [← h2]
          have hvnv : v < r.nv := by rw [← hnv]; rw [hm]; rfl
          refine ⟨hvnv, hnv, fun u B' t' e' hm' => ?_⟩
          obtain ⟨hesz', cs', ty', hcs', hct', hi'⟩ := h5 u B' t' e' hm'
          refine ⟨hesz', ?_⟩
          -- what the bounds say
          have hnew : ∀ j, j < (bif Nat.beq v r.cur then r.n else min r.n r.low) → (u = v ∨ j < (bif Nat.beq r.nv 1 then r.low else min r.low i)) →
              j < r.n ∧ (u = r.cur ∨ j < r.low) ∧ (u = v ∨ j < i ∨ r.nv = 1) := by
            intro j hj1 hj2
            by_cases hvc : v = r.cur
            · rw [hvc, beq_self] at hj1
              simp only [cond_true] at hj1
              refine ⟨hj1, ?_, ?_⟩
              · rcases hj2 with h | h
                · exact .inl (h.trans hvc)
                · right; revert h; cases Nat.beq r.nv 1 <;> simp <;> omega
              · rcases hj2 with h | h
                · exact .inl h
                · by_cases hone : r.nv = 1
                  · exact .inr (.inr hone)
                  · rw [beq_ne hone] at h; simp only [cond_false] at h; right; left; omega
            · rw [beq_ne hvc] at hj1
              simp only [cond_false] at hj1
              have hlow := (hv.resolve_left hvc).2
              refine ⟨by omega, .inr (by omega), ?_⟩
              rcases hj2 with h | h
              · exact .inl h
              · by_cases hone : r.nv = 1
                · exact .inr (.inr hone)
                · rw [beq_ne hone] at h; simp only [cond_false] at h; right; left; omega
          by_cases hB : B' = B
          · subst hB
            rw [hcs] at hcs'
            cases hcs'
            refine ⟨_, ty, g1, ?_, ?_⟩
            · rw [← hct']
              simp only [List.size_toArray, splice_length _ _ _ hsize, Array.length_toList]
            · intro j hj1 hj2
              obtain ⟨k1, k2, k3⟩ := hnew j hj1 hj2
              obtain ⟨a, u', ha, hu', hvr⟩ := hi' j k1 k2
              simp only [List.getElem?_toArray, splice_get _ _ _ hsize, Cs.get_fill]
              by_cases hin : i ≤ j ∧ j < i + xs.length
              · rw [if_pos (by omega), if_pos (by omega)]
                obtain ⟨a1, ha1⟩ : ∃ a1, xs[j - i]? = some a1 := ⟨xs[j - i]'(by omega), by rw [List.getElem?_eq_getElem]⟩
                obtain ⟨u1, hu1, hvr1⟩ := hx.get ha1
                exact ⟨a1, u1, ha1, hu1, hvr1⟩
              · rw [if_neg (by omega), if_neg (by omega)]
                exact ⟨a, u', ha, by simpa using hu', hvr⟩
          · refine ⟨cs', ty', by rw [g2 B' hB]; exact hcs', hct', fun j hj1 hj2 => ?_⟩
            obtain ⟨k1, k2, k3⟩ := hnew j hj1 hj2
            obtain ⟨a, u', ha, hu', hvr⟩ := hi' j k1 k2
            simp only [Cs.get_fill]
            have hne : u ≠ v := by
              rintro rfl
              rw [hm] at hm'; cases hm'; exact hB rfl
            have hnone : r.nv ≠ 1 := by
              intro h1'
              have : u < r.nv := by rw [← hnv, hm']; rfl
              exact hne (by omega)
            have hji : j < i := by rcases k3 with h | h | h; exact absurd h hne; exact h; exact absurd h hnone
            rw [if_neg (by omega)]
            exact ⟨a, u', ha, hu', hvr⟩

end
end Go.Ab
