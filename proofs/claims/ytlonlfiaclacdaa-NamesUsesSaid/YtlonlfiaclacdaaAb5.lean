/-
  OPERATIONS THAT CALL NOTHING (own work): what the evaluator makes of them is what the model makes of them.
-/
import Derived.Test.YtlonlfiaclacdaaAb4
namespace Go.Ab

section
variable {P : Program} {m : Inj} {w : World}

theorem szOf_some {t : TypeId} {n : Nat} (h : szOf P t = some n) : ∃ i, P.info? t = some i ∧ i.size = n := by
  unfold szOf at h
  cases hi : P.info? t with
  | none => simp [hi] at h
  | some i => simp [hi] at h; exact ⟨i, rfl, h⟩
theorem bytesOf_some {t : TypeId} {n : Nat} (h : bytesOf P t = some n) : ∃ i, P.info? t = some i ∧ i.bytes = n := by
  unfold bytesOf at h
  cases hi : P.info? t with
  | none => simp [hi] at h
  | some i => simp [hi] at h; exact ⟨i, rfl, h⟩
theorem run_sizeOf' {t : TypeId} {n : Nat} (h : szOf P t = some n) (w : World) : (sizeOf t).run P w = .ok n w := by
  obtain ⟨i, hi, rfl⟩ := szOf_some h
  simp [sizeOf, typeInfo, hi]
theorem sliceElem_some {t e : TypeId} (h : sliceElem P t = some e) : P.underlying t = some (.slice e) := by
  unfold sliceElem at h
  split at h
  · rename_i e' he; simp at h; subst h; exact he
  · cases h
theorem mapElem_some {t k e : TypeId} (h : mapElem P t = some (k, e)) : P.underlying t = some (.map k e) := by
  unfold mapElem at h
  split at h
  · rename_i k' e' he; simp at h; obtain ⟨rfl, rfl⟩ := h; exact he
  · cases h
theorem fieldO_some {t : TypeId} {f : Nat} {fd : Field} (h : fieldO P t f = some fd) : ∃ fs, P.underlying t = some (.struct fs) ∧ fs[f]? = some fd := by
  unfold fieldO at h
  split at h
  · rename_i fs hfs; exact ⟨fs, hfs, h⟩
  · cases h
theorem run_isAgg' {t : TypeId} {b : Bool} (h : isAggO P t = some b) (w : World) : (isAgg t).run P w = .ok b w := by
  unfold isAggO at h
  split at h
  · rename_i hd; simp at h; subst h; simp [isAgg, run_underlying hd]
  · rename_i hd; simp at h; subst h; simp [isAgg, run_underlying hd]
  · rename_i d h1 h2 hd
    simp at h; subst h
    cases d <;> first | (exact (h1 _ rfl).elim) | (exact (h2 _ _ rfl).elim) | simp [isAgg, run_underlying hd]
  · cases h

theorem absConst1_rel {v : Value} {a : AV} (h : absConst1 v = some a) : VR m a v := by
  unfold absConst1 at h
  split at h <;> first | (cases h; done) | skip
  all_goals (simp at h; subst h)
  · exact .bool _
  · exact .int _ _
  · exact .str _ _ _ rfl rfl
  · exact .nilptr
  · exact .nilslice
  · exact .nilmap
  · exact .nilfunc
  · exact .niliface

theorem absList_rel : ∀ {l : List Value} {k : List AV}, absList l = some k → VRs m k l
  | [], k, h => by simp [absList] at h; subst h; exact .nil
  | v :: r, k, h => by
    simp only [absList] at h
    cases h1 : absConst1 v with
    | none => simp [h1] at h
    | some a =>
      cases h2 : absList r with
      | none => simp [h1, h2] at h
      | some l => simp [h1, h2] at h; subst h; exact .cons _ _ _ _ (absConst1_rel h1) (absList_rel h2)

theorem absConst_rel {v : Value} {a : AV} (h : absConst v = some a) : VR m a v := by
  unfold absConst at h
  split at h
  · rename_i cs
    cases h2 : absList cs.toList with
    | none => simp [h2] at h
    | some l => simp [h2] at h; subst h; exact .agg _ cs.toList (absList_rel h2)
  · rename_i cs
    cases h2 : absList cs.toList with
    | none => simp [h2] at h
    | some l => simp [h2] at h; subst h; exact .tuple _ cs.toList (absList_rel h2)
  · exact absConst1_rel h

theorem zeroO_some {t : TypeId} {z : AV} (h : zeroO P t = some z) : ∃ i v, P.info? t = some i ∧ i.zero = some v ∧ absConst v = some z := by
  unfold zeroO at h
  cases hi : P.info? t with
  | none => simp [hi] at h
  | some i =>
    cases hz : i.zero with
    | none => simp [hi, hz] at h
    | some v => simp [hi, hz] at h; exact ⟨i, v, rfl, hz, h⟩
theorem run_zero {t : TypeId} {z : AV} (h : zeroO P t = some z) (w : World) : ∃ v, (zeroValue t).run P w = .ok v w ∧ ∀ m, VR m z v := by
  obtain ⟨i, v, hi, hz, hc⟩ := zeroO_some h
  exact ⟨v, by simp [zeroValue, typeInfo, hi, hz], fun m => absConst_rel hc⟩

theorem nat_some {a : AV} {n : Nat} (h : a.nat = some n) {v : Value} (hv : VR m a v) : ∃ k, v = .int k (n : Int) := by
  cases hv <;> simp [AV.nat] at h
  rename_i k i
  cases i with
  | ofNat j => simp at h; subst h; exact ⟨k, rfl⟩
  | negSucc j => simp at h

/-! ### Memory -/

theorem load_sim {s : St} (hr : Rel m s.heap.get w) {t : TypeId} {a x : AV} {v : Value} {s' : St} (h : (loadA P t a).run s = .ok x s') (ha : VR m a v) :
    ∃ v', (Instr.loadAt t v).run P w = .ok v' w ∧ VR m x v' ∧ s'.heap = s.heap ∧ s'.next = s.next := by
  cases ha <;> simp only [loadA] at h <;> first | exact (fail_ok h).elim | skip
  rename_i b u o B t' e hm
  cases hag : isAggO P t with
  | none => rw [hag] at h; exact (fail_ok h).elim
  | some g =>
    rw [hag] at h
    cases g with
    | true =>
      cases hs : szOf P t with
      | none => rw [hs] at h; exact (fail_ok h).elim
      | some n =>
        rw [hs] at h
        obtain ⟨l, s1, h1, h2⟩ := bind_ok h
        obtain ⟨rfl, rfl⟩ := pure_ok h2
        obtain ⟨l', g1, g2, g3, g4, g5, g6⟩ := readCells_sim (P := P) hr h1 hm
        exact ⟨.agg l'.toArray, by simp [Instr.loadAt, Instr.sureAddr, loadVar, run_isAgg' hag, run_sizeOf' hs, g4], .agg _ _ g1, g5, g6⟩
    | false =>
      obtain ⟨u', g1, g2, g3, g4⟩ := readCell_sim hr h hm
      exact ⟨u', by simp [Instr.loadAt, Instr.sureAddr, loadVar, run_isAgg' hag, g2], g1, g3, g4⟩

theorem store_sim {s : St} (hr : Rel m s.heap.get w) {t : TypeId} {a x y : AV} {v u : Value} {s' : St} (h : (storeA P t a x).run s = .ok y s') (ha : VR m a v) (hx : VR m x u) :
    ∃ w', (Instr.storeAt t v u).run P w = .ok () w' ∧ Ext m w m w' ∧ Rel m s'.heap.get w' ∧ y = undefA := by
  cases ha <;> simp only [storeA] at h <;> first | exact (fail_ok h).elim | skip
  rename_i b ver o B t' e hm
  cases hs : szOf P t with
  | none => rw [hs] at h; exact (fail_ok h).elim
  | some n =>
    rw [hs] at h
    cases hn : Nat.beq x.cells.length n with
    | false => simp only [hn, cond_false] at h; exact (fail_ok h).elim
    | true =>
      simp only [hn, cond_true] at h
      obtain ⟨_, s1, h1, h2⟩ := bind_ok h
      obtain ⟨rfl, rfl⟩ := pure_ok h2
      obtain ⟨w', g1, g2, g3⟩ := write_sim (P := P) hr h1 hm hx.cells
      have hlen : u.cells.size = n := by
        have := hx.cells.length
        rw [Nat.eq_of_beq_eq_true hn] at this
        simpa using this.symm
      exact ⟨w', by simp [Instr.storeAt, Instr.sureAddr, storeVar, run_sizeOf' hs, hlen, g1], g2, g3, rfl⟩

/-- A row that holds just these cells. -/
theorem newRow_sim {s : St} (hr : Rel m s.heap.get w) {l : List AV} {cells : Array Value} {ty : TypeId} {b : Nat} {s' : St} (h : (newRow l).run s = .ok b s') (hf : Fresh s s')
    (hl : VRs m l cells.toList) : ∃ m', Ext m w m' (w.alloc (.cells cells ty)) ∧ Rel m' s'.heap.get (w.alloc (.cells cells ty)) ∧ m' b 0 = some (w.heap.size, cells.size, 0) :=
  new_row hr (esz := 0) (l := l) (e := ty) rfl h hf (by
    have : l.length = cells.toList.length := hl.length
    rw [List.take_of_length_le (by omega)]; exact hl)

theorem run_newRow (e : TypeId) (cells : Array Value) (w : World) : (Go.newRow e cells).run P w = .ok ⟨w.heap.size, 0, none⟩ (w.alloc (.cells cells e)) := by
  simp only [Go.newRow, Sem.run_bind]
  rfl

theorem alloc_sim {s : St} (hr : Rel m s.heap.get w) {e : TypeId} {z : AV} (hz : zeroO P e = some z) {b : Nat} {s' : St} (h : (newRow z.cells).run s = .ok b s') (hf : Fresh s s') :
    ∃ v w' m', (Instr.alloc e true (.tuple #[])).run P w = .ok v w' ∧ Ext m w m' w' ∧ Rel m' s'.heap.get w' ∧ VR m' (.ptr b 0 0) v := by
  obtain ⟨v, hv, hvr⟩ := run_zero hz w
  obtain ⟨m', g1, g2, g3⟩ := newRow_sim (ty := e) hr h hf (hvr m).cells
  exact ⟨.pointer (some ⟨w.heap.size, 0, none⟩), _, m', by simp [Instr.alloc, hv, newVar, run_newRow], g1, g2, .ptr _ _ _ _ _ _ g3⟩

theorem box_sim {s : St} (hr : Rel m s.heap.get w) {e : TypeId} {x : AV} {u : Value} (hx : VR m x u) {b : Nat} {s' : St} (h : (newRow x.cells).run s = .ok b s') (hf : Fresh s s') :
    ∃ v w' m', (Instr.box e u).run P w = .ok v w' ∧ Ext m w m' w' ∧ Rel m' s'.heap.get w' ∧ VR m' (.ptr b 0 0) v := by
  obtain ⟨m', g1, g2, g3⟩ := newRow_sim (ty := e) hr h hf hx.cells
  exact ⟨.pointer (some ⟨w.heap.size, 0, none⟩), _, m', by simp [Instr.box, newVar, run_newRow], g1, g2, .ptr _ _ _ _ _ _ g3⟩

/-! ### Fill -/

/-- Parts of a composite value, numbered. -/
def PRels (m : Inj) : List (Nat × AV) → List (Nat × Value) → Prop
  | [], [] => True
  | (i, a) :: r, (j, v) :: r' => i = j ∧ VR m a v ∧ PRels m r r'
  | _, _ => False

theorem foldl_set (xs : List Value) : ∀ (cs : Array Value) (off k : Nat),
    off + k + xs.length ≤ cs.size →
    ((xs.zipIdx k).foldl (fun cs (x : Value × Nat) => cs.setIfInBounds (off + x.2) x.1) cs).toList = cs.toList.take (off + k) ++ xs ++ cs.toList.drop (off + k + xs.length) := by
  induction xs with
  | nil => intro cs off k h; simp
  | cons x xs ih =>
    intro cs off k h
    simp only [List.length_cons] at h
    simp only [List.zipIdx_cons, List.foldl_cons]
    rw [ih _ off (k + 1) (by simp; omega)]
    apply List.ext_getElem?
    intro j
    have hl : off + (k + 1) + xs.length ≤ (cs.setIfInBounds (off + k) x).toList.length := by simp only [Array.length_toList, Array.size_setIfInBounds]; omega
    rw [splice_get _ _ _ hl, splice_get _ _ _ (by rw [List.length_cons, Array.length_toList]; omega)]
    simp only [List.length_cons, Array.toList_setIfInBounds]
    by_cases h1 : off + (k + 1) ≤ j ∧ j < off + (k + 1) + xs.length
    · rw [if_pos h1, if_pos (by omega), show j - (off + k) = (j - (off + (k + 1))) + 1 by omega]
      simp
    · rw [if_neg h1]
      by_cases h2 : j = off + k
      · subst h2
        rw [if_pos (by omega), Nat.sub_self, List.getElem?_cons_zero, List.getElem?_set_self (by rw [Array.length_toList]; omega)]
      · rw [if_neg (by omega), List.getElem?_set_ne (by omega)]

theorem zipIdx_toList (cs : Array Value) : cs.zipIdx.toList = cs.toList.zipIdx := by simp

theorem fill_sim {place placeA : Nat → Option (Nat × Nat)} (hp : ∀ i p, placeA i = some p → place i = some p) : ∀ {parts : List (Nat × AV)} {parts' : List (Nat × Value)} {l k : List AV} {cs : Array Value},
    PRels m parts parts' → VRs m l cs.toList → fillA placeA l parts = some k → ∃ cs', Instr.fill place cs parts' = some cs' ∧ VRs m k cs'.toList
  | [], [], l, k, cs, _, hl, h => by simp [fillA] at h; subst h; exact ⟨cs, rfl, hl⟩
  | (i, a) :: r, (j, v) :: r', l, k, cs, hpr, hl, h => by
    obtain ⟨rfl, hav, hrest⟩ := hpr
    simp only [fillA] at h
    cases hpl : placeA i with
    | none => simp [hpl] at h
    | some p =>
      obtain ⟨off, size⟩ := p
      simp only [hpl] at h
      cases hc : Nat.beq a.cells.length size && Nat.ble (off + a.cells.length) l.length with
      | false => simp [hc] at h
      | true =>
        simp only [hc, cond_true] at h
        simp only [Bool.and_eq_true, Nat.beq_eq, Nat.ble_eq] at hc
        have hlen := hl.length
        have hcl := hav.cells.length
        simp only [Array.length_toList] at hlen hcl
        have hfold := foldl_set v.cells.toList cs off 0 (by simp; omega)
        simp only [Nat.add_zero, Array.length_toList] at hfold
        have hrel : VRs m (setRange l off a.cells) ((v.cells.zipIdx.foldl (fun cs (x : Value × Nat) => cs.setIfInBounds (off + x.2) x.1) cs)).toList := by
          rw [← Array.foldl_toList, zipIdx_toList, hfold]
          unfold setRange
          rw [hcl]
          exact ((hl.take off).append hav.cells).append (hl.drop _)
        obtain ⟨cs', g1, g2⟩ := fill_sim hp hrest hrel h
        refine ⟨cs', ?_, g2⟩
        simp only [Instr.fill, hp _ _ hpl]
        rw [if_neg]
        · exact g1
        · simp; omega
  | [], _ :: _, _, _, _, h, _, _ => h.elim
  | (_, _) :: _, [], _, _, _, h, _, _ => h.elim

theorem build_sim {t : TypeId} {parts : List (Nat × AV)} {parts' : Array (Nat × Value)} (hp : PRels m parts parts'.toList) {a : AV} (h : buildA P t parts = some a) (w : World) :
    ∃ v, (Instr.build t parts').run P w = .ok v w ∧ VR m a v := by
  unfold buildA at h
  cases hz : zeroO P t with
  | none => simp [hz] at h
  | some z =>
    obtain ⟨zv, hzv, hzr⟩ := run_zero hz w
    simp only [hz] at h
    split at h
    · rename_i fields hu
      cases hall : allSized P fields.toList with
      | false => simp [hall] at h
      | true =>
        simp only [hall, cond_true] at h
        split at h
        · rename_i l hl
          simp at h; subst h
          -- the places
          have hplaces : ∃ places : Array (Nat × Nat), (fields.mapM (m := Sem) fun f => do pure (f.offset, ← sizeOf f.type)).run P w = .ok places w ∧ ∀ i p, fieldPlaceA P fields i = some p → places[i]? = some p := by
            have hgen : ∀ (fs : List Field), allSized P fs = true → ∃ ps : List (Nat × Nat), (fs.mapM (m := Sem) fun f => do pure (f.offset, ← sizeOf f.type)).run P w = .ok ps w ∧
                ∀ (i : Nat) (f : Field) (s : Nat), fs[i]? = some f → szOf P f.type = some s → ps[i]? = some (f.offset, s) := by
              intro fs
              induction fs with
              | nil => intro _; exact ⟨[], by simp, fun i f s h => by simp at h⟩
              | cons f fs ih =>
                intro hall
                simp only [allSized, List.all_cons, Bool.and_eq_true] at hall
                obtain ⟨ps, h1, h2⟩ := ih (by simpa [allSized] using hall.2)
                obtain ⟨inf, hinf⟩ := Option.isSome_iff_exists.1 hall.1
                refine ⟨(f.offset, inf.size) :: ps, ?_, ?_⟩
                · have hsz : (sizeOf f.type).run P w = .ok inf.size w := run_sizeOf' (by simp [szOf, hinf]) w
                  simp only [List.mapM_cons, Sem.run_bind, hsz, Result.andThen_ok, Sem.run_pure]
                  rw [h1]; rfl
                · intro i f' s hf hs
                  cases i with
                  | zero => simp at hf; subst hf; simp [szOf, hinf] at hs; simp [hs]
                  | succ i => simp at hf; simpa using h2 i f' s hf hs
            obtain ⟨ps, h1, h2⟩ := hgen fields.toList hall
            refine ⟨ps.toArray, ?_, ?_⟩
            · rw [← Array.toArray_toList (xs := fields), List.mapM_toArray, Sem.run_map, h1]
              rfl
            · intro i p hip
              unfold fieldPlaceA at hip
              split at hip
              · rename_i f hf
                split at hip
                · rename_i s hs
                  simp at hip; subst hip
                  simpa using h2 i f s (by simpa using hf) hs
                · cases hip
              · cases hip
          obtain ⟨places, hpl1, hpl2⟩ := hplaces
          obtain ⟨cs', g1, g2⟩ := fill_sim (place := (places[·]?)) hpl2 hp (hzr m).cells hl
          refine ⟨.agg cs', ?_, ?_⟩
          · simp only [Instr.build, Sem.run_bind, hzv, Result.andThen_ok, run_underlying hu, hpl1, g1]
            rfl
          · have := VR.agg (m := m) l cs'.toList g2
            simpa using this
        · cases h
    · rename_i n e hu
      split at h
      · rename_i size hs
        split at h
        · rename_i l hl
          simp at h; subst h
          obtain ⟨cs', g1, g2⟩ := fill_sim (place := fun i => some (i * size, size)) (fun i p h => h) hp (hzr m).cells hl
          refine ⟨.agg cs', ?_, ?_⟩
          · simp only [Instr.build, Sem.run_bind, hzv, Result.andThen_ok, run_underlying hu, run_sizeOf' hs, g1]
            rfl
          · have := VR.agg (m := m) l cs'.toList g2
            simpa using this
        · cases h
      · cases h
    · cases h

theorem gen_rel {z : List AV} {zc : Array Value} (hz : VRs m z zc.toList) (n : Nat) (h : n = 0 ∨ 0 < z.length) :
    VRs m (genCells n z) ((Array.range n).map (fun i => zc[i % zc.size]!)).toList := by
  have hl := hz.length
  simp only [Array.length_toList] at hl
  refine VRs.of_get (by simp [genCells]) ?_
  intro i a v ha hv
  have hi : i < n := by have := (List.getElem?_eq_some_iff.1 ha).1; simpa [genCells] using this
  rcases h with h | h
  · omega
  · have hlt : i % z.length < z.length := Nat.mod_lt _ h
    simp [genCells, hi, List.getD, List.getElem?_eq_getElem hlt] at ha
    simp [hi] at hv
    obtain ⟨u, hu, hvr⟩ := hz.get (i := i % z.length) (a := z[i % z.length]) (by rw [List.getElem?_eq_getElem])
    rw [hl] at hu
    have hu' : zc[i % zc.size]! = u := by
      have := (Array.getElem?_toList (xs := zc) (i := i % zc.size)).symm.trans hu
      simp [getElem!_def, this]
    rw [← ha, ← hv, hu']
    exact hvr

theorem zeros_sim {e : TypeId} {n size : Nat} {z : List AV} (hz : (bif Nat.beq (n * size) 0 then some [] else zeroCells P e size) = some z) :
    ∃ zc : Array Value, (if n * size = 0 then pure #[] else do pure (← zeroValue e).cells : Sem (Array Value)).run P w = .ok zc w ∧ VRs m z zc.toList ∧ (n * size = 0 ∨ 0 < z.length) := by
  by_cases h0 : n * size = 0
  · rw [h0] at hz
    simp at hz
    subst hz
    exact ⟨#[], by simp [h0], .nil, .inl h0⟩
  · rw [beq_ne h0] at hz
    simp only [cond_false, zeroCells] at hz
    split at hz
    · rename_i z0 hz0
      cases hl : Nat.beq z0.cells.length size with
      | false => simp [hl] at hz
      | true =>
        simp [hl] at hz
        subst hz
        obtain ⟨zv, hzv, hzr⟩ := run_zero hz0 w
        refine ⟨zv.cells, by rw [if_neg h0]; simp [hzv], (hzr m).cells, ?_⟩
        rw [Nat.eq_of_beq_eq_true hl]
        rcases Nat.eq_zero_or_pos size with h | h
        · exact absurd (by rw [h]; simp) h0
        · exact .inr h
    · cases hz

theorem buildSlice_sim {s : St} (hr : Rel m s.heap.get w) {t : TypeId} {len : Nat} {parts : List (Nat × AV)} {parts' : Array (Nat × Value)} (hp : PRels m parts parts'.toList)
    {a : AV} {s' : St} (h : (buildSliceA P t len parts).run s = .ok a s') (hf : Fresh s s') :
    ∃ v w' m', (Instr.buildSlice t len parts').run P w = .ok v w' ∧ Ext m w m' w' ∧ Rel m' s'.heap.get w' ∧ VR m' a v := by
  unfold buildSliceA at h
  split at h
  · rename_i e he
    split at h
    · rename_i size hs
      cases hb : Nat.ble (len * size) 16777216 with
      | false => simp only [hb, cond_false] at h; exact (fail_ok h).elim
      | true =>
        simp only [hb, cond_true] at h
        split at h
        · rename_i z hz
          split at h
          · rename_i l hl
            obtain ⟨b, s1, h1, h2⟩ := bind_ok h
            obtain ⟨rfl, rfl⟩ := pure_ok h2
            -- the zero cells
            obtain ⟨zc, hz1, hz2, hz3⟩ := zeros_sim (m := m) (w := w) hz
            obtain ⟨cs', g1, g2⟩ := fill_sim (place := fun i => some (i * size, size)) (fun i p h => h) hp (gen_rel hz2 (len * size) hz3) hl
            obtain ⟨m', k1, k2, k3⟩ := newRow_sim (ty := e) hr h1 hf g2
            refine ⟨.slice (some ⟨w.heap.size, 0, none⟩) len len, _, m', ?_, k1, k2, .slice _ _ _ _ _ _ _ _ _ k3 (Nat.le_refl _) (fun c' hc => by cases hc; rfl) (fun hc => by cases hc)⟩
            have hb' : ¬ (len * size > 2 ^ 24) := by have := Nat.le_of_ble_eq_true hb; omega
            by_cases h0 : len * size = 0
            · rw [if_pos h0] at hz1
              cases hz1
              simp only [Instr.buildSlice, Sem.run_bind, run_underlying (sliceElem_some he), Result.andThen_ok, run_sizeOf' hs, if_neg hb', if_pos h0, Sem.run_pure, pure_bind, g1, run_newRow]
            · rw [if_neg h0] at hz1
              cases hzv : (zeroValue e).run P w with
              | halt x w1 => rw [Sem.run_bind, hzv] at hz1; cases hz1
              | ok zv w1 =>
                rw [Sem.run_bind, hzv] at hz1
                cases hz1
                simp only [Instr.buildSlice, Sem.run_bind, run_underlying (sliceElem_some he), Result.andThen_ok, run_sizeOf' hs, if_neg hb', if_neg h0, hzv, Sem.run_pure, pure_bind, g1, run_newRow]
          · exact (fail_ok h).elim
        · exact (fail_ok h).elim
    · exact (fail_ok h).elim
  · exact (fail_ok h).elim

end
end Go.Ab
