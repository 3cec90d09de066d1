/-
  MAPS THAT TURN, LENGTHS, NEW SLICES, APPEND (own work).
-/
import Derived.Test.YtlonlfiaclacdaaAb8
namespace Go.Ab

section
variable {P : Program} {m : Inj} {w : World}

/-! ### Maps that turn -/

def World.putObj (w : World) (B : Nat) (o : Go.Obj) : World := { w with heap := w.heap.setIfInBounds B o }

theorem run_setObj' (w : World) (B : Nat) (ents : Array MapEntry) (clock : Nat) (h : w.heap[B]? = some (.map ents clock)) (o : Go.Obj) : (setObj B o).run P w = .ok () (World.putObj w B o) := by
  simp only [setObj, Sem.run, h]; rfl

theorem putObj_facts (w : World) (B : Nat) (o o' : Go.Obj) (h : w.heap[B]? = some o) (h1 : ∀ c t fr, o ≠ .cells c t fr) (h2 : ∀ c t fr, o' ≠ .cells c t fr) :
    (World.putObj w B o').heap[B]? = some o' ∧ (∀ k, k ≠ B → (World.putObj w B o').heap[k]? = w.heap[k]?) ∧ (World.putObj w B o').heap.size = w.heap.size ∧
    ∀ a, (World.putObj w B o').frozen? a = w.frozen? a := by
  have hB : B < w.heap.size := (Array.getElem?_eq_some_iff.1 h).1
  have e1 : (World.putObj w B o').heap[B]? = some o' := by simp [World.putObj, hB]
  have e2 : ∀ k, k ≠ B → (World.putObj w B o').heap[k]? = w.heap[k]? := fun k hk => by
    simp only [World.putObj]; rw [Array.getElem?_setIfInBounds_ne (Ne.symm hk)]
  refine ⟨e1, e2, by simp [World.putObj], fun a => ?_⟩
  by_cases e : a.block = B
  · simp only [World.frozen?, e, e1, h]
    cases o' with
    | cells c t fr => exact absurd rfl (h2 c t fr)
    | _ =>
      cases o with
      | cells c t fr => exact absurd rfl (h1 c t fr)
      | _ => rfl
  · simp only [World.frozen?, e2 _ e]

/-- A map's block turned. -/
theorem turn_map {h : Nat → Option Obj} (hr : Rel m h w) {b B t e : Nat} {es es' : List (AV × AV)} {g g' : MG} (hb : h b = some (.map es g)) (hm : m b 0 = some (B, t, e))
    {ents ents' : Array MapEntry} {clock clock' : Nat} (hw : w.heap[B]? = some (.map ents clock)) (he : ERel m es' ents'.toList) (hg : GRel g' ents'.toList clock') :
    Ext m w m (World.putObj w B (.map ents' clock')) ∧ Rel m (fun x => if x = b then some (.map es' g') else h x) (World.putObj w B (.map ents' clock')) := by
  obtain ⟨g1, g2, g3, g4⟩ := putObj_facts w B _ (.map ents' clock') hw (fun c t fr h => by cases h) (fun c t fr h => by cases h)
  obtain ⟨hnv, _⟩ := hr.obj b _ hb
  refine hr.turn (Inj.le_refl m) (fun _ _ _ => rfl) ⟨0, t, e, hm⟩ (fun u B' t' e' hh => ⟨u, t', e', hh⟩) g2 g3 rfl rfl g4 ?_ ⟨_, hb⟩
  refine ⟨hnv, fun B' t' e' hh => ?_⟩
  rw [hm] at hh; cases hh
  exact ⟨ents', clock', g1, he, hg⟩

theorem ERel.append {es : List (AV × AV)} {l : List MapEntry} (h : ERel m es l) {k x : AV} {e : MapEntry} (hk : VR m k e.key) (hx : VR m x e.val) : ERel m (es ++ [(k, x)]) (l ++ [e]) := by
  induction es generalizing l with
  | nil => cases l with
    | nil => exact ⟨hk, hx, trivial⟩
    | cons => exact h.elim
  | cons p es ih =>
    cases l with
    | nil => exact h.elim
    | cons e' l => obtain ⟨h1, h2, h3⟩ := h; exact ⟨h1, h2, ih h3⟩

theorem sameBits_of_now {d : TypeDesc} {u v : Value} (h : Instr.sameNow d u v = some true) (hd : (∃ k, d = .int k) ∨ d = .string) (n : Nat) : Instr.sameBits (n + 1) v u = true := by
  rcases hd with ⟨k, rfl⟩ | rfl
  · cases u <;> cases v <;> simp [Instr.sameNow] at h
    obtain ⟨h1, h2⟩ := h
    simp [Instr.sameBits, h1, h2]
  · cases u <;> cases v <;> simp [Instr.sameNow] at h
    rename_i a b
    rw [beq_toListBytes] at h
    have e : a.toList = b.toList := by simpa using h
    simp only [Instr.sameBits]
    rw [beq_toListBytes, e]
    simp

theorem ERel.length {es : List (AV × AV)} {l : List MapEntry} (h : ERel m es l) : es.length = l.length := by
  induction es generalizing l with
  | nil => cases l with
    | nil => rfl
    | cons => exact h.elim
  | cons p es ih =>
    cases l with
    | nil => exact h.elim
    | cons e' l => obtain ⟨_, _, h3⟩ := h; simp [ih h3]

theorem born_modify (l : List MapEntry) (j : Nat) (u v : Value) : (l.modify j fun e => { e with key := u, val := v }).map (·.born) = l.map (·.born) := by
  induction l generalizing j with
  | nil => cases j <;> rfl
  | cons e l ih =>
    cases j with
    | zero => rfl
    | succ j => simp only [List.modify_succ_cons, List.map_cons, ih]

theorem put_list {d : TypeDesc} {k x : AV} {u v : Value} (hk : VR m k u) (hx : VR m x v) : ∀ {es es' : List (AV × AV)} {l : List MapEntry} (i : Nat), ERel m es l → putA (some d) k x es = some es' →
    (∃ j e, Instr.findNow d u l i = some (some (i + j, e.val)) ∧ l[j]? = some e ∧ Instr.sameNow d u e.key = some true ∧ ERel m es' (l.modify j fun e => { e with key := u, val := v })) ∨
    (Instr.findNow d u l i = some none ∧ ∀ born, ERel m es' (l ++ [{ key := u, val := v, born := born }]))
  | [], es', [], i, _, h => by
    simp only [putA, Option.some.injEq] at h; subst h
    exact .inr ⟨rfl, fun _ => ⟨hk, hx, trivial⟩⟩
  | (k', x') :: es, es', e :: l, i, ⟨h1, h2, h3⟩, h => by
    simp only [putA] at h
    split at h
    · rename_i he
      simp only [Option.some.injEq] at h; subst h
      have hs := keyEq_sim he hk h1
      exact .inl ⟨0, e, by simp [Instr.findNow, hs], rfl, hs, hk, hx, h3⟩
    · rename_i he
      have hs := keyEq_sim he hk h1
      split at h
      · rename_i r' hr'
        simp only [Option.some.injEq] at h; subst h
        rcases put_list hk hx (i + 1) h3 hr' with ⟨j, e', g1, g2, g3, g4⟩ | ⟨g1, g2⟩
        · refine .inl ⟨j + 1, e', ?_, by simpa using g2, g3, ?_⟩
          · simp only [Instr.findNow, hs, g1, show i + 1 + j = i + (j + 1) by omega]
          · simp only [List.modify_succ_cons]; exact ⟨h1, h2, g4⟩
        · exact .inr ⟨by simp only [Instr.findNow, hs, g1], fun born => ⟨h1, h2, g2 born⟩⟩
      · cases h
    · cases h
  | [], _, _ :: _, _, h, _ => h.elim
  | (_, _) :: _, _, [], _, h, _ => h.elim

theorem del_list {d : TypeDesc} {k : AV} {u : Value} (hk : VR m k u) : ∀ {es es' : List (AV × AV)} {l : List MapEntry} (i : Nat), ERel m es l → delA (some d) k es = some es' →
    (∃ j v, Instr.findNow d u l i = some (some (i + j, v)) ∧ j < l.length ∧ ERel m es' (l.eraseIdx j) ∧ delI (some d) k es (l.map (·.born)) = (l.eraseIdx j).map (·.born)) ∨
    (Instr.findNow d u l i = some none ∧ ERel m es' l ∧ delI (some d) k es (l.map (·.born)) = l.map (·.born))
  | [], es', [], i, _, h => by
    simp only [delA, Option.some.injEq] at h; subst h
    exact .inr ⟨rfl, trivial, rfl⟩
  | (k', x') :: es, es', e :: l, i, ⟨h1, h2, h3⟩, h => by
    simp only [delA] at h
    split at h
    · rename_i he
      simp only [Option.some.injEq] at h; subst h
      have hs := keyEq_sim he hk h1
      exact .inl ⟨0, e.val, by simp [Instr.findNow, hs], by simp, h3, by simp [delI, he]⟩
    · rename_i he
      have hs := keyEq_sim he hk h1
      split at h
      · rename_i r' hr'
        simp only [Option.some.injEq] at h; subst h
        rcases del_list hk (i + 1) h3 hr' with ⟨j, v, g1, g2, g3, g4⟩ | ⟨g1, g2, g3⟩
        · refine .inl ⟨j + 1, v, ?_, by simp; omega, ⟨h1, h2, g3⟩, by simp [delI, he, g4]⟩
          simp only [Instr.findNow, hs, g1, show i + 1 + j = i + (j + 1) by omega]
        · exact .inr ⟨by simp only [Instr.findNow, hs, g1], ⟨h1, h2, g2⟩, by simp [delI, he, g3]⟩
      · cases h
    · cases h
  | [], _, _ :: _, _, h, _ => h.elim
  | (_, _) :: _, _, [], _, h, _ => h.elim

theorem keyOf_desc {d : TypeDesc} {x : AV} (h : keyOf (some d) x = true) : (∃ k, d = .int k) ∨ d = .string := by
  unfold keyOf keyEq at h
  split at h
  · rename_i k0 hd; cases hd; exact .inl ⟨_, rfl⟩
  · rename_i hd; cases hd; exact .inr rfl
  · cases h

theorem keyOf_und {t : TypeId} {k : AV} (h : keyOf (P.underlying t) k = true) : ∃ d, P.underlying t = some d := by
  cases hd : P.underlying t with
  | none => rw [hd] at h; simp [keyOf, keyEq] at h
  | some d => exact ⟨d, rfl⟩

theorem mapUpdate_sim {s : St} (hr : Rel m s.heap.get w) {t kt e : TypeId} (ht : mapElem P t = some (kt, e)) {r : Nat} {k x : AV} (hko : keyOf (P.underlying kt) k = true)
    {s' : St} (h : (upd r (updMapO (putG (P.underlying kt) k x))).run s = .ok () s') {u v z : Value} (hm : VR m (.map r) z) (hk : VR m k u) (hx : VR m x v) :
    ∃ w', (Instr.mapUpdate t z u v).run P w = .ok () w' ∧ Ext m w m w' ∧ Rel m s'.heap.get w' := by
  have hu := mapElem_some ht
  obtain ⟨d, hd⟩ := keyOf_und hko
  rw [hd] at hko h
  obtain ⟨o, o', h1, h2, h3, h4⟩ := upd_ok h
  cases o with
  | row r' => simp [updMapO] at h2
  | loop L => simp [updMapO] at h2
  | iter i => simp [updMapO] at h2
  | map es g =>
    simp only [updMapO, putG] at h2
    split at h2
    · rename_i p hes
      simp only [Option.some.injEq, Prod.mk.injEq, true_and] at h2; subst h2
      obtain ⟨es', hes0, rfl⟩ : ∃ es', putA (some d) k x es = some es' ∧ (es', bif Nat.beq es'.length es.length then g else ⟨g.bs ++ [g.clk], g.clk + 1⟩) = p := by
        cases hpa : putA (some d) k x es with
        | none => rw [hpa] at hes; cases hes
        | some es' => rw [hpa] at hes; exact ⟨es', rfl, by simpa using hes⟩
      have hes := hes0
      cases hm with
      | map _ B t' e' hmm =>
        obtain ⟨_, ho⟩ := hr.obj _ _ h1
        obtain ⟨ents, clock, hw', he, hg⟩ := ho B t' e' hmm
        have hgo := run_getObj' (P := P) w B ents clock hw'
        have hck := checkKey_sim hd hko hk false w
        rcases put_list hk hx 0 he hes with ⟨j, e1, g1, g2, g3, g4⟩ | ⟨g1, g2⟩
        · have hlist : (ents.modify j fun e => { e with key := u, val := v }).toList = ents.toList.modify j fun e => { e with key := u, val := v } := by simp
          have hlen : Nat.beq es'.length es.length = true := by rw [g4.length, he.length, List.length_modify]; exact Nat.beq_refl _
          rw [hlen] at h3
          obtain ⟨k1, k2⟩ := turn_map (clock' := clock) (g' := g) hr h1 hmm hw' (ents' := ents.modify j fun e => { e with key := u, val := v }) (by rw [hlist]; exact g4)
            (by rw [hlist]; exact ⟨(born_modify _ _ _ _).trans hg.1, hg.2⟩)
          refine ⟨_, ?_, k1, k2.congr fun y => by rw [h3, Tr.get_set]; first | done | rfl⟩
          have hkey : ((ents[j]?).map (·.key)).getD u = e1.key := by
            have : ents[j]? = some e1 := by simpa using g2
            rw [this]; rfl
          have hsb : Instr.sameBits 10000 e1.key u = true := sameBits_of_now g3 (keyOf_desc hko) 9999
          rw [Nat.zero_add] at g1
          simp only [Instr.mapUpdate, Sem.run_bind, run_underlying hu, Result.andThen_ok, hgo, hck, Instr.findKey, run_underlying hd, g1, Sem.run_pure, hkey, Instr.keyThatStays, hsb, if_true, run_setObj' w B ents clock hw']
        · have hlist : (ents.push { key := u, val := v, born := clock }).toList = ents.toList ++ [{ key := u, val := v, born := clock }] := by simp
          have hlen : Nat.beq es'.length es.length = false := by
            have h5 := (g2 0).length
            have h6 := he.length
            rw [List.length_append, List.length_singleton] at h5
            cases hb : Nat.beq es'.length es.length with
            | false => rfl
            | true => have := Nat.eq_of_beq_eq_true hb; omega
          rw [hlen] at h3
          obtain ⟨k1, k2⟩ := turn_map (clock' := clock + 1) (g' := ⟨g.bs ++ [g.clk], g.clk + 1⟩) hr h1 hmm hw' (ents' := ents.push { key := u, val := v, born := clock }) (by rw [hlist]; exact g2 _)
            (by rw [hlist, ← hg.2]; exact ⟨by simp [hg.1], rfl⟩)
          refine ⟨_, ?_, k1, k2.congr fun y => by rw [h3, Tr.get_set]; first | done | rfl⟩
          simp only [Instr.mapUpdate, Sem.run_bind, run_underlying hu, Result.andThen_ok, hgo, hck, Instr.findKey, run_underlying hd, g1, Sem.run_pure, run_setObj' w B ents clock hw']
    · cases h2

theorem delete_sim {s : St} (hr : Rel m s.heap.get w) {t kt e : TypeId} (ht : mapElem P t = some (kt, e)) {r : Nat} {k : AV} (hko : keyOf (P.underlying kt) k = true)
    {s' : St} (h : (upd r (updMapO (delG (P.underlying kt) k))).run s = .ok () s') {u z : Value} (hm : VR m (.map r) z) (hk : VR m k u) {ats : Array TypeId} (hat : ats[0]? = some t) (ty : TypeId) :
    ∃ w', (Builtin.delete_ ats ty #[z, u]).run P w = .ok (.tuple #[]) w' ∧ Ext m w m w' ∧ Rel m s'.heap.get w' := by
  have hu := mapElem_some ht
  obtain ⟨d, hd⟩ := keyOf_und hko
  rw [hd] at hko h
  obtain ⟨o, o', h1, h2, h3, h4⟩ := upd_ok h
  cases o with
  | row r' => simp [updMapO] at h2
  | loop L => simp [updMapO] at h2
  | iter i => simp [updMapO] at h2
  | map es g =>
    simp only [updMapO, delG] at h2
    split at h2
    · rename_i p hes
      simp only [Option.some.injEq, Prod.mk.injEq, true_and] at h2; subst h2
      obtain ⟨es', hes0, rfl⟩ : ∃ es', delA (some d) k es = some es' ∧ (es', MG.mk (delI (some d) k es g.bs) g.clk) = p := by
        cases hpa : delA (some d) k es with
        | none => rw [hpa] at hes; cases hes
        | some es' => rw [hpa] at hes; exact ⟨es', rfl, by simpa using hes⟩
      have hes := hes0
      cases hm with
      | map _ B t' e' hmm =>
        obtain ⟨_, ho⟩ := hr.obj _ _ h1
        obtain ⟨ents, clock, hw', he, hg⟩ := ho B t' e' hmm
        have hgo := run_getObj' (P := P) w B ents clock hw'
        have hck := checkKey_sim hd hko hk ents.isEmpty w
        have a0 : (#[Value.map (some B), u] : Array Value)[0]? = some (.map (some B)) := rfl
        have a1 : (#[Value.map (some B), u] : Array Value)[1]? = some u := rfl
        rcases del_list hk 0 he hes with ⟨j, v, g1, g2, g3, g4⟩ | ⟨g1, g2, g4⟩
        · have hlist : (ents.eraseIdxIfInBounds j).toList = ents.toList.eraseIdx j := by
            have hj : j < ents.size := by simpa using g2
            simp [Array.eraseIdxIfInBounds, hj, Array.toList_eraseIdx]
          obtain ⟨k1, k2⟩ := turn_map (clock' := clock) (g' := ⟨delI (some d) k es g.bs, g.clk⟩) hr h1 hmm hw' (ents' := ents.eraseIdxIfInBounds j) (by rw [hlist]; exact g3)
            (by rw [hlist]; exact ⟨by rw [← hg.1]; exact g4.symm, hg.2⟩)
          refine ⟨_, ?_, k1, k2.congr fun y => by rw [h3, Tr.get_set]; first | done | rfl⟩
          rw [Nat.zero_add] at g1
          simp only [Builtin.delete_, hat, a0, a1, Sem.run_bind, run_underlying hu, Result.andThen_ok, hgo, hck, Instr.findKey, run_underlying hd, g1, Sem.run_pure, run_setObj' w B ents clock hw']
        · obtain ⟨k1, k2⟩ := turn_map (clock' := clock) (g' := ⟨delI (some d) k es g.bs, g.clk⟩) hr h1 hmm hw' (ents' := ents) g2 ⟨by rw [← hg.1]; exact g4.symm, hg.2⟩
          refine ⟨_, ?_, k1, k2.congr fun y => by rw [h3, Tr.get_set]; first | done | rfl⟩
          simp only [Builtin.delete_, hat, a0, a1, Sem.run_bind, run_underlying hu, Result.andThen_ok, hgo, hck, Instr.findKey, run_underlying hd, g1, Sem.run_pure, run_setObj' w B ents clock hw']
    · cases h2

theorem newMap_sim {s : St} (hr : Rel m s.heap.get w) {es : List (AV × AV)} {g : MG} {ents : Array MapEntry} (clock : Nat) (he : ERel m es ents.toList) (hg : GRel g ents.toList clock) {b : Nat} {s' : St} (h : (newObj (.map es g)).run s = .ok b s') (hf : Fresh s s') :
    ∃ m', Ext m w m' (w.alloc (.map ents clock)) ∧ Rel m' s'.heap.get (w.alloc (.map ents clock)) ∧ VR m' (.map b) (.map (some w.heap.size)) := by
  obtain ⟨rfl, h2, h3⟩ := new_ok h
  have hb : s.heap.get s.next = none := hf _ (Nat.le_refl _) (by omega)
  obtain ⟨m', h5, h6, h7⟩ := hr.new hb (.map es g) (.map ents clock) 0 0 (by
    intro m' hle' hnew hcell
    refine ⟨fun u => by rw [hnew]; split <;> simp_all, fun B t e hm => ?_⟩
    rw [hnew] at hm
    simp only [if_true, Option.some.injEq, Prod.mk.injEq] at hm
    obtain ⟨rfl, rfl, rfl⟩ := hm
    exact ⟨ents, clock, hcell, he.mono hle', hg⟩) (frozen_alloc w _ (fun c t fr e => by cases e))
  exact ⟨m', h5, h6.congr fun x => by rw [h2, Tr.get_set], .map _ _ _ _ h7⟩

theorem len_sim {s : St} (hr : Rel m s.heap.get w) {t : TypeId} {x y : AV} {s' : St} (h : (lenA P t x).run s = .ok y s') {u : Value} (hx : VR m x u) {ats : Array TypeId} (hat : ats[0]? = some t) (ty : TypeId) :
    ∃ v, (Builtin.len_ ats ty #[u]).run P w = .ok v w ∧ VR m y v ∧ s'.heap = s.heap ∧ s'.next = s.next := by
  have a0 : (#[u] : Array Value)[0]? = some u := rfl
  unfold lenA at h
  split at h
  · rename_i hu
    split at h
    · obtain ⟨rfl, rfl⟩ := pure_ok h
      cases hx with
      | str s _ _ e1 e2 =>
        refine ⟨.int .i64 s.size, by simp [Builtin.len_, hat, run_underlying hu, goInt], ?_, rfl, rfl⟩
        rw [e1]; exact .int _ _
    · exact (fail_ok h).elim
  · rename_i e hu
    split at h
    · rename_i b v o n cap
      obtain ⟨rfl, rfl⟩ := pure_ok h
      cases hx with
      | slice _ _ _ _ _ B t' e' c hm g1 g2 g3 => exact ⟨.int .i64 n, by simp [Builtin.len_, hat, run_underlying hu, goInt], .int _ _, rfl, rfl⟩
    · obtain ⟨rfl, rfl⟩ := pure_ok h
      cases hx
      exact ⟨.int .i64 0, by simp [Builtin.len_, hat, run_underlying hu, goInt], .int _ _, rfl, rfl⟩
    · exact (fail_ok h).elim
  · rename_i k e hu
    split at h
    · obtain ⟨rfl, rfl⟩ := pure_ok h
      cases hx
      exact ⟨.int .i64 0, by simp [Builtin.len_, hat, run_underlying hu, goInt], .int _ _, rfl, rfl⟩
    · rename_i r
      obtain ⟨es, s1, h1, h2⟩ := bind_ok h
      obtain ⟨rfl, rfl⟩ := pure_ok h2
      obtain ⟨o, g1, g2, g3, g4⟩ := look_ok h1
      cases hx with
      | map _ B t' e' hmm =>
        cases o with
        | row r' => simp [getMapO] at g2
        | loop L => simp [getMapO] at g2
        | iter i => simp [getMapO] at g2
        | map es0 g0 =>
          simp only [getMapO, Option.some.injEq] at g2; subst g2
          obtain ⟨_, ho⟩ := hr.obj _ _ g1
          obtain ⟨ents, clock, hw', he, hg⟩ := ho B t' e' hmm
          refine ⟨.int .i64 ents.size, by simp [Builtin.len_, hat, run_underlying hu, goInt, run_getObj' w B ents clock hw'], ?_, g3, g4⟩
          rw [he.length]
          exact .int _ _
    · exact (fail_ok h).elim
  · exact (fail_ok h).elim

/-! ### Loops over maps -/

theorem newIter_sim {s : St} (hr : Rel m s.heap.get w) {i : AIter} {mr : Option Nat} (hi : match i.r with
      | none => mr = none
      | some r => ∃ M t' e', m r 0 = some (M, t', e') ∧ mr = some M) {b : Nat} {s' : St} (h : (newObj (.iter i)).run s = .ok b s') (hf : Fresh s s') :
    ∃ m', Ext m w m' (w.alloc (.mapIter mr i.since i.seen.toArray i.last)) ∧ Rel m' s'.heap.get (w.alloc (.mapIter mr i.since i.seen.toArray i.last)) ∧ VR m' (.ptr b 0 0) (.pointer (some ⟨w.heap.size, 0, none⟩)) := by
  obtain ⟨rfl, h2, h3⟩ := new_ok h
  have hb : s.heap.get s.next = none := hf _ (Nat.le_refl _) (by omega)
  obtain ⟨m', h5, h6, h7⟩ := hr.new hb (.iter i) (.mapIter mr i.since i.seen.toArray i.last) 0 0 (by
    intro m' hle' hnew hcell
    refine ⟨fun u => by rw [hnew]; split <;> simp_all, fun B t e hm => ?_⟩
    rw [hnew] at hm
    simp only [if_true, Option.some.injEq, Prod.mk.injEq] at hm
    obtain ⟨rfl, rfl, rfl⟩ := hm
    refine ⟨mr, hcell, ?_⟩
    cases hr : i.r with
    | none => rw [hr] at hi; exact hi
    | some r =>
      rw [hr] at hi
      obtain ⟨M, t', e', k1, k2⟩ := hi
      exact ⟨M, t', e', hle' _ _ _ k1, k2⟩) (frozen_alloc w _ (fun c t fr e => by cases e))
  exact ⟨m', h5, h6.congr fun x => by rw [h2, Tr.get_set], .ptr _ _ _ _ _ _ h7⟩

theorem range_sim {s : St} (hr : Rel m s.heap.get w) {t : TypeId} {x y : AV} {s' : St} (h : (rangeA P t x).run s = .ok y s') (hf : Fresh s s') {u : Value} (hx : VR m x u) :
    ∃ r w' m', (Instr.range t u).run P w = .ok r w' ∧ Ext m w m' w' ∧ Rel m' s'.heap.get w' ∧ VR m' y r := by
  unfold rangeA at h
  split at h
  · rename_i kt e hu
    split at h
    · rename_i r
      obtain ⟨p, s1, h1, h2⟩ := bind_ok h
      obtain ⟨b, s2, h3, h4⟩ := bind_ok h2
      obtain ⟨rfl, rfl⟩ := pure_ok h4
      obtain ⟨o, g1, g2, g3, g4⟩ := look_ok h1
      cases hx with
      | map _ B t' e' hmm =>
        cases o with
        | row r' => simp [getMapGO] at g2
        | loop L => simp [getMapGO] at g2
        | iter i => simp [getMapGO] at g2
        | map es0 g0 =>
          simp only [getMapGO, Option.some.injEq] at g2; subst g2
          obtain ⟨_, ho⟩ := hr.obj _ _ g1
          obtain ⟨ents, clock, hw', he, hg⟩ := ho B t' e' hmm
          have hr1 : Rel m s1.heap.get w := by rw [g3]; exact hr
          obtain ⟨m', k1, k2, k3⟩ := newIter_sim (mr := some B) (i := ⟨some r, g0.clk, [], g0.clk⟩) hr1 ⟨B, t', e', hmm, rfl⟩ h3 (hf.right h1)
          refine ⟨_, _, m', ?_, k1, k2, k3⟩
          simp only [Instr.range, Sem.run_bind, run_underlying hu, Result.andThen_ok, run_getObj' w B ents clock hw', Sem.run_pure, hg.2]
          rfl
    · obtain ⟨b, s2, h3, h4⟩ := bind_ok h
      obtain ⟨rfl, rfl⟩ := pure_ok h4
      cases hx
      obtain ⟨m', k1, k2, k3⟩ := newIter_sim (mr := none) (i := ⟨none, 0, [], 0⟩) hr rfl h3 hf
      refine ⟨_, _, m', ?_, k1, k2, k3⟩
      simp only [Instr.range, Sem.run_bind, run_underlying hu, Result.andThen_ok, Sem.run_pure]
      rfl
    · exact (fail_ok h).elim
  · exact (fail_ok h).elim

/-- An iterator's block turned. -/
theorem turn_iter {h : Nat → Option Obj} (hr : Rel m h w) {b B t e : Nat} {i i' : AIter} (hb : h b = some (.iter i)) (hm : m b 0 = some (B, t, e)) {o : Go.Obj} (hw : w.heap[B]? = some o) (ho : ∀ c t fr, o ≠ .cells c t fr)
    {mr : Option Nat} (hi : match i'.r with
      | none => mr = none
      | some r => ∃ M t' e', m r 0 = some (M, t', e') ∧ mr = some M) :
    Ext m w m (World.putObj w B (.mapIter mr i'.since i'.seen.toArray i'.last)) ∧ Rel m (fun x => if x = b then some (.iter i') else h x) (World.putObj w B (.mapIter mr i'.since i'.seen.toArray i'.last)) := by
  obtain ⟨g1, g2, g3, g4⟩ := putObj_facts w B o (.mapIter mr i'.since i'.seen.toArray i'.last) hw ho (fun c t fr h => by cases h)
  obtain ⟨hnv, _⟩ := hr.obj b _ hb
  refine hr.turn (Inj.le_refl m) (fun _ _ _ => rfl) ⟨0, t, e, hm⟩ (fun u B' t' e' hh => ⟨u, t', e', hh⟩) g2 g3 rfl rfl g4 ?_ ⟨_, hb⟩
  refine ⟨hnv, fun B' t' e' hh => ?_⟩
  rw [hm] at hh; cases hh
  exact ⟨mr, g1, hi⟩

theorem left_sim (seen : List Nat) : ∀ {es : List (AV × AV)} {l : List MapEntry}, ERel m es l →
    ∃ l' : List MapEntry, l.filter (fun e => !seen.toArray.contains e.born) = l' ∧ (leftE es (l.map (·.born)) seen).length = l'.length ∧
      ∀ (j : Nat) k x b, (leftE es (l.map (·.born)) seen)[j]? = some (k, x, b) → ∃ e, l'[j]? = some e ∧ VR m k e.key ∧ VR m x e.val ∧ b = e.born
  | [], [], _ => ⟨[], rfl, rfl, fun j k x b h => by simp [leftE] at h⟩
  | (k, x) :: es, e :: l, ⟨h1, h2, h3⟩ => by
    obtain ⟨l', g1, g2, g3⟩ := left_sim seen h3
    cases hc : seen.contains e.born with
    | true =>
      refine ⟨l', ?_, ?_, ?_⟩
      · rw [List.filter_cons_of_neg (by simp at hc; simp [hc])]; exact g1
      · simp only [leftE, List.map_cons, hc, cond_true]; exact g2
      · simp only [leftE, List.map_cons, hc, cond_true]; exact g3
    | false =>
      refine ⟨e :: l', ?_, ?_, ?_⟩
      · rw [List.filter_cons_of_pos (by simp at hc; simp [hc]), g1]
      · simp only [leftE, List.map_cons, hc, cond_false, List.length_cons, g2]
      · simp only [leftE, List.map_cons, hc, cond_false]
        intro j k' x' b' hj
        cases j with
        | zero =>
          simp only [List.getElem?_cons_zero, Option.some.injEq, Prod.mk.injEq] at hj
          obtain ⟨rfl, rfl, rfl⟩ := hj
          exact ⟨e, rfl, h1, h2, rfl⟩
        | succ j => simpa using g3 j k' x' b' (by simpa using hj)
  | [], _ :: _, h => h.elim
  | (_, _) :: _, [], h => h.elim

theorem run_next_own (w : World) (ty : TypeId) (r bm since c0 : Nat) (seen : Array Nat) (es : Array MapEntry) (clock : Nat) (hr : w.heap[r]? = some (.mapIter (some bm) since seen c0)) (hb : w.heap[bm]? = some (.map es clock))
    (hg : (!seen.isEmpty && !es.isEmpty && es.all fun e => decide (e.born ≥ c0)) = false) {L : Array MapEntry} (hL : es.filter (fun e => !seen.contains e.born) = L) :
    (L = #[] → (Instr.next (.pointer (some ⟨r, 0, none⟩)) false ty).run P w = .ok (.tuple #[.bool false]) w) ∧
    ∀ e, L = #[e] → e.born < since → (Instr.next (.pointer (some ⟨r, 0, none⟩)) false ty).run P w = .ok (.tuple #[.bool true, e.key, e.val]) (World.putObj w r (.mapIter (some bm) since (seen.push e.born) clock)) := by
  have hset : ∀ o', (setObj r o').run P w = .ok () (World.putObj w r o') := fun o' => by simp only [setObj, Sem.run, hr]; rfl
  constructor
  · rintro rfl
    simp only [Instr.next, getObj, Sem.run_bind, Sem.run, hr, hb, Result.andThen, hg, Bool.false_eq_true, if_false, hL]
    simp [choose, Sem.run, Question.forced]
  · rintro e rfl he
    simp only [Instr.next, getObj, Sem.run_bind, Sem.run, hr, hb, Result.andThen, hg, Bool.false_eq_true, if_false, hL]
    have e1 : (#[e] : Array MapEntry).filter (fun x => decide (x.born < since)) = #[e] := by simp [he]
    have e2 : (#[e] : Array MapEntry).filter (fun x => decide (x.born ≥ since)) = #[] := by simp; omega
    simp only [e1, e2]
    simp [choose, Sem.run, Question.forced, hset]

theorem next_sim {s : St} (hr : Rel m s.heap.get w) {x y : AV} {isString : Bool} {s' : St} (h : (nextA x isString).run s = .ok y s') {u : Value} (hx : VR m x u) (ty : TypeId) :
    ∃ r w', (Instr.next u isString ty).run P w = .ok r w' ∧ Ext m w m w' ∧ Rel m s'.heap.get w' ∧ VR m y r := by
  unfold nextA at h
  split at h
  · rename_i b
    cases isString with
    | true => simp only [cond_true] at h; exact (fail_ok h).elim
    | false =>
      simp only [cond_false] at h
      obtain ⟨i, s1, h1, h2⟩ := bind_ok h
      obtain ⟨o, g1, g2, g3, g4⟩ := look_ok h1
      cases hx with
      | ptr _ _ _ B t e hm =>
        cases o with
        | row r' => simp [getIterO] at g2
        | loop L => simp [getIterO] at g2
        | map es g => simp [getIterO] at g2
        | iter i0 =>
          simp only [getIterO, Option.some.injEq] at g2; subst g2
          obtain ⟨_, hi⟩ := hr.obj _ _ g1
          obtain ⟨mr, hw, hmr⟩ := hi B t e hm
          have hr1 : Rel m s1.heap.get w := by rw [g3]; exact hr
          cases hir : i0.r with
          | none =>
            rw [hir] at hmr h2
            simp only at hmr h2
            subst hmr
            obtain ⟨rfl, rfl⟩ := pure_ok h2
            refine ⟨.tuple #[.bool false], w, ?_, Ext.refl m w, hr1, .tuple _ [.bool false] (.one (.bool _))⟩
            simp only [Instr.next, getObj, Sem.run_bind, Sem.run, hw, Result.andThen]
            rfl
          | some r =>
            rw [hir] at hmr h2
            simp only at hmr h2
            obtain ⟨M, t', e', hmm, rfl⟩ := hmr
            obtain ⟨p, s2, h3, h4⟩ := bind_ok h2
            obtain ⟨o, k1, k2, k3, k4⟩ := look_ok h3
            have hr2 : Rel m s2.heap.get w := by rw [k3]; exact hr1
            cases o with
            | row r' => simp [getMapGO] at k2
            | loop L => simp [getMapGO] at k2
            | iter i => simp [getMapGO] at k2
            | map es g =>
              simp only [getMapGO, Option.some.injEq] at k2; subst k2
              obtain ⟨_, ho⟩ := hr1.obj _ _ k1
              obtain ⟨ents, clock, hwm, he, hg⟩ := ho M t' e' hmm
              obtain ⟨l', f1, f2, f3⟩ := left_sim i0.seen he
              have hL : ents.filter (fun e => !i0.seen.toArray.contains e.born) = l'.toArray := by
                rw [← f1]; apply Array.toList_inj.1; simp
              have hguard : (!i0.seen.toArray.isEmpty && !ents.isEmpty && ents.all fun e => decide (e.born ≥ i0.last)) = (!i0.seen.isEmpty && !es.isEmpty && g.bs.all (fun b => Nat.ble i0.last b)) := by
                have a1 : i0.seen.toArray.isEmpty = i0.seen.isEmpty := by simp
                have a2 : ents.isEmpty = es.isEmpty := by
                  have hl : es.length = ents.size := by rw [he.length, Array.length_toList]
                  rw [Bool.eq_iff_iff, Array.isEmpty_iff_size_eq_zero, List.isEmpty_iff_length_eq_zero, hl]
                have a3 : (ents.all fun e => decide (e.born ≥ i0.last)) = g.bs.all (fun b => Nat.ble i0.last b) := by
                  rw [← hg.1, List.all_map, ← Array.all_toList]
                  congr 1; funext e
                  show decide (e.born ≥ i0.last) = Nat.ble i0.last e.born
                  rw [Bool.eq_iff_iff, decide_eq_true_iff, Nat.ble_eq]
                rw [a1, a2, a3]
              simp only [nextE] at h4
              cases hgu : (!i0.seen.isEmpty && !es.isEmpty && g.bs.all (fun b => Nat.ble i0.last b)) with
              | true => simp only [hgu, cond_true] at h4; exact (fail_ok h4).elim
              | false =>
                simp only [hgu, cond_false] at h4
                obtain ⟨n1, n2⟩ := run_next_own (P := P) w ty B M i0.since i0.last i0.seen.toArray ents clock hw hwm (hguard.trans hgu) hL
                rw [hg.1] at f2 f3
                cases hleft : leftE es g.bs i0.seen with
                | nil =>
                  rw [hleft] at h4 f2
                  simp only at h4
                  obtain ⟨rfl, rfl⟩ := pure_ok h4
                  have : l' = [] := by cases l' <;> simp_all
                  subst this
                  exact ⟨_, w, n1 rfl, Ext.refl m w, hr2, .tuple _ [.bool false] (.one (.bool _))⟩
                | cons c rest =>
                  obtain ⟨k, xv, bn⟩ := c
                  cases rest with
                  | cons c' rest' => rw [hleft] at h4; simp only at h4; exact (fail_ok h4).elim
                  | nil =>
                    rw [hleft] at h4 f2 f3
                    simp only at h4
                    cases hbs : Nat.blt bn i0.since with
                    | false => simp only [hbs, cond_false] at h4; exact (fail_ok h4).elim
                    | true =>
                      simp only [hbs, cond_true] at h4
                      obtain ⟨_, s3, h5, h6⟩ := bind_ok h4
                      obtain ⟨rfl, rfl⟩ := pure_ok h6
                      obtain ⟨e0, q1, q2, q3, q4⟩ := f3 0 k xv bn rfl
                      have hl1 : l' = [e0] := by
                        cases l' with
                        | nil => simp at q1
                        | cons a r => simp at q1 f2; subst q1; subst f2; rfl
                      subst hl1
                      subst q4
                      obtain ⟨o, o', j1, j2, j3, j4⟩ := upd_ok h5
                      rw [k3, g3, g1] at j1
                      cases j1
                      simp only [setIterO, Option.some.injEq, Prod.mk.injEq, true_and] at j2
                      subst j2
                      have hib : s2.heap.get b = some (.iter i0) := by rw [k3, g3]; exact g1
                      obtain ⟨e4, r4⟩ := turn_iter (i' := { i0 with seen := i0.seen ++ [e0.born], last := g.clk }) (mr := some M) hr2 hib hm hw (fun c t fr h => by cases h) (by
                        simp only [hir]; exact ⟨M, t', e', hmm, rfl⟩)
                      refine ⟨_, _, ?_, e4, r4.congr fun z => by rw [j3, Tr.get_set]; simp only [hir], .tuple _ [.bool true, e0.key, e0.val] (.cons _ _ _ _ (.bool _) (.cons _ _ _ _ q2 (.one q3)))⟩
                      rw [n2 e0 rfl (by simpa [Nat.blt_eq] using hbs)]
                      simp [hg.2]
  · exact (fail_ok h).elim

theorem find_sim' (stamp : Nat) : ∀ {es : List (AV × AV)} {l : List MapEntry} {k x : AV}, ERel m es l → findE stamp es (l.map (·.born)) = some (k, x) →
    ∃ e, l.find? (fun e => e.born == stamp) = some e ∧ VR m k e.key ∧ VR m x e.val
  | [], [], _, _, _, h => by simp [findE] at h
  | (k', x') :: es, e :: l, k, x, ⟨h1, h2, h3⟩, h => by
    simp only [findE, List.map_cons] at h
    cases hb : Nat.beq e.born stamp with
    | true =>
      simp only [hb, cond_true, Option.some.injEq, Prod.mk.injEq] at h
      obtain ⟨rfl, rfl⟩ := h
      refine ⟨e, ?_, h1, h2⟩
      rw [List.find?_cons_of_pos (by have := Nat.eq_of_beq_eq_true hb; simp [this])]
    | false =>
      simp only [hb, cond_false] at h
      obtain ⟨e', g1, g2, g3⟩ := find_sim' stamp h3 h
      refine ⟨e', ?_, g2, g3⟩
      rw [List.find?_cons_of_neg (by intro hc; rw [beq_iff_eq] at hc; rw [hc, Nat.beq_refl] at hb; cases hb), g1]
  | [], _ :: _, _, _, h, _ => h.elim
  | (_, _) :: _, [], _, _, h, _ => h.elim

theorem entry_sim {s : St} (hr : Rel m s.heap.get w) {x y : AV} {s' : St} (h : (entryA x).run s = .ok y s') {u : Value} (hx : VR m x u) :
    ∃ r, (Instr.entry u).run P w = .ok r w ∧ Rel m s'.heap.get w ∧ VR m y r := by
  unfold entryA at h
  split at h
  · rename_i b
    obtain ⟨i, s1, h1, h2⟩ := bind_ok h
    obtain ⟨o, g1, g2, g3, g4⟩ := look_ok h1
    cases hx with
    | ptr _ _ _ B t e hm =>
      cases o with
      | row r' => simp [getIterO] at g2
      | loop L => simp [getIterO] at g2
      | map es g => simp [getIterO] at g2
      | iter i0 =>
        simp only [getIterO, Option.some.injEq] at g2; subst g2
        obtain ⟨_, hi⟩ := hr.obj _ _ g1
        obtain ⟨mr, hw, hmr⟩ := hi B t e hm
        have hr1 : Rel m s1.heap.get w := by rw [g3]; exact hr
        cases hir : i0.r with
        | none => rw [hir] at h2; simp only at h2; exact (fail_ok h2).elim
        | some r =>
          rw [hir] at hmr h2
          simp only at hmr h2
          obtain ⟨M, t', e', hmm, rfl⟩ := hmr
          obtain ⟨p, s2, h3, h4⟩ := bind_ok h2
          obtain ⟨o, k1, k2, k3, k4⟩ := look_ok h3
          have hr2 : Rel m s2.heap.get w := by rw [k3]; exact hr1
          cases o with
          | row r' => simp [getMapGO] at k2
          | loop L => simp [getMapGO] at k2
          | iter i => simp [getMapGO] at k2
          | map es g =>
            simp only [getMapGO, Option.some.injEq] at k2; subst k2
            obtain ⟨_, ho⟩ := hr1.obj _ _ k1
            obtain ⟨ents, clock, hwm, he, hg⟩ := ho M t' e' hmm
            cases hl : i0.seen.getLast? with
            | none => rw [hl] at h4; simp only at h4; exact (fail_ok h4).elim
            | some stamp =>
              rw [hl] at h4
              simp only at h4
              cases hc : Nat.beq g.clk i0.last with
              | false => simp only [hc, cond_false] at h4; exact (fail_ok h4).elim
              | true =>
                simp only [hc, cond_true] at h4
                split at h4
                · rename_i p hfe
                  obtain ⟨k, xv⟩ := p
                  obtain ⟨rfl, rfl⟩ := pure_ok h4
                  rw [← hg.1] at hfe
                  obtain ⟨e0, q1, q2, q3⟩ := find_sim' stamp he hfe
                  refine ⟨.tuple #[e0.key, e0.val], ?_, hr2, .tuple _ [e0.key, e0.val] (.cons _ _ _ _ q2 (.one q3))⟩
                  have hclk : (clock != i0.last) = false := by
                    have := Nat.eq_of_beq_eq_true hc
                    rw [hg.2, this]; simp
                  have hback : i0.seen.toArray.back? = some stamp := by rw [List.back?_toArray]; exact hl
                  have hfind : ents.find? (fun x => x.born == stamp) = some e0 := by rw [← Array.find?_toList]; exact q1
                  simp only [Instr.entry, getObj, Sem.run_bind, Sem.run, hw, hwm, Result.andThen, hback, hclk, Bool.false_eq_true, if_false, hfind]
                  rfl
                · exact (fail_ok h4).elim
  · exact (fail_ok h).elim

theorem makeSlice_sim {s : St} (hr : Rel m s.heap.get w) {t : TypeId} {l c y : AV} {s' : St} (h : (makeSliceA P t l c).run s = .ok y s') (hf : Fresh s s') {u v : Value} (hl : VR m l u) (hc : VR m c v) :
    ∃ r w' m', (Instr.makeSlice t u v).run P w = .ok r w' ∧ Ext m w m' w' ∧ Rel m' s'.heap.get w' ∧ VR m' y r := by
  unfold makeSliceA at h
  split at h
  · rename_i e he
    split at h
    · rename_i size hs
      split at h
      · rename_i bytes hby
        split at h
        · rename_i ln hln
          split at h
          · rename_i cn hcn
            cases hb : Nat.ble ln cn && sizeFits cn bytes with
            | false => simp only [hb, cond_false] at h; exact (fail_ok h).elim
            | true =>
              simp only [hb, cond_true] at h
              obtain ⟨hb1, hb2⟩ := and_true hb
              obtain ⟨hb3, hb4⟩ := and_true hb2
              have c1 := ble_le hb1
              have c3 := ble_le hb3
              have c4 := ble_le hb4
              split at h
              · rename_i z hz
                obtain ⟨b, s1, h1, h2⟩ := bind_ok h
                obtain ⟨rfl, rfl⟩ := pure_ok h2
                obtain ⟨zc, hz1, hz2, hz3⟩ := zeros_sim (m := m) (w := w) hz
                obtain ⟨m', k1, k2, k3⟩ := newRow_sim (ty := e) hr h1 hf (gen_rel hz2 (cn * size) hz3)
                obtain ⟨kl, rfl⟩ := nat_some hln hl
                obtain ⟨kc, rfl⟩ := nat_some hcn hc
                obtain ⟨inf, hinf, rfl⟩ := bytesOf_some hby
                refine ⟨.slice (some ⟨w.heap.size, 0, none⟩) ln cn, _, m', ?_, k1, k2, .slice _ _ _ _ _ _ _ _ _ k3 c1 (fun c' hc => by cases hc; rfl) (fun hc => by cases hc)⟩
                have hw64 : ∀ n : Nat, n ≤ 140737488355328 → IntKind.i64.wrap (n : Int) = (n : Int) := by
                  intro n hn
                  have hw : IntKind.i64.wrap (n : Int) = if (n : Int) % 18446744073709551616 ≥ 9223372036854775808 then (n : Int) % 18446744073709551616 - 18446744073709551616 else (n : Int) % 18446744073709551616 := by
                    simp [IntKind.wrap, IntKind.bits, IntKind.signed]
                  rw [hw]
                  split <;> omega
                have e1 := hw64 ln (by omega)
                have e2 := hw64 cn (by omega)
                have htl : ¬ ((inf.bytes : Int) * (cn : Int) > 2 ^ 48) := by
                  have : inf.bytes * cn ≤ 140737488355328 := by rw [Nat.mul_comm]; exact c3
                  have : ((inf.bytes * cn : Nat) : Int) ≤ 140737488355328 := by omega
                  rw [Int.natCast_mul] at this
                  omega
                have hcond : (decide ((cn : Int) < 0) || decide ((inf.bytes : Int) * (cn : Int) > 2 ^ 48)) = false := by
                  rw [decide_eq_false (by omega : ¬ ((cn : Int) < 0)), decide_eq_false htl]; rfl
                by_cases h0 : cn * size = 0
                · rw [if_pos h0] at hz1
                  cases hz1
                  simp only [Instr.makeSlice, Sem.run_bind, run_underlying (sliceElem_some he), Result.andThen_ok, asInt, asIntOf, Sem.run_pure, typeInfo, run_program, hinf, e1, e2, hcond, Bool.false_or,
                    Int.toNat_natCast, pure_bind]
                  rw [if_neg (by simp; omega)]
                  simp only [Sem.run_bind, run_askRoom, Result.andThen_ok, run_sizeOf' hs, if_pos h0, run_newRow, Sem.run_pure]
                · rw [if_neg h0] at hz1
                  cases hzv : (zeroValue e).run P w with
                  | halt x w1 => rw [Sem.run_bind, hzv] at hz1; cases hz1
                  | ok zv w1 =>
                    rw [Sem.run_bind, hzv] at hz1
                    cases hz1
                    simp only [Instr.makeSlice, Sem.run_bind, run_underlying (sliceElem_some he), Result.andThen_ok, asInt, asIntOf, Sem.run_pure, typeInfo, run_program, hinf, e1, e2, hcond, Bool.false_or,
                      Int.toNat_natCast, pure_bind]
                    rw [if_neg (by simp; omega)]
                    simp only [Sem.run_bind, run_askRoom, Result.andThen_ok, run_sizeOf' hs, if_neg h0, hzv, run_newRow, Sem.run_pure]
              · exact (fail_ok h).elim
          · exact (fail_ok h).elim
        · exact (fail_ok h).elim
      · exact (fail_ok h).elim
    · exact (fail_ok h).elim
  · exact (fail_ok h).elim

end
end Go.Ab
