/-
  MAPS THAT TURN, LENGTHS, NEW SLICES, APPEND (own work).
-/
import Derived.Test.YtlonlfiaclacdaaGreatAb8
namespace Go.Ab

section
variable {P : Program} {m : Inj} {w : World}

/-! ### Maps that turn -/

def World.putObj (w : World) (B : Nat) (o : Go.Obj) : World := { w with heap := w.heap.setIfInBounds B o }

theorem run_setObj' (w : World) (B : Nat) (ents : Array MapEntry) (clock : Nat) (h : w.heap[B]? = some (.map ents clock)) (o : Go.Obj) : (setObj B o).run P w = .ok () (World.putObj w B o) := by
  simp only [setObj, Sem.run, h]; rfl

theorem putObj_facts (w : World) (B : Nat) (o o' : Go.Obj) (h : w.heap[B]? = some o) (h1 : ∀ c t fr, o ≠ .cells c t fr) (h2 : ∀ c t fr, o' ≠ .cells c t fr) :
    (World.putObj w B o').heap[B]? = some o' ∧ (∀ k, k ≠ B → (World.putObj w B o').heap[k]? = w.heap[k]?) ∧ (World.putObj w B o').heap.size = w.heap.size ∧
    ∀ a, (World.putObj w B o').frozen? a = w.frozen? a := by
  have hB : B < w.heap.size := (Array.getElem?_eq_some_iff.1 h).1
  have e1 : (World.putObj w B o').heap[B]? = some o' := by simp [World.putObj, hB]
  have e2 : ∀ k, k ≠ B → (World.putObj w B o').heap[k]? = w.heap[k]? := fun k hk => by
    simp only [World.putObj]; rw [Array.getElem?_setIfInBounds_ne (Ne.symm hk)]
  refine ⟨e1, e2, by simp [World.putObj], fun a => ?_⟩
  by_cases e : a.block = B
  · simp only [World.frozen?, e, e1, h]
    cases o' with
    | cells c t fr => exact absurd rfl (h2 c t fr)
    | _ =>
      cases o with
      | cells c t fr => exact absurd rfl (h1 c t fr)
      | _ => rfl
  · simp only [World.frozen?, e2 _ e]

/-- A map's block turned. -/
theorem turn_map {h : Nat → Option Obj} (hr : Rel m h w) {b B t e : Nat} {es es' : List (AV × AV)} (hb : h b = some (.map es)) (hm : m b 0 = some (B, t, e))
    {ents ents' : Array MapEntry} {clock clock' : Nat} (hw : w.heap[B]? = some (.map ents clock)) (he : ERel m es' ents'.toList) :
    Ext m w m (World.putObj w B (.map ents' clock')) ∧ Rel m (fun x => if x = b then some (.map es') else h x) (World.putObj w B (.map ents' clock')) := by
  obtain ⟨g1, g2, g3, g4⟩ := putObj_facts w B _ (.map ents' clock') hw (fun c t fr h => by cases h) (fun c t fr h => by cases h)
  obtain ⟨hnv, _⟩ := hr.obj b _ hb
  refine hr.turn (Inj.le_refl m) (fun _ _ _ => rfl) ⟨0, t, e, hm⟩ (fun u B' t' e' hh => ⟨u, t', e', hh⟩) g2 g3 rfl rfl g4 ?_ ⟨_, hb⟩
  refine ⟨hnv, fun B' t' e' hh => ?_⟩
  rw [hm] at hh; cases hh
  exact ⟨ents', clock', g1, he⟩

theorem ERel.append {es : List (AV × AV)} {l : List MapEntry} (h : ERel m es l) {k x : AV} {e : MapEntry} (hk : VR m k e.key) (hx : VR m x e.val) : ERel m (es ++ [(k, x)]) (l ++ [e]) := by
  induction es generalizing l with
  | nil => cases l with
    | nil => exact ⟨hk, hx, trivial⟩
    | cons => exact h.elim
  | cons p es ih =>
    cases l with
    | nil => exact h.elim
    | cons e' l => obtain ⟨h1, h2, h3⟩ := h; exact ⟨h1, h2, ih h3⟩

theorem sameBits_of_now {d : TypeDesc} {u v : Value} (h : Instr.sameNow d u v = some true) (hd : (∃ k, d = .int k) ∨ d = .string) (n : Nat) : Instr.sameBits (n + 1) v u = true := by
  rcases hd with ⟨k, rfl⟩ | rfl
  · cases u <;> cases v <;> simp [Instr.sameNow] at h
    obtain ⟨h1, h2⟩ := h
    simp [Instr.sameBits, h1, h2]
  · cases u <;> cases v <;> simp [Instr.sameNow] at h
    rename_i a b
    rw [beq_toListBytes] at h
    have e : a.toList = b.toList := by simpa using h
    simp only [Instr.sameBits]
    rw [beq_toListBytes, e]
    simp

theorem put_list {d : TypeDesc} {k x : AV} {u v : Value} (hk : VR m k u) (hx : VR m x v) : ∀ {es es' : List (AV × AV)} {l : List MapEntry} (i : Nat), ERel m es l → putA (some d) k x es = some es' →
    (∃ j e, Instr.findNow d u l i = some (some (i + j, e.val)) ∧ l[j]? = some e ∧ Instr.sameNow d u e.key = some true ∧ ERel m es' (l.modify j fun e => { e with key := u, val := v })) ∨
    (Instr.findNow d u l i = some none ∧ ∀ born, ERel m es' (l ++ [{ key := u, val := v, born := born }]))
  | [], es', [], i, _, h => by
    simp only [putA, Option.some.injEq] at h; subst h
    exact .inr ⟨rfl, fun _ => ⟨hk, hx, trivial⟩⟩
  | (k', x') :: es, es', e :: l, i, ⟨h1, h2, h3⟩, h => by
    simp only [putA] at h
    split at h
    · rename_i he
      simp only [Option.some.injEq] at h; subst h
      have hs := keyEq_sim he hk h1
      exact .inl ⟨0, e, by simp [Instr.findNow, hs], rfl, hs, hk, hx, h3⟩
    · rename_i he
      have hs := keyEq_sim he hk h1
      split at h
      · rename_i r' hr'
        simp only [Option.some.injEq] at h; subst h
        rcases put_list hk hx (i + 1) h3 hr' with ⟨j, e', g1, g2, g3, g4⟩ | ⟨g1, g2⟩
        · refine .inl ⟨j + 1, e', ?_, by simpa using g2, g3, ?_⟩
          · simp only [Instr.findNow, hs, g1, show i + 1 + j = i + (j + 1) by omega]
          · simp only [List.modify_succ_cons]; exact ⟨h1, h2, g4⟩
        · exact .inr ⟨by simp only [Instr.findNow, hs, g1], fun born => ⟨h1, h2, g2 born⟩⟩
      · cases h
    · cases h
  | [], _, _ :: _, _, h, _ => h.elim
  | (_, _) :: _, _, [], _, h, _ => h.elim

theorem del_list {d : TypeDesc} {k : AV} {u : Value} (hk : VR m k u) : ∀ {es es' : List (AV × AV)} {l : List MapEntry} (i : Nat), ERel m es l → delA (some d) k es = some es' →
    (∃ j v, Instr.findNow d u l i = some (some (i + j, v)) ∧ j < l.length ∧ ERel m es' (l.eraseIdx j)) ∨ (Instr.findNow d u l i = some none ∧ ERel m es' l)
  | [], es', [], i, _, h => by
    simp only [delA, Option.some.injEq] at h; subst h
    exact .inr ⟨rfl, trivial⟩
  | (k', x') :: es, es', e :: l, i, ⟨h1, h2, h3⟩, h => by
    simp only [delA] at h
    split at h
    · rename_i he
      simp only [Option.some.injEq] at h; subst h
      have hs := keyEq_sim he hk h1
      exact .inl ⟨0, e.val, by simp [Instr.findNow, hs], by simp, h3⟩
    · rename_i he
      have hs := keyEq_sim he hk h1
      split at h
      · rename_i r' hr'
        simp only [Option.some.injEq] at h; subst h
        rcases del_list hk (i + 1) h3 hr' with ⟨j, v, g1, g2, g3⟩ | ⟨g1, g2⟩
        · refine .inl ⟨j + 1, v, ?_, by simp; omega, ⟨h1, h2, g3⟩⟩
          simp only [Instr.findNow, hs, g1, show i + 1 + j = i + (j + 1) by omega]
        · exact .inr ⟨by simp only [Instr.findNow, hs, g1], ⟨h1, h2, g2⟩⟩
      · cases h
    · cases h
  | [], _, _ :: _, _, h, _ => h.elim
  | (_, _) :: _, _, [], _, h, _ => h.elim

theorem keyOf_desc {d : TypeDesc} {x : AV} (h : keyOf (some d) x = true) : (∃ k, d = .int k) ∨ d = .string := by
  unfold keyOf keyEq at h
  split at h
  · rename_i k0 hd; cases hd; exact .inl ⟨_, rfl⟩
  · rename_i hd; cases hd; exact .inr rfl
  · cases h

theorem keyOf_und {t : TypeId} {k : AV} (h : keyOf (P.underlying t) k = true) : ∃ d, P.underlying t = some d := by
  cases hd : P.underlying t with
  | none => rw [hd] at h; simp [keyOf, keyEq] at h
  | some d => exact ⟨d, rfl⟩

theorem mapUpdate_sim {s : St} (hr : Rel m s.heap.get w) {t kt e : TypeId} (ht : mapElem P t = some (kt, e)) {r : Nat} {k x : AV} (hko : keyOf (P.underlying kt) k = true)
    {s' : St} (h : (upd r (updMapO (putA (P.underlying kt) k x))).run s = .ok () s') {u v z : Value} (hm : VR m (.map r) z) (hk : VR m k u) (hx : VR m x v) :
    ∃ w', (Instr.mapUpdate t z u v).run P w = .ok () w' ∧ Ext m w m w' ∧ Rel m s'.heap.get w' := by
  have hu := mapElem_some ht
  obtain ⟨d, hd⟩ := keyOf_und hko
  rw [hd] at hko h
  obtain ⟨o, o', h1, h2, h3, h4⟩ := upd_ok h
  cases o with
  | row r' => simp [updMapO] at h2
  | loop L => simp [updMapO] at h2
  | map es =>
    simp only [updMapO] at h2
    split at h2
    · rename_i es' hes
      simp only [Option.some.injEq, Prod.mk.injEq, true_and] at h2; subst h2
      cases hm with
      | map _ B t' e' hmm =>
        obtain ⟨_, ho⟩ := hr.obj _ _ h1
        obtain ⟨ents, clock, hw', he⟩ := ho B t' e' hmm
        have hgo := run_getObj' (P := P) w B ents clock hw'
        have hck := checkKey_sim hd hko hk false w
        rcases put_list hk hx 0 he hes with ⟨j, e1, g1, g2, g3, g4⟩ | ⟨g1, g2⟩
        · have hlist : (ents.modify j fun e => { e with key := u, val := v }).toList = ents.toList.modify j fun e => { e with key := u, val := v } := by simp
          obtain ⟨k1, k2⟩ := turn_map (clock' := clock) hr h1 hmm hw' (ents' := ents.modify j fun e => { e with key := u, val := v }) (by rw [hlist]; exact g4)
          refine ⟨_, ?_, k1, k2.congr fun y => by rw [h3, Tr.get_set]⟩
          have hkey : ((ents[j]?).map (·.key)).getD u = e1.key := by
            have : ents[j]? = some e1 := by simpa using g2
            rw [this]; rfl
          have hsb : Instr.sameBits 10000 e1.key u = true := sameBits_of_now g3 (keyOf_desc hko) 9999
          rw [Nat.zero_add] at g1
          simp only [Instr.mapUpdate, Sem.run_bind, run_underlying hu, Result.andThen_ok, hgo, hck, Instr.findKey, run_underlying hd, g1, Sem.run_pure, hkey, Instr.keyThatStays, hsb, if_true, run_setObj' w B ents clock hw']
        · have hlist : (ents.push { key := u, val := v, born := clock }).toList = ents.toList ++ [{ key := u, val := v, born := clock }] := by simp
          obtain ⟨k1, k2⟩ := turn_map (clock' := clock + 1) hr h1 hmm hw' (ents' := ents.push { key := u, val := v, born := clock }) (by rw [hlist]; exact g2 _)
          refine ⟨_, ?_, k1, k2.congr fun y => by rw [h3, Tr.get_set]⟩
          simp only [Instr.mapUpdate, Sem.run_bind, run_underlying hu, Result.andThen_ok, hgo, hck, Instr.findKey, run_underlying hd, g1, Sem.run_pure, run_setObj' w B ents clock hw']
    · cases h2

theorem delete_sim {s : St} (hr : Rel m s.heap.get w) {t kt e : TypeId} (ht : mapElem P t = some (kt, e)) {r : Nat} {k : AV} (hko : keyOf (P.underlying kt) k = true)
    {s' : St} (h : (upd r (updMapO (delA (P.underlying kt) k))).run s = .ok () s') {u z : Value} (hm : VR m (.map r) z) (hk : VR m k u) {ats : Array TypeId} (hat : ats[0]? = some t) (ty : TypeId) :
    ∃ w', (Builtin.delete_ ats ty #[z, u]).run P w = .ok (.tuple #[]) w' ∧ Ext m w m w' ∧ Rel m s'.heap.get w' := by
  have hu := mapElem_some ht
  obtain ⟨d, hd⟩ := keyOf_und hko
  rw [hd] at hko h
  obtain ⟨o, o', h1, h2, h3, h4⟩ := upd_ok h
  cases o with
  | row r' => simp [updMapO] at h2
  | loop L => simp [updMapO] at h2
  | map es =>
    simp only [updMapO] at h2
    split at h2
    · rename_i es' hes
      simp only [Option.some.injEq, Prod.mk.injEq, true_and] at h2; subst h2
      cases hm with
      | map _ B t' e' hmm =>
        obtain ⟨_, ho⟩ := hr.obj _ _ h1
        obtain ⟨ents, clock, hw', he⟩ := ho B t' e' hmm
        have hgo := run_getObj' (P := P) w B ents clock hw'
        have hck := checkKey_sim hd hko hk ents.isEmpty w
        have a0 : (#[Value.map (some B), u] : Array Value)[0]? = some (.map (some B)) := rfl
        have a1 : (#[Value.map (some B), u] : Array Value)[1]? = some u := rfl
        rcases del_list hk 0 he hes with ⟨j, v, g1, g2, g3⟩ | ⟨g1, g2⟩
        · have hlist : (ents.eraseIdxIfInBounds j).toList = ents.toList.eraseIdx j := by
            have hj : j < ents.size := by simpa using g2
            simp [Array.eraseIdxIfInBounds, hj, Array.toList_eraseIdx]
          obtain ⟨k1, k2⟩ := turn_map (clock' := clock) hr h1 hmm hw' (ents' := ents.eraseIdxIfInBounds j) (by rw [hlist]; exact g3)
          refine ⟨_, ?_, k1, k2.congr fun y => by rw [h3, Tr.get_set]⟩
          rw [Nat.zero_add] at g1
          simp only [Builtin.delete_, hat, a0, a1, Sem.run_bind, run_underlying hu, Result.andThen_ok, hgo, hck, Instr.findKey, run_underlying hd, g1, Sem.run_pure, run_setObj' w B ents clock hw']
        · obtain ⟨k1, k2⟩ := turn_map (clock' := clock) hr h1 hmm hw' (ents' := ents) g2
          refine ⟨_, ?_, k1, k2.congr fun y => by rw [h3, Tr.get_set]⟩
          simp only [Builtin.delete_, hat, a0, a1, Sem.run_bind, run_underlying hu, Result.andThen_ok, hgo, hck, Instr.findKey, run_underlying hd, g1, Sem.run_pure, run_setObj' w B ents clock hw']
    · cases h2

theorem newMap_sim {s : St} (hr : Rel m s.heap.get w) {es : List (AV × AV)} {ents : Array MapEntry} (clock : Nat) (he : ERel m es ents.toList) {b : Nat} {s' : St} (h : (newObj (.map es)).run s = .ok b s') (hf : Fresh s s') :
    ∃ m', Ext m w m' (w.alloc (.map ents clock)) ∧ Rel m' s'.heap.get (w.alloc (.map ents clock)) ∧ VR m' (.map b) (.map (some w.heap.size)) := by
  obtain ⟨rfl, h2, h3⟩ := new_ok h
  have hb : s.heap.get s.next = none := hf _ (Nat.le_refl _) (by omega)
  obtain ⟨m', h5, h6, h7⟩ := hr.new hb (.map es) (.map ents clock) 0 0 (by
    intro m' hle' hnew hcell
    refine ⟨fun u => by rw [hnew]; split <;> simp_all, fun B t e hm => ?_⟩
    rw [hnew] at hm
    simp only [if_true, Option.some.injEq, Prod.mk.injEq] at hm
    obtain ⟨rfl, rfl, rfl⟩ := hm
    exact ⟨ents, clock, hcell, he.mono hle'⟩) (frozen_alloc w _ (fun c t fr e => by cases e))
  exact ⟨m', h5, h6.congr fun x => by rw [h2, Tr.get_set], .map _ _ _ _ h7⟩

theorem ERel.length {es : List (AV × AV)} {l : List MapEntry} (h : ERel m es l) : es.length = l.length := by
  induction es generalizing l with
  | nil => cases l with
    | nil => rfl
    | cons => exact h.elim
  | cons p es ih =>
    cases l with
    | nil => exact h.elim
    | cons e' l => obtain ⟨_, _, h3⟩ := h; simp [ih h3]

theorem len_sim {s : St} (hr : Rel m s.heap.get w) {t : TypeId} {x y : AV} {s' : St} (h : (lenA P t x).run s = .ok y s') {u : Value} (hx : VR m x u) {ats : Array TypeId} (hat : ats[0]? = some t) (ty : TypeId) :
    ∃ v, (Builtin.len_ ats ty #[u]).run P w = .ok v w ∧ VR m y v ∧ s'.heap = s.heap ∧ s'.next = s.next := by
  have a0 : (#[u] : Array Value)[0]? = some u := rfl
  unfold lenA at h
  split at h
  · rename_i hu
    split at h
    · obtain ⟨rfl, rfl⟩ := pure_ok h
      cases hx with
      | str s _ _ e1 e2 =>
        refine ⟨.int .i64 s.size, by simp [Builtin.len_, hat, run_underlying hu, goInt], ?_, rfl, rfl⟩
        rw [e1]; exact .int _ _
    · exact (fail_ok h).elim
  · rename_i e hu
    split at h
    · rename_i b v o n cap
      obtain ⟨rfl, rfl⟩ := pure_ok h
      cases hx with
      | slice _ _ _ _ _ B t' e' c hm g1 g2 g3 => exact ⟨.int .i64 n, by simp [Builtin.len_, hat, run_underlying hu, goInt], .int _ _, rfl, rfl⟩
    · obtain ⟨rfl, rfl⟩ := pure_ok h
      cases hx
      exact ⟨.int .i64 0, by simp [Builtin.len_, hat, run_underlying hu, goInt], .int _ _, rfl, rfl⟩
    · exact (fail_ok h).elim
  · rename_i k e hu
    split at h
    · obtain ⟨rfl, rfl⟩ := pure_ok h
      cases hx
      exact ⟨.int .i64 0, by simp [Builtin.len_, hat, run_underlying hu, goInt], .int _ _, rfl, rfl⟩
    · rename_i r
      obtain ⟨es, s1, h1, h2⟩ := bind_ok h
      obtain ⟨rfl, rfl⟩ := pure_ok h2
      obtain ⟨o, g1, g2, g3, g4⟩ := look_ok h1
      cases hx with
      | map _ B t' e' hmm =>
        cases o with
        | row r' => simp [getMapO] at g2
        | loop L => simp [getMapO] at g2
        | map es0 =>
          simp only [getMapO, Option.some.injEq] at g2; subst g2
          obtain ⟨_, ho⟩ := hr.obj _ _ g1
          obtain ⟨ents, clock, hw', he⟩ := ho B t' e' hmm
          refine ⟨.int .i64 ents.size, by simp [Builtin.len_, hat, run_underlying hu, goInt, run_getObj' w B ents clock hw'], ?_, g3, g4⟩
          rw [he.length]
          exact .int _ _
    · exact (fail_ok h).elim
  · exact (fail_ok h).elim

theorem makeSlice_sim {s : St} (hr : Rel m s.heap.get w) {t : TypeId} {l c y : AV} {s' : St} (h : (makeSliceA P t l c).run s = .ok y s') (hf : Fresh s s') {u v : Value} (hl : VR m l u) (hc : VR m c v) :
    ∃ r w' m', (Instr.makeSlice t u v).run P w = .ok r w' ∧ Ext m w m' w' ∧ Rel m' s'.heap.get w' ∧ VR m' y r := by
  unfold makeSliceA at h
  split at h
  · rename_i e he
    split at h
    · rename_i size hs
      split at h
      · rename_i bytes hby
        split at h
        · rename_i ln hln
          split at h
          · rename_i cn hcn
            cases hb : Nat.ble ln cn && sizeFits cn bytes with
            | false => simp only [hb, cond_false] at h; exact (fail_ok h).elim
            | true =>
              simp only [hb, cond_true] at h
              obtain ⟨hb1, hb2⟩ := and_true hb
              obtain ⟨hb3, hb4⟩ := and_true hb2
              have c1 := ble_le hb1
              have c3 := ble_le hb3
              have c4 := ble_le hb4
              split at h
              · rename_i z hz
                obtain ⟨b, s1, h1, h2⟩ := bind_ok h
                obtain ⟨rfl, rfl⟩ := pure_ok h2
                obtain ⟨zc, hz1, hz2, hz3⟩ := zeros_sim (m := m) (w := w) hz
                obtain ⟨m', k1, k2, k3⟩ := newRow_sim (ty := e) hr h1 hf (gen_rel hz2 (cn * size) hz3)
                obtain ⟨kl, rfl⟩ := nat_some hln hl
                obtain ⟨kc, rfl⟩ := nat_some hcn hc
                obtain ⟨inf, hinf, rfl⟩ := bytesOf_some hby
                refine ⟨.slice (some ⟨w.heap.size, 0, none⟩) ln cn, _, m', ?_, k1, k2, .slice _ _ _ _ _ _ _ _ _ k3 c1 (fun c' hc => by cases hc; rfl) (fun hc => by cases hc)⟩
                have hw64 : ∀ n : Nat, n ≤ 140737488355328 → IntKind.i64.wrap (n : Int) = (n : Int) := by
                  intro n hn
                  have hw : IntKind.i64.wrap (n : Int) = if (n : Int) % 18446744073709551616 ≥ 9223372036854775808 then (n : Int) % 18446744073709551616 - 18446744073709551616 else (n : Int) % 18446744073709551616 := by
                    simp [IntKind.wrap, IntKind.bits, IntKind.signed]
                  rw [hw]
                  split <;> omega
                have e1 := hw64 ln (by omega)
                have e2 := hw64 cn (by omega)
                have htl : ¬ ((inf.bytes : Int) * (cn : Int) > 2 ^ 48) := by
                  have : inf.bytes * cn ≤ 140737488355328 := by rw [Nat.mul_comm]; exact c3
                  have : ((inf.bytes * cn : Nat) : Int) ≤ 140737488355328 := by omega
                  rw [Int.natCast_mul] at this
                  omega
                have hcond : (decide ((cn : Int) < 0) || decide ((inf.bytes : Int) * (cn : Int) > 2 ^ 48)) = false := by
                  rw [decide_eq_false (by omega : ¬ ((cn : Int) < 0)), decide_eq_false htl]; rfl
                by_cases h0 : cn * size = 0
                · rw [if_pos h0] at hz1
                  cases hz1
                  simp only [Instr.makeSlice, Sem.run_bind, run_underlying (sliceElem_some he), Result.andThen_ok, asInt, asIntOf, Sem.run_pure, typeInfo, run_program, hinf, e1, e2, hcond, Bool.false_or,
                    Int.toNat_natCast, run_sizeOf' hs, if_pos h0, run_newRow, run_askRoom, pure_bind]
                  rw [if_neg (by simp; omega)]
                  simp only [Sem.run_bind, run_askRoom, Result.andThen_ok, run_sizeOf' hs, if_pos h0, run_newRow, Sem.run_pure]
                · rw [if_neg h0] at hz1
                  cases hzv : (zeroValue e).run P w with
                  | halt x w1 => rw [Sem.run_bind, hzv] at hz1; cases hz1
                  | ok zv w1 =>
                    rw [Sem.run_bind, hzv] at hz1
                    cases hz1
                    simp only [Instr.makeSlice, Sem.run_bind, run_underlying (sliceElem_some he), Result.andThen_ok, asInt, asIntOf, Sem.run_pure, typeInfo, run_program, hinf, e1, e2, hcond, Bool.false_or,
                      Int.toNat_natCast, run_sizeOf' hs, if_neg h0, hzv, run_newRow, run_askRoom, pure_bind]
                    rw [if_neg (by simp; omega)]
                    simp only [Sem.run_bind, run_askRoom, Result.andThen_ok, run_sizeOf' hs, if_neg h0, hzv, run_newRow, Sem.run_pure]
              · exact (fail_ok h).elim
          · exact (fail_ok h).elim
        · exact (fail_ok h).elim
      · exact (fail_ok h).elim
    · exact (fail_ok h).elim
  · exact (fail_ok h).elim

end
end Go.Ab
