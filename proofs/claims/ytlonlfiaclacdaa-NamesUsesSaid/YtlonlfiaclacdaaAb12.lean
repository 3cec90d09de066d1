/-
  ONE OPERATION (own work).
-/
import Derived.Test.YtlonlfiaclacdaaAb11
namespace Go.Ab

section
variable {P : Program} {m : Inj} {w : World} {ev : Task → M AV}

theorem exec_val {ρ : Operand → Value} {o : Oper} {c : Sem Value} (he : execOp ρ o = (do pure (.value (← c)))) {v : Value} {w' : World} (hc : c.run P w = .ok v w') :
    (execOp ρ o).run P w = .ok (.value v) w' := by rw [he, Sem.run_bind, hc]; rfl
theorem exec_unit {ρ : Operand → Value} {o : Oper} {c : Sem Unit} (he : execOp ρ o = (do c; pure .skip)) {w' : World} (hc : c.run P w = .ok () w') :
    (execOp ρ o).run P w = .ok .skip w' := by rw [he, Sem.run_bind, hc]; rfl

theorem vrs1 {a : AV} {l : List AV} {v : Value} (h : VRs m l [v]) (e : l = [a]) : VR m a v := by
  subst e; cases h with | cons _ _ _ _ h1 _ => exact h1
theorem vrs2 {a b : AV} {u v : Value} (h : VRs m [a, b] [u, v]) : VR m a u ∧ VR m b v := by
  cases h with | cons _ _ _ _ h1 h2 => cases h2 with | cons _ _ _ _ h3 _ => exact ⟨h1, h3⟩
theorem vrs3 {a b c : AV} {u v x : Value} (h : VRs m [a, b, c] [u, v, x]) : VR m a u ∧ VR m b v ∧ VR m c x := by
  cases h with | cons _ _ _ _ h1 h2 => exact ⟨h1, vrs2 h2⟩

theorem ofO_val {ro : Option Nat} {s : St} (hr : Rel m s.heap.get w) {x : Option AV} {y : AV} {s' : St} (h : (ofO x).run s = .ok y s') {ρ : Operand → Value} {o : Oper} {c : Sem Value}
    (he : execOp ρ o = (do pure (.value (← c)))) (hc : ∀ y, x = some y → ∃ v, c.run P w = .ok v w ∧ VR m y v) : NextOk P ro m w s' y ((execOp ρ o).run P w) := by
  obtain ⟨rfl, rfl⟩ := ofO_ok h
  obtain ⟨v, h1, h2⟩ := hc _ rfl
  rw [exec_val he h1]
  exact nextOk_value (Ext.refl m w) hr h2

theorem zip_rels {ρ : Operand → Value} : ∀ {parts : List (Nat × Operand)} {vs : List AV}, VRs m vs (parts.map fun p => ρ p.2) → PRels m (zipParts parts vs) (parts.map fun (i, x) => (i, ρ x))
  | [], vs, h => by cases h; trivial
  | (i, o) :: r, vs, h => by
    cases h with
    | cons a v l l' h1 h2 => exact ⟨rfl, h1, zip_rels h2⟩

theorem takeOpt_some {ρ : Operand → Value} {o : Option Operand} {l : List AV} {rest : List Value} (h : VRs m l ((o.map ρ).toList ++ rest)) {n : Option Nat} {r : List AV} (ht : takeOpt o l = some (n, r)) :
    ORelNat n (o.map ρ) ∧ VRs m r rest := by
  cases o with
  | none =>
    simp only [takeOpt, Option.some.injEq, Prod.mk.injEq] at ht
    obtain ⟨rfl, rfl⟩ := ht
    exact ⟨trivial, h⟩
  | some x =>
    simp only [takeOpt] at ht
    split at ht
    · rename_i a r'
      split at ht
      · rename_i k hk
        simp only [Option.some.injEq, Prod.mk.injEq] at ht
        obtain ⟨rfl, rfl⟩ := ht
        cases h with
        | cons _ v _ l' h1 h2 =>
          exact ⟨by obtain ⟨q, hq⟩ := nat_some hk h1; exact ⟨q, hq⟩, h2⟩
      · cases ht
    · cases ht

theorem map_toList_toArray {α β : Type} (f : α → β) (a : Array α) : (a.map f) = (a.toList.map f).toArray := by
  apply Array.ext'
  simp

theorem op_sim (hext : ExtOk P) (hev : EvOk P ev) {s : St} (hr : Rel m s.heap.get w) {o : Oper} {vs : List AV} {y : AV} {s' : St}
    (h : (opV P ev o.op vs).run s = .ok y s') (hf : Fresh s s') {ρ : Operand → Value} (hvs : VRs m vs (o.op.operands.toList.map ρ)) (ro : Option Nat) :
    NextOk P ro m w s' y ((execOp ρ o).run P w) := by
  obtain ⟨dst, op, ty, pos, after, guard⟩ := o
  simp only at h hvs
  unfold opV at h
  split at h
  -- move
  · split at h
    · obtain ⟨rfl, rfl⟩ := pure_ok h
      exact nextOk_value (Ext.refl m w) hr (vrs1 hvs rfl)
    · exact (fail_ok h).elim
  -- assign
  · split at h
    · obtain ⟨rfl, rfl⟩ := pure_ok h
      exact nextOk_value (Ext.refl m w) hr (vrs1 hvs rfl)
    · exact (fail_ok h).elim
  -- pick
  · rename_i c0 a0 b0
    split at h
    · obtain ⟨hp, rfl⟩ := ofO_ok h
      obtain ⟨h1, h2, h3⟩ := vrs3 (u := ρ c0) (v := ρ a0) (x := ρ b0) hvs
      unfold pickA at hp
      split at hp
      · simp only [Option.some.injEq] at hp; subst hp
        have hc : ρ c0 = .bool true := by generalize ρ c0 = q at h1; cases h1; rfl
        have : (execOp ρ ⟨dst, .pick c0 a0 b0, ty, pos, after, guard⟩).run P w = .ok (.value (ρ a0)) w := by
          simp only [execOp, hc, Go.asBool]; rfl
        rw [this]
        exact nextOk_value (Ext.refl m w) hr h2
      · simp only [Option.some.injEq] at hp; subst hp
        have hc : ρ c0 = .bool false := by generalize ρ c0 = q at h1; cases h1; rfl
        have : (execOp ρ ⟨dst, .pick c0 a0 b0, ty, pos, after, guard⟩).run P w = .ok (.value (ρ b0)) w := by
          simp only [execOp, hc, Go.asBool]; rfl
        rw [this]
        exact nextOk_value (Ext.refl m w) hr h3
      · cases hp
    · exact (fail_ok h).elim
  -- alloc
  · rename_i e
    split at h
    · rename_i z hz
      obtain ⟨b, s1, h1, h2⟩ := bind_ok h
      obtain ⟨rfl, rfl⟩ := pure_ok h2
      obtain ⟨v, w', m', g1, g2, g3, g4⟩ := alloc_sim (P := P) hr hz h1 hf
      rw [exec_val rfl g1]
      exact nextOk_value g2 g3 g4
    · exact (fail_ok h).elim
  -- box
  · rename_i e x0
    split at h
    · obtain ⟨b, s1, h1, h2⟩ := bind_ok h
      obtain ⟨rfl, rfl⟩ := pure_ok h2
      obtain ⟨v, w', m', g1, g2, g3, g4⟩ := box_sim (P := P) (e := e) hr (vrs1 hvs rfl) h1 hf
      rw [exec_val rfl g1]
      exact nextOk_value g2 g3 g4
    · exact (fail_ok h).elim
  -- build
  · rename_i t parts
    refine ofO_val hr h (c := Instr.build t (parts.map fun (i, x) => (i, ρ x))) rfl fun y hy => ?_
    refine build_sim (parts' := parts.map fun (i, x) => (i, ρ x)) ?_ hy w
    rw [Array.toList_map]
    exact zip_rels (by
      have : VRs m vs (List.map (ρ ∘ fun x => x.2) parts.toList) := by simpa [Op.operands] using hvs
      exact this)
  -- buildSlice
  · rename_i t len parts
    obtain ⟨v, w', m', g1, g2, g3, g4⟩ := buildSlice_sim (P := P) (parts' := parts.map fun (i, x) => (i, ρ x)) hr (by
      rw [Array.toList_map]
      exact zip_rels (by
      have : VRs m vs (List.map (ρ ∘ fun x => x.2) parts.toList) := by simpa [Op.operands] using hvs
      exact this)) h hf
    rw [exec_val rfl g1]
    exact nextOk_value g2 g3 g4
  -- load
  · rename_i t a0
    split at h
    · obtain ⟨v, g1, g2, g3, g4⟩ := load_sim (P := P) hr h (vrs1 hvs rfl)
      rw [exec_val rfl g1]
      exact nextOk_value (Ext.refl m w) (by rw [g3]; exact hr) g2
    · exact (fail_ok h).elim
  -- store
  · rename_i t a0 x0
    split at h
    · obtain ⟨h1, h2⟩ := vrs2 (u := ρ a0) (v := ρ x0) hvs
      obtain ⟨w', g1, g2, g3, rfl⟩ := store_sim (P := P) hr h h1 h2
      rw [exec_unit rfl g1]
      exact nextOk_skip g2 g3
    · exact (fail_ok h).elim
  -- nilCheck
  · rename_i x0
    split at h
    · rename_i x
      obtain ⟨hp, rfl⟩ := ofO_ok h
      have hx := vrs1 (v := ρ x0) hvs rfl
      have hy : y = x := by
        unfold nilCheckA at hp
        split at hp <;> first | (cases hp; done) | (simp only [Option.some.injEq] at hp; exact hp.symm)
      subst hy
      have : (execOp ρ ⟨dst, .nilCheck x0, ty, pos, after, guard⟩).run P w = .ok (.value (ρ x0)) w := by
        simp only [execOp]
        generalize ρ x0 = q at hx
        cases hx with
        | func fn fs cs fs' cs' _ _ _ =>
          cases fn with
          | func g => rfl
          | yield g => rfl
          | _ => simp [nilCheckA] at hp
        | yield => rfl
        | _ => first | rfl | (simp [nilCheckA] at hp; done)
      rw [this]
      exact nextOk_value (Ext.refl m w) hr hx
    · exact (fail_ok h).elim
  -- binOp
  · rename_i op t x0 y0 yt
    split at h
    · obtain ⟨h1, h2⟩ := vrs2 (u := ρ x0) (v := ρ y0) hvs
      exact ofO_val hr h (c := do eqGuard op t x0 y0 (ρ x0) (ρ y0); binOp op t (ρ x0) (ρ y0)) rfl fun z hz => bin_sim hz h1 h2 x0 y0 w
    · exact (fail_ok h).elim
  -- unOp
  · rename_i op t x0
    split at h
    · exact ofO_val hr h rfl fun z hz => un_sim hz (vrs1 (v := ρ x0) hvs rfl) w
    · exact (fail_ok h).elim
  -- convert
  · rename_i src d x0
    split at h
    · exact ofO_val hr h rfl fun z hz => convert_sim hz (vrs1 (v := ρ x0) hvs rfl) w
    · exact (fail_ok h).elim
  -- makeInterface
  · rename_i t x0
    split at h
    · exact ofO_val hr h rfl fun z hz => iface_sim hz (vrs1 (v := ρ x0) hvs rfl) w
    · exact (fail_ok h).elim
  -- makeFunc
  · rename_i fn first captured
    split at h
    · exact (fail_ok h).elim
    · rename_i hno
      obtain ⟨rfl, rfl⟩ := pure_ok h
      have hv : VRs m vs (first.toList.map ρ ++ captured.toList.map ρ) := by simpa [Op.operands] using hvs
      have hlen : (first.toList.map ρ).length = first.size := by rw [List.length_map, Array.length_toList]
      have h1 : VRs m (vs.take first.size) (first.toList.map ρ) := by
        have := hv.take first.size
        have e : (first.toList.map ρ ++ captured.toList.map ρ).take first.size = first.toList.map ρ := by
          rw [← hlen]; exact List.take_left
        rwa [e] at this
      have h2 : VRs m (vs.drop first.size) (captured.toList.map ρ) := by
        have := hv.drop first.size
        have e : (first.toList.map ρ ++ captured.toList.map ρ).drop first.size = captured.toList.map ρ := by
          rw [← hlen]; exact List.drop_left
        rwa [e] at this
      have : (execOp ρ ⟨dst, .makeFunc fn first captured, ty, pos, after, guard⟩).run P w = .ok (.value (.func fn (first.toList.map ρ).toArray (captured.toList.map ρ).toArray)) w := by
        simp only [execOp, Instr.makeFunc, map_toList_toArray]
        rfl
      rw [this]
      exact nextOk_value (Ext.refl m w) hr (.func _ _ _ _ _ (fun l e => hno l e) h1 h2)
  -- makeMap
  · rename_i t
    obtain ⟨b, s1, h1, h2⟩ := bind_ok h
    obtain ⟨rfl, rfl⟩ := pure_ok h2
    obtain ⟨m', k1, k2, k3⟩ := newMap_sim (ents := #[]) hr 0 (by trivial) ⟨rfl, rfl⟩ h1 hf
    have : (execOp ρ ⟨dst, .makeMap t none, ty, pos, after, guard⟩).run P w = .ok (.value (.map (some w.heap.size))) (w.alloc (.map #[] 0)) := rfl
    rw [this]
    exact nextOk_value k1 k2 k3
  -- makeSlice
  · rename_i t l0 c0
    split at h
    · obtain ⟨h1, h2⟩ := vrs2 (u := ρ l0) (v := ρ c0) hvs
      obtain ⟨v, w', m', g1, g2, g3, g4⟩ := makeSlice_sim (P := P) hr h hf h1 h2
      rw [exec_val rfl g1]
      exact nextOk_value g2 g3 g4
    · exact (fail_ok h).elim
  -- slice
  · rename_i t x0 lo hi mx
    split at h
    · rename_i x r
      split at h
      · rename_i lo' r1 e1
        split at h
        · rename_i hi' r2 e2
          split at h
          · rename_i mx' r3 e3
            have hv : VRs m (x :: r) (ρ x0 :: ((lo.map ρ).toList ++ ((hi.map ρ).toList ++ ((mx.map ρ).toList ++ [])))) := by
              have : (Op.slice t x0 lo hi mx).operands.toList.map ρ = ρ x0 :: ((lo.map ρ).toList ++ ((hi.map ρ).toList ++ ((mx.map ρ).toList ++ []))) := by
                cases lo <;> cases hi <;> cases mx <;> simp [Op.operands]
              rw [this] at hvs; exact hvs
            cases hv with
            | cons _ _ _ _ hx hrest =>
              obtain ⟨a1, hrest⟩ := takeOpt_some hrest e1
              obtain ⟨a2, hrest⟩ := takeOpt_some hrest e2
              obtain ⟨a3, _⟩ := takeOpt_some hrest e3
              exact ofO_val hr h rfl fun z hz => slice_sim hz hx a1 a2 a3 w
          · exact (fail_ok h).elim
        · exact (fail_ok h).elim
      · exact (fail_ok h).elim
    · exact (fail_ok h).elim
  -- fieldAddr
  · rename_i t x0 f
    split at h
    · exact ofO_val hr h rfl fun z hz => fieldAddr_sim hz (vrs1 (v := ρ x0) hvs rfl) w
    · exact (fail_ok h).elim
  -- field
  · rename_i t x0 f
    split at h
    · exact ofO_val hr h rfl fun z hz => field_sim hz (vrs1 (v := ρ x0) hvs rfl) w
    · exact (fail_ok h).elim
  -- indexAddr
  · rename_i t x0 i0
    split at h
    · obtain ⟨h1, h2⟩ := vrs2 (u := ρ x0) (v := ρ i0) hvs
      exact ofO_val hr h rfl fun z hz => indexAddr_sim hz h1 h2 w
    · exact (fail_ok h).elim
  -- index
  · rename_i t x0 i0
    split at h
    · obtain ⟨h1, h2⟩ := vrs2 (u := ρ x0) (v := ρ i0) hvs
      exact ofO_val hr h rfl fun z hz => index_sim hz h1 h2 w
    · exact (fail_ok h).elim
  -- lookup
  · rename_i t m0 k0 ok
    split at h
    · obtain ⟨h1, h2⟩ := vrs2 (u := ρ m0) (v := ρ k0) hvs
      obtain ⟨v, g1, g2, g3, g4⟩ := lookup_sim (P := P) hr h h1 h2
      rw [exec_val rfl g1]
      exact nextOk_value (Ext.refl m w) (by rw [g3]; exact hr) g2
    · exact (fail_ok h).elim
  -- mapUpdate
  · rename_i t m0 k0 x0
    split at h
    · rename_i r k x
      split at h
      · rename_i kt e hme
        cases hko : keyOf (P.underlying kt) k with
        | false => simp only [hko, cond_false] at h; exact (fail_ok h).elim
        | true =>
          simp only [hko, cond_true] at h
          obtain ⟨_, s1, h1, h2⟩ := bind_ok h
          obtain ⟨rfl, rfl⟩ := pure_ok h2
          obtain ⟨k1, k2, k3⟩ := vrs3 (u := ρ m0) (v := ρ k0) (x := ρ x0) hvs
          obtain ⟨w', g1, g2, g3⟩ := mapUpdate_sim (P := P) hr hme hko h1 k1 k2 k3
          rw [exec_unit rfl g1]
          exact nextOk_skip g2 g3
      · exact (fail_ok h).elim
    · exact (fail_ok h).elim
  -- typeAssert
  · rename_i x0 t asserted ok
    split at h
    · exact ofO_val hr h rfl fun z hz => assert_sim hz (vrs1 (v := ρ x0) hvs rfl) w
    · exact (fail_ok h).elim
  -- extract
  · rename_i x0 ix
    split at h
    · exact ofO_val hr h rfl fun z hz => extract_sim hz (vrs1 (v := ρ x0) hvs rfl) w
    · exact (fail_ok h).elim
  -- range
  · rename_i t x0
    split at h
    · obtain ⟨v, w', m', g1, g2, g3, g4⟩ := range_sim (P := P) hr h hf (vrs1 (v := ρ x0) hvs rfl)
      rw [exec_val rfl g1]
      exact nextOk_value g2 g3 g4
    · exact (fail_ok h).elim
  -- next
  · rename_i x0 isString
    split at h
    · obtain ⟨v, w', g1, g2, g3, g4⟩ := next_sim (P := P) hr h (vrs1 (v := ρ x0) hvs rfl) ty
      rw [exec_val rfl g1]
      exact nextOk_value g2 g3 g4
    · exact (fail_ok h).elim
  -- entry
  · rename_i x0
    split at h
    · obtain ⟨v, g1, g2, g3⟩ := entry_sim (P := P) hr h (vrs1 (v := ρ x0) hvs rfl)
      rw [exec_val rfl g1]
      exact nextOk_value (Ext.refl m w) g2 g3
    · exact (fail_ok h).elim
  -- call
  · rename_i c
    obtain ⟨callee, args, argTypes⟩ := c
    unfold callA at h
    simp only at h
    cases callee with
    | value f0 =>
      simp only at h
      split at h
      · rename_i f args'
        have hv : VRs m (f :: args') (ρ f0 :: args.toList.map ρ) := by simpa [Op.operands, Call.operands] using hvs
        cases hv with
        | cons _ _ _ _ h1 h2 =>
          have := callVal_sim (P := P) hext hev hr h hf h1 h2 ro
          have he : (execOp ρ ⟨dst, .call ⟨.value f0, args, argTypes⟩, ty, pos, after, guard⟩) = (do let d ← Deferred.ofValue (ρ f0) (args.toList.map ρ).toArray; invoke d.target d.args) := by
            simp only [execOp, resolve, map_toList_toArray]
          rw [he]
          exact this
      · exact (fail_ok h).elim
    | invoke r0 name =>
      simp only at h
      split at h
      · rename_i r args'
        have hv : VRs m (r :: args') (ρ r0 :: args.toList.map ρ) := by simpa [Op.operands, Call.operands] using hvs
        cases hv with
        | cons _ _ _ _ h1 h2 =>
          have := invoke_sim (P := P) hext hev hr h hf h1 h2 ro
          have he : (execOp ρ ⟨dst, .call ⟨.invoke r0 name, args, argTypes⟩, ty, pos, after, guard⟩).run P w = (callMethod (ρ r0) name (args.toList.map ρ).toArray).run P w := by
            simp only [execOp, resolve, pure_bind, invoke, map_toList_toArray]
            have e0 : (#[ρ r0] ++ (args.toList.map ρ).toArray)[0]? = some (ρ r0) := by simp
            simp only [e0]
            congr 2
            simp
            exact List.take_of_length_le (by rw [List.length_map, Array.length_toList]; exact Nat.le_refl _)
          rw [he]
          exact this
      · exact (fail_ok h).elim
    | builtin b =>
      simp only at h
      have hv : VRs m vs (args.toList.map ρ) := by simpa [Op.operands, Call.operands] using hvs
      have he : (execOp ρ ⟨dst, .call ⟨.builtin b, args, argTypes⟩, ty, pos, after, guard⟩) = builtin b argTypes ty (args.map fun | .const _ => true | _ => false) (args.toList.map ρ).toArray := by
        simp only [execOp, resolve, pure_bind, invoke]
        rw [map_toList_toArray ρ args]
        rfl
      rw [he]
      generalize hcl : args.toList.map ρ = cl at hv
      unfold builtinA at h
      split at h
      · -- len
        rename_i v
        split at h
        · rename_i t hat
          cases hv with
          | cons _ cv _ _ h1 h2 =>
            cases h2
            obtain ⟨r, g1, g2, g3, g4⟩ := len_sim (P := P) hr h h1 hat ty
            have : (builtin .len argTypes ty (args.map fun | .const _ => true | _ => false) [cv].toArray).run P w = .ok (.value r) w := by
              simp only [builtin, Sem.run_bind]
              rw [show [cv].toArray = #[cv] from rfl, g1]; rfl
            rw [this]
            exact nextOk_value (Ext.refl m w) (by rw [g3]; exact hr) g2
        · exact (fail_ok h).elim
      · -- append
        rename_i s0 x0
        split at h
        · rename_i t t' hat
          split at h
          · rename_i d hd
            have hat' : argTypes = #[t, t'] := by
              apply Array.ext'; simpa using hat
            subst hat'
            cases hv with
            | cons _ cv _ _ h1 h2 =>
              cases h2 with
              | cons _ cv2 _ _ h3 h4 =>
                cases h4
                obtain ⟨r, w', m', g1, g2, g3, g4⟩ := append_sim (P := P) hr hd h hf h1 h3 ty
                have : (builtin .append #[t, t'] ty (args.map fun | .const _ => true | _ => false) [cv, cv2].toArray).run P w = .ok (.value r) w' := by
                  simp only [builtin, Sem.run_bind]
                  rw [show [cv, cv2].toArray = #[cv, cv2] from rfl, g1]; rfl
                rw [this]
                exact nextOk_value g2 g3 g4
          · exact (fail_ok h).elim
        · exact (fail_ok h).elim
      · -- min
        split at h
        · rename_i k a k' b' hk
          subst hk
          obtain ⟨rfl, rfl⟩ := pure_ok h
          cases hv with
          | cons _ cv _ _ h1 h2 =>
            cases h1
            cases h2 with
            | cons _ cv2 _ _ h3 h4 =>
              cases h4; cases h3
              exact nextOk_value (Ext.refl m w) hr (.int _ _)
        · exact (fail_ok h).elim
      · -- delete
        rename_i r k
        split at h
        · rename_i t hat
          split at h
          · rename_i kt e hme
            cases hko : keyOf (P.underlying kt) k with
            | false => simp only [hko, cond_false] at h; exact (fail_ok h).elim
            | true =>
              simp only [hko, cond_true] at h
              obtain ⟨_, s1, h1, h2⟩ := bind_ok h
              obtain ⟨rfl, rfl⟩ := pure_ok h2
              cases hv with
              | cons _ cv _ _ h3 h4 =>
                cases h4 with
                | cons _ cv2 _ _ h5 h6 =>
                  cases h6
                  obtain ⟨w', g1, g2, g3⟩ := delete_sim (P := P) hr hme hko h1 h3 h5 hat ty
                  have : (builtin .delete argTypes ty (args.map fun | .const _ => true | _ => false) [cv, cv2].toArray).run P w = .ok (.value (.tuple #[])) w' := by
                    simp only [builtin, Sem.run_bind]
                    rw [show [cv, cv2].toArray = #[cv, cv2] from rfl, g1]; rfl
                  rw [this]
                  exact nextOk_value g2 g3 (.tuple [] [] .nil)
          · exact (fail_ok h).elim
        · exact (fail_ok h).elim
      · exact (fail_ok h).elim
  · exact (fail_ok h).elim

end
end Go.Ab
