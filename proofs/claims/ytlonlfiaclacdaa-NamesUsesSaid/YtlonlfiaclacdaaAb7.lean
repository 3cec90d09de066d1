/-
  SLICES, OPERATORS, MAPS (own work).
-/
import Derived.Test.YtlonlfiaclacdaaAb6
namespace Go.Ab

section
variable {P : Program} {m : Inj} {w : World}

theorem and_true {a b : Bool} (h : (a && b) = true) : a = true ∧ b = true := Bool.and_eq_true_iff.1 h

theorem slice_sim {t : TypeId} {x y : AV} {low high max : Option Nat} (h : sliceA P t x low high max = some y) {v : Value} {lo hi mx : Option Value} (hx : VR m x v)
    (h1 : ORelNat low lo) (h2 : ORelNat high hi) (h3 : ORelNat max mx) (w : World) :
    ∃ v', (Instr.sliceAt t v lo hi mx).run P w = .ok v' w ∧ VR m y v' := by
  unfold sliceA at h
  split at h
  · -- a string
    rename_i hu
    split at h
    · rename_i len code
      split at h
      · cases h
      · simp only at h
        cases hb : Nat.ble (high.getD len) len && Nat.ble (low.getD 0) (high.getD len) with
        | false => simp [hb] at h
        | true =>
          simp only [hb, cond_true, Option.some.injEq] at h
          subst h
          obtain ⟨hb1, hb2⟩ := and_true hb
          cases hx with
          | str s _ _ e1 e2 =>
            cases mx <;> simp only [ORelNat] at h3
            have hB := bounds_sim (P := P) (isSlice := false) (len := len) (cap := len) h1 h2 (max := none) (mx := none) trivial (by simp) (.inl (by simpa using ble_le hb1)) (ble_le hb2) (.inl rfl) w
            refine ⟨.string (s.extract (low.getD 0) (high.getD len)), ?_, ?_⟩
            · simp only [Instr.sliceAt, Sem.run_bind, run_underlying hu, Result.andThen_ok, Instr.slice, e1]
              simp
              rw [hB]; rfl
            · refine .str _ _ _ (size_extract _ _ _ (ble_le hb2) (by rw [e1]; exact ble_le hb1)) ?_
              rw [data_extract', ← encB_take, ← encB_drop, e2, Nat.one_shiftLeft]
    · cases h
  · -- a slice
    rename_i e hu
    split at h
    · rename_i b ver o len cap
      split at h
      · rename_i size hs
        cases hx with
        | slice _ _ _ _ _ B t' e' c hm g1 g2 g3 =>
          have fin : ∀ (mN : Nat), max.getD c = mN → mN ≤ c → high.getD len ≤ mN → low.getD 0 ≤ high.getD len → (max = none ∨ high ≠ none) →
              (Instr.sliceAt t (.slice (some ⟨B, o, none⟩) len c) lo hi mx).run P w =
                .ok (.slice (some (if mN = low.getD 0 then ⟨B, o, none⟩ else ⟨B, o + low.getD 0 * size, none⟩)) (high.getD len - low.getD 0) (mN - low.getD 0)) w := by
            intro mN hmN c1 c2 c3 c4
            subst hmN
            have hB := bounds_sim (P := P) (isSlice := true) (len := len) (cap := c) h1 h2 h3 c1 (.inl c2) c3 c4 w
            simp only [Instr.sliceAt, Sem.run_bind, run_underlying hu, Result.andThen_ok, Instr.slice, hB, run_sizeOf' hs, Sem.run_pure]
            by_cases hh : max.getD c = low.getD 0
            · simp only [if_pos hh]
            · simp only [if_neg hh, Option.map_some, Addr.add_lit]
          split at h
          · -- no known capacity, no third index
            simp only at h
            cases hb : Nat.ble (high.getD len) len && Nat.ble (low.getD 0) (high.getD len) && (Nat.beq (low.getD 0) 0 || Nat.blt (low.getD 0) len) with
            | false => simp [hb] at h
            | true =>
              simp only [hb, cond_true, Option.some.injEq] at h
              subst h
              obtain ⟨hb12, hb3⟩ := and_true hb
              obtain ⟨hb1, hb2⟩ := and_true hb12
              have b1 := ble_le hb1
              have b2 := ble_le hb2
              have b3 : low.getD 0 = 0 ∨ low.getD 0 < len := by
                rcases Bool.or_eq_true_iff.1 hb3 with h | h
                · exact .inl (Nat.eq_of_beq_eq_true h)
                · exact .inr (blt_lt h)
              refine ⟨_, fin c (by simp) (Nat.le_refl _) (by omega) b2 (.inl rfl), ?_⟩
              by_cases hh : c = low.getD 0
              · rw [if_pos hh]
                have h0 : low.getD 0 = 0 := by omega
                simp only [h0, Nat.zero_mul, Nat.add_zero, Nat.sub_zero]
                exact .slice _ _ _ _ _ _ _ _ _ hm (by omega) (fun c' hc => by cases hc) (fun _ => g3 rfl)
              · rw [if_neg hh]
                refine .slice _ _ _ _ _ _ _ _ _ hm (by omega) (fun c' hc => by cases hc) (fun _ ho => ?_)
                have : o = 0 := by omega
                have := g3 rfl this
                exact Nat.le_trans (Nat.mul_le_mul_right _ (Nat.sub_le _ _)) this
          · -- otherwise
            rename_i hne
            simp only at h
            cases hb : Nat.ble (max.getD (cap.getD len)) (cap.getD len) && Nat.ble (high.getD len) (max.getD (cap.getD len)) && Nat.ble (low.getD 0) (high.getD len) && (max.isNone || high.isSome) with
            | false => simp [hb] at h
            | true =>
              simp only [hb, cond_true, Option.some.injEq] at h
              subst h
              obtain ⟨hb123, hb4⟩ := and_true hb
              obtain ⟨hb12, hb3⟩ := and_true hb123
              obtain ⟨hb1, hb2⟩ := and_true hb12
              have b1 := ble_le hb1
              have b2 := ble_le hb2
              have b3 := ble_le hb3
              have b4 : max = none ∨ high ≠ none := by
                rcases Bool.or_eq_true_iff.1 hb4 with h | h
                · exact .inl (by simpa using h)
                · exact .inr (by intro e; rw [e] at h; cases h)
              -- the third bound is the same, whether the capacity is known or not
              have hmax : max.getD c = max.getD (cap.getD len) ∧ cap.getD len ≤ c := by
                cases cap with
                | some c0 => have := g2 c0 rfl; subst this; exact ⟨rfl, Nat.le_refl _⟩
                | none =>
                  cases max with
                  | none => exact absurd rfl (hne rfl)
                  | some M => exact ⟨rfl, g1⟩
              refine ⟨_, fin (max.getD (cap.getD len)) hmax.1 (by omega) b2 b3 b4, ?_⟩
              by_cases hh : max.getD (cap.getD len) = low.getD 0
              · rw [if_pos hh, hh, beq_self]
                simp only [cond_true]
                exact .slice _ _ _ _ _ _ _ _ _ hm (by omega) (fun c' hc => by cases hc; rfl) (fun hc => by cases hc)
              · rw [if_neg hh, beq_ne hh]
                simp only [cond_false]
                exact .slice _ _ _ _ _ _ _ _ _ hm (by omega) (fun c' hc => by cases hc; rfl) (fun hc => by cases hc)
      · cases h
    · split at h
      · rename_i n hs
        cases hb : Nat.beq (max.getD 0) 0 && Nat.beq (high.getD 0) 0 && Nat.beq (low.getD 0) 0 && (max.isNone || high.isSome) with
        | false => simp [hb] at h
        | true =>
          simp only [hb, cond_true, Option.some.injEq] at h
          subst h
          obtain ⟨hb123, hb4⟩ := and_true hb
          obtain ⟨hb12, hb3⟩ := and_true hb123
          obtain ⟨hb1, hb2⟩ := and_true hb12
          have b1 := Nat.eq_of_beq_eq_true hb1
          have b2 := Nat.eq_of_beq_eq_true hb2
          have b3 := Nat.eq_of_beq_eq_true hb3
          have b4 : max = none ∨ high ≠ none := by
            rcases Bool.or_eq_true_iff.1 hb4 with h | h
            · exact .inl (by simpa using h)
            · exact .inr (by intro e; rw [e] at h; cases h)
          cases hx
          have hB := bounds_sim (P := P) (isSlice := true) (len := 0) (cap := 0) h1 h2 h3 (by omega) (.inl (by omega)) (by omega) b4 w
          refine ⟨.slice none 0 0, ?_, .nilslice⟩
          simp only [Instr.sliceAt, Sem.run_bind, run_underlying hu, Result.andThen_ok, Instr.slice, hB, run_sizeOf' hs, Sem.run_pure, b1, b2, b3]
          simp
      · cases h
    · cases h
  · -- an array behind a pointer
    rename_i n e hu
    split at h
    · rename_i b ver o
      split at h
      · rename_i size hs
        simp only at h
        cases hb : Nat.ble (max.getD n) n && Nat.ble (high.getD n) (max.getD n) && Nat.ble (low.getD 0) (high.getD n) && (max.isNone || high.isSome) with
        | false => simp [hb] at h
        | true =>
          simp only [hb, cond_true, Option.some.injEq] at h
          subst h
          obtain ⟨hb123, hb4⟩ := and_true hb
          obtain ⟨hb12, hb3⟩ := and_true hb123
          obtain ⟨hb1, hb2⟩ := and_true hb12
          have b1 := ble_le hb1
          have b2 := ble_le hb2
          have b3 := ble_le hb3
          have b4 : max = none ∨ high ≠ none := by
            rcases Bool.or_eq_true_iff.1 hb4 with h | h
            · exact .inl (by simpa using h)
            · exact .inr (by intro e; rw [e] at h; cases h)
          cases hx with
          | ptr _ _ _ B t' e' hm =>
            have hB := bounds_sim (P := P) (isSlice := false) (len := n) (cap := n) h1 h2 h3 b1 (.inl b2) b3 b4 w
            by_cases hh : max.getD n = low.getD 0
            · rw [hh, beq_self]
              simp only [cond_true]
              refine ⟨.slice (some ⟨B, o, none⟩) (high.getD n - low.getD 0) (low.getD 0 - low.getD 0), ?_, ?_⟩
              · simp only [Instr.sliceAt, Sem.run_bind, run_underlying hu, Result.andThen_ok, Instr.sureAddr, hB, run_sizeOf' hs, Sem.run_pure, hh, if_true]
              · exact .slice _ _ _ _ _ _ _ _ _ hm (by omega) (fun c' hc => by cases hc; rfl) (fun hc => by cases hc)
            · rw [beq_ne hh]
              simp only [cond_false]
              refine ⟨.slice (some ⟨B, o + low.getD 0 * size, none⟩) (high.getD n - low.getD 0) (max.getD n - low.getD 0), ?_, ?_⟩
              · simp only [Instr.sliceAt, Sem.run_bind, run_underlying hu, Result.andThen_ok, Instr.sureAddr, hB, run_sizeOf' hs, Sem.run_pure, if_neg hh, Addr.add_lit]
              · exact .slice _ _ _ _ _ _ _ _ _ hm (by omega) (fun c' hc => by cases hc; rfl) (fun hc => by cases hc)
      · cases h
    · cases h
  · cases h

/-! ### Operators -/

theorem eqS_sim {t : TypeId} {x y : AV} {r : Bool} (h : eqS (P.underlying t) x y = some r) {u v : Value} (hx : VR m x u) (hy : VR m y v) (d : Nat) (w : World) :
    (Op.equalIn (d + 1) t u v).run P w = .ok r w := by
  unfold eqS at h
  split at h
  · rename_i k0 hu
    split at h
    · rename_i k a k' b
      cases hx; cases hy
      split at h
      · rename_i hk; subst hk; simp at h; subst h
        simp [Op.equalIn, run_underlying hu]
      · cases h
    · cases h
  · rename_i hu
    split at h
    · rename_i a b; cases hx; cases hy; simp at h; subst h; simp [Op.equalIn, run_underlying hu]
    · cases h
  · rename_i hu
    split at h
    · rename_i n a k b
      cases hx with
      | str s _ _ e1 e2 =>
        cases hy with
        | str s' _ _ e3 e4 =>
          simp only [Option.some.injEq] at h; subst h
          rw [run_equalIn_string w d t s s' hu, str_eq e1 e2 e3 e4]
    · cases h
  · rename_i e hu
    split at h
    · cases hx; cases hy; simp at h; subst h; simp [Op.equalIn, run_underlying hu]
    · cases hx; cases hy; simp at h; subst h; simp [Op.equalIn, run_underlying hu]
    · cases hx; cases hy; simp at h; subst h; simp [Op.equalIn, run_underlying hu]
    · cases h
  · rename_i e hu
    split at h
    · cases hx; cases hy; simp at h; subst h; simp [Op.equalIn, run_underlying hu]
    · cases hx; cases hy; simp at h; subst h; simp [Op.equalIn, run_underlying hu]
    · cases hx; cases hy; simp at h; subst h; simp [Op.equalIn, run_underlying hu]
    · cases h
  · rename_i k e hu
    split at h
    · cases hx; cases hy; simp at h; subst h; simp [Op.equalIn, run_underlying hu]
    · cases hx; cases hy; simp at h; subst h; simp [Op.equalIn, run_underlying hu]
    · cases hx; cases hy; simp at h; subst h; simp [Op.equalIn, run_underlying hu]
    · cases h
  · rename_i p q e hu
    split at h
    · cases hx <;> cases hy <;> simp at h <;> subst h <;> simp [Op.equalIn, run_underlying hu]
    · cases hx; cases hy <;> simp at h <;> subst h <;> simp [Op.equalIn, run_underlying hu]
    · cases hx; cases hy; simp at h; subst h; simp [Op.equalIn, run_underlying hu]
    · cases h
  · rename_i ms hu
    split at h
    · cases hx; cases hy; simp at h; subst h; simp [Op.equalIn, run_underlying hu]
    · cases hx; cases hy; simp at h; subst h; simp [Op.equalIn, run_underlying hu]
    · cases h
  · cases h

theorem eqFields_sim {xs ys : List AV} {us vs : Array Value} (hx : VRs m xs us.toList) (hy : VRs m ys vs.toList) (d : Nat) (w : World) :
    ∀ {fs : List Field} {r : Bool}, eqFields P xs ys fs = some r → (Op.eqFields (d + 1) us vs fs).run P w = .ok r w
  | [], r, h => by simp [eqFields] at h; subst h; rfl
  | f :: fs, r, h => by
    simp only [eqFields] at h
    by_cases hn : f.name = "_"
    · rw [if_pos hn] at h; cases h
    · rw [if_neg hn] at h
      split at h
      · rename_i hag
        split at h
        · rename_i x hxf
          split at h
          · rename_i y hyf
            obtain ⟨u, hu, hur⟩ := hx.get hxf
            obtain ⟨v, hv, hvr⟩ := hy.get hyf
            have p1 : (part f.type us f.offset).run P w = .ok u w := by simp [part, run_isAgg' hag]; rw [show us[f.offset]? = some u by simpa using hu]; rfl
            have p2 : (part f.type vs f.offset).run P w = .ok v w := by simp [part, run_isAgg' hag]; rw [show vs[f.offset]? = some v by simpa using hv]; rfl
            split at h
            · rename_i he
              have := eqS_sim he hur hvr d w
              simp only [Op.eqFields, Sem.run_bind, p1, p2, Result.andThen_ok, this, ne_eq, hn, not_false_eq_true, if_true]
              simpa using eqFields_sim hx hy d w h
            · rename_i he
              simp at h; subst h
              have := eqS_sim he hur hvr d w
              simp only [Op.eqFields, Sem.run_bind, p1, p2, Result.andThen_ok, this, ne_eq, hn, not_false_eq_true, if_true]
              simp
            · cases h
          · cases h
        · cases h
      · cases h

theorem eqA_sim {t : TypeId} {x y : AV} {r : Bool} (h : eqA P t x y = some r) {u v : Value} (hx : VR m x u) (hy : VR m y v) (w : World) :
    (Op.equal t u v).run P w = .ok r w ∧ ∀ op a b, (eqGuard op t a b u v).run P w = .ok () w := by
  unfold eqA at h
  split at h
  · rename_i fs hu
    split at h
    · rename_i xs ys
      cases hc : P.stoodInHeld t || P.eqGuardType P.depth t with
      | true => simp [hc] at h
      | false =>
        simp only [hc, cond_false] at h
        obtain ⟨c1, c2⟩ := Bool.or_eq_false_iff.1 hc
        cases hx with
        | agg _ us hxs =>
          cases hy with
          | agg _ vs hys =>
            have hfs : P.fieldsOf t = fs := by simp [Program.fieldsOf, hu]
            refine ⟨?_, fun op a b => run_eqGuard_agg w op t a b _ _ c2⟩
            simp only [Op.equal, Op.maxDepth]
            rw [run_equalIn_struct w 9999 t us.toArray vs.toArray (by rw [hfs]; exact hu) c1, hfs]
            exact eqFields_sim (by simpa using hxs) (by simpa using hys) 9998 w h
    · cases h
  · refine ⟨by simp only [Op.equal, Op.maxDepth]; exact eqS_sim h hx hy 9999 w, ?_⟩
    intro op a b
    have hng : ∀ u v, (u ≠ .nilIface ∨ v ≠ .nilIface) → ((∀ c, u ≠ .agg c) ∨ (∀ c, v ≠ .agg c)) → (eqGuard op t a b u v).run P w = .ok () w := by
      intro u v h1 h2
      cases op <;> simp only [eqGuard] <;> first | rfl | skip
      all_goals
        cases u <;> cases v <;> first | rfl | (simp at h1; done) | (simp at h2; done)
    refine hng u v ?_ ?_
    · unfold eqS at h
      split at h <;> (try (split at h)) <;> first | (cases h; done) | skip
      all_goals (cases hx <;> cases hy <;> simp)
    · unfold eqS at h
      split at h <;> (try (split at h)) <;> first | (cases h; done) | skip
      all_goals (cases hx <;> cases hy <;> simp)

end
end Go.Ab
