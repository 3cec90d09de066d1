/- Part of the proof of ClocksDeep (own work). -/
import Derived.Test.YtlonlfiaclacdaaGreatB2
set_option linter.all false
set_option maxRecDepth 100000
namespace Go.Vi
def Free (st : St) : Prop := ∀ b, st.next ≤ b → st.heap b = none
structure Grows (st st' : St) : Prop where
  next : st.next ≤ st'.next
  none : ∀ b, b < st.next → st.heap b = none → st'.heap b = none
theorem Grows.refl (st : St) : Grows st st := ⟨Nat.le_refl _, fun _ _ h => h⟩
theorem Grows.trans {a b c : St} (h : Grows a b) (k : Grows b c) : Grows a c := ⟨Nat.le_trans h.next k.next, fun x hx hn => k.none x (Nat.lt_of_lt_of_le hx h.next) (h.none x hx hn)⟩
structure Env where
  holds : J → Prop
  ext : ∀ {m m' : J} {w w' : World}, holds m → Ext m w m' w' → holds m'
def EnvIn (E : Env) (m : J) : Prop := E.holds m
theorem EnvIn.le {E : Env} {m m' : J} {w w' : World} (h : EnvIn E m) (k : Ext m w m' w') : EnvIn E m' := E.ext h k
def Env.top : Env := ⟨fun _ => True, fun _ _ => trivial⟩
def SCr (E : Env) (P : Program) (f : FuncId) (args : List PV) (st : St) (r : PV) (st' : St) : Prop :=
  ∀ (m : J) (w : World) (cargs : List Value), EnvIn E m → Rel m st.heap w → VRs m args cargs →
    CallsIn Fence.wide 0 P f cargs.toArray w fun e w' => ∃ m' v, e = .returned v ∧ Ext m w m' w' ∧ Rel m' st'.heap w' ∧ VR m' r v
structure SC (E : Env) (P : Program) (f : FuncId) (args : List PV) (st : St) (r : PV) (st' : St) : Prop where
  grows : Grows st st'
  free : Free st'
  runs : SCr E P f args st r st'
mutual
def refsIn (S : Nat → Bool) : PV → Bool
  | .ptr b _ => S b
  | .bsl b _ => S b
  | .map b => S b
  | .acc b _ => S b
  | .agg l => refsInL S l
  | .tuple l => refsInL S l
  | .fn _ l => refsInL S l
  | .bfn _ l => refsInL S l
  | .iface _ v => refsIn S v
  | _ => true
def refsInL (S : Nat → Bool) : List PV → Bool
  | [] => true
  | a :: l => refsIn S a && refsInL S l
end
def jR (S : Nat → Bool) (m : J) : J := { m with box := fun b => if S b = true then m.box b else none, own := fun b => if S b = true then m.own b else none }
section
variable {S : Nat → Bool} {m : J} {h : Nat → Option Obj} {w : World}
mutual
theorem VR.restrict {a : PV} {v : Value} : VR m a v → refsIn S a = true → VR (jR S m) a v
  | .gone v, _ => .gone v
  | .data a v hd, _ => .data a v hd
  | .nil, _ => .nil
  | .acc0 b, _ => .acc0 b
  | .acc b rows B0 c B n e t ho h0 hn ht hd, hs => .acc b rows B0 c B n e t (by
      have : S b = true := by simpa [refsIn] using hs
      simp only [jR, this, if_true]; exact ho) h0 hn ht hd
  | .bsl b n B c hb hc hz, hs => .bsl b n B c (by
      have : S b = true := by simpa [refsIn] using hs
      simp only [jR, this, if_true]; exact hb) hc hz
  | .ptr b o B hb, hs => .ptr b o B (by
      have : S b = true := by simpa [refsIn] using hs
      simp only [jR, this, if_true]; exact hb)
  | .eptr row o B base ks hk hl hd, _ => .eptr row o B base ks hk hl hd
  | .agg l l' hl, hs => .agg l l' (VRs.restrict hl (by simpa [refsIn] using hs))
  | .tuple l l' hl, hs => .tuple l l' (VRs.restrict hl (by simpa [refsIn] using hs))
  | .nptr, _ => .nptr
  | .map b B hb, hs => .map b B (by
      have : S b = true := by simpa [refsIn] using hs
      simp only [jR, this, if_true]; exact hb)
  | .nmap, _ => .nmap
  | .fn f l l' hl, hs => .fn f l l' (VRs.restrict hl (by simpa [refsIn] using hs))
  | .bfn f l l' hl, hs => .bfn f l l' (VRs.restrict hl (by simpa [refsIn] using hs))
  | .cap rows a hd, _ => .cap rows a hd
  | .nfn, _ => .nfn
  | .yield L, _ => .yield L
  | .iface t a v hv, hs => .iface t a v (VR.restrict hv (by simpa [refsIn] using hs))
  | .niface, _ => .niface
theorem VRs.restrict {l : List PV} {l' : List Value} : VRs m l l' → refsInL S l = true → VRs (jR S m) l l'
  | .nil, _ => .nil
  | .cons a v l l' h1 h2, hs => .cons a v l l' (VR.restrict h1 (by simp only [refsInL, Bool.and_eq_true] at hs; exact hs.1)) (VRs.restrict h2 (by simp only [refsInL, Bool.and_eq_true] at hs; exact hs.2))
end
def Obj.refsIn (S : Nat → Bool) : Obj → Bool
  | .box cs => refsInL S cs
  | .arr _ cs => refsInL S cs
  | _ => true
def resH (S : Nat → Bool) (h : Nat → Option Obj) : Nat → Option Obj := fun b => if S b = true then h b else none
theorem jR_box {b B : Nat} (hb : (jR S m).box b = some B) : S b = true ∧ m.box b = some B := by
  simp only [jR] at hb
  split at hb
  · rename_i hs; exact ⟨hs, hb⟩
  · cases hb
theorem jR_own {b : Nat} {x : Nat × Nat × Nat × Nat} (hb : (jR S m).own b = some x) : S b = true ∧ m.own b = some x := by
  simp only [jR] at hb
  split at hb
  · rename_i hs; exact ⟨hs, hb⟩
  · cases hb
theorem resH_some {b : Nat} {o : Obj} (hb : resH S h b = some o) : S b = true ∧ h b = some o := by
  simp only [resH] at hb
  split at hb
  · rename_i hs; exact ⟨hs, hb⟩
  · cases hb
theorem Rel.restrict (hr : Rel m h w) (hc : ∀ b o, S b = true → h b = some o → o.refsIn S = true) : Rel (jR S m) (resH S h) w := by
  refine ⟨fun b o hb => ?_, hr.env, fun b n e hb => ?_, hr.fro, fun b B hb => ?_, fun b x hb => ?_, fun b b' B hb hb' d d' => ?_, fun b b' B n e t n' e' t' hb hb' => ?_, fun b B hb d => ?_, fun b B hb => hr.blt b B (jR_box hb).2⟩
  · obtain ⟨hs, ho⟩ := resH_some hb
    have hrf := hc b o hs ho
    have := hr.obj b o ho
    cases o with
    | box cs =>
      obtain ⟨B, vs, ty, h1, h2, h3⟩ := this
      exact ⟨B, vs, ty, by simp only [jR, hs, if_true]; exact h1, h2, h3.restrict hrf⟩
    | arr e cs =>
      obtain ⟨B, vs, ty, h1, h0, h2, h3⟩ := this
      exact ⟨B, vs, ty, by simp only [jR, hs, if_true]; exact h1, h0, h2, h3.restrict hrf⟩
    | map l =>
      obtain ⟨B, es, c, h1, h2, h3⟩ := this
      exact ⟨B, es, c, by simp only [jR, hs, if_true]; exact h1, h2, h3⟩
    | maps l =>
      obtain ⟨B, es, c, h1, h2, h3⟩ := this
      exact ⟨B, es, c, by simp only [jR, hs, if_true]; exact h1, h2, h3⟩
    | own _ _ => trivial
    | dead => trivial
  · obtain ⟨hs, ho⟩ := resH_some hb
    rcases hr.own b n e ho with ⟨h1, h2⟩ | ⟨h0, B, t, h1, h2⟩
    · exact .inl ⟨h1, by simp only [jR, hs, if_true]; exact h2⟩
    · exact .inr ⟨h0, B, t, by simp only [jR, hs, if_true]; exact h1, h2⟩
  · obtain ⟨hs, hb⟩ := jR_box hb
    obtain ⟨o, h1, h2⟩ := hr.bdom b B hb
    exact ⟨o, by simp only [resH, hs, if_true]; exact h1, h2⟩
  · obtain ⟨hs, hb⟩ := jR_own hb
    obtain ⟨n, e, h1⟩ := hr.odom b x hb
    exact ⟨n, e, by simp only [resH, hs, if_true]; exact h1⟩
  · obtain ⟨hs, hb⟩ := jR_box hb
    obtain ⟨hs', hb'⟩ := jR_box hb'
    simp only [resH, hs, hs', if_true] at d d'
    exact hr.bapart b b' B hb hb' d d'
  · exact hr.oapart b b' B n e t n' e' t' (jR_own hb).2 (jR_own hb').2
  · obtain ⟨hs, hb⟩ := jR_box hb
    simp only [resH, hs, if_true] at d
    exact hr.bK b B hb d
theorem frame (hr : Rel m h w) {T : Nat → Bool} (hST : ∀ b, S b = true → T b = true) (hlive : ∀ b, S b = true → ∃ o, h b = some o ∧ o.isDead = false) (hTn : ∀ b, T b = true → S b = false → h b = none)
    {m1 : J} {w' : World} {h1 : Nat → Option Obj} (he : Ext (jR S m) w m1 w') (hr1 : Rel m1 h1 w') (hT : ∀ b, T b = false → h1 b = none) :
    ∃ m2, Ext m w m2 w' ∧ Rel m2 (fun b => if T b = true then h1 b else h b) w' ∧ m1.le m2 := by
  have hdead : ∀ b, S b = true → h b ≠ some .dead := fun b hb => by
    obtain ⟨o, h2, h3⟩ := hlive b hb
    rw [h2]; exact not_dead h3
  have hb1 : ∀ b, T b = false → m1.box b = none := fun b hb => hr1.free_box (hT b hb)
  have ho1 : ∀ b, T b = false → m1.own b = none := fun b hb => hr1.free_own (hT b hb)
  let m2 : J := { m1 with box := fun b => if T b = true then m1.box b else m.box b, own := fun b => if T b = true then m1.own b else m.own b, siz := fun b => if T b = true then m1.siz b else m.siz b }
  have cb : ∀ b B, m2.box b = some B → (T b = true ∧ m1.box b = some B) ∨ (T b = false ∧ m.box b = some B) := by
    intro b B hb
    have hb : (if T b = true then m1.box b else m.box b) = some B := hb
    by_cases c : T b = true
    · rw [if_pos c] at hb; exact .inl ⟨c, hb⟩
    · rw [if_neg c] at hb; exact .inr ⟨by simpa using c, hb⟩
  have co : ∀ b x, m2.own b = some x → (T b = true ∧ m1.own b = some x) ∨ (T b = false ∧ m.own b = some x) := by
    intro b B hb
    have hb : (if T b = true then m1.own b else m.own b) = some B := hb
    by_cases c : T b = true
    · rw [if_pos c] at hb; exact .inl ⟨c, hb⟩
    · rw [if_neg c] at hb; exact .inr ⟨by simpa using c, hb⟩
  have l1 : m1.le m2 := by
    refine ⟨fun b B hb => ?_, Kle.refl _, fun b B n e t hb => ⟨B, n, t, ?_, Nat.le_refl _, fun _ => ⟨rfl, rfl⟩⟩, fun b B hb => ?_⟩
    · by_cases c : T b = true
      · show (if _ then _ else _) = _; rw [if_pos c]; exact hb
      · rw [hb1 b (by simpa using c)] at hb; cases hb
    · by_cases c : T b = true
      · show (if _ then _ else _) = _; rw [if_pos c]; exact hb
      · rw [ho1 b (by simpa using c)] at hb; cases hb
    · by_cases c : T b = true
      · show (if _ then _ else _) = _; rw [if_pos c]
      · rw [hb1 b (by simpa using c)] at hb; cases hb
  have hTS : ∀ b, T b = true → h b ≠ none → S b = true := fun b hb hn => by
    by_cases c : S b = true
    · exact c
    · exact absurd (hTn b hb (by simpa using c)) hn
  have boxS : ∀ b B, m.box b = some B → T b = true → (jR S m).box b = some B := fun b B hb ht => by
    obtain ⟨o, h2, _⟩ := hr.bdom b B hb
    have := hTS b ht (by rw [h2]; simp)
    simp only [jR, this, if_true]; exact hb
  have ownS : ∀ b x, m.own b = some x → T b = true → (jR S m).own b = some x := fun b x hb ht => by
    obtain ⟨n, e, h2⟩ := hr.odom b x hb
    have := hTS b ht (by rw [h2]; simp)
    simp only [jR, this, if_true]; exact hb
  have l2 : m.le m2 := by
    refine ⟨fun b B hb => ?_, he.le.K, fun b B n e t hb => ?_, fun b B hb => ?_⟩
    · show (if _ then _ else _) = _
      by_cases c : T b = true
      · rw [if_pos c]; exact he.le.box b B (boxS b B hb c)
      · rw [if_neg c]; exact hb
    · show ∃ B' n' t', (if T b = true then m1.own b else m.own b) = some (B', n', e, t') ∧ n ≤ n' ∧ (n' = n → B' = B ∧ t' = t)
      by_cases c : T b = true
      · rw [if_pos c]; exact he.le.own b B n e t (ownS b _ hb c)
      · rw [if_neg c]; exact ⟨B, n, t, hb, Nat.le_refl _, fun _ => ⟨rfl, rfl⟩⟩
    · show (if _ then _ else _) = _
      by_cases c : T b = true
      · rw [if_pos c]; exact he.le.siz b B (boxS b B hb c)
      · rw [if_neg c]
  have imgB : ∀ b B, S b = false → m.box b = some B → h b ≠ some .dead → ¬ (jR S m).img B := by
    rintro b B hs hb hd (⟨b0, h0⟩ | ⟨b0, n, e, t, h0⟩)
    · obtain ⟨s0, h0⟩ := jR_box h0
      have := hr.bapart b0 b B h0 hb (hdead b0 s0) hd
      rw [this, hs] at s0; cases s0
    · obtain ⟨_, h0⟩ := jR_own h0
      obtain ⟨n', e', h2⟩ := hr.odom b0 _ h0
      rcases hr.own b0 n' e' h2 with ⟨_, h3⟩ | ⟨_, B2, t2, h3, ks, h4, _⟩
      · rw [h0] at h3; cases h3
      · rw [h0] at h3; cases h3
        rw [hr.bK b _ hb hd] at h4; cases h4
  have imgO : ∀ b B n e t, S b = false → m.own b = some (B, n, e, t) → ¬ (jR S m).img B := by
    rintro b B n e t hs hb (⟨b0, h0⟩ | ⟨b0, n0, e0, t0, h0⟩)
    · obtain ⟨s0, h0⟩ := jR_box h0
      obtain ⟨n', e', h2⟩ := hr.odom b _ hb
      rcases hr.own b n' e' h2 with ⟨_, h3⟩ | ⟨_, B2, t2, h3, ks, h4, _⟩
      · rw [hb] at h3; cases h3
      · rw [hb] at h3; cases h3
        rw [hr.bK b0 _ h0 (hdead b0 s0)] at h4; cases h4
    · obtain ⟨s0, h0⟩ := jR_own h0
      have := hr.oapart b0 b B _ _ _ _ _ _ h0 hb
      rw [this, hs] at s0; cases s0
  have notS : ∀ b, T b = false → S b = false := fun b hb => by
    by_cases c : S b = true
    · rw [hST b c] at hb; cases hb
    · simpa using c
  refine ⟨m2, ⟨l2, he.size, fun b B hb => ?_, fun b B n e t hb => ?_, fun B ks hk => ?_, fun B hB hn => he.same B hB fun hi => hn ?_, he.os, he.output, he.frozen, he.env⟩,
    ⟨fun b o hb => ?_, hr1.env, fun b n e hb => ?_, hr1.fro, fun b B hb => ?_, fun b x hb => ?_, fun b b' B hb hb' d d' => ?_, fun b b' B n e t n' e' t' hb hb' => ?_, fun b B hb d => ?_, fun b B hb => ?_⟩, l1⟩
  · rcases cb b B hb with ⟨_, hb⟩ | ⟨_, hb⟩
    · rcases he.bimg b B hb with ⟨b0, h0⟩ | h0
      · exact .inl ⟨b0, (jR_box h0).2⟩
      · exact .inr h0
    · exact .inl ⟨b, hb⟩
  · rcases co b _ hb with ⟨_, hb⟩ | ⟨_, hb⟩
    · rcases he.oimg b B n e t hb with ⟨b0, n0, e0, t0, h0⟩ | h0
      · exact .inl ⟨b0, n0, e0, t0, (jR_own h0).2⟩
      · exact .inr h0
    · exact .inl ⟨b, n, e, t, hb⟩
  · rcases he.knew B ks hk with ⟨b0, n0, e0, t0, h0⟩ | h0
    · exact .inl ⟨b0, n0, e0, t0, (jR_own h0).2⟩
    · exact .inr h0
  · rcases hi with ⟨b0, h0⟩ | ⟨b0, n0, e0, t0, h0⟩
    · exact .inl ⟨b0, (jR_box h0).2⟩
    · exact .inr ⟨b0, n0, e0, t0, (jR_own h0).2⟩
  · by_cases c : T b = true
    · rw [if_pos c] at hb
      exact (hr1.obj b o hb).keep l1 fun _ _ _ => rfl
    · rw [if_neg c] at hb
      have c : T b = false := by simpa using c
      exact (hr.obj b o hb).keep l2 fun hd B hB => he.same B (hr.blt b B hB) (imgB b B (notS b c) hB (by rw [hb]; exact not_dead hd))
  · by_cases c : T b = true
    · rw [if_pos c] at hb
      rcases hr1.own b n e hb with ⟨h2, h3⟩ | ⟨h0, B, t, h2, h3⟩
      · exact .inl ⟨h2, by show (if _ then _ else _) = _; rw [if_pos c]; exact h3⟩
      · exact .inr ⟨h0, B, t, by show (if _ then _ else _) = _; rw [if_pos c]; exact h2, h3⟩
    · rw [if_neg c] at hb
      have c' : T b = false := by simpa using c
      rcases hr.own b n e hb with ⟨h2, h3⟩ | ⟨h0, B, t, h2, ks, h3, h4, vs, ty, h5, h6⟩
      · exact .inl ⟨h2, by show (if _ then _ else _) = _; rw [if_neg c]; exact h3⟩
      · have hni := imgO b B n e t (notS b c') h2
        obtain ⟨ks', k1, k2⟩ := he.le.K B ks h3
        have : ks' = ks := by
          rcases he.knew B ks' k1 with ⟨b0, n0, e0, t0, g0⟩ | g0 | g0
          · exact absurd (.inr ⟨b0, n0, e0, t0, g0⟩) hni
          · have g0 : m.K B = some ks' := g0
            rw [h3] at g0; cases g0; rfl
          · have := hr.lt_own h2; omega
        subst this
        exact .inr ⟨h0, B, t, by show (if _ then _ else _) = _; rw [if_neg c]; exact h2, _, k1, h4, vs, ty, (he.same B (hr.lt_own h2) hni).trans h5, h6⟩
  · rcases cb b B hb with ⟨c, hb⟩ | ⟨c, hb⟩
    · obtain ⟨o, h2⟩ := hr1.bdom b B hb
      exact ⟨o, by simp only [c, if_true]; exact h2⟩
    · obtain ⟨o, h2⟩ := hr.bdom b B hb
      exact ⟨o, by simp only [c]; exact h2⟩
  · rcases co b x hb with ⟨c, hb⟩ | ⟨c, hb⟩
    · obtain ⟨n, e, h2⟩ := hr1.odom b x hb
      exact ⟨n, e, by simp only [c, if_true]; exact h2⟩
    · obtain ⟨n, e, h2⟩ := hr.odom b x hb
      exact ⟨n, e, by simp only [c]; exact h2⟩
  · have mixed : ∀ b b', T b = true → m1.box b = some B → T b' = false → m.box b' = some B → h b' ≠ some .dead → False := by
      intro b b' _ k1 c' k2 d'
      rcases he.bimg b B k1 with ⟨b0, h0⟩ | h0
      · exact imgB b' B (notS b' c') k2 d' (.inl ⟨b0, h0⟩)
      · have := hr.blt b' B k2; omega
    rcases cb b B hb with ⟨c, hb⟩ | ⟨c, hb⟩ <;> rcases cb b' B hb' with ⟨c', hb'⟩ | ⟨c', hb'⟩
    · simp only [c, c', if_true] at d d'
      exact hr1.bapart b b' B hb hb' d d'
    · simp only [c', Bool.false_eq_true, if_false] at d'
      exact (mixed b b' c hb c' hb' d').elim
    · simp only [c, Bool.false_eq_true, if_false] at d
      exact (mixed b' b c' hb' c hb d).elim
    · simp only [c, c', Bool.false_eq_true, if_false] at d d'
      exact hr.bapart b b' B hb hb' d d'
  · have mixed : ∀ {b b' n e t n' e' t'}, m1.own b = some (B, n, e, t) → T b' = false → m.own b' = some (B, n', e', t') → False := by
      intro b b' n e t n' e' t' k1 c' k2
      rcases he.oimg b B n e t k1 with ⟨b0, n0, e0, t0, h0⟩ | h0
      · exact imgO b' B n' e' t' (notS b' c') k2 (.inr ⟨b0, n0, e0, t0, h0⟩)
      · have := hr.lt_own k2; omega
    rcases co b _ hb with ⟨c, hb⟩ | ⟨c, hb⟩ <;> rcases co b' _ hb' with ⟨c', hb'⟩ | ⟨c', hb'⟩
    · exact hr1.oapart b b' B _ _ _ _ _ _ hb hb'
    · exact (mixed hb c' hb').elim
    · exact (mixed hb' c hb).elim
    · exact hr.oapart b b' B _ _ _ _ _ _ hb hb'
  · rcases cb b B hb with ⟨c, hb⟩ | ⟨c, hb⟩
    · simp only [c, if_true] at d
      exact hr1.bK b B hb d
    · simp only [c, Bool.false_eq_true, if_false] at d
      have hk := hr.bK b B hb d
      show m1.K B = none
      cases hk1 : m1.K B with
      | none => rfl
      | some ks =>
        rcases he.knew B ks hk1 with ⟨b0, n0, e0, t0, h0⟩ | h0 | h0
        · exact absurd (.inr ⟨b0, n0, e0, t0, h0⟩) (imgB b B (notS b c) hb d)
        · have h0 : m.K B = some ks := h0
          rw [hk] at h0; cases h0
        · have := hr.blt b B hb; omega
  · rcases cb b B hb with ⟨c, hb⟩ | ⟨c, hb⟩
    · exact hr1.blt b B hb
    · exact Nat.lt_of_lt_of_le (hr.blt b B hb) he.size
end
def restrict (st : St) (fp : List Nat) : St := { heap := resH (fun b => fp.contains b) st.heap, next := st.next }
def mine (st : St) (fp : List Nat) (s0 : St) (b : Nat) : Bool := fp.contains b || (Nat.ble st.next b && Nat.blt b s0.next)
def merge (st : St) (fp : List Nat) (s0 : St) : St := { heap := fun b => if mine st fp s0 b = true then s0.heap b else st.heap b, next := s0.next }
def FpOk (st : St) (fp : List Nat) : Prop := ∀ b, b ∈ fp → b < st.next ∧ ∃ o, st.heap b = some o ∧ o.isDead = false ∧ o.refsIn (fun b => fp.contains b) = true
section
variable {E : Env} {P : Program} {f : FuncId} {args : List PV} {st s0 st' : St} {r : PV} {fp : List Nat}
theorem restrict_heap {b : Nat} (hb : b ∈ fp) : (restrict st fp).heap b = st.heap b := by
  show (if fp.contains b = true then _ else _) = _
  rw [if_pos (by simpa using hb)]
theorem restrict_none {b : Nat} (hb : b ∉ fp) : (restrict st fp).heap b = none := by
  show (if fp.contains b = true then _ else _) = _
  rw [if_neg (by simpa using hb)]
theorem merge_mine {b : Nat} (hb : b ∈ fp ∨ (st.next ≤ b ∧ b < s0.next)) : (merge st fp s0).heap b = s0.heap b := by
  show (if mine st fp s0 b = true then _ else _) = _
  rw [if_pos]
  unfold mine
  rcases hb with h | ⟨h1, h2⟩
  · simp [h]
  · simp [Nat.blt, h1]; omega
theorem merge_other {b : Nat} (hb : b ∉ fp) (hn : ¬ (st.next ≤ b ∧ b < s0.next)) : (merge st fp s0).heap b = st.heap b := by
  show (if mine st fp s0 b = true then _ else _) = _
  rw [if_neg]
  unfold mine
  simp [Nat.blt, hb]
  intro h1; omega
theorem Free.restrict (h : Free st) : Free (restrict st fp) := fun b hb => by
  show (if _ then _ else _) = _
  split
  · exact h b hb
  · rfl
theorem mine_iff {b : Nat} : mine st fp s0 b = true ↔ b ∈ fp ∨ (st.next ≤ b ∧ b < s0.next) := by
  unfold mine
  simp only [Bool.or_eq_true, Bool.and_eq_true, List.contains_eq_mem, decide_eq_true_eq, Nat.blt, Nat.ble_eq]
  exact Iff.rfl
theorem SC.frame_runs (hEr : ∀ S m, E.holds m → E.holds (jR S m)) (h : SC E P f args (restrict st fp) r s0) (hargs : refsInL (fun b => fp.contains b) args = true) (hfp : FpOk st fp) (hf : ∀ b, st.next ≤ b → b < s0.next → st.heap b = none) : SCr E P f args st r (merge st fp s0) := by
  have hnone : ∀ b, mine st fp s0 b = false → s0.heap b = none := fun b hb => by
    have hb : ¬ (b ∈ fp ∨ (st.next ≤ b ∧ b < s0.next)) := fun h => by rw [mine_iff.2 h] at hb; cases hb
    by_cases c : b < st.next
    · exact h.grows.none b c (restrict_none fun hm => hb (.inl hm))
    · exact h.free b (by
        have : ¬ b < s0.next := fun h2 => hb (.inr ⟨by omega, h2⟩)
        omega)
  intro m w cargs hE hr hv
  · have hrR := hr.restrict (S := fun b => fp.contains b) (fun b o hs ho => by
      obtain ⟨_, o', h1, _, h3⟩ := hfp b (by simpa using hs)
      rw [ho] at h1; cases h1; exact h3)
    refine (h.runs (jR (fun b => fp.contains b) m) w cargs (hEr _ _ hE) hrR (hv.restrict hargs)).mono ?_
    rintro e w' ⟨m1, v, rfl, he, hr1, hv1⟩
    obtain ⟨m2, k1, k2, k3⟩ := Go.Vi.frame hr (T := mine st fp s0) (fun b hb => mine_iff.2 (.inl (by simpa using hb))) (fun b hb => by
      obtain ⟨_, o, h1, h2, _⟩ := hfp b (by simpa using hb)
      exact ⟨o, h1, h2⟩) (fun b hb hs => by
        rcases mine_iff.1 hb with h1 | h1
        · simp [h1] at hs
        · exact hf b h1.1 h1.2) he hr1 hnone
    exact ⟨m2, v, rfl, k1, k2, hv1.mono k3⟩
theorem SC.frame (hEr : ∀ S m, E.holds m → E.holds (jR S m)) (h : SC E P f args (restrict st fp) r s0) (hargs : refsInL (fun b => fp.contains b) args = true) (hfp : FpOk st fp) (hf : Free st) : SC E P f args st r (merge st fp s0) := by
  refine ⟨⟨h.grows.next, fun b hb hn => ?_⟩, fun b hb => ?_, h.frame_runs hEr hargs hfp fun b hb _ => hf b hb⟩
  · by_cases c : b ∈ fp
    · obtain ⟨_, o, h1, _⟩ := hfp b c
      rw [hn] at h1; cases h1
    · rw [merge_other c (by omega)]; exact hn
  · have hb : s0.next ≤ b := hb
    have h1 : st.next ≤ s0.next := h.grows.next
    by_cases c : b ∈ fp
    · have := (hfp b c).1; omega
    · rw [merge_other c (by omega)]; exact hf b (by omega)
def WkL (vs args : List PV) : Prop := ∀ (m : J) (l : List Value), VRs m vs l → VRs m args l
theorem WkL.refl (l : List PV) : WkL l l := fun _ _ h => h
theorem WkL.cons {a a' : PV} {l l' : List PV} (h1 : ∀ m v, VR m a v → VR m a' v) (h2 : WkL l l') : WkL (a :: l) (a' :: l') := fun m k h => by
  cases h with | cons _ v _ k h3 h4 => exact .cons _ _ _ _ (h1 m v h3) (h2 m k h4)
theorem wk_same (a : PV) : ∀ m v, VR m a v → VR m a v := fun _ _ h => h
theorem wk_data {a x : PV} (h : a.data = some x) : ∀ m v, VR m a v → VR m x v := fun _ _ hv => .data _ _ (hv.toData h)
theorem SCr.weak {vs : List PV} (h : SCr E P f args st r st') (hw : WkL vs args) : SCr E P f vs st r st' := fun m w cargs hE hr hv => h m w cargs hE hr (hw m cargs hv)
theorem SC.weak {vs : List PV} (h : SC E P f args st r st') (hw : WkL vs args) : SC E P f vs st r st' := ⟨h.grows, h.free, fun m w cargs hE hr hv => h.runs m w cargs hE hr (hw m cargs hv)⟩
structure CallS (E : Env) (P : Program) (f : FuncId) (vs : List PV) (st : St) (v : PV) (st' : St) (fp : List Nat) : Prop where
  mk ::
  ex : ∃ args s0, (∀ S m, E.holds m → E.holds (jR S m)) ∧ WkL vs args ∧ refsInL (fun b => fp.contains b) args = true ∧ SC E P f args (restrict st fp) v s0 ∧ FpOk st fp ∧ st' = merge st fp s0
end
def Ends (m : J) (w : World) (st : St) (Q : PV → St → Prop) (e : Ending) (w' : World) : Prop :=
  ∃ m' v r st', e = .returned v ∧ Ext m w m' w' ∧ Rel m' st'.heap w' ∧ VR m' r v ∧ Grows st st' ∧ Free st' ∧ Q r st'
def SW (E : Env) (P : Program) (f : FuncId) (args : List PV) (st : St) (Q : PV → St → Prop) : Prop :=
  ∀ (m : J) (w : World) (cargs : List Value), EnvIn E m → Rel m st.heap w → VRs m args cargs → CallsIn Fence.wide 0 P f cargs.toArray w (Ends m w st Q)
def YW (E : Env) (P : Program) (L : Nat) (args : List PV) (st : St) (Q : PV → St → Prop) : Prop :=
  ∀ (m : J) (w : World) (cargs : List Value), EnvIn E m → Rel m st.heap w → VRs m args cargs → ∃ l : Loop, w.heap[L]? = some (.loop l) ∧ cargs.length = l.params.size ∧
    RoundIn Fence.wide 0 P L l.fn ((l.params.zip cargs.toArray).foldl (fun tmps (t, a) => tmps.setIfInBounds t a) l.tmps) l.assign l.body w (Ends m w st Q)
theorem SC.of_sw {E : Env} {P : Program} {f : FuncId} {args : List PV} {st st' : St} {r : PV} (h : SW E P f args st fun r' s' => r' = r ∧ s' = st') (hg : Grows st st') (hf : Free st') : SC E P f args st r st' :=
  ⟨hg, hf, fun m w cargs hE hr hv => (h m w cargs hE hr hv).mono fun e w' ⟨m', v, r', s', h1, h2, h3, h4, _, _, h7, h8⟩ => ⟨m', v, h1, h2, by rw [← h8]; exact h3, by rw [← h7]; exact h4⟩⟩
theorem SC.sw {E : Env} {P : Program} {f : FuncId} {args : List PV} {st st' : St} {r : PV} (h : SC E P f args st r st') {Q : PV → St → Prop} (hQ : Q r st') : SW E P f args st Q := fun m w cargs hE hr hv =>
  (h.runs m w cargs hE hr hv).mono fun e w' ⟨m', v, h1, h2, h3, h4⟩ => ⟨m', v, r, st', h1, h2, h3, h4, h.grows, h.free, hQ⟩
theorem SW.mono {E : Env} {P : Program} {f : FuncId} {args : List PV} {st : St} {Q Q' : PV → St → Prop} (h : SW E P f args st Q) (hQ : ∀ r s, Q r s → Q' r s) : SW E P f args st Q' := fun m w cargs hE hr hv =>
  (h m w cargs hE hr hv).mono fun e w' ⟨m', v, r, s, h1, h2, h3, h4, h5, h6, h7⟩ => ⟨m', v, r, s, h1, h2, h3, h4, h5, h6, hQ r s h7⟩
theorem SW.weak {E : Env} {P : Program} {f : FuncId} {args vs : List PV} {st : St} {Q : PV → St → Prop} (h : SW E P f args st Q) (hw : WkL vs args) : SW E P f vs st Q := fun m w cargs hE hr hv => h m w cargs hE hr (hw m cargs hv)
theorem SW.frame {E : Env} {P : Program} {f : FuncId} {args : List PV} {st : St} {fp : List Nat} {Q : PV → St → Prop} (hEr : ∀ S m, E.holds m → E.holds (jR S m)) (h : SW E P f args (restrict st fp) Q) (hargs : refsInL (fun b => fp.contains b) args = true) (hfp : FpOk st fp) (hf : Free st) :
    SW E P f args st fun r s' => ∃ s0, Q r s0 ∧ st.next ≤ s0.next ∧ Free s0 ∧ s' = merge st fp s0 := by
  intro m w cargs hE hr hv
  have hrR := hr.restrict (S := fun b => fp.contains b) (fun b o hs ho => by
    obtain ⟨_, o', h1, _, h3⟩ := hfp b (by simpa using hs)
    rw [ho] at h1; cases h1; exact h3)
  refine (h (jR (fun b => fp.contains b) m) w cargs (hEr _ _ hE) hrR (hv.restrict hargs)).mono ?_
  rintro e w' ⟨m1, v, r, s0, rfl, he, hr1, hv1, hg, hfr, hq⟩
  have hnone : ∀ b, mine st fp s0 b = false → s0.heap b = none := fun b hb => by
    have hb : ¬ (b ∈ fp ∨ (st.next ≤ b ∧ b < s0.next)) := fun h => by rw [mine_iff.2 h] at hb; cases hb
    by_cases c : b < st.next
    · exact hg.none b c (restrict_none fun hm => hb (.inl hm))
    · exact hfr b (by
        have : ¬ b < s0.next := fun h2 => hb (.inr ⟨by omega, h2⟩)
        omega)
  obtain ⟨m2, k1, k2, k3⟩ := Go.Vi.frame hr (T := mine st fp s0) (fun b hb => mine_iff.2 (.inl (by simpa using hb))) (fun b hb => by
    obtain ⟨_, o, h1, h2, _⟩ := hfp b (by simpa using hb)
    exact ⟨o, h1, h2⟩) (fun b hb hs => by
      rcases mine_iff.1 hb with h1 | h1
      · simp [h1] at hs
      · exact hf b h1.1) he hr1 hnone
  have hn : st.next ≤ s0.next := hg.next
  refine ⟨m2, v, r, merge st fp s0, rfl, k1, k2, hv1.mono k3, ⟨hn, fun b hb hh => ?_⟩, fun b hb => ?_, s0, hq, hn, hfr, rfl⟩
  · by_cases c : b ∈ fp
    · obtain ⟨_, o, h1, _⟩ := hfp b c
      rw [hh] at h1; cases h1
    · rw [merge_other c (by omega)]; exact hh
  · have hb : s0.next ≤ b := hb
    by_cases c : b ∈ fp
    · have := (hfp b c).1; omega
    · rw [merge_other c (by omega)]; exact hf b (by omega)
section
variable {E : Env} {P : Program} {m : J} {w : World} {st st' : St} {v : PV}
open Go.Ab (Fw)
def NextQ (P : Program) (ro : Option Nat) (m : J) (w : World) (st : St) (Q : PV → St → Prop) (r : Result Next) : Prop :=
  ∀ (o : Oper) (a : Act) (K : Act → World → Prop) (Q' : Exit → Act → World → Prop),
    (∀ m' v' w' y st', Ext m w m' w' → Rel m' st'.heap w' → VR m' y v' → Grows st st' → Free st' → Q y st' → K (a.put o.dst v') w') → o.uponIn (Fw ro) 0 P a K Q' r
theorem sc_sim (hE : EnvIn E m) (hr : Rel m st.heap w) {f : FuncId} {fn : Func} (hfn : P.funcs[f]? = some fn) (hb : fn.body.isSome = true) (hn : (fn.name == "runtime.NumGoroutine") = false) {vs : List PV} (hc : SCr E P f vs st v st')
    {cargs : List Value} (hvs : VRs m vs cargs) (ro : Option Nat) : NextOk P ro m w st'.heap v ((callFunc f cargs.toArray).run P w) := by
  obtain ⟨body, hbody⟩ := Option.isSome_iff_exists.1 hb
  have hrun : (callFunc f cargs.toArray).run P w = .ok (.enter f cargs.toArray) w := by
    simp only [callFunc, Sem.run_bind, run_program, Result.andThen_ok, hfn, hn, Bool.false_eq_true, if_false, hbody, Option.isNone_some]
    rfl
  rw [hrun]
  intro o a K Q hK
  refine ⟨fun h => by simp [Fw, Fence.wide] at h, ?_⟩
  have hcall' : CallsIn (Fw ro) (0 - 1) P f cargs.toArray w (fun e w' => ∃ m' v', e = .returned v' ∧ Ext m w m' w' ∧ Rel m' st'.heap w' ∧ VR m' v v') := hc m w cargs hE hr hvs
  refine hcall'.mono ?_
  rintro e w' ⟨m', v', rfl, h1, h2, h3⟩
  exact hK _ _ _ h1 h2 h3
theorem sw_sim (hE : EnvIn E m) (hr : Rel m st.heap w) {f : FuncId} {fn : Func} (hfn : P.funcs[f]? = some fn) (hb : fn.body.isSome = true) (hn : (fn.name == "runtime.NumGoroutine") = false) {vs : List PV} {Q : PV → St → Prop} (hc : SW E P f vs st Q)
    {cargs : List Value} (hvs : VRs m vs cargs) (ro : Option Nat) : NextQ P ro m w st Q ((callFunc f cargs.toArray).run P w) := by
  obtain ⟨body, hbody⟩ := Option.isSome_iff_exists.1 hb
  have hrun : (callFunc f cargs.toArray).run P w = .ok (.enter f cargs.toArray) w := by
    simp only [callFunc, Sem.run_bind, run_program, Result.andThen_ok, hfn, hn, Bool.false_eq_true, if_false, hbody, Option.isNone_some]
    rfl
  rw [hrun]
  intro o a K Q' hK
  refine ⟨fun h => by simp [Fw, Fence.wide] at h, ?_⟩
  have hcall' : CallsIn (Fw ro) (0 - 1) P f cargs.toArray w (Ends m w st Q) := hc m w cargs hE hr hvs
  refine hcall'.mono ?_
  rintro e w' ⟨m', v', y, s', rfl, h1, h2, h3, h4, h5, h6⟩
  exact hK _ _ _ y s' h1 h2 h3 h4 h5 h6
theorem yield_sim (hE : EnvIn E m) (hr : Rel m st.heap w) {L : Nat} {vs : List PV} {Q : PV → St → Prop} (hc : YW E P L vs st Q) {cargs : List Value} (hvs : VRs m vs cargs) (ro : Option Nat) :
    NextQ P ro m w st Q ((do let d ← Deferred.ofValue (.func (.yield L) #[] #[]) cargs.toArray; invoke d.target d.args : Sem Next).run P w) := by
  obtain ⟨r, h1, h2, h3⟩ := hc m w cargs hE hr hvs
  have hgo : (getObj L).run P w = .ok (.loop r) w := by simp [getObj, Sem.run, h1]
  have hrun : (do let d ← Deferred.ofValue (.func (.yield L) #[] #[]) cargs.toArray; invoke d.target d.args : Sem Next).run P w =
      .ok (.round L r.fn ((r.params.zip cargs.toArray).foldl (fun tmps (t, a) => tmps.setIfInBounds t a) r.tmps) r.assign r.body) w := by
    simp only [Deferred.ofValue, pure_bind, invoke, Array.empty_append, Instr.yield, Instr.getLoop, Sem.run_bind, hgo, Result.andThen_ok, Sem.run_pure]
    rw [if_neg (by simpa using h2)]
    rfl
  rw [hrun]
  intro o a K Q' hK
  refine ⟨fun h => by simp [Fw, Fence.wide] at h, ?_⟩
  have h' : RoundIn (Fw ro) (0 - 1) P L r.fn ((r.params.zip cargs.toArray).foldl (fun tmps (t, a) => tmps.setIfInBounds t a) r.tmps) r.assign r.body w (Ends m w st Q) := h3
  refine h'.mono ?_
  rintro e w' ⟨m', v', y, s', rfl, k1, k2, k3, k4, k5, k6⟩
  exact hK _ _ _ y s' k1 k2 k3 k4 k5 k6
def DynR (E : Env) (P : Program) (vs : List PV) (st : St) (Q : PV → St → Prop) : Prop :=
  (∃ g caps args fn, vs = .fn g caps :: args ∧ P.funcs[g]? = some fn ∧ fn.body.isSome = true ∧ (fn.name == "runtime.NumGoroutine") = false ∧ SW E P g (args ++ caps) st Q) ∨ (∃ L args, vs = .yield L :: args ∧ YW E P L args st Q) ∨
  ∃ g bd args fn, vs = .bfn g bd :: args ∧ P.funcs[g]? = some fn ∧ fn.body.isSome = true ∧ (fn.name == "runtime.NumGoroutine") = false ∧ SW E P g (bd ++ args) st Q
theorem dyn_sim (hE : EnvIn E m) (hr : Rel m st.heap w) {vs : List PV} {Q : PV → St → Prop} (hc : DynR E P vs st Q) {fv : Value} {cargs : List Value} (hvs : VRs m vs (fv :: cargs)) (ro : Option Nat) :
    NextQ P ro m w st Q ((do let d ← Deferred.ofValue fv cargs.toArray; invoke d.target d.args : Sem Next).run P w) := by
  rcases hc with ⟨g, caps, args, fn, rfl, h1, h2, h3, h4⟩ | ⟨L, args, rfl, h4⟩ | ⟨g, bd, args, fn, rfl, h1, h2, h3, h4⟩
  · cases hvs with | cons _ _ _ _ hf ha =>
    cases hf with
    | data _ _ hd => cases hd
    | fn _ _ cs hcs =>
      have hrun : (do let d ← Deferred.ofValue (.func (.func g) #[] cs.toArray) cargs.toArray; invoke d.target d.args : Sem Next).run P w = (callFunc g (cargs ++ cs).toArray).run P w := by
        simp only [Deferred.ofValue, pure_bind, invoke]
        simp
      rw [hrun]
      exact sw_sim hE hr h1 h2 h3 h4 (ha.append hcs) ro
  · cases hvs with | cons _ _ _ _ hf ha =>
    cases hf with
    | data _ _ hd => cases hd
    | yield => exact yield_sim hE hr h4 ha ro
  · cases hvs with | cons _ _ _ _ hf ha =>
    cases hf with
    | data _ _ hd => cases hd
    | bfn _ _ cs hcs =>
      have hrun : (do let d ← Deferred.ofValue (.func (.func g) cs.toArray #[]) cargs.toArray; invoke d.target d.args : Sem Next).run P w = (callFunc g (cs ++ cargs).toArray).run P w := by
        simp only [Deferred.ofValue, pure_bind, invoke]
        simp
      rw [hrun]
      exact sw_sim hE hr h1 h2 h3 h4 (hcs.append ha) ro
def InvR (E : Env) (P : Program) (name : String) (vs : List PV) (st : St) (Q : PV → St → Prop) : Prop :=
  ∃ t x args g fn pr el rv, vs = .iface t x :: args ∧ Go.Ab.methodA P t name = some (g, pr, el) ∧ P.funcs[g]? = some fn ∧ fn.body.isSome = true ∧ (fn.name == "runtime.NumGoroutine") = false ∧
    (match pr, el with
      | true, some _ => rv = x
      | false, none => rv = x
      | false, some e => ∃ q, loadQ P e x = some q ∧ q.run st = some (rv, st)
      | true, none => False) ∧ SW E P g (rv :: args) st Q
theorem inv_sim (hE : EnvIn E m) (hr : Rel m st.heap w) {name : String} {vs : List PV} {Q : PV → St → Prop} (hc : InvR E P name vs st Q) {rv : Value} {cargs : List Value} (hvs : VRs m vs (rv :: cargs)) (ro : Option Nat) :
    NextQ P ro m w st Q ((callMethod rv name cargs.toArray).run P w) := by
  obtain ⟨t, x, args, g, fn, pr, el, rx, rfl, hm, h1, h2, h3, hrx, h4⟩ := hc
  cases hvs with | cons _ _ _ _ hf ha =>
  cases hf with
  | data _ _ hd => cases hd
  | iface _ _ u hu =>
    have hmeth : ∀ rv', (Go.receiverAt t (.val u) pr (some ((name.splitOn ".").getLastD name))).run P w = .ok rv' w →
        (callMethod (.iface t u) name cargs.toArray).run P w = (callFunc g (rv' :: cargs).toArray).run P w := by
      intro rv' hrec
      obtain ⟨i, mt, hi, hmt, hp, hfn, _⟩ := Go.Ab.method_sim hm
      have hpl : mt.path.toList = [] := by
        have : mt.path = #[] := by simpa using hp
        rw [this]
      have hmeth : (Go.method (P.types.size + Made.depth) t u name).run P w = .ok (g, rv') w := by
        have hdep : ∃ n, P.types.size + Made.depth = n + 1 := ⟨P.types.size + 99, rfl⟩
        obtain ⟨n, hn⟩ := hdep
        rw [hn]
        simp only [Go.method, Sem.run_bind, typeInfo, run_program, Result.andThen_ok, hi, Sem.run_pure, hmt, hpl, follow, hfn, hp, if_true]
        rw [hrec]; rfl
      simp only [callMethod, Sem.run_bind, run_program, Result.andThen_ok, hmeth]
      simp
    obtain ⟨_, _, _, _, _, _, d, hd, hcd⟩ := Go.Ab.method_sim hm
    cases pr with
    | true =>
      cases el with
      | none => exact hrx.elim
      | some e =>
        subst hrx
        obtain ⟨e', rfl, _⟩ := hcd.resolve_right (by rintro ⟨_, hc⟩; cases hc)
        rw [hmeth u (by simp [receiverAt, run_underlying hd, Place.get])]
        exact sw_sim hE hr h1 h2 h3 h4 (.cons _ _ _ _ hu ha) ro
    | false =>
      cases el with
      | none =>
        subst hrx
        obtain ⟨hno, _⟩ := hcd.resolve_left (by rintro ⟨_, _, hc⟩; cases hc)
        rw [hmeth u (by
          simp only [receiverAt, Sem.run_bind, run_underlying hd, Result.andThen_ok]
          cases d <;> first | (exact absurd rfl (hno _)) | rfl)]
        exact sw_sim hE hr h1 h2 h3 h4 (.cons _ _ _ _ hu ha) ro
      | some e =>
        obtain ⟨q, hq, hrun⟩ := hrx
        obtain ⟨e', rfl, he⟩ := hcd.resolve_right (by rintro ⟨_, hc⟩; cases hc)
        cases he
        obtain ⟨_, v', g1, g2⟩ := load_ok (P := P) hr hu hq rfl hrun
        obtain ⟨av, hav⟩ : ∃ av, u = .pointer (some av) := by
          unfold loadQ at hq
          split at hq
          · cases hu with
            | data _ _ hd => cases hd
            | ptr => exact ⟨_, rfl⟩
          · cases hu with
            | data _ _ hd => cases hd
            | eptr => exact ⟨_, rfl⟩
          · cases hq
        subst hav
        rw [hmeth v' (by
          simp only [Instr.loadAt, Instr.sureAddr, pure_bind] at g1
          have hchk : ∀ nm, Builtin.ssaWrapNilChk_ #[t] t #[Value.pointer (some av), strVal "", strVal nm] = pure (.pointer (some av)) := fun nm => rfl
          simp only [receiverAt, Sem.run_bind, run_underlying hd, Result.andThen_ok, Place.get, Sem.run_pure, hchk, asAddr, g1])]
        exact sw_sim hE hr h1 h2 h3 h4 (.cons _ _ _ _ g2 ha) ro
end
inductive Mode where
  | old
  | det (E : Env)
  | weak (E : Env)
def Mode.env : Mode → Env
  | .old => Env.top
  | .det E => E
  | .weak E => E
end Go.Vi
namespace Go.Vi
open Go.Ab (Fw fitsT AExit blt_lt)
abbrev Kx := AExit → Fr → St → Prop
abbrev Ks := Fr → St → Prop
def optP {α : Type} (x : Option α) (k : α → Prop) : Prop := match x with
  | some a => k a
  | none => False
theorem optP_some {α : Type} {x : Option α} {k : α → Prop} (h : optP x k) : ∃ a, x = some a ∧ k a := by
  cases x with
  | none => exact h.elim
  | some a => exact ⟨a, rfl, h⟩
def Fr.put (fr : Fr) (d : Option Tmp) (v : PV) : Fr := match d with
  | some d => fr.set d v
  | none => fr
section
variable (P : Program) (md : Bool) (X : Mode)
def argsOf : Op → List Operand
  | .call ⟨.value (.func _), args, _⟩ => args.toList
  | op => op.operands.toList
def entersB (f : FuncId) : Bool := match P.funcs[f]? with
  | some fn => fn.body.isSome && !(fn.name == "runtime.NumGoroutine")
  | none => false
inductive OpR : Op → List PV → St → PV → St → List Nat → List Nat → Prop
  | req (op : Op) (vs : List PV) (st : St) (q : Req) (v : PV) (st' : St) : opQ P md op vs = some q → q.run st = some (v, st') → OpR op vs st v st' q.rd q.wr
  | call (f : FuncId) (args : Array Operand) (ats : Array TypeId) (vs : List PV) (st : St) (v : PV) (st' : St) (bs : List Nat) : entersB P f = true → CallR P f vs st v st' bs → OpR (.call ⟨.value (.func f), args, ats⟩) vs st v st' [] bs
  | callS (f : FuncId) (args : Array Operand) (ats : Array TypeId) (vs : List PV) (st : St) (v : PV) (st' : St) (fp : List Nat) : entersB P f = true → CallS X.env P f vs st v st' fp → OpR (.call ⟨.value (.func f), args, ats⟩) vs st v st' [] fp
  | dynS (f : Operand) (args : Array Operand) (ats : Array TypeId) (g : FuncId) (bd rest : List PV) (st : St) (v : PV) (st' : St) (fp : List Nat) : (∀ f', f ≠ .func f') → entersB P g = true → CallS X.env P g (bd ++ rest) st v st' fp → OpR (.call ⟨.value f, args, ats⟩) (.bfn g bd :: rest) st v st' [] fp
def callX (f : FuncId) (vs : List PV) (st : St) (k : PV → St → Prop) : Prop := match X with
  | .old => False
  | .det E => ∃ v st', SW E P f vs st (fun r s => r = v ∧ s = st') ∧ k v st'
  | .weak E => ∃ Q, SW E P f vs st Q ∧ ∀ v st', Grows st st' → Free st' → Q v st' → k v st'
def dynX (vs : List PV) (st : St) (k : PV → St → Prop) : Prop := match X with
  | .weak E => ∃ Q, DynR E P vs st Q ∧ ∀ v st', Grows st st' → Free st' → Q v st' → k v st'
  | _ => False
def invX (name : String) (vs : List PV) (st : St) (k : PV → St → Prop) : Prop := match X with
  | .weak E => ∃ Q, InvR E P name vs st Q ∧ ∀ v st', Grows st st' → Free st' → Q v st' → k v st'
  | _ => False
def callSX (f : FuncId) (vs : List PV) (st : St) (k : PV → St → List Nat → Prop) : Prop := match X with
  | .old => False
  | _ => ∃ v st' fp, CallS X.env P f vs st v st' fp ∧ k v st' fp
def dynSX (vs : List PV) (st : St) (k : PV → St → List Nat → Prop) : Prop := match vs with
  | .bfn g bd :: rest => bif entersB P g then callSX P X g (bd ++ rest) st k else False
  | _ => False
theorem dynSX_some {vs : List PV} {st : St} {k : PV → St → List Nat → Prop} (h : dynSX P X vs st k) : ∃ g bd rest, vs = .bfn g bd :: rest ∧ entersB P g = true ∧ callSX P X g (bd ++ rest) st k := by
  cases vs with
  | nil => exact h.elim
  | cons a r => cases a with
    | bfn g bd =>
      have h : bif entersB P g then callSX P X g (bd ++ r) st k else False := h
      cases he : entersB P g with
      | false => rw [he] at h; exact h.elim
      | true => rw [he] at h; exact ⟨g, bd, r, rfl, he, h⟩
    | _ => exact h.elim
def callU (u : Bool) (f : FuncId) (vs : List PV) (st : St) (k : PV → St → List Nat → List Nat → Prop) : Prop := match X with
  | .old => ∃ v st' bs, CallR P f vs st v st' bs ∧ k v st' [] bs
  | X => (∃ v st' bs, CallR P f vs st v st' bs ∧ k v st' [] bs) ∨ (match u with
    | true => callX P X f vs st fun v st' => k v st' [] []
    | false => callSX P X f vs st fun v st' fp => k v st' [] fp)
theorem callU_or {u : Bool} {f : FuncId} {vs : List PV} {st : St} {k : PV → St → List Nat → List Nat → Prop} : callU P X u f vs st k ↔ (∃ v st' bs, CallR P f vs st v st' bs ∧ k v st' [] bs) ∨ (match u with
    | true => callX P X f vs st fun v st' => k v st' [] []
    | false => callSX P X f vs st fun v st' fp => k v st' [] fp) := by
  cases X with
  | old => cases u <;> exact ⟨.inl, fun h => h.resolve_right id⟩
  | det E => exact Iff.rfl
  | weak E => exact Iff.rfl
def opP (u : Bool) (op : Op) (vs : List PV) (st : St) (k : PV → St → List Nat → List Nat → Prop) : Prop := match op with
  | .call ⟨.value (.func f), _, _⟩ => bif entersB P f then callU P X u f vs st k else False
  | .call ⟨.value _, _, _⟩ => match u with
    | true => dynX P X vs st fun v st' => k v st' [] []
    | false => dynSX P X vs st fun v st' fp => k v st' [] fp
  | .call ⟨.invoke _ name, _, _⟩ => match u with
    | true => invX P X name vs st fun v st' => k v st' [] []
    | false => False
  | op => optP (opQ P md op vs) fun q => optP (q.run st) fun p => k p.1 p.2 q.rd q.wr
theorem opP_sound {op : Op} {vs : List PV} {st : St} {k : PV → St → List Nat → List Nat → Prop} (h : opP P md X false op vs st k) : ∃ v st' rd wr, OpR P md X op vs st v st' rd wr ∧ k v st' rd wr := by
  unfold opP at h
  split at h
  · rename_i f args ats
    cases he : entersB P f with
    | false => simp only [he, cond_false] at h
    | true =>
      simp only [he, cond_true] at h
      rcases (callU_or P X).1 h with ⟨v, st', bs, h1, h2⟩ | h
      · exact ⟨v, st', [], bs, .call f args ats vs st v st' bs he h1, h2⟩
      · obtain ⟨v, st', fp, h1, h2⟩ : ∃ v st' fp, CallS X.env P f vs st v st' fp ∧ k v st' [] fp := by
          cases X with
          | old => exact h.elim
          | det E => exact h
          | weak E => exact h
        exact ⟨v, st', [], fp, .callS f args ats vs st v st' fp he h1, h2⟩
  · rename_i f args ats hno
    obtain ⟨g, bd, rest, rfl, he, h⟩ := dynSX_some P X h
    obtain ⟨v, st', fp, h1, h2⟩ : ∃ v st' fp, CallS X.env P g (bd ++ rest) st v st' fp ∧ k v st' [] fp := by
      cases X with
      | old => exact h.elim
      | det E => exact h
      | weak E => exact h
    exact ⟨v, st', [], fp, .dynS f args ats g bd rest st v st' fp (fun f' e => hno f' e) he h1, h2⟩
  · exact h.elim
  · obtain ⟨q, h1, h2⟩ := optP_some h
    obtain ⟨⟨v, st'⟩, h3, h4⟩ := optP_some h2
    exact ⟨v, st', q.rd, q.wr, .req _ vs st q v st' h1 h3, h4⟩
def guardV (g : PV) (want : Bool) : Option Bool := match g with
  | .bool b => some (b == want)
  | .tuple [] => some false
  | _ => none
def pGL (g : PV) (want : Bool) (X : (PV → St → List Nat → List Nat → Prop) → Prop) (k : PV → St → List Nat → List Nat → Prop) (s : St) : Prop := match guardV g want with
  | some true => X k
  | some false => k .undef s [] []
  | none => False
def wantedP (ops : List Oper) (fr : Fr) (o : Oper) : Option Bool := match o.guard with
  | none => some true
  | some (j, want) => match ops[j]? with
    | some o' => match o'.dst with
      | some d => match fr d with
        | .bool b => some (b == want)
        | .tuple [] => some false
        | _ => none
      | none => some false
    | none => some false
inductive StepR (ops : List Oper) (fr : Fr) (o : Oper) (st : St) : PV → St → List Nat → List Nat → Prop
  | skip : wantedP ops fr o = some false → StepR ops fr o st .undef st [] []
  | run (vs : List PV) (v : PV) (st' : St) (rd wr : List Nat) : wantedP ops fr o = some true → evalOs fr (argsOf o.op) = some vs → OpR P md X o.op vs st v st' rd wr → StepR ops fr o st v st' rd wr
def oneP (u : Bool) (op : Op) (fr : Fr) (st : St) (k : PV → St → List Nat → List Nat → Prop) : Prop := optP (evalOs fr (argsOf op)) fun vs => opP P md X u op vs st k
def gP (u : Bool) (ops : List Oper) (o : Oper) (fr : Fr) (st : St) (k : PV → St → List Nat → List Nat → Prop) : Prop := match o.guard with
  | none => oneP P md X u o.op fr st k
  | some (j, want) => match ops[j]? with
    | some o' => match o'.dst with
      | some d => pGL (fr d) want (fun k => oneP P md X u o.op fr st k) k st
      | none => k .undef st [] []
    | none => k .undef st [] []
theorem gP_sound {ops : List Oper} {o : Oper} {fr : Fr} {st : St} {k : PV → St → List Nat → List Nat → Prop} (h : gP P md X false ops o fr st k) : ∃ v st' rd wr, StepR P md X ops fr o st v st' rd wr ∧ k v st' rd wr := by
  have one : wantedP ops fr o = some true → oneP P md X false o.op fr st k → ∃ v st' rd wr, StepR P md X ops fr o st v st' rd wr ∧ k v st' rd wr := by
    intro hw h
    obtain ⟨vs, h1, h2⟩ := optP_some h
    obtain ⟨v, st', rd, wr, h3, h4⟩ := opP_sound P md X h2
    exact ⟨v, st', rd, wr, .run vs v st' rd wr hw h1 h3, h4⟩
  unfold gP at h
  cases hg : o.guard with
  | none =>
    rw [hg] at h
    exact one (by simp [wantedP, hg]) h
  | some p =>
    obtain ⟨j, want⟩ := p
    rw [hg] at h
    simp only at h
    cases hj : ops[j]? with
    | none =>
      rw [hj] at h
      exact ⟨.undef, st, [], [], .skip (by simp [wantedP, hg, hj]), h⟩
    | some o' =>
      rw [hj] at h
      simp only at h
      cases hd : o'.dst with
      | none =>
        rw [hd] at h
        exact ⟨.undef, st, [], [], .skip (by simp [wantedP, hg, hj, hd]), h⟩
      | some d =>
        rw [hd] at h
        simp only at h
        have hw : wantedP ops fr o = guardV (fr d) want := by simp only [wantedP, hg, hj, hd]; rfl
        unfold pGL at h
        split at h
        · rename_i he; exact one (by rw [hw, he]) h
        · rename_i he; exact ⟨.undef, st, [], [], .skip (by rw [hw, he]), h⟩
        · exact h.elim
variable (nt : Nat)
def oP (ops : List Oper) : List Oper → Ks → Ks
  | [], K => K
  | o :: r, K => fun fr st => bif fitsT nt o.dst then gP P md X true ops o fr st (fun v st _ _ => oP ops r K (fr.put o.dst v) st) else False
end
def newIds (st st' : St) (b : Nat) : Prop := st.next ≤ b ∧ b < st'.next
structure Loc (Step : St → PV → St → Prop) (st : St) (v : PV) (st' : St) (rd wr : List Nat) : Prop where
  next : st.next ≤ st'.next
  ex : ∀ b, b ∈ rd ∨ b ∈ wr → st.heap b ≠ none
  frame : ∀ b, b ∉ wr → ¬ newIds st st' b → st'.heap b = st.heap b
  again : ∀ t : St, t.next = st.next → (∀ b, b ∈ rd ∨ b ∈ wr → t.heap b = st.heap b) →
    ∃ t', Step t v t' ∧ t'.next = st'.next ∧ (∀ b, b ∈ wr ∨ newIds st st' b → t'.heap b = st'.heap b) ∧ (∀ b, b ∉ wr → ¬ newIds st st' b → t'.heap b = t.heap b)
section
variable {P : Program} {md : Bool} {X : Mode}
theorem loc_read {st : St} {v : PV} {rd : List Nat} {Step : St → PV → St → Prop} (hex : ∀ b, b ∈ rd → st.heap b ≠ none) (hs : ∀ t : St, t.next = st.next → (∀ b, b ∈ rd → t.heap b = st.heap b) → Step t v t) : Loc Step st v st rd [] :=
  ⟨Nat.le_refl _, fun b hb => hex b (hb.resolve_right (by simp)), fun _ _ _ => rfl, fun t ht hag => ⟨t, hs t ht fun b hb => hag b (.inl hb), ht, fun b hb => by
    rcases hb with hb | hb
    · simp at hb
    · unfold newIds at hb; omega, fun _ _ _ => rfl⟩⟩
theorem loc_write {st : St} {b : Nat} {o : Obj} {v : PV} {Step : St → PV → St → Prop} (hex : st.heap b ≠ none) (hs : ∀ t : St, t.next = st.next → t.heap b = st.heap b → Step t v (t.set b o)) : Loc Step st v (st.set b o) [] [b] := by
  have hn : ∀ {x : Nat}, ¬ newIds st (st.set b o) x := fun h => by unfold newIds at h; simp [St.set] at h; omega
  refine ⟨Nat.le_refl _, fun b' hb => ?_, fun b' hb _ => ?_, fun t ht hag => ⟨t.set b o, hs t ht (hag b (.inr (by simp))), ht, fun b' hb => ?_, fun b' hb _ => ?_⟩⟩
  · simp at hb; subst hb; exact hex
  · simp at hb
    simp [St.set, beq_if, hb]
  · rcases hb with hb | hb
    · simp at hb; subst hb; simp [St.set, beq_if]
    · exact absurd hb hn
  · simp at hb
    simp [St.set, beq_if, hb]
theorem loc_new {st : St} {o : Obj} {f : Nat → PV} {Step : St → PV → St → Prop} (hs : ∀ t : St, t.next = st.next → Step t (f st.next) (t.new o)) : Loc Step st (f st.next) (st.new o) [] [] := by
  refine ⟨by simp [St.new], fun b hb => by simp at hb, fun b _ hb => ?_, fun t ht _ => ⟨t.new o, hs t ht, by simp [St.new, ht], fun b hb => ?_, fun b _ hb => ?_⟩⟩
  · have : b ≠ st.next := by rintro rfl; exact hb ⟨Nat.le_refl _, by simp [St.new]⟩
    simp [St.new, beq_if, this]
  · rcases hb with hb | hb
    · simp at hb
    · have : b = st.next := by unfold newIds at hb; simp [St.new] at hb; omega
      subst this; simp [St.new, beq_if, ht]
  · have : b ≠ st.next := by rintro rfl; exact hb ⟨Nat.le_refl _, by simp [St.new]⟩
    simp [St.new, beq_if, ht, this]
theorem req_loc {q : Req} {st : St} {v : PV} {st' : St} (h : q.run st = some (v, st')) : Loc (fun t v t' => q.run t = some (v, t')) st v st' q.rd q.wr := by
  cases q with
  | val x =>
    simp [Req.run] at h; obtain ⟨rfl, rfl⟩ := h
    exact loc_read (rd := []) (fun b hb => by simp at hb) fun t _ _ => rfl
  | load b f =>
    simp only [Req.run] at h
    split at h
    · rename_i cs hcs
      split at h
      · rename_i x hx
        simp at h; obtain ⟨rfl, rfl⟩ := h
        exact loc_read (rd := [b]) (fun b' hb => by simp at hb; subst hb; rw [hcs]; simp) fun t _ hag => by simp only [Req.run, hag b (by simp), hcs, hx]
      · cases h
    · rename_i e cs hcs
      split at h
      · rename_i x hx
        simp at h; obtain ⟨rfl, rfl⟩ := h
        exact loc_read (rd := [b]) (fun b' hb => by simp at hb; subst hb; rw [hcs]; simp) fun t _ hag => by simp only [Req.run, hag b (by simp), hcs, hx]
      · cases h
    · cases h
  | store b f =>
    simp only [Req.run] at h
    split at h
    · rename_i cs hcs
      split at h
      · rename_i cs' hcs'
        simp at h; obtain ⟨rfl, rfl⟩ := h
        exact loc_write (by rw [hcs]; simp) fun t _ hag => by simp only [Req.run, hag, hcs, hcs']
      · cases h
    · rename_i e cs hcs
      split at h
      · rename_i cs' hcs'
        simp at h; obtain ⟨rfl, rfl⟩ := h
        exact loc_write (by rw [hcs]; simp) fun t _ hag => by simp only [Req.run, hag, hcs, hcs']
      · cases h
    · cases h
  | box cs f =>
    simp [Req.run] at h; obtain ⟨rfl, rfl⟩ := h
    exact loc_new fun t ht => by simp [Req.run, ht]
  | push b n e k x =>
    simp only [Req.run] at h
    split at h
    · rename_i n' e' hcs
      cases hc : Nat.beq n n' && (Nat.beq n 0 || Nat.beq e e') with
      | false => simp [hc] at h
      | true =>
        simp only [hc, cond_true, Option.some.injEq, Prod.mk.injEq] at h
        obtain ⟨rfl, rfl⟩ := h
        exact loc_write (by rw [hcs]; simp) fun t _ hag => by simp only [Req.run, hag, hcs, hc, cond_true]
    · cases h
  | own n e f =>
    simp [Req.run] at h; obtain ⟨rfl, rfl⟩ := h
    exact loc_new fun t ht => by simp [Req.run, ht]
  | arr e cs f =>
    simp [Req.run] at h; obtain ⟨rfl, rfl⟩ := h
    exact loc_new fun t ht => by simp [Req.run, ht]
  | map l f =>
    simp [Req.run] at h; obtain ⟨rfl, rfl⟩ := h
    exact loc_new fun t ht => by simp [Req.run, ht]
  | look b f =>
    simp only [Req.run] at h
    split at h
    · rename_i l hl
      split at h
      · rename_i x hx
        simp at h; obtain ⟨rfl, rfl⟩ := h
        exact loc_read (rd := [b]) (fun b' hb => by simp at hb; subst hb; rw [hl]; simp) fun t _ hag => by simp only [Req.run, hag b (by simp), hl, hx]
      · cases h
    · cases h
  | upd b f =>
    simp only [Req.run] at h
    split at h
    · rename_i l hl
      split at h
      · rename_i l' hl'
        simp at h; obtain ⟨rfl, rfl⟩ := h
        exact loc_write (by rw [hl]; simp) fun t _ hag => by simp only [Req.run, hag, hl, hl']
      · cases h
    · cases h
  | lookS b f =>
    simp only [Req.run] at h
    split at h
    · rename_i l hl
      split at h
      · rename_i x hx
        simp at h; obtain ⟨rfl, rfl⟩ := h
        exact loc_read (rd := [b]) (fun b' hb => by simp at hb; subst hb; intro h0; rw [h0] at hl; cases hl) fun t _ hag => by simp only [Req.run, hag b (by simp), hl, hx]
      · cases h
    · cases h
  | updS b f =>
    simp only [Req.run] at h
    split at h
    · rename_i l hl
      split at h
      · rename_i l' hl'
        simp at h; obtain ⟨rfl, rfl⟩ := h
        exact loc_write (by intro h0; rw [h0] at hl; cases hl) fun t _ hag => by simp only [Req.run, hag, hl, hl']
      · cases h
    · cases h
  | grow b e f k =>
    simp only [Req.run] at h
    split at h
    · rename_i e' cs hcs
      cases hc : Nat.beq e e' with
      | false => simp [hc] at h
      | true =>
        simp only [hc, cond_true] at h
        split at h
        · rename_i cs' hcs'
          simp only [Option.some.injEq, Prod.mk.injEq] at h
          obtain ⟨rfl, rfl⟩ := h
          have hnew : ∀ {x : Nat}, newIds st ((st.set b .dead).new (.arr e cs')) x ↔ x = st.next := fun {x} => by unfold newIds; simp [St.set, St.new]; omega
          refine ⟨by simp [St.new, St.set], fun b' hb => ?_, fun b' hb hb2 => ?_, fun t ht hag => ⟨(t.set b .dead).new (.arr e cs'), ?_, by simp [St.new, St.set, ht], fun b' hb => ?_, fun b' hb hb2 => ?_⟩⟩
          · simp [Req.rd, Req.wr] at hb; subst hb; rw [hcs]; simp
          · rw [hnew] at hb2
            simp [Req.wr] at hb
            simp [St.new, St.set, beq_if, hb, hb2]
          · simp only [Req.run, hag b (.inr (by simp [Req.wr])), hcs, hc, cond_true, hcs', ht]
          · rw [hnew] at hb
            simp only [Req.wr, List.mem_singleton] at hb
            simp only [St.new, St.set, beq_if, ht]
            rcases hb with rfl | rfl
            · simp
            · simp
          · rw [hnew] at hb2
            simp [Req.wr] at hb
            simp [St.new, St.set, beq_if, hb, hb2, ht]
        · cases h
    · cases h
theorem getBoxes_congr {s t : St} : ∀ {bs : List Nat}, (∀ b, b ∈ bs → t.heap b = s.heap b) → getBoxes t bs = getBoxes s bs
  | [], _ => rfl
  | b :: bs, h => by
    simp only [getBoxes, h b (by simp), getBoxes_congr fun b hb => h b (List.mem_cons_of_mem _ hb)]
theorem getBoxes_ex {s : St} : ∀ {bs : List Nat} {l : List (List PV)}, getBoxes s bs = some l → ∀ b, b ∈ bs → s.heap b ≠ none
  | [], _, _, b, hb => by simp at hb
  | b0 :: bs, l, h, b, hb => by
    simp only [getBoxes] at h
    split at h
    · rename_i cs hcs
      split at h
      · split at h
        · rename_i l' hl
          rcases List.mem_cons.1 hb with rfl | hb
          · rw [hcs]; simp
          · exact getBoxes_ex hl b hb
        · cases h
      · cases h
    · cases h
theorem setBoxes_other {bs : List Nat} {css : List (List PV)} {st : St} (hn : bs.Nodup) (hl : css.length = bs.length) {b : Nat} (hb : b ∉ bs) : (setBoxes st bs css).heap b = st.heap b := by
  rw [setBoxes_heap hn hl, List.idxOf?_eq_none_iff.2 hb]
theorem setBoxes_in {bs : List Nat} {css : List (List PV)} {s t : St} (hn : bs.Nodup) (hl : css.length = bs.length) {b : Nat} (hb : b ∈ bs) : (setBoxes s bs css).heap b = (setBoxes t bs css).heap b := by
  rw [setBoxes_heap hn hl, setBoxes_heap hn hl]
  cases hi : bs.idxOf? b with
  | none => exact absurd hb (List.idxOf?_eq_none_iff.1 hi)
  | some i => rfl
theorem call_loc {f : FuncId} {vs : List PV} {st : St} {v : PV} {st' : St} {bs : List Nat} (h : CallR P f vs st v st' bs) : Loc (fun t v t' => CallR P f vs t v t' bs) st v st' [] bs := by
  obtain ⟨args, conts, r, conts', h1, h2, h3, h4, h5, h6⟩ := h.ex
  have hnd := distinct_nodup h2
  have key : ∀ (t : St), t.next = st.next → (∀ b, b ∈ bs → t.heap b = st.heap b) → ∀ v2 t', (v2, t') = place r (setBoxes t bs conts') → v2 = v ∧ t'.next = st'.next ∧
      (∀ b, b ∈ bs ∨ newIds st st' b → t'.heap b = st'.heap b) ∧ (∀ b, b ∉ bs → ¬ newIds st st' b → t'.heap b = t.heap b) := by
    intro t ht hag v2 t' ht'
    have hn1 : (setBoxes t bs conts').next = (setBoxes st bs conts').next := by rw [setBoxes_next, setBoxes_next, ht]
    unfold place at h6 ht'
    split at h6
    · rename_i e rows
      simp only [Prod.mk.injEq] at h6 ht'
      obtain ⟨rfl, rfl⟩ := h6
      obtain ⟨rfl, rfl⟩ := ht'
      refine ⟨by rw [hn1], by simp [St.new, hn1], fun b hb => ?_, fun b hb hb2 => ?_⟩
      · simp only [St.new, beq_if, hn1]
        by_cases c : b = (setBoxes st bs conts').next
        · rw [if_pos c, if_pos c]
        · rw [if_neg c, if_neg c]
          rcases hb with hb | hb
          · exact setBoxes_in hnd h4 hb
          · exfalso; unfold newIds at hb; simp [St.new, setBoxes_next] at hb c; omega
      · have c : b ≠ (setBoxes st bs conts').next := by
          rintro rfl
          exact hb2 ⟨by rw [setBoxes_next]; exact Nat.le_refl _, by simp [St.new]⟩
        simp only [St.new, beq_if, hn1, if_neg c]
        exact setBoxes_other hnd h4 hb
    · rename_i hno
      split at ht'
      · rename_i e rows; exact (hno e rows rfl).elim
      · simp only [Prod.mk.injEq] at h6 ht'
        obtain ⟨rfl, rfl⟩ := h6
        obtain ⟨rfl, rfl⟩ := ht'
        refine ⟨rfl, hn1, fun b hb => ?_, fun b hb _ => setBoxes_other hnd h4 hb⟩
        rcases hb with hb | hb
        · exact setBoxes_in hnd h4 hb
        · exfalso; unfold newIds at hb; rw [setBoxes_next] at hb; omega
  have hne : st.next ≤ st'.next := by
    have := place_free h6
    rwa [setBoxes_next] at this
  refine ⟨hne, fun b hb => ?_, fun b hb hb2 => ?_, fun t ht hag => ?_⟩
  · rcases hb with hb | hb
    · simp at hb
    · exact getBoxes_ex h3 b hb
  · exact (key st rfl (fun _ _ => rfl) v st' h6).2.2.2 b hb hb2
  · have hag' : ∀ b, b ∈ bs → t.heap b = st.heap b := fun b hb => hag b (.inr hb)
    obtain ⟨k1, k2, k3, k4⟩ := key t ht hag' (place r (setBoxes t bs conts')).1 (place r (setBoxes t bs conts')).2 rfl
    refine ⟨(place r (setBoxes t bs conts')).2, ⟨args, conts, r, conts', h1, h2, by rw [getBoxes_congr hag']; exact h3, h4, h5, ?_⟩, k2, k3, k4⟩
    rw [← k1]
theorem restrict_congr {st t : St} {fp : List Nat} (hn : t.next = st.next) (h : ∀ b, b ∈ fp → t.heap b = st.heap b) : restrict t fp = restrict st fp := by
  unfold restrict
  rw [hn]
  congr 1
  funext b
  unfold resH
  by_cases c : b ∈ fp
  · simp [c, h b c]
  · simp [c]
theorem callS_loc {f : FuncId} {vs : List PV} {st : St} {v : PV} {st' : St} {fp : List Nat} (h : CallS X.env P f vs st v st' fp) : Loc (fun t v t' => CallS X.env P f vs t v t' fp) st v st' [] fp := by
  obtain ⟨args, s0, h0, h1, h2, h3, h4, rfl⟩ := h.ex
  have hnx : st.next ≤ s0.next := h3.grows.next
  refine ⟨hnx, fun b hb => ?_, fun b hb hb2 => merge_other hb hb2, fun t ht hag => ?_⟩
  · obtain ⟨_, o, ho, _⟩ := h4 b (hb.resolve_left (by simp))
    rw [ho]; simp
  · have hag' : ∀ b, b ∈ fp → t.heap b = st.heap b := fun b hb => hag b (.inr hb)
    refine ⟨merge t fp s0, ⟨args, s0, h0, h1, h2, by rw [restrict_congr ht hag']; exact h3, fun b hb => ?_, rfl⟩, rfl, fun b hb => ?_, fun b hb hb2 => ?_⟩
    · obtain ⟨k1, o, k2, k3⟩ := h4 b hb
      exact ⟨by rw [ht]; exact k1, o, by rw [hag' b hb]; exact k2, k3⟩
    · rw [merge_mine (st := st) (s0 := s0) hb, merge_mine (st := t) (s0 := s0) (by rcases hb with hb | hb; exact .inl hb; exact .inr (by rw [ht]; exact hb))]
    · exact merge_other hb (by rw [ht]; exact hb2)
theorem opR_loc {op : Op} {vs : List PV} {st : St} {v : PV} {st' : St} {rd wr : List Nat} (h : OpR P md X op vs st v st' rd wr) : Loc (fun t v t' => OpR P md X op vs t v t' rd wr) st v st' rd wr := by
  cases h with
  | req _ _ _ q _ _ h1 h2 =>
    have L := req_loc h2
    refine ⟨L.next, L.ex, L.frame, fun t ht hag => ?_⟩
    obtain ⟨t', e1, e2, e3, e4⟩ := L.again t ht hag
    exact ⟨t', .req _ _ _ q _ _ h1 e1, e2, e3, e4⟩
  | call f args ats _ _ _ _ _ he h1 =>
    have L := call_loc h1
    refine ⟨L.next, L.ex, L.frame, fun t ht hag => ?_⟩
    obtain ⟨t', e1, e2, e3, e4⟩ := L.again t ht hag
    exact ⟨t', .call f args ats _ _ _ _ _ he e1, e2, e3, e4⟩
  | callS f args ats _ _ _ _ _ he h1 =>
    have L := callS_loc h1
    refine ⟨L.next, L.ex, L.frame, fun t ht hag => ?_⟩
    obtain ⟨t', e1, e2, e3, e4⟩ := L.again t ht hag
    exact ⟨t', .callS f args ats _ _ _ _ _ he e1, e2, e3, e4⟩
  | dynS f args ats g bd rest _ _ _ _ hno he h1 =>
    have L := callS_loc h1
    refine ⟨L.next, L.ex, L.frame, fun t ht hag => ?_⟩
    obtain ⟨t', e1, e2, e3, e4⟩ := L.again t ht hag
    exact ⟨t', .dynS f args ats g bd rest _ _ _ _ hno he e1, e2, e3, e4⟩
theorem stepR_loc {ops : List Oper} {fr : Fr} {o : Oper} {st : St} {v : PV} {st' : St} {rd wr : List Nat} (h : StepR P md X ops fr o st v st' rd wr) : Loc (fun t v t' => StepR P md X ops fr o t v t' rd wr) st v st' rd wr := by
  cases h with
  | skip hw =>
    refine ⟨Nat.le_refl _, fun b hb => by simp at hb, fun _ _ _ => rfl, fun t ht _ => ⟨t, .skip hw, ht, fun b hb => ?_, fun _ _ _ => rfl⟩⟩
    rcases hb with hb | hb
    · simp at hb
    · unfold newIds at hb; omega
  | run vs _ _ _ _ hw he hop =>
    have L := opR_loc hop
    refine ⟨L.next, L.ex, L.frame, fun t ht hag => ?_⟩
    obtain ⟨t', e1, e2, e3, e4⟩ := L.again t ht hag
    exact ⟨t', .run vs _ _ _ _ hw he e1, e2, e3, e4⟩
end
structure FR (m : J) (nt : Nat) (fr : Fr) (tmps : Array Value) : Prop where
  size : tmps.size = nt
  get : ∀ t, VR m (fr t) (tmps.getD t undef)
section
variable {P : Program} {md : Bool} {X : Mode} {m : J} {w : World}
theorem FR.mono {m' : J} (h : m.le m') {nt : Nat} {fr : Fr} {tmps : Array Value} (hf : FR m nt fr tmps) : FR m' nt fr tmps := ⟨hf.size, fun t => (hf.get t).mono h⟩
theorem FR.set {nt : Nat} {fr : Fr} {tmps : Array Value} (h : FR m nt fr tmps) {d : Nat} (hd : d < nt) {a : PV} {v : Value} (hv : VR m a v) : FR m nt (fr.set d a) (tmps.setIfInBounds d v) := by
  refine ⟨by simp [h.size], fun t => ?_⟩
  rw [Go.Ab.getD_set tmps d v (by rw [h.size]; exact hd)]
  simp only [Fr.set, beq_if]
  by_cases e : t = d
  · rw [if_pos e, if_pos e]; exact hv
  · rw [if_neg e, if_neg e]; exact h.get t
theorem FR.put {nt : Nat} {fr : Fr} {a : Act} (h : FR m nt fr a.tmps) {d : Option Tmp} (hd : fitsT nt d = true) {x : PV} {v : Value} (hv : VR m x v) : FR m nt (fr.put d x) (a.put d v).tmps := by
  cases d with
  | none => exact h
  | some d => exact h.set (blt_lt hd) hv
theorem evalO_rel {nt : Nat} {fr : Fr} {a : Act} (h : FR m nt fr a.tmps) {o : Operand} {x : PV} (he : evalO fr o = some x) : VR m x (a.eval o) := by
  cases o with
  | tmp t => simp only [evalO, Option.some.injEq] at he; subst he; exact h.get t
  | const v => exact cst_rel he
  | global g => cases he
  | func f => cases he; exact .fn f [] [] .nil
theorem evalOs_rel {nt : Nat} {fr : Fr} {a : Act} (h : FR m nt fr a.tmps) : ∀ {l : List Operand} {vs : List PV}, evalOs fr l = some vs → VRs m vs (l.map a.eval)
  | [], vs, he => by simp only [evalOs, Option.some.injEq] at he; subst he; exact .nil
  | o :: r, vs, he => by
    simp only [evalOs] at he
    split at he
    · rename_i x hx
      split at he
      · rename_i l hl
        simp only [Option.some.injEq] at he; subst he
        exact .cons _ _ _ _ (evalO_rel h hx) (evalOs_rel h hl)
      · cases he
    · cases he
theorem wanted_rel {nt : Nat} {fr : Fr} {tmps : Array Value} (h : FR m nt fr tmps) (ops : Array Oper) (o : Oper) {b : Bool} (hw : wantedP ops.toList fr o = some b) : Region.wanted o (yielded ops tmps) = b := by
  unfold wantedP at hw
  unfold Region.wanted yielded
  cases hg : o.guard with
  | none => simp only [hg] at hw ⊢; cases hw; rfl
  | some p =>
    obtain ⟨j, want⟩ := p
    simp only [hg, Array.getElem?_toList] at hw ⊢
    cases hj : ops[j]? with
    | none => simp only [hj] at hw ⊢; cases hw; rfl
    | some o' =>
      simp only [hj, Option.bind_some] at hw ⊢
      cases hd : o'.dst with
      | none => simp only [hd] at hw ⊢; cases hw; rfl
      | some d =>
        simp only [hd, Option.bind_some] at hw ⊢
        have hg := h.get d
        rw [Array.getD_eq_getD_getElem?] at hg
        split at hw
        · rename_i bb hb
          rw [hb] at hg
          cases ht : tmps[d]? with
          | none =>
            rw [ht] at hg
            simp only [Option.getD_none, undef] at hg
            cases hg with | data _ _ hd => cases hd
          | some v =>
            rw [ht] at hg
            simp only [Option.getD_some] at hg
            cases hg with | data _ _ hd => cases hd; cases bb <;> cases want <;> cases b <;> first | rfl | (cases hw)
        · rename_i hb
          rw [hb] at hg
          cases hw
          cases ht : tmps[d]? with
          | none => rfl
          | some v =>
            rw [ht] at hg
            simp only [Option.getD_some] at hg
            cases hg with
            | data _ _ hd => cases hd
            | tuple _ l' hl => cases hl; rfl
        · cases hw
theorem step_one {st : St} {nt : Nat} {fr : Fr} {a : Act} (hfr : FR m nt fr a.tmps) {ops : Array Oper} {i : Nat} {o : Oper} (ho : ops[i]? = some o) (hfit : fitsT nt o.dst = true) (hw : wantedP ops.toList fr o = some true) {v : PV} {st' : St} (ro : Option Nat) (K : Act → World → Prop) (Q : Exit → Act → World → Prop)
    (hsem : o.semAt (Fw ro).round a.eval = execOp a.eval o) (fin : NextOk P ro m w st'.heap v ((execOp a.eval o).run P w))
    (hK : ∀ m' a' w', Ext m w m' w' → Rel m' st'.heap w' → FR m' nt (fr.put o.dst v) a'.tmps → a'.defers = a.defers → K a' w') :
    wpOpIn (Fw ro) 0 P ops Q i K a w := by
  unfold wpOpIn
  rw [ho]
  simp only
  rw [wanted_rel hfr ops o hw, if_pos rfl]
  refine ⟨fun _ _ => trivial, ?_⟩
  rw [hsem]
  exact fin o a K Q fun m' v' w' h1 h2 h3 => hK m' _ w' h1 h2 ((hfr.mono h1.le).put hfit h3) (Go.Ab.put_defers _ _ _)
theorem sem_call {o : Oper} {c : Call} (ho : o.op = .call c) (r : Option Nat) (ρ : Operand → Value) : o.semAt r ρ = execOp ρ o := by
  apply Oper.semAt_eq
  intro cc hc
  rw [ho] at hc; cases hc
theorem exec_value {o : Oper} {f : Operand} {args : Array Operand} {ats : Array TypeId} (ho : o.op = .call ⟨.value f, args, ats⟩) (ρ : Operand → Value) :
    execOp ρ o = (do let d ← Deferred.ofValue (ρ f) (args.toList.map ρ).toArray; Go.invoke d.target d.args) := by
  obtain ⟨dst, op, ty, pos, after, guard⟩ := o
  simp only at ho
  subst ho
  simp only [execOp, resolve, Go.Ab.map_toList_toArray]
theorem opR_next {st : St} (hE : EnvIn X.env m) (hr : Rel m st.heap w) {nt : Nat} {fr : Fr} {a : Act} (hfr : FR m nt fr a.tmps) {o : Oper} {vs : List PV} (he : evalOs fr (argsOf o.op) = some vs) {v : PV} {st' : St} {rd wr : List Nat} (hop : OpR P md X o.op vs st v st' rd wr)
    (hf : ∀ b, st.next ≤ b → b < st'.next → st.heap b = none) (ro : Option Nat) : o.semAt (Fw ro).round a.eval = execOp a.eval o ∧ NextOk P ro m w st'.heap v ((execOp a.eval o).run P w) := by
  have hrel := evalOs_rel hfr he
  have hsem : o.semAt (Fw ro).round a.eval = execOp a.eval o := by
    apply Oper.semAt_eq
    intro c hc
    rw [hc] at hop
    cases hop with
    | req _ _ _ q _ _ h1 _ => simp [opQ] at h1
  refine ⟨hsem, ?_⟩
  generalize hop' : o.op = op at hop hrel
  cases hop with
  | req _ _ _ q _ _ h1 h2 =>
    have hargs : argsOf op = op.operands.toList := by
      unfold argsOf
      split
      · simp [opQ] at h1
      · rfl
    rw [hargs] at hrel
    subst hop'
    exact op_sim hr h1 h2 hf hrel ro
  | call f args ats _ _ _ _ _ hen hc =>
    unfold entersB at hen
    split at hen
    · rename_i fn hfn
      obtain ⟨e1, e2⟩ := Go.Ab.and_true hen
      rw [exec_value hop' a.eval]
      have hrun : (do let d ← Deferred.ofValue (a.eval (.func f)) (args.toList.map a.eval).toArray; Go.invoke d.target d.args : Sem Next).run P w = (callFunc f (args.toList.map a.eval).toArray).run P w := by
        show (do let d ← Deferred.ofValue (.func (.func f) #[] #[]) (args.toList.map a.eval).toArray; Go.invoke d.target d.args : Sem Next).run P w = _
        simp only [Deferred.ofValue, pure_bind, Go.invoke]
        simp
      rw [hrun]
      exact call_sim hr hfn e1 (by simpa using e2) hc hf hrel ro
    · cases hen
  | callS f args ats _ _ _ _ fp hen hc =>
    obtain ⟨as, s0, h0, h1, h2, h3, h4, rfl⟩ := hc.ex
    unfold entersB at hen
    split at hen
    · rename_i fn hfn
      obtain ⟨e1, e2⟩ := Go.Ab.and_true hen
      rw [exec_value hop' a.eval]
      have hrun : (do let d ← Deferred.ofValue (a.eval (.func f)) (args.toList.map a.eval).toArray; Go.invoke d.target d.args : Sem Next).run P w = (callFunc f (args.toList.map a.eval).toArray).run P w := by
        show (do let d ← Deferred.ofValue (.func (.func f) #[] #[]) (args.toList.map a.eval).toArray; Go.invoke d.target d.args : Sem Next).run P w = _
        simp only [Deferred.ofValue, pure_bind, Go.invoke]
        simp
      rw [hrun]
      exact sc_sim hE hr hfn e1 (by simpa using e2) ((h3.frame_runs h0 h2 h4 hf).weak h1) hrel ro
    · cases hen
  | dynS f args ats g bd rest _ _ _ fp hno hen hc =>
    obtain ⟨as, s0, h0, h1, h2, h3, h4, rfl⟩ := hc.ex
    unfold entersB at hen
    split at hen
    · rename_i fn hfn
      obtain ⟨e1, e2⟩ := Go.Ab.and_true hen
      rw [exec_value hop' a.eval]
      have hargs : argsOf (.call ⟨.value f, args, ats⟩) = (Op.call ⟨.value f, args, ats⟩).operands.toList := by
        unfold argsOf
        split
        · rename_i f' _ _ heq
          cases heq
          exact absurd rfl (hno f')
        · rfl
      rw [hargs] at hrel
      have hrel : VRs m (.bfn g bd :: rest) (a.eval f :: args.toList.map a.eval) := by simpa [Op.operands, Call.operands] using hrel
      generalize a.eval f = fv at hrel
      cases hrel with | cons _ _ _ _ hf' ha =>
      cases hf' with
      | data _ _ hd => cases hd
      | bfn _ _ cs hcs =>
        have hrun : (do let d ← Deferred.ofValue (.func (.func g) cs.toArray #[]) (args.toList.map a.eval).toArray; Go.invoke d.target d.args : Sem Next).run P w = (callFunc g (cs ++ args.toList.map a.eval).toArray).run P w := by
          simp only [Deferred.ofValue, pure_bind, Go.invoke]
          simp
        rw [hrun]
        exact sc_sim hE hr hfn e1 (by simpa using e2) ((h3.frame_runs h0 h2 h4 hf).weak h1) (hcs.append ha) ro
    · cases hen
theorem Free.step {ops : List Oper} {fr : Fr} {o : Oper} {st : St} {v : PV} {st' : St} {rd wr : List Nat} (hf : Free st) (h : StepR P md X ops fr o st v st' rd wr) : Free st' := by
  have L := stepR_loc h
  intro b hb
  have hn := L.next
  by_cases c : b ∈ wr
  · exact absurd (hf b (by omega)) (L.ex b (.inr c))
  · rw [L.frame b c (fun hh => by unfold newIds at hh; omega)]
    exact hf b (by omega)
theorem Grows.step {ops : List Oper} {fr : Fr} {o : Oper} {st : St} {v : PV} {st' : St} {rd wr : List Nat} (h : StepR P md X ops fr o st v st' rd wr) : Grows st st' := by
  have L := stepR_loc h
  refine ⟨L.next, fun b hb hn => ?_⟩
  by_cases c : b ∈ wr
  · exact absurd hn (L.ex b (.inr c))
  · rw [L.frame b c (fun hh => by unfold newIds at hh; omega)]; exact hn
theorem step_k {st : St} (hE : EnvIn X.env m) (hr : Rel m st.heap w) (hfree : Free st) {nt : Nat} {fr : Fr} {a : Act} (hfr : FR m nt fr a.tmps) {ops : Array Oper} {i : Nat} {o : Oper} (ho : ops[i]? = some o)
    (hfit : fitsT nt o.dst = true) {k : PV → St → List Nat → List Nat → Prop} (h : gP P md X true ops.toList o fr st k) (ro : Option Nat) (K : Act → World → Prop) (Q : Exit → Act → World → Prop)
    (hK : ∀ m' a' w' v st' rd wr, Ext m w m' w' → Rel m' st'.heap w' → Free st' → Grows st st' → FR m' nt (fr.put o.dst v) a'.tmps → a'.defers = a.defers → k v st' rd wr → K a' w') :
    wpOpIn (Fw ro) 0 P ops Q i K a w := by
  have skip : wantedP ops.toList fr o = some false → k .undef st [] [] → wpOpIn (Fw ro) 0 P ops Q i K a w := by
    intro hw hk
    unfold wpOpIn
    rw [ho]
    simp only
    rw [wanted_rel hfr ops o hw, if_neg (by simp)]
    exact ⟨fun _ _ => trivial, hK m (a.put o.dst undef) w .undef st [] [] (Ext.refl m w) hr hfree (Grows.refl _) (hfr.put hfit (.tuple [] [] .nil)) (Go.Ab.put_defers _ _ _) hk⟩
  have stepQ : wantedP ops.toList fr o = some true → ∀ (Q0 : PV → St → Prop), o.semAt (Fw ro).round a.eval = execOp a.eval o → NextQ P ro m w st Q0 ((execOp a.eval o).run P w) → (∀ v st', Grows st st' → Free st' → Q0 v st' → k v st' [] []) → wpOpIn (Fw ro) 0 P ops Q i K a w := by
    intro hw Q0 hsem fin hk
    unfold wpOpIn
    rw [ho]
    simp only
    rw [wanted_rel hfr ops o hw, if_pos rfl]
    refine ⟨fun _ _ => trivial, ?_⟩
    rw [hsem]
    exact fin o a K Q fun m' v' w' y st' h1 h2 h3 h4 h5 h6 => hK m' _ w' y st' [] [] h1 h2 h5 h4 ((hfr.mono h1.le).put hfit h3) (Go.Ab.put_defers _ _ _) (hk y st' h4 h5 h6)
  have one : wantedP ops.toList fr o = some true → oneP P md X true o.op fr st k → wpOpIn (Fw ro) 0 P ops Q i K a w := by
    intro hw h
    obtain ⟨vs, he, h⟩ := optP_some h
    have hrel := evalOs_rel hfr he
    have byR : ∀ {v st' rd wr}, OpR P md X o.op vs st v st' rd wr → k v st' rd wr → wpOpIn (Fw ro) 0 P ops Q i K a w := by
      intro v st' rd wr hop hk
      obtain ⟨h1, h2⟩ := opR_next hE hr hfr he hop (fun b hb _ => hfree b hb) ro
      have hs : StepR P md X ops.toList fr o st v st' rd wr := .run vs _ _ _ _ hw he hop
      exact step_one (st := st) hfr ho hfit hw ro K Q h1 h2 fun m' a' w' e1 e2 e3 e4 => hK m' a' w' v st' rd wr e1 e2 (hfree.step hs) (Grows.step hs) e3 e4 hk
    generalize hop' : o.op = op at h hrel byR
    unfold opP at h
    split at h
    · rename_i f args ats
      cases hen : entersB P f with
      | false => simp only [hen, cond_false] at h
      | true =>
        have hen2 := hen
        simp only [hen, cond_true] at h
        replace h := (callU_or P X).1 h
        unfold entersB at hen
        split at hen
        · rename_i fn hfn
          obtain ⟨e1, e2⟩ := Go.Ab.and_true hen
          have hrun : (execOp a.eval o).run P w = (callFunc f (args.toList.map a.eval).toArray).run P w := by
            rw [exec_value hop' a.eval]
            show (do let d ← Deferred.ofValue (.func (.func f) #[] #[]) (args.toList.map a.eval).toArray; Go.invoke d.target d.args : Sem Next).run P w = _
            simp only [Deferred.ofValue, pure_bind, Go.invoke]
            simp
          rcases h with ⟨v, st', bs, h1, h2⟩ | h
          · exact byR (.call f args ats vs st v st' bs hen2 h1) h2
          · replace h : callX P X f vs st fun v st' => k v st' [] [] := h
            unfold callX at h
            split at h
            · exact h.elim
            · obtain ⟨v, st', hc, hk⟩ := h
              exact stepQ hw (fun y s => y = v ∧ s = st') (sem_call hop' _ _) (by rw [hrun]; exact sw_sim hE hr hfn e1 (by simpa using e2) hc hrel ro) (by rintro y s _ _ ⟨rfl, rfl⟩; exact hk)
            · obtain ⟨Q0, hc, hk⟩ := h
              exact stepQ hw Q0 (sem_call hop' _ _) (by rw [hrun]; exact sw_sim hE hr hfn e1 (by simpa using e2) hc hrel ro) hk
        · cases hen
    · rename_i f args ats hno
      have h : ∃ E, X = .weak E ∧ ∃ Q, DynR E P vs st Q ∧ ∀ v st', Grows st st' → Free st' → Q v st' → k v st' [] [] := by
        cases X with
        | old => exact h.elim
        | det E => exact h.elim
        | weak E => exact ⟨E, rfl, h⟩
      obtain ⟨E, rfl, Q0, hc, hk⟩ := h
      refine stepQ hw Q0 (sem_call hop' _ _) ?_ hk
      rw [exec_value hop' a.eval]
      have hargs : argsOf (.call ⟨.value f, args, ats⟩) = (Op.call ⟨.value f, args, ats⟩).operands.toList := by
        unfold argsOf
        split
        · rename_i f' _ _ heq
          cases heq
          exact absurd rfl (hno f')
        · rfl
      rw [hargs] at hrel
      exact dyn_sim hE hr hc (by simpa [Op.operands, Call.operands] using hrel) ro
    · rename_i r0 name args ats
      have h : ∃ E, X = .weak E ∧ ∃ Q, InvR E P name vs st Q ∧ ∀ v st', Grows st st' → Free st' → Q v st' → k v st' [] [] := by
        cases X with
        | old => exact h.elim
        | det E => exact h.elim
        | weak E => exact ⟨E, rfl, h⟩
      obtain ⟨E, rfl, Q0, hc, hk⟩ := h
      refine stepQ hw Q0 (sem_call hop' _ _) ?_ hk
      have hex : execOp a.eval o = callMethod (a.eval r0) name (args.toList.map a.eval).toArray := by
        obtain ⟨dst, op, ty, pos, after, guard⟩ := o
        simp only at hop'
        subst hop'
        simp only [execOp, resolve, Go.Ab.map_toList_toArray, pure_bind, invoke]
        simp
        rw [List.take_of_length_le (by rw [List.length_map, Array.length_toList]; exact Nat.le_refl _)]
      rw [hex]
      exact inv_sim hE hr hc (by simpa [argsOf, Op.operands, Call.operands] using hrel) ro
    · obtain ⟨q, h1, h2⟩ := optP_some h
      obtain ⟨⟨v, st'⟩, h3, h4⟩ := optP_some h2
      exact byR (.req _ vs st q v st' h1 h3) h4
  unfold gP at h
  cases hg : o.guard with
  | none =>
    rw [hg] at h
    exact one (by simp [wantedP, hg]) h
  | some p =>
    obtain ⟨j, want⟩ := p
    rw [hg] at h
    simp only at h
    cases hj : ops.toList[j]? with
    | none =>
      rw [hj] at h
      exact skip (by simp only [wantedP, hg, hj]) h
    | some o' =>
      rw [hj] at h
      simp only at h
      cases hd : o'.dst with
      | none =>
        rw [hd] at h
        exact skip (by simp only [wantedP, hg, hj, hd]) h
      | some d =>
        rw [hd] at h
        simp only at h
        have hw : wantedP ops.toList fr o = guardV (fr d) want := by simp only [wantedP, hg, hj, hd]; rfl
        unfold pGL at h
        split at h
        · rename_i he; exact one (by rw [hw, he]) h
        · rename_i he; exact skip (by rw [hw, he]) h
        · exact h.elim
theorem step_sim {st : St} (hE : EnvIn X.env m) (hr : Rel m st.heap w) {nt : Nat} {fr : Fr} {a : Act} (hfr : FR m nt fr a.tmps) {ops : Array Oper} {i : Nat} {o : Oper} (ho : ops[i]? = some o)
    (hfit : fitsT nt o.dst = true) {v : PV} {st' : St} {rd wr : List Nat} (h : StepR P md X ops.toList fr o st v st' rd wr) (hf : ∀ b, st.next ≤ b → b < st'.next → st.heap b = none) (ro : Option Nat) (K : Act → World → Prop) (Q : Exit → Act → World → Prop)
    (hK : ∀ m' a' w', Ext m w m' w' → Rel m' st'.heap w' → FR m' nt (fr.put o.dst v) a'.tmps → a'.defers = a.defers → K a' w') :
    wpOpIn (Fw ro) 0 P ops Q i K a w := by
  cases h with
  | skip hw =>
    unfold wpOpIn
    rw [ho]
    simp only
    rw [wanted_rel hfr ops o hw, if_neg (by simp)]
    exact ⟨fun _ _ => trivial, hK m (a.put o.dst undef) w (Ext.refl m w) hr (hfr.put hfit (.tuple [] [] .nil)) (Go.Ab.put_defers _ _ _)⟩
  | run vs _ _ _ _ hw he hop =>
    obtain ⟨h1, h2⟩ := opR_next hE hr hfr he hop hf ro
    exact step_one (st := st) hfr ho hfit hw ro K Q h1 h2 hK
theorem ops_sim (ro : Option Nat) {nt : Nat} {ops : Array Oper} (Q : Exit → Act → World → Prop) {K : Ks} : ∀ (rest : List Oper) (i : Nat), rest = ops.toList.drop i →
    ∀ {m : J} {w : World} {st : St} {fr : Fr} {a : Act}, EnvIn X.env m → Rel m st.heap w → Free st → FR m nt fr a.tmps → oP P md X nt ops.toList rest K fr st →
    (∀ m' a' w' fr' st', Ext m w m' w' → Rel m' st'.heap w' → Free st' → Grows st st' → FR m' nt fr' a'.tmps → a'.defers = a.defers → K fr' st' → Q .normal a' w') →
    wpOpsIn (Fw ro) 0 P ops Q (List.range' i rest.length) a w
  | [], i, hrest, m, w, st, fr, a, hE, hr, hf, hfr, h, hQ => hQ m a w fr st (Ext.refl m w) hr hf (Grows.refl _) hfr rfl h
  | o :: rest, i, hrest, m, w, st, fr, a, hE, hr, hf, hfr, h, hQ => by
    have ho : ops[i]? = some o := by
      have : (ops.toList.drop i)[0]? = some o := by rw [← hrest]; rfl
      rw [List.getElem?_drop] at this
      simpa using this
    have hrest' : rest = ops.toList.drop (i + 1) := by
      have : (ops.toList.drop i).drop 1 = rest := by rw [← hrest]; rfl
      rw [List.drop_drop] at this
      exact this.symm
    simp only [oP] at h
    cases hfit : fitsT nt o.dst with
    | false => simp only [hfit, cond_false] at h
    | true =>
      simp only [hfit, cond_true] at h
      rw [List.length_cons, List.range'_succ, wpOpsIn_cons]
      exact step_k hE hr hf hfr ho hfit h ro _ Q fun m1 a1 w1 v st1 rd wr e1 r1 f2 w2 fr1 d1 h2 =>
        ops_sim ro Q rest (i + 1) hrest' (hE.le e1) r1 f2 fr1 h2 fun m2 a2 w2' fr2 st2 e2 r2 f3 w3 g2 d2 k2 => hQ m2 a2 w2' fr2 st2 (e1.trans e2) r2 f3 (w2.trans w3) g2 (d2.trans d1) k2
theorem region_sim (ro : Option Nat) {nt : Nat} {ops : Array Oper} {id : Nat} (Q : Exit → Act → World → Prop) {K : Ks} {st : St} {fr : Fr} {a : Act}
    (hE : EnvIn X.env m) (hr : Rel m st.heap w) (hf : Free st) (hfr : FR m nt fr a.tmps) (h : oP P md X nt ops.toList ops.toList K fr st)
    (hQ : ∀ m' a' w' fr' st', Ext m w m' w' → Rel m' st'.heap w' → Free st' → Grows st st' → FR m' nt fr' a'.tmps → a'.defers = a.defers → K fr' st' → Q .normal a' w') : (Code.region id ops false).wpIn (Fw ro) 0 P Q a w := by
  apply wpIn_region
  have := ops_sim ro Q ops.toList 0 (by simp) hE hr hf hfr h hQ
  rw [List.range_eq_range']
  simpa using this
end
end Go.Vi
namespace Go.Vi
open Go.Ab (Fw fitsT befores bs bs_bit edgesOk_spec slotsAll_spec slotsOk slotsOk_spec staticOk left left_zero left_set getD_listed namesOf tmpsOf bit and_true)
def ids (a b : Nat) : List Nat := List.range' a (b - a)
theorem mem_ids {a b x : Nat} : x ∈ ids a b ↔ a ≤ x ∧ x < b := by
  unfold ids
  rw [List.mem_range'_1]
  omega
abbrev Log := List Nat × List Nat
def clashB (a b : Log) : Bool := a.2.any (fun x => b.1.contains x || b.2.contains x) || a.1.any fun x => b.2.contains x
theorem clashB_false {a b : Log} (h : clashB a b = false) (x : Nat) : ¬ (x ∈ a.2 ∧ (x ∈ b.1 ∨ x ∈ b.2)) ∧ ¬ (x ∈ a.1 ∧ x ∈ b.2) := by
  unfold clashB at h
  rw [Bool.or_eq_false_iff] at h
  obtain ⟨h1, h2⟩ := h
  constructor
  · rintro ⟨h3, h4⟩
    have := List.any_eq_false.1 h1 x h3
    simp at this
    rcases h4 with h | h
    · exact this.1 h
    · exact this.2 h
  · rintro ⟨h3, h4⟩
    have := List.any_eq_false.1 h2 x h3
    simp at this
    exact this h4
def clashInB (m : Nat) (l : Log) : List Log → Nat → Bool
  | [], _ => false
  | a :: r, i => (!(Nat.testBit m i) && clashB a l) || clashInB m l r (i + 1)
def clashesB (done : List Log) : List Log → List Nat → Bool
  | [], _ => false
  | _ :: _, [] => true
  | l :: r, m :: ms => clashInB m l done 0 || clashesB (done ++ [l]) r ms
theorem clashInB_false {m : Nat} {l : Log} : ∀ {done : List Log} {i : Nat}, clashInB m l done i = false → ∀ j a, done[j]? = some a → bit m (i + j) ∨ clashB a l = false
  | [], i, _, j, a, h => by simp at h
  | x :: r, i, h, j, a, hj => by
    simp only [clashInB, Bool.or_eq_false_iff, Bool.and_eq_false_iff, Bool.not_eq_false'] at h
    cases j with
    | zero => simp at hj; subst hj; exact h.1
    | succ j =>
      simp at hj
      have := clashInB_false h.2 j a hj
      rwa [show i + 1 + j = i + (j + 1) by omega] at this
theorem clashesB_false : ∀ {rest done : List Log} {ms : List Nat}, clashesB done rest ms = false → ∀ i j l a, i < done.length + j → rest[j]? = some l → (done ++ rest)[i]? = some a → bit (ms.getD j 0) i ∨ clashB a l = false
  | [], done, ms, _, i, j, l, a, _, h, _ => by simp at h
  | x :: r, done, [], h, i, j, l, a, _, _, _ => by simp [clashesB] at h
  | x :: r, done, m :: ms, h, i, j, l, a, hij, hl, ha => by
    simp only [clashesB, Bool.or_eq_false_iff] at h
    cases j with
    | zero =>
      simp at hl; subst hl
      rw [List.getElem?_append_left (by omega)] at ha
      have := clashInB_false h.1 i a ha
      rw [Nat.zero_add] at this
      simpa using this
    | succ j =>
      simp at hl
      have := clashesB_false h.2 i j l a (by simp; omega) hl (by simpa using ha)
      simpa using this
section
variable (P : Program) (md : Bool) (X : Mode) (nt : Nat)
def oDP (ops : List Oper) : List Oper → (Fr → List Log → St → Prop) → Ks
  | [], K => fun fr st => K fr [] st
  | o :: r, K => fun fr st => bif fitsT nt o.dst then gP P md X false ops o fr st (fun v st' rd wr => oDP ops r (fun fr l s => K fr ((rd, wr ++ ids st.next st'.next) :: l) s) (fr.put o.dst v) st') else False
def regP (ops : List Oper) (d : Bool) (K : Ks) : Ks := match d with
  | false => oP P md X nt ops ops K
  | true => fun fr st => bif staticOk ops && P.follows .mixedOrders then oDP P md X nt ops ops (fun fr l st => clashesB [] l (befores ops []) = false ∧ K fr st) fr st else False
end
section
variable {P : Program} {md : Bool} {X : Mode}
structure Run (P : Program) (md : Bool) (X : Mode) (ops : List Oper) (S : Nat → St) (F : Nat → Fr) (V : Nat → PV) (L : Nat → Log) (i : Nat) (o : Oper) : Prop where
  ex : ∃ wr, L i = ((L i).1, wr ++ ids (S i).next (S (i + 1)).next) ∧ StepR P md X ops (F i) o (S i) (V i) (S (i + 1)) (L i).1 wr
  fr : F (i + 1) = (F i).put o.dst (V i)
theorem opsD_trace {nt : Nat} {ops : List Oper} : ∀ (rest : List Oper) (k : Nat), rest = ops.drop k → ∀ {st : St} {fr : Fr} {K : Fr → List Log → St → Prop}, oDP P md X nt ops rest K fr st →
    ∃ (S : Nat → St) (F : Nat → Fr) (V : Nat → PV) (l : List Log), S k = st ∧ F k = fr ∧ K (F (k + rest.length)) l (S (k + rest.length)) ∧ l.length = rest.length ∧
      ∀ i o, k ≤ i → ops[i]? = some o → fitsT nt o.dst = true ∧ Run P md X ops S F V (fun i => l.getD (i - k) ([], [])) i o
  | [], k, hrest, st, fr, K, h => by
    refine ⟨fun _ => st, fun _ => fr, fun _ => .undef, [], rfl, rfl, h, rfl, fun i o hi ho => ?_⟩
    have : (ops.drop k)[i - k]? = some o := by rw [List.getElem?_drop, show k + (i - k) = i by omega]; exact ho
    rw [← hrest] at this; simp at this
  | o :: rest, k, hrest, st, fr, K, h => by
    have ho : ops[k]? = some o := by
      have : (ops.drop k)[0]? = some o := by rw [← hrest]; rfl
      rw [List.getElem?_drop] at this; simpa using this
    have hrest' : rest = ops.drop (k + 1) := by
      have : (ops.drop k).drop 1 = rest := by rw [← hrest]; rfl
      rw [List.drop_drop] at this; exact this.symm
    simp only [oDP] at h
    cases hfit : fitsT nt o.dst with
    | false => simp only [hfit, cond_false] at h
    | true =>
      simp only [hfit, cond_true] at h
      obtain ⟨v, st1, rd, wr, h1, h2⟩ := gP_sound P md X h
      obtain ⟨S, F, V, l, g1, g2, g3, g4, g5⟩ := opsD_trace rest (k + 1) hrest' h2
      refine ⟨fun i => if i = k then st else S i, fun i => if i = k then fr else F i, fun i => if i = k then v else V i, (rd, wr ++ ids st.next st1.next) :: l, by simp, by simp, ?_, by simp [g4], fun i o' hi ho' => ?_⟩
      · simp only [List.length_cons]
        rw [if_neg (by omega), if_neg (by omega), show k + (rest.length + 1) = k + 1 + rest.length by omega]; exact g3
      · by_cases hik : i = k
        · subst hik
          rw [ho] at ho'; cases ho'
          refine ⟨hfit, ⟨wr, ?_, ?_⟩, ?_⟩
          · simp [g1]
          · simp only [if_true, Nat.sub_self, List.getD_cons_zero]
            rw [if_neg (by omega), g1]; exact h1
          · simp only [if_true]
            rw [if_neg (by omega), g2]
        · obtain ⟨k1, ⟨wr', k2, k3⟩, k4⟩ := g5 i o' (by omega) ho'
          have hgd : ((rd, wr ++ ids st.next st1.next) :: l).getD (i - k) ([], []) = l.getD (i - (k + 1)) ([], []) := by
            rw [show i - k = (i - (k + 1)) + 1 by omega]; simp
          refine ⟨k1, ⟨wr', ?_, ?_⟩, ?_⟩
          · simp only [if_neg hik, hgd]
            rw [if_neg (by omega)]; exact k2
          · simp only [if_neg hik, hgd]
            rw [if_neg (by omega)]; exact k3
          · simp only [if_neg hik]
            rw [if_neg (by omega)]; exact k4
theorem run_locs {ops : List Oper} {S : Nat → St} {F : Nat → Fr} {V : Nat → PV} {L : Nat → Log} {i : Nat} {o : Oper} (h : Run P md X ops S F V L i o) :
    (S i).next ≤ (S (i + 1)).next ∧ (∀ b, newIds (S i) (S (i + 1)) b → b ∈ (L i).2) ∧ (∀ b, b ∉ (L i).2 → (S (i + 1)).heap b = (S i).heap b) ∧ (Free (S i) → Free (S (i + 1))) ∧
    ∀ t : St, t.next = (S i).next → (∀ b, b ∈ (L i).1 ∨ b ∈ (L i).2 → t.heap b = (S i).heap b) →
      ∃ t' rd wr, StepR P md X ops (F i) o t (V i) t' rd wr ∧ t'.next = (S (i + 1)).next ∧ (∀ b, b ∈ (L i).2 → t'.heap b = (S (i + 1)).heap b) ∧ (∀ b, b ∉ (L i).2 → t'.heap b = t.heap b) := by
  obtain ⟨wr, h1, h2⟩ := h.ex
  have X := stepR_loc h2
  have hmem : ∀ b, b ∈ (L i).2 ↔ b ∈ wr ∨ newIds (S i) (S (i + 1)) b := by
    intro b
    rw [h1]
    simp only [List.mem_append, mem_ids]
    rfl
  refine ⟨X.next, fun b hb => (hmem b).2 (.inr hb), fun b hb => ?_, fun hf => hf.step h2, fun t ht hag => ?_⟩
  · rw [hmem, not_or] at hb
    exact X.frame b hb.1 hb.2
  · obtain ⟨t', e1, e2, e3, e4⟩ := X.again t ht fun b hb => hag b (hb.imp id fun h => (hmem b).2 (.inl h))
    refine ⟨t', _, _, e1, e2, fun b hb => e3 b ((hmem b).1 hb), fun b hb => ?_⟩
    rw [hmem, not_or] at hb
    exact e4 b hb.1 hb.2
theorem put_get (fr : Fr) (d : Option Tmp) (v : PV) (x : Nat) : (fr.put d v) x = if d = some x then v else fr x := by
  cases d with
  | none => simp [Fr.put]
  | some d =>
    simp only [Fr.put, Fr.set, beq_if, Option.some.injEq]
    by_cases e : x = d
    · rw [if_pos e, if_pos e.symm]
    · rw [if_neg e, if_neg (Ne.symm e)]
def HD (S : Nat → St) (L : Nat → Log) (D : Nat → Bool) : Nat → Nat → Option Obj
  | 0, b => (S 0).heap b
  | k + 1, b => if D k = true ∧ b ∈ (L k).2 then (S (k + 1)).heap b else HD S L D k b
def FD (ops : List Oper) (F : Nat → Fr) (V : Nat → PV) (D : Nat → Bool) : Nat → Nat → PV
  | 0, x => F 0 x
  | k + 1, x => if D k = true ∧ (ops[k]?).bind (·.dst) = some x then V k else FD ops F V D k x
theorem HD_agree {S : Nat → St} {L : Nat → Log} {D : Nat → Bool} {N i b : Nat} (hi : i < N) (hD : D i = false)
    (hframe : ∀ k, k < N → b ∉ (L k).2 → (S (k + 1)).heap b = (S k).heap b)
    (hlow : ∀ k, k < i → b ∈ (L k).2 → D k = true) (hhigh : ∀ k, i < k → k < N → b ∈ (L k).2 → D k = false) :
    HD S L D N b = (S i).heap b := by
  have h1 : ∀ k, k ≤ i → HD S L D k b = (S k).heap b := by
    intro k
    induction k with
    | zero => intro _; rfl
    | succ k ih =>
      intro hk
      simp only [HD]
      by_cases hw : b ∈ (L k).2
      · rw [if_pos ⟨hlow k (by omega) hw, hw⟩]
      · rw [if_neg (by rintro ⟨_, h⟩; exact hw h), ih (by omega), hframe k (by omega) hw]
  have h2 : ∀ k, i ≤ k → k ≤ N → HD S L D k b = (S i).heap b := by
    intro k
    induction k with
    | zero => intro h _; have : i = 0 := by omega
              subst this; rfl
    | succ k ih =>
      intro hk hN
      by_cases e : i = k + 1
      · rw [← e]; exact h1 i (Nat.le_refl _)
      · simp only [HD]
        rw [if_neg, ih (by omega) (by omega)]
        rintro ⟨h3, h4⟩
        by_cases e' : k = i
        · subst e'; rw [hD] at h3; cases h3
        · rw [hhigh k (by omega) (by omega) h4] at h3; cases h3
  exact h2 N (by omega) (Nat.le_refl _)
theorem HD_add {S : Nat → St} {L : Nat → Log} {D D' : Nat → Bool} {N i b : Nat} (hi : i < N) (hD' : ∀ k, D' k = (D k || k == i))
    (hhigh : ∀ k, i < k → k < N → b ∈ (L i).2 → b ∈ (L k).2 → D k = false) :
    HD S L D' N b = if b ∈ (L i).2 then (S (i + 1)).heap b else HD S L D N b := by
  by_cases hw : b ∈ (L i).2
  · rw [if_pos hw]
    have : ∀ k, i + 1 ≤ k → k ≤ N → HD S L D' k b = (S (i + 1)).heap b := by
      intro k
      induction k with
      | zero => intro h _; omega
      | succ k ih =>
        intro hk hN
        simp only [HD]
        by_cases e : k = i
        · subst e; rw [if_pos ⟨by rw [hD']; simp, hw⟩]
        · rw [if_neg, ih (by omega) (by omega)]
          rintro ⟨h3, h4⟩
          rw [hD', hhigh k (by omega) (by omega) hw h4] at h3
          simp at h3; omega
    exact this N (by omega) (Nat.le_refl _)
  · rw [if_neg hw]
    have : ∀ k, HD S L D' k b = HD S L D k b := by
      intro k
      induction k with
      | zero => rfl
      | succ k ih =>
        simp only [HD, ih]
        by_cases e : k = i
        · subst e; rw [if_neg (by rintro ⟨_, h⟩; exact hw h), if_neg (by rintro ⟨_, h⟩; exact hw h)]
        · have : D' k = D k := by rw [hD']; simp [e]
          rw [this]
    exact this N
theorem HD_all {S : Nat → St} {L : Nat → Log} {D : Nat → Bool} {N b : Nat} (hD : ∀ k, k < N → D k = true) (hframe : ∀ k, k < N → b ∉ (L k).2 → (S (k + 1)).heap b = (S k).heap b) :
    HD S L D N b = (S N).heap b := by
  have : ∀ k, k ≤ N → HD S L D k b = (S k).heap b := by
    intro k
    induction k with
    | zero => intro _; rfl
    | succ k ih =>
      intro hk
      simp only [HD]
      by_cases hw : b ∈ (L k).2
      · rw [if_pos ⟨hD k (by omega), hw⟩]
      · rw [if_neg (by rintro ⟨_, h⟩; exact hw h), ih (by omega), hframe k (by omega) hw]
  exact this N (Nat.le_refl _)
theorem FD_step {ops : List Oper} {F : Nat → Fr} {V : Nat → PV} {N x : Nat} (hN : N ≤ ops.length) (hstep : ∀ k o, ops[k]? = some o → F (k + 1) = (F k).put o.dst (V k)) {k : Nat} (hk : k < N) :
    F (k + 1) x = if (ops[k]?).bind (·.dst) = some x then V k else F k x := by
  obtain ⟨o, ho⟩ : ∃ o, ops[k]? = some o := ⟨ops[k]'(by omega), by rw [List.getElem?_eq_getElem]⟩
  rw [hstep k o ho, ho]
  simp only [Option.bind_some]
  exact put_get _ _ _ _
theorem FD_agree {ops : List Oper} {F : Nat → Fr} {V : Nat → PV} {D : Nat → Bool} {N i x : Nat} (hi : i < N) (hD : D i = false) (hN : N ≤ ops.length)
    (hstep : ∀ k o, ops[k]? = some o → F (k + 1) = (F k).put o.dst (V k))
    (hlow : ∀ k, k < i → (ops[k]?).bind (·.dst) = some x → D k = true) (hhigh : ∀ k, i < k → k < N → (ops[k]?).bind (·.dst) = some x → D k = false) :
    FD ops F V D N x = F i x := by
  have h1 : ∀ k, k ≤ i → FD ops F V D k x = F k x := by
    intro k
    induction k with
    | zero => intro _; rfl
    | succ k ih =>
      intro hk
      simp only [FD]
      rw [FD_step hN hstep (k := k) (by omega)]
      by_cases hw : (ops[k]?).bind (·.dst) = some x
      · rw [if_pos ⟨hlow k (by omega) hw, hw⟩, if_pos hw]
      · rw [if_neg (by rintro ⟨_, h⟩; exact hw h), if_neg hw, ih (by omega)]
  have h2 : ∀ k, i ≤ k → k ≤ N → FD ops F V D k x = F i x := by
    intro k
    induction k with
    | zero => intro h _; have : i = 0 := by omega
              subst this; rfl
    | succ k ih =>
      intro hk hN'
      by_cases e : i = k + 1
      · rw [← e]; exact h1 i (Nat.le_refl _)
      · simp only [FD]
        rw [if_neg, ih (by omega) (by omega)]
        rintro ⟨h3, h4⟩
        by_cases e' : k = i
        · subst e'; rw [hD] at h3; cases h3
        · rw [hhigh k (by omega) (by omega) h4] at h3; cases h3
  exact h2 N (by omega) (Nat.le_refl _)
theorem FD_add {ops : List Oper} {F : Nat → Fr} {V : Nat → PV} {D D' : Nat → Bool} {N i x : Nat} (hi : i < N) (hD' : ∀ k, D' k = (D k || k == i))
    (hhigh : ∀ k, i < k → k < N → (ops[i]?).bind (·.dst) = some x → (ops[k]?).bind (·.dst) = some x → D k = false) :
    FD ops F V D' N x = if (ops[i]?).bind (·.dst) = some x then V i else FD ops F V D N x := by
  by_cases hw : (ops[i]?).bind (·.dst) = some x
  · rw [if_pos hw]
    have : ∀ k, i + 1 ≤ k → k ≤ N → FD ops F V D' k x = V i := by
      intro k
      induction k with
      | zero => intro h _; omega
      | succ k ih =>
        intro hk hN
        simp only [FD]
        by_cases e : k = i
        · subst e; rw [if_pos ⟨by rw [hD']; simp, hw⟩]
        · rw [if_neg, ih (by omega) (by omega)]
          rintro ⟨h3, h4⟩
          rw [hD', hhigh k (by omega) (by omega) hw h4] at h3
          simp at h3; omega
    exact this N (by omega) (Nat.le_refl _)
  · rw [if_neg hw]
    have : ∀ k, FD ops F V D' k x = FD ops F V D k x := by
      intro k
      induction k with
      | zero => rfl
      | succ k ih =>
        simp only [FD, ih]
        by_cases e : k = i
        · subst e; rw [if_neg (by rintro ⟨_, h⟩; exact hw h), if_neg (by rintro ⟨_, h⟩; exact hw h)]
        · have : D' k = D k := by rw [hD']; simp [e]
          rw [this]
    exact this N
theorem FD_all {ops : List Oper} {F : Nat → Fr} {V : Nat → PV} {D : Nat → Bool} {N x : Nat} (hD : ∀ k, k < N → D k = true) (hN : N ≤ ops.length)
    (hstep : ∀ k o, ops[k]? = some o → F (k + 1) = (F k).put o.dst (V k)) : FD ops F V D N x = F N x := by
  have : ∀ k, k ≤ N → FD ops F V D k x = F k x := by
    intro k
    induction k with
    | zero => intro _; rfl
    | succ k ih =>
      intro hk
      rw [FD_step hN hstep (k := k) (by omega)]
      simp only [FD, ih (by omega)]
      by_cases e : (ops[k]?).bind (·.dst) = some x
      · rw [if_pos ⟨hD k (by omega), e⟩, if_pos e]
      · rw [if_neg (by rintro ⟨_, h⟩; exact e h), if_neg e]
  exact this N (Nat.le_refl _)
theorem evalOs_congr {f g : Fr} : ∀ {l : List Operand}, (∀ x ∈ tmpsOf l, f x = g x) → evalOs f l = evalOs g l
  | [], _ => rfl
  | o :: r, h => by
    have ho : evalO f o = evalO g o := by
      cases o with
      | tmp t => simp only [evalO, h t (by simp [tmpsOf])]
      | _ => rfl
    have hr : evalOs f r = evalOs g r := evalOs_congr fun x hx => h x (by
      unfold tmpsOf at hx ⊢
      cases o <;> simp_all)
    simp only [evalOs, ho, hr]
theorem tmps_args (op : Op) : ∀ x ∈ tmpsOf (argsOf op), x ∈ tmpsOf op.operands.toList := by
  intro x hx
  unfold argsOf at hx
  split at hx
  · simp only [Op.operands, Call.operands]
    unfold tmpsOf at hx ⊢
    simp at hx ⊢
    exact hx
  · exact hx
theorem stepR_congr {ops : List Oper} {o : Oper} {f g : Fr} (h : ∀ x ∈ namesOf ops o, f x = g x) {st : St} {v : PV} {st' : St} {rd wr : List Nat} (hs : StepR P md X ops f o st v st' rd wr) : StepR P md X ops g o st v st' rd wr := by
  have h1 : wantedP ops f o = wantedP ops g o := by
    unfold wantedP
    cases hg : o.guard with
    | none => rfl
    | some p =>
      obtain ⟨j, want⟩ := p
      simp only
      cases ho : ops[j]? with
      | none => rfl
      | some o' =>
        simp only
        cases hd : o'.dst with
        | none => rfl
        | some d =>
          simp only
          rw [h d (by simp [namesOf, hg, ho, hd])]
  have h2 : evalOs f (argsOf o.op) = evalOs g (argsOf o.op) := evalOs_congr fun x hx => h x (by unfold namesOf; exact List.mem_append_left _ (tmps_args _ x hx))
  cases hs with
  | skip hw => exact .skip (h1 ▸ hw)
  | run vs _ _ _ _ hw he hop => exact .run vs _ _ _ _ (h1 ▸ hw) (h2 ▸ he) hop
structure Known (P : Program) (md : Bool) (X : Mode) (nt : Nat) (ops : Array Oper) (S : Nat → St) (F : Nat → Fr) (V : Nat → PV) (L : Nat → Log) : Prop where
  step : ∀ i o, ops[i]? = some o → fitsT nt o.dst = true ∧ Run P md X ops.toList S F V L i o
  edge : ∀ i o, ops[i]? = some o → ∀ e ∈ o.after.toList, Region.binds .any e = true → e.on < i
  mem : ∀ i j, i < j → j < ops.size → bit (bs ops.toList j) i ∨ clashB (L i) (L j) = false
  slot : ∀ i j a b, i < j → ops[i]? = some a → ops[j]? = some b → bit (bs ops.toList j) i ∨ slotsOk ops.toList a b = true
  free : Free (S 0)
theorem Known.frees {nt : Nat} {ops : Array Oper} {S : Nat → St} {F : Nat → Fr} {V : Nat → PV} {L : Nat → Log} (K : Known P md X nt ops S F V L) : ∀ i, i ≤ ops.size → Free (S i) := by
  intro i
  induction i with
  | zero => intro _; exact K.free
  | succ i ih =>
    intro hi
    have ho : ops[i]? = some ops[i] := Array.getElem?_eq_getElem (by omega)
    exact (run_locs (K.step i _ ho).2).2.2.2.1 (ih (by omega))
theorem Known.grows {nt : Nat} {ops : Array Oper} {S : Nat → St} {F : Nat → Fr} {V : Nat → PV} {L : Nat → Log} (K : Known P md X nt ops S F V L) : ∀ i, i ≤ ops.size → Grows (S 0) (S i) := by
  intro i
  induction i with
  | zero => intro _; exact Grows.refl _
  | succ i ih =>
    intro hi
    have ho : ops[i]? = some ops[i] := Array.getElem?_eq_getElem (by omega)
    obtain ⟨wr, _, h2⟩ := (K.step i _ ho).2.ex
    exact (ih (by omega)).trans (Grows.step h2)
theorem any_sim (ro : Option Nat) {nt : Nat} {ops : Array Oper} {S : Nat → St} {F : Nat → Fr} {V : Nat → PV} {L : Nat → Log} (K : Known P md X nt ops S F V L)
    (Q : Exit → Act → World → Prop) {m0 : J} {w0 : World} {df : List Deferred} (hE : EnvIn X.env m0)
    (hQ : ∀ m' a' w', Ext m0 w0 m' w' → Rel m' (S ops.size).heap w' → FR m' nt (F ops.size) a'.tmps → a'.defers = df → Q .normal a' w') :
    ∀ (fuel : Nat) (listed : Array Bool) (a : Act) (w : World) (m : J) (t : St) (f : Fr), listed.size = ops.size → left ops.size listed = fuel →
      (∀ k, k < ops.size → listed.getD k false = true → ∀ j, bit (bs ops.toList k) j → listed.getD j false = true) →
      Ext m0 w0 m w → (∀ b, t.heap b = HD S L (fun k => listed.getD k false) ops.size b) → (∀ x, f x = FD ops.toList F V (fun k => listed.getD k false) ops.size x) →
      Rel m t.heap w → FR m nt f a.tmps → a.defers = df → wpAnyIn (Fw ro) 0 P .any ops Q fuel listed a w := by
  have hframe : ∀ b k, k < ops.size → b ∉ (L k).2 → (S (k + 1)).heap b = (S k).heap b := by
    intro b k hk
    have ho : ops[k]? = some ops[k] := Array.getElem?_eq_getElem hk
    exact (run_locs (K.step k _ ho).2).2.2.1 b
  have hstep : ∀ k o, ops.toList[k]? = some o → F (k + 1) = (F k).put o.dst (V k) := fun k o ho => (K.step k o (by simpa using ho)).2.fr
  have hlen : ops.size ≤ ops.toList.length := by simp
  have hdone : ∀ (listed : Array Bool) (a : Act) (w : World) (m : J) (t : St) (f : Fr), (∀ k, k < ops.size → listed.getD k false = true) →
      Ext m0 w0 m w → (∀ b, t.heap b = HD S L (fun k => listed.getD k false) ops.size b) → (∀ x, f x = FD ops.toList F V (fun k => listed.getD k false) ops.size x) →
      Rel m t.heap w → FR m nt f a.tmps → a.defers = df → Q .normal a w := by
    intro listed a w m t f hall he ht hf' hr hfr hd
    refine hQ m a w he ?_ ?_ hd
    · exact hr.congr fun b => by rw [ht, HD_all hall (hframe b)]
    · refine ⟨hfr.size, fun x => ?_⟩
      have := hfr.get x
      rw [hf', FD_all hall hlen hstep] at this
      exact this
  intro fuel
  induction fuel with
  | zero =>
    intro listed a w m t f hs hl hdown he ht hf' hr hfr hd
    have hall := left_zero hl
    refine ⟨?_, hdone listed a w m t f hall he ht hf' hr hfr hd⟩
    unfold Region.ready
    rw [List.filter_eq_nil_iff]
    intro i hi
    have hi' := List.mem_range.1 hi
    have := hall i hi'
    have h2 : listed.getD i true = true := by
      simp only [Array.getD_eq_getD_getElem?] at this ⊢
      rw [Array.getElem?_eq_getElem (by omega)] at this ⊢
      simpa using this
    simp [h2]
  | succ fuel ih =>
    intro listed a w m t f hs hl hdown he ht hf' hr hfr hd
    have hready : ∀ i, i ∈ Region.ready .any ops listed ↔ ∃ o, ops[i]? = some o ∧ listed.getD i false = false ∧ ∀ e ∈ o.after.toList, Region.binds .any e = true → listed.getD e.on false = true := by
      intro i
      unfold Region.ready
      rw [List.mem_filter, List.mem_range]
      constructor
      · rintro ⟨hi, h⟩
        have ho : ops[i]? = some ops[i] := Array.getElem?_eq_getElem hi
        rw [ho] at h
        simp only [Option.map_some, Option.getD_some, Bool.and_eq_true, Bool.not_eq_true'] at h
        refine ⟨_, ho, ?_, ?_⟩
        · have := h.1
          simp only [Array.getD_eq_getD_getElem?] at this ⊢
          rw [Array.getElem?_eq_getElem (by omega)] at this ⊢
          simpa using this
        · intro e he hb
          have := h.2
          rw [Array.all_eq_true_iff_forall_mem] at this
          have := this e (by simpa using he)
          rw [hb] at this; simpa using this
      · rintro ⟨o, ho, h1, h2⟩
        have hi : i < ops.size := (Array.getElem?_eq_some_iff.1 ho).1
        refine ⟨hi, ?_⟩
        rw [ho]
        simp only [Option.map_some, Option.getD_some, Bool.and_eq_true, Bool.not_eq_true']
        refine ⟨?_, ?_⟩
        · simp only [Array.getD_eq_getD_getElem?] at h1 ⊢
          rw [Array.getElem?_eq_getElem (by omega)] at h1 ⊢
          simpa using h1
        · rw [Array.all_eq_true_iff_forall_mem]
          intro e he
          cases hb : Region.binds .any e with
          | false => rfl
          | true => have := h2 e (by simpa using he) hb; simpa using this
    refine ⟨fun hnil => ?_, fun i hi => ?_⟩
    · refine hdone listed a w m t f ?_ he ht hf' hr hfr hd
      have hall : ∀ n, n < ops.size → ∀ k, k ≤ n → listed.getD k false = true := by
        intro n
        induction n using Nat.strongRecOn with
        | _ n ihn =>
          intro hn k hk
          by_cases hkn : k < n
          · exact ihn k hkn (by omega) k (Nat.le_refl _)
          · have : k = n := by omega
            subst this
            cases hc : listed.getD k false with
            | true => rfl
            | false =>
              have ho : ops[k]? = some ops[k] := Array.getElem?_eq_getElem hn
              have : k ∈ Region.ready .any ops listed := (hready k).2 ⟨_, ho, hc, fun e he hb => by
                have := K.edge k _ ho e he hb
                exact ihn e.on this (by omega) e.on (Nat.le_refl _)⟩
              rw [hnil] at this; cases this
      exact fun k hk => hall k hk k (Nat.le_refl _)
    · obtain ⟨o, ho, hD, hedges⟩ := (hready i).1 hi
      have hi' : i < ops.size := (Array.getElem?_eq_some_iff.1 ho).1
      have hol : ops.toList[i]? = some o := by simpa using ho
      obtain ⟨hfit, hrun⟩ := K.step i o ho
      obtain ⟨n1, n3, n4, n5, n6⟩ := run_locs hrun
      have hbefore : ∀ j, bit (bs ops.toList i) j → listed.getD j false = true := by
        intro j hj
        obtain ⟨e, he, hb, hj⟩ := bs_bit hol (fun e he hb => K.edge i o ho e he hb) hj
        have hlist := hedges e he hb
        rcases hj with rfl | hj
        · exact hlist
        · exact hdown e.on (by have := K.edge i o ho e he hb; omega) hlist j hj
      have hafter : ∀ k, i < k → k < ops.size → bit (bs ops.toList k) i → listed.getD k false = false := by
        intro k hik hk hb
        cases hc : listed.getD k false with
        | false => rfl
        | true => have := hdown k hk hc i hb; rw [hD] at this; cases this
      have hagree : ∀ b, (b ∈ (L i).1 ∨ b ∈ (L i).2) → t.heap b = (S i).heap b := by
        intro b hb
        rw [ht]
        refine HD_agree hi' hD (hframe b) (fun k hk hw => ?_) (fun k hk hkN hw => ?_)
        · rcases K.mem k i hk hi' with h | h
          · exact hbefore k h
          · exact absurd ⟨hw, hb⟩ (clashB_false h b).1
        · rcases K.mem i k hk hkN with h | h
          · exact hafter k hk hkN h
          · rcases hb with hb | hb
            · exact absurd ⟨hb, hw⟩ (clashB_false h b).2
            · exact absurd ⟨hb, .inr hw⟩ (clashB_false h b).1
      have hnames : ∀ x ∈ namesOf ops.toList o, F i x = f x := by
        intro x hx
        symm
        rw [hf']
        refine FD_agree hi' hD hlen hstep (fun k hk hw => ?_) (fun k hk hkN hw => ?_)
        · have hok : ops[k]? = some ops[k] := Array.getElem?_eq_getElem (by omega)
          rcases K.slot k i _ o hk hok ho with h | h
          · exact hbefore k h
          · rw [show ops.toList[k]? = some ops[k] by simp] at hw
            exact absurd hx ((slotsOk_spec h).1 x hw).1
        · have hok : ops[k]? = some ops[k] := Array.getElem?_eq_getElem hkN
          rcases K.slot i k o _ hk ho hok with h | h
          · exact hafter k hk hkN h
          · rw [show ops.toList[k]? = some ops[k] by simp] at hw
            exact absurd hx ((slotsOk_spec h).2 x hw)
      obtain ⟨t', rd, wr, r1, r2, r3, r4⟩ := n6 { t with next := (S i).next } rfl (fun b hb => hagree b hb)
      have hfresh : ∀ b, ({ t with next := (S i).next } : St).next ≤ b → b < t'.next → ({ t with next := (S i).next } : St).heap b = none := by
        intro b h1 h2
        simp only at h1
        rw [r2] at h2
        have hw := n3 b ⟨h1, h2⟩
        show t.heap b = none
        rw [hagree b (.inr hw)]
        exact K.frees i (by omega) b h1
      have r1 := stepR_congr hnames r1
      refine step_sim (st := { t with next := (S i).next }) (hE.le he) hr hfr ho hfit r1 hfresh ro _ Q fun m1 a1 w1 e1 q1 fr1 d1 => ?_
      have hgd := getD_listed (listed := listed) (i := i) (by omega)
      refine ih (listed.setIfInBounds i true) a1 w1 m1 t' (f.put o.dst (V i)) (by simp [hs]) (by have := left_set hs hi' hD; omega) ?_ (he.trans e1) ?_ ?_ q1 fr1 (d1.trans hd)
      · intro k hk hk2 j hj
        rw [hgd] at hk2 ⊢
        rw [Bool.or_eq_true] at hk2 ⊢
        rcases hk2 with h | h
        · exact .inl (hdown k hk h j hj)
        · have : k = i := by simpa using h
          subst this; exact .inl (hbefore j hj)
      · intro b
        rw [HD_add (D := fun k => listed.getD k false) hi' hgd (fun k hk hkN h1 h2 => by
          rcases K.mem i k hk hkN with h | h
          · exact hafter k hk hkN h
          · exact absurd ⟨h1, .inr h2⟩ (clashB_false h b).1)]
        by_cases hw : b ∈ (L i).2
        · rw [if_pos hw]; exact r3 b hw
        · rw [if_neg hw, r4 b hw]; exact ht b
      · intro x
        rw [FD_add (D := fun k => listed.getD k false) hi' hgd (fun k hk hkN h1 h2 => by
          have hok : ops[k]? = some ops[k] := Array.getElem?_eq_getElem hkN
          rcases K.slot i k o _ hk ho hok with h | h
          · exact hafter k hk hkN h
          · rw [hol] at h1
            rw [show ops.toList[k]? = some ops[k] by simp] at h2
            exact absurd h2 ((slotsOk_spec h).1 x h1).2), put_get, hol]
        simp only [Option.bind_some]
        rw [hf']
theorem draw_sim (ro : Option Nat) {nt : Nat} {ops : Array Oper} {id : Nat} (Q : Exit → Act → World → Prop) {K : Ks} {m : J} {w : World} {st : St} {fr : Fr} {a : Act}
    (hE : EnvIn X.env m) (hr : Rel m st.heap w) (hf : Free st) (hfr : FR m nt fr a.tmps) (h : regP P md X nt ops.toList true K fr st)
    (hQ : ∀ m' a' w' fr' st', Ext m w m' w' → Rel m' st'.heap w' → Free st' → Grows st st' → FR m' nt fr' a'.tmps → a'.defers = a.defers → K fr' st' → Q .normal a' w') : (Code.region id ops true).wpIn (Fw ro) 0 P Q a w := by
  simp only [regP] at h
  cases hst : staticOk ops.toList && P.follows .mixedOrders with
  | false => simp only [hst, cond_false] at h
  | true =>
    simp only [hst, cond_true] at h
    obtain ⟨hst1, hmix⟩ := and_true hst
    obtain ⟨S, F, V, l, g1, g2, ⟨hcl, hK0⟩, g4, g5⟩ := opsD_trace ops.toList 0 (by simp) h
    simp only [Nat.zero_add, Array.length_toList] at hK0 g4
    simp only [staticOk, Bool.and_eq_true] at hst1
    have hK : Known P md X nt ops S F V (fun i => l.getD i ([], [])) := by
      refine ⟨fun i o ho => ?_, fun i o ho e he hb => ?_, fun i j hij hj => ?_, fun i j a b hij ha hb => ?_, by rw [g1]; exact hf⟩
      · have := g5 i o (Nat.zero_le _) (by simpa using ho)
        simpa using this
      · have := edgesOk_spec hst1.1 i o (by simpa using ho) e he hb
        omega
      · have hlj : l[j]? = some (l.getD j ([], [])) := by
          simp only [List.getD]; rw [List.getElem?_eq_getElem (by omega)]; rfl
        have hli : ([] ++ l)[i]? = some (l.getD i ([], [])) := by
          simp only [List.getD, List.nil_append]; rw [List.getElem?_eq_getElem (by omega)]; rfl
        exact clashesB_false hcl i j _ _ (by simpa using hij) hlj hli
      · exact slotsAll_spec hst1.2 i j b a (by simpa using hij) (by simpa using hb) (by simpa using ha)
    apply wpIn_region_draw
    intro tp
    rw [hmix]
    show wpOpsIn (Fw ro) 0 P ops Q (Region.linearise .any ops tp) a _
    unfold Region.linearise
    apply wpAnyIn_sound
    have hrep : ∀ k, (Array.replicate ops.size false).getD k false = false := by
      intro k
      simp only [Array.getD_eq_getD_getElem?, Array.getElem?_replicate]
      split <;> rfl
    have hHD : ∀ N b, HD S (fun i => l.getD i ([], [])) (fun k => (Array.replicate ops.size false).getD k false) N b = (S 0).heap b := by
      intro N b
      induction N with
      | zero => rfl
      | succ N ih => simp only [HD, hrep]; rw [if_neg (by simp), ← ih]; simp only [hrep]
    have hFD : ∀ N x, FD ops.toList F V (fun k => (Array.replicate ops.size false).getD k false) N x = F 0 x := by
      intro N x
      induction N with
      | zero => rfl
      | succ N ih => simp only [FD, hrep]; rw [if_neg (by simp), ← ih]; simp only [hrep]
    refine any_sim ro hK Q (m0 := m) (w0 := w) (df := a.defers) hE (fun m' a' w' e1 e2 e3 e4 => hQ m' a' w' (F ops.size) (S ops.size) e1 e2 (hK.frees _ (Nat.le_refl _)) (by have := hK.grows _ (Nat.le_refl _); rw [g1] at this; exact this) e3 e4 hK0) ops.size _ a _ m st fr (by simp) ?_ ?_ (Ext.drew m w) ?_ ?_ hr.drew hfr rfl
    · unfold left
      rw [List.countP_eq_length.2 (fun k _ => by rw [hrep]; rfl), List.length_range]
    · intro k _ hk; rw [hrep] at hk; cases hk
    · intro b; rw [hHD, g1]
    · intro x; rw [hFD, g2]
end
end Go.Vi
namespace Go.Vi
open Go.Ab (Fw AExit exitOf and_true wpIn_scope roundsIn_step wpIn_of_rounds RoundsIn)
def seqK (B : Ks) (K : Kx) : Kx := fun x => match x with
  | .normal => B
  | .exit id => K (.exit id)
  | .ret => K .ret
def blockK (id : Nat) (K : Kx) : Kx := fun x => match x with
  | .normal => K .normal
  | .exit id' => bif Nat.beq id' id then K .normal else K (.exit id')
  | .ret => K .ret
def loopP (body : Ks → Ks) : Nat → Ks
  | 0 => fun _ _ => False
  | n + 1 => body (loopP body n)
def condP (x : PV) (A B : Prop) : Prop := match x with
  | .bool b => (b = true → A) ∧ (b = false → B)
  | _ => False
def bindF (fr : Fr) : List Nat → List PV → Fr
  | p :: ps, a :: as => bindF (fr.set p a) ps as
  | _, _ => fr
def rangeP (P : Program) (X : Mode) (nt : Nat) (g : Operand) (ps : List Nat) (A B : Kx → Ks) (K : Kx) : Ks := fun fr st => match X with
  | .weak E => (∀ m, E.holds m) ∧ ∃ gf caps, ∃ (I : List (List PV) → St → Prop) (R : St → St → Prop) (xs : List (List PV)), evalO fr g = some (.fn gf caps) ∧ entersB P gf = true ∧ (∀ p, p ∈ ps → p < nt) ∧ (∀ x, x ∈ xs → x.length = ps.length) ∧
    (∀ pre x post s, xs = pre ++ x :: post → I pre s → Free s → A (fun ex f1 s1 => ex = .normal ∧ B (fun ex2 _ s2 => ex2 = .normal ∧ I (pre ++ [x]) s2 ∧ R s s2) f1 s1) (bindF fr ps x) s) ∧
    (∀ (E' : Env) (L : Nat), (∀ pre x post s, xs = pre ++ x :: post → I pre s → Free s → YW E' P L x s fun r s' => r = .bool true ∧ I (pre ++ [x]) s' ∧ R s s') → SW E' P gf (.yield L :: caps) st fun _ s' => I xs s') ∧
    (∀ s, I xs s → Free s → Grows st s → K .normal fr s)
  | _ => False
section
variable (P : Program) (md : Bool) (X : Mode) (nt : Nat)
def codeP : Code → Bool → Kx → Ks
  | .skip, _, K => K .normal
  | .label _, _, K => K .normal
  | .region _ ops d, _, K => regP P md X nt ops.toList d (K .normal)
  | .seq a b, rg, K => codeP a rg (seqK (codeP b rg K) K)
  | .cond c a b, rg, K => fun fr st => optP (evalO fr c) fun x => condP x (codeP a rg K fr st) (codeP b rg K fr st)
  | .block id c, rg, K => codeP c rg (blockK id K)
  | .loop c, rg, K => fun fr st => ∃ n, loopP (fun W => codeP c rg (seqK W K)) n fr st
  | .scope c, rg, K => codeP c rg K
  | .exit id, _, K => K (.exit id)
  | .ret, _, K => K .ret
  | .rangeFunc g ps a c, rg, K => match rg with
    | true => rangeP P X nt g ps.toList (codeP a false) (codeP c false) K
    | false => fun _ _ => False
  | _, _, _ => fun _ _ => False
end
def DOk (base : Nat) (m : J) (w : World) : List Deferred → Prop
  | [] => True
  | d :: ds => (∃ r, d = { target := .collected r, args := #[] } ∧ base ≤ r ∧ w.heap[r]? = some (.deferred (some [])) ∧ ¬ m.img r ∧ m.env r = none ∧ ∀ d' ∈ ds, d' ≠ d) ∧ DOk base m w ds
theorem DOk.ext {base : Nat} {m m' : J} {w w' : World} (h : Ext m w m' w') : ∀ {ds : List Deferred}, DOk base m w ds → DOk base m' w' ds
  | [], _ => trivial
  | d :: ds, ⟨⟨r, h1, h2, h3, h4, h0, h5⟩, h6⟩ => by
    have hlt : r < w.heap.size := (Array.getElem?_eq_some_iff.1 h3).1
    refine ⟨⟨r, h1, h2, by rw [h.same r hlt h4]; exact h3, fun hi => ?_, by rw [h.env]; exact h0, h5⟩, DOk.ext h h6⟩
    rcases h.img hi with h' | h'
    · exact h4 h'
    · omega
theorem Rel.withEnv {m : J} {h : Nat → Option Obj} {w : World} (hr : Rel m h w) {e : Nat → Option Go.Obj} (he : ∀ B o, e B = some o → w.heap[B]? = some o ∧ cellsB o = false ∧ (∀ l c, o ≠ .map l c)) : Rel { m with env := e } h w := by
  have hle : m.le { m with env := e } := ⟨fun _ _ h => h, Kle.refl _, fun b B n e t h => ⟨B, n, t, h, Nat.le_refl _, fun _ => ⟨rfl, rfl⟩⟩, fun _ _ _ => rfl⟩
  exact ⟨fun b o hb => (hr.obj b o hb).keep hle fun _ _ _ => rfl, he, hr.own, hr.fro, hr.bdom, hr.odom, hr.bapart, hr.oapart, hr.bK, hr.blt⟩
theorem Rel.put {m : J} {h : Nat → Option Obj} {w : World} (hr : Rel m h w) {B : Nat} {o o' : Go.Obj} (hB : w.heap[B]? = some o) (ho : cellsB o = false) (hm : ∀ l c, o ≠ .map l c) (ho' : cellsB o' = false) (he : m.env B = none) : Rel m h (Go.Ab.World.putObj w B o') := by
  have hc : ∀ {o : Go.Obj}, cellsB o = false → ∀ c t fr, o ≠ .cells c t fr := fun h c t fr e => by rw [e] at h; cases h
  obtain ⟨g1, g2, g3, g4⟩ := Go.Ab.putObj_facts w B o o' hB (hc ho) (hc ho')
  have hne : ∀ {k : Nat} {vs : Array Value} {ty : TypeId} {fz : Nat × Nat}, w.heap[k]? = some (.cells vs ty fz) → k ≠ B := by
    rintro k vs ty fz h1 rfl
    rw [hB] at h1; cases h1; cases ho
  refine ⟨fun b o1 hb => ?_, fun k o1 hk => ?_, fun b n e hb => ?_, fun k ks hk => ?_, hr.bdom, hr.odom, hr.bapart, hr.oapart, hr.bK, fun b k hb => by rw [g3]; exact hr.blt b k hb⟩
  · have := hr.obj b o1 hb
    cases o1 with
    | box cs =>
      obtain ⟨k, vs, ty, h1, h2, h3⟩ := this
      exact ⟨k, vs, ty, h1, (g2 k (hne h2)).trans h2, h3⟩
    | arr e cs =>
      obtain ⟨k, vs, ty, h1, h0, h2, h3⟩ := this
      exact ⟨k, vs, ty, h1, h0, (g2 k (hne h2)).trans h2, h3⟩
    | map l =>
      obtain ⟨k, es, c, h1, h2, h3⟩ := this
      exact ⟨k, es, c, h1, (g2 k (by rintro rfl; rw [hB] at h2; cases h2; exact hm _ _ rfl)).trans h2, h3⟩
    | maps l =>
      obtain ⟨k, es, c, h1, h2, h3⟩ := this
      exact ⟨k, es, c, h1, (g2 k (by rintro rfl; rw [hB] at h2; cases h2; exact hm _ _ rfl)).trans h2, h3⟩
    | own _ _ => trivial
    | dead => trivial
  · obtain ⟨h1, h2⟩ := hr.env k o1 hk
    exact ⟨(g2 k (by rintro rfl; rw [he] at hk; cases hk)).trans h1, h2⟩
  · rcases hr.own b n e hb with h1 | ⟨h0, k, t, h1, ks, h2, h3, vs, ty, h4, h5⟩
    · exact .inl h1
    · exact .inr ⟨h0, k, t, h1, ks, h2, h3, vs, ty, (g2 k (hne h4)).trans h4, h5⟩
  · obtain ⟨vs, ty, fz, h1, h2⟩ := hr.fro k ks hk
    exact ⟨vs, ty, fz, (g2 k (hne h1)).trans h1, h2⟩
section
variable {P : Program} {md : Bool} {X : Mode}
def Does (P : Program) (md : Bool) (X : Mode) (ro : Option Nat) (base nt : Nat) (c : Code) : Prop :=
  ∀ ⦃K : Kx⦄ ⦃m : J⦄ ⦃w : World⦄ ⦃st : St⦄ ⦃fr : Fr⦄ ⦃a : Act⦄, codeP P md X nt c ro.isNone K fr st → EnvIn X.env m → Rel m st.heap w → Free st → FR m nt fr a.tmps → DOk base m w a.defers → base ≤ w.heap.size →
    ∀ Q : Exit → Act → World → Prop, (∀ m' a' w' x fr' st', Ext m w m' w' → Rel m' st'.heap w' → Free st' → Grows st st' → FR m' nt fr' a'.tmps → DOk base m' w' a'.defers → K x fr' st' → Q (exitOf x) a' w') → c.wpIn (Fw ro) 0 P Q a w
theorem does_seq {ro : Option Nat} {base nt : Nat} {x y : Code} (hx : Does P md X ro base nt x) (hy : Does P md X ro base nt y) : Does P md X ro base nt (.seq x y) := by
  intro K m w st fr a h hE hr hf hfr hd hbase Q hQ
  apply wpIn_seq
  refine hx h hE hr hf hfr hd hbase _ fun m1 a1 w1 ex fr1 st1 e1 r1 f1 w2 g1 d1 k1 => ?_
  cases ex with
  | normal => exact hy k1 (hE.le e1) r1 f1 g1 d1 (Nat.le_trans hbase e1.size) Q fun m2 a2 w2' ex2 fr2 st2 e2 r2 f2 w3 g2 d2 k2 => hQ m2 a2 w2' ex2 fr2 st2 (e1.trans e2) r2 f2 (w2.trans w3) g2 d2 k2
  | exit id => exact hQ m1 a1 w1 _ fr1 st1 e1 r1 f1 w2 g1 d1 k1
  | ret => exact hQ m1 a1 w1 _ fr1 st1 e1 r1 f1 w2 g1 d1 k1
theorem does_loop {ro : Option Nat} {base nt : Nat} {c : Code} (hx : Does P md X ro base nt c) : Does P md X ro base nt (.loop c) := by
  intro K m w st fr a h hE hr hf hfr hd hbase Q hQ
  obtain ⟨n, h⟩ := h
  have key : ∀ (n : Nat) {m : J} {w : World} {st : St} {fr : Fr} {a : Act}, loopP (fun W => codeP P md X nt c ro.isNone (seqK W K)) n fr st → EnvIn X.env m → Rel m st.heap w → Free st → FR m nt fr a.tmps → DOk base m w a.defers → base ≤ w.heap.size →
      ∀ Q : Exit → Act → World → Prop, (∀ m' a' w' x fr' st', Ext m w m' w' → Rel m' st'.heap w' → Free st' → Grows st st' → FR m' nt fr' a'.tmps → DOk base m' w' a'.defers → K x fr' st' → Q (exitOf x) a' w') → RoundsIn (Fw ro) 0 P c Q a w := by
    intro n
    induction n with
    | zero => intro m w st fr a h; exact h.elim
    | succ n ih =>
      intro m w st fr a h hE hr hf hfr hd hbase Q hQ
      apply roundsIn_step
      refine hx h hE hr hf hfr hd hbase _ fun m1 a1 w1 ex fr1 st1 e1 r1 f1 w2 g1 d1 k1 => ?_
      cases ex with
      | normal => exact ih k1 (hE.le e1) r1 f1 g1 d1 (Nat.le_trans hbase e1.size) Q fun m2 a2 w2' ex2 fr2 st2 e2 r2 f2 w3 g2 d2 k2 => hQ m2 a2 w2' ex2 fr2 st2 (e1.trans e2) r2 f2 (w2.trans w3) g2 d2 k2
      | exit id => exact hQ m1 a1 w1 _ fr1 st1 e1 r1 f1 w2 g1 d1 k1
      | ret => exact hQ m1 a1 w1 _ fr1 st1 e1 r1 f1 w2 g1 d1 k1
  exact wpIn_of_rounds (key n h hE hr hf hfr hd hbase Q hQ)
theorem bind_fr {m : J} {nt : Nat} : ∀ (ps : List Nat) {args : List PV} {cargs : List Value} {fr : Fr} {tmps : Array Value}, (∀ p, p ∈ ps → p < nt) → args.length = ps.length → VRs m args cargs → FR m nt fr tmps →
    cargs.length = ps.length ∧ FR m nt (bindF fr ps args) ((ps.zip cargs).foldl (fun tmps (t, a) => tmps.setIfInBounds t a) tmps)
  | [], args, cargs, fr, tmps, _, hl, ha, hf => by
    cases ha with
    | nil => exact ⟨rfl, hf⟩
    | cons _ _ _ _ _ _ => simp at hl
  | p :: ps, args, cargs, fr, tmps, hp, hl, ha, hf => by
    cases ha with
    | nil => simp at hl
    | cons a v l l' h1 h2 =>
      obtain ⟨k1, k2⟩ := bind_fr ps (fr := fr.set p a) (tmps := tmps.setIfInBounds p v) (fun q hq => hp q (by simp [hq])) (by simpa using hl) h2 (hf.set (hp p (by simp)) h1)
      exact ⟨by simp [k1], k2⟩
theorem does_range {base nt : Nat} {g : Operand} {ps : Array Tmp} {as bd : Code} (ha : ∀ L b, Does P md X (some L) b nt as) (hb : ∀ L b, Does P md X (some L) b nt bd) : Does P md X none base nt (.rangeFunc g ps as bd) := by
  intro K m w st fr a h hE hr hf hfr hd hbase Q hQ
  have h : rangeP P X nt g ps.toList (codeP P md X nt as false) (codeP P md X nt bd false) K fr st := h
  unfold rangeP at h
  split at h
  case h_2 => exact h.elim
  rename_i E
  obtain ⟨htop, gf, caps, I, R, xs, hg, hen, hps, hxs, hbody, hiter, hafter⟩ := h
  unfold entersB at hen
  split at hen
  case h_2 => cases hen
  rename_i fn hfn
  obtain ⟨hb1, hn1⟩ := Go.Ab.and_true hen
  obtain ⟨cc, hcc⟩ := Option.isSome_iff_exists.1 hb1
  have hfv := evalO_rel hfr hg
  generalize hgv : a.eval g = fv at hfv
  cases hfv with
  | data _ _ hd => cases hd
  | fn _ _ cs hcs =>
  apply wpIn_rangeFunc
  intro fnid _
  obtain ⟨e1, r1⟩ := hr.foreign (.deferred (some [])) (Go.Ab.frozen_alloc w _ (fun c t fr h => by cases h))
  obtain ⟨rec0, hrec0⟩ : ∃ r : Loop, r = { state := .ready, pending := none, fn := fnid, tmps := a.tmps, params := ps, assign := as, body := bd, defers := w.heap.size } := ⟨_, rfl⟩
  obtain ⟨e2, r2⟩ := r1.foreign (.loop rec0) (Go.Ab.frozen_alloc _ _ (fun c t fr h => by cases h))
  have e12 := e1.trans e2
  obtain ⟨w1, hw1⟩ : ∃ w1, w1 = (w.alloc (.deferred (some []))).alloc (.loop rec0) := ⟨_, rfl⟩
  rw [← hw1] at e2 r2 e12
  have hsz : (w.alloc (.deferred (some []))).heap.size = w.heap.size + 1 := by simp
  have hsz1 : w1.heap.size = w.heap.size + 2 := by rw [hw1]; simp
  have hL : w1.heap[w.heap.size + 1]? = some (.loop rec0) := by
    rw [hw1]
    have := Go.heap_alloc_new (w.alloc (.deferred (some []))) (.loop rec0)
    rwa [hsz] at this
  have hD : w1.heap[w.heap.size]? = some (.deferred (some [])) := by
    rw [hw1]
    have := Go.heap_alloc_old (w.alloc (.deferred (some []))) (.loop rec0) (w.heap.size) (by simp)
    rw [this]; exact Go.heap_alloc_new w _
  obtain ⟨L, hLd⟩ : ∃ L, L = w.heap.size + 1 := ⟨_, rfl⟩
  rw [← hLd] at hL
  have hmL : m.env L = none := by
    cases hh : m.env L with
    | none => rfl
    | some o => have := (Array.getElem?_eq_some_iff.1 (hr.env L o hh).1).1; omega
  let m1 : J := { m with env := fun B => if B = L then some (.loop rec0) else m.env B }
  have hlem : m.le m1 := ⟨fun _ _ h => h, Kle.refl _, fun b B n e t h => ⟨B, n, t, h, Nat.le_refl _, fun _ => ⟨rfl, rfl⟩⟩, fun _ _ _ => rfl⟩
  have rm1 : Rel m1 st.heap w1 := r2.withEnv fun B o ho => by
    have ho : (if B = L then some (.loop rec0) else m.env B) = some o := ho
    by_cases c : B = L
    · rw [if_pos c] at ho; cases ho; rw [c]; exact ⟨hL, rfl, fun l c e => by cases e⟩
    · rw [if_neg c] at ho; exact r2.env B o ho
  let E' : Env := ⟨fun m' => m1.le m' ∧ m'.env L = some (.loop rec0), fun ⟨h1, h2⟩ he => ⟨h1.trans he.le, by rw [he.env]; exact h2⟩⟩
  have hround : ∀ pre x post s, xs = pre ++ x :: post → I pre s → Free s → YW E' P L x s fun r s' => r = .bool true ∧ I (pre ++ [x]) s' ∧ R s s' := by
    intro pre x post s hx hI hfs mm ww cargs hE' hrr hv
    obtain ⟨hle1, henvL⟩ : m1.le mm ∧ mm.env L = some (.loop rec0) := hE'
    have hwL := (hrr.env L _ henvL).1
    obtain ⟨b1, b2⟩ := bind_fr ps.toList hps (hxs x (by rw [hx]; simp)) hv (hfr.mono (hlem.trans hle1))
    refine ⟨rec0, hwL, by rw [hrec0]; simpa using b1, ?_⟩
    have hz : (rec0.params.zip cargs.toArray).foldl (fun tmps (t, a) => tmps.setIfInBounds t a) rec0.tmps = (ps.toList.zip cargs).foldl (fun tmps (t, a) => tmps.setIfInBounds t a) a.tmps := by
      rw [hrec0, ← Array.foldl_toList]; simp
    rw [hz]
    have hra : rec0.assign = as := by rw [hrec0]
    have hrb : rec0.body = bd := by rw [hrec0]
    rw [hra, hrb]
    refine roundIn_of_wpIn trivial ?_
    refine ha L 0 (a := { tmps := _, defers := [] }) (hbody pre x post s hx hI hfs) (htop mm) hrr hfs b2 trivial (Nat.zero_le _) _ fun m2 a2 w2 ex f1 s1 e2' r2' f2' g2' fr2' d2' k2' => ?_
    obtain ⟨rfl, k2'⟩ := k2'
    have henv2 : m2.env L = some (.loop rec0) := by rw [e2'.env]; exact henvL
    have hw2L := (r2'.env L _ henv2).1
    obtain ⟨busy, hbusy⟩ : ∃ r : Loop, r = { rec0 with state := .busy } := ⟨_, rfl⟩
    obtain ⟨p1, p2, p3, p4⟩ := Go.Ab.putObj_facts w2 L _ (.loop busy) hw2L (fun c t fr h => by cases h) (fun c t fr h => by cases h)
    refine ⟨Go.Ab.World.putObj w2 L (.loop busy), by
      simp only [Instr.beginRound, Sem.run_bind, Go.Ab.run_getLoop hw2L, Result.andThen_ok, Go.Ab.run_setLoop hw2L]
      rw [hbusy, hrec0]
      rfl, ?_⟩
    have r3a : Rel { m2 with env := fun B => if B = L then none else m2.env B } s1.heap w2 := r2'.withEnv fun B o ho => by
      by_cases c : B = L
      · simp only [c, if_true] at ho; cases ho
      · simp only [if_neg c] at ho; exact r2'.env B o ho
    have r3b := r3a.put hw2L rfl (fun l c e => by cases e) (o' := .loop busy) rfl (by simp)
    have r3 : Rel { m2 with env := fun B => if B = L then some (.loop busy) else m2.env B } s1.heap (Go.Ab.World.putObj w2 L (.loop busy)) := by
      have := r3b.withEnv (e := fun B => if B = L then some (.loop busy) else m2.env B) fun B o ho => by
        by_cases c : B = L
        · simp only [c, if_true, Option.some.injEq] at ho; subst ho; rw [c]; exact ⟨p1, rfl, fun l c e => by cases e⟩
        · simp only [if_neg c] at ho
          obtain ⟨q1, q2⟩ := r2'.env B o ho
          exact ⟨(p2 B c).trans q1, q2⟩
      exact this
    have hle3 : m2.le { m2 with env := fun B => if B = L then some (.loop busy) else m2.env B } := ⟨fun _ _ h => h, Kle.refl _, fun b B n e t h => ⟨B, n, t, h, Nat.le_refl _, fun _ => ⟨rfl, rfl⟩⟩, fun _ _ _ => rfl⟩
    refine hb L 0 (a := a2) k2' (htop _) r3 f2' (fr2'.mono hle3) (by
      have : ∀ ds, DOk 0 m2 w2 ds → DOk 0 { m2 with env := fun B => if B = L then some (.loop busy) else m2.env B } (Go.Ab.World.putObj w2 L (.loop busy)) ds := by
        intro ds
        induction ds with
        | nil => intro _; trivial
        | cons d0 ds ih =>
          rintro ⟨⟨r, k1, k2, k3, k4, k0, k5⟩, k6⟩
          have hne : r ≠ L := by rintro rfl; rw [hw2L] at k3; cases k3
          exact ⟨⟨r, k1, k2, (p2 r hne).trans k3, k4, by simp only [if_neg hne]; exact k0, k5⟩, ih k6⟩
      exact this _ d2') (Nat.zero_le _) _ fun m4 a4 w4 ex2 f4 s4 e4 r4 f4' g4 fr4 d4 k4 => ?_
    obtain ⟨rfl, k4⟩ := k4
    have henv4 : m4.env = fun B => if B = L then some (.loop busy) else m2.env B := e4.env
    have hw4L : w4.heap[L]? = some (.loop busy) := (r4.env L _ (by rw [henv4]; simp)).1
    obtain ⟨q1, q2, q3, q4⟩ := Go.Ab.putObj_facts w4 L _ (.loop rec0) hw4L (fun c t fr h => by cases h) (fun c t fr h => by cases h)
    have hend : (Instr.endRound L none).run P w4 = .ok (.bool true) (Go.Ab.World.putObj w4 L (.loop rec0)) := by
      simp only [Instr.endRound, Sem.run_bind, Go.Ab.run_getLoop hw4L, Result.andThen_ok, Go.Ab.run_setLoop hw4L]
      rw [hbusy, hrec0]
      rfl
    refine ⟨.bool true, _, hend, ?_⟩
    have r5a : Rel { m4 with env := fun B => if B = L then none else m2.env B } s4.heap w4 := r4.withEnv fun B o ho => by
      by_cases c : B = L
      · simp only [c, if_true] at ho; cases ho
      · simp only [if_neg c] at ho; exact r4.env B o (by rw [henv4]; simp only [if_neg c]; exact ho)
    have r5b := r5a.put hw4L rfl (fun l c e => by cases e) (o' := .loop rec0) rfl (by simp)
    have hmm2 : m2.env = mm.env := e2'.env
    have r5 : Rel { m4 with env := mm.env } s4.heap (Go.Ab.World.putObj w4 L (.loop rec0)) := by
      have := r5b.withEnv (e := mm.env) fun B o ho => by
        by_cases c : B = L
        · rw [c, henvL] at ho; cases ho; rw [c]; exact ⟨q1, rfl, fun l c e => by cases e⟩
        · obtain ⟨z1, z2⟩ := r5a.env B o (by simp only [if_neg c]; rw [hmm2]; exact ho)
          exact ⟨(q2 B c).trans z1, z2⟩
      exact this
    have hle4 : m4.le { m4 with env := mm.env } := ⟨fun _ _ h => h, Kle.refl _, fun b B n e t h => ⟨B, n, t, h, Nat.le_refl _, fun _ => ⟨rfl, rfl⟩⟩, fun _ _ _ => rfl⟩
    have hszL : L < ww.heap.size := (Array.getElem?_eq_some_iff.1 hwL).1
    have himg2 : ∀ B, m2.img B → B < ww.heap.size → mm.img B := fun B hi hlt => (e2'.img hi).resolve_right (by omega)
    refine ⟨{ m4 with env := mm.env }, .bool true, .bool true, s4, rfl, ⟨(e2'.le.trans hle3).trans (e4.le.trans hle4), ?_, fun b B hb => ?_, fun b B n e t hb => ?_, fun B ks hk => ?_, fun B hlt hn => ?_, ?_, ?_, fun ad had => ?_, rfl⟩, r5, .data _ _ (.bool _), g2'.trans g4, f4', rfl, k4⟩
    · rw [q3]; exact Nat.le_trans e2'.size (Nat.le_trans (by rw [p3]; exact Nat.le_refl _) e4.size)
    · have s3 : (Go.Ab.World.putObj w2 L (.loop busy)).heap.size = w2.heap.size := p3
      rcases e4.bimg b B hb with ⟨b0, h0⟩ | h0
      · exact e2'.bimg b0 B h0
      · right; have := e2'.size; omega
    · have s3 : (Go.Ab.World.putObj w2 L (.loop busy)).heap.size = w2.heap.size := p3
      rcases e4.oimg b B n e t hb with ⟨b0, n0, e0, t0, h0⟩ | h0
      · exact e2'.oimg b0 B n0 e0 t0 h0
      · right; have := e2'.size; omega
    · have s3 : (Go.Ab.World.putObj w2 L (.loop busy)).heap.size = w2.heap.size := p3
      rcases e4.knew B ks hk with ⟨b0, n0, e0, t0, h0⟩ | h0 | h0
      · rcases e2'.oimg b0 B n0 e0 t0 h0 with h1 | h1
        · exact .inl h1
        · exact .inr (.inr h1)
      · exact e2'.knew B ks h0
      · exact .inr (.inr (by have := e2'.size; omega))
    · by_cases c : B = L
      · rw [c, q1, hwL]
      · have hni : ¬ m2.img B := fun hi => hn (himg2 B hi hlt)
        rw [q2 B c, e4.same B (by rw [p3]; exact Nat.lt_of_lt_of_le hlt e2'.size) hni, p2 B c, e2'.same B hlt hn]
    · exact (e4.os.trans rfl).trans e2'.os
    · exact (e4.output.trans rfl).trans e2'.output
    · rw [q4, e4.frozen ad (by rw [p3]; exact Nat.lt_of_lt_of_le had e2'.size), p4, e2'.frozen ad had]
  have hcall := hiter E' L hround m1 w1 (Value.func (.yield L) #[] #[] :: cs) ⟨J.le.refl m1, by show (if _ then _ else _) = _; rw [if_pos rfl]⟩ rm1 (.cons _ _ _ _ (.yield L) (hcs.mono hlem))
  refine ⟨L, [{ target := .collected w.heap.size, args := #[] }], w1, { target := .fn (.func gf) cs.toArray, args := #[] ++ #[Value.func (.yield L) #[] #[]] }, w1, gf, (Value.func (.yield L) #[] #[] :: cs).toArray, w1, ?_, ?_, fun _ _ => trivial, ?_, fun h => by simp [Fw, Fence.wide] at h, ?_⟩
  · simp only [Instr.enterLoop, Fw, Sem.run_bind]
    have hno : ∀ (w : World) (o : Go.Obj), (Go.newObj o).run P w = .ok w.heap.size (w.alloc o) := fun w o => rfl
    simp only [hno, Result.andThen_ok, Sem.run_pure, hsz]
    rw [hw1, hLd, hrec0]
  · show Sem.run P (Deferred.ofValue (a.eval g) _) _ = _
    rw [hgv]
    have hargs : Array.map a.eval (rangeCall g L).args = #[Value.func (.yield L) #[] #[]] := by simp [Act.eval]
    rw [hargs]
    rfl
  · simp only [invoke, callFunc, Sem.run_bind, run_program, Result.andThen_ok, hfn, (by simpa using hn1 : (fn.name == "runtime.NumGoroutine") = false), Bool.false_eq_true, if_false, hcc, Option.isNone_some]
    simp
  · have hcall' : CallsIn (Fw none) (0 - 1) P gf (Value.func (.yield L) #[] #[] :: cs).toArray w1 (Ends m1 w1 st fun _ s' => I xs s') := hcall
    refine hcall'.mono ?_
    rintro en w3 ⟨m3, v3, r3, s3, rfl, e3, rr3, hv3, g3, f3, k3⟩
    have henv3 : m3.env = m1.env := e3.env
    have hw3L : w3.heap[L]? = some (.loop rec0) := (rr3.env L _ (by rw [henv3]; show (if _ then _ else _) = _; rw [if_pos rfl])).1
    obtain ⟨endd, hendd⟩ : ∃ r : Loop, r = { rec0 with state := .exhausted } := ⟨_, rfl⟩
    obtain ⟨q1, q2, q3, q4⟩ := Go.Ab.putObj_facts w3 L _ (.loop endd) hw3L (fun c t fr h => by cases h) (fun c t fr h => by cases h)
    have hend : (Instr.endLoop L).run P w3 = .ok none (Go.Ab.World.putObj w3 L (.loop endd)) := by
      have hbq : (rec0.state == LoopState.busy) = false := by rw [hrec0]; rfl
      simp only [Instr.endLoop, Sem.run_bind, Go.Ab.run_getLoop hw3L, Result.andThen_ok, hbq, Bool.false_eq_true, if_false, Go.Ab.run_setLoop hw3L]
      rw [hendd, hrec0]
      rfl
    have r4a : Rel { m3 with env := m.env } s3.heap w3 := rr3.withEnv fun B o ho => by
      have c : B ≠ L := by rintro rfl; rw [hmL] at ho; cases ho
      exact rr3.env B o (by rw [henv3]; show (if _ then _ else _) = _; rw [if_neg c]; exact ho)
    have r4 := r4a.put hw3L rfl (fun l c e => by cases e) (o' := .loop endd) rfl hmL
    have hle3 : m3.le { m3 with env := m.env } := ⟨fun _ _ h => h, Kle.refl _, fun b B n e t h => ⟨B, n, t, h, Nat.le_refl _, fun _ => ⟨rfl, rfl⟩⟩, fun _ _ _ => rfl⟩
    have hlt1 : ∀ B, m1.img B → B < w.heap.size := fun B hi => hr.lt_img (B := B) hi
    have hext : Ext m w { m3 with env := m.env } (Go.Ab.World.putObj w3 L (.loop endd)) := by
      refine ⟨(hlem.trans e3.le).trans hle3, ?_, fun b B hb => ?_, fun b B n e t hb => ?_, fun B ks hk => ?_, fun B hlt hn => ?_, ?_, ?_, fun ad had => ?_, rfl⟩
      · rw [q3]; exact Nat.le_trans e12.size e3.size
      · rcases e3.bimg b B hb with h0 | h0
        · exact .inl h0
        · exact .inr (by omega)
      · rcases e3.oimg b B n e t hb with h0 | h0
        · exact .inl h0
        · exact .inr (by omega)
      · rcases e3.knew B ks hk with h0 | h0 | h0
        · exact .inl h0
        · exact .inr (.inl h0)
        · exact .inr (.inr (by omega))
      · rw [q2 B (by omega), e3.same B (by omega) hn, e12.same B hlt hn]
      · exact (show w3.os = w.os from e3.os.trans e12.os)
      · exact (show w3.output = w.output from e3.output.trans e12.output)
      · rw [q4, e3.frozen ad (by omega), e12.frozen ad had]
    have hdd : DOk base { m3 with env := m.env } (Go.Ab.World.putObj w3 L (.loop endd)) ([{ target := .collected w.heap.size, args := #[] }] ++ a.defers) := by
      refine ⟨⟨w.heap.size, rfl, hbase, ?_, fun hi => ?_, ?_, fun d' hd' hde => ?_⟩, hd.ext hext⟩
      · rw [q2 _ (by omega), e3.same _ (by omega) (fun hi => by have := hlt1 _ hi; omega)]; exact hD
      · have hi : m3.img w.heap.size := hi
        rcases e3.img hi with h0 | h0
        · have := hlt1 _ h0; omega
        · omega
      · show m.env w.heap.size = none
        cases hh : m.env w.heap.size with
        | none => rfl
        | some o => have := (Array.getElem?_eq_some_iff.1 (hr.env _ o hh).1).1; omega
      · subst hde
        have hgen : ∀ ds, DOk base m w ds → ∀ d ∈ ds, ∃ r, d.target = .collected r ∧ r < w.heap.size := by
          intro ds
          induction ds with
          | nil => intro _ d hd; cases hd
          | cons d0 ds ih =>
            rintro ⟨⟨r, rfl, _, h3, _, _⟩, hrest⟩ d hd
            rcases List.mem_cons.1 hd with rfl | hd
            · exact ⟨r, rfl, (Array.getElem?_eq_some_iff.1 h3).1⟩
            · exact ih hrest d hd
        obtain ⟨r, hr1, hr2⟩ := hgen _ hd _ hd'
        simp only [Target.collected.injEq] at hr1
        omega
    refine ⟨none, _, hend, ?_⟩
    exact hQ _ { a with defers := [{ target := .collected w.heap.size, args := #[] }] ++ a.defers } _ .normal fr s3 hext r4 f3 g3 (hfr.mono hext.le) hdd (hafter s3 k3 f3 g3)
theorem code_sim (nt : Nat) (c : Code) : ∀ (ro : Option Nat) (base : Nat), Does P md X ro base nt c := by
  induction c with
  | skip => intro ro base K m w st fr a h hE hr hf hfr hd hbase Q hQ; exact wpIn_skip (hQ _ _ _ .normal fr st (Ext.refl _ _) hr hf (Grows.refl _) hfr hd h)
  | label _ => intro ro base K m w st fr a h hE hr hf hfr hd hbase Q hQ; exact wpIn_label (hQ _ _ _ .normal fr st (Ext.refl _ _) hr hf (Grows.refl _) hfr hd h)
  | exit id => intro ro base K m w st fr a h hE hr hf hfr hd hbase Q hQ; exact wpIn_exit (hQ _ _ _ (.exit id) fr st (Ext.refl _ _) hr hf (Grows.refl _) hfr hd h)
  | ret => intro ro base K m w st fr a h hE hr hf hfr hd hbase Q hQ; exact wpIn_ret (hQ _ _ _ .ret fr st (Ext.refl _ _) hr hf (Grows.refl _) hfr hd h)
  | goto _ => intro ro base K m w st fr a h; exact h.elim
  | refuse _ => intro ro base K m w st fr a h; exact h.elim
  | rangeFunc g ps as bd iha ihb =>
    intro ro base
    cases ro with
    | some l => intro K m w st fr a h; exact h.elim
    | none => exact does_range (fun L b => iha (some L) b) (fun L b => ihb (some L) b)
  | region id ops draw =>
    intro ro base K m w st fr a h hE hr hf hfr hd hbase Q hQ
    cases draw with
    | true => exact draw_sim ro Q hE hr hf hfr h fun m' a' w' fr' st' e1 r1 f1 w2 g1 d1 k1 => hQ m' a' w' .normal fr' st' e1 r1 f1 w2 g1 (by rw [d1]; exact hd.ext e1) k1
    | false => exact region_sim ro Q hE hr hf hfr h fun m' a' w' fr' st' e1 r1 f1 w2 g1 d1 k1 => hQ m' a' w' .normal fr' st' e1 r1 f1 w2 g1 (by rw [d1]; exact hd.ext e1) k1
  | seq x y ihx ihy => intro ro base; exact does_seq (ihx ro base) (ihy ro base)
  | cond c x y ihx ihy =>
    intro ro base K m w st fr a h hE hr hf hfr hd hbase Q hQ
    obtain ⟨v, hv, hc⟩ := optP_some h
    have hrel := evalO_rel hfr hv
    unfold condP at hc
    split at hc
    · rename_i b
      generalize hcv : a.eval c = cv at hrel
      cases hrel with | data _ _ hd' =>
      cases hd'
      cases b with
      | true => exact wpIn_cond_true hcv (ihx ro base (hc.1 rfl) hE hr hf hfr hd hbase Q hQ)
      | false => exact wpIn_cond_false hcv (ihy ro base (hc.2 rfl) hE hr hf hfr hd hbase Q hQ)
    · exact hc.elim
  | block id c ih =>
    intro ro base K m w st fr a h hE hr hf hfr hd hbase Q hQ
    apply wpIn_block
    refine ih ro base h hE hr hf hfr hd hbase _ fun m1 a1 w1 ex fr1 st1 e1 r1 f1 w2 g1 d1 k1 => ?_
    cases ex with
    | normal => exact hQ m1 a1 w1 .normal fr1 st1 e1 r1 f1 w2 g1 d1 k1
    | exit id' =>
      simp only [blockK] at k1
      simp only [exitOf, Exit.inBlock]
      by_cases hid : id' = id
      · subst hid
        rw [Go.Ab.beq_self] at k1
        rw [if_pos rfl]
        exact hQ m1 a1 w1 .normal fr1 st1 e1 r1 f1 w2 g1 d1 k1
      · rw [Go.Ab.beq_ne hid] at k1
        rw [if_neg hid]
        exact hQ m1 a1 w1 (.exit id') fr1 st1 e1 r1 f1 w2 g1 d1 k1
    | ret => exact hQ m1 a1 w1 .ret fr1 st1 e1 r1 f1 w2 g1 d1 k1
  | loop c ih => intro ro base; exact does_loop (ih ro base)
  | scope c ih =>
    intro ro base K m w st fr a h hE hr hf hfr hd hbase Q hQ
    apply wpIn_scope
    refine ih ro base h hE hr hf hfr hd hbase _ fun m1 a1 w1 ex fr1 st1 e1 r1 f1 w2 g1 d1 k1 => ⟨?_, hQ m1 a1 w1 ex fr1 st1 e1 r1 f1 w2 g1 d1 k1⟩
    intro l; cases ex <;> simp [exitOf]
theorem optP_pick {α β : Type} {x : Option α} {k : α → Prop} (h : optP x k) {T : β → Prop} {k' : α → β → Prop} (hk : ∀ a, k a → ∃ b, T b ∧ k' a b) : ∃ b, T b ∧ optP x (k' · b) := by
  cases x with
  | none => exact h.elim
  | some a => obtain ⟨b, h1, h2⟩ := hk a h; exact ⟨b, h1, h2⟩
theorem opP_pick {β : Type} (hX : ∀ E, X ≠ .weak E) {u : Bool} {op : Op} {vs : List PV} {st : St} {k : PV → St → List Nat → List Nat → Prop} (h : opP P md X u op vs st k) {T : β → Prop} {k' : PV → St → List Nat → List Nat → β → Prop}
    (hk : ∀ v s r w, k v s r w → ∃ b, T b ∧ k' v s r w b) : ∃ b, T b ∧ opP P md X u op vs st (k' · · · · b) := by
  unfold opP at h ⊢
  split at h
  · rename_i f args ats
    cases he : entersB P f with
    | false => simp only [he, cond_false] at h
    | true =>
      simp only [he, cond_true] at h ⊢
      rw [callU_or] at h
      simp only [callU_or]
      rcases h with ⟨v, st', bs, h1, h2⟩ | h
      · obtain ⟨b, g1, g2⟩ := hk _ _ _ _ h2
        exact ⟨b, g1, .inl ⟨v, st', bs, h1, g2⟩⟩
      · cases u with
        | true =>
          cases X with
          | old => exact h.elim
          | det E =>
            obtain ⟨v, st', h1, h2⟩ := h
            obtain ⟨b, g1, g2⟩ := hk _ _ _ _ h2
            exact ⟨b, g1, .inr ⟨v, st', h1, g2⟩⟩
          | weak E => exact absurd rfl (hX E)
        | false =>
          cases X with
          | old => exact h.elim
          | det E =>
            obtain ⟨v, st', fp, h1, h2⟩ := h
            obtain ⟨b, g1, g2⟩ := hk _ _ _ _ h2
            exact ⟨b, g1, .inr ⟨v, st', fp, h1, g2⟩⟩
          | weak E => exact absurd rfl (hX E)
  · cases u with
    | true =>
      cases X with
      | old => exact h.elim
      | det E => exact h.elim
      | weak E => exact absurd rfl (hX E)
    | false =>
      obtain ⟨g, bd, rest, rfl, he, h⟩ := dynSX_some P X h
      cases X with
      | old => exact h.elim
      | det E =>
        obtain ⟨v, st', fp, h1, h2⟩ := h
        obtain ⟨b, g1, g2⟩ := hk _ _ _ _ h2
        refine ⟨b, g1, ?_⟩
        show (bif entersB P g then _ else False)
        rw [he]
        exact ⟨v, st', fp, h1, g2⟩
      | weak E => exact absurd rfl (hX E)
  · cases u with
    | true =>
      cases X with
      | old => exact h.elim
      | det E => exact h.elim
      | weak E => exact absurd rfl (hX E)
    | false => exact h.elim
  · exact optP_pick h fun q hq => optP_pick hq fun p hp => hk _ _ _ _ hp
theorem gP_pick {β : Type} (hX : ∀ E, X ≠ .weak E) {u : Bool} {ops : List Oper} {o : Oper} {fr : Fr} {st : St} {k : PV → St → List Nat → List Nat → Prop} (h : gP P md X u ops o fr st k) {T : β → Prop} {k' : PV → St → List Nat → List Nat → β → Prop}
    (hk : ∀ v s r w, k v s r w → ∃ b, T b ∧ k' v s r w b) : ∃ b, T b ∧ gP P md X u ops o fr st (k' · · · · b) := by
  unfold gP at h ⊢
  cases hg : o.guard with
  | none =>
    rw [hg] at h
    exact optP_pick h fun vs hvs => opP_pick hX hvs hk
  | some p =>
    obtain ⟨j, want⟩ := p
    rw [hg] at h
    simp only at h ⊢
    cases hj : ops[j]? with
    | none => rw [hj] at h; exact hk _ _ _ _ h
    | some o' =>
      rw [hj] at h
      simp only at h ⊢
      cases hd : o'.dst with
      | none => rw [hd] at h; exact hk _ _ _ _ h
      | some d =>
        rw [hd] at h
        simp only at h ⊢
        unfold pGL at h ⊢
        split at h
        · exact optP_pick h fun vs hvs => opP_pick hX hvs hk
        · exact hk _ _ _ _ h
        · exact h.elim
theorem oP_pick {β : Type} (hX : ∀ E, X ≠ .weak E) {nt : Nat} {ops : List Oper} : ∀ {r : List Oper} {K : Ks} {fr : Fr} {st : St}, oP P md X nt ops r K fr st → ∀ {T : β → Prop} {K' : Fr → St → β → Prop}, (∀ f s, K f s → ∃ b, T b ∧ K' f s b) → ∃ b, T b ∧ oP P md X nt ops r (K' · · b) fr st
  | [], K, fr, st, h, T, K', hk => hk _ _ h
  | o :: r, K, fr, st, h, T, K', hk => by
    simp only [oP] at h ⊢
    cases hfit : Go.Ab.fitsT nt o.dst with
    | false => simp only [hfit, cond_false] at h
    | true =>
      simp only [hfit, cond_true] at h ⊢
      exact gP_pick hX h fun v s _ _ hv => oP_pick hX hv hk
theorem oDP_pick {β : Type} (hX : ∀ E, X ≠ .weak E) {nt : Nat} {ops : List Oper} : ∀ {r : List Oper} {K : Fr → List Log → St → Prop} {fr : Fr} {st : St}, oDP P md X nt ops r K fr st → ∀ {T : β → Prop} {K' : Fr → List Log → St → β → Prop}, (∀ f l s, K f l s → ∃ b, T b ∧ K' f l s b) →
    ∃ b, T b ∧ oDP P md X nt ops r (K' · · · b) fr st
  | [], K, fr, st, h, T, K', hk => hk _ _ _ h
  | o :: r, K, fr, st, h, T, K', hk => by
    simp only [oDP] at h ⊢
    cases hfit : Go.Ab.fitsT nt o.dst with
    | false => simp only [hfit, cond_false] at h
    | true =>
      simp only [hfit, cond_true] at h ⊢
      exact gP_pick hX h fun v s rd wr hv => oDP_pick hX (K' := fun f l s' b => K' f ((rd, wr ++ ids st.next s.next) :: l) s' b) hv fun f l s' hh => hk f _ s' hh
theorem codeP_pick {β : Type} (hX : ∀ E, X ≠ .weak E) {nt : Nat} (c : Code) : ∀ {rg : Bool} {K : Kx} {fr : Fr} {st : St}, codeP P md X nt c rg K fr st → ∀ {T : β → Prop} {K' : AExit → Fr → St → β → Prop}, (∀ x f s, K x f s → ∃ b, T b ∧ K' x f s b) → ∃ b, T b ∧ codeP P md X nt c rg (K' · · · b) fr st := by
  induction c with
  | skip => intro rg K fr st h T K' hk; exact hk _ _ _ h
  | label _ => intro rg K fr st h T K' hk; exact hk _ _ _ h
  | exit id => intro rg K fr st h T K' hk; exact hk _ _ _ h
  | ret => intro rg K fr st h T K' hk; exact hk _ _ _ h
  | goto _ => intro rg K fr st h; exact h.elim
  | refuse _ => intro rg K fr st h; exact h.elim
  | rangeFunc _ _ _ _ _ _ =>
    intro rg K fr st h
    cases rg with
    | false => exact h.elim
    | true =>
      cases X with
      | old => exact h.elim
      | det E => exact h.elim
      | weak E => exact absurd rfl (hX E)
  | region id ops d =>
    intro rg K fr st h T K' hk
    cases d with
    | false => exact oP_pick hX h fun f s hh => hk _ f s hh
    | true =>
      simp only [codeP, regP] at h ⊢
      cases hst : Go.Ab.staticOk ops.toList && P.follows .mixedOrders with
      | false => simp only [hst, cond_false] at h
      | true =>
        simp only [hst, cond_true] at h ⊢
        exact oDP_pick hX (K' := fun f l s b => clashesB [] l (Go.Ab.befores ops.toList []) = false ∧ K' .normal f s b) h fun f l s hh => by
          obtain ⟨b, h1, h2⟩ := hk _ f s hh.2
          exact ⟨b, h1, hh.1, h2⟩
  | seq a b iha ihb =>
    intro rg K fr st h T K' hk
    have := iha (K' := fun x f s b' => seqK (codeP P md X nt b rg (K' · · · b')) (K' · · · b') x f s) h (T := T) fun x f s hh => by
      cases x with
      | normal => exact ihb hh hk
      | exit id => exact hk _ _ _ hh
      | ret => exact hk _ _ _ hh
    exact this
  | cond c a b iha ihb =>
    intro rg K fr st h T K' hk
    refine optP_pick h fun x hx => ?_
    unfold condP at hx ⊢
    split at hx
    · rename_i bb
      cases bb with
      | true =>
        obtain ⟨b', h1, h2⟩ := iha (hx.1 rfl) hk
        exact ⟨b', h1, (fun _ => h2), (fun h => by cases h)⟩
      | false =>
        obtain ⟨b', h1, h2⟩ := ihb (hx.2 rfl) hk
        exact ⟨b', h1, (fun h => by cases h), fun _ => h2⟩
    · exact hx.elim
  | block id c ih =>
    intro rg K fr st h T K' hk
    have := ih (K' := fun x f s b' => blockK id (K' · · · b') x f s) h (T := T) fun x f s hh => by
      cases x with
      | normal => exact hk _ _ _ hh
      | exit id' =>
        simp only [blockK] at hh ⊢
        cases hb : Nat.beq id' id with
        | true => rw [hb] at hh; exact hk _ _ _ hh
        | false => rw [hb] at hh; exact hk _ _ _ hh
      | ret => exact hk _ _ _ hh
    exact this
  | loop c ih =>
    intro rg K fr st h T K' hk
    obtain ⟨n, h⟩ := h
    have key : ∀ (n : Nat) {fr : Fr} {st : St}, loopP (fun W => codeP P md X nt c rg (seqK W K)) n fr st → ∃ b, T b ∧ loopP (fun W => codeP P md X nt c rg (seqK W (K' · · · b))) n fr st := by
      intro n
      induction n with
      | zero => intro fr st h; exact h.elim
      | succ n ihn =>
        intro fr st h
        exact ih (K' := fun x f s b' => seqK (loopP (fun W => codeP P md X nt c rg (seqK W (K' · · · b'))) n) (K' · · · b') x f s) h fun x f s hh => by
          cases x with
          | normal => exact ihn hh
          | exit id => exact hk _ _ _ hh
          | ret => exact hk _ _ _ hh
    obtain ⟨b, h1, h2⟩ := key n h
    exact ⟨b, h1, n, h2⟩
  | scope c ih => intro rg K fr st h T K' hk; exact ih h hk
end
section
variable (P : Program)
def res1 (fr : Fr) (st : St) : ResultVar → Option PV
  | .tmp t => some (fr t)
  | .cell a t => match loadQ P t (fr a) with
    | some q => match q.run st with
      | some p => some p.1
      | none => none
    | none => none
def resAll (fr : Fr) (st : St) : List ResultVar → Option (List PV)
  | [] => some []
  | r :: rs => match res1 P fr st r with
    | some v => match resAll fr st rs with
      | some l => some (v :: l)
      | none => none
    | none => none
def tupP : List PV → PV
  | [v] => v
  | l => .tuple l
def back1 : PV → Option PV
  | .agg l => match datas l with
    | some k => some (.agg k)
    | none => none
  | v => v.data
def backs : List PV → Option (List PV)
  | [] => some []
  | v :: r => match back1 v with
    | some x => match backs r with
      | some l => some (x :: l)
      | none => none
    | none => none
def backV (e : Nat) (st : St) : PV → Option PV
  | .tuple l => match backs l with
    | some k => some (.tuple k)
    | none => none
  | .nil => some (.acc e [])
  | .acc _ [] => some (.acc e [])
  | .acc b rows => match st.heap b with
    | some (.own n e') => bif Nat.beq n rows.length && Nat.beq e' e && rows.all (fun r => Nat.beq r.length e) && Nat.blt 0 e then some (.acc e rows) else none
    | _ => none
  | v => back1 v
def back0 (a : PV) : Option PV := match a with
  | .tuple l => (match backs l with
    | some k => some (PV.tuple k)
    | none => none)
  | v => back1 v
def retK (e k : Nat) (rs : List ResultVar) (Q : PV → List (List PV) → Prop) : Kx := fun x fr st => match x with
  | .exit _ => False
  | _ => optP (resAll P fr st rs) fun l => optP (bif Nat.beq e 0 then back0 (tupP l) else backV e st (tupP l)) fun r => optP (getBoxes st (List.range k)) fun conts' => Q r conts'
def frameOf (args : List PV) : Fr := fun t => (args[t]?).getD .undef
def initSt (conts : List (List PV)) : St := { heap := fun b => (conts[b]?).map Obj.box, next := conts.length }
end
end Go.Vi
namespace Go.Vi
open Go.Ab (Fw AExit exitOf and_true resF results_eq asAddr_of_load)
section
variable {P : Program} {m : J} {w : World}
theorem res1_sim {nt : Nat} {fr : Fr} {tmps : Array Value} (hfr : FR m nt fr tmps) {st : St} (hr : Rel m st.heap w) {r : ResultVar} {x : PV} (h : res1 P fr st r = some x) :
    ∃ v, (resF tmps r).run P w = .ok v w ∧ VR m x v := by
  cases r with
  | tmp t =>
    simp only [res1, Option.some.injEq] at h; subst h
    exact ⟨_, rfl, hfr.get t⟩
  | cell a t =>
    simp only [res1] at h
    split at h
    · rename_i q hq
      split at h
      · rename_i p hp
        simp at h; subst h
        obtain ⟨_, v, g1, g2⟩ := load_ok (P := P) hr (hfr.get a) hq rfl (y := p.1) (st' := p.2) (by rw [hp])
        exact ⟨v, asAddr_of_load g1, g2⟩
      · cases h
    · cases h
theorem resAll_sim {nt : Nat} {fr : Fr} {tmps : Array Value} (hfr : FR m nt fr tmps) {st : St} (hr : Rel m st.heap w) : ∀ {rs : List ResultVar} {l : List PV}, resAll P fr st rs = some l →
    ∃ l', (rs.mapM (resF tmps)).run P w = .ok l' w ∧ VRs m l l'
  | [], l, h => by simp [resAll] at h; subst h; exact ⟨[], by simp, .nil⟩
  | r :: rs, l, h => by
    simp only [resAll] at h
    split at h
    · rename_i v hv
      split at h
      · rename_i l' hl
        simp at h; subst h
        obtain ⟨u, g1, g2⟩ := res1_sim hfr hr hv
        obtain ⟨us, g3, g4⟩ := resAll_sim hfr hr hl
        refine ⟨u :: us, ?_, .cons _ _ _ _ g2 g4⟩
        rw [List.mapM_cons, Sem.run_bind, g1]
        simp only [Sem.run_bind, g3, Result.andThen_ok, Sem.run_pure]
      · cases h
    · cases h
theorem tupP_rel {l : List PV} {l' : List Value} (h : VRs m l l') : VR m (tupP l) (if h : l'.toArray.size = 1 then l'.toArray[0] else .tuple l'.toArray) := by
  cases h with
  | nil => exact .tuple _ _ .nil
  | cons a v l l' h1 h2 =>
    cases h2 with
    | nil => exact h1
    | cons b u k k' h3 h4 =>
      rw [dif_neg (by simp)]
      exact .tuple _ _ (.cons _ _ _ _ h1 (.cons _ _ _ _ h3 h4))
theorem back1_rel {a x : PV} {v : Value} (hv : VR m a v) (h : back1 a = some x) : R1 m.K x v := by
  unfold back1 at h
  split at h
  · rename_i l
    split at h
    · rename_i k hk
      simp at h; subst h
      cases hv with
      | data _ _ hd => cases hd
      | agg _ l' hl => exact .agg _ _ (hl.toData hk)
    · cases h
  · exact .data _ _ (hv.toData h)
theorem backs_rel : ∀ {l k : List PV} {l' : List Value}, VRs m l l' → backs l = some k → R1s m.K k l'
  | [], k, l', hv, h => by simp [backs] at h; subst h; cases hv; exact .nil
  | a :: l, k, l', hv, h => by
    cases hv with
    | cons _ v _ l' h1 h2 =>
      simp only [backs] at h
      split at h
      · rename_i x hx
        split at h
        · rename_i k' hk
          simp at h; subst h
          exact .cons _ _ _ _ (back1_rel h1 hx) (backs_rel h2 hk)
        · cases h
      · cases h
theorem back0_rel {a x : PV} {v : Value} (hv : VR m a v) (h : back0 a = some x) (base : Nat) : RR m.K w base x v := by
  unfold back0 at h
  split at h
  · rename_i l
    split at h
    · rename_i k hk
      simp at h; subst h
      cases hv with
      | data _ _ hd => cases hd
      | tuple _ l' hl => exact .tuple _ _ (backs_rel hl hk)
    · cases h
  · exact .one _ _ (back1_rel hv h)
theorem backV_rel {st : St} (hr : Rel m st.heap w) {e : Nat} {a x : PV} {v : Value} (hv : VR m a v) (h : backV e st a = some x) {base : Nat} (hb : ∀ b B n e t, m.own b = some (B, n, e, t) → base ≤ B) : RR m.K w base x v := by
  unfold backV at h
  split at h
  · rename_i l
    split at h
    · rename_i k hk
      simp at h; subst h
      cases hv with
      | data _ _ hd => cases hd
      | tuple _ l' hl => exact .tuple _ _ (backs_rel hl hk)
    · cases h
  · simp at h; subst h
    cases hv with
    | data _ _ hd => cases hd; exact .own0 e
    | nil => exact .own0 e
  · simp at h; subst h
    cases hv with
    | data _ _ hd => cases hd
    | acc0 => exact .own0 e
    | acc _ _ _ _ _ _ _ _ _ h0 => simp at h0
  · rename_i b rows hne
    split at h
    · rename_i n e' hown
      cases hc : Nat.beq n rows.length && Nat.beq e' e && rows.all (fun r => Nat.beq r.length e) && Nat.blt 0 e with
      | false => simp [hc] at h
      | true =>
        simp only [hc, cond_true, Option.some.injEq] at h
        subst h
        obtain ⟨hc123, hc4⟩ := and_true hc
        obtain ⟨hc12, hc3⟩ := and_true hc123
        obtain ⟨hc1, hc2⟩ := and_true hc12
        have hn := Nat.eq_of_beq_eq_true hc1
        have he := Nat.eq_of_beq_eq_true hc2
        subst hn he
        have hall : ∀ row ∈ rows, row.length = e' := fun row hm => Nat.eq_of_beq_eq_true (List.all_eq_true.1 hc3 row hm)
        rcases own_top hr hown (.inr rfl) hall hv with ⟨rfl, rfl⟩ | ⟨h0, B, c, t, ks, vs, ty, rfl, hcap, hct, ho, hk, hR, hw, hs, hp⟩
        · exact .own0 e'
        · exact .own rows B e' c ks vs ty (hb _ _ _ _ _ ho) hk hR h0 hcap hw (by rw [hs]; exact hct)
    · cases h
  · exact .one _ _ (back1_rel hv h)
theorem Conts.box {K : KK} : ∀ {Bs : List Nat} {css : List (List PV)}, Conts K w Bs css → ∀ (i : Nat) (cs : List PV), css[i]? = some cs → ∃ B vs ty, Bs[i]? = some B ∧ K B = none ∧ w.heap[B]? = some (.cells vs ty (0, 0)) ∧ DRs K cs vs.toList
  | _, _, .nil, i, cs, h => by simp at h
  | _, _, .cons B cs' Bs css vs ty hK hw hd hr, i, cs, h => by
    cases i with
    | zero => simp at h; subst h; exact ⟨B, vs, ty, rfl, hK, hw, hd⟩
    | succ i => simp at h; obtain ⟨B', vs', ty', h1, h2⟩ := hr.box i cs h; exact ⟨B', vs', ty', by simpa using h1, h2⟩
theorem init_rel {K : KK} (hK : FroK K w) {Bs : List Nat} {conts : List (List PV)} (hc : Conts K w Bs conts) (hnd : Bs.Nodup) : Rel { box := fun b => Bs[b]?, own := fun _ => none, K := K } (initSt conts).heap w := by
  have hbox : ∀ b B, Bs[b]? = some B → ∃ cs, conts[b]? = some cs := fun b B hb => by
    have hlt := (List.getElem?_eq_some_iff.1 hb).1
    rw [hc.length] at hlt
    exact ⟨conts[b]'hlt, List.getElem?_eq_getElem hlt⟩
  refine ⟨fun b o hb => ?_, (fun B o ho => by cases ho), fun b n e hb => ?_, hK, fun b B hb => ?_, (fun b x hb => by cases hb), fun b b' B h1 h2 _ _ => ?_, (fun _ _ _ _ _ _ _ _ _ h => by cases h), fun b B hb _ => ?_, fun b B hb => ?_⟩
  · simp only [initSt, Option.map_eq_some_iff] at hb
    obtain ⟨cs', h1, rfl⟩ := hb
    obtain ⟨B, vs, ty, g1, g2, g3, g4⟩ := hc.box b cs' h1
    exact ⟨B, vs, ty, g1, g3, DRs.vrs (m := { box := fun b => Bs[b]?, own := fun _ => none, K := K }) g4⟩
  · simp only [initSt, Option.map_eq_some_iff] at hb
    obtain ⟨cs', _, h2⟩ := hb
    cases h2
  · obtain ⟨cs, h1⟩ := hbox b B hb
    exact ⟨.box cs, by simp only [initSt]; rw [h1]; rfl, rfl⟩
  · obtain ⟨l1, e1⟩ := List.getElem?_eq_some_iff.1 h1
    obtain ⟨l2, e2⟩ := List.getElem?_eq_some_iff.1 h2
    rcases Nat.lt_trichotomy b b' with hlt | heq | hlt
    · exact absurd (e1.trans e2.symm) (List.pairwise_iff_getElem.1 hnd b b' l1 l2 hlt)
    · exact heq
    · exact absurd (e2.trans e1.symm) (List.pairwise_iff_getElem.1 hnd b' b l2 l1 hlt)
  · obtain ⟨cs, hcs⟩ := hbox b B hb
    obtain ⟨B', vs, ty, g1, g2, _⟩ := hc.box b cs hcs
    have hb' : Bs[b]? = some B := hb
    rw [hb'] at g1; cases g1; exact g2
  · obtain ⟨cs, hcs⟩ := hbox b B hb
    obtain ⟨B', vs, ty, g1, _, g3, _⟩ := hc.box b cs hcs
    have hb' : Bs[b]? = some B := hb
    rw [hb'] at g1; cases g1; exact (Array.getElem?_eq_some_iff.1 g3).1
theorem ar_vr {K : KK} {Bs : List Nat} {a : PV} {v : Value} (h : AR K Bs a v) : VR { box := fun b => Bs[b]?, own := fun _ => none, K := K } a v := by
  cases h with
  | data _ _ hd => exact .data _ _ hd
  | agg l l' hl => exact .agg _ _ (DRs.vrs (m := { box := fun b => Bs[b]?, own := fun _ => none, K := K }) hl)
  | ptr i B hi => exact .ptr i 0 B hi
theorem ars_vrs {K : KK} {Bs : List Nat} : ∀ {l : List PV} {l' : List Value}, ARs K Bs l l' → VRs { box := fun b => Bs[b]?, own := fun _ => none, K := K } l l'
  | [], _, .nil => .nil
  | _ :: _, _, .cons _ _ _ _ h1 h2 => .cons _ _ _ _ (ar_vr h1) (ars_vrs h2)
theorem enter_fr {args : List PV} {cargs : List Value} (h : VRs m args cargs) (n : Nat) :
    FR m (max args.length n) (frameOf args) (cargs.toArray ++ Array.replicate (n - cargs.toArray.size) undef) := by
  have hl := h.length
  refine ⟨by simp; omega, fun t => ?_⟩
  unfold frameOf
  by_cases ht : t < args.length
  · obtain ⟨v, g1, g2⟩ := h.get (List.getElem?_eq_getElem ht)
    have : (cargs.toArray ++ Array.replicate (n - cargs.toArray.size) undef).getD t undef = v := by
      rw [Array.getD_eq_getD_getElem?, Array.getElem?_append_left (by simp; omega)]
      simp [g1]
    rw [this, List.getElem?_eq_getElem ht]
    exact g2
  · have : (cargs.toArray ++ Array.replicate (n - cargs.toArray.size) undef).getD t undef = undef := by
      rw [Array.getD_eq_getD_getElem?, Array.getElem?_append_right (by simp; omega)]
      simp only [Array.getElem?_replicate]
      split <;> rfl
    rw [this, List.getElem?_eq_none (by omega)]
    exact .tuple _ _ .nil
theorem getBoxes_get {st : St} : ∀ {bs : List Nat} {l : List (List PV)}, getBoxes st bs = some l → l.length = bs.length ∧ ∀ (i b : Nat), bs[i]? = some b → ∃ cs k : List PV, st.heap b = some (.box cs) ∧ datas cs = some k ∧ l[i]? = some k
  | [], l, h => by simp [getBoxes] at h; subst h; exact ⟨rfl, fun i b hb => by simp at hb⟩
  | b :: bs, l, h => by
    simp only [getBoxes] at h
    split at h
    · rename_i cs hcs
      split at h
      · rename_i k hk
        split at h
        · rename_i l' hl
          simp at h; subst h
          obtain ⟨h1, h2⟩ := getBoxes_get hl
          refine ⟨by simp [h1], fun i b' hb => ?_⟩
          cases i with
          | zero => simp at hb; subst hb; exact ⟨cs, k, hcs, hk, rfl⟩
          | succ i => simp at hb; obtain ⟨cs', k', g1, g2, g3⟩ := h2 i b' hb; exact ⟨cs', k', g1, g2, by simpa using g3⟩
        · cases h
      · cases h
    · cases h
theorem Conts.of_get {K : KK} : ∀ {Bs : List Nat} {css : List (List PV)}, Bs.length = css.length → (∀ (i B : Nat) (cs : List PV), Bs[i]? = some B → css[i]? = some cs → K B = none ∧ ∃ vs ty, w.heap[B]? = some (.cells vs ty (0, 0)) ∧ DRs K cs vs.toList) → Conts K w Bs css
  | [], [], _, _ => .nil
  | [], _ :: _, h, _ => by simp at h
  | _ :: _, [], h, _ => by simp at h
  | B :: Bs, cs :: css, hl, h => by
    obtain ⟨h1, vs, ty, h2, h3⟩ := h 0 B cs rfl rfl
    exact .cons B cs Bs css vs ty h1 h2 h3 (Conts.of_get (by simpa using hl) fun i B' cs' hB hc => h (i + 1) B' cs' (by simpa using hB) (by simpa using hc))
theorem marks_leave {fn : Func} {tmps : Array Value} {R : Ending → World → Prop} {m m1 : J} {w : World} {h : Nat → Option Obj} :
    ∀ (ds : List Deferred) {w1 : World}, Ext m w m1 w1 → Rel m1 h w1 → DOk w.heap.size m1 w1 ds → (∀ w2, Ext m w m1 w2 → Rel m1 h w2 → LeavesIn Fence.wide 0 P fn tmps R [] .returning w2) →
      LeavesInM Fence.wide 0 P fn tmps R ds .returning w1
  | [], w1, he, hr, _, hk => hk w1 he hr
  | d :: ds, w1, he, hr, ⟨⟨r, h1, h2, h3, h4, h0, h5⟩, h6⟩, hk => by
    subst h1
    refine ⟨(by intro h; cases h), .inl ⟨r, Go.Ab.World.putObj w1 r (.deferred none), rfl, ?_, ?_⟩⟩
    · have hgo : (getObj r).run P w1 = .ok (.deferred (some [])) w1 := by simp [getObj, Sem.run, h3]
      have hset : (setObj r (.deferred none)).run P w1 = .ok () (Go.Ab.World.putObj w1 r (.deferred none)) := by simp only [setObj, Sem.run, h3]; rfl
      simp only [Instr.takeDeferred, Sem.run_bind, hgo, Result.andThen_ok, hset, Sem.run_pure]
    · obtain ⟨g1, g2, g3, g4⟩ := Go.Ab.putObj_facts w1 r _ (.deferred none) h3 (fun c t fr h => by cases h) (fun c t fr h => by cases h)
      refine marks_leave ds (m1 := m1) ⟨he.le, by rw [g3]; exact he.size, he.bimg, he.oimg, he.knew, fun B hB hn => ?_, he.os, he.output, fun a ha => (g4 a).trans (he.frozen a ha), he.env⟩ (hr.put h3 rfl (fun l c e => by cases e) rfl h0) ?_ hk
      · rw [g2 B (by omega)]; exact he.same B hB hn
      · have key : ∀ ds, DOk w.heap.size m1 w1 ds → (∀ d' ∈ ds, d' ≠ ({ target := .collected r, args := #[] } : Deferred)) → DOk w.heap.size m1 (Go.Ab.World.putObj w1 r (.deferred none)) ds := by
          intro ds
          induction ds with
          | nil => intro _ _; trivial
          | cons d0 ds ih =>
            rintro ⟨⟨q, k1, k2, k3, k4, k0, k5⟩, k6⟩ hne
            refine ⟨⟨q, k1, k2, ?_, k4, k0, k5⟩, ih k6 fun d' hd' => hne d' (List.mem_cons_of_mem _ hd')⟩
            rw [g2 q (by rintro rfl; exact hne d0 List.mem_cons_self k1)]
            exact k3
        exact key ds h6 h5
theorem pc_of_body {f : FuncId} {fn : Func} {c : Code} (hfn : P.funcs[f]? = some fn) (hb : fn.body = some c) {args : List PV} {conts : List (List PV)} {r : PV} {conts' : List (List PV)} (e : Nat)
    {md : Bool} (h : codeP P md .old (max args.length fn.ntmps) c true (retK P e conts.length fn.results.toList fun r' c' => r' = r ∧ c' = conts') (frameOf args) (initSt conts)) : PC P f args conts r conts' := by
  intro K w Bs cargs hK hC hnd hargs
  have hr := init_rel hK hC hnd
  have hvs := ars_vrs hargs
  have hlen : args.length = cargs.length := hvs.length
  refine callsIn_of_wp_marks hfn hb trivial ?_
  have hfree : Free (initSt conts) := fun b hb => by
    show (conts[b]?).map Obj.box = none
    have hb' : conts.length ≤ b := hb
    rw [List.getElem?_eq_none hb']; rfl
  refine code_sim (max args.length fn.ntmps) c none w.heap.size (a := { tmps := _, defers := [] }) h trivial hr hfree (enter_fr hvs fn.ntmps) trivial (Nat.le_refl _) _ fun m1 a1 w1 x fr1 st1 e1 r1 f1 _ g1 d1 k1 => ?_
  have fin : (optP (resAll P fr1 st1 fn.results.toList) fun l => optP (bif Nat.beq e 0 then back0 (tupP l) else backV e st1 (tupP l)) fun r' => optP (getBoxes st1 (List.range conts.length)) fun c' => r' = r ∧ c' = conts') →
      LeavesInM Fence.wide 0 P fn a1.tmps (fun en w' => ∃ K' v, en = .returned v ∧ Came K w Bs r conts' K' v w') a1.defers .returning w1 := by
    intro hk
    obtain ⟨l, hl, hk⟩ := optP_some hk
    obtain ⟨r', hr', hk⟩ := optP_some hk
    obtain ⟨c', hc', rfl, rfl⟩ := optP_some hk
    refine marks_leave a1.defers e1 r1 d1 fun w2 e2 r2 => ?_
    obtain ⟨l', q1, q2⟩ := resAll_sim g1 r2 hl
    have hv := tupP_rel q2
    refine ⟨if h : l'.toArray.size = 1 then l'.toArray[0] else .tuple l'.toArray, ?_, m1.K, _, rfl, ?_⟩
    · rw [results_eq, Sem.run_bind]
      simp only [map_eq_pure_bind, Sem.run_bind, q1, Result.andThen_ok, Sem.run_pure]
    · have hown : ∀ b B n e t, m1.own b = some (B, n, e, t) → w.heap.size ≤ B := by
        intro b B n e t ho
        rcases e2.oimg b B n e t ho with ⟨_, _, _, _, h1⟩ | h1
        · cases h1
        · exact h1
      obtain ⟨c1, c2⟩ := getBoxes_get hc'
      refine ⟨e2.le.K, r2.fro, fun B ks hk2 hlt => ?_, ?_, e2.size, fun B hlt hn => e2.same B hlt ?_, e2.os, e2.output, e2.frozen, ?_⟩
      · rcases e2.knew B ks hk2 with ⟨_, _, _, _, h1⟩ | h1 | h1
        · cases h1
        · exact h1
        · omega
      · refine Conts.of_get (by rw [c1, List.length_range]; exact hC.length) fun i B cs hB hcs => ?_
        have hi : i < conts.length := by rw [← hC.length]; exact (List.getElem?_eq_some_iff.1 hB).1
        obtain ⟨cs0, k, g2, g3, g4⟩ := c2 i i (by rw [List.getElem?_range hi])
        rw [hcs] at g4; cases g4
        obtain ⟨B', vs, ty, g5, g6, g7⟩ := r2.box i cs0 g2
        have := e2.le.box i B hB
        rw [this] at g5; cases g5
        exact ⟨r2.bK i B this (by rw [g2]; exact not_dead rfl), vs, ty, g6, g7.toData g3⟩
      · rintro (⟨b, hb⟩ | ⟨b, n, e, t, hb⟩)
        · exact hn (List.mem_of_getElem? hb)
        · cases hb
      · cases he : Nat.beq e 0 with
        | true => simp only [he, cond_true] at hr'; exact back0_rel hv hr' _
        | false => simp only [he, cond_false] at hr'; exact backV_rel r2 hv hr' hown
  cases x with
  | normal => exact fin k1
  | exit id => exact k1.elim
  | ret => exact fin k1
def PQ (P : Program) (f : FuncId) (args : List PV) (conts : List (List PV)) (Q : PV → List (List PV) → Prop) : Prop := ∃ r conts', PC P f args conts r conts' ∧ Q r conts'
theorem pq_of_body {f : FuncId} {fn : Func} {c : Code} (hfn : P.funcs[f]? = some fn) (hb : fn.body = some c) {args : List PV} {conts : List (List PV)} {Q : PV → List (List PV) → Prop} (e : Nat)
    {md : Bool} (h : codeP P md .old (max args.length fn.ntmps) c true (retK P e conts.length fn.results.toList Q) (frameOf args) (initSt conts)) : PQ P f args conts Q := by
  obtain ⟨⟨r, conts'⟩, hQ, h'⟩ := codeP_pick (β := PV × List (List PV)) (fun E h => by cases h) c h (T := fun b => Q b.1 b.2) (K' := fun x f s b => retK P e conts.length fn.results.toList (fun r' c' => r' = b.1 ∧ c' = b.2) x f s) fun x f s hx => by
    have : ∀ {A : Option (List PV)} {B : List PV → Option PV} {C : Option (List (List PV))}, (optP A fun l => optP (B l) fun r => optP C fun c' => Q r c') → ∃ b : PV × List (List PV), Q b.1 b.2 ∧ optP A fun l => optP (B l) fun r => optP C fun c' => r = b.1 ∧ c' = b.2 := by
      intro A B C h0
      obtain ⟨l, g1, h1⟩ := optP_some h0
      obtain ⟨r, g2, h2⟩ := optP_some h1
      obtain ⟨c', g3, h3⟩ := optP_some h2
      exact ⟨(r, c'), h3, by simp only [optP, g1, g2, g3, and_self]⟩
    cases x with
    | normal => exact this hx
    | exit id => exact hx.elim
    | ret => exact this hx
  exact ⟨r, conts', pc_of_body hfn hb e h', hQ⟩
def retS (P : Program) (rs : List ResultVar) (Q : PV → St → Prop) : Kx := fun x fr st => match x with
  | .exit _ => False
  | _ => optP (resAll P fr st rs) fun l => Q (tupP l) st
theorem sw_of_body {X : Mode} {f : FuncId} {fn : Func} {c : Code} (hfn : P.funcs[f]? = some fn) (hb : fn.body = some c) {args : List PV} {st : St} {Q : PV → St → Prop} {md : Bool} (hf : Free st)
    (h : codeP P md X (max args.length fn.ntmps) c true (retS P fn.results.toList Q) (frameOf args) st) : SW X.env P f args st Q := by
  intro m w cargs hE hr hvs
  have hlen : args.length = cargs.length := hvs.length
  refine callsIn_of_wp_marks hfn hb trivial ?_
  refine code_sim (max args.length fn.ntmps) c none w.heap.size (a := { tmps := _, defers := [] }) h hE hr hf (enter_fr hvs fn.ntmps) trivial (Nat.le_refl _) _ fun m1 a1 w1 x fr1 st1 e1 r1 f1 w1' g1 d1 k1 => ?_
  have fin : (optP (resAll P fr1 st1 fn.results.toList) fun l => Q (tupP l) st1) → LeavesInM Fence.wide 0 P fn a1.tmps (Ends m w st Q) a1.defers .returning w1 := by
    intro hk
    obtain ⟨l, hl, hk⟩ := optP_some hk
    refine marks_leave a1.defers e1 r1 d1 fun w2 e2 r2 => ?_
    obtain ⟨l', q1, q2⟩ := resAll_sim g1 r2 hl
    refine ⟨if h : l'.toArray.size = 1 then l'.toArray[0] else .tuple l'.toArray, ?_, m1, _, tupP l, st1, rfl, e2, r2, tupP_rel q2, w1', f1, hk⟩
    rw [results_eq, Sem.run_bind]
    simp only [map_eq_pure_bind, Sem.run_bind, q1, Result.andThen_ok, Sem.run_pure]
  cases x with
  | normal => exact fin k1
  | exit id => exact k1.elim
  | ret => exact fin k1
theorem optP_keep {A : Option (List PV)} {Q : PV → St → Prop} {s : St} (h : optP A fun l => Q (tupP l) s) : ∃ b : PV × St, Q b.1 b.2 ∧ optP A fun l => tupP l = b.1 ∧ s = b.2 := by
  obtain ⟨l, g1, h1⟩ := optP_some h
  exact ⟨(tupP l, s), h1, by simp only [optP, g1, and_self]⟩
theorem sc_of_body {E : Env} {f : FuncId} {fn : Func} {c : Code} (hfn : P.funcs[f]? = some fn) (hb : fn.body = some c) {args : List PV} {st : St} {Q : PV → St → Prop} {md : Bool} (hf : Free st) (hQ : ∀ r s, Q r s → Grows st s ∧ Free s)
    (h : codeP P md (.det E) (max args.length fn.ntmps) c true (retS P fn.results.toList Q) (frameOf args) st) : ∃ r st', SC E P f args st r st' ∧ Q r st' := by
  obtain ⟨⟨r, st'⟩, hq, h'⟩ := codeP_pick (β := PV × St) (fun E h => by cases h) c h (T := fun b => Q b.1 b.2) (K' := fun x f s b => retS P fn.results.toList (fun r' s' => r' = b.1 ∧ s' = b.2) x f s) fun x f s hx => by
    cases x with
    | normal => exact optP_keep hx
    | exit id => exact hx.elim
    | ret => exact optP_keep hx
  obtain ⟨h1, h2⟩ := hQ r st' hq
  exact ⟨r, st', .of_sw (sw_of_body (X := .det E) hfn hb hf h') h1 h2, hq⟩
end
end Go.Vi
namespace Go.Vi
open Go.Ab (AExit)
def pQ (x : Option Req) (s : St) (k : PV → St → Prop) : Prop := optP x fun q => optP (q.run s) fun p => k p.1 p.2
def pQL (x : Option Req) (s : St) (k : PV → St → List Nat → List Nat → Prop) : Prop := optP x fun q => optP (q.run s) fun p => k p.1 p.2 q.rd q.wr
def pC (P : Program) (X : Mode) (f : FuncId) (vs : List PV) (s : St) (k : PV → St → Prop) : Prop := callU P X true f vs s fun v s' _ _ => k v s'
def pCL (P : Program) (X : Mode) (f : FuncId) (vs : List PV) (s : St) (k : PV → St → List Nat → List Nat → Prop) : Prop := callU P X false f vs s k
def pCall (P : Program) (f : FuncId) (vs : List PV) (s : St) (k : PV → St → Prop) : Prop := pC P .old f vs s k
def pCallL (P : Program) (f : FuncId) (vs : List PV) (s : St) (k : PV → St → List Nat → List Nat → Prop) : Prop := pCL P .old f vs s k
def pDyn (P : Program) (X : Mode) (vs : List PV) (s : St) (k : PV → St → Prop) : Prop := dynX P X vs s k
def pDynS (P : Program) (X : Mode) (vs : List PV) (s : St) (k : PV → St → List Nat → List Nat → Prop) : Prop := dynSX P X vs s fun v s' fp => k v s' [] fp
def pGU (P : Program) (X : Mode) (f : FuncId) (vs : List PV) (s : St) (k : PV → St → List Nat → List Nat → Prop) : Prop := callU P X true f vs s k
def qAsg (x : PV) : Option Req := match x with
  | .nil => some (.own 0 0 fun b => .acc b [])
  | x => some (.val x)
def qPick (c a b : PV) : Option Req := match c with
  | .bool c => some (.val (bif c then a else b))
  | _ => none
def qBox (x : PV) : Option Req := bif x.cells.all PV.scalar then some (.box x.cells fun b => .ptr b 0) else none
def fillL (cells : List PV) : List (Option (Nat × Nat) × PV) → Option (List PV)
  | [] => some cells
  | (p, v) :: rest => match p with
    | none => none
    | some (off, size) => bif Nat.beq v.cells.length size then (match spliceP cells off v.cells with
        | some cs => fillL cs rest
        | none => none) else none
def qBuild (z : List PV) (parts : List (Option (Nat × Nat) × PV)) : Option Req := bif (parts.map Prod.snd).all PV.solid then (match (match fillL z parts with
    | some l => some (PV.agg l)
    | none => none) with
    | some v => some (.val v)
    | none => none) else none
def rowsL (size : Nat) : List PV → Option (List (List PV))
  | [] => some []
  | v :: r => bif Nat.beq v.cells.length size then (match datas v.cells with
      | some row => match rowsL size r with
        | some l => some (row :: l)
        | none => none
      | none => none) else none
def qBsl (size : Nat) (l : List PV) : Option Req := match (match rowsL size l with
    | some rows => some (lstP rows)
    | none => none) with
    | some v => some (.val v)
    | none => none
def qLoad1 (a : PV) : Option Req := match a with
  | .ptr b o => some (.load b fun cs => cs[o]?)
  | .eptr row o => match row[o]? with
    | some v => some (.val v)
    | none => none
  | _ => none
def cutN (n : Nat) (cs : List PV) (o : Nat) : Option PV := if o + n ≤ cs.length then some (.agg ((cs.drop o).take n)) else none
def qLoadN (n : Nat) (a : PV) : Option Req := match a with
  | .ptr b o => some (.load b fun cs => cutN n cs o)
  | .eptr row o => match cutN n row o with
    | some v => some (.val v)
    | none => none
  | _ => none
def qStore (n : Nat) (x a : PV) : Option Req := match a with
  | .ptr b o => bif Nat.beq x.cells.length n && x.cells.all PV.scalar then some (.store b fun cs => spliceP cs o x.cells) else none
  | _ => none
def qNil (x : PV) : Option Req := match x with
  | .ptr b o => some (.val (.ptr b o))
  | .eptr r o => some (.val (.eptr r o))
  | _ => none
def qBin (P : Program) (op : BinOp) (t : TypeId) (x y : PV) : Option Req := match binP P op t x y with
  | some v => some (.val v)
  | none => none
def qUn (op : UnOp) (x : PV) : Option Req := match unP op x with
  | some v => some (.val v)
  | none => none
def qConv (k : IntKind) (x : PV) : Option Req := match (match x with
    | .int _ n => some (PV.int k (k.wrap n))
    | _ => none) with
  | some v => some (.val v)
  | none => none
def takeB (b : Bool) (l : List PV) : Option (Option Nat × List PV) := match b with
  | false => some (none, l)
  | true => match l with
    | v :: r => match natOf v with
      | some n => some (some n, r)
      | none => none
    | [] => none
def slStr (x : PV) (low high : Option Nat) : Option PV := match x with
  | .str s => if high.getD s.size ≤ s.size ∧ low.getD 0 ≤ high.getD s.size then some (.str (s.extract (low.getD 0) (high.getD s.size))) else none
  | _ => none
def slLst (size : Nat) (x : PV) (low high : Option Nat) : Option PV := match x with
  | .bsl b n => if low = none ∧ high.getD n ≤ n then some (.bsl b (high.getD n)) else none
  | x => match x.rows with
  | some rows => if high.getD rows.length ≤ rows.length ∧ low.getD 0 ≤ high.getD rows.length ∧ rows.all (fun r => Nat.beq r.length size) = true then some (.lst ((rows.drop (low.getD 0)).take (high.getD rows.length - low.getD 0))) else none
  | none => none
def qSlS (lo hi : Bool) (x : PV) (r : List PV) : Option Req := match takeB lo r with
  | some (lo', r) => match takeB hi r with
    | some (hi', _) => (match slStr x lo' hi' with
      | some v => some (.val v)
      | none => none)
    | none => none
  | none => none
def qSlL (size : Nat) (lo hi : Bool) (x : PV) (r : List PV) : Option Req := match takeB lo r with
  | some (lo', r) => match takeB hi r with
    | some (hi', _) => (match slLst size x lo' hi' with
      | some v => some (.val v)
      | none => none)
    | none => none
  | none => none
def qCap (size : Nat) (x : PV) (r : List PV) : Option Req := match r with
  | [h, m] => (match natOf h with
    | some h => (match natOf m with
      | some m => (match (match x.rows with
        | some rows => if h = rows.length ∧ m = rows.length ∧ rows.all (fun r => Nat.beq r.length size) = true then some (PV.cap rows) else none
        | none => none) with
        | some v => some (.val v)
        | none => none)
      | none => none)
    | none => none)
  | _ => none
def qFA (off : Nat) (x : PV) : Option Req := match (match x with
    | .ptr b o => some (PV.ptr b (o + off))
    | .eptr row o => some (PV.eptr row (o + off))
    | _ => none) with
  | some v => some (.val v)
  | none => none
def qF1 (off : Nat) (x : PV) : Option Req := match (match x with
    | .agg l => l[off]?
    | _ => none) with
  | some v => some (.val v)
  | none => none
def qFN (off n : Nat) (x : PV) : Option Req := match (match x with
    | .agg l => cutN n l off
    | _ => none) with
  | some v => some (.val v)
  | none => none
def qIA (size : Nat) (x i : PV) : Option Req := match (match natOf i with
    | some i => match x with
        | .bsl b n => if i < n then some (PV.ptr b (i * size)) else none
        | .lst rows => rowAt size rows i
        | .acc _ rows => rowAt size rows i
        | _ => none
    | none => none) with
  | some v => some (.val v)
  | none => none
def qIS (x i : PV) : Option Req := match (match natOf i with
    | some i => match x with
      | .str s => match s[i]? with
        | some b => some (PV.int .u8 b.toNat)
        | none => none
      | _ => none
    | none => none) with
  | some v => some (.val v)
  | none => none
def qEx (ix : Nat) (x : PV) : Option Req := match x with
  | .tuple l => match l[ix]? with
    | some v => some (.val v)
    | none => none
  | _ => none
def qLenS (x : PV) : Option Req := match (match x with
    | .str s => some (PV.int .i64 s.size)
    | _ => none) with
  | some v => some (.val v)
  | none => none
def qLenL (x : PV) : Option Req := match (match x with
    | .bsl _ n => some (PV.int .i64 n)
    | x => match x.rows with
    | some rows => some (PV.int .i64 rows.length)
    | none => none) with
  | some v => some (.val v)
  | none => none
def qApp (size bytes : Nat) (s x : PV) : Option Req := match x.rows with
  | some xs => bif xs.all (fun r => Nat.beq r.length size) then (match s with
    | .nil => bif Go.Ab.sizeFits xs.length bytes then some (.own xs.length size fun b => .acc b xs) else none
    | .bsl b n => bif Go.Ab.sizeFits (n + xs.length) bytes then some (.grow b size (fun cs => if n * size ≤ cs.length then some (cs.take (n * size) ++ xs.flatten) else none) fun b' => .bsl b' (n + xs.length)) else none
    | .acc b rows => bif Go.Ab.sizeFits (rows.length + xs.length) bytes && rows.all (fun r => Nat.beq r.length size) then some (.push b rows.length size xs.length (.acc b (rows ++ xs))) else none
    | .cap rows => bif Go.Ab.sizeFits (rows.length + xs.length) bytes && rows.all (fun r => Nat.beq r.length size) then (match xs with
      | [] => some (.val (.cap rows))
      | _ :: _ => some (.own (rows.length + xs.length) size fun b => .acc b (rows ++ xs))) else none
    | _ => none) else none
  | none => none
def rowsN (size : Nat) : List PV → Option (List (List PV))
  | [] => some []
  | v :: r => bif Nat.beq v.cells.length size then (match datasN v.cells with
      | some row => match rowsN size r with
        | some l => some (row :: l)
        | none => none
      | none => none) else none
def qBslN (size : Nat) (l : List PV) : Option Req := match (match rowsN size l with
    | some rows => some (lstP rows)
    | none => none) with
    | some v => some (.val v)
    | none => none
def qMin (x y : PV) : Option Req := match minP x y with
  | some v => some (.val v)
  | none => none
def qIf (t : TypeId) (x : PV) : Option Req := match (bif x.scalar then some (PV.iface t x) else none) with
  | some v => some (.val v)
  | none => none
def qAs (t : TypeId) (x : PV) : Option Req := match (match x with
    | .iface t' v => if t' = t then some v else none
    | _ => none) with
  | some v => some (.val v)
  | none => none
def resL : List (Option PV) → Option (List PV)
  | [] => some []
  | r :: rs => match r with
    | some v => match resL rs with
      | some l => some (v :: l)
      | none => none
    | none => none
def qCell (x : Option Req) (s : St) : Option PV := match x with
  | some q => match q.run s with
    | some p => some p.1
    | none => none
  | none => none
def pEnd (e n : Nat) (v : PV) (s : St) (Q : PV → List (List PV) → Prop) : Prop := optP (bif Nat.beq e 0 then back0 v else backV e s v) fun r => optP (getBoxes s (List.range n)) fun c => Q r c
section
variable (P : Program) (md : Bool) (X : Mode) (nt : Nat)
noncomputable abbrev oF (ops r : List Oper) : Ks → Ks :=
  @List.rec Oper (fun _ => Ks → Ks) (fun K => K) (fun o _ ih K fr st => match Go.Ab.fitsT nt o.dst with
    | true => gP P md X true ops o fr st (fun v st _ _ => ih K (fr.put o.dst v) st)
    | false => False) r
noncomputable abbrev oDF (ops r : List Oper) : (Fr → List Log → St → Prop) → Ks :=
  @List.rec Oper (fun _ => (Fr → List Log → St → Prop) → Ks) (fun K fr st => K fr [] st) (fun o _ ih K fr st => match Go.Ab.fitsT nt o.dst with
    | true => gP P md X false ops o fr st (fun v st' rd wr => ih (fun fr l s => K fr ((rd, wr ++ ids st.next st'.next) :: l) s) (fr.put o.dst v) st')
    | false => False) r
noncomputable abbrev regF (ops : List Oper) (d : Bool) (K : Ks) : Ks := match d with
  | false => oF P md X nt ops ops K
  | true => fun fr st => match Go.Ab.staticOk ops && P.follows .mixedOrders with
    | true => oDF P md X nt ops ops (fun fr l st => clashesB [] l (Go.Ab.befores ops []) = false ∧ K fr st) fr st
    | false => False
noncomputable abbrev seqF (B : Ks) (K : Kx) : Kx := fun x => @AExit.rec (fun _ => Ks) B (fun id => K (.exit id)) (K .ret) x
noncomputable abbrev blockF (id : Nat) (K : Kx) : Kx := fun x => @AExit.rec (fun _ => Ks) (K .normal) (fun id' => match Nat.beq id' id with
  | true => K .normal
  | false => K (.exit id')) (K .ret) x
noncomputable def loopF (body : Ks → Ks) (n : Nat) : Ks := @Nat.rec (fun _ => Ks) (fun _ _ => False) (fun _ w => body w) n
noncomputable abbrev codeF (c : Code) : Bool → Kx → Ks :=
  @Code.rec (fun _ => Bool → Kx → Ks) (fun _ K => K .normal) (fun _ ops d _ K => regF P md X nt ops.toList d (K .normal)) (fun _ _ iha ihb rg K => iha rg (seqF (ihb rg K) K))
    (fun c _ _ iha ihb rg K f s => optP (evalO f c) fun x => condP x (iha rg K f s) (ihb rg K f s))
    (fun id _ ih rg K => ih rg (blockF id K)) (fun _ ih rg K f s => ∃ n, loopF (fun w => ih rg (seqF w K)) n f s)
    (fun g ps _ _ iha ihc rg K => match rg with
      | true => rangeP P X nt g ps.toList (iha false) (ihc false) K
      | false => fun _ _ => False) (fun id _ K => K (.exit id)) (fun _ ih => ih) (fun _ _ K => K .normal) (fun _ _ _ _ _ => False) (fun _ K => K .ret) (fun _ _ _ _ _ => False) c
theorem oF_eq (ops : List Oper) : ∀ (r : List Oper) (K : Ks), oF P md X nt ops r K = oP P md X nt ops r K
  | [], K => rfl
  | o :: r, K => by
    funext fr st
    show (match Go.Ab.fitsT nt o.dst with
      | true => gP P md X true ops o fr st (fun v st _ _ => oF P md X nt ops r K (fr.put o.dst v) st)
      | false => False) = _
    simp only [oP, oF_eq ops r]
    cases Go.Ab.fitsT nt o.dst <;> rfl
theorem oDF_eq (ops : List Oper) : ∀ (r : List Oper) (K : Fr → List Log → St → Prop), oDF P md X nt ops r K = oDP P md X nt ops r K
  | [], K => rfl
  | o :: r, K => by
    funext fr st
    show (match Go.Ab.fitsT nt o.dst with
      | true => gP P md X false ops o fr st (fun v st' rd wr => oDF P md X nt ops r (fun fr l s => K fr ((rd, wr ++ ids st.next st'.next) :: l) s) (fr.put o.dst v) st')
      | false => False) = _
    simp only [oDP, oDF_eq ops r]
    cases Go.Ab.fitsT nt o.dst <;> rfl
theorem regF_eq (ops : List Oper) (d : Bool) (K : Ks) : regF P md X nt ops d K = regP P md X nt ops d K := by
  cases d with
  | false => exact oF_eq P md X nt ops ops K
  | true =>
    funext fr st
    show (match Go.Ab.staticOk ops && P.follows .mixedOrders with
      | true => oDF P md X nt ops ops (fun fr l st => clashesB [] l (Go.Ab.befores ops []) = false ∧ K fr st) fr st
      | false => False) = _
    rw [oDF_eq]
    simp only [regP]
    cases Go.Ab.staticOk ops && P.follows .mixedOrders <;> rfl
theorem seqF_eq (B : Ks) (K : Kx) : seqF B K = seqK B K := by funext x; cases x <;> rfl
theorem blockF_eq (id : Nat) (K : Kx) : blockF id K = blockK id K := by
  funext x
  cases x with
  | exit id' =>
    show (match Nat.beq id' id with | true => K .normal | false => K (.exit id')) = _
    simp only [blockK]
    cases Nat.beq id' id <;> rfl
  | _ => rfl
theorem loopF_eq (b : Ks → Ks) : ∀ n, loopF b n = loopP b n
  | 0 => rfl
  | n + 1 => by show b (loopF b n) = b (loopP b n); rw [loopF_eq b n]
theorem codeF_eq (c : Code) : ∀ rg K, codeF P md X nt c rg K = codeP P md X nt c rg K := by
  induction c with
  | region id ops d => intro rg K; exact regF_eq P md X nt ops.toList d (K .normal)
  | seq a b iha ihb =>
    intro rg K
    show codeF P md X nt a rg (seqF (codeF P md X nt b rg K) K) = codeP P md X nt a rg (seqK (codeP P md X nt b rg K) K)
    rw [ihb, seqF_eq, iha]
  | cond c a b iha ihb =>
    intro rg K
    show (fun f s => optP (evalO f c) fun x => condP x (codeF P md X nt a rg K f s) (codeF P md X nt b rg K f s)) = _
    rw [iha, ihb]; rfl
  | block id c ih =>
    intro rg K
    show codeF P md X nt c rg (blockF id K) = codeP P md X nt c rg (blockK id K)
    rw [blockF_eq, ih]
  | loop c ih =>
    intro rg K
    funext f s
    show (∃ n, loopF (fun w => codeF P md X nt c rg (seqF w K)) n f s) = (∃ n, loopP (fun w => codeP P md X nt c rg (seqK w K)) n f s)
    have : (fun w => codeF P md X nt c rg (seqF w K)) = fun w => codeP P md X nt c rg (seqK w K) := by
      funext w; rw [seqF_eq, ih]
    simp only [this, loopF_eq]
  | scope c ih => intro rg K; exact ih rg K
  | skip => intro rg K; rfl
  | label _ => intro rg K; rfl
  | exit _ => intro rg K; rfl
  | ret => intro rg K; rfl
  | goto _ => intro rg K; rfl
  | refuse _ => intro rg K; rfl
  | rangeFunc g ps a c iha ihc =>
    intro rg K
    cases rg with
    | false => rfl
    | true =>
      show rangeP P X nt g ps.toList (codeF P md X nt a false) (codeF P md X nt c false) K = rangeP P X nt g ps.toList (codeP P md X nt a false) (codeP P md X nt c false) K
      have h1 : codeF P md X nt a false = codeP P md X nt a false := by funext K; exact iha false K
      have h2 : codeF P md X nt c false = codeP P md X nt c false := by funext K; exact ihc false K
      rw [h1, h2]
end
section
variable {P : Program} {md : Bool} {X : Mode} {nt : Nat} {rg : Bool}
theorem w_seq {a b : Code} {K : Kx} {B T : Ks} (hb : codeF P md X nt b rg K = B) (ha : codeF P md X nt a rg (seqF B K) = T) : codeF P md X nt (.seq a b) rg K = T := by
  subst hb; exact ha
theorem w_block {c : Code} {id : Nat} {K : Kx} {T : Ks} (h : codeF P md X nt c rg (blockF id K) = T) : codeF P md X nt (.block id c) rg K = T := h
theorem w_scope {c : Code} {K : Kx} {T : Ks} (h : codeF P md X nt c rg K = T) : codeF P md X nt (.scope c) rg K = T := h
abbrev condF (c : Operand) (A B : Ks) : Ks := fun f s => optP (evalO f c) fun x => condP x (A f s) (B f s)
theorem w_cond {c : Operand} {a b : Code} {K : Kx} {A B : Ks} (ha : codeF P md X nt a rg K = A) (hb : codeF P md X nt b rg K = B) : codeF P md X nt (.cond c a b) rg K = condF c A B := by
  subst ha hb; rfl
theorem w_loop {c : Code} {K : Kx} (L : Nat → Ks) (h0 : ∀ f s, L 0 f s = False) (hs : ∀ n, codeF P md X nt c rg (seqF (L n) K) = L (n + 1)) : codeF P md X nt (.loop c) rg K = fun f s => ∃ n, L n f s := by
  have key : ∀ n, loopF (fun W => codeF P md X nt c rg (seqF W K)) n = L n := by
    intro n
    induction n with
    | zero => funext f s; exact (h0 f s).symm
    | succ n ih =>
      show codeF P md X nt c rg (seqF (loopF (fun W => codeF P md X nt c rg (seqF W K)) n) K) = _
      rw [ih, hs]
  funext f s
  show (∃ n, loopF (fun W => codeF P md X nt c rg (seqF W K)) n f s) = _
  simp only [key]
theorem w_as {c : Code} {K : Kx} {T : Ks} (J : Ks) (h : codeF P md X nt c rg K = T) (hJ : ∀ f s, T f s = J f s) : codeF P md X nt c rg K = J := by
  rw [h]; funext f s; exact hJ f s
theorem w_any {c : Code} {K : Kx} : codeF P md X nt c rg K = codeF P md X nt c rg K := rfl
theorem pq_is {n : Nat} {conts : List (List PV)} (hn : conts.length = n) {f : FuncId} {fn : Func} {c : Code} (hfn : P.funcs[f]? = some fn) (hb : fn.body = some c) {args : List PV} {Q : PV → List (List PV) → Prop} (e : Nat) {T : Ks}
    (hnt : max args.length fn.ntmps = nt) (ht : codeF P false .old nt c true (retK P e n fn.results.toList Q) = T) (h : T (frameOf args) (initSt conts)) : PQ P f args conts Q :=
  pq_of_body (md := false) hfn hb e (by rw [hnt, hn, ← codeF_eq, ht]; exact h)
def Cd (P : Program) (md : Bool) (X : Mode) (f : FuncId) (args : List PV) (Q : PV → St → Prop) (s : St) : Prop :=
  ∃ fn c, P.funcs[f]? = some fn ∧ fn.body = some c ∧ codeP P md X (max args.length fn.ntmps) c true (retS P fn.results.toList Q) (frameOf args) s
theorem cd_is {f : FuncId} {fn : Func} {c : Code} (hfn : P.funcs[f]? = some fn) (hb : fn.body = some c) {args : List PV} {s : St} {Q : PV → St → Prop} {T : Ks}
    (hnt : max args.length fn.ntmps = nt) (ht : codeF P md X nt c true (retS P fn.results.toList Q) = T) (h : T (frameOf args) s) : Cd P md X f args Q s :=
  ⟨fn, c, hfn, hb, by rw [hnt, ← codeF_eq, ht]; exact h⟩
theorem Cd.sw {f : FuncId} {args : List PV} {s : St} {Q : PV → St → Prop} (h : Cd P md X f args Q s) (hf : Free s) : SW X.env P f args s Q := by
  obtain ⟨fn, c, h1, h2, h3⟩ := h
  exact sw_of_body h1 h2 hf h3
theorem Cd.sc {E : Env} {f : FuncId} {args : List PV} {s : St} {Q : PV → St → Prop} (h : Cd P md (.det E) f args Q s) (hf : Free s) (hQ : ∀ r s', Q r s' → Grows s s' ∧ Free s') : ∃ r s', SC E P f args s r s' ∧ Q r s' := by
  obtain ⟨fn, c, h1, h2, h3⟩ := h
  exact sc_of_body h1 h2 hf hQ h3
def onlyN (B : Ks) : Kx := fun x => @AExit.rec (fun _ => Ks) B (fun _ _ _ => False) (fun _ _ => False) x
def pRng (P : Program) (X : Mode) (g : PV) (body : PV → (St → Prop) → St → Prop) (K : St → Prop) (st : St) : Prop := match X with
  | .weak E => (∀ m, E.holds m) ∧ ∃ gf caps, ∃ (I : List PV → St → Prop) (R : St → St → Prop) (xs : List PV), g = .fn gf caps ∧ entersB P gf = true ∧
    (∀ pre x post s, xs = pre ++ x :: post → I pre s → Free s → body x (fun s2 => I (pre ++ [x]) s2 ∧ R s s2) s) ∧
    (∀ (E' : Env) (L : Nat), (∀ pre x post s, xs = pre ++ x :: post → I pre s → Free s → YW E' P L [x] s fun r s' => r = .bool true ∧ I (pre ++ [x]) s' ∧ R s s') → SW E' P gf (.yield L :: caps) st fun _ s' => I xs s') ∧
    (∀ s, I xs s → Free s → Grows st s → K s)
  | _ => False
theorem only_eq (B : Ks) : (fun (ex : AExit) f1 s1 => ex = .normal ∧ B f1 s1) = onlyN B := by
  funext ex f s
  cases ex with
  | normal => exact propext ⟨fun h => h.2, fun h => ⟨rfl, h⟩⟩
  | exit _ => exact propext ⟨fun h => (by cases h.1), fun h => h.elim⟩
  | ret => exact propext ⟨fun h => (by cases h.1), fun h => h.elim⟩
theorem w_rng {g : Operand} {p : Nat} {ps : Array Tmp} {a b : Code} {K : Kx} (hps : ps.toList = [p]) (hp : Nat.blt p nt = true) (gv : Fr → PV) (hg : ∀ f, evalO f g = some (gv f)) (body : Fr → PV → (St → Prop) → St → Prop)
    (hB : ∀ f x T s, codeF P md X nt a false (onlyN (codeF P md X nt b false (onlyN fun _ s2 => T s2))) (f.set p x) s = body f x T s) :
    codeF P md X nt (.rangeFunc g ps a b) true K = fun f s => pRng P X (gv f) (body f) (K .normal f) s := by
  have hp : p < nt := Go.Ab.blt_lt hp
  funext fr st
  show rangeP P X nt g ps.toList (codeF P md X nt a false) (codeF P md X nt b false) K fr st = _
  rw [hps]
  have hb' : ∀ (x : PV) (Z : St → Prop) s, codeF P md X nt a false (fun ex f1 s1 => ex = .normal ∧ codeF P md X nt b false (fun ex2 _ s2 => ex2 = .normal ∧ Z s2) f1 s1) (fr.set p x) s = body fr x Z s := by
    intro x Z s
    rw [only_eq (codeF P md X nt b false (fun ex2 _ s2 => ex2 = .normal ∧ Z s2)), only_eq (fun _ s2 => Z s2)]
    exact hB fr x Z s
  unfold pRng rangeP
  cases X with
  | old => rfl
  | det E => rfl
  | weak E =>
    have one : ∀ {xs : List PV} {pre : List (List PV)} {x : List PV} {post : List (List PV)}, xs.map (fun x => [x]) = pre ++ x :: post → ∃ pre' x' post', xs = pre' ++ x' :: post' ∧ pre = pre'.map (fun x => [x]) ∧ x = [x'] ∧ post = post'.map (fun x => [x]) := by
      intro xs pre
      induction pre generalizing xs with
      | nil =>
        intro x post h
        cases xs with
        | nil => simp at h
        | cons a l => simp at h; exact ⟨[], a, l, rfl, rfl, h.1.symm, h.2.symm⟩
      | cons b pre ih =>
        intro x post h
        cases xs with
        | nil => simp at h
        | cons a l =>
          simp at h
          obtain ⟨pre', x', post', e1, e2, e3, e4⟩ := ih h.2
          exact ⟨a :: pre', x', post', by rw [e1]; rfl, by rw [e2, ← h.1]; rfl, e3, e4⟩
    have flat : ∀ l : List PV, (l.map (fun x => [x])).flatten = l := fun l => by induction l with
      | nil => rfl
      | cons a l ih => simp [ih]
    have back : ∀ l : List (List PV), (∀ x, x ∈ l → x.length = 1) → l.flatten.map (fun x => [x]) = l := fun l => by induction l with
      | nil => intro _; rfl
      | cons a l ih =>
        intro h
        obtain ⟨y, rfl⟩ := List.length_eq_one_iff.1 (h a (by simp))
        simp [ih fun x hx => h x (List.mem_cons_of_mem _ hx)]
    refine propext ⟨fun ⟨h1, gf, caps, I, R, xs, h2, h3, _, h5, h6, h7, h8⟩ => ?_, fun ⟨h1, gf, caps, I, R, xs, h2, h3, h4, h5, h6⟩ => ?_⟩
    · have hl : xs.flatten.map (fun x => [x]) = xs := back xs h5
      refine ⟨h1, gf, caps, fun l => I (l.map fun x => [x]), R, xs.flatten, by rw [hg] at h2; exact Option.some.inj h2, h3, fun pre x post s hx hI hf => ?_, fun E' L hr => ?_, fun s hI => h8 s (by rw [← hl]; exact hI)⟩
      · have hx' : xs = (pre.map fun x => [x]) ++ [x] :: (post.map fun x => [x]) := by rw [← hl, hx]; simp
        have := h6 _ [x] _ s hx' hI hf
        simp only [bindF] at this
        rw [hb'] at this
        have hc : (pre ++ [x]).map (fun x => [x]) = pre.map (fun x => [x]) ++ [[x]] := by simp
        simp only [hc]
        exact this
      · refine (h7 E' L fun pre x post s hx hI hf => ?_).mono fun r s h => by show I (xs.flatten.map fun x => [x]) s; rw [hl]; exact h
        have hpre : pre.flatten.map (fun x => [x]) = pre := back pre fun y hy => h5 y (by rw [hx]; simp [hy])
        obtain ⟨y, rfl⟩ := List.length_eq_one_iff.1 (h5 x (by rw [hx]; simp))
        have := hr pre.flatten y post.flatten s (by rw [hx]; simp) (by show I (pre.flatten.map fun x => [x]) s; rw [hpre]; exact hI) hf
        have hc : (pre.flatten ++ [y]).map (fun x => [x]) = pre ++ [[y]] := by rw [List.map_append, hpre]; rfl
        simpa only [hc] using this
    · refine ⟨h1, gf, caps, fun l => I l.flatten, R, xs.map fun x => [x], by rw [hg, h2], h3, by simpa using hp, fun x hx => ?_, fun pre x post s hx hI hf => ?_, fun E' L hr => ?_, fun s hI => h6 s (by simp only [flat] at hI; exact hI)⟩
      · simp at hx; obtain ⟨a, _, rfl⟩ := hx; rfl
      · obtain ⟨pre', x', post', e1, rfl, rfl, rfl⟩ := one hx
        simp only [flat] at hI
        simp only [bindF]
        rw [hb']
        simp only [List.flatten_append, flat, List.flatten_cons, List.flatten_nil, List.append_nil]
        exact h4 pre' x' post' s e1 hI hf
      · simp only [flat]
        refine h5 E' L fun pre x post s hx hI hf => ?_
        have := hr (pre.map fun x => [x]) [x] (post.map fun x => [x]) s (by rw [hx]; simp) (by simp only [flat]; exact hI) hf
        simpa only [List.flatten_append, flat, List.flatten_cons, List.flatten_nil, List.append_nil] using this
end
section
variable {P : Program} {s s' : St} {k : PV → St → Prop} {kl : PV → St → List Nat → List Nat → Prop} {x : Option Req} {q : Req} {v : PV}
theorem pQ_i (h : x = some q) (h2 : q.run s = some (v, s')) (hk : k v s') : pQ x s k := by
  unfold pQ; rw [h]; show optP (q.run s) _; rw [h2]; exact hk
theorem pQL_i (h : x = some q) (h2 : q.run s = some (v, s')) (hk : kl v s' q.rd q.wr) : pQL x s kl := by
  unfold pQL; rw [h]; show optP (q.run s) _; rw [h2]; exact hk
theorem pCall_i {f : FuncId} {vs args : List PV} {conts conts' : List (List PV)} {r : PV} {bs : List Nat} (h : PC P f args conts r conts') (h1 : toArgs vs 0 = some (args, bs)) (h2 : distinct bs = true) (h3 : getBoxes s bs = some conts) (h4 : conts'.length = bs.length)
    (hk : k (place r (setBoxes s bs conts')).1 (place r (setBoxes s bs conts')).2) : pCall P f vs s k :=
  ⟨_, _, bs, ⟨args, conts, r, conts', h1, h2, h3, h4, h, rfl⟩, hk⟩
theorem pCallL_i {f : FuncId} {vs args : List PV} {conts conts' : List (List PV)} {r : PV} {bs : List Nat} (h : PC P f args conts r conts') (h1 : toArgs vs 0 = some (args, bs)) (h2 : distinct bs = true) (h3 : getBoxes s bs = some conts) (h4 : conts'.length = bs.length)
    (hk : kl (place r (setBoxes s bs conts')).1 (place r (setBoxes s bs conts')).2 [] bs) : pCallL P f vs s kl :=
  ⟨_, _, bs, ⟨args, conts, r, conts', h1, h2, h3, h4, h, rfl⟩, hk⟩
theorem pGL_t {g : PV} {want : Bool} {X : (PV → St → List Nat → List Nat → Prop) → Prop} (h : guardV g want = some true) (hk : X kl) : pGL g want X kl s := by unfold pGL; rw [h]; exact hk
theorem cond_t {b : Bool} {A B : Prop} (h : b = true) (hk : A) : condP (.bool b) A B := ⟨(fun _ => hk), (fun h' => by rw [h] at h'; cases h')⟩
theorem cond_f {b : Bool} {A B : Prop} (h : b = false) (hk : B) : condP (.bool b) A B := ⟨(fun h' => by rw [h] at h'; cases h'), (fun _ => hk)⟩
theorem pEnd_i {e n : Nat} {r : PV} {c : List (List PV)} {Q : PV → List (List PV) → Prop} (h : (bif Nat.beq e 0 then back0 v else backV e s v) = some r) (h2 : getBoxes s (List.range n) = some c) (hk : Q r c) : pEnd e n v s Q := by
  unfold pEnd; rw [h]; show optP (getBoxes s (List.range n)) _; rw [h2]; exact hk
end
end Go.Vi
