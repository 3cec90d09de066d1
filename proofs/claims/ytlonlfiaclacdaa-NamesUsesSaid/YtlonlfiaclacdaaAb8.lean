/-
  OPERATORS, MAPS, LENGTHS, NEW SLICES, APPEND (own work).
-/
import Derived.Test.YtlonlfiaclacdaaAb7
namespace Go.Ab

section
variable {P : Program} {m : Inj} {w : World}

theorem binOp_int (op : BinOp) (h1 : op ≠ .shl) (h2 : op ≠ .shr) (t : TypeId) (k : IntKind) (a b : Int) :
    binOp op t (.int k a) (.int k b) = match op with
      | .add => Op.intArith op k a b
      | .sub => Op.intArith op k a b
      | .mul => Op.intArith op k a b
      | .quo => Op.intDiv op k a b
      | .rem => Op.intDiv op k a b
      | .and => Op.intBits op k a b
      | .or => Op.intBits op k a b
      | .xor => Op.intBits op k a b
      | .andNot => Op.intBits op k a b
      | _ => Op.intCmp op a b := by
  cases op <;> first | (exact (h1 rfl).elim) | (exact (h2 rfl).elim) | (simp only [binOp, ne_eq, not_true_eq_false, if_false])

theorem intOp_sim {op : BinOp} {k : IntKind} {a b : Int} {x : AV} (h : intOp op k a b = some x) (t : TypeId) (w : World) :
    ∃ v, (binOp op t (.int k a) (.int k b)).run P w = .ok v w ∧ VR m x v := by
  cases op
  case shl => 
    simp only [intOp] at h
    split at h
    · cases h
    · rename_i hb; simp only [Option.some.injEq] at h; subst h; exact ⟨_, by simp [binOp, Op.shift, hb], .int _ _⟩
  case shr => 
    simp only [intOp] at h
    split at h
    · cases h
    · rename_i hb; simp only [Option.some.injEq] at h; subst h; exact ⟨_, by simp [binOp, Op.shift, hb], .int _ _⟩
  all_goals
    rw [binOp_int _ (by simp) (by simp)]
    simp only [intOp, cmpInt] at h
    first
      | (cases h; done)
      | (simp only [Option.some.injEq] at h; subst h; first | exact ⟨_, rfl, .int _ _⟩ | exact ⟨_, rfl, .bool _⟩)
      | (split at h
         · cases h
         · rename_i hb
           simp only [Option.some.injEq] at h; subst h
           exact ⟨_, by simp [Op.intDiv, hb], .int _ _⟩)

theorem shift_sim {op : BinOp} (ho : op = .shl ∨ op = .shr) {k k' : IntKind} {a b : Int} {x : AV} (h : intOp op k a b = some x) (t : TypeId) (w : World) :
    ∃ v, (binOp op t (.int k a) (.int k' b)).run P w = .ok v w ∧ VR m x v := by
  rcases ho with rfl | rfl
  · simp only [intOp] at h
    split at h
    · cases h
    · rename_i hb; simp at h; subst h; exact ⟨_, by simp [binOp, Op.shift, hb], .int _ _⟩
  · simp only [intOp] at h
    split at h
    · cases h
    · rename_i hb; simp at h; subst h; exact ⟨_, by simp [binOp, Op.shift, hb], .int _ _⟩

theorem rng_sim {op : BinOp} {lo hi n b : Int} {r : Bool} (h : cmpRng op lo hi b = some r) (h1 : lo ≤ n) (h2 : n ≤ hi) (k : IntKind) (t : TypeId) (w : World) :
    (binOp op t (.int k n) (.int k b)).run P w = .ok (.bool r) w := by
  have key : cmpInt op n b = some r → (binOp op t (.int k n) (.int k b)).run P w = .ok (.bool r) w := by
    intro hc
    cases op <;> simp only [cmpInt] at hc <;> first | (cases hc; done) | (rw [binOp_int _ (by simp) (by simp)]; simp only [Option.some.injEq] at hc; subst hc; rfl)
  apply key
  cases op <;> simp only [cmpRng] at h <;> first | (cases h; done) | skip
  all_goals
    simp only [cmpInt]
    split at h
    · simp only [Option.some.injEq] at h; subst h
      first
        | (rw [decide_eq_true (by omega)])
        | (rw [decide_eq_false (by omega)])
        | (rw [beq_eq_false_iff_ne.2 (by omega)])
        | (rw [bne_iff_ne.2 (by omega)])
    · first
        | (cases h; done)
        | (split at h
           · simp only [Option.some.injEq] at h; subst h
             first
               | (rw [decide_eq_true (by omega)])
               | (rw [decide_eq_false (by omega)])
           · cases h)

theorem str_sim {op : BinOp} {n a k b : Nat} {x : AV} (h : strOp op n a k b = some x) {s t : ByteArray} (h1 : s.size = n) (h2 : encB s.data.toList = a) (h3 : t.size = k) (h4 : encB t.data.toList = b)
    (ty : TypeId) (w : World) : ∃ v, (binOp op ty (.string s) (.string t)).run P w = .ok v w ∧ VR m x v := by
  unfold strOp at h
  split at h
  · simp only [Option.some.injEq] at h; subst h
    refine ⟨.bool (s.toList == t.toList), by simp [binOp, Op.stringOp], ?_⟩
    rw [str_eq h1 h2 h3 h4]; exact .bool _
  · simp only [Option.some.injEq] at h; subst h
    refine ⟨.bool !(s.toList == t.toList), by simp [binOp, Op.stringOp], ?_⟩
    rw [str_eq h1 h2 h3 h4]; exact .bool _
  · cases hb : Nat.ble (n + k) 140737488355328 with
    | false => simp [hb] at h
    | true =>
      simp only [hb, cond_true, Option.some.injEq] at h; subst h
      have hle := ble_le hb
      have hmax : ¬ (((s.size + t.size : Nat) : Int) > IntKind.i64.max) := by
        have : IntKind.i64.max = 9223372036854775807 := by decide
        rw [this]; omega
      refine ⟨.string (s ++ t), by simp only [binOp, Op.stringOp, if_neg hmax]; rfl, .str _ _ _ (by rw [ByteArray.size_append, h1, h3]) ?_⟩
      have : (s ++ t).data.toList = s.data.toList ++ t.data.toList := by rw [ByteArray.data_append]; simp
      rw [this, encB_append, h2, h4]
      have : s.data.toList.length = n := (Array.length_toList (xs := s.data)).trans h1
      rw [this]
  · cases h

/-- What two operands come to be compared by the type's own equality. -/
inductive Plain2 : Value → Value → Prop
  | bool (a b) : Plain2 (.bool a) (.bool b)
  | ptr (a b) : Plain2 (.pointer a) (.pointer b)
  | slice (a l c b k d) : Plain2 (.slice a l c) (.slice b k d)
  | map (a b) : Plain2 (.map a) (.map b)
  | func1 (f a b) : Plain2 (.func f a b) .nilFunc
  | func2 (f a b) : Plain2 .nilFunc (.func f a b)
  | func3 : Plain2 .nilFunc .nilFunc
  | iface1 (t v) : Plain2 (.iface t v) .nilIface
  | iface2 (t v) : Plain2 .nilIface (.iface t v)
  | agg (a b) : Plain2 (.agg a) (.agg b)

theorem Plain2.run {u v : Value} (h : Plain2 u v) (t : TypeId) : binOp .eql t u v = (do pure (.bool (← Op.equal t u v))) ∧ (∀ (r : Bool), (Op.equal t u v).run P w = .ok r w → (binOp .eql t u v).run P w = .ok (.bool r) w ∧ (binOp .neq t u v).run P w = .ok (.bool !r) w) := by
  cases h <;> exact ⟨rfl, fun r hr => ⟨by
    show (do pure (.bool (← Op.equal t _ _)) : Sem Value).run P w = _
    rw [Sem.run_bind, hr]; rfl, by
    show (do pure (.bool (!(← Op.equal t _ _))) : Sem Value).run P w = _
    rw [Sem.run_bind, hr]; rfl⟩⟩

theorem eqS_plain {d : Option TypeDesc} {x y : AV} {q : Bool} (h : eqS d x y = some q) (n1 : ∀ k n k' n', x = .int k n → y = .int k' n' → False)
    (n3 : ∀ n a k b, x = .str n a → y = .str k b → False) {u v : Value} (hx : VR m x u) (hy : VR m y v) : Plain2 u v := by
  unfold eqS at h
  split at h
  · split at h
    · exact (n1 _ _ _ _ rfl rfl).elim
    · cases h
  · split at h
    · cases hx; cases hy; exact .bool _ _
    · cases h
  · split at h
    · exact (n3 _ _ _ _ rfl rfl).elim
    · cases h
  · split at h
    · cases hx; cases hy; exact .ptr _ _
    · cases hx; cases hy; exact .ptr _ _
    · cases hx; cases hy; exact .ptr _ _
    · cases h
  · split at h
    · cases hx; cases hy; exact .slice _ _ _ _ _ _
    · cases hx; cases hy; exact .slice _ _ _ _ _ _
    · cases hx; cases hy; exact .slice _ _ _ _ _ _
    · cases h
  · split at h
    · cases hx; cases hy; exact .map _ _
    · cases hx; cases hy; exact .map _ _
    · cases hx; cases hy; exact .map _ _
    · cases h
  · split at h
    · cases hx <;> cases hy <;> exact .func1 _ _ _
    · cases hx; cases hy <;> exact .func2 _ _ _
    · cases hx; cases hy; exact .func3
    · cases h
  · split at h
    · cases hx; cases hy; exact .iface1 _ _
    · cases hx; cases hy; exact .iface2 _ _
    · cases h
  · cases h

theorem bin_eq {t : TypeId} {x y : AV} {u v : Value} {r : Bool} (hr : (Op.equal t u v).run P w = .ok r w) (hq : ∃ q, eqA P t x y = some q)
    (n1 : ∀ k n k' n', x = .int k n → y = .int k' n' → False) (_n2 : ∀ k lo hi k' n', x = .rng k lo hi → y = .int k' n' → False)
    (n3 : ∀ n a k b, x = .str n a → y = .str k b → False) (hx : VR m x u) (hy : VR m y v) :
    (binOp .eql t u v).run P w = .ok (.bool r) w ∧ (binOp .neq t u v).run P w = .ok (.bool !r) w := by
  obtain ⟨q, hq⟩ := hq
  have hp : Plain2 u v := by
    unfold eqA at hq
    split at hq
    · split at hq
      · cases hx; cases hy; exact .agg _ _
      · cases hq
    · exact eqS_plain hq n1 n3 hx hy
  exact (hp.run (P := P) (w := w) t).2 r hr

/-- A binary operation, its guard with it. -/
theorem bin_sim {op : BinOp} {t : TypeId} {x y z : AV} (h : binA P op t x y = some z) {u v : Value} (hx : VR m x u) (hy : VR m y v) (a b : Operand) (w : World) :
    ∃ r, (do eqGuard op t a b u v; binOp op t u v : Sem Value).run P w = .ok r w ∧ VR m z r := by
  unfold binA at h
  split at h
  · rename_i k n k' n'
    cases hx; cases hy
    have hg : (eqGuard op t a b (.int k n) (.int k' n')).run P w = .ok () w := by cases op <;> simp [eqGuard]
    split at h
    · obtain ⟨r, h1, h2⟩ := shift_sim (P := P) (m := m) (k' := k') (.inl rfl) h t w
      exact ⟨r, by simp only [Sem.run_bind, hg, Result.andThen_ok, h1], h2⟩
    · obtain ⟨r, h1, h2⟩ := shift_sim (P := P) (m := m) (k' := k') (.inr rfl) h t w
      exact ⟨r, by simp only [Sem.run_bind, hg, Result.andThen_ok, h1], h2⟩
    · split at h
      · rename_i hk; subst hk
        obtain ⟨r, h1, h2⟩ := intOp_sim (P := P) (m := m) h t w
        exact ⟨r, by simp only [Sem.run_bind, hg, Result.andThen_ok, h1], h2⟩
      · cases h
  · rename_i k lo hi k' n'
    cases hx with
    | rng _ _ _ n h1 h2 =>
      cases hy
      split at h
      · rename_i hk; subst hk
        split at h
        · rename_i r hr
          simp at h; subst h
          have hg : (eqGuard op t a b (.int k n) (.int k n')).run P w = .ok () w := by cases op <;> simp [eqGuard]
          exact ⟨.bool r, by simp only [Sem.run_bind, hg, Result.andThen_ok, rng_sim hr h1 h2], .bool _⟩
        · cases h
      · cases h
  · rename_i n a' k b'
    cases hx with
    | str s _ _ e1 e2 =>
      cases hy with
      | str s' _ _ e3 e4 =>
        obtain ⟨r, h1, h2⟩ := str_sim (P := P) (m := m) h e1 e2 e3 e4 t w
        have hg : (eqGuard op t a b (.string s) (.string s')).run P w = .ok () w := by cases op <;> simp [eqGuard]
        exact ⟨r, by simp only [Sem.run_bind, hg, Result.andThen_ok, h1], h2⟩
  · rename_i x' y' n1 n2 n3
    have hbin : ∀ (r : Bool), (Op.equal t u v).run P w = .ok r w → (∃ q, eqA P t x y = some q) → (binOp .eql t u v).run P w = .ok (.bool r) w ∧ (binOp .neq t u v).run P w = .ok (.bool !r) w :=
      fun r hr hq => bin_eq hr hq n1 n2 n3 hx hy
    split at h
    · split at h
      · rename_i r hr
        simp at h; subst h
        obtain ⟨e1, e2⟩ := eqA_sim hr hx hy w
        exact ⟨.bool r, by simp only [Sem.run_bind, e2, Result.andThen_ok, (hbin r e1 ⟨_, hr⟩).1], .bool _⟩
      · cases h
    · split at h
      · rename_i r hr
        simp at h; subst h
        obtain ⟨e1, e2⟩ := eqA_sim hr hx hy w
        exact ⟨.bool !r, by simp only [Sem.run_bind, e2, Result.andThen_ok, (hbin r e1 ⟨_, hr⟩).2], .bool _⟩
      · cases h
    · cases h

theorem un_sim {op : UnOp} {x y : AV} (h : unA op x = some y) {u : Value} (hx : VR m x u) (w : World) : ∃ v, (Op.unary op u).run P w = .ok v w ∧ VR m y v := by
  unfold unA at h
  split at h
  · cases hx; simp at h; subst h; exact ⟨_, by simp [Op.unary], .bool _⟩
  · cases hx; simp at h; subst h; exact ⟨_, by simp [Op.unary, Op.intArith], .int _ _⟩
  · cases h

theorem convert_sim {src dst : TypeId} {x y : AV} (h : convertA P src dst x = some y) {u : Value} (hx : VR m x u) (w : World) :
    ∃ v, (convert src dst u).run P w = .ok v w ∧ VR m y v := by
  unfold convertA at h
  split at h
  · rename_i d hd
    split at h
    · rename_i k hu
      split at h
      · cases hx
        simp at h; subst h
        exact ⟨.int k _, by simp only [convert, Sem.run_bind, run_underlying hd, run_underlying hu, Result.andThen_ok]; cases d <;> rfl, .int _ _⟩
      · cases h
    · cases h
  · cases h

theorem iface_sim {t : TypeId} {x y : AV} (h : mkIfaceA P t x = some y) {u : Value} (hx : VR m x u) (w : World) : ∃ v, (Instr.makeInterface t u).run P w = .ok v w ∧ VR m y v := by
  unfold mkIfaceA at h
  split at h
  · cases h
  · rename_i d hn hd
    simp at h; subst h
    refine ⟨.iface t u, ?_, .iface _ _ _ hx⟩
    simp only [Instr.makeInterface, Sem.run_bind, run_underlying hd, Result.andThen_ok]
    cases d <;> first | rfl | (exact (hn _ rfl).elim)
  · cases h

theorem assert_sim {t asserted : TypeId} {ok : Bool} {x y : AV} (h : assertA P asserted ok x = some y) {u : Value} (hx : VR m x u) (w : World) :
    ∃ v, (Instr.typeAssert u t asserted ok).run P w = .ok v w ∧ VR m y v := by
  unfold assertA at h
  split at h
  · cases h
  · rename_i d hn hd
    split at h
    · rename_i t' v'
      split at h
      · rename_i ht; subst ht
        simp only [Option.some.injEq] at h; subst h
        cases hx with
        | iface _ _ u' hv =>
          refine ⟨if ok then .tuple #[u', .bool true] else u', ?_, ?_⟩
          · cases d <;> first | (exact (hn _ rfl).elim) | (cases ok <;> simp [Instr.typeAssert, run_underlying hd])
          · cases ok
            · exact hv
            · exact .tuple _ [u', .bool true] (.cons _ _ _ _ hv (.one (.bool _)))
      · cases h
    · cases h
  · cases h

theorem extract_sim {ix : Nat} {x y : AV} (h : extractA ix x = some y) {u : Value} (hx : VR m x u) (w : World) : ∃ v, (Instr.extract u ix).run P w = .ok v w ∧ VR m y v := by
  unfold extractA at h
  split at h
  · cases hx with
    | tuple _ l' hl =>
      obtain ⟨v, hv, hvr⟩ := hl.get h
      exact ⟨v, by simp [Instr.extract, hv], hvr⟩
  · cases h

/-! ### Maps -/

theorem keyEq_sim {d : TypeDesc} {x y : AV} {r : Bool} (h : keyEq (some d) x y = some r) {u v : Value} (hx : VR m x u) (hy : VR m y v) : Instr.sameNow d u v = some r := by
  unfold keyEq at h
  split at h
  · rename_i k0 hd
    cases hd
    split at h
    · cases hx; cases hy
      split at h
      · rename_i hk; subst hk; simp at h; subst h; simp [Instr.sameNow]
      · cases h
    · cases h
  · rename_i hd
    cases hd
    split at h
    · cases hx with
      | str s _ _ e1 e2 =>
        cases hy with
        | str s' _ _ e3 e4 =>
          simp only [Option.some.injEq] at h; subst h
          rw [str_eq e1 e2 e3 e4]
          simp [Instr.sameNow, beq_toListBytes]
    · cases h
  · cases h

theorem keyOf_sim {d : TypeDesc} {x : AV} (h : keyOf (some d) x = true) {u : Value} (hx : VR m x u) :
    ((∃ k n, d = .int k ∧ ∃ k', u = .int k' n) ∨ (d = .string ∧ ∃ s, u = .string s)) := by
  unfold keyOf keyEq at h
  split at h
  · rename_i k0 hd; cases hd
    split at h
    · cases hx; exact .inl ⟨_, _, rfl, _, rfl⟩
    · cases h
  · rename_i hd; cases hd
    split at h
    · cases hx; exact .inr ⟨rfl, _, rfl⟩
    · cases h
  · cases h

theorem checkKey_gen {t : TypeId} {d : TypeDesc} (hd : P.underlying t = some d) {x : AV} (h : keyOf (some d) x = true) {u : Value} (hx : VR m x u) (empty : Bool) (w : World) (n : Nat) :
    (Instr.checkKey empty (n + 1) t u).run P w = .ok () w := by
  rcases keyOf_sim h hx with ⟨k, n, rfl, k', rfl⟩ | ⟨rfl, s, rfl⟩
  · simp [Instr.checkKey, run_underlying hd]
  · simp [Instr.checkKey, run_underlying hd]

theorem checkKey_sim {t : TypeId} {d : TypeDesc} (hd : P.underlying t = some d) {x : AV} (h : keyOf (some d) x = true) {u : Value} (hx : VR m x u) (empty : Bool) (w : World) :
    (Instr.checkKey empty 10000 t u).run P w = .ok () w := checkKey_gen hd h hx empty w 9999

/-- What a search answers. -/
def QRel (m : Inj) : Option AV → Option (Nat × Value) → Prop
  | none, none => True
  | some x, some (_, v) => VR m x v
  | _, _ => False

theorem find_sim {d : TypeDesc} {k : AV} {u : Value} (hk : VR m k u) : ∀ {es : List (AV × AV)} {l : List MapEntry} {r : Option AV} (i : Nat), ERel m es l → findA (some d) k es = some r →
    ∃ q, Instr.findNow d u l i = some q ∧ QRel m r q
  | [], [], r, i, _, h => by simp [findA] at h; subst h; exact ⟨none, rfl, trivial⟩
  | (k', x) :: es, e :: l, r, i, ⟨h1, h2, h3⟩, h => by
    simp only [findA] at h
    split at h
    · rename_i he
      simp at h; subst h
      exact ⟨some (i, e.val), by simp [Instr.findNow, keyEq_sim he hk h1], h2⟩
    · rename_i he
      obtain ⟨q, g1, g2⟩ := find_sim hk (i + 1) h3 h
      exact ⟨q, by simp [Instr.findNow, keyEq_sim he hk h1, g1], g2⟩
    · cases h
  | [], _ :: _, _, _, h, _ => h.elim
  | (_, _) :: _, [], _, _, h, _ => h.elim

theorem run_getObj' (w : World) (B : Nat) (ents : Array MapEntry) (clock : Nat) (h : w.heap[B]? = some (.map ents clock)) : (getObj B).run P w = .ok (.map ents clock) w := by
  simp [getObj, Sem.run, h]

theorem lookup_sim {s : St} (hr : Rel m s.heap.get w) {t : TypeId} {mp k x : AV} {ok : Bool} {s' : St} (h : (lookupA P t mp k ok).run s = .ok x s') {u v : Value} (hm : VR m mp u) (hk : VR m k v) :
    ∃ r, (Instr.lookup t u v ok).run P w = .ok r w ∧ VR m x r ∧ s'.heap = s.heap ∧ s'.next = s.next := by
  unfold lookupA at h
  split at h
  · rename_i kt e hme
    have hu := mapElem_some hme
    cases hko : keyOf (P.underlying kt) k with
    | false => simp only [hko, cond_false] at h; exact (fail_ok h).elim
    | true =>
      simp only [hko, cond_true] at h
      obtain ⟨d, hd⟩ : ∃ d, P.underlying kt = some d := by
        cases hd : P.underlying kt with
        | none => rw [hd] at hko; simp [keyOf, keyEq] at hko
        | some d => exact ⟨d, rfl⟩
      rw [hd] at hko
      split at h
      · rename_i z hz
        obtain ⟨zv, hzv, hzr⟩ := run_zero hz w
        obtain ⟨r, s1, h1, h2⟩ := bind_ok h
        split at h1
        · obtain ⟨rfl, rfl⟩ := pure_ok h1
          cases hm
          obtain ⟨rfl, rfl⟩ := pure_ok h2
          refine ⟨if ok then .tuple #[zv, .bool false] else zv, ?_, ?_, rfl, rfl⟩
          · simp [Instr.lookup, run_underlying hu, checkKey_sim hd hko hk, Instr.findKey, run_underlying hd, Instr.findNow, hzv]
          · cases ok
            · exact hzr m
            · exact .tuple _ [zv, .bool false] (.cons _ _ _ _ (hzr m) (.one (.bool _)))
        · rename_i b
          obtain ⟨o, g1, g2, g3, g4⟩ := look_ok h1
          cases hm with
          | map _ B t' e' hmm =>
            cases o with
            | row r' => simp [getMapO] at g2
            | loop L => simp [getMapO] at g2
            | iter i => simp [getMapO] at g2
            | map es g =>
              simp only [getMapO] at g2
              obtain ⟨_, ho⟩ := hr.obj _ _ g1
              obtain ⟨ents, clock, hw', he, _⟩ := ho B t' e' hmm
              rw [hd] at g2
              obtain ⟨q, k1, k2⟩ := find_sim hk 0 he g2
              cases r with
              | none =>
                cases q with
                | some p => exact k2.elim
                | none =>
                  obtain ⟨rfl, rfl⟩ := pure_ok h2
                  refine ⟨if ok then .tuple #[zv, .bool false] else zv, ?_, ?_, g3, g4⟩
                  · simp [Instr.lookup, run_underlying hu, run_getObj' w B ents clock hw', checkKey_sim hd hko hk, Instr.findKey, run_underlying hd, k1, hzv]
                  · cases ok
                    · exact hzr m
                    · exact .tuple _ [zv, .bool false] (.cons _ _ _ _ (hzr m) (.one (.bool _)))
              | some a =>
                cases q with
                | none => exact k2.elim
                | some p =>
                  obtain ⟨i, vv⟩ := p
                  obtain ⟨rfl, rfl⟩ := pure_ok h2
                  refine ⟨if ok then .tuple #[vv, .bool true] else vv, ?_, ?_, g3, g4⟩
                  · simp [Instr.lookup, run_underlying hu, run_getObj' w B ents clock hw', checkKey_sim hd hko hk, Instr.findKey, run_underlying hd, k1]
                  · cases ok
                    · exact k2
                    · exact .tuple _ [vv, .bool true] (.cons _ _ _ _ k2 (.one (.bool _)))
        · exact (fail_ok h1).elim
      · exact (fail_ok h).elim
  · exact (fail_ok h).elim

end
end Go.Ab
