/- Part of the proof of ClocksDeep (own work). -/
import Derived.Test.YtlonlfiaclacdaaGreatB1
import Derived.MapKept
set_option linter.all false
set_option maxRecDepth 100000
namespace Go.Vi
open Go.Ab (szOf bytesOf isAggO sliceElem fieldO szOf_some bytesOf_some run_sizeOf' sliceElem_some fieldO_some run_isAgg' splice_get splice_length setRow_facts binOp_int)
section
variable {P : Program} {m : J} {h : Nat → Option Obj} {w : World}
theorem intP_sim {op : BinOp} {k : IntKind} {a b : Int} {x : PV} (h : intP op k a b = some x) (t : TypeId) (w : World) :
    ∃ v, (binOp op t (.int k a) (.int k b)).run P w = .ok v w ∧ VR m x v := by
  cases op
  case shl => cases h
  case shr => cases h
  all_goals
    rw [binOp_int _ (by simp) (by simp)]
    simp only [intP] at h
    first
      | (cases h; done)
      | (simp only [Option.some.injEq] at h; subst h; first | exact ⟨_, rfl, .data _ _ (.int _ _)⟩ | exact ⟨_, rfl, .data _ _ (.bool _)⟩)
      | (split at h
         · cases h
         · rename_i hb
           simp only [Option.some.injEq] at h; subst h
           exact ⟨_, by simp [Op.intDiv, hb], .data _ _ (.int _ _)⟩)
theorem eqP1_sim {t : TypeId} {x y : PV} {r : Bool} (h : eqP1 (P.underlying t) x y = some r) {u v : Value} (hx : VR m x u) (hy : VR m y v) (d : Nat) (w : World) :
    (Op.equalIn (d + 1) t u v).run P w = .ok r w ∧ ((∃ a b, u = .int a b) ∨ (∃ a, u = .bool a) ∨ ∃ s, u = .string s) ∧ ((∃ a b, v = .int a b) ∨ (∃ a, v = .bool a) ∨ ∃ s, v = .string s) ∧ ((∃ a b, x = .bool a ∧ y = .bool b ∧ u = .bool a ∧ v = .bool b) ∨ (∃ k a k' b, x = .int k a ∧ y = .int k' b) ∨ ∃ a b, x = .str a ∧ y = .str b) := by
  unfold eqP1 at h
  split at h
  · rename_i k0 k a k' b hu
    cases hx with | data _ _ hx => cases hy with | data _ _ hy =>
    cases hx; cases hy
    split at h
    · rename_i hk; subst hk; simp at h; subst h
      exact ⟨by simp [Op.equalIn, run_underlying hu], .inl ⟨_, _, rfl⟩, .inl ⟨_, _, rfl⟩, .inr (.inl ⟨_, _, _, _, rfl, rfl⟩)⟩
    · cases h
  · rename_i a b hu
    cases hx with | data _ _ hx => cases hy with | data _ _ hy =>
    cases hx; cases hy
    simp at h; subst h
    exact ⟨by simp [Op.equalIn, run_underlying hu], .inr (.inl ⟨_, rfl⟩), .inr (.inl ⟨_, rfl⟩), .inl ⟨_, _, rfl, rfl, rfl, rfl⟩⟩
  · rename_i a b hu
    cases hx with | data _ _ hx => cases hy with | data _ _ hy =>
    cases hx; cases hy
    simp only [Option.some.injEq] at h; subst h
    exact ⟨run_equalIn_string w d t a b hu, .inr (.inr ⟨_, rfl⟩), .inr (.inr ⟨_, rfl⟩), .inr (.inr ⟨_, _, rfl, rfl⟩)⟩
  · cases h
theorem eqFields_sim {xs ys : List PV} {us vs : Array Value} (hx : VRs m xs us.toList) (hy : VRs m ys vs.toList) (d : Nat) (w : World) :
    ∀ {fs : List Field} {r : Bool}, eqFieldsP P xs ys fs = some r → (Op.eqFields (d + 1) us vs fs).run P w = .ok r w
  | [], r, h => by simp [eqFieldsP] at h; subst h; rfl
  | f :: fs, r, h => by
    simp only [eqFieldsP] at h
    by_cases hn : f.name = "_"
    · rw [if_pos hn] at h; cases h
    · rw [if_neg hn] at h
      split at h
      · rename_i hag
        split at h
        · rename_i x hxf
          split at h
          · rename_i y hyf
            obtain ⟨u, hu, hur⟩ := hx.get hxf
            obtain ⟨v, hv, hvr⟩ := hy.get hyf
            have p1 : (part f.type us f.offset).run P w = .ok u w := by simp [part, run_isAgg' hag]; rw [show us[f.offset]? = some u by simpa using hu]; rfl
            have p2 : (part f.type vs f.offset).run P w = .ok v w := by simp [part, run_isAgg' hag]; rw [show vs[f.offset]? = some v by simpa using hv]; rfl
            split at h
            · rename_i b he
              have h1 := (eqP1_sim he hur hvr d w).1
              split at h
              · rename_i r' hr'
                simp at h; subst h
                have h2 := eqFields_sim hx hy d w hr'
                simp only [Op.eqFields, Sem.run_bind, p1, p2, Result.andThen_ok, h1, ne_eq, hn, not_false_eq_true, if_true]
                cases b
                · simp
                · simpa using h2
              · cases h
            · cases h
          · cases h
        · cases h
      · cases h
theorem run_eq_ptr {t e : TypeId} (hu : P.underlying t = some (.pointer e)) {a : Addr} (d : Nat) (w : World) : (Op.equalIn (d + 1) t (.pointer (some a)) (.pointer none)).run P w = .ok false w := by
  simp [Op.equalIn, run_underlying hu]
theorem run_eq_nil {t e : TypeId} (hu : P.underlying t = some (.pointer e)) (d : Nat) (w : World) : (Op.equalIn (d + 1) t (.pointer none) (.pointer none)).run P w = .ok true w := by
  simp [Op.equalIn, run_underlying hu]
theorem run_eq_slice {t e : TypeId} (hu : P.underlying t = some (.slice e)) {a : Addr} {n c : Nat} (d : Nat) (w : World) : (Op.equalIn (d + 1) t (.slice (some a) n c) (.slice none 0 0)).run P w = .ok false w := by
  simp [Op.equalIn, run_underlying hu]
theorem run_eq_slice0 {t e : TypeId} (hu : P.underlying t = some (.slice e)) (d : Nat) (w : World) : (Op.equalIn (d + 1) t (.slice none 0 0) (.slice none 0 0)).run P w = .ok true w := by
  simp [Op.equalIn, run_underlying hu]
theorem run_eq_map {t k e : TypeId} (hu : P.underlying t = some (.map k e)) {b : Nat} (d : Nat) (w : World) : (Op.equalIn (d + 1) t (.map (some b)) (.map none)).run P w = .ok false w := by
  simp [Op.equalIn, run_underlying hu]
theorem run_eq_map0 {t k e : TypeId} (hu : P.underlying t = some (.map k e)) (d : Nat) (w : World) : (Op.equalIn (d + 1) t (.map none) (.map none)).run P w = .ok true w := by
  simp [Op.equalIn, run_underlying hu]
theorem vr_nil {v : Value} (h : VR m .nil v) : v = .slice none 0 0 := by
  cases h with
  | data _ _ hd => cases hd; rfl
  | nil => rfl
theorem eqP_sim {t : TypeId} {x y : PV} {r : Bool} (h : eqP P t x y = some r) (n1 : ∀ k a k' b, x = .int k a → y = .int k' b → False) (n2 : ∀ a b, x = .str a → y = .str b → False) {u v : Value} (hx : VR m x u) (hy : VR m y v) (w : World) :
    (Op.equal t u v).run P w = .ok r w ∧ (∀ op a b, (eqGuard op t a b u v).run P w = .ok () w) ∧ Go.Ab.Plain2 u v := by
  unfold eqP at h
  split at h
  · rename_i e hu
    unfold nilP at h
    split at h
    · simp only [Option.some.injEq] at h; subst h
      cases hx with
      | data _ _ hd => cases hd
      | ptr => cases hy with
        | data _ _ hd => cases hd
        | nptr => exact ⟨by simp only [Op.equal, Op.maxDepth]; exact run_eq_ptr hu 9999 w, fun op a b => by cases op <;> simp [eqGuard], .ptr _ _⟩
    · simp only [Option.some.injEq] at h; subst h
      cases hx with
      | data _ _ hd => cases hd
      | eptr => cases hy with
        | data _ _ hd => cases hd
        | nptr => exact ⟨by simp only [Op.equal, Op.maxDepth]; exact run_eq_ptr hu 9999 w, fun op a b => by cases op <;> simp [eqGuard], .ptr _ _⟩
    · simp only [Option.some.injEq] at h; subst h
      cases hx with
      | data _ _ hd => cases hd
      | nptr => cases hy with
        | data _ _ hd => cases hd
        | nptr => exact ⟨by simp only [Op.equal, Op.maxDepth]; exact run_eq_nil hu 9999 w, fun op a b => by cases op <;> simp [eqGuard], .ptr _ _⟩
    · cases h
  · rename_i e hu
    unfold nilS at h
    have fin : ∀ (a : Addr) (n c : Nat), u = .slice (some a) n c → v = .slice none 0 0 → (Op.equal t u v).run P w = .ok false w ∧ (∀ op a b, (eqGuard op t a b u v).run P w = .ok () w) ∧ Go.Ab.Plain2 u v := by
      rintro a n c rfl rfl
      exact ⟨by simp only [Op.equal, Op.maxDepth]; exact run_eq_slice hu 9999 w, fun op a b => by cases op <;> simp [eqGuard], .slice _ _ _ _ _ _⟩
    split at h
    · simp only [Option.some.injEq] at h; subst h
      obtain rfl := vr_nil hx
      obtain rfl := vr_nil hy
      exact ⟨by simp only [Op.equal, Op.maxDepth]; exact run_eq_slice0 hu 9999 w, fun op a b => by cases op <;> simp [eqGuard], .slice _ _ _ _ _ _⟩
    · simp only [Option.some.injEq] at h; subst h
      cases hx with
      | data _ _ hd => cases hd with | emp a c => exact fin a 0 c rfl (vr_nil hy)
    · simp only [Option.some.injEq] at h; subst h
      cases hx with
      | data _ _ hd => cases hd with | lst _ B o c => exact fin _ _ c rfl (vr_nil hy)
    · simp only [Option.some.injEq] at h; subst h
      cases hx with
      | data _ _ hd => cases hd
      | acc _ _ B0 c => exact fin _ _ c rfl (vr_nil hy)
    · cases h
  · rename_i e1 e2 hu
    unfold nilM at h
    split at h
    · simp only [Option.some.injEq] at h; subst h
      cases hx with
      | data _ _ hd => cases hd
      | map => cases hy with
        | data _ _ hd => cases hd
        | nmap => exact ⟨by simp only [Op.equal, Op.maxDepth]; exact run_eq_map hu 9999 w, fun op a b => by cases op <;> simp [eqGuard], .map _ _⟩
    · simp only [Option.some.injEq] at h; subst h
      cases hx with
      | data _ _ hd => cases hd
      | nmap => cases hy with
        | data _ _ hd => cases hd
        | nmap => exact ⟨by simp only [Op.equal, Op.maxDepth]; exact run_eq_map0 hu 9999 w, fun op a b => by cases op <;> simp [eqGuard], .map _ _⟩
    · cases h
  · rename_i fs hu
    split at h
    · rename_i xs ys
      cases hc : P.stoodInHeld t || P.eqGuardType P.depth t with
      | true => simp [hc] at h
      | false =>
        simp only [hc, cond_false] at h
        obtain ⟨c1, c2⟩ := Bool.or_eq_false_iff.1 hc
        cases hx with
        | data _ _ hd => cases hd
        | agg _ us hxs =>
          cases hy with
          | data _ _ hd => cases hd
          | agg _ vs hys =>
            have hfs : P.fieldsOf t = fs := by simp [Program.fieldsOf, hu]
            refine ⟨?_, fun op a b => run_eqGuard_agg w op t a b _ _ c2, .agg _ _⟩
            simp only [Op.equal, Op.maxDepth]
            rw [run_equalIn_struct w 9999 t us.toArray vs.toArray (by rw [hfs]; exact hu) c1, hfs]
            exact eqFields_sim (by simpa using hxs) (by simpa using hys) 9998 w h
    · cases h
  · obtain ⟨h1, h2, h3, h4⟩ := eqP1_sim h hx hy 9999 w
    rcases h4 with ⟨a, b, rfl, rfl, rfl, rfl⟩ | ⟨k, a, k', b, rfl, rfl⟩ | ⟨a, b, rfl, rfl⟩
    · exact ⟨by simp only [Op.equal, Op.maxDepth]; exact h1, fun op _ _ => by cases op <;> simp [eqGuard], .bool _ _⟩
    · exact (n1 _ _ _ _ rfl rfl).elim
    · exact (n2 _ _ rfl rfl).elim
theorem bin_sim {op : BinOp} {t : TypeId} {x y z : PV} (h : binP P op t x y = some z) {u v : Value} (hx : VR m x u) (hy : VR m y v) (a b : Operand) (w : World) :
    ∃ r, (do eqGuard op t a b u v; binOp op t u v : Sem Value).run P w = .ok r w ∧ VR m z r := by
  unfold binP at h
  split at h
  · rename_i k n k' n'
    cases hx with | data _ _ hx => cases hy with | data _ _ hy =>
    cases hx; cases hy
    have hg : (eqGuard op t a b (.int k n) (.int k' n')).run P w = .ok () w := by cases op <;> simp [eqGuard]
    split at h
    · rename_i hk; subst hk
      obtain ⟨r, h1, h2⟩ := intP_sim (P := P) (m := m) h t w
      exact ⟨r, by simp only [Sem.run_bind, hg, Result.andThen_ok, h1], h2⟩
    · cases h
  · rename_i s s'
    cases hx with | data _ _ hx => cases hy with | data _ _ hy =>
    cases hx; cases hy
    have hg : (eqGuard op t a b (.string s) (.string s')).run P w = .ok () w := by cases op <;> simp [eqGuard]
    unfold strP at h
    split at h
    · split at h
      · rename_i hle
        simp only [Option.some.injEq] at h; subst h
        exact ⟨.string (s ++ s'), by
          simp only [Sem.run_bind, hg, Result.andThen_ok]; simp [binOp, Op.stringOp]; omega, .data _ _ (.str _)⟩
      · cases h
    · simp only [Option.some.injEq] at h; subst h
      exact ⟨.bool (s.toList == s'.toList), by simp only [Sem.run_bind, hg, Result.andThen_ok]; simp [binOp, Op.stringOp], .data _ _ (.bool _)⟩
    · simp only [Option.some.injEq] at h; subst h
      exact ⟨.bool !(s.toList == s'.toList), by simp only [Sem.run_bind, hg, Result.andThen_ok]; simp [binOp, Op.stringOp], .data _ _ (.bool _)⟩
    · cases h
  · rename_i x' y' n1 n2
    split at h
    · split at h
      · rename_i r hr
        simp at h; subst h
        obtain ⟨e1, e2, e3⟩ := eqP_sim hr (fun k a k' b h1 h2 => n1 _ _ _ _ h1 h2) (fun a b h1 h2 => n2 _ _ h1 h2) hx hy w
        exact ⟨.bool r, by simp only [Sem.run_bind, e2, Result.andThen_ok, ((e3.run (P := P) (w := w) t).2 r e1).1], .data _ _ (.bool _)⟩
      · cases h
    · split at h
      · rename_i r hr
        simp at h; subst h
        obtain ⟨e1, e2, e3⟩ := eqP_sim hr (fun k a k' b h1 h2 => n1 _ _ _ _ h1 h2) (fun a b h1 h2 => n2 _ _ h1 h2) hx hy w
        exact ⟨.bool !r, by simp only [Sem.run_bind, e2, Result.andThen_ok, ((e3.run (P := P) (w := w) t).2 r e1).2], .data _ _ (.bool _)⟩
      · cases h
    · cases h
theorem un_sim {op : UnOp} {x y : PV} (h : unP op x = some y) {u : Value} (hx : VR m x u) (w : World) : ∃ v, (Op.unary op u).run P w = .ok v w ∧ VR m y v := by
  unfold unP at h
  split at h
  · simp at h; subst h
    cases hx with | data _ _ hx =>
    cases hx
    exact ⟨_, by simp [Op.unary], .data _ _ (.bool _)⟩
  · simp at h; subst h
    cases hx with | data _ _ hx =>
    cases hx
    exact ⟨_, by simp [Op.unary, Op.intArith], .data _ _ (.int _ _)⟩
  · cases h
theorem convert_sim {src dst : TypeId} {x y : PV} (h : convertP P src dst x = some y) {u : Value} (hx : VR m x u) (w : World) : ∃ v, (convert src dst u).run P w = .ok v w ∧ VR m y v := by
  unfold convertP at h
  split at h
  · rename_i d hd
    split at h
    · rename_i k hu
      split at h
      · rename_i k' n
        simp at h; subst h
        cases hx with | data _ _ hx =>
        cases hx
        exact ⟨.int k _, by simp only [convert, Sem.run_bind, run_underlying hd, run_underlying hu, Result.andThen_ok]; cases d <;> rfl, .data _ _ (.int _ _)⟩
      · cases h
    · cases h
  · cases h
theorem len_sim {t : TypeId} {x y : PV} (h : lenP P t x = some y) {u : Value} (hx : VR m x u) {ats : Array TypeId} (hat : ats[0]? = some t) (ty : TypeId) (w : World) :
    ∃ v, (Builtin.len_ ats ty #[u]).run P w = .ok v w ∧ VR m y v := by
  unfold lenP at h
  split at h
  · rename_i hu
    split at h
    · simp at h; subst h
      cases hx with | data _ _ hx =>
      cases hx
      exact ⟨_, by simp [Builtin.len_, hat, run_underlying hu, goInt], .data _ _ (.int _ _)⟩
    · cases h
  · rename_i e hu
    split at h
    · rename_i b n
      simp only [Option.some.injEq] at h; subst h
      cases hx with
      | data _ _ hd => cases hd
      | bsl => exact ⟨_, by simp [Builtin.len_, hat, run_underlying hu, goInt], .data _ _ (.int _ _)⟩
    split at h
    · rename_i rows hrows
      simp at h; subst h
      have hd := hx.rows hrows
      have : ∃ a c, u = .slice a rows.length c := by
        cases hd with
        | none a c _ => exact ⟨a, c, rfl⟩
        | lst _ B o c => exact ⟨_, c, rfl⟩
      obtain ⟨a, c, rfl⟩ := this
      exact ⟨_, by simp [Builtin.len_, hat, run_underlying hu, goInt], .data _ _ (.int _ _)⟩
    · cases h
  · cases h
structure Rows (K : KK) (e : Nat) (rows : List (List PV)) (ks : List Value) : Prop where
  len : ks.length = rows.length * e
  row : ∀ (i : Nat) (row : List PV), rows[i]? = some row → row.length = e
  rel : ∀ (i : Nat) (row : List PV), rows[i]? = some row → DRs K row ((ks.drop (i * e)).take e)
theorem Rows.mono {K K' : KK} {e : Nat} {rows : List (List PV)} {ks : List Value} (h : Rows K e rows ks) (hk : Kle K K') : Rows K' e rows ks := ⟨h.len, h.row, fun i row hi => (h.rel i row hi).mono hk⟩
theorem Rows.append {K : KK} {e : Nat} {rows rows' : List (List PV)} {ks ks' : List Value} (h : Rows K e rows ks) (h' : Rows K e rows' ks') : Rows K e (rows ++ rows') (ks ++ ks') := by
  have hget : ∀ i row, (rows ++ rows')[i]? = some row → rows[i]? = some row ∨ (rows.length ≤ i ∧ rows'[i - rows.length]? = some row) := by
    intro i row hi
    by_cases c : i < rows.length
    · rw [List.getElem?_append_left c] at hi; exact .inl hi
    · rw [List.getElem?_append_right (by omega)] at hi; exact .inr ⟨by omega, hi⟩
  refine ⟨by rw [List.length_append, List.length_append, h.len, h'.len, Nat.add_mul], fun i row hi => ?_, fun i row hi => ?_⟩
  · rcases hget i row hi with h1 | ⟨_, h1⟩
    · exact h.row i row h1
    · exact h'.row _ row h1
  · rcases hget i row hi with h1 | ⟨hle, h1⟩
    · have hi2 := (List.getElem?_eq_some_iff.1 h1).1
      have hle := row_le (sz := e) (o := 0) (L := ks.length) hi2 (by rw [h.len]; omega)
      rw [cut_prefix (List.prefix_append ks ks') (by omega)]
      exact h.rel i row h1
    · have : ((ks ++ ks').drop (i * e)).take e = (ks'.drop ((i - rows.length) * e)).take e := by
        rw [List.drop_append, List.drop_eq_nil_of_le (by rw [h.len]; exact Nat.mul_le_mul_right _ hle), List.nil_append, h.len, Nat.sub_mul]
      rw [this]
      exact h'.rel _ row h1
theorem rows_of {K : KK} {e : Nat} {rows : List (List PV)} {B o c : Nat} (hall : ∀ row ∈ rows, row.length = e) (h0 : 0 < rows.length) (h : DR K (.lst rows) (.slice (some ⟨B, o, none⟩) rows.length c)) :
    ∃ ks, K B = some ks ∧ o + rows.length * e ≤ ks.length ∧ rows.length ≤ c ∧ Rows K e rows ((ks.drop o).take (rows.length * e)) := by
  cases h with
  | none => simp at h0
  | lst _ _ _ _ sz ks hk h1 hc hl hr hd =>
    have hsz : sz = e := by
      obtain ⟨row, hm⟩ : ∃ row, rows[0]? = some row := ⟨rows[0]'h0, by rw [List.getElem?_eq_getElem]⟩
      rw [← hr 0 row hm, hall row (List.mem_of_getElem? hm)]
    subst hsz
    refine ⟨ks, hk, hl, hc, by simp; omega, hr, fun i row hi => ?_⟩
    have hle := row_le (sz := sz) (o := 0) (L := rows.length * sz) (List.getElem?_eq_some_iff.1 hi).1 (by omega)
    have : (((ks.drop o).take (rows.length * sz)).drop (i * sz)).take sz = (ks.drop (o + i * sz)).take sz := by
      rw [List.drop_take, List.take_take, List.drop_drop, Nat.min_eq_left (by omega)]
    rw [this]
    exact hd i row hi
theorem Rows.dr {K : KK} {e : Nat} {rows : List (List PV)} {ks : List Value} (h : Rows K e rows ks) (h0 : 0 < rows.length) {B c : Nat} {kb : List Value} (hk : K B = some kb) (hp : ks <+: kb) (hc : rows.length ≤ c) : DR K (.lst rows) (.slice (some ⟨B, 0, none⟩) rows.length c) :=
  .lst rows B 0 c e kb hk h0 hc (by have := hp.length_le; rw [h.len] at this; omega) h.row fun i row hi => by
    have hle := row_le (sz := e) (o := 0) (L := ks.length) (List.getElem?_eq_some_iff.1 hi).1 (by rw [h.len]; omega)
    rw [Nat.zero_add, cut_prefix hp (by omega)]
    exact h.rel i row hi
theorem Rows.one {K : KK} {e : Nat} {rows : List (List PV)} {ks : List Value} (h : Rows K e rows ks) (he : 0 < e) : ∀ v ∈ ks, v.oneCell' = true := by
  intro v hv
  obtain ⟨j, hj⟩ := List.getElem?_of_mem hv
  have hlt := (List.getElem?_eq_some_iff.1 hj).1
  rw [h.len] at hlt
  have hi : j / e < rows.length := Nat.div_lt_of_lt_mul (by rw [Nat.mul_comm]; exact hlt)
  have hr := h.rel (j / e) (rows[j / e]'hi) (by rw [List.getElem?_eq_getElem])
  refine hr.one v ?_
  have hm : j % e < e := Nat.mod_lt _ he
  have hda : j / e * e + j % e = j := by rw [Nat.mul_comm]; exact Nat.div_add_mod j e
  refine List.mem_of_getElem? (i := j % e) ?_
  rw [List.getElem?_take, if_pos hm, List.getElem?_drop, hda]
  exact hj
end
end Go.Vi
namespace Go.Vi
open Go.Ab (szOf bytesOf isAggO sliceElem fieldO szOf_some bytesOf_some run_sizeOf' sliceElem_some fieldO_some run_isAgg' splice_get splice_length setRow_facts Fw)
section
variable {P : Program} {m : J} {h : Nat → Option Obj} {w : World}
theorem St.set_next (st : St) (b : Nat) (o : Obj) : (st.set b o).next = st.next := rfl
theorem own_top (hr : Rel m h w) {b : Nat} {rows : List (List PV)} {e e0 : Nat} (hb : h b = some (.own rows.length e0)) (he : rows.length = 0 ∨ e0 = e) (hall : ∀ row ∈ rows, row.length = e) {v : Value} (hv : VR m (.acc b rows) v) :
    (rows = [] ∧ v = .slice none 0 0) ∨ (0 < rows.length ∧ ∃ B c t ks vs ty, v = .slice (some ⟨B, 0, none⟩) rows.length c ∧ rows.length ≤ c ∧ c * e ≤ t ∧ m.own b = some (B, rows.length, e, t) ∧ m.K B = some ks ∧ Rows m.K e rows ks ∧
      w.heap[B]? = some (.cells vs ty (0, 0)) ∧ vs.size = t ∧ ks <+: vs.toList) := by
  cases hv with
  | data _ _ hd => cases hd
  | acc0 => exact .inl ⟨rfl, rfl⟩
  | acc _ _ B0 c B n e1 t ho h0 hn ht hd =>
    rcases hr.own b _ _ hb with ⟨h1, _⟩ | ⟨_, B', t', h2, ks, h3, h4, vs, ty, h5, h6⟩
    · omega
    · rw [ho] at h2; cases h2
      obtain ⟨rfl, hct⟩ := ht rfl
      have hee : e0 = e := he.resolve_left (by omega)
      subst hee
      obtain ⟨ks', g1, g2, g3, g4⟩ := rows_of hall h0 hd
      rw [h3] at g1; cases g1
      have hks : (ks.drop 0).take (rows.length * e0) = ks := by rw [List.drop_zero, List.take_of_length_le (by rw [h4]; exact Nat.le_refl _)]
      rw [hks] at g4
      obtain ⟨vs', ty', fz, f1, f2⟩ := hr.fro B ks h3
      rw [h5] at f1; cases f1
      exact .inr ⟨h0, B, c, t, ks, vs, ty, rfl, g3, hct, ho, h3, g4, h5, h6, f2⟩
theorem wrapCells {z : Array Value} {n : Nat} : (Builtin.zeroCells z n).size = n * z.size := by simp [Builtin.zeroCells]
theorem push_sim (hr : Rel m h w) {t t' d e : TypeId} {i : TypeInfo} {z : Value} (ht : P.underlying t = some (.slice e)) (ht' : P.underlying t' = some (.slice d)) (hi : P.info? e = some i) (hz : i.zero = some z) (hzs : z.cells.size = i.size) (hpos : 0 < i.size)
    {b : Nat} {rows xs : List (List PV)} {e0 : Nat} (hb : h b = some (.own rows.length e0)) (he : rows.length = 0 ∨ e0 = i.size) (hall : ∀ row ∈ rows, row.length = i.size) (hallx : ∀ row ∈ xs, row.length = i.size)
    (hf1 : (rows.length + xs.length) * i.bytes ≤ 140737488355328) (hf2 : rows.length + xs.length ≤ 140737488355328) {v v2 : Value} (hv : VR m (.acc b rows) v) (hx : DR m.K (.lst xs) v2) (ty : TypeId) :
    ∃ r w' m', (Builtin.append_ #[t, t'] ty #[v, v2]).run P w = .ok r w' ∧ Ext m w m' w' ∧ Rel m' (fun x => bif Nat.beq x b then some (.own (rows.length + xs.length) i.size) else h x) w' ∧ VR m' (.acc b (rows ++ xs)) r := by
  have htop := own_top hr hb he hall hv
  cases hx with
  | none a c ha =>
    have hv2 : Value.slice a 0 c = .slice none 0 0 ∨ ∃ a' c', Value.slice a 0 c = .slice (some a') 0 c' := by
      cases a with
      | none => rw [ha rfl]; exact .inl rfl
      | some a => exact .inr ⟨_, _, rfl⟩
    simp only [List.length_nil, Nat.add_zero, List.append_nil]
    rcases htop with ⟨rfl, rfl⟩ | ⟨h0, B, c', tt, ks, vs, ty', rfl, hc, hct, ho, hk, hR, hw, hs, hp⟩
    · refine ⟨_, w, m, Go.Ab.run_app_none t t' ty e i d ht ht' hi _ none 0 0 rfl (Nat.le_refl _) _ hv2 w, Ext.refl m w, ?_, .acc0 b⟩
      exact hr.own0 hb i.size
    · refine ⟨_, w, m, Go.Ab.run_app_none t t' ty e i d ht ht' hi _ _ _ _ rfl hc _ hv2 w, Ext.refl m w, hr.congr fun x => ?_, hv⟩
      rw [beq_if]
      by_cases c : x = b
      · rw [if_pos c, c, hb, he.resolve_left (by omega)]
      · rw [if_neg c]
  | lst _ B2 o2 c2 sz2 ks2 hk2 h02 hc2 hl2 hr2 hd2 =>
    have hx0 : DR m.K (.lst xs) (.slice (some ⟨B2, o2, none⟩) xs.length c2) := .lst xs B2 o2 c2 sz2 ks2 hk2 h02 hc2 hl2 hr2 hd2
    obtain ⟨kx, q1, q2, q3, q4⟩ := rows_of hallx h02 hx0
    rw [hk2] at q1; cases q1
    obtain ⟨news, hnews⟩ : ∃ news, news = (ks2.drop o2).take (xs.length * i.size) := ⟨_, rfl⟩
    rw [← hnews] at q4
    have hnl : news.length = xs.length * i.size := q4.len
    have hncell : ∀ j u, news[j]? = some u → w.cell? ((⟨B2, o2, none⟩ : Addr).add j) = some u := by
      intro j u hj
      rw [Addr.add_lit]
      rw [hnews, List.getElem?_take] at hj
      split at hj
      · rw [List.getElem?_drop] at hj; exact fro_cell hr hk2 hj
      · cases hj
    have hone := q4.one hpos
    have hkK : ∀ {m' : J}, Ext m w m' w → True := fun _ => trivial
    rcases htop with ⟨rfl, rfl⟩ | ⟨h0, B, c', tt, ks, vs, ty', rfl, hc, hct, ho, hk, hR, hw, hs, hp⟩
    ·
      simp only [List.length_nil, Nat.zero_add, List.nil_append] at hf1 hf2 hb ⊢
      have hrun := Go.Ab.run_app_nil (w := w) t t' ty e d i z ht ht' hi hz ⟨B2, o2, none⟩ xs.length c2 news hnl hncell h02 (by omega) (by omega)
      have hge := grownCap_ge w xs.length 0 e
      obtain ⟨W, hW⟩ : ∃ W, W = w.drew.alloc (.cells (news.toArray ++ Builtin.zeroCells z.cells (grownCap w xs.length 0 e - xs.length)) e) := ⟨_, rfl⟩
      have hcell : W.heap[w.heap.size]? = some (.cells (news.toArray ++ Builtin.zeroCells z.cells (grownCap w xs.length 0 e - xs.length)) e (0, 0)) := by rw [hW]; exact heap_alloc_new w.drew _
      have hsz : (news.toArray ++ Builtin.zeroCells z.cells (grownCap w xs.length 0 e - xs.length)).size = grownCap w xs.length 0 e * i.size := by
        rw [Array.size_append, wrapCells, hzs, List.size_toArray, hnl, ← Nat.add_mul]
        congr 1; omega
      obtain ⟨m', k1, k2, k3, k4, k5⟩ := hr.grow hb (w' := W) (B' := w.heap.size) (n' := xs.length) (e := i.size) (t' := grownCap w xs.length 0 e * i.size) (ks' := news) (.inl rfl) h02 (.inl (Nat.le_refl _)) hcell hsz (by simp) hnl
        (fun B _ hB => by rw [hW]; exact heap_alloc_old w.drew _ B hB) (by rw [hW]; simp) (by rw [hW]; rfl) (by rw [hW]; rfl) (fun a => by rw [hW]; exact Go.Ab.frozen_alloc w.drew _ (fun c t fr e => by cases e; rfl) a)
      refine ⟨_, W, m', by rw [hW]; exact hrun, k1, k2, ?_⟩
      exact .acc b xs w.heap.size _ w.heap.size xs.length i.size _ k3 h02 (Nat.le_refl _) (fun _ => ⟨rfl, Nat.le_refl _⟩) ((q4.mono k1.le.K).dr h02 k4 (List.prefix_refl _) hge)
    · have hvk : ks = vs.toList.take (rows.length * i.size) := by
        obtain ⟨r, hr⟩ := hp
        rw [← hr, ← hR.len, List.take_left]
      have hRR := hR.append q4
      have hn' : 0 < (rows ++ xs).length := by simp; omega
      by_cases hroom : rows.length + xs.length ≤ c'
      ·
        have hmul : (rows.length + xs.length) * i.size ≤ c' * i.size := Nat.mul_le_mul_right _ hroom
        rw [Nat.add_mul] at hmul
        have htot : rows.length * i.size + news.length ≤ vs.toList.length := by
          have h1 := Nat.le_trans hmul hct
          rw [← hs] at h1
          rw [hnl, Array.length_toList]; exact h1
        have hst := run_storeCells_at (P := P) B (rows.length * i.size) ty' news 0 vs w hw (by simpa using htot) hone
        simp only [Nat.add_zero] at hst
        obtain ⟨x1, x2, x3, x4⟩ := setRow_facts w B vs (vs.toList.take (rows.length * i.size) ++ news ++ vs.toList.drop (rows.length * i.size + news.length)).toArray ty' hw
        have hrun := Go.Ab.run_app_room t t' ty e d i ht ht' hi B 0 rows.length c' ⟨B2, o2, none⟩ xs.length c2 news hnl hncell hroom (by rw [Nat.zero_add]; exact hst)
        obtain ⟨m', k1, k2, k3, k4, k5⟩ := hr.grow hb (w' := w.setRow B (vs.toList.take (rows.length * i.size) ++ news ++ vs.toList.drop (rows.length * i.size + news.length)).toArray) (B' := B) (n' := rows.length + xs.length) (e := i.size) (t' := tt) (ks' := ks ++ news)
          (.inr (he.resolve_left (by omega))) (by omega) (.inr ⟨ks, ho, hk, List.prefix_append _ _⟩) x1 (by rw [← hs, List.size_toArray, splice_length _ _ _ htot, Array.length_toList]) (by rw [hvk]; exact List.prefix_append _ _) (by rw [List.length_append, hR.len, hnl, Nat.add_mul])
          (fun k hk _ => x2 k hk) (by rw [x3]; exact Nat.le_refl _) rfl rfl x4
        refine ⟨_, _, m', hrun, k1, k2, ?_⟩
        have := VR.acc (m := m') b (rows ++ xs) B c' B (rows.length + xs.length) i.size tt k3 hn' (by simp) (fun _ => ⟨rfl, hct⟩) ((hRR.mono k1.le.K).dr hn' k4 (List.prefix_refl _) (by simp; exact hroom))
        rw [List.length_append] at this
        exact this
      ·
        have hgt : c' < rows.length + xs.length := by omega
        have hfit := growslice_fits (need := rows.length + xs.length) (old := c') (bytes := i.bytes) hgt hf1
        have hocell : ∀ j u, ks[j]? = some u → w.cell? ((⟨B, 0, none⟩ : Addr).add j) = some u := by
          intro j u hj
          rw [Addr.add_lit, Nat.zero_add]
          exact fro_cell hr hk hj
        have hrun := Go.Ab.run_app_grow (w := w) t t' ty e d i z ht ht' hi hz ⟨B, 0, none⟩ rows.length c' ks hR.len hocell ⟨B2, o2, none⟩ xs.length c2 news hnl hncell hgt (by omega) hfit
        have hge := grownCap_ge w (rows.length + xs.length) c' e
        obtain ⟨W, hW⟩ : ∃ W, W = w.drew.alloc (.cells (ks.toArray ++ news.toArray ++ Builtin.zeroCells z.cells (grownCap w (rows.length + xs.length) c' e - (rows.length + xs.length))) e) := ⟨_, rfl⟩
        have hcell : W.heap[w.heap.size]? = some (.cells (ks.toArray ++ news.toArray ++ Builtin.zeroCells z.cells (grownCap w (rows.length + xs.length) c' e - (rows.length + xs.length))) e (0, 0)) := by rw [hW]; exact heap_alloc_new w.drew _
        have hsz : (ks.toArray ++ news.toArray ++ Builtin.zeroCells z.cells (grownCap w (rows.length + xs.length) c' e - (rows.length + xs.length))).size = grownCap w (rows.length + xs.length) c' e * i.size := by
          rw [Array.size_append, Array.size_append, wrapCells, hzs, List.size_toArray, List.size_toArray, hR.len, hnl, ← Nat.add_mul, ← Nat.add_mul]
          congr 1; omega
        obtain ⟨m', k1, k2, k3, k4, k5⟩ := hr.grow hb (w' := W) (B' := w.heap.size) (n' := rows.length + xs.length) (e := i.size) (t' := grownCap w (rows.length + xs.length) c' e * i.size) (ks' := ks ++ news)
          (.inr (he.resolve_left (by omega))) (by omega) (.inl (Nat.le_refl _)) hcell hsz (by simp) (by rw [List.length_append, hR.len, hnl, Nat.add_mul])
          (fun B _ hB => by rw [hW]; exact heap_alloc_old w.drew _ B hB) (by rw [hW]; simp) (by rw [hW]; rfl) (by rw [hW]; rfl) (fun a => by rw [hW]; exact Go.Ab.frozen_alloc w.drew _ (fun c t fr e => by cases e; rfl) a)
        refine ⟨_, W, m', by rw [hW]; exact hrun, k1, k2, ?_⟩
        have := VR.acc (m := m') b (rows ++ xs) w.heap.size (grownCap w (rows.length + xs.length) c' e) w.heap.size (rows.length + xs.length) i.size _ k3 hn' (by simp) (fun _ => ⟨rfl, Nat.le_refl _⟩) ((hRR.mono k1.le.K).dr hn' k4 (List.prefix_refl _) (by simp; exact hge))
        rw [List.length_append] at this
        exact this
theorem capPush_sim (hr : Rel m h w) {t t' d e : TypeId} {i : TypeInfo} {z : Value} (ht : P.underlying t = some (.slice e)) (ht' : P.underlying t' = some (.slice d)) (hi : P.info? e = some i) (hz : i.zero = some z) (hzs : z.cells.size = i.size) (hpos : 0 < i.size)
    {b : Nat} {rows xs : List (List PV)} (hb : h b = none) (hall : ∀ row ∈ rows, row.length = i.size) (hallx : ∀ row ∈ xs, row.length = i.size) (h0 : 0 < xs.length)
    (hf1 : (rows.length + xs.length) * i.bytes ≤ 140737488355328) (hf2 : rows.length + xs.length ≤ 140737488355328) {v v2 : Value} (hv : VR m (.cap rows) v) (hx : DR m.K (.lst xs) v2) (ty : TypeId) :
    ∃ r w' m', (Builtin.append_ #[t, t'] ty #[v, v2]).run P w = .ok r w' ∧ Ext m w m' w' ∧ Rel m' (fun x => bif Nat.beq x b then some (.own (rows.length + xs.length) i.size) else h x) w' ∧ VR m' (.acc b (rows ++ xs)) r := by
  have hr1 := hr.newOwn0 hb i.size
  obtain ⟨a, rfl, hd⟩ : ∃ a, v = .slice a rows.length rows.length ∧ DR m.K (.lst rows) (.slice a rows.length rows.length) := by
    cases hv with
    | data _ _ hd => cases hd
    | cap _ a hd => exact ⟨a, rfl, hd⟩
  cases hx with
  | none a c ha => simp at h0
  | lst _ B2 o2 c2 sz2 ks2 hk2 h02 hc2 hl2 hr2 hd2 =>
  have hx0 : DR m.K (.lst xs) (.slice (some ⟨B2, o2, none⟩) xs.length c2) := .lst xs B2 o2 c2 sz2 ks2 hk2 h02 hc2 hl2 hr2 hd2
  obtain ⟨kx, q1, q2, q3, q4⟩ := rows_of hallx h02 hx0
  rw [hk2] at q1; cases q1
  obtain ⟨news, hnews⟩ : ∃ news, news = (ks2.drop o2).take (xs.length * i.size) := ⟨_, rfl⟩
  rw [← hnews] at q4
  have hnl : news.length = xs.length * i.size := q4.len
  have cell : ∀ {B o : Nat} {ks : List Value} {n : Nat}, m.K B = some ks → ∀ j u, ((ks.drop o).take n)[j]? = some u → w.cell? ((⟨B, o, none⟩ : Addr).add j) = some u := by
    intro B o ks n hk j u hj
    rw [Addr.add_lit]
    rw [List.getElem?_take] at hj
    split at hj
    · rw [List.getElem?_drop] at hj; exact fro_cell hr hk hj
    · cases hj
  have hncell : ∀ j u, news[j]? = some u → w.cell? ((⟨B2, o2, none⟩ : Addr).add j) = some u := by rw [hnews]; exact cell hk2
  obtain ⟨olds, hR, hrun⟩ : ∃ olds, Rows m.K i.size rows olds ∧ ∃ cap, (Builtin.append_ #[t, t'] ty #[.slice a rows.length rows.length, .slice (some ⟨B2, o2, none⟩) xs.length c2]).run P w =
      .ok (.slice (some ⟨w.heap.size, 0, none⟩) (rows.length + xs.length) (grownCap w (rows.length + xs.length) cap e)) (w.drew.alloc (.cells (olds.toArray ++ news.toArray ++ Builtin.zeroCells z.cells (grownCap w (rows.length + xs.length) cap e - (rows.length + xs.length))) e)) := by
    have hr0 : Rows m.K i.size [] [] := ⟨by simp, fun j row hj => by simp at hj, fun j row hj => by simp at hj⟩
    have hfit := growslice_fits (need := rows.length + xs.length) (old := rows.length) (bytes := i.bytes) (by omega) hf1
    cases hd with
    | none a c ha =>
      cases a with
      | none =>
        have := Go.Ab.run_app_nil (w := w) t t' ty e d i z ht ht' hi hz ⟨B2, o2, none⟩ xs.length c2 news hnl hncell h02 (by omega) (by simp at hf1; omega)
        exact ⟨[], hr0, 0, by simpa using this⟩
      | some a =>
        have := Go.Ab.run_app_grow (w := w) t t' ty e d i z ht ht' hi hz a 0 0 [] (by simp) (by simp) ⟨B2, o2, none⟩ xs.length c2 news hnl hncell (by omega) (by omega) (by simpa using hfit)
        exact ⟨[], hr0, 0, by simpa using this⟩
    | lst _ B o c sz ks hk h1 hc hl hr' hd' =>
      have hd0 : DR m.K (.lst rows) (.slice (some ⟨B, o, none⟩) rows.length rows.length) := .lst rows B o _ sz ks hk h1 hc hl hr' hd'
      obtain ⟨ks', g1, g2, g3, g4⟩ := rows_of hall h1 hd0
      rw [hk] at g1; cases g1
      exact ⟨_, g4, rows.length, Go.Ab.run_app_grow (w := w) t t' ty e d i z ht ht' hi hz ⟨B, o, none⟩ rows.length rows.length _ g4.len (cell hk) ⟨B2, o2, none⟩ xs.length c2 news hnl hncell (by omega) (by omega) hfit⟩
  obtain ⟨cap, hrun⟩ := hrun
  have hRR := hR.append q4
  have hn' : 0 < (rows ++ xs).length := by simp; omega
  have hge := grownCap_ge w (rows.length + xs.length) cap e
  obtain ⟨W, hW⟩ : ∃ W, W = w.drew.alloc (.cells (olds.toArray ++ news.toArray ++ Builtin.zeroCells z.cells (grownCap w (rows.length + xs.length) cap e - (rows.length + xs.length))) e) := ⟨_, rfl⟩
  have hcell : W.heap[w.heap.size]? = some (.cells (olds.toArray ++ news.toArray ++ Builtin.zeroCells z.cells (grownCap w (rows.length + xs.length) cap e - (rows.length + xs.length))) e (0, 0)) := by rw [hW]; exact heap_alloc_new w.drew _
  have hsz : (olds.toArray ++ news.toArray ++ Builtin.zeroCells z.cells (grownCap w (rows.length + xs.length) cap e - (rows.length + xs.length))).size = grownCap w (rows.length + xs.length) cap e * i.size := by
    rw [Array.size_append, Array.size_append, wrapCells, hzs, List.size_toArray, List.size_toArray, hR.len, hnl, ← Nat.add_mul, ← Nat.add_mul]
    congr 1; omega
  obtain ⟨m', k1, k2, k3, k4, k5⟩ := hr1.grow (b := b) (n := 0) (e0 := i.size) (by simp [beq_if]) (w' := W) (B' := w.heap.size) (n' := rows.length + xs.length) (e := i.size) (t' := grownCap w (rows.length + xs.length) cap e * i.size) (ks' := olds ++ news)
    (.inl rfl) (by omega) (.inl (Nat.le_refl _)) hcell hsz (by simp) (by rw [List.length_append, hR.len, hnl, Nat.add_mul])
    (fun B _ hB => by rw [hW]; exact heap_alloc_old w.drew _ B hB) (by rw [hW]; simp) (by rw [hW]; rfl) (by rw [hW]; rfl) (fun a => by rw [hW]; exact Go.Ab.frozen_alloc w.drew _ (fun c t fr e => by cases e; rfl) a)
  refine ⟨_, W, m', by rw [hW]; exact hrun, k1, k2.congr fun x => ?_, ?_⟩
  · simp only [beq_if]; split <;> rfl
  · have := VR.acc (m := m') b (rows ++ xs) w.heap.size (grownCap w (rows.length + xs.length) cap e) w.heap.size (rows.length + xs.length) i.size _ k3 hn' (by simp) (fun _ => ⟨rfl, Nat.le_refl _⟩) ((hRR.mono k1.le.K).dr hn' k4 (List.prefix_refl _) (by simp; exact hge))
    rw [List.length_append] at this
    exact this
theorem Rows.flat {K : KK} {e : Nat} : ∀ {rows : List (List PV)} {ks : List Value}, Rows K e rows ks → DRs K rows.flatten ks
  | [], ks, h => by
    have := h.len
    simp at this; subst this; exact .nil
  | r :: rs, ks, h => by
    have hlen := h.len
    rw [List.length_cons, Nat.add_mul, Nat.one_mul] at hlen
    have h0 := h.rel 0 r rfl
    simp only [Nat.zero_mul, List.drop_zero] at h0
    have hr : Rows K e rs (ks.drop e) := ⟨by rw [List.length_drop]; omega, fun i row hi => h.row (i + 1) row (by simpa using hi), fun i row hi => by
      have := h.rel (i + 1) row (by simpa using hi)
      rw [List.drop_drop, show e + i * e = (i + 1) * e by rw [Nat.add_mul, Nat.one_mul, Nat.add_comm]]
      exact this⟩
    rw [List.flatten_cons, ← List.take_append_drop e ks]
    exact h0.append hr.flat
theorem news_of (hr : Rel m h w) {xs : List (List PV)} {sz : Nat} (hallx : ∀ row ∈ xs, row.length = sz) (hpos : 0 < sz) {v2 : Value} (hx : DR m.K (.lst xs) v2) (h0 : 0 < xs.length) :
    ∃ B2 o2 c2 news, v2 = .slice (some ⟨B2, o2, none⟩) xs.length c2 ∧ Rows m.K sz xs news ∧ (∀ j u, news[j]? = some u → w.cell? ((⟨B2, o2, none⟩ : Addr).add j) = some u) ∧ (∀ u ∈ news, u.oneCell' = true) := by
  cases hx with
  | none a c ha => simp at h0
  | lst _ B2 o2 c2 sz2 ks2 hk2 h02 hc2 hl2 hr2 hd2 =>
    have hx0 : DR m.K (.lst xs) (.slice (some ⟨B2, o2, none⟩) xs.length c2) := .lst xs B2 o2 c2 sz2 ks2 hk2 h02 hc2 hl2 hr2 hd2
    obtain ⟨kx, q1, q2, q3, q4⟩ := rows_of hallx h02 hx0
    rw [hk2] at q1; cases q1
    refine ⟨B2, o2, c2, _, rfl, q4, fun j u hj => ?_, q4.one hpos⟩
    rw [Addr.add_lit]
    rw [List.getElem?_take] at hj
    split at hj
    · rw [List.getElem?_drop] at hj; exact fro_cell hr hk2 hj
    · cases hj
theorem arrNew_sim (hr : Rel m h w) {t t' d e : TypeId} {i : TypeInfo} {z : Value} (ht : P.underlying t = some (.slice e)) (ht' : P.underlying t' = some (.slice d)) (hi : P.info? e = some i) (hz : i.zero = some z) (hzs : z.cells.size = i.size) (hpos : 0 < i.size)
    {b : Nat} {xs : List (List PV)} (hb : h b = none) (hallx : ∀ row ∈ xs, row.length = i.size) (h0 : 0 < xs.length) (hf1 : xs.length * i.bytes ≤ 140737488355328) (hf2 : xs.length ≤ 140737488355328) {v2 : Value} (hx : DR m.K (.lst xs) v2) (ty : TypeId) :
    ∃ r w' m', (Builtin.append_ #[t, t'] ty #[.slice none 0 0, v2]).run P w = .ok r w' ∧ Ext m w m' w' ∧ Rel m' (fun x => bif Nat.beq x b then some (.arr i.size xs.flatten) else h x) w' ∧ VR m' (.bsl b xs.length) r := by
  obtain ⟨B2, o2, c2, news, rfl, q4, hncell, hone⟩ := news_of hr hallx hpos hx h0
  have hnl : news.length = xs.length * i.size := q4.len
  have hrun := Go.Ab.run_app_nil (w := w) t t' ty e d i z ht ht' hi hz ⟨B2, o2, none⟩ xs.length c2 news hnl hncell h0 (by omega) (by omega)
  have hge := grownCap_ge w xs.length 0 e
  have hsz : (news.toArray ++ Builtin.zeroCells z.cells (grownCap w xs.length 0 e - xs.length)).size = grownCap w xs.length 0 e * i.size := by
    rw [Array.size_append, wrapCells, hzs, List.size_toArray, hnl, ← Nat.add_mul]
    congr 1; omega
  have hfl := q4.flat
  obtain ⟨m', k1, k2, k3, k4⟩ := (Rel.drew hr).newArr (e := i.size) (cs := xs.flatten) hb (news.toArray ++ Builtin.zeroCells z.cells (grownCap w xs.length 0 e - xs.length)) e (by
    have : (news.toArray ++ Builtin.zeroCells z.cells (grownCap w xs.length 0 e - xs.length)).toList.take xs.flatten.length = news := by
      rw [hfl.length]; simp
    rw [this]; exact DRs.vrs hfl)
  refine ⟨_, _, m', hrun, (Ext.drew m w).trans k1, k2, .bsl _ _ _ _ k3 hge ?_⟩
  rw [k4, hsz]
  exact Nat.le_refl _
theorem arrGrow_sim (hr : Rel m h w) {t t' d e : TypeId} {i : TypeInfo} {z : Value} (ht : P.underlying t = some (.slice e)) (ht' : P.underlying t' = some (.slice d)) (hi : P.info? e = some i) (hz : i.zero = some z) (hzs : z.cells.size = i.size) (hpos : 0 < i.size)
    {b b' n : Nat} {cs : List PV} {xs : List (List PV)} (hb : h b = some (.arr i.size cs)) (hb' : h b' = none) (hn : n * i.size ≤ cs.length) (hallx : ∀ row ∈ xs, row.length = i.size)
    (hf1 : (n + xs.length) * i.bytes ≤ 140737488355328) (hf2 : n + xs.length ≤ 140737488355328) {v v2 : Value} (hv : VR m (.bsl b n) v) (hx : DR m.K (.lst xs) v2) (ty : TypeId) :
    ∃ r w' m', (Builtin.append_ #[t, t'] ty #[v, v2]).run P w = .ok r w' ∧ Ext m w m' w' ∧
      Rel m' (fun x => bif Nat.beq x b' then some (.arr i.size (cs.take (n * i.size) ++ xs.flatten)) else bif Nat.beq x b then some .dead else h x) w' ∧ VR m' (.bsl b' (n + xs.length)) r := by
  cases hv with
  | data _ _ hd => cases hd
  | bsl _ _ B c hB hc hcs =>
    obtain ⟨B0, vs, ty', g1, g2, g3, g4⟩ := hr.arr b i.size cs hb
    rw [hB] at g1; cases g1
    rw [g2] at hcs
    have hcl : cs.length ≤ vs.toList.length := by
      have := g4.length; rw [List.length_take] at this; omega
    have hbb : b' ≠ b := by rintro rfl; rw [hb] at hb'; cases hb'
    have hold : VRs m (cs.take (n * i.size)) (vs.toList.take (n * i.size)) := by
      have := g4.take (n * i.size)
      rw [List.take_take, Nat.min_eq_left hn] at this
      exact this
    have holdl : (vs.toList.take (n * i.size)).length = n * i.size := by rw [List.length_take]; omega
    have hocell : ∀ j u, (vs.toList.take (n * i.size))[j]? = some u → w.cell? ((⟨B, 0, none⟩ : Addr).add j) = some u := by
      intro j u hj
      rw [Addr.add_lit, Nat.zero_add, cell_of_row w B j vs ty' (0, 0) g3, ← Array.getElem?_toList]
      rw [List.getElem?_take] at hj
      split at hj
      · exact hj
      · cases hj
    have relay : ∀ {w' : World} (hsame : ∀ k, k ≠ B → w'.heap[k]? = w.heap[k]?) (hsz : w'.heap.size = w.heap.size) (hos : w'.os = w.os) (hout : w'.output = w.output) (hfro : ∀ a, w'.frozen? a = w.frozen? a) {vs' : Array Value} (hvs : vs'.size = vs.size) (hw' : w'.heap[B]? = some (.cells vs' ty' (0, 0)))
        (hc' : VRs m (cs.take (n * i.size) ++ xs.flatten) (vs'.toList.take (cs.take (n * i.size) ++ xs.flatten).length)) (hle : n + xs.length ≤ c),
        ∃ m', Ext m w m' w' ∧ Rel m' (fun x => bif Nat.beq x b' then some (.arr i.size (cs.take (n * i.size) ++ xs.flatten)) else bif Nat.beq x b then some .dead else h x) w' ∧ VR m' (.bsl b' (n + xs.length)) (.slice (some ⟨B, 0, none⟩) (n + xs.length) c) := by
      intro w' hsame hsz hos hout hfro vs' hvs hw' hc' hle
      obtain ⟨e1, r1⟩ := hr.turnArr hb hB (cs := cs.take (n * i.size) ++ xs.flatten) (by rw [hvs]; exact g2) hw' hc' hsame hsz hos hout hfro
      have r2 := r1.kill (b := b) (o := .arr i.size (cs.take (n * i.size) ++ xs.flatten)) (by simp [beq_if]) rfl
      obtain ⟨m', l1, l2, l3, l4, l5, l6, l7, l8⟩ := r2.lay (b := b') (B := B) (e := i.size) (t := vs.size) (ob := .arr i.size (cs.take (n * i.size) ++ xs.flatten)) (by simp only [beq_if, if_neg hbb]; exact hb') rfl (by rw [hsz]; exact hr.blt b B hB)
        (fun x hx => by
          simp only [beq_if]
          by_cases cc : x = b
          · rw [if_pos cc]
          · rw [if_neg cc]
            by_cases hd : h x = some .dead
            · rw [if_neg cc]; exact hd
            · exact absurd (hr.bapart x b B hx hB hd (by rw [hb]; exact not_dead rfl)) cc)
        (hr.bK b B hB (by rw [hb]; exact not_dead rfl))
        (fun m' hle hb1 hb2 => ⟨B, vs', ty', hb1, by rw [hb2, hvs], hw', hc'.mono hle⟩)
      refine ⟨m', ⟨e1.le.trans l1, e1.size, fun x B' hx => ?_, fun x B' n' e' t'' hx => ?_, fun B' ks hk => ?_, e1.same, e1.os, e1.output, e1.frozen, l7⟩, l2.congr fun x => ?_, .bsl _ _ _ _ l3 hle (by rw [l4]; exact hcs)⟩
      · rcases l8 x B' hx with h1 | rfl
        · exact .inl ⟨x, h1⟩
        · exact .inl ⟨b, hB⟩
      · rw [l6] at hx; exact .inl ⟨x, _, _, _, hx⟩
      · rw [l5] at hk; exact .inr (.inl hk)
      · simp only [beq_if]
        by_cases cc : x = b
        · simp only [if_pos cc]
        · simp only [if_neg cc]
    rcases Nat.eq_zero_or_pos xs.length with h0 | h0
    ·
      have hxs : xs = [] := List.length_eq_zero_iff.1 h0
      subst hxs
      obtain ⟨a, ca, rfl, ha⟩ : ∃ a ca, v2 = .slice a 0 ca ∧ (a = none → ca = 0) := by
        cases hx with
        | none a ca ha => exact ⟨a, ca, rfl, ha⟩
        | lst _ _ _ _ _ _ _ hh => simp at hh
      have hv2 : Value.slice a 0 ca = .slice none 0 0 ∨ ∃ a' c', Value.slice a 0 ca = .slice (some a') 0 c' := by
        cases a with
        | none => rw [ha rfl]; exact .inl rfl
        | some a => exact .inr ⟨_, _, rfl⟩
      obtain ⟨m', k1, k2, k3⟩ := relay (w' := w) (fun _ _ => rfl) rfl rfl rfl (fun _ => rfl) (vs' := vs) rfl g3 (by
        simp only [List.flatten_nil, List.append_nil]
        rw [hold.length, holdl]; exact hold) (by simpa using hc)
      exact ⟨_, w, m', Go.Ab.run_app_none t t' ty e i d ht ht' hi _ _ _ _ rfl hc _ hv2 w, k1, k2, k3⟩
    obtain ⟨B2, o2, c2, news, rfl, q4, hncell, hone⟩ := news_of hr hallx hpos hx h0
    have hnl : news.length = xs.length * i.size := q4.len
    have hfl := q4.flat
    have hflen : xs.flatten.length = xs.length * i.size := by rw [hfl.length, hnl]
    have htl : (cs.take (n * i.size) ++ xs.flatten).length = n * i.size + xs.length * i.size := by rw [List.length_append, hold.length, holdl, hflen]
    by_cases hroom : n + xs.length ≤ c
    · have hmul : (n + xs.length) * i.size ≤ c * i.size := Nat.mul_le_mul_right _ hroom
      rw [Nat.add_mul] at hmul
      have htot : n * i.size + news.length ≤ vs.toList.length := by
        have h5 : c * i.size ≤ vs.size := hcs
        rw [hnl, Array.length_toList]; exact Nat.le_trans hmul h5
      have hst := run_storeCells_at (P := P) B (n * i.size) ty' news 0 vs w g3 (by simpa using htot) hone
      simp only [Nat.add_zero] at hst
      obtain ⟨x1, x2, x3, x4⟩ := setRow_facts w B vs (vs.toList.take (n * i.size) ++ news ++ vs.toList.drop (n * i.size + news.length)).toArray ty' g3
      have hrun := Go.Ab.run_app_room t t' ty e d i ht ht' hi B 0 n c ⟨B2, o2, none⟩ xs.length c2 news hnl hncell hroom (by rw [Nat.zero_add]; exact hst)
      obtain ⟨m', k1, k2, k3⟩ := relay (w' := w.setRow B (vs.toList.take (n * i.size) ++ news ++ vs.toList.drop (n * i.size + news.length)).toArray) (fun k hk => x2 k hk) x3 rfl rfl x4
        (vs' := (vs.toList.take (n * i.size) ++ news ++ vs.toList.drop (n * i.size + news.length)).toArray) (by rw [List.size_toArray, splice_length _ _ _ htot, Array.length_toList]) x1 (by
          rw [htl, List.append_assoc, ← List.append_assoc, ← hnl, List.take_left' (by rw [List.length_append, holdl])]
          exact hold.append (DRs.vrs hfl)) hroom
      exact ⟨_, _, m', hrun, k1, k2, k3⟩
    · have hgt : c < n + xs.length := by omega
      have hfit := growslice_fits (need := n + xs.length) (old := c) (bytes := i.bytes) hgt hf1
      have hrun := Go.Ab.run_app_grow (w := w) t t' ty e d i z ht ht' hi hz ⟨B, 0, none⟩ n c (vs.toList.take (n * i.size)) holdl hocell ⟨B2, o2, none⟩ xs.length c2 news hnl hncell hgt (by omega) hfit
      have hge := grownCap_ge w (n + xs.length) c e
      have hsz : ((vs.toList.take (n * i.size)).toArray ++ news.toArray ++ Builtin.zeroCells z.cells (grownCap w (n + xs.length) c e - (n + xs.length))).size = grownCap w (n + xs.length) c e * i.size := by
        rw [Array.size_append, Array.size_append, wrapCells, hzs, List.size_toArray, List.size_toArray, holdl, hnl, ← Nat.add_mul, ← Nat.add_mul]
        congr 1; omega
      obtain ⟨m', k1, k2, k3, k4⟩ := (Rel.drew (hr.kill hb rfl)).newArr (b := b') (e := i.size) (cs := cs.take (n * i.size) ++ xs.flatten) (by simp only [beq_if, if_neg hbb]; exact hb') ((vs.toList.take (n * i.size)).toArray ++ news.toArray ++ Builtin.zeroCells z.cells (grownCap w (n + xs.length) c e - (n + xs.length))) e (by
        have : ((vs.toList.take (n * i.size)).toArray ++ news.toArray ++ Builtin.zeroCells z.cells (grownCap w (n + xs.length) c e - (n + xs.length))).toList.take (cs.take (n * i.size) ++ xs.flatten).length = vs.toList.take (n * i.size) ++ news := by
          rw [htl, ← hnl]
          simp only [Array.toList_append]
          rw [List.take_left' (by rw [List.length_append, holdl])]
        rw [this]; exact hold.append (DRs.vrs hfl))
      refine ⟨_, _, m', hrun, (Ext.drew m w).trans k1, k2, .bsl _ _ _ _ k3 hge ?_⟩
      rw [k4, hsz]
      exact Nat.le_refl _
end
end Go.Vi
namespace Go.Vi
open Go.Ab (Fw and_true)
section
variable {P : Program} {m : J} {h : Nat → Option Obj} {w : World}
def FroK (K : KK) (w : World) : Prop := ∀ B ks, K B = some ks → ∃ vs ty fz, w.heap[B]? = some (.cells vs ty fz) ∧ ks <+: vs.toList
inductive Conts (K : KK) (w : World) : List Nat → List (List PV) → Prop
  | nil : Conts K w [] []
  | cons (B : Nat) (cs : List PV) (Bs : List Nat) (css : List (List PV)) (vs : Array Value) (ty : TypeId) : K B = none → w.heap[B]? = some (.cells vs ty (0, 0)) → DRs K cs vs.toList → Conts K w Bs css → Conts K w (B :: Bs) (cs :: css)
inductive AR (K : KK) (Bs : List Nat) : PV → Value → Prop
  | data (a : PV) (v : Value) : DR K a v → AR K Bs a v
  | agg (l : List PV) (l' : List Value) : DRs K l l' → AR K Bs (.agg l) (.agg l'.toArray)
  | ptr (i B : Nat) : Bs[i]? = some B → AR K Bs (.ptr i 0) (.pointer (some ⟨B, 0, none⟩))
inductive ARs (K : KK) (Bs : List Nat) : List PV → List Value → Prop
  | nil : ARs K Bs [] []
  | cons (a : PV) (v : Value) (l : List PV) (l' : List Value) : AR K Bs a v → ARs K Bs l l' → ARs K Bs (a :: l) (v :: l')
inductive R1 (K : KK) : PV → Value → Prop
  | data (a : PV) (v : Value) : DR K a v → R1 K a v
  | agg (l : List PV) (l' : List Value) : DRs K l l' → R1 K (.agg l) (.agg l'.toArray)
inductive R1s (K : KK) : List PV → List Value → Prop
  | nil : R1s K [] []
  | cons (a : PV) (v : Value) (l : List PV) (l' : List Value) : R1 K a v → R1s K l l' → R1s K (a :: l) (v :: l')
inductive RR (K : KK) (w : World) (base : Nat) : PV → Value → Prop
  | one (a : PV) (v : Value) : R1 K a v → RR K w base a v
  | tuple (l : List PV) (l' : List Value) : R1s K l l' → RR K w base (.tuple l) (.tuple l'.toArray)
  | own0 (e : Nat) : RR K w base (.acc e []) (.slice none 0 0)
  | own (rows : List (List PV)) (B e c : Nat) (ks : List Value) (vs : Array Value) (ty : TypeId) : base ≤ B → K B = some ks → Rows K e rows ks → 0 < rows.length → rows.length ≤ c → w.heap[B]? = some (.cells vs ty (0, 0)) → c * e ≤ vs.size →
      RR K w base (.acc e rows) (.slice (some ⟨B, 0, none⟩) rows.length c)
structure Came (K : KK) (w : World) (Bs : List Nat) (r : PV) (conts' : List (List PV)) (K' : KK) (v : Value) (w' : World) : Prop where
  le : Kle K K'
  fro : FroK K' w'
  old : ∀ B ks, K' B = some ks → B < w.heap.size → K B = some ks
  conts : Conts K' w' Bs conts'
  size : w.heap.size ≤ w'.heap.size
  same : ∀ B, B < w.heap.size → B ∉ Bs → w'.heap[B]? = w.heap[B]?
  os : w'.os = w.os
  output : w'.output = w.output
  frozen : ∀ a : Addr, a.block < w.heap.size → w'.frozen? a = w.frozen? a
  val : RR K' w' w.heap.size r v
def PC (P : Program) (f : FuncId) (args : List PV) (conts : List (List PV)) (r : PV) (conts' : List (List PV)) : Prop :=
  ∀ (K : KK) (w : World) (Bs : List Nat) (cargs : List Value), FroK K w → Conts K w Bs conts → Bs.Nodup → ARs K Bs args cargs →
    CallsIn Fence.wide 0 P f cargs.toArray w fun e w' => ∃ K' v, e = .returned v ∧ Came K w Bs r conts' K' v w'
def PV.arg1 : PV → Option PV
  | .agg l => match datas l with
    | some k => some (.agg k)
    | none => none
  | v => v.data
def toArgs : List PV → Nat → Option (List PV × List Nat)
  | [], _ => some ([], [])
  | .ptr b o :: r, k => bif Nat.beq o 0 then (match toArgs r (k + 1) with
      | some (as, bs) => some (.ptr k 0 :: as, b :: bs)
      | none => none) else none
  | v :: r, k => match v.arg1 with
    | some x => match toArgs r k with
      | some (as, bs) => some (x :: as, bs)
      | none => none
    | none => none
def getBoxes (st : St) : List Nat → Option (List (List PV))
  | [] => some []
  | b :: r => match st.heap b with
    | some (.box cs) => match datas cs with
      | some k => match getBoxes st r with
        | some l => some (k :: l)
        | none => none
      | none => none
    | _ => none
def setBoxes (st : St) : List Nat → List (List PV) → St
  | b :: bs, cs :: css => setBoxes (st.set b (.box cs)) bs css
  | _, _ => st
def place (r : PV) (st : St) : PV × St := match r with
  | .acc e rows => (.acc st.next rows, st.new (.own rows.length e))
  | v => (v, st)
def distinct : List Nat → Bool
  | [] => true
  | b :: r => !r.contains b && distinct r
structure CallR (P : Program) (f : FuncId) (vs : List PV) (st : St) (v : PV) (st' : St) (bs : List Nat) : Prop where
  mk ::
  ex : ∃ args conts r conts', toArgs vs 0 = some (args, bs) ∧ distinct bs = true ∧ getBoxes st bs = some conts ∧ conts'.length = bs.length ∧ PC P f args conts r conts' ∧ (v, st') = place r (setBoxes st bs conts')
theorem distinct_nodup : ∀ {l : List Nat}, distinct l = true → l.Nodup
  | [], _ => List.nodup_nil
  | b :: r, h => by
    simp only [distinct, Bool.and_eq_true, Bool.not_eq_true', List.contains_eq_mem, decide_eq_false_iff_not] at h
    exact List.nodup_cons.2 ⟨h.1, distinct_nodup h.2⟩
theorem arg1_rel {a x : PV} {v : Value} (hv : VR m a v) (h : a.arg1 = some x) (Bs : List Nat) : AR m.K Bs x v := by
  unfold PV.arg1 at h
  split at h
  · rename_i l
    split at h
    · rename_i k hk
      simp at h; subst h
      cases hv with
      | data _ _ hd => cases hd
      | agg _ l' hl => exact .agg _ _ (hl.toData hk)
    · cases h
  · exact .data _ _ (hv.toData h)
theorem getBoxes_rel (hr : Rel m h w) {st : St} (hst : st.heap = h) : ∀ {bs : List Nat} {conts : List (List PV)}, getBoxes st bs = some conts →
    ∃ Bs : List Nat, Conts m.K w Bs conts ∧ Bs.length = bs.length ∧ ∀ (i b : Nat), bs[i]? = some b → ∃ B : Nat, Bs[i]? = some B ∧ m.box b = some B
  | [], conts, h => by simp [getBoxes] at h; subst h; exact ⟨[], .nil, rfl, fun i b hb => by simp at hb⟩
  | b :: bs, conts, hg => by
    simp only [getBoxes] at hg
    split at hg
    · rename_i cs hb
      split at hg
      · rename_i k hk
        split at hg
        · rename_i l hl
          simp at hg; subst hg
          obtain ⟨Bs, h1, h2, h3⟩ := getBoxes_rel hr hst hl
          rw [hst] at hb
          obtain ⟨B, vs, ty, g1, g2, g3⟩ := hr.box b cs hb
          refine ⟨B :: Bs, .cons B k Bs l vs ty (hr.bK b B g1 (by rw [hb]; exact not_dead rfl)) g2 (g3.toData hk) h1, by simp [h2], fun i b' hb' => ?_⟩
          cases i with
          | zero => simp at hb'; subst hb'; exact ⟨B, rfl, g1⟩
          | succ i => simp at hb'; simpa using h3 i b' hb'
        · cases hg
      · cases hg
    · cases hg
theorem toArgs_rel {bs0 Bs : List Nat} (hB : ∀ (i b : Nat), bs0[i]? = some b → ∃ B : Nat, Bs[i]? = some B ∧ m.box b = some B) : ∀ {vs : List PV} {k : Nat} {args : List PV} {bs : List Nat} {cargs : List Value}, toArgs vs k = some (args, bs) → VRs m vs cargs →
    (∀ i b, bs[i]? = some b → bs0[k + i]? = some b) → ARs m.K Bs args cargs
  | [], k, args, bs, cargs, h, hv, _ => by
    simp [toArgs] at h; obtain ⟨rfl, rfl⟩ := h
    cases hv; exact .nil
  | v :: r, k, args, bs, cargs, h, hv, hbs => by
    cases hv with
    | cons _ u _ l' h1 h2 =>
      have gen : ∀ x, v.arg1 = some x → (match toArgs r k with
          | some (as, bs) => some (x :: as, bs)
          | none => none) = some (args, bs) → ARs m.K Bs args (u :: l') := by
        intro x hx h
        split at h
        · rename_i as bs' has
          simp at h; obtain ⟨rfl, rfl⟩ := h
          exact .cons _ _ _ _ (arg1_rel h1 hx Bs) (toArgs_rel hB has h2 hbs)
        · cases h
      cases v with
      | ptr b o =>
        simp only [toArgs] at h
        cases ho : Nat.beq o 0 with
        | false => simp [ho] at h
        | true =>
          simp only [ho, cond_true] at h
          have ho := Nat.eq_of_beq_eq_true ho
          subst ho
          split at h
          · rename_i as bs' has
            simp at h; obtain ⟨rfl, rfl⟩ := h
            have hk := hbs 0 b rfl
            rw [Nat.add_zero] at hk
            obtain ⟨B, g1, g2⟩ := hB k b hk
            cases h1 with
            | data _ _ hd => cases hd
            | ptr _ _ B' hm =>
              rw [g2] at hm; cases hm
              exact .cons _ _ _ _ (.ptr k B g1) (toArgs_rel hB has h2 fun i b' hb' => by
                have := hbs (i + 1) b' (by simpa using hb')
                rw [show k + 1 + i = k + (i + 1) by omega]; exact this)
          · cases h
      | _ =>
        simp only [toArgs] at h
        split at h
        · rename_i x hx
          exact gen x hx h
        · cases h
theorem Conts.get {K : KK} : ∀ {Bs : List Nat} {css : List (List PV)} {i B : Nat} {cs : List PV}, Conts K w Bs css → Bs[i]? = some B → css[i]? = some cs → K B = none ∧ ∃ vs ty, w.heap[B]? = some (.cells vs ty (0, 0)) ∧ DRs K cs vs.toList
  | _, _, i, B, cs, .nil, h1, _ => by simp at h1
  | _, _, i, B, cs, .cons B' cs' Bs css vs ty hK hw hd hr, h1, h2 => by
    cases i with
    | zero => simp at h1 h2; subst h1 h2; exact ⟨hK, vs, ty, hw, hd⟩
    | succ i => simp at h1 h2; exact hr.get h1 h2
theorem Conts.length {K : KK} : ∀ {Bs : List Nat} {css : List (List PV)}, Conts K w Bs css → Bs.length = css.length
  | _, _, .nil => rfl
  | _, _, .cons _ _ _ _ _ _ _ _ _ hr => by simp [hr.length]
theorem setBoxes_heap : ∀ {bs : List Nat} {css : List (List PV)} {st : St}, bs.Nodup → css.length = bs.length → ∀ b, (setBoxes st bs css).heap b = (match bs.idxOf? b with
    | some i => (css[i]?).map Obj.box
    | none => st.heap b)
  | [], css, st, _, _, b => by simp [setBoxes]
  | b0 :: bs, [], st, _, hl, b => by simp at hl
  | b0 :: bs, cs :: css, st, hn, hl, b => by
    obtain ⟨hn1, hn2⟩ := List.nodup_cons.1 hn
    simp only [setBoxes]
    rw [setBoxes_heap hn2 (by simpa using hl)]
    simp only [List.idxOf?_cons, St.set]
    by_cases c : b = b0
    · subst c
      have : bs.idxOf? b = none := by
        rw [List.idxOf?_eq_none_iff]; exact hn1
      rw [this]
      simp
    · have c' : (b0 == b) = false := by simpa using Ne.symm c
      rw [c']
      simp only [Bool.false_eq_true, if_false]
      cases hi : bs.idxOf? b with
      | none => simp [beq_if, c]
      | some i => simp
theorem setBoxes_next : ∀ {bs : List Nat} {css : List (List PV)} {st : St}, (setBoxes st bs css).next = st.next
  | [], _, _ => rfl
  | _ :: _, [], _ => rfl
  | _ :: bs, _ :: css, st => by simp only [setBoxes]; rw [setBoxes_next]; rfl
theorem getBoxes_live {st : St} : ∀ {bs : List Nat} {l : List (List PV)}, getBoxes st bs = some l → ∀ b, b ∈ bs → ∃ cs, st.heap b = some (.box cs)
  | [], _, _, b, hb => by simp at hb
  | b0 :: bs, l, h, b, hb => by
    simp only [getBoxes] at h
    split at h
    · rename_i cs hcs
      split at h
      · split at h
        · rename_i l' hl
          rcases List.mem_cons.1 hb with rfl | hb
          · exact ⟨cs, hcs⟩
          · exact getBoxes_live hl b hb
        · cases h
      · cases h
    · cases h
theorem Rel.came (hr : Rel m h w) {bs Bs : List Nat} {conts' : List (List PV)} {K' : KK} {v : Value} {w' : World} {r : PV} (hc : Came m.K w Bs r conts' K' v w') (hB : ∀ (i b : Nat), bs[i]? = some b → ∃ B : Nat, Bs[i]? = some B ∧ m.box b = some B) (hl : Bs.length = bs.length) (hlive : ∀ b, b ∈ bs → ∃ cs, h b = some (.box cs))
    {st st' : St} (hst : st.heap = h) (hst' : st' = setBoxes st bs conts') (hnd : bs.Nodup) (hcl : conts'.length = bs.length) : Ext m w { m with K := K' } w' ∧ Rel { m with K := K' } st'.heap w' := by
  subst hst hst'
  have hle : m.le { m with K := K' } := ⟨fun _ _ h => h, hc.le, fun b B n e t h => ⟨B, n, t, h, Nat.le_refl _, fun _ => ⟨rfl, rfl⟩⟩, fun _ _ _ => rfl⟩
  have hnd' : ∀ b, b ∈ bs → st.heap b ≠ some .dead := fun b hb => by
    obtain ⟨cs, h1⟩ := hlive b hb
    rw [h1]; exact not_dead rfl
  have hBs : ∀ B, B ∈ Bs → ∃ b, b ∈ bs ∧ m.box b = some B := by
    intro B hB'
    obtain ⟨i, hi⟩ := List.getElem?_of_mem hB'
    have hlt := (List.getElem?_eq_some_iff.1 hi).1
    obtain ⟨b, hb⟩ : ∃ b, bs[i]? = some b := ⟨bs[i]'(by omega), by rw [List.getElem?_eq_getElem]⟩
    obtain ⟨B', h1, h2⟩ := hB i b hb
    rw [hi] at h1; cases h1
    exact ⟨b, List.mem_of_getElem? hb, h2⟩
  have hKo : ∀ b B n e t, m.own b = some (B, n, e, t) → B ∉ Bs := by
    intro b B n e t ho hmem
    obtain ⟨b', hbm, hb'⟩ := hBs B hmem
    obtain ⟨n', e', hh⟩ := hr.odom b _ ho
    rcases hr.own b n' e' hh with ⟨_, h1⟩ | ⟨_, B2, t2, h1, ks, h2, _⟩
    · rw [ho] at h1; cases h1
    · rw [ho] at h1; cases h1
      rw [hr.bK b' _ hb' (hnd' b' hbm)] at h2; cases h2
  have hnone : ∀ b B, m.box b = some B → st.heap b ≠ some .dead → K' B = none := by
    intro b B hb hd
    cases hk : K' B with
    | none => rfl
    | some ks =>
      have := hc.old B ks hk (hr.lt_box hb)
      rw [hr.bK b B hb hd] at this; cases this
  have hdead : ∀ b, (setBoxes st bs conts').heap b ≠ some .dead → st.heap b ≠ some .dead := fun b hd hh => by
    rw [setBoxes_heap hnd hcl] at hd
    cases hi : bs.idxOf? b with
    | none => rw [hi] at hd; exact hd hh
    | some i =>
      have hbi : b ∈ bs := by
        have := List.findIdx?_eq_some_iff_getElem.1 (by simpa [List.idxOf?] using hi)
        obtain ⟨hlt, heq, _⟩ := this
        have : bs[i] = b := by simpa using heq
        rw [← this]; exact List.getElem_mem _
      exact hnd' b hbi hh
  have henv : ∀ B o, m.env B = some o → B ∉ Bs := by
    intro B o ho hmem
    obtain ⟨b', hbm, hb'⟩ := hBs B hmem
    obtain ⟨cs, hcs⟩ := hlive b' hbm
    obtain ⟨B2, vs, ty, h1, h2, _⟩ := hr.box b' cs hcs
    rw [hb'] at h1; cases h1
    obtain ⟨h3, h4, _⟩ := hr.env B o ho
    rw [h2] at h3; cases h3; cases h4
  refine ⟨⟨hle, hc.size, fun b _ h => .inl ⟨b, h⟩, fun b B n e t h => .inl ⟨b, n, e, t, h⟩, fun B ks hk => ?_, fun B hlt hn => ?_, hc.os, hc.output, hc.frozen, rfl⟩, ⟨fun b o hb => ?_, fun B o ho => ?_, fun b n e hb => ?_, hc.fro, fun b B hb => ?_, fun b x hb => ?_, fun b b' B h1 h2 d d' => hr.bapart b b' B h1 h2 (hdead b d) (hdead b' d'), hr.oapart, fun b B hb d => hnone b B hb (hdead b d), fun b B hb => Nat.lt_of_lt_of_le (hr.blt b B hb) hc.size⟩⟩
  · by_cases c : B < w.heap.size
    · exact .inr (.inl (hc.old B ks hk c))
    · exact .inr (.inr (by omega))
  · refine hc.same B hlt fun hmem => hn ?_
    obtain ⟨b, _, hb⟩ := hBs B hmem
    exact .inl ⟨b, hb⟩
  · rw [setBoxes_heap hnd hcl] at hb
    cases hi : bs.idxOf? b with
    | none =>
      rw [hi] at hb
      refine (hr.obj b o hb).keep hle fun hd B h1 => hc.same B (hr.lt_box h1) fun hmem => ?_
      obtain ⟨b', hm', hb'⟩ := hBs B hmem
      have hb2 : st.heap b = some o := hb
      have := hr.bapart b b' B h1 hb' (by rw [hb2]; exact not_dead hd) (hnd' b' hm')
      subst this
      rw [List.idxOf?_eq_none_iff] at hi
      exact hi hm'
    | some i =>
      rw [hi] at hb
      simp only [Option.map_eq_some_iff] at hb
      obtain ⟨cs', h1, rfl⟩ := hb
      have hbi : bs[i]? = some b := by
        have := List.findIdx?_eq_some_iff_getElem.1 (by simpa [List.idxOf?] using hi)
        obtain ⟨hlt, heq, _⟩ := this
        rw [List.getElem?_eq_getElem hlt]
        simpa using heq
      obtain ⟨B, g1, g2⟩ := hB i b hbi
      obtain ⟨_, vs, ty, k1, k2⟩ := hc.conts.get g1 h1
      exact ⟨B, vs, ty, g2, k1, DRs.vrs (m := { m with K := K' }) k2⟩
  · obtain ⟨h1, h2⟩ := hr.env B o ho
    exact ⟨(hc.same B (Array.getElem?_eq_some_iff.1 h1).1 (henv B o ho)).trans h1, h2⟩
  · have hb' : st.heap b = some (.own n e) := by
      rw [setBoxes_heap hnd hcl] at hb
      cases hi : bs.idxOf? b with
      | none => rw [hi] at hb; exact hb
      | some i => rw [hi] at hb; simp at hb
    rcases hr.own b n e hb' with h1 | ⟨h0, B, t, h1, ks, h2, h3, vs, ty, h4, h5⟩
    · exact .inl h1
    · obtain ⟨ks', g1, g2⟩ := hc.le B ks h2
      have := hc.old B ks' g1 (hr.lt_own h1)
      rw [h2] at this; cases this
      exact .inr ⟨h0, B, t, h1, ks, g1, h3, vs, ty, by rw [hc.same B (hr.lt_own h1) (hKo b B n e t h1)]; exact h4, h5⟩
  · obtain ⟨cs, hcs⟩ := hr.bdom b B hb
    rw [setBoxes_heap hnd hcl]
    cases hi : bs.idxOf? b with
    | none => exact ⟨cs, hcs⟩
    | some i =>
      have hlt : i < bs.length := by
        have := List.findIdx?_eq_some_iff_getElem.1 (by simpa [List.idxOf?] using hi)
        exact this.1
      exact ⟨.box (conts'[i]'(by omega)), by simp [List.getElem?_eq_getElem (show i < conts'.length by omega)], rfl⟩
  · obtain ⟨n, e, hcs⟩ := hr.odom b x hb
    refine ⟨n, e, ?_⟩
    rw [setBoxes_heap hnd hcl]
    cases hi : bs.idxOf? b with
    | none => exact hcs
    | some i =>
      have hbi : bs[i]? = some b := by
        have := List.findIdx?_eq_some_iff_getElem.1 (by simpa [List.idxOf?] using hi)
        obtain ⟨hlt, heq, _⟩ := this
        rw [List.getElem?_eq_getElem hlt]
        simpa using heq
      obtain ⟨B, g1, g2⟩ := hB i b hbi
      obtain ⟨o, hcs', hno⟩ := hr.bdom b B g2
      rw [hcs] at hcs'; cases hcs'; cases hno
theorem Rel.adopt (hr : Rel m h w) {b : Nat} (hb : h b = none) {B n e t : Nat} {ks : List Value} {vs : Array Value} {ty : TypeId} (hk : m.K B = some ks) (hn : 0 < n) (hl : ks.length = n * e) (hw : w.heap[B]? = some (.cells vs ty (0, 0))) (ht : vs.size = t) (hi : ¬ m.img B) :
    m.le { m with own := fun x => if x = b then some (B, n, e, t) else m.own x } ∧ Rel { m with own := fun x => if x = b then some (B, n, e, t) else m.own x } (fun x => bif Nat.beq x b then some (.own n e) else h x) w ∧
      (∀ x B' n' e' t', (if x = b then some (B, n, e, t) else m.own x) = some (B', n', e', t') → m.own x = some (B', n', e', t') ∨ B' = B) := by
  have hle : m.le { m with own := fun x => if x = b then some (B, n, e, t) else m.own x } := ⟨fun _ _ h => h, Kle.refl _, fun x B' n' e' t' hx => ⟨B', n', t', by
    show (if _ then _ else _) = _
    rw [if_neg (by rintro rfl; rw [hr.free_own hb] at hx; cases hx)]; exact hx, Nat.le_refl _, fun _ => ⟨rfl, rfl⟩⟩, fun _ _ _ => rfl⟩
  have hne : ∀ x B', m.box x = some B' → x ≠ b := by rintro x B' hx rfl; rw [hr.free_box hb] at hx; cases hx
  have hcase : ∀ x y, (if x = b then some (B, n, e, t) else m.own x) = some y → (x = b ∧ y = (B, n, e, t)) ∨ (x ≠ b ∧ m.own x = some y) := by
    intro x y hx
    by_cases c : x = b
    · rw [if_pos c] at hx; cases hx; exact .inl ⟨c, rfl⟩
    · rw [if_neg c] at hx; exact .inr ⟨c, hx⟩
  refine ⟨hle, Rel.congr (h := fun x => if x = b then some (.own n e) else h x) ⟨fun x o hx => ?_, hr.env, fun x k e' hx => ?_, hr.fro, fun x B' hx => ?_, fun x y hx => ?_, fun x x' B' hx hx' d d' => ?_, fun x x' B' n1 e1 t1 n2 e2 t2 hx hx' => ?_, fun x B' hx d => ?_, hr.blt⟩ (fun x => beq_if ..), fun x B' n' e' t' hx => ?_⟩
  · by_cases c : x = b
    · rw [if_pos c] at hx; cases hx; trivial
    · rw [if_neg c] at hx
      exact (hr.obj x o hx).keep hle fun _ _ _ => rfl
  · by_cases c : x = b
    · rw [if_pos c] at hx; cases hx
      exact .inr ⟨hn, B, t, by show (if _ then _ else _) = _; rw [if_pos c], ks, hk, hl, vs, ty, hw, ht⟩
    · rw [if_neg c] at hx
      rcases hr.own x k e' hx with ⟨h1, h2⟩ | ⟨h0, B', t', h1, h2⟩
      · exact .inl ⟨h1, by show (if _ then _ else _) = _; rw [if_neg c]; exact h2⟩
      · exact .inr ⟨h0, B', t', by show (if _ then _ else _) = _; rw [if_neg c]; exact h1, h2⟩
  · obtain ⟨cs, hcs⟩ := hr.bdom x B' hx
    exact ⟨cs, by rw [if_neg (hne x B' hx)]; exact hcs⟩
  · rcases hcase x y hx with ⟨c, _⟩ | ⟨c, h1⟩
    · exact ⟨n, e, by rw [if_pos c]⟩
    · obtain ⟨k, e1, hc⟩ := hr.odom x y h1
      exact ⟨k, e1, by rw [if_neg c]; exact hc⟩
  · rw [if_neg (hne x B' hx)] at d; rw [if_neg (hne x' B' hx')] at d'
    exact hr.bapart x x' B' hx hx' d d'
  · rcases hcase x _ hx with ⟨c, h1⟩ | ⟨c, h1⟩ <;> rcases hcase x' _ hx' with ⟨c', h2⟩ | ⟨c', h2⟩
    · rw [c, c']
    · cases h1; exact absurd (.inr ⟨x', _, _, _, h2⟩) hi
    · cases h2; exact absurd (.inr ⟨x, _, _, _, h1⟩) hi
    · exact hr.oapart x x' B' _ _ _ _ _ _ h1 h2
  · rw [if_neg (hne x B' hx)] at d
    exact hr.bK x B' hx d
  · rcases hcase x _ hx with ⟨_, h1⟩ | ⟨_, h1⟩
    · cases h1; exact .inr rfl
    · exact .inl h1
end
end Go.Vi
namespace Go.Vi
open Go.Ab (szOf bytesOf isAggO sliceElem fieldO szOf_some bytesOf_some run_sizeOf' sliceElem_some fieldO_some run_isAgg' splice_get splice_length setRow_facts Fw exec_val exec_unit map_toList_toArray and_true)
section
variable {P : Program} {m : J} {h : Nat → Option Obj} {w : World}
def NextOk (P : Program) (ro : Option Nat) (m : J) (w : World) (h' : Nat → Option Obj) (y : PV) (r : Result Next) : Prop :=
  ∀ (o : Oper) (a : Act) (K : Act → World → Prop) (Q : Exit → Act → World → Prop),
    (∀ m' v' w', Ext m w m' w' → Rel m' h' w' → VR m' y v' → K (a.put o.dst v') w') → o.uponIn (Fw ro) 0 P a K Q r
theorem nextOk_value {ro : Option Nat} {h' : Nat → Option Obj} {y : PV} {v : Value} {w' : World} {m' : J} (h1 : Ext m w m' w') (h2 : Rel m' h' w') (h3 : VR m' y v) :
    NextOk P ro m w h' y (.ok (.value v) w') := fun _ _ _ _ hK => hK _ _ _ h1 h2 h3
theorem nextOk_skip {ro : Option Nat} {h' : Nat → Option Obj} {w' : World} {m' : J} (h1 : Ext m w m' w') (h2 : Rel m' h' w') :
    NextOk P ro m w h' .undef (.ok .skip w') := fun _ _ _ _ hK => hK _ _ _ h1 h2 (.tuple [] [] .nil)
theorem vrs1 {a : PV} {v : Value} (h : VRs m [a] [v]) : VR m a v := by cases h with | cons _ _ _ _ h1 _ => exact h1
theorem vrs2 {a b : PV} {u v : Value} (h : VRs m [a, b] [u, v]) : VR m a u ∧ VR m b v := by
  cases h with | cons _ _ _ _ h1 h2 => cases h2 with | cons _ _ _ _ h3 _ => exact ⟨h1, h3⟩
theorem vrs3 {a b c : PV} {u v x : Value} (h : VRs m [a, b, c] [u, v, x]) : VR m a u ∧ VR m b v ∧ VR m c x := by
  cases h with | cons _ _ _ _ h1 h2 => exact ⟨h1, vrs2 h2⟩
theorem zip_rels {ρ : Operand → Value} : ∀ {parts : List (Nat × Operand)} {vs : List PV}, VRs m vs (parts.map fun p => ρ p.2) → PRels m (zipPartsP parts vs) (parts.map fun (i, x) => (i, ρ x))
  | [], vs, h => by cases h; trivial
  | (i, o) :: r, vs, h => by
    cases h with
    | cons a v l l' h1 h2 => exact ⟨rfl, h1, zip_rels h2⟩
theorem zip_solid : ∀ {parts : List (Nat × Operand)} {vs : List PV}, vs.all PV.solid = true → ∀ p ∈ zipPartsP parts vs, p.2 ≠ .gone
  | [], _, _, p, hp => by simp [zipPartsP] at hp
  | _ :: _, [], _, p, hp => by simp [zipPartsP] at hp
  | (i, o) :: r, v :: vs, h, p, hp => by
    simp only [List.all_cons, Bool.and_eq_true] at h
    simp only [zipPartsP, List.mem_cons] at hp
    rcases hp with rfl | hp
    · intro e; simp only at e; rw [e] at h; exact absurd h.1 (by decide)
    · exact zip_solid h.2 p hp
theorem takeOpt_some {ρ : Operand → Value} {o : Option Operand} {l : List PV} {rest : List Value} (h : VRs m l ((o.map ρ).toList ++ rest)) {n : Option Nat} {r : List PV} (ht : takeOptP o l = some (n, r)) :
    Go.Ab.ORelNat n (o.map ρ) ∧ VRs m r rest := by
  cases o with
  | none =>
    simp only [takeOptP, Option.some.injEq, Prod.mk.injEq] at ht
    obtain ⟨rfl, rfl⟩ := ht
    exact ⟨trivial, h⟩
  | some x =>
    simp only [takeOptP] at ht
    split at ht
    · rename_i a r'
      split at ht
      · rename_i k hk
        simp only [Option.some.injEq, Prod.mk.injEq] at ht
        obtain ⟨rfl, rfl⟩ := ht
        cases h with
        | cons _ v _ l' h1 h2 =>
          exact ⟨by obtain ⟨q, hq⟩ := natOf_some hk h1; exact ⟨q, hq⟩, h2⟩
      · cases ht
    · cases ht
theorem val_ok {ro : Option Nat} {st st' : St} (hr : Rel m st.heap w) {x : Option PV} {q : Req} (hq : (match x with | some v => some (.val v) | none => none) = some q) {y : PV} (hrun : q.run st = some (y, st')) {ρ : Operand → Value} {o : Oper} {c : Sem Value}
    (he : execOp ρ o = (do pure (.value (← c)))) (hc : ∀ y, x = some y → ∃ v, c.run P w = .ok v w ∧ VR m y v) : NextOk P ro m w st'.heap y ((execOp ρ o).run P w) := by
  cases x with
  | none => cases hq
  | some v =>
    simp at hq; subst hq
    simp [Req.run] at hrun
    obtain ⟨rfl, rfl⟩ := hrun
    obtain ⟨v', h1, h2⟩ := hc _ rfl
    rw [exec_val he h1]
    exact nextOk_value (Ext.refl m w) hr h2
theorem box_ok (hr : Rel m h w) {b : Nat} (hb : h b = none) {cs : List PV} {vs : Array Value} (hc : VRs m cs vs.toList) (e : TypeId) :
    ∃ m', Ext m w m' (w.alloc (.cells vs e)) ∧ Rel m' (fun x => bif Nat.beq x b then some (.box cs) else h x) (w.alloc (.cells vs e)) ∧ VR m' (.ptr b 0) (.pointer (some ⟨w.heap.size, 0, none⟩)) := by
  obtain ⟨m', h1, h2, h3⟩ := hr.newBox hb vs e hc
  exact ⟨m', h1, h2, .ptr _ _ _ h3⟩
theorem load_ok (hr : Rel m h w) {t : TypeId} {a : PV} {v : Value} (ha : VR m a v) {q : Req} (hq : loadQ P t a = some q) {st st' : St} (hst : st.heap = h) {y : PV} (hrun : q.run st = some (y, st')) :
    st' = st ∧ ∃ v', (Instr.loadAt t v).run P w = .ok v' w ∧ VR m y v' := by
  unfold loadQ at hq
  split at hq
  · rename_i b o
    simp at hq; subst hq
    simp only [Req.run] at hrun
    split at hrun
    · rename_i cs hcs
      split at hrun
      · rename_i x hx
        simp at hrun; obtain ⟨rfl, rfl⟩ := hrun
        cases ha with
        | data _ _ hd => cases hd
        | ptr _ _ B hB =>
          rw [hst] at hcs
          obtain ⟨B', vs, ty, h1, h2, h3⟩ := hr.box b cs hcs
          rw [hB] at h1; cases h1
          have := cut_sim (P := P) (w := w) hx h3 (B := B) (base := 0) (fun j u hj => by
            rw [Nat.zero_add, cell_of_row w B j vs ty (0, 0) h2, ← Array.getElem?_toList]; exact hj)
          rw [Nat.zero_add] at this
          exact ⟨rfl, this⟩
      · cases hrun
    · rename_i e cs hcs
      split at hrun
      · rename_i x hx
        simp at hrun; obtain ⟨rfl, rfl⟩ := hrun
        cases ha with
        | data _ _ hd => cases hd
        | ptr _ _ B hB =>
          rw [hst] at hcs
          obtain ⟨B', vs, ty, h1, _, h2, h3⟩ := hr.arr b e cs hcs
          rw [hB] at h1; cases h1
          have := cut_sim (P := P) (w := w) hx h3 (B := B) (base := 0) (fun j u hj => by
            rw [Nat.zero_add, cell_of_row w B j vs ty (0, 0) h2, ← Array.getElem?_toList]
            rw [List.getElem?_take] at hj
            split at hj
            · exact hj
            · cases hj)
          rw [Nat.zero_add] at this
          exact ⟨rfl, this⟩
      · cases hrun
    · cases hrun
  · rename_i row o
    split at hq
    · rename_i x hx
      simp at hq; subst hq
      simp [Req.run] at hrun; obtain ⟨rfl, rfl⟩ := hrun
      cases ha with
      | data _ _ hd => cases hd
      | eptr _ _ B base ks hk hl hd =>
        refine ⟨rfl, cut_sim (P := P) (w := w) hx hd.vrs (B := B) (base := base) (fun j u hj => ?_)⟩
        rw [List.getElem?_take] at hj
        split at hj
        · rw [List.getElem?_drop] at hj; exact fro_cell hr hk hj
        · cases hj
    · cases hq
  · cases hq
theorem store_ok (hr : Rel m h w) {t : TypeId} {a x : PV} {v u : Value} (ha : VR m a v) (hx : VR m x u) {q : Req} (hq : storeQ P t x a = some q) {st st' : St} (hst : st.heap = h) {y : PV} (hrun : q.run st = some (y, st')) :
    ∃ w', (Instr.storeAt t v u).run P w = .ok () w' ∧ Ext m w m w' ∧ Rel m st'.heap w' ∧ y = .undef := by
  unfold storeQ at hq
  split at hq
  · rename_i b o
    split at hq
    · rename_i n hs
      cases hc : Nat.beq x.cells.length n && x.cells.all PV.scalar with
      | false => simp [hc] at hq
      | true =>
        simp only [hc, cond_true, Option.some.injEq] at hq; subst hq
        obtain ⟨hc1, hc2⟩ := and_true hc
        have hc1 := Nat.eq_of_beq_eq_true hc1
        simp only [Req.run] at hrun
        split at hrun
        · rename_i cs hcs
          split at hrun
          · rename_i cs' hcs'
            simp at hrun; obtain ⟨rfl, rfl⟩ := hrun
            cases ha with
            | data _ _ hd => cases hd
            | ptr _ _ B hB =>
              rw [hst] at hcs
              obtain ⟨B', vs, ty, h1, h2, h3⟩ := hr.box b cs hcs
              rw [hB] at h1; cases h1
              have hxg : x ≠ .gone := by
                rintro rfl
                simp [PV.cells, PV.scalar] at hc2
              have hxc := hx.cells hxg
              obtain ⟨g1, g2⟩ := splice_rel hcs' h3 hxc
              have hst2 := run_storeCells_at (P := P) B o ty u.cells.toList 0 vs w h2 (by simpa using g1) (all_scalar hxc hc2)
              simp only [Nat.add_zero] at hst2
              obtain ⟨x1, x2, x3, x4⟩ := setRow_facts w B vs (vs.toList.take o ++ u.cells.toList ++ vs.toList.drop (o + u.cells.toList.length)).toArray ty h2
              have hsz : u.cells.size = n := by
                have := hxc.length
                rw [hc1] at this
                simpa using this.symm
              obtain ⟨k1, k2⟩ := hr.turnBox hcs hB (w' := w.setRow B (vs.toList.take o ++ u.cells.toList ++ vs.toList.drop (o + u.cells.toList.length)).toArray) (cs := cs') x1 (by simpa using g2) x2 x3 rfl rfl x4
              refine ⟨_, by simp [Instr.storeAt, Instr.sureAddr, storeVar, run_sizeOf' hs, hsz, hst2], k1, k2.congr fun z => ?_, rfl⟩
              simp only [St.set, hst]
          · cases hrun
        · rename_i e cs hcs
          split at hrun
          · rename_i cs' hcs'
            simp at hrun; obtain ⟨rfl, rfl⟩ := hrun
            cases ha with
            | data _ _ hd => cases hd
            | ptr _ _ B hB =>
              rw [hst] at hcs
              obtain ⟨B', vs, ty, h1, h0, h2, h3⟩ := hr.arr b e cs hcs
              rw [hB] at h1; cases h1
              have hxg : x ≠ .gone := by
                rintro rfl
                simp [PV.cells, PV.scalar] at hc2
              have hxc := hx.cells hxg
              have hcl : cs.length ≤ vs.toList.length := by
                have := h3.length; rw [List.length_take] at this; omega
              obtain ⟨g1, g2⟩ := splice_rel hcs' h3 hxc
              have hol : o + u.cells.toList.length ≤ cs.length := by
                have := g1; rw [List.length_take] at this; omega
              have hst2 := run_storeCells_at (P := P) B o ty u.cells.toList 0 vs w h2 (by simp at hol hcl ⊢; omega) (all_scalar hxc hc2)
              simp only [Nat.add_zero] at hst2
              obtain ⟨x1, x2, x3, x4⟩ := setRow_facts w B vs (vs.toList.take o ++ u.cells.toList ++ vs.toList.drop (o + u.cells.toList.length)).toArray ty h2
              have hsz : u.cells.size = n := by
                have := hxc.length
                rw [hc1] at this
                simpa using this.symm
              have hcl' : cs'.length = cs.length := by
                unfold spliceP at hcs'
                split at hcs'
                · rename_i hh
                  simp only [Option.some.injEq] at hcs'; subst hcs'
                  simp only [List.length_append, List.length_take, List.length_drop]; omega
                · cases hcs'
              have htk : (vs.toList.take o ++ u.cells.toList ++ vs.toList.drop (o + u.cells.toList.length)).take cs'.length = (vs.toList.take cs.length).take o ++ u.cells.toList ++ (vs.toList.take cs.length).drop (o + u.cells.toList.length) := by
                rw [hcl', List.take_take, Nat.min_eq_left (by omega), List.drop_take, List.append_assoc, List.append_assoc, List.take_append, List.take_of_length_le (by rw [List.length_take]; omega), List.take_append, List.take_of_length_le (l := u.cells.toList) (by rw [List.length_take]; omega)]
                congr 3
                rw [List.length_take]; omega
              obtain ⟨k1, k2⟩ := hr.turnArr hcs hB (w' := w.setRow B (vs.toList.take o ++ u.cells.toList ++ vs.toList.drop (o + u.cells.toList.length)).toArray) (cs := cs') (vs := (vs.toList.take o ++ u.cells.toList ++ vs.toList.drop (o + u.cells.toList.length)).toArray) (by rw [h0, ← Array.length_toList (xs := vs), ← Array.length_toList (xs := (vs.toList.take o ++ u.cells.toList ++ vs.toList.drop (o + u.cells.toList.length)).toArray), List.toList_toArray, splice_length _ _ _ (show o + u.cells.toList.length ≤ vs.toList.length by omega)]) x1 (by
                rw [List.toList_toArray, htk]; exact g2) x2 x3 rfl rfl x4
              refine ⟨_, by simp [Instr.storeAt, Instr.sureAddr, storeVar, run_sizeOf' hs, hsz, hst2], k1, k2.congr fun z => ?_, rfl⟩
              simp only [St.set, hst]
          · cases hrun
        · cases hrun
    · cases hq
  · cases hq
theorem append_ok (hr : Rel m h w) {t t' d : TypeId} (ht' : P.underlying t' = some (.slice d)) {s x : PV} {v v2 : Value} (hv : VR m s v) (hx : VR m x v2) {q : Req} {md : Bool} (hq : appendQ P md t s x = some q) {st st' : St} (hst : st.heap = h) {y : PV} (hrun : q.run st = some (y, st'))
    (hf : ∀ b, st.next ≤ b → b < st'.next → st.heap b = none) (ty : TypeId) :
    ∃ r w' m', (Builtin.append_ #[t, t'] ty #[v, v2]).run P w = .ok r w' ∧ Ext m w m' w' ∧ Rel m' st'.heap w' ∧ VR m' y r := by
  unfold appendQ at hq
  split at hq
  · rename_i e he
    have ht := sliceElem_some he
    split at hq
    · rename_i size hs
      obtain ⟨i, hi, hsz⟩ := szOf_some hs
      split at hq
      · rename_i bytes hby
        obtain ⟨i', hi', hbb⟩ := bytesOf_some hby
        rw [hi] at hi'; cases hi'
        split at hq
        · rename_i z hz
          obtain ⟨i2, zv, hi2, hzv, hzc⟩ := zeroP_some hz
          rw [hi] at hi2; cases hi2
          cases hl : Nat.beq z.cells.length (size + 1) with
          | false => simp only [hl, cond_false] at hq; cases hq
          | true =>
            simp only [hl, cond_true] at hq
            have hzs : zv.cells.size = i.size := by
              have := ((cst_rel (m := m) hzc).cells (fun e => by rw [e] at hzc; exact cst_gone hzc)).length
              rw [Nat.eq_of_beq_eq_true hl] at this
              rw [hsz]; simpa using this.symm
            split at hq
            · rename_i xs hxs
              have hxd := hx.rows hxs
              cases hall : xs.all (fun r => Nat.beq r.length (size + 1)) with
              | false => simp only [hall, cond_false] at hq; cases hq
              | true =>
                simp only [hall, cond_true] at hq
                have hallx : ∀ row ∈ xs, row.length = i.size := fun row hm => by rw [hsz]; exact Nat.eq_of_beq_eq_true (List.all_eq_true.1 hall row hm)
                split at hq
                ·
                  cases hb : Go.Ab.sizeFits xs.length bytes with
                  | false => simp [hb] at hq
                  | true =>
                    simp only [hb, cond_true] at hq
                    obtain ⟨hb1, hb2⟩ := and_true hb
                    cases hat : arrT P md t with
                    | true =>
                      rw [hat] at hq
                      simp only [cond_true] at hq
                      have hv0 : v = .slice none 0 0 := by
                        cases hv with
                        | data _ _ hd => cases hd; rfl
                        | nil => rfl
                      subst hv0
                      split at hq
                      · simp only [Option.some.injEq] at hq; subst hq
                        simp [Req.run] at hrun; obtain ⟨rfl, rfl⟩ := hrun
                        obtain ⟨a, ca, rfl, ha⟩ : ∃ a ca, v2 = .slice a 0 ca ∧ (a = none → ca = 0) := by
                          cases hxd with
                          | none a ca ha => exact ⟨a, ca, rfl, ha⟩
                          | lst _ _ _ _ _ _ _ hh => simp at hh
                        have hv2 : Value.slice a 0 ca = .slice none 0 0 ∨ ∃ a' c', Value.slice a 0 ca = .slice (some a') 0 c' := by
                          cases a with
                          | none => rw [ha rfl]; exact .inl rfl
                          | some a => exact .inr ⟨_, _, rfl⟩
                        exact ⟨_, w, m, Go.Ab.run_app_none t t' ty e i d ht ht' hi _ none 0 0 rfl (Nat.le_refl _) _ hv2 w, Ext.refl m w, by rw [hst]; exact hr, .nil⟩
                      · simp only [Option.some.injEq] at hq; subst hq
                        simp only [Req.run, Option.some.injEq, Prod.mk.injEq] at hrun; obtain ⟨rfl, rfl⟩ := hrun
                        have hfree : h st.next = none := by rw [← hst]; exact hf _ (Nat.le_refl _) (by simp [St.new])
                        obtain ⟨r, w', m', g1, g2, g3, g4⟩ := arrNew_sim hr ht ht' hi hzv hzs (by omega) hfree hallx (by simp) (by rw [hbb]; exact Go.Ab.ble_le hb1) (Go.Ab.ble_le hb2) hxd ty
                        refine ⟨r, w', m', g1, g2, g3.congr fun k => ?_, g4⟩
                        simp only [St.new, beq_if, hsz, hst]
                    | false =>
                    rw [hat] at hq
                    simp only [cond_false, Option.some.injEq] at hq; subst hq
                    simp [Req.run] at hrun; obtain ⟨rfl, rfl⟩ := hrun
                    have hfree : h st.next = none := by rw [← hst]; exact hf _ (Nat.le_refl _) (by simp [St.new])
                    have hr1 := hr.newOwn0 hfree i.size
                    have hv0 : VR m (.acc st.next []) v := by
                      cases hv with
                      | data _ _ hd => cases hd; exact .acc0 _
                      | nil => exact .acc0 _
                    obtain ⟨r, w', m', g1, g2, g3, g4⟩ := push_sim hr1 ht ht' hi hzv hzs (by omega) (b := st.next) (rows := []) (xs := xs) (e0 := i.size) (by simp [beq_if]) (.inl rfl) (fun row hm => by simp at hm) hallx
                      (by simp; rw [hbb]; exact Go.Ab.ble_le hb1) (by simp; exact Go.Ab.ble_le hb2) hv0 hxd ty
                    refine ⟨r, w', m', g1, g2, g3.congr fun k => ?_, by simpa using g4⟩
                    simp only [St.new, beq_if, List.length_nil, Nat.zero_add, hsz, hst]
                    split <;> rfl
                ·
                  rename_i b n
                  cases hb : Go.Ab.sizeFits (n + xs.length) bytes with
                  | false => simp [hb] at hq
                  | true =>
                    simp only [hb, cond_true, Option.some.injEq] at hq; subst hq
                    obtain ⟨hb1, hb2⟩ := and_true hb
                    simp only [Req.run] at hrun
                    split at hrun
                    · rename_i e' cs hcs
                      cases hee : Nat.beq (size + 1) e' with
                      | false => simp [hee] at hrun
                      | true =>
                        have hee' := Nat.eq_of_beq_eq_true hee
                        simp only [hee, cond_true] at hrun
                        split at hrun
                        · rename_i cs' hcs'
                          split at hcs'
                          · rename_i hn
                            simp only [Option.some.injEq] at hcs' hrun; subst hcs'
                            simp only [Prod.mk.injEq] at hrun
                            obtain ⟨rfl, rfl⟩ := hrun
                            have hfree : h st.next = none := by rw [← hst]; exact hf _ (Nat.le_refl _) (by simp [St.new, St.set])
                            rw [hst] at hcs
                            obtain ⟨r, w', m', g1, g2, g3, g4⟩ := arrGrow_sim hr ht ht' hi hzv hzs (by omega) (b := b) (b' := st.next) (n := n) (cs := cs) (by rw [hsz]; show h b = some (.arr (size + 1) cs); rw [hee']; exact hcs) hfree (by rw [hsz]; exact hn) hallx (by rw [hbb]; exact Go.Ab.ble_le hb1) (Go.Ab.ble_le hb2) hv hxd ty
                            refine ⟨r, w', m', g1, g2, g3.congr fun k => ?_, g4⟩
                            simp only [St.new, St.set, beq_if, hsz, hst]
                          · cases hcs'
                        · cases hrun
                    · cases hrun
                ·
                  rename_i b rows
                  cases hb : Go.Ab.sizeFits (rows.length + xs.length) bytes && rows.all (fun r => Nat.beq r.length (size + 1)) with
                  | false => simp [hb] at hq
                  | true =>
                    simp only [hb, cond_true, Option.some.injEq] at hq; subst hq
                    obtain ⟨hb0, hb3⟩ := and_true hb
                    obtain ⟨hb1, hb2⟩ := and_true hb0
                    simp only [Req.run] at hrun
                    split at hrun
                    · rename_i n' e' hown
                      cases hc : Nat.beq rows.length n' && (Nat.beq rows.length 0 || Nat.beq (size + 1) e') with
                      | false => simp [hc] at hrun
                      | true =>
                        simp only [hc, cond_true, Option.some.injEq, Prod.mk.injEq] at hrun
                        obtain ⟨rfl, rfl⟩ := hrun
                        obtain ⟨hc1, hc2⟩ := and_true hc
                        have hc1 := Nat.eq_of_beq_eq_true hc1
                        subst hc1
                        rw [hst] at hown
                        obtain ⟨r, w', m', g1, g2, g3, g4⟩ := push_sim hr ht ht' hi hzv hzs (by omega) (b := b) (rows := rows) (xs := xs) (e0 := e') hown (by
                          rcases Bool.or_eq_true_iff.1 hc2 with h | h
                          · exact .inl (Nat.eq_of_beq_eq_true h)
                          · exact .inr (by rw [hsz]; exact (Nat.eq_of_beq_eq_true h).symm)) (fun row hm => by rw [hsz]; exact Nat.eq_of_beq_eq_true (List.all_eq_true.1 hb3 row hm)) hallx
                          (by rw [hbb]; exact Go.Ab.ble_le hb1) (Go.Ab.ble_le hb2) hv hxd ty
                        refine ⟨r, w', m', g1, g2, g3.congr fun k => ?_, g4⟩
                        simp only [St.set, beq_if, hsz, hst]
                    · cases hrun
                ·
                  rename_i rows
                  cases hb : Go.Ab.sizeFits (rows.length + xs.length) bytes && rows.all (fun r => Nat.beq r.length (size + 1)) with
                  | false => simp [hb] at hq
                  | true =>
                    simp only [hb, cond_true] at hq
                    obtain ⟨hb0, hb3⟩ := and_true hb
                    obtain ⟨hb1, hb2⟩ := and_true hb0
                    split at hq
                    · simp only [Option.some.injEq] at hq; subst hq
                      simp [Req.run] at hrun; obtain ⟨rfl, rfl⟩ := hrun
                      obtain ⟨a, ca, rfl, ha⟩ : ∃ a ca, v2 = .slice a 0 ca ∧ (a = none → ca = 0) := by
                        cases hxd with
                        | none a ca ha => exact ⟨a, ca, rfl, ha⟩
                        | lst _ _ _ _ _ _ _ hh => simp at hh
                      have hv2 : Value.slice a 0 ca = .slice none 0 0 ∨ ∃ a' c', Value.slice a 0 ca = .slice (some a') 0 c' := by
                        cases a with
                        | none => rw [ha rfl]; exact .inl rfl
                        | some a => exact .inr ⟨_, _, rfl⟩
                      obtain ⟨av, rfl, hd⟩ : ∃ a, v = .slice a rows.length rows.length ∧ DR m.K (.lst rows) (.slice a rows.length rows.length) := by
                        cases hv with
                        | data _ _ hd => cases hd
                        | cap _ a hd => exact ⟨a, rfl, hd⟩
                      exact ⟨_, w, m, Go.Ab.run_app_none t t' ty e i d ht ht' hi _ _ _ _ rfl (Nat.le_refl _) _ hv2 w, Ext.refl m w, by rw [hst]; exact hr, hv⟩
                    simp only [Option.some.injEq] at hq; subst hq
                    simp only [Req.run, Option.some.injEq, Prod.mk.injEq] at hrun; obtain ⟨rfl, rfl⟩ := hrun
                    have hfree : h st.next = none := by rw [← hst]; exact hf _ (Nat.le_refl _) (by simp [St.new])
                    obtain ⟨r, w', m', g1, g2, g3, g4⟩ := capPush_sim hr ht ht' hi hzv hzs (by omega) (b := st.next) (rows := rows) hfree (fun row hm => by rw [hsz]; exact Nat.eq_of_beq_eq_true (List.all_eq_true.1 hb3 row hm)) hallx (by simp)
                      (by rw [hbb]; exact Go.Ab.ble_le hb1) (Go.Ab.ble_le hb2) hv hxd ty
                    refine ⟨r, w', m', g1, g2, g3.congr fun k => ?_, g4⟩
                    simp only [St.new, beq_if, hsz, hst]
                · cases hq
            · cases hq
        · cases hq
      · cases hq
    · cases hq
  · cases hq
theorem keyOf_some {a : PV} {k : MKey} (h : keyOf a = some k) {v : Value} (hv : VR m a v) : v = k.val := by
  unfold keyOf at h
  split at h
  · simp only [Option.some.injEq] at h; subst h
    cases hv with | data _ _ hd => cases hd; rfl
  · simp only [Option.some.injEq] at h; subst h
    cases hv with | data _ _ hd => cases hd; rfl
  · cases h
def MKey.desc : MKey → TypeDesc
  | .i _ => .int .i64
  | .s _ => .string
theorem mapT_some {t : TypeId} {k : MKey} (h : mapT P t k = true) : ∃ kt e d, P.underlying t = some (.map kt e) ∧ P.underlying kt = some d ∧ d = k.desc ∧ zeroP P e = some (.int .i64 0) := by
  unfold mapT at h
  split at h
  · rename_i kt e hu
    obtain ⟨h1, h2⟩ := and_true h
    have hz : zeroP P e = some (.int .i64 0) := by
      clear h h1
      split at h2
      · rename_i hz; exact hz
      · cases h2
    clear h h2
    split at h1
    · rename_i hk; exact ⟨kt, e, _, hu, hk, rfl, hz⟩
    · rename_i hk; exact ⟨kt, e, _, hu, hk, rfl, hz⟩
    · cases h1
  · cases h
theorem bytes_eq {a b : ByteArray} (h : (a.toList == b.toList) = true) : b = a := by
  rw [← beq_toListBytes] at h
  exact ((Go.MapKept.bytes_beq a b).1 h).symm
theorem MKey.is_eq {k k' : MKey} (h : k.is k' = true) : k' = k := by
  cases k <;> cases k' <;> simp only [MKey.is] at h
  · rw [beq_iff_eq] at h; rw [h]
  · cases h
  · cases h
  · rw [bytes_eq h]
theorem MKey.is_self (k : MKey) : k.is k = true := by cases k <;> simp [MKey.is]
theorem find_rel {k : MKey} {d : TypeDesc} (hd : d = k.desc) : ∀ {l : ML} {es : List MapEntry} (i : Nat), MRel l es → l.all (fun p => k.like p.1) = true →
    ∃ q, Instr.findNow d k.val es i = some q ∧ (match mfind k l with
      | some v => ∃ j e, q = some (i + j, .int .i64 v) ∧ es[j]? = some e ∧ e.key = k.val ∧ ∀ x, MRel (mput k x l) (es.modify j fun e => { e with key := k.val, val := .int .i64 x })
      | none => q = none ∧ ∀ x c, MRel (mput k x l) (es ++ [⟨k.val, .int .i64 x, c⟩]))
  | [], [], i, _, _ => ⟨none, rfl, rfl, fun x c => ⟨rfl, rfl, trivial⟩⟩
  | [], _ :: _, _, h, _ => h.elim
  | (_, _) :: _, [], _, h, _ => h.elim
  | (k', v) :: l, e :: es, i, ⟨h1, h2, h3⟩, hall => by
    simp only [List.all_cons, Bool.and_eq_true] at hall
    obtain ⟨hk, hall⟩ := hall
    obtain ⟨q, g1, g2⟩ := find_rel hd (i + 1) h3 hall
    have hsame : Instr.sameNow d k.val e.key = some (k.is k') := by
      rw [h1]
      cases k <;> cases k' <;> simp [MKey.like] at hk <;> (simp only [MKey.desc] at hd; subst hd) <;> simp [Instr.sameNow, MKey.val, MKey.is, beq_toListBytes]
    cases hb : k.is k' with
    | true =>
      rw [hb] at hsame
      have hkk : k' = k := MKey.is_eq hb
      subst hkk
      refine ⟨some (i, e.val), by simp [Instr.findNow, hsame], ?_⟩
      simp only [mfind, hb, cond_true]
      refine ⟨0, e, by rw [h2]; rfl, rfl, h1, fun x => ?_⟩
      simp only [mput, hb, cond_true, List.modify_zero_cons]
      exact ⟨rfl, rfl, h3⟩
    | false =>
      rw [hb] at hsame
      refine ⟨q, by simp [Instr.findNow, hsame, g1], ?_⟩
      simp only [mfind, hb, cond_false]
      split at g2
      · rename_i v' hv'
        obtain ⟨j, e', q1, q2, q3, q4⟩ := g2
        refine ⟨j + 1, e', by rw [q1, show i + 1 + j = i + (j + 1) by omega], by simpa using q2, q3, fun x => ?_⟩
        simp only [mput, hb, cond_false, List.modify_succ_cons]
        exact ⟨h1, h2, q4 x⟩
      · rename_i hv'
        obtain ⟨q1, q2⟩ := g2
        refine ⟨q1, fun x c => ?_⟩
        simp only [mput, hb, cond_false, List.cons_append]
        exact ⟨h1, h2, q2 x c⟩
theorem checkKey_ok {k : MKey} {kt : TypeId} {d : TypeDesc} (hu : P.underlying kt = some d) (hd : d = k.desc) (empty : Bool) (n : Nat) (w : World) :
    (Instr.checkKey empty (n + 1) kt k.val).run P w = .ok () w := by
  cases k <;> (simp only [MKey.desc] at hd; subst hd) <;> simp [Instr.checkKey, run_underlying hu, MKey.val]
theorem mapS_some {t : TypeId} {k : MKey} (h : mapS P t k = true) : ∃ kt e d, P.underlying t = some (.map kt e) ∧ P.underlying kt = some d ∧ d = k.desc ∧ zeroP P e = some .nil := by
  unfold mapS at h
  split at h
  · rename_i kt e hu
    obtain ⟨h1, h2⟩ := and_true h
    have hz : zeroP P e = some .nil := by
      clear h h1
      split at h2
      · rename_i hz; exact hz
      · cases h2
    clear h h2
    split at h1
    · rename_i hk; exact ⟨kt, e, _, hu, hk, rfl, hz⟩
    · rename_i hk; exact ⟨kt, e, _, hu, hk, rfl, hz⟩
    · cases h1
  · cases h
theorem sfind_rel {K : KK} {k : MKey} {d : TypeDesc} (hd : d = k.desc) : ∀ {l : MS} {es : List MapEntry} (i : Nat), SRel K l es → l.all (fun p => k.like p.1) = true →
    ∃ q, Instr.findNow d k.val es i = some q ∧ (match sfind k l with
      | some v => ∃ j e, q = some (i + j, e.val) ∧ DR K (.lst v) e.val ∧ es[j]? = some e ∧ e.key = k.val ∧ ∀ x xv, DR K (.lst x) xv → SRel K (sput k x l) (es.modify j fun e => { e with key := k.val, val := xv })
      | none => q = none ∧ ∀ x xv c, DR K (.lst x) xv → SRel K (sput k x l) (es ++ [⟨k.val, xv, c⟩]))
  | [], [], i, _, _ => ⟨none, rfl, rfl, fun x xv c hx => ⟨rfl, hx, trivial⟩⟩
  | [], _ :: _, _, h, _ => h.elim
  | (_, _) :: _, [], _, h, _ => h.elim
  | (k', v) :: l, e :: es, i, ⟨h1, h2, h3⟩, hall => by
    simp only [List.all_cons, Bool.and_eq_true] at hall
    obtain ⟨hk, hall⟩ := hall
    obtain ⟨q, g1, g2⟩ := sfind_rel hd (i + 1) h3 hall
    have hsame : Instr.sameNow d k.val e.key = some (k.is k') := by
      rw [h1]
      cases k <;> cases k' <;> simp [MKey.like] at hk <;> (simp only [MKey.desc] at hd; subst hd) <;> simp [Instr.sameNow, MKey.val, MKey.is, beq_toListBytes]
    cases hb : k.is k' with
    | true =>
      rw [hb] at hsame
      have hkk : k' = k := MKey.is_eq hb
      subst hkk
      refine ⟨some (i, e.val), by simp [Instr.findNow, hsame], ?_⟩
      simp only [sfind, hb, cond_true]
      refine ⟨0, e, rfl, h2, rfl, h1, fun x xv hx => ?_⟩
      simp only [sput, hb, cond_true, List.modify_zero_cons]
      exact ⟨rfl, hx, h3⟩
    | false =>
      rw [hb] at hsame
      refine ⟨q, by simp [Instr.findNow, hsame, g1], ?_⟩
      simp only [sfind, hb, cond_false]
      split at g2
      · rename_i v' hv'
        obtain ⟨j, e', q1, q0, q2, q3, q4⟩ := g2
        refine ⟨j + 1, e', by rw [q1, show i + 1 + j = i + (j + 1) by omega], q0, by simpa using q2, q3, fun x xv hx => ?_⟩
        simp only [sput, hb, cond_false, List.modify_succ_cons]
        exact ⟨h1, h2, q4 x xv hx⟩
      · rename_i hv'
        obtain ⟨q1, q2⟩ := g2
        refine ⟨q1, fun x xv c hx => ?_⟩
        simp only [sput, hb, cond_false, List.cons_append]
        exact ⟨h1, h2, q2 x xv c hx⟩
theorem lookup_ok (hr : Rel m h w) {t : TypeId} {mp k : PV} {ok : Bool} {q : Req} (hq : lookupQ P t mp k ok = some q) {st st' : St} (hst : st.heap = h) {y : PV} (hrun : q.run st = some (y, st')) {u v : Value} (hm : VR m mp u) (hk : VR m k v) :
    st' = st ∧ ∃ r, (Instr.lookup t u v ok).run P w = .ok r w ∧ VR m y r := by
  unfold lookupQ at hq
  split at hq
  · rename_i k' hk'
    have hv := keyOf_some hk' hk
    subst hv
    cases hmt : mapT P t k' with
    | false =>
      cases hms : mapS P t k' with
      | false => simp [hmt, hms] at hq
      | true =>
      obtain ⟨kt, e, d, hu, hd, hdk, hz⟩ := mapS_some hms
      simp only [hmt, hms, cond_true, cond_false] at hq
      obtain ⟨zv, hzv, hzr, hzg⟩ := run_zero hz w
      have hzv' : DR m.K (.lst []) zv := (hzr m).toData rfl
      split at hq
      · rename_i b
        cases ok with
        | true => simp at hq
        | false =>
        simp only [cond_false, Option.some.injEq] at hq; subst hq
        simp only [Req.run] at hrun
        split at hrun
        · rename_i l hl
          cases hall : l.all (fun p => k'.like p.1) with
          | false => simp [hall] at hrun
          | true =>
            simp only [hall, cond_true, Option.some.injEq, Prod.mk.injEq] at hrun
            obtain ⟨rfl, rfl⟩ := hrun
            rw [hst] at hl
            cases hm with
            | data _ _ hd => cases hd
            | map _ B hB =>
              obtain ⟨B', ents, clock, g1, g2, g3⟩ := hr.asMS b l hl
              rw [hB] at g1; cases g1
              have hgo := Go.Ab.run_getObj' (P := P) w B ents clock g2
              obtain ⟨q, f1, f2⟩ := sfind_rel hdk 0 g3 hall
              have hck := checkKey_ok (P := P) hd hdk ents.isEmpty 9999 w
              cases hf : sfind k' l with
              | some n =>
                rw [hf] at f2
                obtain ⟨j, e', rfl, q0, _⟩ := f2
                refine ⟨rfl, e'.val, ?_, .data _ _ q0⟩
                simp [Instr.lookup, run_underlying hu, hgo, hck, Instr.findKey, run_underlying hd, f1]
              | none =>
                rw [hf] at f2
                obtain ⟨rfl, _⟩ := f2
                refine ⟨rfl, zv, ?_, .data _ _ hzv'⟩
                simp [Instr.lookup, run_underlying hu, hgo, hck, Instr.findKey, run_underlying hd, f1, hzv]
        · cases hrun
      · cases hq
    | true =>
      obtain ⟨kt, e, d, hu, hd, hdk, hz⟩ := mapT_some hmt
      simp only [hmt, cond_true] at hq
      obtain ⟨zv, hzv, hzr, hzg⟩ := run_zero hz w
      have hzv' : zv = .int .i64 0 := by
        have := hzr m
        cases this with | data _ _ hd => cases hd; rfl
      subst hzv'
      split at hq
      · rename_i b
        simp only [Option.some.injEq] at hq; subst hq
        simp only [Req.run] at hrun
        split at hrun
        · rename_i l hl
          cases hall : l.all (fun p => k'.like p.1) with
          | false => simp [hall] at hrun
          | true =>
            simp only [hall, cond_true] at hrun
            rw [hst] at hl
            cases hm with
            | data _ _ hd => cases hd
            | map _ B hB =>
              obtain ⟨B', ents, clock, g1, g2, g3⟩ := hr.map b l hl
              rw [hB] at g1; cases g1
              have hgo := Go.Ab.run_getObj' (P := P) w B ents clock g2
              obtain ⟨q, f1, f2⟩ := find_rel hdk 0 g3 hall
              have hck := checkKey_ok (P := P) hd hdk ents.isEmpty 9999 w
              split at hrun
              · rename_i x hx
                cases hf : mfind k' l with
                | some n =>
                  rw [hf] at hx f2
                  simp only [Option.some.injEq] at hx; subst hx
                  simp only [Option.some.injEq, Prod.mk.injEq] at hrun
                  obtain ⟨rfl, rfl⟩ := hrun
                  obtain ⟨j, e', rfl, _⟩ := f2
                  refine ⟨rfl, if ok then .tuple #[.int .i64 n, .bool true] else .int .i64 n, ?_, ?_⟩
                  · simp [Instr.lookup, run_underlying hu, hgo, hck, Instr.findKey, run_underlying hd, f1]
                  · cases ok
                    · exact .data _ _ (.int _ _)
                    · exact .tuple _ [.int .i64 n, .bool true] (.cons _ _ _ _ (.data _ _ (.int _ _)) (.one (.data _ _ (.bool _))))
                | none =>
                  rw [hf] at hx f2
                  simp only [Option.some.injEq] at hx; subst hx
                  simp only [Option.some.injEq, Prod.mk.injEq] at hrun
                  obtain ⟨rfl, rfl⟩ := hrun
                  obtain ⟨rfl, _⟩ := f2
                  refine ⟨rfl, if ok then .tuple #[.int .i64 0, .bool false] else .int .i64 0, ?_, ?_⟩
                  · simp [Instr.lookup, run_underlying hu, hgo, hck, Instr.findKey, run_underlying hd, f1, hzv]
                  · cases ok
                    · exact .data _ _ (.int _ _)
                    · exact .tuple _ [.int .i64 0, .bool false] (.cons _ _ _ _ (.data _ _ (.int _ _)) (.one (.data _ _ (.bool _))))
              · cases hrun
        · cases hrun
      · cases hq
  · cases hq
theorem update_ok (hr : Rel m h w) {t : TypeId} {mp k x : PV} {q : Req} (hq : updateQ P t mp k x = some q) {st st' : St} (hst : st.heap = h) {y : PV} (hrun : q.run st = some (y, st')) {u v z : Value} (hm : VR m mp z) (hk : VR m k u) (hx : VR m x v) :
    ∃ w', (Instr.mapUpdate t z u v).run P w = .ok () w' ∧ Ext m w m w' ∧ Rel m st'.heap w' ∧ y = .undef := by
  unfold updateQ at hq
  split at hq
  · rename_i k' hk'
    have hv := keyOf_some hk' hk
    subst hv
    cases hmt : mapT P t k' with
    | false =>
      cases hms : mapS P t k' with
      | false => simp [hmt, hms] at hq
      | true =>
      obtain ⟨kt, e, d, hu, hd, hdk, hz⟩ := mapS_some hms
      simp only [hmt, hms, cond_true, cond_false] at hq
      split at hq
      · rename_i b n hxd
        simp only [Option.some.injEq] at hq; subst hq
        have hxr := hx.toData hxd
        simp only [Req.run] at hrun
        split at hrun
        · rename_i l hl
          cases hall : l.all (fun p => k'.like p.1) with
          | false => simp [hall] at hrun
          | true =>
            simp only [hall, cond_true, Option.some.injEq, Prod.mk.injEq] at hrun
            obtain ⟨rfl, rfl⟩ := hrun
            rw [hst] at hl
            cases hm with
            | data _ _ hd => cases hd
            | map _ B hB =>
              obtain ⟨B', ents, clock, g1, g2, g3⟩ := hr.asMS b l hl
              rw [hB] at g1; cases g1
              have hgo := Go.Ab.run_getObj' (P := P) w B ents clock g2
              obtain ⟨q, f1, f2⟩ := sfind_rel hdk 0 g3 hall
              have hck := checkKey_ok (P := P) hd hdk false 9999 w
              have key : ∀ (ents' : Array MapEntry) (clock' : Nat), SRel m.K (sput k' n l) ents'.toList → Ext m w m (Go.Ab.World.putObj w B (.map ents' clock')) ∧ Rel m (st.set b (.maps (sput k' n l))).heap (Go.Ab.World.putObj w B (.map ents' clock')) := by
                intro ents' clock' hrel
                obtain ⟨p1, p2, p3, p4⟩ := Go.Ab.putObj_facts w B (.map ents clock) (.map ents' clock') g2 (fun c t fr h => by cases h) (fun c t fr h => by cases h)
                obtain ⟨k1, k2⟩ := hr.turnMaps hl hB (w' := Go.Ab.World.putObj w B (.map ents' clock')) (l := sput k' n l) p1 hrel p2 p3 rfl rfl p4
                exact ⟨k1, k2.congr fun x => by simp only [St.set, hst]⟩
              cases hf : sfind k' l with
              | some n0 =>
                rw [hf] at f2
                obtain ⟨j, e', rfl, q0, q2, q3, q4⟩ := f2
                obtain ⟨k1, k2⟩ := key (ents.modify j fun e => { e with key := k'.val, val := v }) clock (by simpa using q4 n v hxr)
                refine ⟨_, ?_, k1, k2, rfl⟩
                have hkey : ((ents[j]?).map (·.key)).getD k'.val = e'.key := by
                  have : ents[j]? = some e' := by simpa using q2
                  rw [this]; rfl
                have hsb : Instr.sameBits 10000 e'.key k'.val = true := by
                  rw [q3]
                  cases k' with
                  | i n => simp [Instr.sameBits, MKey.val]
                  | s b => simp [Instr.sameBits, MKey.val, (Go.MapKept.bytes_beq b b).2 rfl]
                rw [Nat.zero_add] at f1
                simp only [Instr.mapUpdate, Sem.run_bind, run_underlying hu, Result.andThen_ok, hgo, hck, Instr.findKey, run_underlying hd, f1, Sem.run_pure, hkey, Instr.keyThatStays, hsb, if_true, Go.Ab.run_setObj' w B ents clock g2]
              | none =>
                rw [hf] at f2
                obtain ⟨rfl, q2⟩ := f2
                obtain ⟨k1, k2⟩ := key (ents.push { key := k'.val, val := v, born := clock }) (clock + 1) (by simpa using q2 n v clock hxr)
                refine ⟨_, ?_, k1, k2, rfl⟩
                simp only [Instr.mapUpdate, Sem.run_bind, run_underlying hu, Result.andThen_ok, hgo, hck, Instr.findKey, run_underlying hd, f1, Sem.run_pure, Go.Ab.run_setObj' w B ents clock g2]
        · cases hrun
      · cases hq
    | true =>
      obtain ⟨kt, e, d, hu, hd, hdk, hz⟩ := mapT_some hmt
      simp only [hmt, cond_true] at hq
      split at hq
      · rename_i b n
        simp only [Option.some.injEq] at hq; subst hq
        cases hx with | data _ _ hx =>
        cases hx
        simp only [Req.run] at hrun
        split at hrun
        · rename_i l hl
          cases hall : l.all (fun p => k'.like p.1) with
          | false => simp [hall] at hrun
          | true =>
            simp only [hall, cond_true, Option.some.injEq, Prod.mk.injEq] at hrun
            obtain ⟨rfl, rfl⟩ := hrun
            rw [hst] at hl
            cases hm with
            | data _ _ hd => cases hd
            | map _ B hB =>
              obtain ⟨B', ents, clock, g1, g2, g3⟩ := hr.map b l hl
              rw [hB] at g1; cases g1
              have hgo := Go.Ab.run_getObj' (P := P) w B ents clock g2
              obtain ⟨q, f1, f2⟩ := find_rel hdk 0 g3 hall
              have hck := checkKey_ok (P := P) hd hdk false 9999 w
              have key : ∀ (ents' : Array MapEntry) (clock' : Nat), MRel (mput k' n l) ents'.toList → Ext m w m (Go.Ab.World.putObj w B (.map ents' clock')) ∧ Rel m (st.set b (.map (mput k' n l))).heap (Go.Ab.World.putObj w B (.map ents' clock')) := by
                intro ents' clock' hrel
                obtain ⟨p1, p2, p3, p4⟩ := Go.Ab.putObj_facts w B (.map ents clock) (.map ents' clock') g2 (fun c t fr h => by cases h) (fun c t fr h => by cases h)
                obtain ⟨k1, k2⟩ := hr.turnMap hl hB (w' := Go.Ab.World.putObj w B (.map ents' clock')) (l := mput k' n l) p1 hrel p2 p3 rfl rfl p4
                exact ⟨k1, k2.congr fun x => by simp only [St.set, hst]⟩
              cases hf : mfind k' l with
              | some n0 =>
                rw [hf] at f2
                obtain ⟨j, e', rfl, q2, q3, q4⟩ := f2
                obtain ⟨k1, k2⟩ := key (ents.modify j fun e => { e with key := k'.val, val := .int .i64 n }) clock (by simpa using q4 n)
                refine ⟨_, ?_, k1, k2, rfl⟩
                have hkey : ((ents[j]?).map (·.key)).getD k'.val = e'.key := by
                  have : ents[j]? = some e' := by simpa using q2
                  rw [this]; rfl
                have hsb : Instr.sameBits 10000 e'.key k'.val = true := by
                  rw [q3]
                  cases k' with
                  | i n => simp [Instr.sameBits, MKey.val]
                  | s b => simp [Instr.sameBits, MKey.val, (Go.MapKept.bytes_beq b b).2 rfl]
                rw [Nat.zero_add] at f1
                simp only [Instr.mapUpdate, Sem.run_bind, run_underlying hu, Result.andThen_ok, hgo, hck, Instr.findKey, run_underlying hd, f1, Sem.run_pure, hkey, Instr.keyThatStays, hsb, if_true, Go.Ab.run_setObj' w B ents clock g2]
              | none =>
                rw [hf] at f2
                obtain ⟨rfl, q2⟩ := f2
                obtain ⟨k1, k2⟩ := key (ents.push { key := k'.val, val := .int .i64 n, born := clock }) (clock + 1) (by simpa using q2 n clock)
                refine ⟨_, ?_, k1, k2, rfl⟩
                simp only [Instr.mapUpdate, Sem.run_bind, run_underlying hu, Result.andThen_ok, hgo, hck, Instr.findKey, run_underlying hd, f1, Sem.run_pure, Go.Ab.run_setObj' w B ents clock g2]
        · cases hrun
      · cases hq
  · cases hq
theorem del_rel {k : MKey} {d : TypeDesc} (hd : d = k.desc) : ∀ {l : ML} {es : List MapEntry} (i : Nat), MRel l es → l.all (fun p => k.like p.1) = true →
    ∃ q, Instr.findNow d k.val es i = some q ∧ (match q with
      | some (p, _) => ∃ j, p = i + j ∧ j < es.length ∧ MRel (mdel k l) (es.eraseIdx j)
      | none => MRel (mdel k l) es)
  | [], [], i, _, _ => ⟨none, rfl, trivial⟩
  | [], _ :: _, _, h, _ => h.elim
  | (_, _) :: _, [], _, h, _ => h.elim
  | (k', v) :: l, e :: es, i, ⟨h1, h2, h3⟩, hall => by
    simp only [List.all_cons, Bool.and_eq_true] at hall
    obtain ⟨hk, hall⟩ := hall
    obtain ⟨q, g1, g2⟩ := del_rel hd (i + 1) h3 hall
    have hsame : Instr.sameNow d k.val e.key = some (k.is k') := by
      rw [h1]
      cases k <;> cases k' <;> simp [MKey.like] at hk <;> (simp only [MKey.desc] at hd; subst hd) <;> simp [Instr.sameNow, MKey.val, MKey.is, beq_toListBytes]
    cases hb : k.is k' with
    | true =>
      rw [hb] at hsame
      refine ⟨some (i, e.val), by simp [Instr.findNow, hsame], 0, rfl, by simp, ?_⟩
      simp only [mdel, hb, cond_true, List.eraseIdx_zero, List.tail_cons]
      exact h3
    | false =>
      rw [hb] at hsame
      refine ⟨q, by simp [Instr.findNow, hsame, g1], ?_⟩
      cases q with
      | none =>
        simp only [mdel, hb, cond_false]
        exact ⟨h1, h2, g2⟩
      | some p =>
        obtain ⟨p, v'⟩ := p
        obtain ⟨j, rfl, hj, hrel⟩ := g2
        refine ⟨j + 1, by omega, by simp; omega, ?_⟩
        simp only [mdel, hb, cond_false, List.eraseIdx_cons_succ]
        exact ⟨h1, h2, hrel⟩
theorem delete_ok (hr : Rel m h w) {t : TypeId} {mp k : PV} {q : Req} (hq : deleteQ P t mp k = some q) {st st' : St} (hst : st.heap = h) {y : PV} (hrun : q.run st = some (y, st')) {u z : Value} (hm : VR m mp z) (hk : VR m k u) {ats : Array TypeId} (hat : ats[0]? = some t) (ty : TypeId) :
    ∃ w', (Builtin.delete_ ats ty #[z, u]).run P w = .ok (.tuple #[]) w' ∧ Ext m w m w' ∧ Rel m st'.heap w' ∧ y = .undef := by
  unfold deleteQ at hq
  split at hq
  · rename_i k' hk'
    have hv := keyOf_some hk' hk
    subst hv
    cases hmt : mapT P t k' with
    | false => simp [hmt] at hq
    | true =>
      obtain ⟨kt, e, d, hu, hd, hdk, hz⟩ := mapT_some hmt
      simp only [hmt, cond_true] at hq
      split at hq
      · rename_i b
        simp only [Option.some.injEq] at hq; subst hq
        simp only [Req.run] at hrun
        split at hrun
        · rename_i l hl
          cases hall : l.all (fun p => k'.like p.1) with
          | false => simp [hall] at hrun
          | true =>
            simp only [hall, cond_true, Option.some.injEq, Prod.mk.injEq] at hrun
            obtain ⟨rfl, rfl⟩ := hrun
            rw [hst] at hl
            cases hm with
            | data _ _ hd => cases hd
            | map _ B hB =>
              obtain ⟨B', ents, clock, g1, g2, g3⟩ := hr.map b l hl
              rw [hB] at g1; cases g1
              have hgo := Go.Ab.run_getObj' (P := P) w B ents clock g2
              obtain ⟨q, f1, f2⟩ := del_rel hdk 0 g3 hall
              have hck := checkKey_ok (P := P) hd hdk ents.isEmpty 9999 w
              have a0 : (#[Value.map (some B), k'.val] : Array Value)[0]? = some (.map (some B)) := rfl
              have a1 : (#[Value.map (some B), k'.val] : Array Value)[1]? = some k'.val := rfl
              have key : ∀ (ents' : Array MapEntry), MRel (mdel k' l) ents'.toList → Ext m w m (Go.Ab.World.putObj w B (.map ents' clock)) ∧ Rel m (st.set b (.map (mdel k' l))).heap (Go.Ab.World.putObj w B (.map ents' clock)) := by
                intro ents' hrel
                obtain ⟨p1, p2, p3, p4⟩ := Go.Ab.putObj_facts w B (.map ents clock) (.map ents' clock) g2 (fun c t fr h => by cases h) (fun c t fr h => by cases h)
                obtain ⟨k1, k2⟩ := hr.turnMap hl hB (w' := Go.Ab.World.putObj w B (.map ents' clock)) (l := mdel k' l) p1 hrel p2 p3 rfl rfl p4
                exact ⟨k1, k2.congr fun x => by simp only [St.set, hst]⟩
              cases q with
              | some p =>
                obtain ⟨p, v'⟩ := p
                obtain ⟨j, rfl, hj, hrel⟩ := f2
                have hlist : (ents.eraseIdxIfInBounds j).toList = ents.toList.eraseIdx j := by
                  have hj : j < ents.size := by simpa using hj
                  simp [Array.eraseIdxIfInBounds, hj, Array.toList_eraseIdx]
                obtain ⟨k1, k2⟩ := key (ents.eraseIdxIfInBounds j) (by rw [hlist]; exact hrel)
                refine ⟨_, ?_, k1, k2, rfl⟩
                rw [Nat.zero_add] at f1
                simp only [Builtin.delete_, hat, a0, a1, Sem.run_bind, run_underlying hu, Result.andThen_ok, hgo, hck, Instr.findKey, run_underlying hd, f1, Sem.run_pure, Go.Ab.run_setObj' w B ents clock g2]
              | none =>
                obtain ⟨k1, k2⟩ := key ents f2
                refine ⟨_, ?_, k1, k2, rfl⟩
                simp only [Builtin.delete_, hat, a0, a1, Sem.run_bind, run_underlying hu, Result.andThen_ok, hgo, hck, Instr.findKey, run_underlying hd, f1, Sem.run_pure, Go.Ab.run_setObj' w B ents clock g2]
        · cases hrun
      · cases hq
  · cases hq
theorem isIface_some {t : TypeId} (h : isIface P t = some false) : ∃ d, P.underlying t = some d ∧ ∀ ms, d ≠ .interface ms := by
  unfold isIface at h
  split at h
  · cases h
  · rename_i d hn hd
    exact ⟨d, hd, fun ms e => hn ms e⟩
  · cases h
theorem iface_ok {t : TypeId} {x y : PV} (h : mkIfaceP P t x = some y) {u : Value} (hx : VR m x u) (w : World) : ∃ v, (Instr.makeInterface t u).run P w = .ok v w ∧ VR m y v := by
  unfold mkIfaceP at h
  split at h
  · rename_i hi
    obtain ⟨d, hd, hn⟩ := isIface_some hi
    cases hsc : x.scalar with
    | false => simp [hsc] at h
    | true =>
      simp only [hsc, cond_true, Option.some.injEq] at h; subst h
      refine ⟨.iface t u, ?_, .iface _ _ _ hx⟩
      simp only [Instr.makeInterface, Sem.run_bind, run_underlying hd, Result.andThen_ok]
      cases d <;> first | rfl | (exact (hn _ rfl).elim)
  · cases h
theorem assert_ok {t asserted : TypeId} {x y : PV} (h : assertP P asserted x = some y) {u : Value} (hx : VR m x u) (w : World) :
    ∃ v, (Instr.typeAssert u t asserted false).run P w = .ok v w ∧ VR m y v := by
  unfold assertP at h
  split at h
  · rename_i hi
    obtain ⟨d, hd, hn⟩ := isIface_some hi
    split at h
    · rename_i t' v'
      split at h
      · rename_i ht; subst ht
        simp only [Option.some.injEq] at h; subst h
        cases hx with
        | data _ _ hd => cases hd
        | iface _ _ u' hv =>
          refine ⟨u', ?_, hv⟩
          cases d <;> first | (exact (hn _ rfl).elim) | (simp [Instr.typeAssert, run_underlying hd])
      · cases h
    · cases h
  · cases h
end
end Go.Vi
namespace Go.Vi
open Go.Ab (szOf bytesOf isAggO sliceElem fieldO szOf_some bytesOf_some run_sizeOf' sliceElem_some fieldO_some run_isAgg' Fw exec_val exec_unit map_toList_toArray and_true)
section
variable {P : Program} {m : J} {w : World}
theorem op_sim {st : St} (hr : Rel m st.heap w) {o : Oper} {vs : List PV} {q : Req} {md : Bool} (h : opQ P md o.op vs = some q) {y : PV} {st' : St} (hrun : q.run st = some (y, st'))
    (hf : ∀ b, st.next ≤ b → b < st'.next → st.heap b = none) {ρ : Operand → Value} (hvs : VRs m vs (o.op.operands.toList.map ρ)) (ro : Option Nat) :
    NextOk P ro m w st'.heap y ((execOp ρ o).run P w) := by
  obtain ⟨dst, op, ty, pos, after, guard⟩ := o
  simp only at h hvs
  unfold opQ at h
  split at h
  · split at h
    · simp at h; subst h
      simp [Req.run] at hrun; obtain ⟨rfl, rfl⟩ := hrun
      exact nextOk_value (Ext.refl m w) hr (vrs1 hvs)
    · cases h
  · rename_i x0
    split at h
    · simp at h; subst h
      simp [Req.run] at hrun; obtain ⟨rfl, rfl⟩ := hrun
      have hv := vrs1 (v := ρ x0) hvs
      have hv0 : VR m (.acc st.next []) (ρ x0) := by
        generalize ρ x0 = u at hv
        cases hv with
        | data _ _ hd => cases hd; exact .acc0 _
        | nil => exact .acc0 _
      exact nextOk_value (v := ρ x0) (Ext.refl m w) (hr.newOwn0 (hf st.next (Nat.le_refl _) (by simp [St.new])) 0) hv0
    · simp at h; subst h
      simp [Req.run] at hrun; obtain ⟨rfl, rfl⟩ := hrun
      exact nextOk_value (Ext.refl m w) hr (vrs1 hvs)
    · cases h
  · rename_i c0 a0 b0
    split at h
    · rename_i c a b
      simp at h; subst h
      simp [Req.run] at hrun; obtain ⟨rfl, rfl⟩ := hrun
      obtain ⟨h1, h2, h3⟩ := vrs3 (u := ρ c0) (v := ρ a0) (x := ρ b0) hvs
      have hc : ρ c0 = .bool c := by generalize ρ c0 = q at h1; cases h1 with | data _ _ hd => cases hd; rfl
      have : (execOp ρ ⟨dst, .pick c0 a0 b0, ty, pos, after, guard⟩).run P w = .ok (.value (if c then ρ a0 else ρ b0)) w := by
        simp only [execOp, hc, Go.asBool]; rfl
      rw [this]
      cases c
      · exact nextOk_value (Ext.refl m w) hr h3
      · exact nextOk_value (Ext.refl m w) hr h2
    · cases h
  · rename_i e
    split at h
    · rename_i z hz
      simp at h; subst h
      simp [Req.run] at hrun; obtain ⟨rfl, rfl⟩ := hrun
      obtain ⟨v, hv, hvr, hg⟩ := run_zero hz w
      obtain ⟨m', k1, k2, k3⟩ := box_ok hr (hf st.next (Nat.le_refl _) (by simp [St.new])) ((hvr m).cells hg) e
      have : (Instr.alloc e true (.tuple #[])).run P w = .ok (.pointer (some ⟨w.heap.size, 0, none⟩)) (w.alloc (.cells v.cells e)) := by simp [Instr.alloc, hv, newVar, Go.Ab.run_newRow]
      rw [exec_val rfl this]
      exact nextOk_value k1 k2 k3
    · cases h
  · rename_i e x0
    split at h
    · rename_i x
      cases hs : x.cells.all PV.scalar with
      | false => simp [hs] at h
      | true =>
        simp only [hs, cond_true, Option.some.injEq] at h; subst h
        simp [Req.run] at hrun; obtain ⟨rfl, rfl⟩ := hrun
        have hx := vrs1 (v := ρ x0) hvs
        have hxg : x ≠ .gone := by rintro rfl; simp [PV.cells, PV.scalar] at hs
        obtain ⟨m', k1, k2, k3⟩ := box_ok hr (hf st.next (Nat.le_refl _) (by simp [St.new])) (hx.cells hxg) e
        have : (Instr.box e (ρ x0)).run P w = .ok (.pointer (some ⟨w.heap.size, 0, none⟩)) (w.alloc (.cells (ρ x0).cells e)) := by simp [Instr.box, newVar, Go.Ab.run_newRow]
        rw [exec_val rfl this]
        exact nextOk_value k1 k2 k3
    · cases h
  · rename_i t parts
    cases hs : vs.all PV.solid with
    | false => simp [hs] at h
    | true =>
      simp only [hs, cond_true] at h
      refine val_ok hr h hrun (c := Instr.build t (parts.map fun (i, x) => (i, ρ x))) rfl fun y hy => ?_
      refine build_sim (parts' := parts.map fun (i, x) => (i, ρ x)) ?_ (zip_solid hs) hy w
      rw [Array.toList_map]
      exact zip_rels (by
        have : VRs m vs (List.map (ρ ∘ fun x => x.2) parts.toList) := by simpa [Op.operands] using hvs
        exact this)
  · rename_i t len parts
    cases h0 : arrT P md t && (Nat.beq len 0 && Nat.beq parts.size 0) with
    | true =>
      simp only [h0, cond_true] at h
      obtain ⟨_, hl⟩ := and_true h0
      obtain ⟨hl, hps⟩ := and_true hl
      have hl := Nat.eq_of_beq_eq_true hl
      subst hl
      obtain rfl : parts = #[] := Array.eq_empty_of_size_eq_zero (Nat.eq_of_beq_eq_true hps)
      obtain ⟨u, w', m', g1, g2, g3, g4⟩ := buildSlice0_sim (P := P) (parts' := (#[] : Array (Nat × Operand)).map fun (i, x) => (i, ρ x)) hr (by simp) rfl h hrun hf
      rw [exec_val rfl g1]
      exact nextOk_value g2 g3 g4
    | false =>
    simp only [h0, cond_false] at h
    split at h
    · rename_i v hv
      simp at h; subst h
      simp [Req.run] at hrun; obtain ⟨rfl, rfl⟩ := hrun
      obtain ⟨u, w', m', g1, g2, g3, g4⟩ := buildSlice_sim (P := P) (parts' := parts.map fun (i, x) => (i, ρ x)) hr (by
        rw [Array.toList_map]
        exact zip_rels (by
        have : VRs m vs (List.map (ρ ∘ fun x => x.2) parts.toList) := by simpa [Op.operands] using hvs
        exact this)) hv
      rw [exec_val rfl g1]
      exact nextOk_value g2 g3 g4
    · cases h
  · rename_i t l0 c0
    split at h
    · obtain ⟨h1, h2⟩ := vrs2 (u := ρ l0) (v := ρ c0) hvs
      obtain ⟨v, w', m', g1, g2, g3, g4⟩ := makeSlice_sim (P := P) hr rfl h hrun hf h1 h2
      rw [exec_val rfl g1]
      exact nextOk_value g2 g3 g4
    · cases h
  · rename_i t x0
    split at h
    · exact val_ok hr h hrun rfl fun z hz => iface_ok hz (vrs1 (v := ρ x0) hvs) w
    · cases h
  · rename_i x0 t asserted ok
    split at h
    · exact val_ok hr h hrun rfl fun z hz => assert_ok hz (vrs1 (v := ρ x0) hvs) w
    · cases h
  · rename_i fn first captured
    split at h
    · rename_i f
      cases h0 : Nat.beq first.size 0 with
      | false =>
        cases h1 : Nat.beq captured.size 0 with
        | false => simp [h0, h1] at h
        | true =>
          simp only [h0, h1, cond_true, cond_false, Option.some.injEq] at h; subst h
          simp [Req.run] at hrun; obtain ⟨rfl, rfl⟩ := hrun
          have hci : captured = #[] := Array.eq_empty_of_size_eq_zero (Nat.eq_of_beq_eq_true h1)
          subst hci
          have hv : VRs m vs (first.toList.map ρ) := by simpa [Op.operands] using hvs
          have : (execOp ρ ⟨dst, .makeFunc (.func f) first #[], ty, pos, after, guard⟩).run P w = .ok (.value (.func (.func f) (first.toList.map ρ).toArray #[])) w := by
            simp only [execOp, Instr.makeFunc, map_toList_toArray]
            rfl
          rw [this]
          exact nextOk_value (Ext.refl m w) hr (.bfn _ _ _ hv)
      | true =>
        simp only [h0, cond_true, Option.some.injEq] at h; subst h
        simp [Req.run] at hrun; obtain ⟨rfl, rfl⟩ := hrun
        have hfi : first = #[] := Array.eq_empty_of_size_eq_zero (Nat.eq_of_beq_eq_true h0)
        subst hfi
        have hv : VRs m vs (captured.toList.map ρ) := by simpa [Op.operands] using hvs
        have : (execOp ρ ⟨dst, .makeFunc (.func f) #[] captured, ty, pos, after, guard⟩).run P w = .ok (.value (.func (.func f) #[] (captured.toList.map ρ).toArray)) w := by
          simp only [execOp, Instr.makeFunc, map_toList_toArray]
          rfl
        rw [this]
        exact nextOk_value (Ext.refl m w) hr (.fn _ _ _ hv)
    · cases h
  · rename_i t
    simp only [Option.some.injEq] at h; subst h
    simp only [Req.run, Option.some.injEq, Prod.mk.injEq] at hrun; obtain ⟨rfl, rfl⟩ := hrun
    obtain ⟨m', k1, k2, k3⟩ := hr.newMap (l := []) (hf st.next (Nat.le_refl _) (by simp [St.new])) #[] 0 (by trivial)
    have : (execOp ρ ⟨dst, .makeMap t none, ty, pos, after, guard⟩).run P w = .ok (.value (.map (some w.heap.size))) (w.alloc (.map #[] 0)) := rfl
    rw [this]
    exact nextOk_value k1 k2 (.map _ _ k3)
  · rename_i t m0 k0 ok
    split at h
    · obtain ⟨h1, h2⟩ := vrs2 (u := ρ m0) (v := ρ k0) hvs
      obtain ⟨rfl, v, g1, g2⟩ := lookup_ok (P := P) hr h rfl hrun h1 h2
      rw [exec_val rfl g1]
      exact nextOk_value (Ext.refl m w) hr g2
    · cases h
  · rename_i t m0 k0 x0
    split at h
    · obtain ⟨h1, h2, h3⟩ := vrs3 (u := ρ m0) (v := ρ k0) (x := ρ x0) hvs
      obtain ⟨w', g1, g2, g3, rfl⟩ := update_ok (P := P) hr h rfl hrun h1 h2 h3
      rw [exec_unit rfl g1]
      exact nextOk_skip g2 g3
    · cases h
  · rename_i t a0
    split at h
    · obtain ⟨rfl, v, g1, g2⟩ := load_ok (P := P) hr (vrs1 hvs) h rfl hrun
      rw [exec_val rfl g1]
      exact nextOk_value (Ext.refl m w) hr g2
    · cases h
  · rename_i t a0 x0
    split at h
    · obtain ⟨h1, h2⟩ := vrs2 (u := ρ a0) (v := ρ x0) hvs
      obtain ⟨w', g1, g2, g3, rfl⟩ := store_ok (P := P) hr h1 h2 h rfl hrun
      rw [exec_unit rfl g1]
      exact nextOk_skip g2 g3
    · cases h
  · rename_i x0
    split at h
    · rename_i b o
      simp at h; subst h
      simp [Req.run] at hrun; obtain ⟨rfl, rfl⟩ := hrun
      have hx := vrs1 (v := ρ x0) hvs
      have : (execOp ρ ⟨dst, .nilCheck x0, ty, pos, after, guard⟩).run P w = .ok (.value (ρ x0)) w := by
        simp only [execOp]
        generalize ρ x0 = q at hx
        cases hx with
        | data _ _ hd => cases hd
        | ptr => rfl
      rw [this]
      exact nextOk_value (Ext.refl m w) hr hx
    · rename_i r o
      simp at h; subst h
      simp [Req.run] at hrun; obtain ⟨rfl, rfl⟩ := hrun
      have hx := vrs1 (v := ρ x0) hvs
      have : (execOp ρ ⟨dst, .nilCheck x0, ty, pos, after, guard⟩).run P w = .ok (.value (ρ x0)) w := by
        simp only [execOp]
        generalize ρ x0 = q at hx
        cases hx with
        | data _ _ hd => cases hd
        | eptr => rfl
      rw [this]
      exact nextOk_value (Ext.refl m w) hr hx
    · cases h
  · rename_i op t x0 y0 yt
    split at h
    · obtain ⟨h1, h2⟩ := vrs2 (u := ρ x0) (v := ρ y0) hvs
      exact val_ok hr h hrun (c := do eqGuard op t x0 y0 (ρ x0) (ρ y0); binOp op t (ρ x0) (ρ y0)) rfl fun z hz => bin_sim hz h1 h2 x0 y0 w
    · cases h
  · rename_i op t x0
    split at h
    · exact val_ok hr h hrun rfl fun z hz => un_sim hz (vrs1 (v := ρ x0) hvs) w
    · cases h
  · rename_i src d x0
    split at h
    · exact val_ok hr h hrun rfl fun z hz => convert_sim hz (vrs1 (v := ρ x0) hvs) w
    · cases h
  · rename_i t x0 lo hi
    split at h
    · rename_i x r
      split at h
      · rename_i lo' r1 e1
        split at h
        · rename_i hi' r2 e2
          have hv : VRs m (x :: r) (ρ x0 :: ((lo.map ρ).toList ++ ((hi.map ρ).toList ++ []))) := by
            have : (Op.slice t x0 lo hi none).operands.toList.map ρ = ρ x0 :: ((lo.map ρ).toList ++ ((hi.map ρ).toList ++ [])) := by
              cases lo <;> cases hi <;> simp [Op.operands]
            rw [this] at hvs; exact hvs
          cases hv with
          | cons _ _ _ _ hx hrest =>
            obtain ⟨a1, hrest⟩ := takeOpt_some hrest e1
            obtain ⟨a2, _⟩ := takeOpt_some hrest e2
            exact val_ok hr h hrun rfl fun z hz => slice_sim hz hx a1 a2 w
        · cases h
      · cases h
    · cases h
  · rename_i t x0 hi0 mx0
    split at h
    · rename_i x h1 m1
      split at h
      · rename_i hn e1
        split at h
        · rename_i mn e2
          have hv : VRs m [x, h1, m1] [ρ x0, ρ hi0, ρ mx0] := by
            have : (Op.slice t x0 none (some hi0) (some mx0)).operands.toList.map ρ = [ρ x0, ρ hi0, ρ mx0] := by simp [Op.operands]
            rw [this] at hvs; exact hvs
          cases hv with | cons _ _ _ _ hx hv => cases hv with | cons _ _ _ _ hh hv => cases hv with | cons _ _ _ _ hm hv =>
          exact val_ok hr h hrun rfl fun z hz => cap_sim hz hx (by obtain ⟨q, hq⟩ := natOf_some e1 hh; exact ⟨q, hq⟩) (by obtain ⟨q, hq⟩ := natOf_some e2 hm; exact ⟨q, hq⟩) w
        · cases h
      · cases h
    · cases h
  · rename_i t x0 f
    split at h
    · exact val_ok hr h hrun rfl fun z hz => fieldAddr_sim hz (vrs1 (v := ρ x0) hvs) w
    · cases h
  · rename_i t x0 f
    split at h
    · exact val_ok hr h hrun rfl fun z hz => field_sim hz (vrs1 (v := ρ x0) hvs) w
    · cases h
  · rename_i t x0 i0
    split at h
    · obtain ⟨h1, h2⟩ := vrs2 (u := ρ x0) (v := ρ i0) hvs
      exact val_ok hr h hrun rfl fun z hz => indexAddr_sim hz h1 h2 w
    · cases h
  · rename_i t x0 i0
    split at h
    · obtain ⟨h1, h2⟩ := vrs2 (u := ρ x0) (v := ρ i0) hvs
      exact val_ok hr h hrun rfl fun z hz => index_sim hz h1 h2 w
    · cases h
  · rename_i x0 ix
    split at h
    · rename_i l
      refine val_ok hr h hrun (c := Instr.extract (ρ x0) ix) rfl fun z hz => ?_
      have hx := vrs1 (v := ρ x0) hvs
      generalize ρ x0 = q at hx
      cases hx with
      | data _ _ hd => cases hd
      | tuple _ l' hl =>
        obtain ⟨v, hv, hvr⟩ := hl.get hz
        exact ⟨v, by simp [Instr.extract, hv], hvr⟩
    · cases h
  · rename_i args argTypes
    have hv : VRs m vs (args.toList.map ρ) := by simpa [Op.operands, Call.operands] using hvs
    have he : (execOp ρ ⟨dst, .call ⟨.builtin .len, args, argTypes⟩, ty, pos, after, guard⟩) = builtin .len argTypes ty (args.map fun | .const _ => true | _ => false) (args.toList.map ρ).toArray := by
      simp only [execOp, resolve, pure_bind, invoke]
      rw [map_toList_toArray ρ args]
      rfl
    generalize hcl : args.toList.map ρ = cl at hv he
    split at h
    · rename_i t x hat
      cases hv with
      | cons _ cv _ _ h1 h2 =>
        cases h2
        have hat' : argTypes[0]? = some t := by rw [← Array.getElem?_toList, hat]; rfl
        rw [he]
        split at h
        · rename_i v hv
          simp at h; subst h
          simp [Req.run] at hrun; obtain ⟨rfl, rfl⟩ := hrun
          obtain ⟨r, g1, g2⟩ := len_sim (P := P) hv h1 hat' ty w
          have : (builtin .len argTypes ty (args.map fun | .const _ => true | _ => false) [cv].toArray).run P w = .ok (.value r) w := by
            simp only [builtin, Sem.run_bind]
            rw [show [cv].toArray = #[cv] from rfl, g1]; rfl
          rw [this]
          exact nextOk_value (Ext.refl m w) hr g2
        · cases h
    · cases h
  · rename_i args argTypes
    have hv : VRs m vs (args.toList.map ρ) := by simpa [Op.operands, Call.operands] using hvs
    have he : (execOp ρ ⟨dst, .call ⟨.builtin .append, args, argTypes⟩, ty, pos, after, guard⟩) = builtin .append argTypes ty (args.map fun | .const _ => true | _ => false) (args.toList.map ρ).toArray := by
      simp only [execOp, resolve, pure_bind, invoke]
      rw [map_toList_toArray ρ args]
      rfl
    generalize hcl : args.toList.map ρ = cl at hv he
    split at h
    · rename_i t t' s x hat
      split at h
      · rename_i d hd
        have hat' : argTypes = #[t, t'] := by
          apply Array.ext'; simpa using hat
        subst hat'
        obtain ⟨u, v, rfl⟩ : ∃ u v, cl = [u, v] := by
          cases hv with | cons _ u _ _ _ h2 => cases h2 with | cons _ v _ _ _ h3 => cases h3; exact ⟨u, v, rfl⟩
        obtain ⟨h1, h2⟩ := vrs2 hv
        rw [he]
        obtain ⟨r, w', m', g1, g2, g3, g4⟩ := append_ok (P := P) hr hd h1 h2 h rfl hrun hf ty
        have : (builtin .append #[t, t'] ty (args.map fun | .const _ => true | _ => false) [u, v].toArray).run P w = .ok (.value r) w' := by
          simp only [builtin, Sem.run_bind]
          rw [show [u, v].toArray = #[u, v] from rfl, g1]; rfl
        rw [this]
        exact nextOk_value g2 g3 g4
      · cases h
    · cases h
  · rename_i args argTypes
    have hv : VRs m vs (args.toList.map ρ) := by simpa [Op.operands, Call.operands] using hvs
    have he : (execOp ρ ⟨dst, .call ⟨.builtin .min, args, argTypes⟩, ty, pos, after, guard⟩) = builtin .min argTypes ty (args.map fun | .const _ => true | _ => false) (args.toList.map ρ).toArray := by
      simp only [execOp, resolve, pure_bind, invoke]
      rw [map_toList_toArray ρ args]
      rfl
    generalize hcl : args.toList.map ρ = cl at hv he
    split at h
    · rename_i x y
      obtain ⟨u, v, rfl⟩ : ∃ u v, cl = [u, v] := by
        cases hv with | cons _ u _ _ _ h2 => cases h2 with | cons _ v _ _ _ h3 => cases h3; exact ⟨u, v, rfl⟩
      obtain ⟨h1, h2⟩ := vrs2 hv
      rw [he]
      split at h
      · rename_i z hz
        simp only [Option.some.injEq] at h; subst h
        simp [Req.run] at hrun; obtain ⟨rfl, rfl⟩ := hrun
        unfold minP at hz
        split at hz
        · split at hz
          · rename_i hk
            subst hk
            simp only [Option.some.injEq] at hz; subst hz
            cases h1 with | data _ _ h1 => cases h2 with | data _ _ h2 =>
            cases h1; cases h2
            exact nextOk_value (Ext.refl m w) hr (.data _ _ (.int _ _))
          · cases hz
        · cases hz
      · cases h
    · cases h
  · rename_i args argTypes
    have hv : VRs m vs (args.toList.map ρ) := by simpa [Op.operands, Call.operands] using hvs
    have he : (execOp ρ ⟨dst, .call ⟨.builtin .delete, args, argTypes⟩, ty, pos, after, guard⟩) = builtin .delete argTypes ty (args.map fun | .const _ => true | _ => false) (args.toList.map ρ).toArray := by
      simp only [execOp, resolve, pure_bind, invoke]
      rw [map_toList_toArray ρ args]
      rfl
    generalize hcl : args.toList.map ρ = cl at hv he
    split at h
    · rename_i t t' mp k hat
      obtain ⟨u, v, rfl⟩ : ∃ u v, cl = [u, v] := by
        cases hv with | cons _ u _ _ _ h2 => cases h2 with | cons _ v _ _ _ h3 => cases h3; exact ⟨u, v, rfl⟩
      obtain ⟨h1, h2⟩ := vrs2 hv
      have hat' : argTypes[0]? = some t := by rw [← Array.getElem?_toList, hat]; rfl
      rw [he]
      obtain ⟨w', g1, g2, g3, rfl⟩ := delete_ok (P := P) hr h rfl hrun h1 h2 hat' ty
      have : (builtin .delete argTypes ty (args.map fun | .const _ => true | _ => false) [u, v].toArray).run P w = .ok (.value (.tuple #[])) w' := by
        simp only [builtin, Sem.run_bind]
        rw [show [u, v].toArray = #[u, v] from rfl, g1]; rfl
      rw [this]
      exact nextOk_value g2 g3 (.tuple [] [] .nil)
    · cases h
  · cases h
theorem place_free {r : PV} {st st' : St} {v : PV} (h : (v, st') = place r st) : st.next ≤ st'.next := by
  unfold place at h
  split at h <;> (obtain ⟨_, rfl⟩ := Prod.mk.inj h) <;> simp [St.new]
theorem R1.vr {a : PV} {v : Value} (h : R1 m.K a v) : VR m a v := by
  cases h with
  | data _ _ hd => exact .data _ _ hd
  | agg l l' hl => exact .agg _ _ hl.vrs
theorem R1s.vrs {l : List PV} {l' : List Value} (h : R1s m.K l l') : VRs m l l' := by
  induction l generalizing l' with
  | nil => cases h; exact .nil
  | cons a l ih => cases h with | cons _ v _ l' h1 h2 => exact .cons _ _ _ _ h1.vr (ih h2)
theorem call_sim {st : St} (hr : Rel m st.heap w) {f : FuncId} {fn : Func} (hfn : P.funcs[f]? = some fn) (hb : fn.body.isSome = true) (hn : (fn.name == "runtime.NumGoroutine") = false) {vs : List PV} {v : PV} {st' : St} {bs : List Nat} (hc : CallR P f vs st v st' bs)
    (hf : ∀ b, st.next ≤ b → b < st'.next → st.heap b = none) {cargs : List Value} (hvs : VRs m vs cargs) (ro : Option Nat) :
    NextOk P ro m w st'.heap v ((callFunc f cargs.toArray).run P w) := by
  obtain ⟨args, conts, r, conts', h1, h2, h3, h4, h5, h6⟩ := hc.ex
  have hnd := distinct_nodup h2
  obtain ⟨Bs, g1, g2, g3⟩ := getBoxes_rel hr rfl h3
  have hargs := toArgs_rel (bs0 := bs) g3 h1 hvs (fun i b hb => by rw [Nat.zero_add]; exact hb)
  have hBnd : Bs.Nodup := by
    refine List.pairwise_iff_getElem.2 fun i j hi hj hij heq => ?_
    obtain ⟨Bi, a1, a2⟩ := g3 i _ (List.getElem?_eq_getElem (show i < bs.length by omega))
    obtain ⟨Bj, a3, a4⟩ := g3 j _ (List.getElem?_eq_getElem (show j < bs.length by omega))
    rw [List.getElem?_eq_getElem hi] at a1
    rw [List.getElem?_eq_getElem hj] at a3
    cases a1
    cases a3
    rw [← heq] at a4
    exact List.pairwise_iff_getElem.1 hnd i j (by omega) (by omega) hij (hr.bapart _ _ _ a2 a4 (by obtain ⟨cs, hc⟩ := getBoxes_live h3 bs[i] (List.getElem_mem _); rw [hc]; exact not_dead rfl) (by obtain ⟨cs, hc⟩ := getBoxes_live h3 bs[j] (List.getElem_mem _); rw [hc]; exact not_dead rfl))
  have hcall := h5 m.K w Bs cargs hr.fro g1 hBnd hargs
  obtain ⟨body, hbody⟩ := Option.isSome_iff_exists.1 hb
  have hrun : (callFunc f cargs.toArray).run P w = .ok (.enter f cargs.toArray) w := by
    simp only [callFunc, Sem.run_bind, run_program, Result.andThen_ok, hfn, hn, Bool.false_eq_true, if_false, hbody, Option.isNone_some]
    rfl
  rw [hrun]
  intro o a K Q hK
  refine ⟨fun h => by simp [Fw, Fence.wide] at h, ?_⟩
  have hcall' : CallsIn (Fw ro) (0 - 1) P f cargs.toArray w (fun e w' => ∃ K' v, e = .returned v ∧ Came m.K w Bs r conts' K' v w') := hcall
  refine hcall'.mono ?_
  rintro e w' ⟨K', u, rfl, hcame⟩
  obtain ⟨k1, k2⟩ := hr.came hcame g3 g2 (getBoxes_live h3) (st := st) (st' := setBoxes st bs conts') rfl rfl hnd h4
  have hplain : (v, st') = (r, setBoxes st bs conts') → VR { m with K := K' } r u → K (a.put o.dst u) w' := by
    intro he hv
    obtain ⟨rfl, rfl⟩ := Prod.mk.inj he
    exact hK _ _ _ k1 k2 hv
  have hnext : (setBoxes st bs conts').next = st.next := setBoxes_next
  have hfree : (v, st') = ((setBoxes st bs conts').next.casesOn (PV.undef) (fun _ => PV.undef), st') → True := fun _ => trivial
  cases hcame.val with
  | one _ _ hone =>
    refine hplain ?_ (R1.vr (m := { m with K := K' }) hone)
    rw [h6]
    cases hone with
    | data _ _ hd => cases hd <;> rfl
    | agg => rfl
  | tuple l l' hl => exact hplain h6 (.tuple _ _ (R1s.vrs (m := { m with K := K' }) hl))
  | own0 e =>
    simp only [place, Prod.mk.injEq] at h6
    obtain ⟨rfl, rfl⟩ := h6
    have hfr : (setBoxes st bs conts').heap (setBoxes st bs conts').next = none := by
      rw [hnext]
      have := hf st.next (Nat.le_refl _) (by simp [St.new, hnext])
      rw [setBoxes_heap hnd h4]
      cases hi : bs.idxOf? st.next with
      | none => exact this
      | some i =>
        exfalso
        have hbi : bs[i]? = some st.next := by
          have := List.findIdx?_eq_some_iff_getElem.1 (by simpa [List.idxOf?] using hi)
          obtain ⟨hlt, heq, _⟩ := this
          rw [List.getElem?_eq_getElem hlt]
          simpa using heq
        obtain ⟨B, a1, a2⟩ := g3 i _ hbi
        obtain ⟨cs, hcs, _⟩ := hr.bdom _ _ a2
        rw [this] at hcs; cases hcs
    have := k2.newOwn0 hfr e
    refine hK _ _ w' k1 (this.congr fun x => ?_) (.acc0 _)
    simp [St.new]
  | own rows B e c ks vs' ty hbase hk hR hpos hcap hw hsz =>
    simp only [place, Prod.mk.injEq] at h6
    obtain ⟨rfl, rfl⟩ := h6
    have hfr : (setBoxes st bs conts').heap (setBoxes st bs conts').next = none := by
      rw [hnext]
      have := hf st.next (Nat.le_refl _) (by simp [St.new, hnext])
      rw [setBoxes_heap hnd h4]
      cases hi : bs.idxOf? st.next with
      | none => exact this
      | some i =>
        exfalso
        have hbi : bs[i]? = some st.next := by
          have := List.findIdx?_eq_some_iff_getElem.1 (by simpa [List.idxOf?] using hi)
          obtain ⟨hlt, heq, _⟩ := this
          rw [List.getElem?_eq_getElem hlt]
          simpa using heq
        obtain ⟨B, a1, a2⟩ := g3 i _ hbi
        obtain ⟨cs, hcs, _⟩ := hr.bdom _ _ a2
        rw [this] at hcs; cases hcs
    have himg : ¬ J.img { m with K := K' } B := by
      intro hi
      have : m.img B := hi
      have := hr.lt_img this
      omega
    obtain ⟨q1, q2, q3⟩ := k2.adopt hfr hk hpos hR.len hw rfl himg
    refine hK _ _ w' ⟨k1.le.trans q1, k1.size, k1.bimg, fun x B' n' e' t' hx => ?_, k1.knew, k1.same, k1.os, k1.output, k1.frozen, k1.env⟩ (q2.congr fun x => rfl) ?_
    · rcases q3 x B' n' e' t' hx with h | rfl
      · exact k1.oimg x _ _ _ _ h
      · exact .inr hbase
    · exact .acc _ rows B c B rows.length e vs'.size (by show (if _ then _ else _) = _; rw [if_pos rfl]) hpos (Nat.le_refl _) (fun _ => ⟨rfl, hsz⟩) (hR.dr hpos hk (List.prefix_refl _) hcap)
end
end Go.Vi
