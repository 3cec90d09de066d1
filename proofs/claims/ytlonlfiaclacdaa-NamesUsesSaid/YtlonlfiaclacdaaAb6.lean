/-
  OPERATIONS ON VALUES ALONE (own work).
-/
import Derived.Test.YtlonlfiaclacdaaAb5
import Derived.Laws.StructEq
namespace Go.Ab

section
variable {P : Program} {m : Inj} {w : World}

theorem blt_lt {a b : Nat} (h : Nat.blt a b = true) : a < b := (blt_iff a b).1 h
theorem ble_le {a b : Nat} (h : Nat.ble a b = true) : a ≤ b := Nat.le_of_ble_eq_true h

theorem fieldAddr_sim {t : TypeId} {x y : AV} {f : Nat} (h : fieldAddrA P t x f = some y) {v : Value} (hx : VR m x v) (w : World) :
    ∃ v', (Instr.fieldAt t v f).run P w = .ok v' w ∧ VR m y v' := by
  unfold fieldAddrA at h
  split at h
  · rename_i fd hfd
    obtain ⟨fs, hu, hf⟩ := fieldO_some hfd
    split at h
    · rename_i n hs
      split at h
      · rename_i b ver o
        simp at h; subst h
        cases hx with
        | ptr _ _ _ B t' e hm =>
          refine ⟨.pointer (some ⟨B, o + fd.offset, none⟩), ?_, .ptr _ _ _ _ _ _ hm⟩
          simp [Instr.fieldAt, run_underlying hu, hf, Instr.sureAddr, fieldPlace, run_sizeOf' hs, Addr.add_lit]
      · cases h
    · cases h
  · cases h

theorem part_sim {t : TypeId} {l : List AV} {cs : Array Value} {off : Nat} {y : AV} (h : partA P t l off = some y) (hl : VRs m l cs.toList) (w : World) :
    ∃ v, (part t cs off).run P w = .ok v w ∧ VR m y v := by
  unfold partA at h
  split at h
  · rename_i hag
    split at h
    · rename_i n hs
      simp at h; subst h
      refine ⟨.agg (cs.extract off (off + n)), by simp [part, run_isAgg' hag, run_sizeOf' hs], ?_⟩
      have := VR.agg (m := m) _ _ ((hl.drop off).take n)
      have e : (List.take n (List.drop off cs.toList)).toArray = cs.extract off (off + n) := by
        apply Array.ext'
        simp [Array.toList_extract, List.extract_eq_take_drop]
      rw [e] at this; exact this
    · cases h
  · rename_i hag
    obtain ⟨v, hv, hvr⟩ := hl.get h
    exact ⟨v, by simp [part, run_isAgg' hag]; rw [show cs[off]? = some v by simpa using hv]; rfl, hvr⟩
  · cases h

theorem field_sim {t : TypeId} {x y : AV} {f : Nat} (h : fieldA P t x f = some y) {v : Value} (hx : VR m x v) (w : World) :
    ∃ v', (Instr.field t v f).run P w = .ok v' w ∧ VR m y v' := by
  unfold fieldA at h
  split at h
  · rename_i fd hfd
    obtain ⟨fs, hu, hf⟩ := fieldO_some hfd
    split at h
    · rename_i l
      cases hx with
      | agg _ l' hl =>
        obtain ⟨v', h1, h2⟩ := part_sim (cs := l'.toArray) h (by simpa using hl) w
        exact ⟨v', by simp [Instr.field, run_underlying hu, hf, asAgg, h1], h2⟩
    · cases h
  · cases h

theorem indexAddr_sim {t : TypeId} {x i y : AV} (h : indexAddrA P t x i = some y) {v u : Value} (hx : VR m x v) (hi : VR m i u) (w : World) :
    ∃ v', (Instr.indexAt t v u).run P w = .ok v' w ∧ VR m y v' := by
  unfold indexAddrA at h
  split at h
  · rename_i n hn
    obtain ⟨k, rfl⟩ := nat_some hn hi
    split at h
    · rename_i e hu
      split at h
      · rename_i b ver o len cap
        split at h
        · rename_i size hs
          cases hlt : Nat.blt n len with
          | false => simp [hlt] at h
          | true =>
            simp [hlt] at h; subst h
            have hlt' := blt_lt hlt
            cases hx with
            | slice _ _ _ _ _ B t' e' c hm h1 h2 h3 =>
              refine ⟨.pointer (some ⟨B, o + n * size, none⟩), ?_, .ptr _ _ _ _ _ _ hm⟩
              have hc : (0 : Int) ≤ (n : Int) ∧ (n : Int) < (len : Int) := by omega
              simp [Instr.indexAt, asIntOf, run_underlying hu, run_sizeOf' hs, Addr.add_lit, hlt']
        · cases h
      · cases h
    · rename_i len e hu
      split at h
      · rename_i b ver o
        split at h
        · rename_i size hs
          cases hlt : Nat.blt n len with
          | false => simp [hlt] at h
          | true =>
            simp [hlt] at h; subst h
            have hlt' := blt_lt hlt
            cases hx with
            | ptr _ _ _ B t' e' hm =>
              refine ⟨.pointer (some ⟨B, o + n * size, none⟩), ?_, .ptr _ _ _ _ _ _ hm⟩
              simp [Instr.indexAt, asIntOf, run_underlying hu, Instr.sureAddr, run_sizeOf' hs, Addr.add_lit, hlt']
        · cases h
      · cases h
    · cases h
  · cases h

/-! ### Strings -/

theorem encB_drop (l : List UInt8) : ∀ i, encB l >>> (8 * i) = encB (l.drop i) := by
  induction l with
  | nil => intro i; simp [encB]
  | cons b r ih =>
    intro i
    cases i with
    | zero => simp
    | succ i =>
      have : encB (b :: r) >>> 8 = encB r := by
        simp only [encB, Nat.shiftRight_eq_div_pow]
        have := b.toNat_lt
        omega
      rw [show 8 * (i + 1) = 8 + 8 * i by omega, Nat.shiftRight_add, this, ih]
      simp

theorem encB_take (l : List UInt8) : ∀ i, encB l % 2 ^ (8 * i) = encB (l.take i) := by
  induction l with
  | nil => intro i; simp [encB]
  | cons b r ih =>
    intro i
    cases i with
    | zero => simp [encB]; omega
    | succ i =>
      simp only [encB, List.take_succ_cons]
      rw [← ih i, show 8 * (i + 1) = 8 + 8 * i by omega, Nat.pow_add]
      have h8 : (2 : Nat) ^ 8 = 256 := rfl
      rw [h8]
      have hb := b.toNat_lt
      rw [Nat.add_mod, Nat.mul_mod_mul_left]
      have : b.toNat % (256 * 2 ^ (8 * i)) = b.toNat := Nat.mod_eq_of_lt (by
        have : 1 ≤ 2 ^ (8 * i) := Nat.one_le_two_pow
        have : 256 * 1 ≤ 256 * 2 ^ (8 * i) := Nat.mul_le_mul_left _ this
        omega)
      rw [this]
      apply Nat.mod_eq_of_lt
      have h1 : encB r % 2 ^ (8 * i) < 2 ^ (8 * i) := Nat.mod_lt _ (Nat.two_pow_pos _)
      have h2 : 256 * (encB r % 2 ^ (8 * i) + 1) ≤ 256 * 2 ^ (8 * i) := Nat.mul_le_mul_left _ h1
      omega

theorem encB_get (l : List UInt8) (i : Nat) (b : UInt8) (h : l[i]? = some b) : (encB l >>> (8 * i)) % 256 = b.toNat := by
  rw [encB_drop]
  have hd : l.drop i = b :: l.drop (i + 1) := by
    obtain ⟨hi, he⟩ := List.getElem?_eq_some_iff.1 h
    rw [List.drop_eq_getElem_cons hi, he]
  rw [hd]
  simp only [encB]
  have := b.toNat_lt
  omega

theorem encB_append (l k : List UInt8) : encB (l ++ k) = encB l + encB k <<< (8 * l.length) := by
  induction l with
  | nil => simp [encB]
  | cons b r ih =>
    simp only [List.cons_append, encB, ih, List.length_cons, Nat.shiftLeft_eq]
    rw [show 8 * (r.length + 1) = 8 * r.length + 8 by omega, Nat.pow_add]
    have h8 : (2 : Nat) ^ 8 = 256 := rfl
    rw [h8, Nat.mul_add, ← Nat.mul_assoc, Nat.add_assoc]
    congr 2
    rw [Nat.mul_comm 256 (encB k), Nat.mul_assoc, Nat.mul_comm 256, ]

theorem encB_inj : ∀ (l k : List UInt8), l.length = k.length → encB l = encB k → l = k
  | [], [], _, _ => rfl
  | [], _ :: _, h, _ => by simp at h
  | _ :: _, [], h, _ => by simp at h
  | a :: l, b :: k, h, e => by
    simp only [encB] at e
    have ha := a.toNat_lt
    have hb := b.toNat_lt
    have h1 : a.toNat = b.toNat := by omega
    have h2 : encB l = encB k := by omega
    rw [UInt8.toNat_inj.1 h1, encB_inj l k (by simpa using h) h2]

theorem str_eq {s t : ByteArray} {n a k b : Nat} (h1 : s.size = n) (h2 : encB s.data.toList = a) (h3 : t.size = k) (h4 : encB t.data.toList = b) :
    (Nat.beq n k && Nat.beq a b) = (s.toList == t.toList) := by
  rw [ByteArray.toList_eq, ByteArray.toList_eq]
  have hs : s.data.toList.length = n := (Array.length_toList (xs := s.data)).trans h1
  have ht : t.data.toList.length = k := (Array.length_toList (xs := t.data)).trans h3
  by_cases e : s.data.toList = t.data.toList
  · rw [e] at h2 hs
    have e1 : n = k := by omega
    have e2 : a = b := by omega
    rw [e1, e2, beq_self, beq_self, e]
    simp
  · have : (s.data.toList == t.data.toList) = false := by simpa using e
    rw [this]
    by_cases hn : n = k
    · have : a ≠ b := fun hab => e (encB_inj _ _ (by omega) (by omega))
      simp [beq_ne this]
    · simp [beq_ne hn]

theorem index_sim {t : TypeId} {x i y : AV} (h : indexA P t x i = some y) {v u : Value} (hx : VR m x v) (hi : VR m i u) (w : World) :
    ∃ v', (Instr.index t v u).run P w = .ok v' w ∧ VR m y v' := by
  unfold indexA at h
  split at h
  · rename_i n hn
    obtain ⟨k, rfl⟩ := nat_some hn hi
    split at h
    · rename_i hu
      split at h
      · rename_i len code
        cases hlt : Nat.blt n len with
        | false => simp [hlt] at h
        | true =>
          simp only [hlt, cond_true, Option.some.injEq] at h; subst h
          have hlt' := blt_lt hlt
          cases hx with
          | str s _ _ h1 h2 =>
            have hsz : n < s.size := by omega
            obtain ⟨b, hb⟩ : ∃ b, s[n]? = some b := ⟨s[n], by rw [getElem?_pos s n hsz]⟩
            have hb' : s.data.toList[n]? = some b := by
              have : s[n]? = s.data[n]? := by
                rw [getElem?_pos s n hsz, getElem?_pos s.data n hsz]; rfl
              rw [this] at hb
              simpa using hb
            refine ⟨.int .u8 b.toNat, ?_, ?_⟩
            · simp [Instr.index, asIntOf, run_underlying hu, hb]
            · have := encB_get _ _ _ hb'
              rw [h2] at this
              rw [this]
              exact .int _ _
      · cases h
    · rename_i len e hu
      split at h
      · rename_i cs
        split at h
        · rename_i size hs
          cases hlt : Nat.blt n len with
          | false => simp [hlt] at h
          | true =>
            simp [hlt] at h
            have hlt' := blt_lt hlt
            cases hx with
            | agg _ l' hl =>
              obtain ⟨v', h1, h2⟩ := part_sim (cs := l'.toArray) h (by simpa using hl) w
              exact ⟨v', by simp [Instr.index, asIntOf, run_underlying hu, run_sizeOf' hs, hlt', h1], h2⟩
        · cases h
      · cases h
    · cases h
  · cases h

/-- An optional bound and its value. -/
def ORelNat (o : Option Nat) (v : Option Value) : Prop := match o, v with
  | none, none => True
  | some n, some u => ∃ k, u = .int k (n : Int)
  | _, _ => False

theorem bound_sim {k : IntKind} {n y : Nat} (c : BoundsCode) (h : n ≤ y) (w : World) : (Instr.sliceBound (.int k (n : Int)) y c).run P w = .ok n w := by
  have : (0 : Int) ≤ (n : Int) ∧ (n : Int) ≤ (y : Int) := by omega
  simp [Instr.sliceBound, asIntOf, h]

theorem bounds_sim {isSlice : Bool} {len cap : Nat} {low high max : Option Nat} {lo hi mx : Option Value} (h1 : ORelNat low lo) (h2 : ORelNat high hi) (h3 : ORelNat max mx)
    (b1 : max.getD cap ≤ cap) (b2 : high.getD len ≤ max.getD cap ∨ (high = none ∧ max = none)) (b3 : low.getD 0 ≤ high.getD len) (b4 : max = none ∨ high ≠ none) (w : World) :
    (Instr.sliceBounds isSlice len cap lo hi mx).run P w = .ok (low.getD 0, high.getD len, max.getD cap) w := by
  have hm : ∃ M : Sem Nat, (∀ w, M.run P w = .ok (max.getD cap) w) ∧ (match mx with
    | some v => Instr.sliceBound v cap (if isSlice then .slice3Acap else .slice3Alen)
    | none => pure cap) = M := by
    refine ⟨_, ?_, rfl⟩
    intro w
    cases max <;> cases mx <;> simp only [ORelNat] at h3
    · rfl
    · obtain ⟨k, rfl⟩ := h3; exact bound_sim _ (by simpa using b1) w
  obtain ⟨M, hM, hMe⟩ := hm
  unfold Instr.sliceBounds
  cases max <;> cases mx <;> simp only [ORelNat] at h3
  · simp only [Option.getD_none] at b1 b2 ⊢
    cases high <;> cases hi <;> simp only [ORelNat] at h2
    · cases low <;> cases lo <;> simp only [ORelNat] at h1
      · simp
      · obtain ⟨k, rfl⟩ := h1
        simp at b3
        simp [bound_sim _ b3]
    · obtain ⟨k2, rfl⟩ := h2
      have hb : _ ≤ cap := b2.resolve_right (by simp)
      simp only [Option.getD_some] at hb b3
      cases low <;> cases lo <;> simp only [ORelNat] at h1
      · simp [bound_sim _ hb]
      · obtain ⟨k, rfl⟩ := h1
        simp at b3
        simp [bound_sim _ hb, bound_sim _ b3]
  · obtain ⟨k3, rfl⟩ := h3
    have hne : high ≠ none := b4.resolve_left (by simp)
    cases high with
    | none => exact absurd rfl hne
    | some hn =>
      cases hi <;> simp only [ORelNat] at h2
      obtain ⟨k2, rfl⟩ := h2
      simp only [Option.getD_some] at b1 b2 b3 ⊢
      have hb := b2.resolve_right (by simp)
      cases low <;> cases lo <;> simp only [ORelNat] at h1
      · simp [bound_sim _ b1, bound_sim _ hb]
      · obtain ⟨k, rfl⟩ := h1
        simp at b3
        simp [bound_sim _ b1, bound_sim _ hb, bound_sim _ b3]

theorem size_extract (s : ByteArray) (l h : Nat) (h1 : l ≤ h) (h2 : h ≤ s.size) : (s.extract l h).size = h - l := by
  simp [ByteArray.size_extract]; omega

theorem data_extract' (s : ByteArray) (l h : Nat) : (s.extract l h).data.toList = (s.data.toList.drop l).take (h - l) := by
  simp [ByteArray.data_extract, Array.toList_extract, List.extract_eq_take_drop]

end
end Go.Ab
