/-
  The plain law of the turns of clocks (own work): what has come, what is still to come.
-/
import Derived.Test.YtikdflkllffaaaaRtHeap
namespace Go.Rt

def period (cl : Row) (c : Int) : Int := (cl c.toNat).1
def offset (cl : Row) (c : Int) : Int := (cl c.toNat).2
/-- All clocks are ones. -/
def Good (cl : Row) (m : Nat) : Prop := ∀ k, k < m → 1 ≤ (cl k).1 ∧ (cl k).1 ≤ 64 ∧ 0 ≤ (cl k).2 ∧ (cl k).2 < (cl k).1

structure St (cl : Row) (m : Nat) (below : Int) (pre : List T) (f : Row) (tk : Int → Int) : Prop where
  bag : Bag m f (fun c => 0 ≤ c ∧ c < m) tk
  heap : Heap m f
  pos : ∀ c : Int, 0 ≤ c → c < m → 0 ≤ tk c ∧ tk c ≤ below + 64
  cong : ∀ c : Int, 0 ≤ c → c < m → tk c % period cl c = offset cl c
  mem : ∀ t c, (t, c) ∈ pre ↔ 0 ≤ c ∧ c < m ∧ 0 ≤ t ∧ t % period cl c = offset cl c ∧ t < tk c
  nodup : pre.Nodup
  low : ∀ x ∈ pre, x.1 < below

/-- All turns below a tick, each once. -/
structure All (cl : Row) (m : Nat) (below : Int) (xs : List T) : Prop where
  nodup : xs.Nodup
  mem : ∀ t c, (t, c) ∈ xs ↔ 0 ≤ c ∧ c < m ∧ 0 ≤ t ∧ t < below ∧ t % period cl c = offset cl c

theorem Good.at {cl : Row} {m : Nat} (h : Good cl m) {c : Int} (h0 : 0 ≤ c) (h1 : c < m) : 1 ≤ period cl c ∧ period cl c ≤ 64 ∧ 0 ≤ offset cl c ∧ offset cl c < period cl c := h c.toNat (by omega)

theorem St.all {cl : Row} {m : Nat} {below : Int} {pre : List T} {f : Row} {tk : Int → Int} (h : St cl m below pre f tk) (hd : m = 0 ∨ below ≤ (f 0).1) : All cl m below pre := by
  refine ⟨h.nodup, fun t c => ⟨fun hm => ?_, fun ⟨h0, h1, h2, h3, h4⟩ => ?_⟩⟩
  · obtain ⟨h0, h1, h2, h3, _⟩ := (h.mem t c).1 hm
    exact ⟨h0, h1, h2, h.low _ hm, h3⟩
  · refine (h.mem t c).2 ⟨h0, h1, h2, h4, ?_⟩
    rcases hd with hd | hd
    · subst hd; omega
    · obtain ⟨k, hk, hc⟩ := h.bag.has c ⟨h0, h1⟩
      have hr := h.heap.root k hk
      have he := (h.bag.each k hk).2
      rw [hc] at he
      unfold lt at hr
      omega

theorem mod_step {t t' p o : Int} (h : t % p = o) (h' : t' % p = o) (h1 : t ≤ t') (h2 : t' < t + p) : t' = t := by
  have e : (t' - t) % p = 0 := Int.emod_eq_emod_iff_emod_sub_eq_zero.1 (by rw [h, h'])
  rw [Int.emod_eq_of_lt (by omega) (by omega)] at e
  omega

def bump (tk : Int → Int) (c t : Int) : Int → Int := fun c' => if c' = c then t else tk c'

theorem St.step {cl : Row} {n : Nat} {below : Int} {pre : List T} {f f' f'' : Row} {tk : Int → Int} (hg : Good cl (n + 1)) (h : St cl (n + 1) below pre f tk) (hb : (f 0).1 < below)
    (h1 : Same n (swp f 0 n) f') (h2 : Same (n + 1) (put f' n ((f 0).1 + period cl (f 0).2, (f 0).2)) f'') (hH : Heap (n + 1) f'') :
    St cl (n + 1) below (pre ++ [f 0]) f'' (bump tk (f 0).2 ((f 0).1 + period cl (f 0).2)) := by
  obtain ⟨⟨c0, c1⟩, et⟩ := h.bag.each 0 (by omega)
  obtain ⟨⟨t, c⟩, hf0⟩ : ∃ x, f 0 = x := ⟨_, rfl⟩
  rw [hf0] at c0 c1 et hb h2 ⊢
  simp only at c0 c1 et hb h2 ⊢
  obtain ⟨g1, g2, g3, g4⟩ := hg.at c0 c1
  have hp := h.pos c c0 c1
  have hc := h.cong c c0 c1
  refine ⟨?_, hH, fun c' a b => ?_, fun c' a b => ?_, fun t' c' => ?_, ?_, fun x hx => ?_⟩
  · have b1 := ((h.bag.same (Same.swp f (show 0 < n + 1 by omega) (show n < n + 1 by omega))).drop).same h1
    rw [swp_r, hf0] at b1
    refine (b1.put (t + period cl c, c) (fun hx => hx.2 rfl) (fun c => 0 ≤ c ∧ c < ((n + 1 : Nat) : Int)) (bump tk c (t + period cl c)) (fun c' => ⟨fun hx => ?_, fun hx => ?_⟩) (fun c' hx => ?_) ?_).same h2
    · by_cases e : c' = c
      · exact .inr e
      · exact .inl ⟨hx, e⟩
    · rcases hx with hx | hx
      · exact hx.1
      · subst hx; exact ⟨c0, c1⟩
    · simp [bump, hx.2]
    · simp [bump]
  · unfold bump
    split
    · omega
    · exact h.pos c' a b
  · unfold bump
    split
    · rename_i e; subst e; rw [et, Int.add_emod_right]; exact hc
    · exact h.cong c' a b
  · rw [List.mem_append, h.mem t' c', List.mem_singleton]
    unfold bump
    constructor
    · rintro (⟨a, b, x, y, z⟩ | e)
      · refine ⟨a, b, x, y, ?_⟩
        split
        · rename_i e; subst e; omega
        · exact z
      · cases e
        exact ⟨c0, c1, by omega, by rw [et]; exact hc, by simp; omega⟩
    · rintro ⟨a, b, x, y, z⟩
      split at z
      · rename_i e
        subst e
        by_cases q : t' < tk c'
        · exact .inl ⟨a, b, x, y, q⟩
        · right
          have := mod_step hc y (by omega) (by omega)
          rw [this, ← et]
      · exact .inl ⟨a, b, x, y, z⟩
  · refine List.nodup_append.2 ⟨h.nodup, by simp, fun x hx y hy => ?_⟩
    rw [List.mem_singleton] at hy
    subst hy
    rintro rfl
    have := (h.mem t c).1 hx
    omega
  · rcases List.mem_append.1 hx with hx | hx
    · exact h.low x hx
    · rw [List.mem_singleton] at hx; subst hx; exact hb

theorem St.step_k {cl : Row} {k : Nat} {below : Int} {pre : List T} {f f' f'' : Row} {tk : Int → Int} (hk : 0 < k) (hg : Good cl k) (h : St cl k below pre f tk) {t : Int} {c : Nat} (hf : f 0 = (t, (c : Int))) (hb : t < below)
    (h1 : Same (k - 1) (swp f 0 (k - 1)) f') (h2 : Same (k - 1 + 1) (put f' (k - 1) (t + (cl c).1, (c : Int))) f'') (hH : Heap (k - 1 + 1) f'') :
    St cl k below (pre ++ [(t, (c : Int))]) f'' (bump tk c (t + (cl c).1)) := by
  obtain ⟨n, rfl⟩ : ∃ n, k = n + 1 := ⟨k - 1, by omega⟩
  have e : period cl (f 0).2 = (cl c).1 := by rw [hf]; simp [period]
  have := h.step hg (by rw [hf]; exact hb) h1 (by rw [e, hf]; exact h2) hH
  rw [e, hf] at this
  exact this

/-- At the start. -/
theorem St.start {cl : Row} {m : Nat} {below : Int} {f : Row} (hg : Good cl m) (hb : 0 ≤ below) (h : Bag m f (fun c => 0 ≤ c ∧ c < m) (offset cl)) (hH : Heap m f) : St cl m below [] f (offset cl) :=
  ⟨h, hH, fun c a b => (by have := hg.at a b; omega), fun c a b => (by have := hg.at a b; exact Int.emod_eq_of_lt this.2.2.1 this.2.2.2),
   fun t c => ⟨fun h => (by cases h), fun ⟨a, b, x, y, z⟩ => (by
    have hh := hg.at a b
    rw [Int.emod_eq_of_lt x (by omega)] at y
    omega)⟩, List.nodup_nil, fun x hx => (by cases hx)⟩

/-- One more clock is put in at the start. -/
theorem bag_start {cl : Row} {k : Nat} {f f' : Row} (h : Bag k f (fun c => 0 ≤ c ∧ c < k) (offset cl)) (hs : Same (k + 1) (put f k ((cl k).2, (k : Int))) f') :
    Bag (k + 1) f' (fun c => 0 ≤ c ∧ c < ((k + 1 : Nat) : Int)) (offset cl) :=
  (h.put ((cl k).2, (k : Int)) (by rintro ⟨_, h⟩; simp at h) _ (offset cl) (fun c => by simp only; omega) (fun _ _ => rfl) (by simp [offset])).same hs

/-! ### What is left -/
def rest (tk : Int → Int) (below : Int) : Nat → Nat
  | 0 => 0
  | k + 1 => rest tk below k + (below - tk k).toNat
theorem rest_le {tk tk' : Int → Int} {below : Int} : ∀ m : Nat, (∀ c : Int, 0 ≤ c → c < m → tk c ≤ tk' c) → rest tk' below m ≤ rest tk below m
  | 0, _ => Nat.le_refl _
  | m + 1, h => by
    have := rest_le (below := below) m (fun c a b => h c a (by omega))
    have := h m (by omega) (by omega)
    simp only [rest]
    omega
theorem rest_bump {tk : Int → Int} {below t c : Int} : ∀ m : Nat, 0 ≤ c → c < m → tk c < below → tk c < t → rest (bump tk c t) below m < rest tk below m
  | 0, a, b, _, _ => by omega
  | m + 1, a, b, h, h' => by
    simp only [rest]
    by_cases e : c = m
    · have h1 : rest (bump tk c t) below m ≤ rest tk below m := rest_le m (fun c' x y => by
        unfold bump
        split
        · omega
        · exact Int.le_refl _)
      have : bump tk c t m = t := by simp [bump, e]
      rw [this, ← e]
      omega
    · have := rest_bump (tk := tk) m a (by omega) h h'
      have e' : bump tk c t m = tk m := by simp [bump, Ne.symm e]
      rw [e']
      omega
end Go.Rt
