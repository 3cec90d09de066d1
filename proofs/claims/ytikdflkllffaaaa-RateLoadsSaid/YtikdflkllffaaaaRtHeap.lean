/-
  The plain law of a binary heap (own work): rows of pairs as functions of an index; 'up' and 'down' as container/heap moves them.
-/
namespace Go.Rt

abbrev T := Int × Int

def lt (a b : T) : Prop := a.1 < b.1 ∨ (a.1 = b.1 ∧ a.2 < b.2)
instance (a b : T) : Decidable (lt a b) := by unfold lt; exact inferInstance

theorem lt_not {a b : T} (h : lt a b) : ¬ lt b a := by unfold lt at *; omega
theorem le_trans {a b c : T} (h1 : ¬ lt b a) (h2 : ¬ lt c b) : ¬ lt c a := by unfold lt at *; omega
theorem le_refl (a : T) : ¬ lt a a := by unfold lt; omega

abbrev Row := Nat → T
def swp (f : Row) (i j : Nat) : Row := fun k => if k = i then f j else if k = j then f i else f k
@[simp] theorem swp_l (f : Row) (i j : Nat) : swp f i j i = f j := by simp [swp]
@[simp] theorem swp_r (f : Row) (i j : Nat) : swp f i j j = f i := by unfold swp; split; { rename_i h; rw [h] }; simp
theorem swp_o (f : Row) {i j k : Nat} (h1 : k ≠ i) (h2 : k ≠ j) : swp f i j k = f k := by simp [swp, h1, h2]

/-- The same n things in another order. -/
def Same (n : Nat) (f g : Row) : Prop :=
  ∃ σ τ : Nat → Nat, ∀ k, k < n → σ k < n ∧ τ k < n ∧ σ (τ k) = k ∧ τ (σ k) = k ∧ g k = f (σ k)
theorem Same.refl (n : Nat) (f : Row) : Same n f f := ⟨id, id, fun _ h => ⟨h, h, rfl, rfl, rfl⟩⟩
theorem Same.trans {n : Nat} {f g h : Row} : Same n f g → Same n g h → Same n f h := by
  rintro ⟨s, t, H⟩ ⟨s', t', H'⟩
  refine ⟨fun k => s (s' k), fun k => t' (t k), fun k hk => ?_⟩
  obtain ⟨a1, a2, a3, a4, a5⟩ := H' k hk
  obtain ⟨b1, b2, b3, b4, b5⟩ := H k hk
  obtain ⟨c1, c2, c3, c4, c5⟩ := H _ a1
  obtain ⟨d1, d2, d3, d4, d5⟩ := H' _ b2
  exact ⟨c1, d2, by show s (s' (t' (t k))) = k; rw [d3, b3], by show t' (t (s (s' k))) = k; rw [c4, a4], by show h k = f (s (s' k)); rw [a5, c5]⟩
theorem Same.swp {n : Nat} (f : Row) {i j : Nat} (hi : i < n) (hj : j < n) : Same n f (swp f i j) := by
  let s : Nat → Nat := fun k => if k = i then j else if k = j then i else k
  have hs : ∀ k, k < n → s k < n := fun k hk => by show (if k = i then j else if k = j then i else k) < n; split; { exact hj }; split; { exact hi }; exact hk
  have hss : ∀ k, s (s k) = k := fun k => by
    show (if (if k = i then j else if k = j then i else k) = i then j else if (if k = i then j else if k = j then i else k) = j then i else (if k = i then j else if k = j then i else k)) = k
    split <;> rename_i h1 <;> (repeat' split at h1) <;> (repeat' split) <;> omega
  refine ⟨s, s, fun k hk => ⟨hs k hk, hs k hk, hss k, hss k, ?_⟩⟩
  show (if k = i then f j else if k = j then f i else f k) = f (if k = i then j else if k = j then i else k)
  split; { rfl }; split <;> rfl
theorem Same.all {n : Nat} {f g : Row} (h : Same n f g) {p : T → Prop} (hp : ∀ k, k < n → p (f k)) : ∀ k, k < n → p (g k) := by
  obtain ⟨s, t, H⟩ := h
  intro k hk
  obtain ⟨a1, a2, a3, a4, a5⟩ := H k hk
  rw [a5]; exact hp _ a1
theorem Same.some {n : Nat} {f g : Row} (h : Same n f g) {p : T → Prop} (hp : ∃ k, k < n ∧ p (f k)) : ∃ k, k < n ∧ p (g k) := by
  obtain ⟨s, t, H⟩ := h
  obtain ⟨k, hk, hpk⟩ := hp
  obtain ⟨a1, a2, a3, a4, a5⟩ := H k hk
  obtain ⟨b1, b2, b3, b4, b5⟩ := H _ a2
  exact ⟨t k, a2, by rw [b5, a3]; exact hpk⟩
theorem Same.inj {n : Nat} {f g : Row} (h : Same n f g) (hp : ∀ j k, j < n → k < n → (f j).2 = (f k).2 → j = k) : ∀ j k, j < n → k < n → (g j).2 = (g k).2 → j = k := by
  obtain ⟨s, t, H⟩ := h
  intro j k hj hk e
  obtain ⟨a1, a2, a3, a4, a5⟩ := H j hj
  obtain ⟨b1, b2, b3, b4, b5⟩ := H k hk
  rw [a5, b5] at e
  have := hp _ _ a1 b1 e
  rw [← a4, ← b4, this]

/-- No place holds less than the place above it. -/
def Heap (n : Nat) (f : Row) : Prop := ∀ k, 0 < k → k < n → ¬ lt (f k) (f ((k - 1) / 2))

theorem Heap.root {n : Nat} {f : Row} (h : Heap n f) : ∀ k, k < n → ¬ lt (f k) (f 0) := by
  intro k
  induction k using Nat.strongRecOn with
  | _ k ih =>
    intro hk
    by_cases h0 : k = 0
    · subst h0; exact le_refl _
    · exact le_trans (ih ((k - 1) / 2) (by omega) (by omega)) (h k (by omega) hk)

/-- Only the place j may hold less than what stands above it. -/
def UpAt (n : Nat) (f : Row) (j : Nat) : Prop :=
  (∀ k, 0 < k → k < n → k ≠ j → ¬ lt (f k) (f ((k - 1) / 2))) ∧ (∀ k, 0 < k → k < n → (k - 1) / 2 = j → 0 < j → ¬ lt (f k) (f ((j - 1) / 2)))
theorem UpAt.top {n : Nat} {f : Row} (h : UpAt n f 0) : Heap n f := fun k h0 hk => h.1 k h0 hk (by omega)
theorem UpAt.stop {n : Nat} {f : Row} {j : Nat} (h : UpAt n f j) (hl : ¬ lt (f j) (f ((j - 1) / 2))) : Heap n f := fun k h0 hk => by
  by_cases e : k = j
  · rw [e]; exact hl
  · exact h.1 k h0 hk e
theorem UpAt.step {n : Nat} {f : Row} {j : Nat} (h : UpAt n f j) (h0 : 0 < j) (hj : j < n) (hl : lt (f j) (f ((j - 1) / 2))) : UpAt n (swp f ((j - 1) / 2) j) ((j - 1) / 2) := by
  obtain ⟨i, hi⟩ : ∃ i, i = (j - 1) / 2 := ⟨_, rfl⟩
  rw [← hi] at hl ⊢
  have hij : i < j := by omega
  constructor
  · intro k k0 kn ki
    by_cases e : k = j
    · subst e; rw [← hi, swp_r, swp_l]; exact lt_not hl
    · rw [swp_o f ki e]
      by_cases e1 : (k - 1) / 2 = j
      · rw [e1, swp_r]
        have := h.2 k k0 kn e1 h0
        rwa [← hi] at this
      · by_cases e2 : (k - 1) / 2 = i
        · rw [e2, swp_l]
          have := h.1 k k0 kn e
          rw [e2] at this
          exact le_trans (lt_not hl) this
        · rw [swp_o f e2 e1]; exact h.1 k k0 kn e
  · intro k k0 kn ki i0
    have hpi : (i - 1) / 2 ≠ i := by omega
    have hpj : (i - 1) / 2 ≠ j := by omega
    have hii := h.1 i i0 (by omega) (by omega)
    rw [swp_o f hpi hpj]
    by_cases e : k = j
    · subst e; rw [swp_r]; exact hii
    · rw [swp_o f (by omega) e]
      have := h.1 k k0 kn e
      rw [ki] at this
      exact le_trans hii this
/-- What 'up' leaves. -/
structure Upped (n : Nat) (f g : Row) : Prop where
  same : Same n f g
  heap : Heap n g

/-- Only the place i may hold more than what stands below it. -/
def DownAt (n : Nat) (f : Row) (i : Nat) : Prop :=
  (∀ k, 0 < k → k < n → (k - 1) / 2 ≠ i → ¬ lt (f k) (f ((k - 1) / 2))) ∧ (∀ k, 0 < k → k < n → (k - 1) / 2 = i → 0 < i → ¬ lt (f k) (f ((i - 1) / 2)))
theorem DownAt.leaf {n : Nat} {f : Row} {i : Nat} (h : DownAt n f i) (hl : n ≤ 2 * i + 1) : Heap n f := fun k h0 hk => h.1 k h0 hk (by omega)
/-- j: the lesser one of the two below i. -/
def Lesser (n : Nat) (f : Row) (i j : Nat) : Prop := (j - 1) / 2 = i ∧ 0 < j ∧ j < n ∧ ∀ k, 0 < k → k < n → (k - 1) / 2 = i → ¬ lt (f k) (f j)
theorem Lesser.right {n : Nat} {f : Row} {i : Nat} (h2 : 2 * i + 2 < n) (hl : lt (f (2 * i + 2)) (f (2 * i + 1))) : Lesser n f i (2 * i + 2) :=
  ⟨by omega, by omega, h2, fun k k0 kn ki => by
    rcases (show k = 2 * i + 1 ∨ k = 2 * i + 2 by omega) with rfl | rfl
    · exact lt_not hl
    · exact le_refl _⟩
theorem Lesser.left {n : Nat} {f : Row} {i : Nat} (h1 : 2 * i + 1 < n) (hl : ¬ (2 * i + 2 < n ∧ lt (f (2 * i + 2)) (f (2 * i + 1)))) : Lesser n f i (2 * i + 1) :=
  ⟨by omega, by omega, h1, fun k k0 kn ki => by
    rcases (show k = 2 * i + 1 ∨ k = 2 * i + 2 by omega) with rfl | rfl
    · exact le_refl _
    · exact fun h => hl ⟨kn, h⟩⟩
theorem DownAt.stop {n : Nat} {f : Row} {i j : Nat} (h : DownAt n f i) (hj : Lesser n f i j) (hl : ¬ lt (f j) (f i)) : Heap n f := fun k h0 hk => by
  by_cases e : (k - 1) / 2 = i
  · rw [e]; exact le_trans hl (hj.2.2.2 k h0 hk e)
  · exact h.1 k h0 hk e
theorem DownAt.step {n : Nat} {f : Row} {i j : Nat} (h : DownAt n f i) (hj : Lesser n f i j) (hl : lt (f j) (f i)) : DownAt n (swp f i j) j := by
  obtain ⟨h1, h2, h3, h4⟩ := hj
  have hij : i < j := by omega
  constructor
  · intro k k0 kn kj
    by_cases e : k = j
    · subst e; rw [h1, swp_r, swp_l]; exact lt_not hl
    · by_cases e1 : k = i
      · subst e1
        rw [swp_l, swp_o f (by omega) (by omega)]
        exact h.2 j h2 h3 h1 k0
      · rw [swp_o f e1 e]
        by_cases e2 : (k - 1) / 2 = i
        · rw [e2, swp_l]; exact h4 k k0 kn e2
        · rw [swp_o f e2 kj]; exact h.1 k k0 kn e2
  · intro k k0 kn kj _
    rw [h1, swp_l, swp_o f (by omega) (by omega)]
    have := h.1 k k0 kn (by omega)
    rwa [kj] at this

theorem Heap.downAt {n : Nat} {f : Row} (h : ∀ k, 0 < k → k < n → (k - 1) / 2 ≠ 0 → ¬ lt (f k) (f ((k - 1) / 2))) : DownAt n f 0 := ⟨h, fun _ _ _ _ h => absurd h (by omega)⟩

/-! ### What the clocks hold -/
/-- The n places hold the clocks of S, each once, each with its tick. -/
structure Bag (n : Nat) (f : Row) (S : Int → Prop) (t : Int → Int) : Prop where
  each : ∀ k, k < n → S (f k).2 ∧ (f k).1 = t (f k).2
  has : ∀ c, S c → ∃ k, k < n ∧ (f k).2 = c
  once : ∀ j k, j < n → k < n → (f j).2 = (f k).2 → j = k
theorem Bag.same {n : Nat} {f g : Row} {S : Int → Prop} {t : Int → Int} (h : Bag n f S t) (hs : Same n f g) : Bag n g S t :=
  ⟨hs.all (p := fun x => S x.2 ∧ x.1 = t x.2) h.each, fun c hc => hs.some (p := fun x => x.2 = c) (h.has c hc), hs.inj h.once⟩
theorem Bag.empty (f : Row) (t : Int → Int) : Bag 0 f (fun _ => False) t := ⟨fun k h => absurd h (by omega), fun _ h => h.elim, fun _ _ h => absurd h (by omega)⟩
/-- The last one is taken out. -/
theorem Bag.drop {n : Nat} {f : Row} {S : Int → Prop} {t : Int → Int} (h : Bag (n + 1) f S t) : Bag n f (fun c => S c ∧ c ≠ (f n).2) t :=
  ⟨fun k hk => ⟨⟨(h.each k (by omega)).1, fun e => by have := h.once k n (by omega) (by omega) e; omega⟩, (h.each k (by omega)).2⟩,
   fun c hc => by
    obtain ⟨k, hk, e⟩ := h.has c hc.1
    refine ⟨k, ?_, e⟩
    rcases (show k < n ∨ k = n by omega) with h' | h'
    · exact h'
    · subst h'; exact absurd e.symm hc.2,
   fun j k hj hk e => h.once j k (by omega) (by omega) e⟩
def put (f : Row) (n : Nat) (x : T) : Row := fun k => if k = n then x else f k
@[simp] theorem put_same (f : Row) (n : Nat) (x : T) : put f n x n = x := by simp [put]
theorem put_o (f : Row) {n k : Nat} (x : T) (h : k ≠ n) : put f n x k = f k := by simp [put, h]
/-- One more is put in. -/
theorem Bag.put {n : Nat} {f : Row} {S : Int → Prop} {t : Int → Int} (h : Bag n f S t) (x : T) (hx : ¬ S x.2) (S' : Int → Prop) (t' : Int → Int) (hS : ∀ c, S' c ↔ S c ∨ c = x.2)
    (ht : ∀ c, S c → t' c = t c) (hx' : t' x.2 = x.1) : Bag (n + 1) (put f n x) S' t' := by
  refine ⟨fun k hk => ?_, fun c hc => ?_, fun j k hj hk e => ?_⟩
  · by_cases e : k = n
    · subst e; rw [put_same]; exact ⟨(hS _).2 (.inr rfl), hx'.symm⟩
    · rw [put_o f x e]
      have := h.each k (by omega)
      exact ⟨(hS _).2 (.inl this.1), by rw [ht _ this.1]; exact this.2⟩
  · rcases (hS c).1 hc with h1 | h1
    · obtain ⟨k, hk, e⟩ := h.has c h1
      exact ⟨k, by omega, by rw [put_o f x (by omega)]; exact e⟩
    · exact ⟨n, by omega, by rw [put_same]; exact h1.symm⟩
  · by_cases e1 : j = n <;> by_cases e2 : k = n
    · omega
    · subst e1; rw [put_same, put_o f x e2] at e
      exact absurd (h.each k (by omega)).1 (by rw [← e]; exact hx)
    · subst e2; rw [put_same, put_o f x e1] at e
      exact absurd (h.each j (by omega)).1 (by rw [e]; exact hx)
    · rw [put_o f x e1, put_o f x e2] at e; exact h.once j k (by omega) (by omega) e
theorem Heap.mono {n m : Nat} {f : Row} (h : Heap n f) (hm : m ≤ n) : Heap m f := fun k h0 hk => h k h0 (by omega)
theorem UpAt.put {n : Nat} {f : Row} (h : Heap n f) (x : T) : UpAt (n + 1) (put f n x) n :=
  ⟨fun k k0 kn e => by rw [put_o f x e, put_o f x (by omega)]; exact h k k0 (by omega), fun k k0 kn e _ => by omega⟩
/-- The root and the last one are turned round, the last one is left out: all is right but the root. -/
theorem Heap.cut {n : Nat} {f : Row} (h : Heap (n + 1) f) : DownAt n (swp f 0 n) 0 :=
  Heap.downAt fun k k0 kn e => by rw [swp_o f (by omega) (by omega), swp_o f e (by omega)]; exact h k k0 (by omega)
end Go.Rt
