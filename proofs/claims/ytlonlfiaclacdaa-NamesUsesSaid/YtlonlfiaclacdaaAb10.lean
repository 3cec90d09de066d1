/-
  APPEND (own work).
-/
import Derived.Test.YtlonlfiaclacdaaAb9
namespace Go.Ab

section
variable {P : Program} {m : Inj} {w : World}

/-! ### The model's append at two slice types -/

theorem run_app_none (t t' ty e : TypeId) (i : TypeInfo) (d : TypeId) (ht : P.underlying t = some (.slice e)) (ht' : P.underlying t' = some (.slice d)) (hi : P.info? e = some i)
    (s : Value) (base : Option Addr) (sLen sCap : Nat) (hs : s = .slice base sLen sCap) (hc : sLen ≤ sCap) (x : Value) (hx : x = .slice none 0 0 ∨ ∃ a c, x = .slice (some a) 0 c) (w : World) :
    (Builtin.append_ #[t, t'] ty #[s, x]).run P w = .ok s w := by
  subst hs
  rcases hx with rfl | ⟨a, c, rfl⟩
  · cases base <;> simp [Builtin.append_, run_underlying ht, run_underlying ht', sizeOf, typeInfo, hi, Builtin.lenOf, hc, Builtin.firstCells, storeCells]
  · cases base <;> simp [Builtin.append_, run_underlying ht, run_underlying ht', sizeOf, typeInfo, hi, Builtin.lenOf, hc, Builtin.firstCells, storeCells, loadCells, loadCellsFrom]

theorem run_app_nil (t t' ty e d : TypeId) (i : TypeInfo) (z : Value) (ht : P.underlying t = some (.slice e)) (ht' : P.underlying t' = some (.slice d)) (hi : P.info? e = some i) (hz : i.zero = some z)
    (a : Addr) (n c : Nat) (news : List Value) (hl : news.length = n * i.size) (hnews : ∀ j v, news[j]? = some v → w.cell? (a.add j) = some v)
    (h0 : 0 < n) (h63 : (n : Int) ≤ 9223372036854775807) (h48 : n * i.bytes ≤ 281474976710656) :
    (Builtin.append_ #[t, t'] ty #[.slice none 0 0, .slice (some a) n c]).run P w =
      .ok (.slice (some ⟨w.heap.size, 0, none⟩) n (grownCap w n 0 e)) (w.drew.alloc (.cells (news.toArray ++ Builtin.zeroCells z.cells (grownCap w n 0 e - n)) e)) := by
  have hn : n ≠ 0 := by omega
  have h63' : ¬ (9223372036854775807 < (n : Int)) := by omega
  have h48' : ¬ (281474976710656 < Builtin.nextslicecap n 0 * i.bytes) := by rw [nextslicecap_zero h0]; omega
  have hf := run_firstCells_some (P := P) w.drew i.size n a n c news hl (by simpa using hnews)
  simp [Builtin.append_, run_underlying ht, run_underlying ht', sizeOf, typeInfo, zeroValue, hi, hz, Builtin.lenOf, hn, h63', h48', Question.forced, run_firstCells_none, hf, Go.newRow, grownCap]

theorem run_app_grow (t t' ty e d : TypeId) (i : TypeInfo) (z : Value) (ht : P.underlying t = some (.slice e)) (ht' : P.underlying t' = some (.slice d)) (hi : P.info? e = some i) (hz : i.zero = some z)
    (b : Addr) (sLen sCap : Nat) (olds : List Value) (hlo : olds.length = sLen * i.size) (holds : ∀ j v, olds[j]? = some v → w.cell? (b.add j) = some v)
    (a : Addr) (n c : Nat) (news : List Value) (hl : news.length = n * i.size) (hnews : ∀ j v, news[j]? = some v → w.cell? (a.add j) = some v)
    (hg : sCap < sLen + n) (h63 : ((sLen + n : Nat) : Int) ≤ 9223372036854775807) (hfit : Builtin.nextslicecap (sLen + n) sCap * i.bytes ≤ 281474976710656) :
    (Builtin.append_ #[t, t'] ty #[.slice (some b) sLen sCap, .slice (some a) n c]).run P w =
      .ok (.slice (some ⟨w.heap.size, 0, none⟩) (sLen + n) (grownCap w (sLen + n) sCap e))
        (w.drew.alloc (.cells (olds.toArray ++ news.toArray ++ Builtin.zeroCells z.cells (grownCap w (sLen + n) sCap e - (sLen + n))) e)) := by
  have hn : ¬ (sLen + n ≤ sCap) := by omega
  have h63' : ¬ (9223372036854775807 < ((sLen : Int) + (n : Int))) := by omega
  have h48' : ¬ (281474976710656 < Builtin.nextslicecap (sLen + n) sCap * i.bytes) := by omega
  have hf := run_firstCells_some (P := P) w.drew i.size n a n c news hl (by simpa using hnews)
  have hfo := run_firstCells_some (P := P) w.drew i.size sLen b sLen sCap olds hlo (by simpa using holds)
  simp [Builtin.append_, run_underlying ht, run_underlying ht', sizeOf, typeInfo, zeroValue, hi, hz, Builtin.lenOf, hn, h63', h48', Question.forced, hf, hfo, Go.newRow, grownCap]
  congr 2
  apply Array.ext'
  simp [List.append_assoc]

theorem run_app_room (t t' ty e d : TypeId) (i : TypeInfo) (ht : P.underlying t = some (.slice e)) (ht' : P.underlying t' = some (.slice d)) (hi : P.info? e = some i)
    (B o sLen sCap : Nat) (a : Addr) (n c : Nat) (news : List Value) (hl : news.length = n * i.size) (hnews : ∀ j v, news[j]? = some v → w.cell? (a.add j) = some v)
    (hroom : sLen + n ≤ sCap) {w' : World} (hst : (storeCells ⟨B, o + sLen * i.size, none⟩ news 0).run P w = .ok () w') :
    (Builtin.append_ #[t, t'] ty #[.slice (some ⟨B, o, none⟩) sLen sCap, .slice (some a) n c]).run P w = .ok (.slice (some ⟨B, o, none⟩) (sLen + n) sCap) w' := by
  have hf := run_firstCells_some (P := P) w i.size n a n c news hl hnews
  simp [Builtin.append_, run_underlying ht, run_underlying ht', sizeOf, typeInfo, hi, Builtin.lenOf, hroom, hf, Addr.add_lit, hst]

/-! ### A new version in a block of its own -/

theorem Rel.version {h : Nat → Option Obj} (hr : Rel m h w) {b nv : Nat} {o o' : Obj} (hb : h b = some o) (hnew : m b nv = none) (obj : Go.Obj) (t e : Nat)
    (ho : ∀ m', m.le m' → (∀ u, m' b u = if u = nv then some (w.heap.size, t, e) else m b u) → ORel m' (w.alloc obj) b o')
    (hfro : ∀ a, (w.alloc obj).frozen? a = w.frozen? a) :
    ∃ m', Ext m w m' (w.alloc obj) ∧ Rel m' (fun x => if x = b then some o' else h x) (w.alloc obj) ∧ m' b nv = some (w.heap.size, t, e) := by
  let m' : Inj := fun x u => if x = b ∧ u = nv then some (w.heap.size, t, e) else m x u
  have hle : m.le m' := by
    intro x u p hx
    show (if x = b ∧ u = nv then _ else _) = _
    by_cases e' : x = b ∧ u = nv
    · obtain ⟨rfl, rfl⟩ := e'; rw [hnew] at hx; cases hx
    · rw [if_neg e']; exact hx
  have hat : ∀ u, m' b u = if u = nv then some (w.heap.size, t, e) else m b u := fun u => by simp [m']
  have hold : ∀ x u, x ≠ b → m' x u = m x u := fun x u hx => by simp [m', hx]
  have hcase : ∀ x u B t' e', m' x u = some (B, t', e') → (x = b ∧ B = w.heap.size) ∨ m x u = some (B, t', e') := by
    intro x u B t' e' hx
    by_cases e1 : x = b
    · subst e1
      rw [hat] at hx
      split at hx
      · cases hx; exact .inl ⟨rfl, rfl⟩
      · exact .inr hx
    · rw [hold x u e1] at hx; exact .inr hx
  refine ⟨m', ⟨hle, by simp, ?_, ?_, rfl, rfl, hfro⟩, ⟨?_, ?_, ?_, ?_⟩, by rw [hat]; simp⟩
  · intro x u B t' e' hx
    rcases hcase x u B t' e' hx with ⟨_, rfl⟩ | h1
    · exact .inr (Nat.le_refl _)
    · exact .inl ⟨_, _, _, _, h1⟩
  · intro B hB _
    exact heap_alloc_old w obj B hB
  · intro x o1 hx
    by_cases e1 : x = b
    · subst e1
      rw [if_pos rfl] at hx
      cases hx
      exact ho m' hle hat
    · rw [if_neg e1] at hx
      exact (hr.obj x o1 hx).mono hle (fun u => hold x u e1) (fun u B t' e' hm => heap_alloc_old w obj B (hr.lt _ _ _ _ _ hm))
  · intro x u p hx
    by_cases e1 : x = b
    · subst e1; exact ⟨o', by simp⟩
    · rw [hold x u e1] at hx
      obtain ⟨o1, ho1⟩ := hr.dom _ _ _ hx
      exact ⟨o1, by simp only [if_neg e1]; exact ho1⟩
  · intro x u B t1 e1 x' u' t2 e2 h1 h2
    rcases hcase _ _ _ _ _ h1 with ⟨c1, c2⟩ | c1
    · rcases hcase _ _ _ _ _ h2 with ⟨c3, c4⟩ | c3
      · rw [c1, c3]
      · have := hr.lt _ _ _ _ _ c3; omega
    · rcases hcase _ _ _ _ _ h2 with ⟨c3, c4⟩ | c3
      · have := hr.lt _ _ _ _ _ c1; omega
      · exact hr.apart _ _ _ _ _ _ _ _ _ c1 c3
  · intro x u B t1 e1 h1
    rw [World.size_alloc]
    rcases hcase _ _ _ _ _ h1 with ⟨c1, c2⟩ | c1
    · omega
    · have := hr.lt _ _ _ _ _ c1; omega

theorem size_zero (z : Array Value) (n : Nat) : (Builtin.zeroCells z n).size = n * z.size := by simp [Builtin.zeroCells]

/-- The grown row, whatever it grew out of. -/
theorem grown_sim {s : St} (hr : Rel m s.heap.get w) {l : List AV} {l' : List Value} (hl : VRs m l l') {size need c : Nat} (hlen : l.length = need * size) (hc : need ≤ c) {z : Array Value} (hz : z.size = size)
    {b : Nat} {s' : St} (h : (newObj (grownRow size l)).run s = .ok b s') (hf : Fresh s s') (e : TypeId) :
    ∃ m', Ext m w m' (w.drew.alloc (.cells (l'.toArray ++ Builtin.zeroCells z (c - need)) e)) ∧ Rel m' s'.heap.get (w.drew.alloc (.cells (l'.toArray ++ Builtin.zeroCells z (c - need)) e)) ∧
      VR m' (.slice b 0 0 need none) (.slice (some ⟨w.heap.size, 0, none⟩) need c) := by
  have hr' : Rel m s.heap.get w.drew := hr.drew
  have hll := hl.length
  obtain ⟨m', k1, k2, k3⟩ := new_row (cells := l'.toArray ++ Builtin.zeroCells z (c - need)) (e := e) (esz := size) (l := l) hr' rfl h hf (by
    have : (l'.toArray ++ Builtin.zeroCells z (c - need)).toList.take l.length = l' := by
      rw [Array.toList_append, hll]; simp
    rw [this]; exact hl)
  refine ⟨m', (Ext.drew m w).trans k1, k2, .slice _ _ _ _ _ _ _ _ _ k3 hc (fun c' hc => by cases hc) (fun _ _ => ?_)⟩
  rw [Array.size_append, size_zero, hz, List.size_toArray, ← hll, hlen, ← Nat.add_mul]
  exact Nat.mul_le_mul_right _ (by omega)

theorem mod_lt_cap (w : World) (need old : Nat) (e : TypeId) : need ≤ grownCap w need old e := grownCap_ge w need old e

theorem app_sim {s : St} (hr : Rel m s.heap.get w) {t t' d e : TypeId} {i : TypeInfo} {z : Value} (ht : P.underlying t = some (.slice e)) (ht' : P.underlying t' = some (.slice d)) (hi : P.info? e = some i) (hz : i.zero = some z)
    (hzs : z.cells.size = i.size) {x y : AV} {k : Nat} (hk : 0 < k) {news : List AV} {s' : St} (h : (appendTo i.size i.bytes x k news).run s = .ok y s') (hf : Fresh s s')
    {u : Value} (hx : VR m x u) {a : Addr} {c : Nat} {news' : List Value} (hn : VRs m news news') (hnl : news.length = k * i.size) (hcells : ∀ j v, news'[j]? = some v → w.cell? (a.add j) = some v) (ty : TypeId) :
    ∃ r w' m', (Builtin.append_ #[t, t'] ty #[u, .slice (some a) k c]).run P w = .ok r w' ∧ Ext m w m' w' ∧ Rel m' s'.heap.get w' ∧ VR m' y r := by
  have hnl' : news'.length = k * i.size := by rw [← hn.length]; exact hnl
  unfold appendTo at h
  split at h
  · -- nil
    cases hb : sizeFits k i.bytes with
    | false => simp only [hb, cond_false] at h; exact (fail_ok h).elim
    | true =>
      simp only [hb, cond_true] at h
      obtain ⟨b, s1, h1, h2⟩ := bind_ok h
      obtain ⟨rfl, rfl⟩ := pure_ok h2
      obtain ⟨hb1, hb2⟩ := and_true hb
      have c1 := ble_le hb1
      have c2 := ble_le hb2
      cases hx
      have hrun := run_app_nil (w := w) t t' ty e d i z ht ht' hi hz a k c news' hnl' hcells hk (by omega) (by omega)
      obtain ⟨m', k1, k2, k3⟩ := grown_sim hr hn (size := i.size) (need := k) hnl (mod_lt_cap w k 0 e) hzs h1 hf e
      exact ⟨_, _, m', hrun, k1, k2, k3⟩
  · rename_i b v o len cap
    cases hb : sizeFits (len + k) i.bytes with
    | false => simp only [hb, cond_false] at h; exact (fail_ok h).elim
    | true =>
      simp only [hb, cond_true] at h
      obtain ⟨hb1, hb2⟩ := and_true hb
      have c1 := ble_le hb1
      have c2 := ble_le hb2
      cases hx with
      | slice _ _ _ _ _ B tt ee cc hm g1 g2 g3 =>
        cases cap with
        | some c0 =>
          simp only at h
          have := g2 c0 rfl; subst this
          cases hc : Nat.ble (len + k) cc with
          | true =>
            simp only [hc, cond_true] at h
            obtain ⟨_, s1, h1, h2⟩ := bind_ok h
            obtain ⟨rfl, rfl⟩ := pure_ok h2
            obtain ⟨w', j1, j2, j3⟩ := write_sim (P := P) hr h1 hm hn
            have hle := ble_le hc
            exact ⟨_, w', m, run_app_room t t' ty e d i ht ht' hi B o len cc a k c news' hnl' hcells hle j1, j2, j3,
              .slice _ _ _ _ _ _ _ _ _ hm hle (fun c' hc => by cases hc; rfl) (fun hc => by cases hc)⟩
          | false =>
            simp only [hc, cond_false] at h
            have hgt : cc < len + k := by
              rcases Nat.lt_or_ge cc (len + k) with h | h
              · exact h
              · rw [Nat.ble_eq_true_of_le h] at hc; cases hc
            obtain ⟨olds, s1, h1, h2⟩ := bind_ok h
            obtain ⟨b', s2, h3, h4⟩ := bind_ok h2
            obtain ⟨rfl, rfl⟩ := pure_ok h4
            obtain ⟨olds', j1, j2, j3, _, j5, j6⟩ := readCells_sim (P := P) hr h1 hm
            have hfit := growslice_fits (need := len + k) (old := cc) (bytes := i.bytes) hgt c1
            have hrun := run_app_grow (w := w) t t' ty e d i z ht ht' hi hz ⟨B, o, none⟩ len cc olds' j2 j3 a k c news' hnl' hcells hgt (by omega) hfit
            have hr1 : Rel m s1.heap.get w := by rw [j5]; exact hr
            have hf1 : Fresh s1 s' := hf.right h1
            obtain ⟨m', k1, k2, k3⟩ := grown_sim hr1 (j1.append hn) (size := i.size) (need := len + k) (by rw [List.length_append, j1.length, j2, hnl, Nat.add_mul]) (mod_lt_cap w (len + k) cc e) hzs h3 hf1 e
            refine ⟨_, _, m', hrun, ?_, ?_, k3⟩
            · rw [show (olds'.toArray ++ news'.toArray : Array Value) = (olds' ++ news').toArray by simp]; exact k1
            · rw [show (olds'.toArray ++ news'.toArray : Array Value) = (olds' ++ news').toArray by simp]; exact k2
        | none =>
          simp only at h
          cases ho : Nat.beq o 0 with
          | false => simp only [ho, cond_false] at h; exact (fail_ok h).elim
          | true =>
            simp only [ho, cond_true] at h
            have ho' := Nat.eq_of_beq_eq_true ho
            subst ho'
            obtain ⟨v', s1, h1, h2⟩ := bind_ok h
            obtain ⟨rfl, rfl⟩ := pure_ok h2
            obtain ⟨ob, ob', l1, l2, l3, l4⟩ := upd_ok h1
            cases ob with
            | map es => simp [growRow] at l2
            | loop L => simp [growRow] at l2
            | iter i => simp [growRow] at l2
            | row r =>
              simp only [growRow] at l2
              cases hq : r.fits v (len * i.size) && Nat.beq r.esz i.size && news.all AV.scalar with
              | false => simp [hq] at l2
              | true =>
                simp only [hq, cond_true, Option.some.injEq, Prod.mk.injEq] at l2
                obtain ⟨rfl, rfl⟩ := l2
                obtain ⟨hq12, hq3⟩ := and_true hq
                obtain ⟨hq1, hq2⟩ := and_true hq12
                obtain ⟨f1, f2⟩ := fits_spec hq1
                have hesz := Nat.eq_of_beq_eq_true hq2
                obtain ⟨p1, p2, p3⟩ := hr.obj b _ l1
                obtain ⟨q1, cs, ty0, q2, q3, q4⟩ := p3 v B tt ee hm
                have hnone : m b r.nv = none := by
                  cases hmn : m b r.nv with
                  | none => rfl
                  | some p => have := (p2 r.nv).1 (by rw [hmn]; rfl); omega
                -- the cells ahead of the new ones
                have hahead : ∀ j, j < len * i.size → ∃ a v, r.cells.get j = some a ∧ cs[j]? = some v ∧ VR m a v := fun j hj =>
                  q4 j (by omega) (by rcases f2 with h | h; exact .inl h; exact .inr (by omega))
                have holdv : ∀ (m' : Inj) (W : World), m.le m' → (∀ B', B' ≠ B → B' < w.heap.size → W.heap[B']? = w.heap[B']?) →
                    (∀ B0 t0 e0 u0, m b u0 = some (B0, t0, e0) → B0 = B → ∃ cs1, W.heap[B]? = some (.cells cs1 ty0 (0, 0)) ∧ cs1.size = cs.size ∧ ∀ j, j < len * i.size → cs1[j]? = cs[j]?) →
                    ∀ u B' t' e', m b u = some (B', t', e') → u ≠ r.nv → e' = r.esz ∧ ∃ cs' ty', W.heap[B']? = some (.cells cs' ty' (0, 0)) ∧ cs'.size = t' ∧
                      ∀ j, j < len * i.size + news.length → (u = r.nv ∨ j < min r.low (len * i.size)) → ∃ a v, (Cs.fill news (len * i.size) r.cells).get j = some a ∧ cs'[j]? = some v ∧ VR m' a v := by
                  intro m' W hle hW hWB u B' t' e' hm' hne
                  obtain ⟨w1, cs', ty', w2, w3, w4⟩ := p3 u B' t' e' hm'
                  refine ⟨w1, ?_⟩
                  have hj : ∀ j, (u = r.nv ∨ j < min r.low (len * i.size)) → j < len * i.size ∧ j < r.low := by
                    intro j h; rcases h with h | h
                    · exact absurd h hne
                    · omega
                  by_cases hBB : B' = B
                  · subst hBB
                    obtain ⟨cs1, x1, x2, x3⟩ := hWB _ _ _ _ hm' rfl
                    rw [q2] at w2; cases w2
                    refine ⟨cs1, ty0, x1, by rw [x2]; exact w3, fun j _ hj2 => ?_⟩
                    obtain ⟨y1, y2⟩ := hj j hj2
                    obtain ⟨a', v', z1, z2, z3⟩ := w4 j (by omega) (.inr y2)
                    refine ⟨a', v', ?_, by rw [x3 j y1]; exact z2, z3.mono hle⟩
                    rw [Cs.get_fill, if_neg (by omega)]; exact z1
                  · refine ⟨cs', ty', by rw [hW B' hBB (hr.lt _ _ _ _ _ hm')]; exact w2, w3, fun j _ hj2 => ?_⟩
                    obtain ⟨y1, y2⟩ := hj j hj2
                    obtain ⟨a', v', z1, z2, z3⟩ := w4 j (by omega) (.inr y2)
                    refine ⟨a', v', ?_, z2, z3.mono hle⟩
                    rw [Cs.get_fill, if_neg (by omega)]; exact z1
                by_cases hroom : len + k ≤ cc
                · -- in place
                  have htot : len * i.size + news'.length ≤ cs.toList.length := by
                    have := g3 rfl rfl
                    rw [hnl', ← Nat.add_mul, Array.length_toList, q3]
                    rw [q1, hesz] at this
                    exact Nat.le_trans (Nat.mul_le_mul_right _ hroom) this
                  have hst := run_storeCells_at (P := P) B (len * i.size) ty0 news' 0 cs w q2 (by simpa using htot) (all_scalar hn hq3)
                  simp only [Nat.add_zero] at hst
                  obtain ⟨x1, x2, x3, x4⟩ := setRow_facts w B cs (cs.toList.take (len * i.size) ++ news' ++ cs.toList.drop (len * i.size + news'.length)).toArray ty0 q2
                  let m' : Inj := fun x u => if x = b ∧ u = r.nv then some (B, tt, ee) else m x u
                  have hle : m.le m' := by
                    intro x u p hx
                    show (if x = b ∧ u = r.nv then _ else _) = _
                    by_cases e' : x = b ∧ u = r.nv
                    · obtain ⟨rfl, rfl⟩ := e'; rw [hnone] at hx; cases hx
                    · rw [if_neg e']; exact hx
                  have hat : ∀ u, m' b u = if u = r.nv then some (B, tt, ee) else m b u := fun u => by simp [m']
                  have hsplit : ∀ j, (cs.toList.take (len * i.size) ++ news' ++ cs.toList.drop (len * i.size + news'.length)).toArray[j]? = if len * i.size ≤ j ∧ j < len * i.size + news'.length then news'[j - len * i.size]? else cs[j]? := by
                    intro j
                    rw [List.getElem?_toArray, splice_get _ _ _ htot]
                    simp
                  have key := hr.turn (m' := m') (b := b) (B := B) (o := .row { r with n := len * i.size + news.length, cells := Cs.fill news (len * i.size) r.cells, cur := r.nv, nv := r.nv + 1, low := min r.low (len * i.size) })
                    (w' := w.setRow B (cs.toList.take (len * i.size) ++ news' ++ cs.toList.drop (len * i.size + news'.length)).toArray)
                    hle (fun x u hx => by simp [m', hx]) ⟨v, tt, ee, hm⟩ (fun u B' t0 e0 hh => by
                      rw [hat] at hh
                      split at hh
                      · cases hh; exact ⟨v, tt, ee, hm⟩
                      · exact ⟨u, t0, e0, hh⟩) x2 x3 rfl rfl x4 ?_ ⟨_, l1⟩
                  · refine ⟨_, _, m', run_app_room t t' ty e d i ht ht' hi B 0 len cc a k c news' hnl' hcells hroom (by rw [Nat.zero_add]; exact hst), key.1, key.2.congr fun y => by rw [l3, Tr.get_set], ?_⟩
                    refine .slice _ _ _ _ _ B tt ee cc (by rw [hat]; simp) hroom (fun c' hc => by cases hc) (fun _ _ => g3 rfl rfl)
                  · refine ⟨by simp, fun u => ?_, fun u B' t0 e0 hh => ?_⟩
                    · rw [hat]
                      have := p2 u
                      split
                      · rename_i hu; subst hu; simp
                      · rw [this]; simp only; omega
                    · rw [hat] at hh
                      split at hh
                      · rename_i hu
                        cases hh
                        refine ⟨q1, _, ty0, x1, ?_, ?_⟩
                        · rw [← q3]; simp only [List.size_toArray, splice_length _ _ _ htot, Array.length_toList]
                        · intro j hj _
                          simp only at hj
                          rw [hsplit, Cs.get_fill]
                          by_cases hin : len * i.size ≤ j
                          · rw [if_pos ⟨hin, by have := hn.length; omega⟩, if_pos ⟨hin, by have := hn.length; omega⟩]
                            obtain ⟨a1, ha1⟩ : ∃ a1, news[j - len * i.size]? = some a1 := ⟨news[j - len * i.size]'(by omega), by rw [List.getElem?_eq_getElem]⟩
                            obtain ⟨u1, hu1, hv1⟩ := hn.get ha1
                            exact ⟨a1, u1, ha1, hu1, hv1.mono hle⟩
                          · rw [if_neg (by omega), if_neg (by omega)]
                            obtain ⟨a1, v1, y1, y2, y3⟩ := hahead j (by omega)
                            exact ⟨a1, v1, y1, y2, y3.mono hle⟩
                      · rename_i hu
                        exact holdv m' _ hle (fun B'' hB'' _ => x2 B'' hB'') (fun B0 t0' e0' u0 hh0 hB0 => ⟨_, x1, by simp only [List.size_toArray, splice_length _ _ _ htot, Array.length_toList], fun j hj => by rw [hsplit, if_neg (by omega)]⟩) u B' t0 e0 hh hu
                · -- a new block
                  have hgt : cc < len + k := by omega
                  have hfit := growslice_fits (need := len + k) (old := cc) (bytes := i.bytes) hgt c1
                  let olds' : List Value := cs.toList.take (len * i.size)
                  have holen : olds'.length = len * i.size := by
                    simp only [olds', List.length_take, Array.length_toList]
                    rcases Nat.eq_zero_or_pos (len * i.size) with h0 | h0
                    · omega
                    · obtain ⟨_, _, _, y2, _⟩ := hahead (len * i.size - 1) (by omega)
                      have := (Array.getElem?_eq_some_iff.1 y2).1
                      omega
                  have hoget : ∀ j, j < len * i.size → olds'[j]? = cs[j]? := fun j hj => by simp only [olds', List.getElem?_take, if_pos hj]; simp
                  have hocell : ∀ j v, olds'[j]? = some v → w.cell? ((⟨B, 0, none⟩ : Addr).add j) = some v := by
                    intro j v hv
                    have hj : j < len * i.size := by rw [← holen]; exact (List.getElem?_eq_some_iff.1 hv).1
                    rw [Addr.add_lit, Nat.zero_add, cell_of_row w B j cs ty0 (0, 0) q2, ← hoget j hj]; exact hv
                  have hrun := run_app_grow (w := w) t t' ty e d i z ht ht' hi hz ⟨B, 0, none⟩ len cc olds' holen hocell a k c news' hnl' hcells hgt (by omega) hfit
                  have hr1 : Rel m s.heap.get w.drew := hr.drew
                  have hge := mod_lt_cap w (len + k) cc e
                  have hsz : (olds'.toArray ++ news'.toArray ++ Builtin.zeroCells z.cells (grownCap w (len + k) cc e - (len + k))).size = grownCap w (len + k) cc e * i.size := by
                    rw [Array.size_append, Array.size_append, size_zero, hzs, List.size_toArray, List.size_toArray, holen, hnl', ← Nat.add_mul, ← Nat.add_mul]
                    congr 1; omega
                  obtain ⟨m', k1, k2, k3⟩ := hr1.version (o' := .row { r with n := len * i.size + news.length, cells := Cs.fill news (len * i.size) r.cells, cur := r.nv, nv := r.nv + 1, low := min r.low (len * i.size) }) l1 hnone
                    (.cells (olds'.toArray ++ news'.toArray ++ Builtin.zeroCells z.cells (grownCap w (len + k) cc e - (len + k))) e) (grownCap w (len + k) cc e * i.size) r.esz (by
                      intro m' hle hat
                      refine ⟨by simp, fun u => ?_, fun u B' t0 e0 hh => ?_⟩
                      · rw [hat]
                        have := p2 u
                        split
                        · rename_i hu; subst hu; simp
                        · rw [this]; simp only; omega
                      · rw [hat] at hh
                        split at hh
                        · rename_i hu
                          cases hh
                          refine ⟨rfl, _, e, heap_alloc_new _ _, hsz, ?_⟩
                          intro j hj _
                          simp only at hj
                          rw [Cs.get_fill]
                          have hjl : j < (olds' ++ news').length := by rw [List.length_append, holen, ← hn.length]; exact hj
                          have hget : (olds'.toArray ++ news'.toArray ++ Builtin.zeroCells z.cells (grownCap w (len + k) cc e - (len + k)))[j]? = (olds' ++ news')[j]? := by
                            rw [show (olds'.toArray ++ news'.toArray : Array Value) = (olds' ++ news').toArray by simp]
                            rw [Array.getElem?_append_left (by simpa using hjl)]
                            simp
                          rw [hget]
                          by_cases hin : len * i.size ≤ j
                          · rw [if_pos ⟨hin, hj⟩, List.getElem?_append_right (by omega), holen]
                            obtain ⟨a1, ha1⟩ : ∃ a1, news[j - len * i.size]? = some a1 := ⟨news[j - len * i.size]'(by omega), by rw [List.getElem?_eq_getElem]⟩
                            obtain ⟨u1, hu1, hv1⟩ := hn.get ha1
                            exact ⟨a1, u1, ha1, hu1, hv1.mono hle⟩
                          · rw [if_neg (by omega), List.getElem?_append_left (by omega), hoget j (by omega)]
                            obtain ⟨a1, v1, y1, y2, y3⟩ := hahead j (by omega)
                            exact ⟨a1, v1, y1, y2, y3.mono hle⟩
                        · rename_i hu
                          exact holdv m' _ hle (fun B'' _ hlt => heap_alloc_old w.drew _ B'' hlt) (fun B0 t0' e0' u0 hh0 hB0 => ⟨cs, by rw [heap_alloc_old w.drew _ B (hr.lt _ _ _ _ _ hm)]; exact q2, rfl, fun j hj => rfl⟩) u B' t0 e0 hh hu)
                    (frozen_alloc _ _ (fun c t fr e => by cases e; rfl))
                  refine ⟨_, _, m', hrun, (Ext.drew m w).trans k1, k2.congr fun y => by rw [l3, Tr.get_set], ?_⟩
                  refine .slice _ _ _ _ _ w.heap.size (grownCap w (len + k) cc e * i.size) r.esz _ k3 hge (fun c' hc => by cases hc) (fun _ _ => by rw [hesz]; exact Nat.le_refl _)
  · exact (fail_ok h).elim

theorem keep_sim {h : Nat → Option Obj} (hr : Rel m h w) {t t' d e : TypeId} {i : TypeInfo} (ht : P.underlying t = some (.slice e)) (ht' : P.underlying t' = some (.slice d)) (hi : P.info? e = some i) {x y : AV}
    (hk : keepA x = some y) {u v : Value} (hx : VR m x u) (hv : v = .slice none 0 0 ∨ ∃ a c, v = .slice (some a) 0 c) (ty : TypeId) :
    ∃ r w' m', (Builtin.append_ #[t, t'] ty #[u, v]).run P w = .ok r w' ∧ Ext m w m' w' ∧ Rel m' h w' ∧ VR m' y r := by
  unfold keepA at hk
  split at hk
  · simp only [Option.some.injEq] at hk; subst hk
    cases hx
    exact ⟨_, w, m, run_app_none t t' ty e i d ht ht' hi _ none 0 0 rfl (Nat.le_refl _) v hv w, Ext.refl m w, hr, .nilslice⟩
  · simp only [Option.some.injEq] at hk; subst hk
    have hx' := hx
    cases hx with
    | slice _ _ _ _ _ B tt ee cc hm g1 g2 g3 =>
      exact ⟨_, w, m, run_app_none t t' ty e i d ht ht' hi _ _ _ _ rfl g1 v hv w, Ext.refl m w, hr, hx'⟩
  · cases hk

theorem append_sim {s : St} (hr : Rel m s.heap.get w) {t t' d : TypeId} (ht' : P.underlying t' = some (.slice d)) {x y n : AV} {s' : St} (h : (appendA P t x n).run s = .ok y s') (hf : Fresh s s')
    {u v : Value} (hx : VR m x u) (hn : VR m n v) (ty : TypeId) :
    ∃ r w' m', (Builtin.append_ #[t, t'] ty #[u, v]).run P w = .ok r w' ∧ Ext m w m' w' ∧ Rel m' s'.heap.get w' ∧ VR m' y r := by
  unfold appendA at h
  split at h
  · rename_i e he
    have ht := sliceElem_some he
    split at h
    · rename_i size hs
      obtain ⟨i, hi, hsz⟩ := szOf_some hs
      split at h
      · rename_i bytes hby
        obtain ⟨i', hi', hbb⟩ := bytesOf_some hby
        rw [hi] at hi'; cases hi'
        split at h
        · rename_i z hz
          obtain ⟨i2, zv, hi2, hzv, hzc⟩ := zeroO_some hz
          rw [hi] at hi2; cases hi2
          cases hl : Nat.beq z.cells.length (size + 1) with
          | false => simp only [hl, cond_false] at h; exact (fail_ok h).elim
          | true =>
            simp only [hl, cond_true] at h
            have hzs : zv.cells.size = i.size := by
              have := (absConst_rel (m := m) hzc).cells.length
              rw [Nat.eq_of_beq_eq_true hl] at this
              rw [hsz]; simpa using this.symm
            have hnone : ∀ (y' : AV), (ofO (keepA x)).run s = .ok y' s' → (v = .slice none 0 0 ∨ ∃ a c, v = .slice (some a) 0 c) → ∃ r w' m', (Builtin.append_ #[t, t'] ty #[u, v]).run P w = .ok r w' ∧ Ext m w m' w' ∧ Rel m' s'.heap.get w' ∧ VR m' y' r := by
              intro y' h hv
              obtain ⟨hk, rfl⟩ := ofO_ok h
              exact keep_sim hr ht ht' hi hk hx hv ty
            split at h
            · cases hn
              exact hnone y h (.inl rfl)
            · cases hn with
              | slice _ _ _ _ _ B tt ee cc hm g1 g2 g3 => exact hnone y h (.inr ⟨_, _, rfl⟩)
            · rename_i b ver o k cap
              obtain ⟨news, s1, h1, h2⟩ := bind_ok h
              cases hn with
              | slice _ _ _ _ _ B tt ee cc hm g1 g2 g3 =>
                obtain ⟨news', j1, j2, j3, _, j5, j6⟩ := readCells_sim (P := P) hr h1 hm
                have hr1 : Rel m s1.heap.get w := by rw [j5]; exact hr
                have hf1 : Fresh s1 s' := hf.right h1
                rw [show size + 1 = i.size from hsz.symm, ← hbb] at h2
                exact app_sim hr1 ht ht' hi hzv hzs (by omega) h2 hf1 hx j1 (by rw [j1.length, j2, hsz]) j3 ty
            · exact (fail_ok h).elim
        · exact (fail_ok h).elim
      · exact (fail_ok h).elim
    · exact (fail_ok h).elim
  · exact (fail_ok h).elim

end
end Go.Ab
