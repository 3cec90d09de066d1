/-
  The document's Uses, Calls, Memory (own work).
-/
import Derived.Test.YtlonlfiaclacdaaPaW
import Derived.Test.YtlonlfiaclacdaaPaX
namespace Go.Pa
open Go Go.RowKit Go.Proofs

theorem catN_le {α : Type} (f : Nat → List α) {i k : Nat} (h : i ≤ k) : (catN f i).length ≤ (catN f k).length := by
  induction k with
  | zero =>
    obtain rfl : i = 0 := by omega
    exact Nat.le_refl _
  | succ k ih =>
    rcases (by omega : i = k + 1 ∨ i ≤ k) with rfl | hi
    · exact Nat.le_refl _
    · rw [catN, List.length_append]
      have := ih hi
      omega

/-- A list of texts that is the call's own. -/
structure UL (lo : Nat) (wr : World) (v : Value) (l : List ByteArray) : Prop where
  own : wr.ownsRow lo 9 1 v l.length (l.map Value.string)
theorem UL.form {lo : Nat} {wr : World} {v : Value} {l : List ByteArray} (h : UL lo wr v l) : ∃ a c, v = .slice a l.length c := own_form h.own
theorem UL.nil (lo : Nat) (wr : World) : UL lo wr (.slice none 0 0) [] := ⟨World.ownsRow_nil wr lo 9 1⟩
theorem UL.nu {lo : Nat} {wr w2 : World} {v : Value} {l : List ByteArray} (h : UL lo wr v l) (k : Nu wr w2) : UL lo w2 v l := ⟨own_frame h.own fun b hb => k.same b (h.own.lt b hb).2⟩
theorem UL.mono {lo lo' : Nat} {wr : World} {v : Value} {l : List ByteArray} (h : UL lo wr v l) (hl : lo' ≤ lo) : UL lo' wr v l := ⟨own_mono h.own hl⟩
theorem strs_one (l : List ByteArray) : ∀ u ∈ l.map Value.string, u.oneCell' = true := by
  intro u hu
  obtain ⟨s, _, rfl⟩ := List.mem_map.1 hu
  rfl
/-- What a call hands back: a list of its own. -/
inductive RetU (w : World) (l : List ByteArray) : Ending → World → Prop
  | mk {v : Value} {w' : World} (k : Nu w w') (h : UL w.heap.size w' v l) : RetU w l (.returned v) w'
/-- What a call hands back: a truth value. -/
inductive RetT (w : World) (b : Bool) : Ending → World → Prop
  | mk {w' : World} (k : Nu w w') : RetT w b (.returned (.bool b)) w'
/-- The list grew in w, by its own block alone. -/
theorem nu_grown {w wr w2 : World} {lo : Nat} {v : Value} {l : List ByteArray} (h : UL lo wr v l) (k : Nu w wr) (hlo : w.heap.size ≤ lo) (hgr : wr.grownBy w2 v.ownBlock) : Nu w w2 :=
  ⟨hgr.os.trans k.os, hgr.output.trans k.output, Nat.le_trans k.size hgr.size, fun i hi => (hgr.block i (Nat.lt_of_lt_of_le hi k.size) fun e => by have := (h.own.lt i e.symm).1; omega).trans (k.same i hi)⟩

/-- The cells of kid i. -/
theorem kid_cells {w : World} {b k : Nat} {ps : Nat → ER} (h : ∀ i, i < k → ∀ j, j < 9 → w.cell? ⟨b, i * 9 + j, none⟩ = (ps i).row[j]?) {i : Nat} (hi : i < k) {q : ER} (hq : ps i = q) :
    w.cell? ⟨b, i * 9, none⟩ = some (.int .i64 q.f) ∧ w.cell? ⟨b, i * 9 + 1, none⟩ = some (.int .i64 q.s) ∧ w.cell? ⟨b, i * 9 + 2, none⟩ = some (.string q.nm) ∧ w.cell? ⟨b, i * 9 + 3, none⟩ = some (.int .i64 q.tk) ∧ w.cell? ⟨b, i * 9 + 4, none⟩ = some (.int .i64 q.tl) ∧
    w.cell? ⟨b, i * 9 + 5, none⟩ = some (.int .i64 q.n) ∧ w.cell? ⟨b, i * 9 + 6, none⟩ = some (.int .i64 q.m) ∧ w.cell? ⟨b, i * 9 + 7, none⟩ = some (.slice q.ka q.kl q.kc) ∧ w.cell? ⟨b, i * 9 + 8, none⟩ = some (.int .i64 q.at') := by
  subst hq
  exact ⟨h i hi 0 (by omega), h i hi 1 (by omega), h i hi 2 (by omega), h i hi 3 (by omega), h i hi 4 (by omega), h i hi 5 (by omega), h i hi 6 (by omega), h i hi 7 (by omega), h i hi 8 (by omega)⟩

set_option maxHeartbeats 4000000 in
set_option maxRecDepth 100000 in
theorem isCall_in (f : Int) : Same1 25 #[.int .i64 f] (.bool (gCall f)) := by
  intro w
  go_enter Try.func25, Try.ntmps25
  go_wp2
  all_goals (go_ret; refine ⟨congrArg (fun b => Ending.returned (Value.bool b)) ?_, rfl⟩; rw [Bool.eq_iff_iff]; simp [gCall]; try omega)

theorem kids_len {B : Nat → Prop} {w : World} {a : Option Addr} {l c k : Nat} {ps : Nat → ER} (h : KidsAt B w (.slice a l c) k ps) : l = k := by
  rcases h with ⟨rfl, a2, c2, h⟩ | ⟨b, c2, h, _⟩
  · injection h
  · injection h
theorem kids_at {B : Nat → Prop} {w : World} {v : Value} {k : Nat} {ps : Nat → ER} (h : KidsAt B w v k ps) (hk : 0 < k) : ∃ b c, v = .slice (some ⟨b, 0, none⟩) k c ∧ ∀ i, i < k → ∀ j, j < 9 → w.cell? ⟨b, i * 9 + j, none⟩ = (ps i).row[j]? := by
  rcases h with ⟨rfl, _⟩ | ⟨b, c2, h, _, h2⟩
  · omega
  · exact ⟨b, c2, h, h2⟩
theorem kid_cnt (kid : Nat → Tree) {i k : Nat} (h : i < k) : (kid i).cnt ≤ sumN (fun i => (kid i).cnt) k := by
  induction k with
  | zero => omega
  | succ k ih =>
    rw [sumN]
    rcases (by omega : i = k ∨ i < k) with rfl | hi
    · omega
    · have := ih hi
      omega
theorem kids_cnt (kid : Nat → Tree) (k : Nat) : k ≤ sumN (fun i => (kid i).cnt) k := by
  induction k with
  | zero => exact Nat.le_refl _
  | succ k ih =>
    rw [sumN]
    have := (kid k).cnt_pos
    omega

set_option maxHeartbeats 16000000 in
set_option maxRecDepth 100000 in
theorem refUses_in (t : Tree) : ∀ (B : Nat → Prop) (p : ER) (w : World), IsExp B w p t → t.cnt ≤ 20000 → Calls Try.prog 16 #[.agg p.row] w (RetU w (told gUse t.pre)) := by
  induction t with
  | none =>
    intro B p w hE
    cases hE
  | node f nm k kid ih =>
    intro B p w hE hcn
    have hT : Aside ((told gUse (Tree.node f nm k kid).pre).length ≤ 20000) := told_le hcn
    have hc : Aside (1 + sumN (fun i => (kid i).cnt) k ≤ 20000) := hcn
    cases hE with
    | mk p k ps _ hk hr =>
      obtain ⟨f, s, nm, tk, tl, n, m, ka, kl, kc, at'⟩ := p
      dsimp only [ER.ks] at hk hT hc ih hr ⊢
      dsimp only [ER.row]
      obtain ⟨i0, hi, hz0, hz1, hz2⟩ := info_parts info9
      obtain rfl : k = kl := (kids_len hk).symm
      have hk2 : k ≤ 20000 := Nat.le_trans (Nat.le_trans (kids_cnt kid k) (Nat.le_add_left _ _)) hc.out
      have HK : Aside _ := fun h : 0 < k => kids_at hk h
      clear hk hcn
      rw [told_node] at hT
      by_cases h2 : f = 2
      · subst h2
        have HG : (if gUse 2 then [nm] else []) = [nm] := rfl
        go_enter Try.func16, Try.ntmps16
        go_wp2_with (first | (at_builtin; refine wpList_append_lies _ rfl _ _ 23 rfl (w.heap.size + 1) 9 i0 _ 1 16 Try.underlying23 hi hz0 hz1 hz2 rfl (by decide) _ 0 [] rfl (World.ownsRow_nil _ _ 9 1) ⟨w.heap.size + 1, 0, none⟩ 1 1 [Value.string nm] rfl rfl ?c1 (string_one nm) (by decide) ?c2 ?c3 ?c4 _ rfl ?_))
        case c1 => first | exact World.news_of_block (alloc_at (n := w.heap.size + 1) (by simp)) | (intro j u h; simpa using h)
        case c2 => unfold maxLen; omega
        case c3 => omega
        case c4 => (try simp)
        intro gk cap w1 hown hgrow hat hlt1
        have hW0 : Nu (w.alloc (.cells #[.int .i64 2, .int .i64 s, .string nm, .int .i64 tk, .int .i64 tl, .int .i64 n, .int .i64 m, .slice ka k kc, .int .i64 at'] 45)) w1 := ⟨hgrow.os, hgrow.output, Nat.le_trans (by simp) hgrow.size, fun i hi => (hgrow.block i (by simp at hi ⊢; omega) (by intro e; cases e)).trans (Below.heap_alloc _ _ _ hi)⟩
        have A0 : Aside (UL (w.heap.size + 1) w1 (.slice (some ⟨gk, 0, none⟩) ([nm].length) cap) [nm]) := ⟨hown⟩
        clear hown hgrow hat
        go_wp2
        go_loopg [3, 4] k (fun kx s3 s4 wr => ∃ (i c : Nat) (a : Option Addr) (l : List ByteArray), s4 = .int .i64 (i : Int) ∧ s3 = .slice a l.length c ∧ i ≤ k ∧ k - i ≤ kx ∧ Aside (l = [nm] ++ catN (fun i => told gUse (kid i).pre) i ∧ Nu (w.alloc (.cells #[.int .i64 2, .int .i64 s, .string nm, .int .i64 tk, .int .i64 tl, .int .i64 n, .int .i64 m, .slice ka k kc, .int .i64 at'] 45)) wr ∧ UL (w.heap.size + 1) wr (.slice a l.length c) l))
        case atStart => exact ⟨0, cap, some ⟨gk, 0, none⟩, [nm], rfl, rfl, by omega, by omega, rfl, hW0, A0.out⟩
        case round =>
          obtain ⟨i, c, a, l, rfl, rfl, hik, hix, A⟩ := hrel
          have B0 : wr.heap[w.heap.size]? = some (.cells #[.int .i64 2, .int .i64 s, .string nm, .int .i64 tk, .int .i64 tl, .int .i64 n, .int .i64 m, .slice ka k kc, .int .i64 at'] 45 (0, 0)) := nu_block A.out.2.1 (alloc_self w _)
          obtain ⟨hc0, hf0⟩ := row_cells B0
          have hl0 := lt_of_block B0
          clear B0
          rcases Nat.lt_or_ge i k with hlt | hge
          · have hlt' : (i : Int) < k := by omega
            obtain ⟨b, cb, hks, hcc⟩ := HK.out (by omega)
            obtain ⟨rfl, rfl⟩ : ka = some ⟨b, 0, none⟩ ∧ kc = cb := by injection hks with h1 h2 h3; exact ⟨h1, h3⟩
            obtain ⟨q, hq⟩ : ∃ q, ps i = q := ⟨_, rfl⟩
            have hkn : Nu w wr := ((Nu.refl w).alloc _).trans A.out.2.1
            have hEq : IsExp B wr q (kid i) := by rw [← hq]; exact (hr i (by omega)).nu hkn
            obtain ⟨k0, k1, k2, k3, k4, k5, k6, k7, k8⟩ := kid_cells hcc (by omega) hq
            have hb : b < w.heap.size := lt_of_cell k0
            have tr : ∀ o v, w.cell? ⟨b, o, none⟩ = some v → wr.cell? ⟨b, o, none⟩ = some v := fun o v h => (hkn.cell hb).trans h
            replace k0 := tr _ _ k0
            replace k1 := tr _ _ k1
            replace k2 := tr _ _ k2
            replace k3 := tr _ _ k3
            replace k4 := tr _ _ k4
            replace k5 := tr _ _ k5
            replace k6 := tr _ _ k6
            replace k7 := tr _ _ k7
            replace k8 := tr _ _ k8
            have hbl : b < wr.heap.size := lt_of_cell k0
            have hcnt : (kid i).cnt ≤ 20000 := Nat.le_trans (Nat.le_trans (kid_cnt kid (by omega : i < k)) (Nat.le_add_left _ _)) hc.out
            have hlen : l.length + (told gUse (kid i).pre).length ≤ 20000 := by
              have h1 := catN_le (fun i => told gUse (kid i).pre) (show i + 1 ≤ k by omega)
              have h2 := hT.out
              rw [HG] at h2
              rw [A.out.1]
              rw [catN] at h1
              simp only [List.length_append] at h1 h2 ⊢
              omega
            have hcall := ih i B q wr hEq hcnt
            obtain ⟨f2, s2, nm2, tk2, tl2, n2, m2, ka2, kl2, kc2, at2⟩ := q
            dsimp only at k0 k1 k2 k3 k4 k5 k6 k7 k8
            have HC : Aside (Calls Try.prog 16 #[.agg #[.int .i64 f2, .int .i64 s2, .string nm2, .int .i64 tk2, .int .i64 tl2, .int .i64 n2, .int .i64 m2, .slice ka2 kl2 kc2, .int .i64 at2]] wr (RetU wr (told gUse (kid i).pre))) := hcall
            have HL : Aside _ := hlen
            clear hcall hEq tr hcc hks hlen hq
            go_wp2_with (fail)
            refine HC.out.mono ?_
            rintro _ w2 @⟨v2, _, hk2, hu2⟩
            obtain ⟨a2, c2, rfl⟩ := hu2.form
            have HU : Aside _ := hu2
            have A2 : Aside _ := A.out.2.2.nu hk2
            have hN2 : Aside _ := A.out.2.1.trans hk2
            have hs2 : w.heap.size + 1 ≤ w2.heap.size := by have := hN2.out.size; simpa using this
            clear hk2 hu2
            go_wp2_with (first | (at_builtin; refine wpList_append_rows _ rfl _ _ 23 rfl (w.heap.size + 1) 9 i0 _ 1 16 Try.underlying23 hi hz0 hz1 hz2 rfl (by decide) _ l.length (l.map Value.string) rfl A2.out.own wr.heap.size _ (told gUse (kid i).pre).length ((told gUse (kid i).pre).map Value.string) rfl HU.out.own (strs_one _) ?c2 ?c3 ?c4 _ rfl ?_))
            case c2 => have := HL.out; unfold maxLen; omega
            case c3 => have := HL.out; omega
            case c4 => exact hs2
            intro b3 c3 w3 hown3 hgrow3 hat3
            have A3 : Aside ((l ++ told gUse (kid i).pre) = [nm] ++ catN (fun i => told gUse (kid i).pre) (i + 1) ∧ Nu (w.alloc (.cells #[.int .i64 2, .int .i64 s, .string nm, .int .i64 tk, .int .i64 tl, .int .i64 n, .int .i64 m, .slice (some ⟨b, 0, none⟩) k kc, .int .i64 at'] 45)) w3 ∧ UL (w.heap.size + 1) w3 (.slice b3 (l ++ told gUse (kid i).pre).length c3) (l ++ told gUse (kid i).pre)) := by
              refine ⟨by rw [catN, ← List.append_assoc, ← A.out.1], nu_grown A2.out hN2.out (by simp) hgrow3, ⟨?_⟩⟩
              rw [List.length_append, List.map_append]
              exact hown3
            have hle3 : l.length + (told gUse (kid i).pre).length = (l ++ told gUse (kid i).pre).length := by rw [List.length_append]
            rw [hle3]
            generalize l ++ told gUse (kid i).pre = l3 at A3
            clear hown3 hgrow3 hat3 hle3
            go_wp2
            go_roundg (k - (i + 1))
            case measure => omega
            case rel => exact ⟨i + 1, c3, b3, l3, by go_num, rfl, by omega, by omega, A3⟩
          · have hge' : ¬ (i : Int) < k := by omega
            obtain rfl : i = k := by omega
            go_wp2
            go_ret
            have e : told gUse (Tree.node 2 nm i kid).pre = l := by rw [told_node, A.out.1, HG]
            rw [e]
            exact .mk (((Nu.refl w).alloc _).trans A.out.2.1) (A.out.2.2.mono (by omega))
      by_cases h9 : f = 9
      · subst h9
        have HG : (if gUse 9 then [nm] else []) = [nm] := rfl
        go_enter Try.func16, Try.ntmps16
        go_wp2_with (first | (at_builtin; refine wpList_append_lies _ rfl _ _ 23 rfl (w.heap.size + 1) 9 i0 _ 1 16 Try.underlying23 hi hz0 hz1 hz2 rfl (by decide) _ 0 [] rfl (World.ownsRow_nil _ _ 9 1) ⟨w.heap.size + 1, 0, none⟩ 1 1 [Value.string nm] rfl rfl ?c1 (string_one nm) (by decide) ?c2 ?c3 ?c4 _ rfl ?_))
        case c1 => first | exact World.news_of_block (alloc_at (n := w.heap.size + 1) (by simp)) | (intro j u h; simpa using h)
        case c2 => unfold maxLen; omega
        case c3 => omega
        case c4 => (try simp)
        intro gk cap w1 hown hgrow hat hlt1
        have hW0 : Nu (w.alloc (.cells #[.int .i64 9, .int .i64 s, .string nm, .int .i64 tk, .int .i64 tl, .int .i64 n, .int .i64 m, .slice ka k kc, .int .i64 at'] 45)) w1 := ⟨hgrow.os, hgrow.output, Nat.le_trans (by simp) hgrow.size, fun i hi => (hgrow.block i (by simp at hi ⊢; omega) (by intro e; cases e)).trans (Below.heap_alloc _ _ _ hi)⟩
        have A0 : Aside (UL (w.heap.size + 1) w1 (.slice (some ⟨gk, 0, none⟩) ([nm].length) cap) [nm]) := ⟨hown⟩
        clear hown hgrow hat
        go_wp2
        go_loopg [3, 4] k (fun kx s3 s4 wr => ∃ (i c : Nat) (a : Option Addr) (l : List ByteArray), s4 = .int .i64 (i : Int) ∧ s3 = .slice a l.length c ∧ i ≤ k ∧ k - i ≤ kx ∧ Aside (l = [nm] ++ catN (fun i => told gUse (kid i).pre) i ∧ Nu (w.alloc (.cells #[.int .i64 9, .int .i64 s, .string nm, .int .i64 tk, .int .i64 tl, .int .i64 n, .int .i64 m, .slice ka k kc, .int .i64 at'] 45)) wr ∧ UL (w.heap.size + 1) wr (.slice a l.length c) l))
        case atStart => exact ⟨0, cap, some ⟨gk, 0, none⟩, [nm], rfl, rfl, by omega, by omega, rfl, hW0, A0.out⟩
        case round =>
          obtain ⟨i, c, a, l, rfl, rfl, hik, hix, A⟩ := hrel
          have B0 : wr.heap[w.heap.size]? = some (.cells #[.int .i64 9, .int .i64 s, .string nm, .int .i64 tk, .int .i64 tl, .int .i64 n, .int .i64 m, .slice ka k kc, .int .i64 at'] 45 (0, 0)) := nu_block A.out.2.1 (alloc_self w _)
          obtain ⟨hc0, hf0⟩ := row_cells B0
          have hl0 := lt_of_block B0
          clear B0
          rcases Nat.lt_or_ge i k with hlt | hge
          · have hlt' : (i : Int) < k := by omega
            obtain ⟨b, cb, hks, hcc⟩ := HK.out (by omega)
            obtain ⟨rfl, rfl⟩ : ka = some ⟨b, 0, none⟩ ∧ kc = cb := by injection hks with h1 h2 h3; exact ⟨h1, h3⟩
            obtain ⟨q, hq⟩ : ∃ q, ps i = q := ⟨_, rfl⟩
            have hkn : Nu w wr := ((Nu.refl w).alloc _).trans A.out.2.1
            have hEq : IsExp B wr q (kid i) := by rw [← hq]; exact (hr i (by omega)).nu hkn
            obtain ⟨k0, k1, k2, k3, k4, k5, k6, k7, k8⟩ := kid_cells hcc (by omega) hq
            have hb : b < w.heap.size := lt_of_cell k0
            have tr : ∀ o v, w.cell? ⟨b, o, none⟩ = some v → wr.cell? ⟨b, o, none⟩ = some v := fun o v h => (hkn.cell hb).trans h
            replace k0 := tr _ _ k0
            replace k1 := tr _ _ k1
            replace k2 := tr _ _ k2
            replace k3 := tr _ _ k3
            replace k4 := tr _ _ k4
            replace k5 := tr _ _ k5
            replace k6 := tr _ _ k6
            replace k7 := tr _ _ k7
            replace k8 := tr _ _ k8
            have hbl : b < wr.heap.size := lt_of_cell k0
            have hcnt : (kid i).cnt ≤ 20000 := Nat.le_trans (Nat.le_trans (kid_cnt kid (by omega : i < k)) (Nat.le_add_left _ _)) hc.out
            have hlen : l.length + (told gUse (kid i).pre).length ≤ 20000 := by
              have h1 := catN_le (fun i => told gUse (kid i).pre) (show i + 1 ≤ k by omega)
              have h2 := hT.out
              rw [HG] at h2
              rw [A.out.1]
              rw [catN] at h1
              simp only [List.length_append] at h1 h2 ⊢
              omega
            have hcall := ih i B q wr hEq hcnt
            obtain ⟨f2, s2, nm2, tk2, tl2, n2, m2, ka2, kl2, kc2, at2⟩ := q
            dsimp only at k0 k1 k2 k3 k4 k5 k6 k7 k8
            have HC : Aside (Calls Try.prog 16 #[.agg #[.int .i64 f2, .int .i64 s2, .string nm2, .int .i64 tk2, .int .i64 tl2, .int .i64 n2, .int .i64 m2, .slice ka2 kl2 kc2, .int .i64 at2]] wr (RetU wr (told gUse (kid i).pre))) := hcall
            have HL : Aside _ := hlen
            clear hcall hEq tr hcc hks hlen hq
            go_wp2_with (fail)
            refine HC.out.mono ?_
            rintro _ w2 @⟨v2, _, hk2, hu2⟩
            obtain ⟨a2, c2, rfl⟩ := hu2.form
            have HU : Aside _ := hu2
            have A2 : Aside _ := A.out.2.2.nu hk2
            have hN2 : Aside _ := A.out.2.1.trans hk2
            have hs2 : w.heap.size + 1 ≤ w2.heap.size := by have := hN2.out.size; simpa using this
            clear hk2 hu2
            go_wp2_with (first | (at_builtin; refine wpList_append_rows _ rfl _ _ 23 rfl (w.heap.size + 1) 9 i0 _ 1 16 Try.underlying23 hi hz0 hz1 hz2 rfl (by decide) _ l.length (l.map Value.string) rfl A2.out.own wr.heap.size _ (told gUse (kid i).pre).length ((told gUse (kid i).pre).map Value.string) rfl HU.out.own (strs_one _) ?c2 ?c3 ?c4 _ rfl ?_))
            case c2 => have := HL.out; unfold maxLen; omega
            case c3 => have := HL.out; omega
            case c4 => exact hs2
            intro b3 c3 w3 hown3 hgrow3 hat3
            have A3 : Aside ((l ++ told gUse (kid i).pre) = [nm] ++ catN (fun i => told gUse (kid i).pre) (i + 1) ∧ Nu (w.alloc (.cells #[.int .i64 9, .int .i64 s, .string nm, .int .i64 tk, .int .i64 tl, .int .i64 n, .int .i64 m, .slice (some ⟨b, 0, none⟩) k kc, .int .i64 at'] 45)) w3 ∧ UL (w.heap.size + 1) w3 (.slice b3 (l ++ told gUse (kid i).pre).length c3) (l ++ told gUse (kid i).pre)) := by
              refine ⟨by rw [catN, ← List.append_assoc, ← A.out.1], nu_grown A2.out hN2.out (by simp) hgrow3, ⟨?_⟩⟩
              rw [List.length_append, List.map_append]
              exact hown3
            have hle3 : l.length + (told gUse (kid i).pre).length = (l ++ told gUse (kid i).pre).length := by rw [List.length_append]
            rw [hle3]
            generalize l ++ told gUse (kid i).pre = l3 at A3
            clear hown3 hgrow3 hat3 hle3
            go_wp2
            go_roundg (k - (i + 1))
            case measure => omega
            case rel => exact ⟨i + 1, c3, b3, l3, by go_num, rfl, by omega, by omega, A3⟩
          · have hge' : ¬ (i : Int) < k := by omega
            obtain rfl : i = k := by omega
            go_wp2
            go_ret
            have e : told gUse (Tree.node 9 nm i kid).pre = l := by rw [told_node, A.out.1, HG]
            rw [e]
            exact .mk (((Nu.refl w).alloc _).trans A.out.2.1) (A.out.2.2.mono (by omega))
      by_cases h10 : f = 10
      · subst h10
        have HG : (if gUse 10 then [nm] else []) = [nm] := rfl
        go_enter Try.func16, Try.ntmps16
        go_wp2_with (first | (at_builtin; refine wpList_append_lies _ rfl _ _ 23 rfl (w.heap.size + 1) 9 i0 _ 1 16 Try.underlying23 hi hz0 hz1 hz2 rfl (by decide) _ 0 [] rfl (World.ownsRow_nil _ _ 9 1) ⟨w.heap.size + 1, 0, none⟩ 1 1 [Value.string nm] rfl rfl ?c1 (string_one nm) (by decide) ?c2 ?c3 ?c4 _ rfl ?_))
        case c1 => first | exact World.news_of_block (alloc_at (n := w.heap.size + 1) (by simp)) | (intro j u h; simpa using h)
        case c2 => unfold maxLen; omega
        case c3 => omega
        case c4 => (try simp)
        intro gk cap w1 hown hgrow hat hlt1
        have hW0 : Nu (w.alloc (.cells #[.int .i64 10, .int .i64 s, .string nm, .int .i64 tk, .int .i64 tl, .int .i64 n, .int .i64 m, .slice ka k kc, .int .i64 at'] 45)) w1 := ⟨hgrow.os, hgrow.output, Nat.le_trans (by simp) hgrow.size, fun i hi => (hgrow.block i (by simp at hi ⊢; omega) (by intro e; cases e)).trans (Below.heap_alloc _ _ _ hi)⟩
        have A0 : Aside (UL (w.heap.size + 1) w1 (.slice (some ⟨gk, 0, none⟩) ([nm].length) cap) [nm]) := ⟨hown⟩
        clear hown hgrow hat
        go_wp2
        go_loopg [3, 4] k (fun kx s3 s4 wr => ∃ (i c : Nat) (a : Option Addr) (l : List ByteArray), s4 = .int .i64 (i : Int) ∧ s3 = .slice a l.length c ∧ i ≤ k ∧ k - i ≤ kx ∧ Aside (l = [nm] ++ catN (fun i => told gUse (kid i).pre) i ∧ Nu (w.alloc (.cells #[.int .i64 10, .int .i64 s, .string nm, .int .i64 tk, .int .i64 tl, .int .i64 n, .int .i64 m, .slice ka k kc, .int .i64 at'] 45)) wr ∧ UL (w.heap.size + 1) wr (.slice a l.length c) l))
        case atStart => exact ⟨0, cap, some ⟨gk, 0, none⟩, [nm], rfl, rfl, by omega, by omega, rfl, hW0, A0.out⟩
        case round =>
          obtain ⟨i, c, a, l, rfl, rfl, hik, hix, A⟩ := hrel
          have B0 : wr.heap[w.heap.size]? = some (.cells #[.int .i64 10, .int .i64 s, .string nm, .int .i64 tk, .int .i64 tl, .int .i64 n, .int .i64 m, .slice ka k kc, .int .i64 at'] 45 (0, 0)) := nu_block A.out.2.1 (alloc_self w _)
          obtain ⟨hc0, hf0⟩ := row_cells B0
          have hl0 := lt_of_block B0
          clear B0
          rcases Nat.lt_or_ge i k with hlt | hge
          · have hlt' : (i : Int) < k := by omega
            obtain ⟨b, cb, hks, hcc⟩ := HK.out (by omega)
            obtain ⟨rfl, rfl⟩ : ka = some ⟨b, 0, none⟩ ∧ kc = cb := by injection hks with h1 h2 h3; exact ⟨h1, h3⟩
            obtain ⟨q, hq⟩ : ∃ q, ps i = q := ⟨_, rfl⟩
            have hkn : Nu w wr := ((Nu.refl w).alloc _).trans A.out.2.1
            have hEq : IsExp B wr q (kid i) := by rw [← hq]; exact (hr i (by omega)).nu hkn
            obtain ⟨k0, k1, k2, k3, k4, k5, k6, k7, k8⟩ := kid_cells hcc (by omega) hq
            have hb : b < w.heap.size := lt_of_cell k0
            have tr : ∀ o v, w.cell? ⟨b, o, none⟩ = some v → wr.cell? ⟨b, o, none⟩ = some v := fun o v h => (hkn.cell hb).trans h
            replace k0 := tr _ _ k0
            replace k1 := tr _ _ k1
            replace k2 := tr _ _ k2
            replace k3 := tr _ _ k3
            replace k4 := tr _ _ k4
            replace k5 := tr _ _ k5
            replace k6 := tr _ _ k6
            replace k7 := tr _ _ k7
            replace k8 := tr _ _ k8
            have hbl : b < wr.heap.size := lt_of_cell k0
            have hcnt : (kid i).cnt ≤ 20000 := Nat.le_trans (Nat.le_trans (kid_cnt kid (by omega : i < k)) (Nat.le_add_left _ _)) hc.out
            have hlen : l.length + (told gUse (kid i).pre).length ≤ 20000 := by
              have h1 := catN_le (fun i => told gUse (kid i).pre) (show i + 1 ≤ k by omega)
              have h2 := hT.out
              rw [HG] at h2
              rw [A.out.1]
              rw [catN] at h1
              simp only [List.length_append] at h1 h2 ⊢
              omega
            have hcall := ih i B q wr hEq hcnt
            obtain ⟨f2, s2, nm2, tk2, tl2, n2, m2, ka2, kl2, kc2, at2⟩ := q
            dsimp only at k0 k1 k2 k3 k4 k5 k6 k7 k8
            have HC : Aside (Calls Try.prog 16 #[.agg #[.int .i64 f2, .int .i64 s2, .string nm2, .int .i64 tk2, .int .i64 tl2, .int .i64 n2, .int .i64 m2, .slice ka2 kl2 kc2, .int .i64 at2]] wr (RetU wr (told gUse (kid i).pre))) := hcall
            have HL : Aside _ := hlen
            clear hcall hEq tr hcc hks hlen hq
            go_wp2_with (fail)
            refine HC.out.mono ?_
            rintro _ w2 @⟨v2, _, hk2, hu2⟩
            obtain ⟨a2, c2, rfl⟩ := hu2.form
            have HU : Aside _ := hu2
            have A2 : Aside _ := A.out.2.2.nu hk2
            have hN2 : Aside _ := A.out.2.1.trans hk2
            have hs2 : w.heap.size + 1 ≤ w2.heap.size := by have := hN2.out.size; simpa using this
            clear hk2 hu2
            go_wp2_with (first | (at_builtin; refine wpList_append_rows _ rfl _ _ 23 rfl (w.heap.size + 1) 9 i0 _ 1 16 Try.underlying23 hi hz0 hz1 hz2 rfl (by decide) _ l.length (l.map Value.string) rfl A2.out.own wr.heap.size _ (told gUse (kid i).pre).length ((told gUse (kid i).pre).map Value.string) rfl HU.out.own (strs_one _) ?c2 ?c3 ?c4 _ rfl ?_))
            case c2 => have := HL.out; unfold maxLen; omega
            case c3 => have := HL.out; omega
            case c4 => exact hs2
            intro b3 c3 w3 hown3 hgrow3 hat3
            have A3 : Aside ((l ++ told gUse (kid i).pre) = [nm] ++ catN (fun i => told gUse (kid i).pre) (i + 1) ∧ Nu (w.alloc (.cells #[.int .i64 10, .int .i64 s, .string nm, .int .i64 tk, .int .i64 tl, .int .i64 n, .int .i64 m, .slice (some ⟨b, 0, none⟩) k kc, .int .i64 at'] 45)) w3 ∧ UL (w.heap.size + 1) w3 (.slice b3 (l ++ told gUse (kid i).pre).length c3) (l ++ told gUse (kid i).pre)) := by
              refine ⟨by rw [catN, ← List.append_assoc, ← A.out.1], nu_grown A2.out hN2.out (by simp) hgrow3, ⟨?_⟩⟩
              rw [List.length_append, List.map_append]
              exact hown3
            have hle3 : l.length + (told gUse (kid i).pre).length = (l ++ told gUse (kid i).pre).length := by rw [List.length_append]
            rw [hle3]
            generalize l ++ told gUse (kid i).pre = l3 at A3
            clear hown3 hgrow3 hat3 hle3
            go_wp2
            go_roundg (k - (i + 1))
            case measure => omega
            case rel => exact ⟨i + 1, c3, b3, l3, by go_num, rfl, by omega, by omega, A3⟩
          · have hge' : ¬ (i : Int) < k := by omega
            obtain rfl : i = k := by omega
            go_wp2
            go_ret
            have e : told gUse (Tree.node 10 nm i kid).pre = l := by rw [told_node, A.out.1, HG]
            rw [e]
            exact .mk (((Nu.refl w).alloc _).trans A.out.2.1) (A.out.2.2.mono (by omega))
      have e2 : (f == 2) = false := by simp [h2]
      have e9 : (f == 9) = false := by simp [h9]
      have e10 : (f == 10) = false := by simp [h10]
      have HG : (if gUse f then [nm] else []) = [] := by simp [gUse, e2, e9, e10]
      go_enter Try.func16, Try.ntmps16
      go_wp2
      go_loopg [3, 4] k (fun kx s3 s4 wr => ∃ (i c : Nat) (a : Option Addr) (l : List ByteArray), s4 = .int .i64 (i : Int) ∧ s3 = .slice a l.length c ∧ i ≤ k ∧ k - i ≤ kx ∧ Aside (l = [] ++ catN (fun i => told gUse (kid i).pre) i ∧ Nu (w.alloc (.cells #[.int .i64 f, .int .i64 s, .string nm, .int .i64 tk, .int .i64 tl, .int .i64 n, .int .i64 m, .slice ka k kc, .int .i64 at'] 45)) wr ∧ UL (w.heap.size + 1) wr (.slice a l.length c) l))
      case atStart => exact ⟨0, 0, none, [], rfl, rfl, by omega, by omega, rfl, Nu.refl _, UL.nil _ _⟩
      case round =>
        obtain ⟨i, c, a, l, rfl, rfl, hik, hix, A⟩ := hrel
        have B0 : wr.heap[w.heap.size]? = some (.cells #[.int .i64 f, .int .i64 s, .string nm, .int .i64 tk, .int .i64 tl, .int .i64 n, .int .i64 m, .slice ka k kc, .int .i64 at'] 45 (0, 0)) := nu_block A.out.2.1 (alloc_self w _)
        obtain ⟨hc0, hf0⟩ := row_cells B0
        have hl0 := lt_of_block B0
        clear B0
        rcases Nat.lt_or_ge i k with hlt | hge
        · have hlt' : (i : Int) < k := by omega
          obtain ⟨b, cb, hks, hcc⟩ := HK.out (by omega)
          obtain ⟨rfl, rfl⟩ : ka = some ⟨b, 0, none⟩ ∧ kc = cb := by injection hks with h1 h2 h3; exact ⟨h1, h3⟩
          obtain ⟨q, hq⟩ : ∃ q, ps i = q := ⟨_, rfl⟩
          have hkn : Nu w wr := ((Nu.refl w).alloc _).trans A.out.2.1
          have hEq : IsExp B wr q (kid i) := by rw [← hq]; exact (hr i (by omega)).nu hkn
          obtain ⟨k0, k1, k2, k3, k4, k5, k6, k7, k8⟩ := kid_cells hcc (by omega) hq
          have hb : b < w.heap.size := lt_of_cell k0
          have tr : ∀ o v, w.cell? ⟨b, o, none⟩ = some v → wr.cell? ⟨b, o, none⟩ = some v := fun o v h => (hkn.cell hb).trans h
          replace k0 := tr _ _ k0
          replace k1 := tr _ _ k1
          replace k2 := tr _ _ k2
          replace k3 := tr _ _ k3
          replace k4 := tr _ _ k4
          replace k5 := tr _ _ k5
          replace k6 := tr _ _ k6
          replace k7 := tr _ _ k7
          replace k8 := tr _ _ k8
          have hbl : b < wr.heap.size := lt_of_cell k0
          have hcnt : (kid i).cnt ≤ 20000 := Nat.le_trans (Nat.le_trans (kid_cnt kid (by omega : i < k)) (Nat.le_add_left _ _)) hc.out
          have hlen : l.length + (told gUse (kid i).pre).length ≤ 20000 := by
            have h1 := catN_le (fun i => told gUse (kid i).pre) (show i + 1 ≤ k by omega)
            have h2 := hT.out
            rw [HG] at h2
            rw [A.out.1]
            rw [catN] at h1
            simp only [List.length_append] at h1 h2 ⊢
            omega
          have hcall := ih i B q wr hEq hcnt
          obtain ⟨f2, s2, nm2, tk2, tl2, n2, m2, ka2, kl2, kc2, at2⟩ := q
          dsimp only at k0 k1 k2 k3 k4 k5 k6 k7 k8
          have HC : Aside (Calls Try.prog 16 #[.agg #[.int .i64 f2, .int .i64 s2, .string nm2, .int .i64 tk2, .int .i64 tl2, .int .i64 n2, .int .i64 m2, .slice ka2 kl2 kc2, .int .i64 at2]] wr (RetU wr (told gUse (kid i).pre))) := hcall
          have HL : Aside _ := hlen
          clear hcall hEq tr hcc hks hlen hq
          go_wp2_with (fail)
          refine HC.out.mono ?_
          rintro _ w2 @⟨v2, _, hk2, hu2⟩
          obtain ⟨a2, c2, rfl⟩ := hu2.form
          have HU : Aside _ := hu2
          have A2 : Aside _ := A.out.2.2.nu hk2
          have hN2 : Aside _ := A.out.2.1.trans hk2
          have hs2 : w.heap.size + 1 ≤ w2.heap.size := by have := hN2.out.size; simpa using this
          clear hk2 hu2
          go_wp2_with (first | (at_builtin; refine wpList_append_rows _ rfl _ _ 23 rfl (w.heap.size + 1) 9 i0 _ 1 16 Try.underlying23 hi hz0 hz1 hz2 rfl (by decide) _ l.length (l.map Value.string) rfl A2.out.own wr.heap.size _ (told gUse (kid i).pre).length ((told gUse (kid i).pre).map Value.string) rfl HU.out.own (strs_one _) ?c2 ?c3 ?c4 _ rfl ?_))
          case c2 => have := HL.out; unfold maxLen; omega
          case c3 => have := HL.out; omega
          case c4 => exact hs2
          intro b3 c3 w3 hown3 hgrow3 hat3
          have A3 : Aside ((l ++ told gUse (kid i).pre) = [] ++ catN (fun i => told gUse (kid i).pre) (i + 1) ∧ Nu (w.alloc (.cells #[.int .i64 f, .int .i64 s, .string nm, .int .i64 tk, .int .i64 tl, .int .i64 n, .int .i64 m, .slice (some ⟨b, 0, none⟩) k kc, .int .i64 at'] 45)) w3 ∧ UL (w.heap.size + 1) w3 (.slice b3 (l ++ told gUse (kid i).pre).length c3) (l ++ told gUse (kid i).pre)) := by
            refine ⟨by rw [catN, ← List.append_assoc, ← A.out.1], nu_grown A2.out hN2.out (by simp) hgrow3, ⟨?_⟩⟩
            rw [List.length_append, List.map_append]
            exact hown3
          have hle3 : l.length + (told gUse (kid i).pre).length = (l ++ told gUse (kid i).pre).length := by rw [List.length_append]
          rw [hle3]
          generalize l ++ told gUse (kid i).pre = l3 at A3
          clear hown3 hgrow3 hat3 hle3
          go_wp2
          go_roundg (k - (i + 1))
          case measure => omega
          case rel => exact ⟨i + 1, c3, b3, l3, by go_num, rfl, by omega, by omega, A3⟩
        · have hge' : ¬ (i : Int) < k := by omega
          obtain rfl : i = k := by omega
          go_wp2
          go_ret
          have e : told gUse (Tree.node f nm i kid).pre = l := by rw [told_node, A.out.1, HG]
          rw [e]
          exact .mk (((Nu.refl w).alloc _).trans A.out.2.1) (A.out.2.2.mono (by omega))

set_option maxHeartbeats 16000000 in
set_option maxRecDepth 100000 in
theorem refCalls_in (t : Tree) : ∀ (B : Nat → Prop) (p : ER) (w : World), IsExp B w p t → t.cnt ≤ 20000 → Calls Try.prog 17 #[.agg p.row] w (RetU w (told gCall t.pre)) := by
  induction t with
  | none =>
    intro B p w hE
    cases hE
  | node f nm k kid ih =>
    intro B p w hE hcn
    have hT : Aside ((told gCall (Tree.node f nm k kid).pre).length ≤ 20000) := told_le hcn
    have hc : Aside (1 + sumN (fun i => (kid i).cnt) k ≤ 20000) := hcn
    cases hE with
    | mk p k ps _ hk hr =>
      obtain ⟨f, s, nm, tk, tl, n, m, ka, kl, kc, at'⟩ := p
      dsimp only [ER.ks] at hk hT hc ih hr ⊢
      dsimp only [ER.row]
      obtain ⟨i0, hi, hz0, hz1, hz2⟩ := info_parts info9
      obtain rfl : k = kl := (kids_len hk).symm
      have hk2 : k ≤ 20000 := Nat.le_trans (Nat.le_trans (kids_cnt kid k) (Nat.le_add_left _ _)) hc.out
      have HK : Aside _ := fun h : 0 < k => kids_at hk h
      clear hk hcn
      rw [told_node] at hT
      go_enter Try.func17, Try.ntmps17
      go_wp2_with (fail)
      refine (isCall_in f _).mono ?_
      rintro _ _ ⟨rfl, rfl⟩
      generalize hg : gCall f = gb
      cases gb
      · have HG : (if gCall f then [nm] else []) = [] := by rw [hg]; rfl
        go_wp2
        go_loopg [3, 4] k (fun kx s3 s4 wr => ∃ (i c : Nat) (a : Option Addr) (l : List ByteArray), s4 = .int .i64 (i : Int) ∧ s3 = .slice a l.length c ∧ i ≤ k ∧ k - i ≤ kx ∧ Aside (l = [] ++ catN (fun i => told gCall (kid i).pre) i ∧ Nu (w.alloc (.cells #[.int .i64 f, .int .i64 s, .string nm, .int .i64 tk, .int .i64 tl, .int .i64 n, .int .i64 m, .slice ka k kc, .int .i64 at'] 45)) wr ∧ UL (w.heap.size + 1) wr (.slice a l.length c) l))
        case atStart => exact ⟨0, 0, none, [], rfl, rfl, by omega, by omega, rfl, Nu.refl _, UL.nil _ _⟩
        case round =>
          obtain ⟨i, c, a, l, rfl, rfl, hik, hix, A⟩ := hrel
          have B0 : wr.heap[w.heap.size]? = some (.cells #[.int .i64 f, .int .i64 s, .string nm, .int .i64 tk, .int .i64 tl, .int .i64 n, .int .i64 m, .slice ka k kc, .int .i64 at'] 45 (0, 0)) := nu_block A.out.2.1 (alloc_self w _)
          obtain ⟨hc0, hf0⟩ := row_cells B0
          have hl0 := lt_of_block B0
          clear B0
          rcases Nat.lt_or_ge i k with hlt | hge
          · have hlt' : (i : Int) < k := by omega
            obtain ⟨b, cb, hks, hcc⟩ := HK.out (by omega)
            obtain ⟨rfl, rfl⟩ : ka = some ⟨b, 0, none⟩ ∧ kc = cb := by injection hks with h1 h2 h3; exact ⟨h1, h3⟩
            obtain ⟨q, hq⟩ : ∃ q, ps i = q := ⟨_, rfl⟩
            have hkn : Nu w wr := ((Nu.refl w).alloc _).trans A.out.2.1
            have hEq : IsExp B wr q (kid i) := by rw [← hq]; exact (hr i (by omega)).nu hkn
            obtain ⟨k0, k1, k2, k3, k4, k5, k6, k7, k8⟩ := kid_cells hcc (by omega) hq
            have hb : b < w.heap.size := lt_of_cell k0
            have tr : ∀ o v, w.cell? ⟨b, o, none⟩ = some v → wr.cell? ⟨b, o, none⟩ = some v := fun o v h => (hkn.cell hb).trans h
            replace k0 := tr _ _ k0
            replace k1 := tr _ _ k1
            replace k2 := tr _ _ k2
            replace k3 := tr _ _ k3
            replace k4 := tr _ _ k4
            replace k5 := tr _ _ k5
            replace k6 := tr _ _ k6
            replace k7 := tr _ _ k7
            replace k8 := tr _ _ k8
            have hbl : b < wr.heap.size := lt_of_cell k0
            have hcnt : (kid i).cnt ≤ 20000 := Nat.le_trans (Nat.le_trans (kid_cnt kid (by omega : i < k)) (Nat.le_add_left _ _)) hc.out
            have hlen : l.length + (told gCall (kid i).pre).length ≤ 20000 := by
              have h1 := catN_le (fun i => told gCall (kid i).pre) (show i + 1 ≤ k by omega)
              have h2 := hT.out
              rw [HG] at h2
              rw [A.out.1]
              rw [catN] at h1
              simp only [List.length_append] at h1 h2 ⊢
              omega
            have hcall := ih i B q wr hEq hcnt
            obtain ⟨f2, s2, nm2, tk2, tl2, n2, m2, ka2, kl2, kc2, at2⟩ := q
            dsimp only at k0 k1 k2 k3 k4 k5 k6 k7 k8
            have HC : Aside (Calls Try.prog 17 #[.agg #[.int .i64 f2, .int .i64 s2, .string nm2, .int .i64 tk2, .int .i64 tl2, .int .i64 n2, .int .i64 m2, .slice ka2 kl2 kc2, .int .i64 at2]] wr (RetU wr (told gCall (kid i).pre))) := hcall
            have HL : Aside _ := hlen
            clear hcall hEq tr hcc hks hlen hq
            go_wp2_with (fail)
            refine HC.out.mono ?_
            rintro _ w2 @⟨v2, _, hk2, hu2⟩
            obtain ⟨a2, c2, rfl⟩ := hu2.form
            have HU : Aside _ := hu2
            have A2 : Aside _ := A.out.2.2.nu hk2
            have hN2 : Aside _ := A.out.2.1.trans hk2
            have hs2 : w.heap.size + 1 ≤ w2.heap.size := by have := hN2.out.size; simpa using this
            clear hk2 hu2
            go_wp2_with (first | (at_builtin; refine wpList_append_rows _ rfl _ _ 23 rfl (w.heap.size + 1) 9 i0 _ 1 16 Try.underlying23 hi hz0 hz1 hz2 rfl (by decide) _ l.length (l.map Value.string) rfl A2.out.own wr.heap.size _ (told gCall (kid i).pre).length ((told gCall (kid i).pre).map Value.string) rfl HU.out.own (strs_one _) ?c2 ?c3 ?c4 _ rfl ?_))
            case c2 => have := HL.out; unfold maxLen; omega
            case c3 => have := HL.out; omega
            case c4 => exact hs2
            intro b3 c3 w3 hown3 hgrow3 hat3
            have A3 : Aside ((l ++ told gCall (kid i).pre) = [] ++ catN (fun i => told gCall (kid i).pre) (i + 1) ∧ Nu (w.alloc (.cells #[.int .i64 f, .int .i64 s, .string nm, .int .i64 tk, .int .i64 tl, .int .i64 n, .int .i64 m, .slice (some ⟨b, 0, none⟩) k kc, .int .i64 at'] 45)) w3 ∧ UL (w.heap.size + 1) w3 (.slice b3 (l ++ told gCall (kid i).pre).length c3) (l ++ told gCall (kid i).pre)) := by
              refine ⟨by rw [catN, ← List.append_assoc, ← A.out.1], nu_grown A2.out hN2.out (by simp) hgrow3, ⟨?_⟩⟩
              rw [List.length_append, List.map_append]
              exact hown3
            have hle3 : l.length + (told gCall (kid i).pre).length = (l ++ told gCall (kid i).pre).length := by rw [List.length_append]
            rw [hle3]
            generalize l ++ told gCall (kid i).pre = l3 at A3
            clear hown3 hgrow3 hat3 hle3
            go_wp2
            go_roundg (k - (i + 1))
            case measure => omega
            case rel => exact ⟨i + 1, c3, b3, l3, by go_num, rfl, by omega, by omega, A3⟩
          · have hge' : ¬ (i : Int) < k := by omega
            obtain rfl : i = k := by omega
            go_wp2
            go_ret
            have e : told gCall (Tree.node f nm i kid).pre = l := by rw [told_node, A.out.1, HG]
            rw [e]
            exact .mk (((Nu.refl w).alloc _).trans A.out.2.1) (A.out.2.2.mono (by omega))
      · have HG : (if gCall f then [nm] else []) = [nm] := by rw [hg]; rfl
        go_wp2_with (first | (at_builtin; refine wpList_append_lies _ rfl _ _ 23 rfl (w.heap.size + 1) 9 i0 _ 1 16 Try.underlying23 hi hz0 hz1 hz2 rfl (by decide) _ 0 [] rfl (World.ownsRow_nil _ _ 9 1) ⟨w.heap.size + 1, 0, none⟩ 1 1 [Value.string nm] rfl rfl ?c1 (string_one nm) (by decide) ?c2 ?c3 ?c4 _ rfl ?_))
        case c1 => first | exact World.news_of_block (alloc_at (n := w.heap.size + 1) (by simp)) | (intro j u h; simpa using h)
        case c2 => unfold maxLen; omega
        case c3 => omega
        case c4 => (try simp)
        intro gk cap w1 hown hgrow hat hlt1
        have hW0 : Nu (w.alloc (.cells #[.int .i64 f, .int .i64 s, .string nm, .int .i64 tk, .int .i64 tl, .int .i64 n, .int .i64 m, .slice ka k kc, .int .i64 at'] 45)) w1 := ⟨hgrow.os, hgrow.output, Nat.le_trans (by simp) hgrow.size, fun i hi => (hgrow.block i (by simp at hi ⊢; omega) (by intro e; cases e)).trans (Below.heap_alloc _ _ _ hi)⟩
        have A0 : Aside (UL (w.heap.size + 1) w1 (.slice (some ⟨gk, 0, none⟩) ([nm].length) cap) [nm]) := ⟨hown⟩
        clear hown hgrow hat
        go_wp2
        go_loopg [3, 4] k (fun kx s3 s4 wr => ∃ (i c : Nat) (a : Option Addr) (l : List ByteArray), s4 = .int .i64 (i : Int) ∧ s3 = .slice a l.length c ∧ i ≤ k ∧ k - i ≤ kx ∧ Aside (l = [nm] ++ catN (fun i => told gCall (kid i).pre) i ∧ Nu (w.alloc (.cells #[.int .i64 f, .int .i64 s, .string nm, .int .i64 tk, .int .i64 tl, .int .i64 n, .int .i64 m, .slice ka k kc, .int .i64 at'] 45)) wr ∧ UL (w.heap.size + 1) wr (.slice a l.length c) l))
        case atStart => exact ⟨0, cap, some ⟨gk, 0, none⟩, [nm], rfl, rfl, by omega, by omega, rfl, hW0, A0.out⟩
        case round =>
          obtain ⟨i, c, a, l, rfl, rfl, hik, hix, A⟩ := hrel
          have B0 : wr.heap[w.heap.size]? = some (.cells #[.int .i64 f, .int .i64 s, .string nm, .int .i64 tk, .int .i64 tl, .int .i64 n, .int .i64 m, .slice ka k kc, .int .i64 at'] 45 (0, 0)) := nu_block A.out.2.1 (alloc_self w _)
          obtain ⟨hc0, hf0⟩ := row_cells B0
          have hl0 := lt_of_block B0
          clear B0
          rcases Nat.lt_or_ge i k with hlt | hge
          · have hlt' : (i : Int) < k := by omega
            obtain ⟨b, cb, hks, hcc⟩ := HK.out (by omega)
            obtain ⟨rfl, rfl⟩ : ka = some ⟨b, 0, none⟩ ∧ kc = cb := by injection hks with h1 h2 h3; exact ⟨h1, h3⟩
            obtain ⟨q, hq⟩ : ∃ q, ps i = q := ⟨_, rfl⟩
            have hkn : Nu w wr := ((Nu.refl w).alloc _).trans A.out.2.1
            have hEq : IsExp B wr q (kid i) := by rw [← hq]; exact (hr i (by omega)).nu hkn
            obtain ⟨k0, k1, k2, k3, k4, k5, k6, k7, k8⟩ := kid_cells hcc (by omega) hq
            have hb : b < w.heap.size := lt_of_cell k0
            have tr : ∀ o v, w.cell? ⟨b, o, none⟩ = some v → wr.cell? ⟨b, o, none⟩ = some v := fun o v h => (hkn.cell hb).trans h
            replace k0 := tr _ _ k0
            replace k1 := tr _ _ k1
            replace k2 := tr _ _ k2
            replace k3 := tr _ _ k3
            replace k4 := tr _ _ k4
            replace k5 := tr _ _ k5
            replace k6 := tr _ _ k6
            replace k7 := tr _ _ k7
            replace k8 := tr _ _ k8
            have hbl : b < wr.heap.size := lt_of_cell k0
            have hcnt : (kid i).cnt ≤ 20000 := Nat.le_trans (Nat.le_trans (kid_cnt kid (by omega : i < k)) (Nat.le_add_left _ _)) hc.out
            have hlen : l.length + (told gCall (kid i).pre).length ≤ 20000 := by
              have h1 := catN_le (fun i => told gCall (kid i).pre) (show i + 1 ≤ k by omega)
              have h2 := hT.out
              rw [HG] at h2
              rw [A.out.1]
              rw [catN] at h1
              simp only [List.length_append] at h1 h2 ⊢
              omega
            have hcall := ih i B q wr hEq hcnt
            obtain ⟨f2, s2, nm2, tk2, tl2, n2, m2, ka2, kl2, kc2, at2⟩ := q
            dsimp only at k0 k1 k2 k3 k4 k5 k6 k7 k8
            have HC : Aside (Calls Try.prog 17 #[.agg #[.int .i64 f2, .int .i64 s2, .string nm2, .int .i64 tk2, .int .i64 tl2, .int .i64 n2, .int .i64 m2, .slice ka2 kl2 kc2, .int .i64 at2]] wr (RetU wr (told gCall (kid i).pre))) := hcall
            have HL : Aside _ := hlen
            clear hcall hEq tr hcc hks hlen hq
            go_wp2_with (fail)
            refine HC.out.mono ?_
            rintro _ w2 @⟨v2, _, hk2, hu2⟩
            obtain ⟨a2, c2, rfl⟩ := hu2.form
            have HU : Aside _ := hu2
            have A2 : Aside _ := A.out.2.2.nu hk2
            have hN2 : Aside _ := A.out.2.1.trans hk2
            have hs2 : w.heap.size + 1 ≤ w2.heap.size := by have := hN2.out.size; simpa using this
            clear hk2 hu2
            go_wp2_with (first | (at_builtin; refine wpList_append_rows _ rfl _ _ 23 rfl (w.heap.size + 1) 9 i0 _ 1 16 Try.underlying23 hi hz0 hz1 hz2 rfl (by decide) _ l.length (l.map Value.string) rfl A2.out.own wr.heap.size _ (told gCall (kid i).pre).length ((told gCall (kid i).pre).map Value.string) rfl HU.out.own (strs_one _) ?c2 ?c3 ?c4 _ rfl ?_))
            case c2 => have := HL.out; unfold maxLen; omega
            case c3 => have := HL.out; omega
            case c4 => exact hs2
            intro b3 c3 w3 hown3 hgrow3 hat3
            have A3 : Aside ((l ++ told gCall (kid i).pre) = [nm] ++ catN (fun i => told gCall (kid i).pre) (i + 1) ∧ Nu (w.alloc (.cells #[.int .i64 f, .int .i64 s, .string nm, .int .i64 tk, .int .i64 tl, .int .i64 n, .int .i64 m, .slice (some ⟨b, 0, none⟩) k kc, .int .i64 at'] 45)) w3 ∧ UL (w.heap.size + 1) w3 (.slice b3 (l ++ told gCall (kid i).pre).length c3) (l ++ told gCall (kid i).pre)) := by
              refine ⟨by rw [catN, ← List.append_assoc, ← A.out.1], nu_grown A2.out hN2.out (by simp) hgrow3, ⟨?_⟩⟩
              rw [List.length_append, List.map_append]
              exact hown3
            have hle3 : l.length + (told gCall (kid i).pre).length = (l ++ told gCall (kid i).pre).length := by rw [List.length_append]
            rw [hle3]
            generalize l ++ told gCall (kid i).pre = l3 at A3
            clear hown3 hgrow3 hat3 hle3
            go_wp2
            go_roundg (k - (i + 1))
            case measure => omega
            case rel => exact ⟨i + 1, c3, b3, l3, by go_num, rfl, by omega, by omega, A3⟩
          · have hge' : ¬ (i : Int) < k := by omega
            obtain rfl : i = k := by omega
            go_wp2
            go_ret
            have e : told gCall (Tree.node f nm i kid).pre = l := by rw [told_node, A.out.1, HG]
            rw [e]
            exact .mk (((Nu.refl w).alloc _).trans A.out.2.1) (A.out.2.2.mono (by omega))
end Go.Pa
