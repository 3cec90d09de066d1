/-
  Width, Signed, power, Wrap (own work).
-/
import Derived.Test.YtlonlfiaclacdaaPaB
namespace Go.Pa
open Go Go.RowKit Go.Proofs

/-- A truth value. -/
inductive Bv : Value → Prop
  | mk (b : Bool) : Bv (.bool b)

/-- A call that hands back v and leaves all as it is. -/
abbrev Same1 (f : FuncId) (args : Array Value) (v : Value) : Prop := ∀ w, Calls Try.prog f args w fun e w' => e = .returned v ∧ w' = w

set_option maxHeartbeats 4000000 in
set_option maxRecDepth 100000 in
theorem Width_ex (k : Int) : ∃ n : Nat, (n ≤ 32 ∨ n = 64) ∧ Same1 62 #[.int .i64 k] (.int .i64 n) := by
  have H : ∀ n : Nat, (n ≤ 32 ∨ n = 64) → Same1 62 #[.int .i64 k] (.int .i64 n) → ∃ n : Nat, (n ≤ 32 ∨ n = 64) ∧ Same1 62 #[.int .i64 k] (.int .i64 n) := fun n h1 h2 => ⟨n, h1, h2⟩
  by_cases h1 : k = 1
  · refine H 1 (by omega) fun w => ?_
    go_enter Try.func62, Try.ntmps62
    go_wp2
    go_ret
    exact ⟨rfl, rfl⟩
  by_cases h2 : k = 2 ∨ k = 6
  · refine H 8 (by omega) fun w => ?_
    rcases h2 with h2 | h2
    all_goals
      go_enter Try.func62, Try.ntmps62
      go_wp2
      go_ret
      exact ⟨rfl, rfl⟩
  by_cases h3 : k = 3 ∨ k = 7
  · refine H 16 (by omega) fun w => ?_
    rcases h3 with h3 | h3
    all_goals
      go_enter Try.func62, Try.ntmps62
      go_wp2
      go_ret
      exact ⟨rfl, rfl⟩
  by_cases h4 : k = 4 ∨ k = 8
  · refine H 32 (by omega) fun w => ?_
    rcases h4 with h4 | h4
    all_goals
      go_enter Try.func62, Try.ntmps62
      go_wp2
      go_ret
      exact ⟨rfl, rfl⟩
  by_cases h5 : k = 5 ∨ k = 9
  · refine H 64 (by omega) fun w => ?_
    rcases h5 with h5 | h5
    all_goals
      go_enter Try.func62, Try.ntmps62
      go_wp2
      go_ret
      exact ⟨rfl, rfl⟩
  · refine H 0 (by omega) fun w => ?_
    have a1 : ¬ k = 1 := h1
    have a2 : ¬ k = 2 := by omega
    have a3 : ¬ k = 3 := by omega
    have a4 : ¬ k = 4 := by omega
    have a5 : ¬ k = 5 := by omega
    have a6 : ¬ k = 6 := by omega
    have a7 : ¬ k = 7 := by omega
    have a8 : ¬ k = 8 := by omega
    have a9 : ¬ k = 9 := by omega
    clear h2 h3 h4 h5
    go_enter Try.func62, Try.ntmps62
    go_wp2
    go_ret
    exact ⟨rfl, rfl⟩

set_option maxHeartbeats 4000000 in
set_option maxRecDepth 100000 in
theorem Signed_ex (k : Int) : ∃ b : Bool, Same1 63 #[.int .i64 k] (.bool b) := by
  by_cases h1 : k ≥ 2
  · by_cases h2 : k ≤ 5
    · refine ⟨true, fun w => ?_⟩
      go_enter Try.func63, Try.ntmps63
      go_wp2
      go_ret
      exact ⟨rfl, rfl⟩
    · refine ⟨false, fun w => ?_⟩
      go_enter Try.func63, Try.ntmps63
      go_wp2
      go_ret
      exact ⟨rfl, rfl⟩
  · refine ⟨false, fun w => ?_⟩
    go_enter Try.func63, Try.ntmps63
    go_wp2
    go_ret
    exact ⟨rfl, rfl⟩

set_option maxHeartbeats 4000000 in
set_option maxRecDepth 100000 in
theorem power_ex (n : Nat) (hn : n ≤ 32) : Same1 75 #[.int .i64 n] (.int .i64 ((2 ^ n : Nat) : Int)) := by
  intro w
  have HQ : Aside (2 ^ n ≤ 4294967296) := Nat.le_trans (Nat.pow_le_pow_right (by omega) hn) (by decide)
  go_enter Try.func75, Try.ntmps75
  go_wp2
  go_loopg [3, 4] n (fun kx s3 s4 wr => ∃ (k p : Nat), s4 = .int .i64 (k : Int) ∧ s3 = .int .i64 (p : Int) ∧ k ≤ n ∧ n - k ≤ kx ∧ Aside (p = 2 ^ k) ∧ p ≤ 4294967296 ∧ wr = w)
  case atStart => exact ⟨0, 1, rfl, rfl, by omega, by omega, rfl, by omega, rfl⟩
  case round =>
    obtain ⟨k, p, rfl, rfl, hk, hkx, hp2, hp3, rfl⟩ := hrel
    by_cases hlt : k < n
    · have hlt' : (k : Int) < n := by omega
      have hq : 2 * p = 2 ^ (k + 1) := by have := hp2.out; rw [Nat.pow_succ]; omega
      have hq3 : 2 * p ≤ 4294967296 := Nat.le_trans (Nat.le_of_eq hq) (Nat.le_trans (Nat.pow_le_pow_right (by omega) (by omega : k + 1 ≤ 32)) (by decide))
      have HQ2 : Aside _ := hq
      clear hq
      go_wp2
      go_roundg (n - (k + 1))
      case measure => omega
      case rel => exact ⟨k + 1, 2 * p, by go_num, by go_num, by omega, by omega, HQ2, hq3, rfl⟩
    · have hlt' : ¬ (k : Int) < n := by omega
      obtain rfl : k = n := by omega
      go_wp2
      go_ret
      exact ⟨by simp [hp2.out], rfl⟩

set_option maxHeartbeats 8000000 in
set_option maxRecDepth 100000 in
theorem Wrap_ex (k n : Int) : ∃ m : Int, Same1 64 #[.int .i64 k, .int .i64 n] (.int .i64 m) := by
  obtain ⟨b, hb, hW⟩ := Width_ex k
  obtain ⟨s, hS⟩ := Signed_ex k
  have HS : Hid _ := hS
  have HW : Hid _ := hW
  clear hW hS
  by_cases hb4 : b = 64
  · subst hb4
    refine ⟨n, fun w => ?_⟩
    go_enter Try.func64, Try.ntmps64
    go_wp2_with (fail)
    refine (HW.out _).mono ?_
    rintro _ _ ⟨rfl, rfl⟩
    go_wp2
    go_ret
    exact ⟨by first | rfl | (simp; done), rfl⟩
  by_cases hb0 : b = 0
  · subst hb0
    refine ⟨0, fun w => ?_⟩
    go_enter Try.func64, Try.ntmps64
    go_wp2_with (fail)
    refine (HW.out _).mono ?_
    rintro _ _ ⟨rfl, rfl⟩
    go_wp2
    go_ret
    exact ⟨by first | rfl | (simp; done), rfl⟩
  · have hb1 : ¬ (b : Int) = 0 := by omega
    have hb2 : ¬ (b : Int) = 64 := by omega
    have hb3 : b ≤ 32 := by omega
    have hp1 : 1 ≤ 2 ^ b := Nat.one_le_two_pow
    have hp2 : 2 ^ b ≤ 4294967296 := Nat.le_trans (Nat.pow_le_pow_right (by omega) hb3) (by decide)
    have HP : Hid _ := power_ex b hb3
    generalize 2 ^ b = p at hp1 hp2 HP
    have hp0 : ¬ (p : Int) = 0 := by omega
    clear hb hb3
    by_cases hneg : n.tmod p < 0
    · cases s
      · refine ⟨(wrap64 (n.tmod p + p)), fun w => ?_⟩
        go_enter Try.func64, Try.ntmps64
        go_wp2_with (fail)
        refine (HW.out _).mono ?_
        rintro _ _ ⟨rfl, rfl⟩
        go_wp2_with (fail)
        refine (HP.out _).mono ?_
        rintro _ _ ⟨rfl, rfl⟩
        go_wp2_with (fail)
        refine (HS.out _).mono ?_
        rintro _ _ ⟨rfl, rfl⟩
        go_wp2
        go_ret
        exact ⟨by first | rfl | (simp; done), rfl⟩
      · by_cases hr : (wrap64 (n.tmod p + p)) ≥ (p : Int) / 2
        · refine ⟨(wrap64 ((wrap64 (n.tmod p + p)) - p)), fun w => ?_⟩
          go_enter Try.func64, Try.ntmps64
          go_wp2_with (fail)
          refine (HW.out _).mono ?_
          rintro _ _ ⟨rfl, rfl⟩
          go_wp2_with (fail)
          refine (HP.out _).mono ?_
          rintro _ _ ⟨rfl, rfl⟩
          go_wp2_with (fail)
          refine (HS.out _).mono ?_
          rintro _ _ ⟨rfl, rfl⟩
          go_wp2

          go_ret
          exact ⟨by first | rfl | (simp; done), rfl⟩
        · refine ⟨(wrap64 (n.tmod p + p)), fun w => ?_⟩
          go_enter Try.func64, Try.ntmps64
          go_wp2_with (fail)
          refine (HW.out _).mono ?_
          rintro _ _ ⟨rfl, rfl⟩
          go_wp2_with (fail)
          refine (HP.out _).mono ?_
          rintro _ _ ⟨rfl, rfl⟩
          go_wp2_with (fail)
          refine (HS.out _).mono ?_
          rintro _ _ ⟨rfl, rfl⟩
          go_wp2
          go_ret
          exact ⟨by first | rfl | (simp; done), rfl⟩
    · cases s
      · refine ⟨(n.tmod p), fun w => ?_⟩
        go_enter Try.func64, Try.ntmps64
        go_wp2_with (fail)
        refine (HW.out _).mono ?_
        rintro _ _ ⟨rfl, rfl⟩
        go_wp2_with (fail)
        refine (HP.out _).mono ?_
        rintro _ _ ⟨rfl, rfl⟩
        go_wp2_with (fail)
        refine (HS.out _).mono ?_
        rintro _ _ ⟨rfl, rfl⟩
        go_wp2
        go_ret
        exact ⟨by first | rfl | (simp; done), rfl⟩
      · by_cases hr : (n.tmod p) ≥ (p : Int) / 2
        · refine ⟨(wrap64 ((n.tmod p) - p)), fun w => ?_⟩
          go_enter Try.func64, Try.ntmps64
          go_wp2_with (fail)
          refine (HW.out _).mono ?_
          rintro _ _ ⟨rfl, rfl⟩
          go_wp2_with (fail)
          refine (HP.out _).mono ?_
          rintro _ _ ⟨rfl, rfl⟩
          go_wp2_with (fail)
          refine (HS.out _).mono ?_
          rintro _ _ ⟨rfl, rfl⟩
          go_wp2

          go_ret
          exact ⟨by first | rfl | (simp; done), rfl⟩
        · refine ⟨(n.tmod p), fun w => ?_⟩
          go_enter Try.func64, Try.ntmps64
          go_wp2_with (fail)
          refine (HW.out _).mono ?_
          rintro _ _ ⟨rfl, rfl⟩
          go_wp2_with (fail)
          refine (HP.out _).mono ?_
          rintro _ _ ⟨rfl, rfl⟩
          go_wp2_with (fail)
          refine (HS.out _).mono ?_
          rintro _ _ ⟨rfl, rfl⟩
          go_wp2
          go_ret
          exact ⟨by first | rfl | (simp; done), rfl⟩
end Go.Pa

namespace Go.Pa
open Go Go.RowKit Go.Proofs

/-- One kid: the block that holds it is new. -/
theorem one_kid {B : Nat → Prop} {w : World} {p : ER} {t : Tree} (h : IsExp B w p t) (hB : B w.heap.size) (q : ER) (hq : q.ks = .slice (some ⟨w.heap.size, 0, none⟩) 1 1) :
    ∃ u, IsExp B (w.alloc (.cells p.row 45)) q u ∧ u.cnt = 1 + t.cnt := by
  refine ⟨_, .mk q 1 (fun _ => p) (fun _ => t) (by rw [hq]; exact kids_one (alloc_self w _) hB 1) fun i _ => h.alloc _, ?_⟩
  simp [Tree.cnt, sumN]

/-- In the loop of indexed. -/
structure IxI (S : Src) (w : World) (x x0 : St) (lo : Nat) (wr : World) (xc : St) (p : ER) (t : Tree) : Prop where
  g : Go1 S w x wr xc
  pr : xc.e = 0 → x0.at' + t.cnt ≤ xc.at'
  r : wr.heap[w.heap.size + 1]? = some (.cells zrow 45 (0, 0))
  a : wr.heap[w.heap.size]? = some (.cells p.row 45 (0, 0))
  e : IsExp (fun b => lo ≤ b ∧ b ≠ w.heap.size ∧ b ≠ w.heap.size + 1 ∧ b ≠ S.pb) wr p t

theorem IxI.kb {S : Src} {w : World} {x x0 : St} {lo : Nat} {wr w2 : World} {xc x2 : St} {p : ER} {t : Tree} (h : IxI S w x x0 lo wr xc p t) (g : Go1 S wr xc w2 x2) (hpb : S.pb < w.heap.size) : IxI S w x x0 lo w2 x2 p t :=
  ⟨h.g.trans g, fun e => Nat.le_trans (h.pr (Decidable.byContradiction fun e' => g.er e' e)) g.le, g.kb.block h.r (by omega), g.kb.block h.a (by omega), h.e.kb g.kb (fun b hb => hb.2.2.2)⟩

theorem put9_alloc (w : World) (b : Nat) (q : ER) (o : Obj) {k : Nat} (hk : k ≠ b) (hl : k < (w.alloc o).heap.size) : ((put9 w b q).alloc o).heap[k]? = (w.alloc o).heap[k]? := by
  simp at hl
  rcases (by omega : k < w.heap.size ∨ k = w.heap.size) with h | h
  · rw [Below.heap_alloc _ _ _ (by simpa using h), Below.heap_alloc _ _ _ h, put9_other _ q hk]
  · rw [alloc_at (by simp [h]), alloc_at h.symm]
theorem IxI.next {S : Src} {w : World} {x x0 : St} {lo : Nat} {w4 : World} {x4 : St} {p : ER} {t : Tree} (h : IxI S w x x0 lo w4 x4 p t) (hpb : S.pb < w.heap.size) (hsa : w.heap.size + 1 < w4.heap.size) {q : ER} {u : Tree}
    (hu : IsExp (fun b => lo ≤ b ∧ b ≠ w.heap.size ∧ b ≠ w.heap.size + 1 ∧ b ≠ S.pb) (w4.alloc (.cells p.row 45)) q u) (hc : x4.e = 0 → x0.at' + u.cnt ≤ x4.at') (htb : S.tb < w.heap.size) : IxI S w x x0 lo ((put9 w4 w.heap.size q).alloc (.cells p.row 45)) x4 q u :=
  ⟨⟨(h.g.ps.put9 (by omega) (by omega) q).alloc _, (h.g.kb.put9 (Nat.le_refl _) q).alloc _, h.g.le, h.g.er⟩, hc,
    (Below.heap_alloc _ _ _ (by simpa using hsa)).trans ((put9_other _ q (by omega)).trans h.r), (Below.heap_alloc _ _ _ (by simp; omega)).trans (put9_self h.a rfl q), hu.frame fun b hb hl => put9_alloc _ _ _ _ hb.2.1 hl⟩

set_option maxHeartbeats 8000000 in
set_option maxRecDepth 100000 in
theorem indexed_in {S : Src} {w : World} {x x0 : St} {lo : Nat} {p : ER} {t : Tree} (hP : PS S w x) (hE : IsExp (fun b => lo ≤ b ∧ b ≠ S.pb) w p t) (hlo : lo ≤ w.heap.size) (hc : x.e = 0 → x0.at' + t.cnt ≤ x.at') :
    Calls Try.prog 91 #[.pointer (some ⟨S.pb, 0, none⟩), .agg p.row] w (Ret S w x fun v w' x' => ExpP (fun b => lo ≤ b ∧ b ≠ S.pb) w' x0 x' v) := by
  have hpl := hP.plt
  have htl := hP.tlt
  have HI : Aside (IxI S w x x0 lo ((w.alloc (.cells p.row 45)).alloc (.cells zrow 45)) x p t) :=
    ⟨⟨(hP.alloc _).alloc _, ((KB.refl S w).alloc _).alloc _, Nat.le_refl _, id⟩, hc, alloc_at (by simp), (Below.heap_alloc _ _ _ (by simp)).trans (alloc_self w _), ((hE.bound.alloc _).alloc _).mono fun b hb => ⟨hb.1.1, by omega, by omega, hb.1.2⟩⟩
  have hlt0 := hP.lt
  clear hE hP hc
  simp only [ER.row]
  go_enter Try.func91, Try.ntmps91
  go_wp2
  go_loopg [5, 6] (S.len) (fun kx s5 s6 wr => ∃ (xc : St) (p : ER) (t : Tree), S.len - xc.at' ≤ kx ∧ xc.at' < S.len ∧ Aside (IxI S w x x0 lo wr xc p t))
  case atStart => exact ⟨x, p, t, by omega, hlt0, HI⟩
  case round =>
    obtain ⟨xc, p, t, hkx, hlt, A⟩ := hrel
    go_wp2_with (fail)
    refine (maybe_in A.out.g.ps _).mono ?_
    rintro _ w2 @⟨_, _, x2, g2, ⟨rfl, hat, hee⟩ | ⟨rfl, rfl⟩⟩
    · have A2 : Aside _ := A.out.kb g2 hpl
      go_wp2_with (fail)
      refine (size_in g2.ps).mono ?_
      rintro _ w3 @⟨_, _, x3, g3, ⟨n, rfl⟩, _⟩
      have A3 : Aside _ := A2.out.kb g3 hpl
      go_wp2_with (fail)
      refine (take_in g3.ps _).mono ?_
      rintro _ w4 @⟨_, _, x4, g4, rfl, _⟩
      have A4 : Aside _ := A3.out.kb g4 hpl
      have hle4 : x2.at' ≤ x4.at' := Nat.le_trans g3.le g4.le
      have her4 : x4.e = 0 → x2.e = 0 := fun h => Decidable.byContradiction fun e => g4.er (g3.er e) h
      obtain ⟨hac, haf⟩ := row_cells A4.out.a
      have hsa := lt_of_block A4.out.r
      have hsa0 : w.heap.size < w4.heap.size := by omega
      have hlt4 := g4.ps.lt
      simp only [ER.row] at hac
      have H := one_kid (B := fun b => lo ≤ b ∧ b ≠ w.heap.size ∧ b ≠ w.heap.size + 1 ∧ b ≠ S.pb) A4.out.e ⟨by omega, by omega, by omega, by omega⟩ ⟨16, 0, ⟨#[]⟩, 0, 0, n, 0, some ⟨w4.heap.size, 0, none⟩, 1, 1, p.at'⟩ rfl
      obtain ⟨u, hu, hcu⟩ := H
      have HQ := A4.out.next hpl hsa (q := (⟨16, 0, ⟨#[]⟩, 0, 0, n, 0, some ⟨w4.heap.size, 0, none⟩, 1, 1, p.at'⟩ : ER)) hu (fun h => by have := A.out.pr (Decidable.byContradiction fun e => g2.er e (her4 h)); omega) htl
      have A5 : Aside (IxI S w x x0 lo ((put9 w4 w.heap.size (⟨16, 0, ⟨#[]⟩, 0, 0, n, 0, some ⟨w4.heap.size, 0, none⟩, 1, 1, p.at'⟩ : ER)).alloc (.cells p.row 45)) x4 (⟨16, 0, ⟨#[]⟩, 0, 0, n, 0, some ⟨w4.heap.size, 0, none⟩, 1, 1, p.at'⟩ : ER) u) := HQ
      clear HQ
      clear hu
      go_wp2
      go_roundg (S.len - x4.at')
      case measure => omega
      case rel => exact ⟨x4, (⟨16, 0, ⟨#[]⟩, 0, 0, n, 0, some ⟨w4.heap.size, 0, none⟩, 1, 1, p.at'⟩ : ER), u, Nat.le_refl _, hlt4, A5⟩
    · have A2 : Aside _ := A.out.kb g2 hpl
      obtain ⟨hac, haf⟩ := row_cells A2.out.a
      obtain ⟨hrc, hrf⟩ := row_cells A2.out.r
      have hsa := lt_of_block A2.out.r
      simp only [ER.row] at hac
      simp only [zrow] at hrc
      go_wp2
      refine ret_exp (p := p) (r := w.heap.size + 1) rfl (by rfl) (put9_self A2.out.r rfl p) rfl ?_
      exact .mk ⟨A2.out.g.ps.put9 (by omega) (by omega) p, A2.out.g.kb.put9 (by omega) p, A2.out.g.le, A2.out.g.er⟩ (.mk p _ ((A2.out.e.put9 (b := w.heap.size + 1) (fun b hb => hb.2.2.1) p).mono fun b hb => ⟨hb.1, hb.2.2.2⟩) A2.out.pr)
end Go.Pa
