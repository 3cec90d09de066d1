/-
  exp (own work).
-/
import Derived.Test.YtlonlfiaclacdaaPaA
import Derived.Deep.AppendLies
namespace Go.Pa
open Go Go.RowKit Go.Proofs

set_option maxHeartbeats 4000000 in
set_option maxRecDepth 100000 in
theorem exp_in {k : Nat} (ha : CExp 83 k) : CExp 80 k := by
  intro S w x hP hk
  have hpl := hP.plt
  have HA : Hid _ := ha
  clear ha
  go_enter Try.func80, Try.ntmps80
  go_wp2_with (fail)
  refine (open_in (hP.alloc _)).mono ?_
  rintro _ w1 @⟨_, _, x1, g1, ⟨rfl, hat, hee⟩ | ⟨rfl, hee⟩⟩
  · go_wp2_with (fail)
    refine (HA.out S _ _ g1.ps (by omega)).mono ?_
    rintro _ w2 @⟨_, _, x2, g2, ⟨p, t, hE, hpr⟩⟩
    have hr := g2.kb.block (g1.kb.block (alloc_self w _) (by omega)) (by omega)
    obtain ⟨hrc, hrf⟩ := row_cells hr
    have c4 := g2.ps.c4
    have f4 := g2.ps.fz 4
    have hpl2 := g2.ps.plt
    have hrlt := lt_of_block hr
    simp only [ER.row]
    go_wp2
    have hr4 := (Below.heap_setCell w2 ⟨S.pb, 4, none⟩ (.int .i64 (wrap64 (x2.n - 1))) w.heap.size (by show w.heap.size ≠ S.pb; omega)).trans hr
    refine ret_exp (p := p) (r := w.heap.size) rfl (by rfl) ((Below.heap_alloc _ _ _ (by simp; omega)).trans (put9_self hr4 rfl p)) rfl ?_
    have hs1 : w.heap.size < w1.heap.size := by have := g1.kb.size; simp at this; omega
    have htl := hP.tlt
    have hps := ((g2.ps.set4 (wrap64 (x2.n - 1))).put9 (b := w.heap.size) (by omega) (by omega) p).alloc (.cells p.row 45)
    have hkb : KB S w ((put9 (w2.setCell ⟨S.pb, 4, none⟩ (.int .i64 (wrap64 (x2.n - 1)))) w.heap.size p).alloc (.cells p.row 45)) := (((((((KB.refl S w).alloc _).trans g1.kb).trans g2.kb).setCell (.inr rfl) _).put9 (Nat.le_refl _) p).alloc _)
    refine .mk ⟨hps, hkb, by have := g2.le; show x.at' ≤ x2.at'; omega, fun h => by show x2.e ≠ 0; exact g2.er (by rw [hee]; exact h)⟩ (.mk p t ?_ fun h => by have := hpr h; show x.at' + t.cnt ≤ x2.at'; omega)
    exact (((hE.setCell (a := ⟨S.pb, 4, none⟩) (fun b hb => by show b ≠ S.pb; omega) _).put9 (fun b hb => by omega) p).alloc _).mono fun b hb => by omega
  · have hr := g1.kb.block (alloc_self w _) (by omega)
    obtain ⟨hrc, hrf⟩ := row_cells hr
    have hrlt := lt_of_block hr
    go_wp2
    have htl := hP.tlt
    refine ret_exp (p := ER.zero) (r := w.heap.size) rfl (by rfl) (put9_self hr rfl ER.zero) rfl ?_
    exact .mk ⟨g1.ps.put9 (by omega) (by omega) ER.zero, (((KB.refl S w).alloc _).trans g1.kb).put9 (Nat.le_refl _) ER.zero, g1.le, g1.er⟩ (zero_exp _ _ _ _ hee)
end Go.Pa

namespace Go.Pa
open Go Go.RowKit Go.Proofs

set_option maxHeartbeats 4000000 in
set_option maxRecDepth 100000 in
theorem arrow_in {k : Nat} (ha : CExp 84 k) (hb : ∀ j, j < k → CExp 83 j) : CExp 83 k := by
  intro S w x hP hk
  have hpl := hP.plt
  have htl := hP.tlt
  have hxl := hP.lt
  have HA : Hid _ := ha
  have HB : Hid _ := hb
  clear ha hb
  go_enter Try.func83, Try.ntmps83
  go_wp2_with (fail)
  refine (HA.out S _ _ (hP.alloc _) hk).mono ?_
  rintro _ w1 @⟨_, _, x1, g1, ⟨p, t, hE, hpr⟩⟩
  have hr1 := g1.kb.block (alloc_self w _) (by omega)
  have hs1 := lt_of_block hr1
  have hE0 := hE.alloc (.cells p.row 45)
  simp only [ER.row]
  go_wp2_with (fail)
  refine (maybe_in (g1.ps.alloc _) _).mono ?_
  rintro _ w2 @⟨_, _, x2, g2, ⟨rfl, hat, hee⟩ | ⟨rfl, rfl⟩⟩
  · have hr2 := g2.kb.block ((Below.heap_alloc w1 (.cells p.row 45) _ hs1).trans hr1) (by omega)
    have ha2 := g2.kb.block (alloc_self w1 (.cells p.row 45)) (by omega)
    have hE2 := hE0.kb g2.kb (fun b hb => by simp at hb; omega)
    have hs2 := lt_of_block ha2
    have hm : S.len - x2.at' < k := by have := g2.ps.lt; have := g1.le; omega
    go_wp2_with (fail)
    refine (HB.out _ hm S _ _ g2.ps (Nat.le_refl _)).mono ?_
    rintro _ w3 @⟨_, _, x3, g3, ⟨q, u, hF, hpr3⟩⟩
    have hr3 := g3.kb.block hr2 (by omega)
    have ha3 := g3.kb.block ha2 (by omega)
    have hE3 := hE2.kb g3.kb (fun b hb => by simp at hb; omega)
    have hs3 := lt_of_block ha3
    obtain ⟨hac, haf⟩ := row_cells ha3
    simp only [ER.row] at hac ⊢
    have hB1 : w.heap.size ≤ w1.heap.size := by omega
    have hE4 : IsExp (w.heap.size + 1 ≤ ·) (w3.alloc (.cells q.row 45)) p t := (hE3.alloc _).mono fun b hb => by simp at hb; omega
    have hF4 : IsExp (w.heap.size + 1 ≤ ·) (w3.alloc (.cells q.row 45)) q u := (hF.alloc _).mono fun b hb => by omega
    go_wp2_with (fail)
    refine (two_in (B := (w.heap.size + 1 ≤ ·)) _ _ hE4 hF4 (fun b hb => by simp at hb; omega)).mono ?_
    rintro _ w4 ⟨⟨_, rfl, @⟨p4, t4, hE5, hc4⟩⟩, hn4⟩
    have hr4 := (hn4.same w.heap.size (by simp; omega)).trans ((Below.heap_alloc w3 (.cells q.row 45) _ (by omega)).trans hr3)
    obtain ⟨hrc, hrf⟩ := row_cells hr4
    have hrlt := lt_of_block hr4
    simp only [ER.row]
    go_wp2
    refine ret_exp (p := p4) (r := w.heap.size) rfl (by rfl) (put9_self hr4 rfl p4) rfl ?_
    have hkb : KB S w w4 := ((((((KB.refl S w).alloc _).trans g1.kb).alloc (.cells p.row 45)).trans g2.kb).trans g3.kb |>.alloc (.cells q.row 45)).trans (hn4.kb S)
    refine .mk ⟨((g3.ps.alloc _).nu hn4).put9 (by omega) (by omega) p4, hkb.put9 (Nat.le_refl _) p4, by have := g1.le; have := g2.le; have := g3.le; omega, fun h => g3.er (g2.er (g1.er h))⟩ (.mk p4 t4 ?_ fun h => by have := hpr3 h; have := hpr (Decidable.byContradiction fun e => g3.er (g2.er e) h); omega)
    exact (hE5.put9 (b := w.heap.size) (fun b hb => by omega) p4).mono fun b hb => by omega
  · have hr2 := g2.kb.block ((Below.heap_alloc w1 (.cells p.row 45) _ hs1).trans hr1) (by omega)
    have ha2 := g2.kb.block (alloc_self w1 (.cells p.row 45)) (by omega)
    have hE2 := hE0.kb g2.kb (fun b hb => by simp at hb; omega)
    have hs2 := lt_of_block ha2
    have hrlt := lt_of_block hr2
    obtain ⟨hac, haf⟩ := row_cells ha2
    obtain ⟨hrc, hrf⟩ := row_cells hr2
    simp only [ER.row] at hac
    go_wp2
    refine ret_exp (p := p) (r := w.heap.size) rfl (by rfl) (put9_self hr2 rfl p) rfl ?_
    have hkb : KB S w w2 := (((((KB.refl S w).alloc _).trans g1.kb).alloc (.cells p.row 45)).trans g2.kb)
    refine .mk ⟨g2.ps.put9 (by omega) (by omega) p, hkb.put9 (Nat.le_refl _) p, g1.le, g1.er⟩ (.mk p t ?_ hpr)
    exact (hE2.put9 (b := w.heap.size) (fun b hb => by simp at hb; omega) p).mono fun b hb => by simp at hb; omega

set_option maxHeartbeats 4000000 in
set_option maxRecDepth 100000 in
theorem fby_in {k : Nat} (ha : CExp 86 k) (hb : ∀ j, j < k → CExp 84 j) : CExp 84 k := by
  intro S w x hP hk
  have hpl := hP.plt
  have htl := hP.tlt
  have hxl := hP.lt
  have HA : Hid _ := ha
  have HB : Hid _ := hb
  clear ha hb
  go_enter Try.func84, Try.ntmps84
  go_wp2_with (fail)
  refine (HA.out S _ _ (hP.alloc _) hk).mono ?_
  rintro _ w1 @⟨_, _, x1, g1, ⟨p, t, hE, hpr⟩⟩
  have hr1 := g1.kb.block (alloc_self w _) (by omega)
  have hs1 := lt_of_block hr1
  have hE0 := hE.alloc (.cells p.row 45)
  simp only [ER.row]
  go_wp2_with (fail)
  refine (maybe_in (g1.ps.alloc _) _).mono ?_
  rintro _ w2 @⟨_, _, x2, g2, ⟨rfl, hat, hee⟩ | ⟨rfl, rfl⟩⟩
  · have hr2 := g2.kb.block ((Below.heap_alloc w1 (.cells p.row 45) _ hs1).trans hr1) (by omega)
    have ha2 := g2.kb.block (alloc_self w1 (.cells p.row 45)) (by omega)
    have hE2 := hE0.kb g2.kb (fun b hb => by simp at hb; omega)
    have hs2 := lt_of_block ha2
    have hm : S.len - x2.at' < k := by have := g2.ps.lt; have := g1.le; omega
    go_wp2_with (fail)
    refine (HB.out _ hm S _ _ g2.ps (Nat.le_refl _)).mono ?_
    rintro _ w3 @⟨_, _, x3, g3, ⟨q, u, hF, hpr3⟩⟩
    have hr3 := g3.kb.block hr2 (by omega)
    have ha3 := g3.kb.block ha2 (by omega)
    have hE3 := hE2.kb g3.kb (fun b hb => by simp at hb; omega)
    have hs3 := lt_of_block ha3
    obtain ⟨hac, haf⟩ := row_cells ha3
    simp only [ER.row] at hac ⊢
    have hB1 : w.heap.size ≤ w1.heap.size := by omega
    have hE4 : IsExp (w.heap.size + 1 ≤ ·) (w3.alloc (.cells q.row 45)) p t := (hE3.alloc _).mono fun b hb => by simp at hb; omega
    have hF4 : IsExp (w.heap.size + 1 ≤ ·) (w3.alloc (.cells q.row 45)) q u := (hF.alloc _).mono fun b hb => by omega
    go_wp2_with (fail)
    refine (two_in (B := (w.heap.size + 1 ≤ ·)) _ _ hE4 hF4 (fun b hb => by simp at hb; omega)).mono ?_
    rintro _ w4 ⟨⟨_, rfl, @⟨p4, t4, hE5, hc4⟩⟩, hn4⟩
    have hr4 := (hn4.same w.heap.size (by simp; omega)).trans ((Below.heap_alloc w3 (.cells q.row 45) _ (by omega)).trans hr3)
    obtain ⟨hrc, hrf⟩ := row_cells hr4
    have hrlt := lt_of_block hr4
    simp only [ER.row]
    go_wp2
    refine ret_exp (p := p4) (r := w.heap.size) rfl (by rfl) (put9_self hr4 rfl p4) rfl ?_
    have hkb : KB S w w4 := ((((((KB.refl S w).alloc _).trans g1.kb).alloc (.cells p.row 45)).trans g2.kb).trans g3.kb |>.alloc (.cells q.row 45)).trans (hn4.kb S)
    refine .mk ⟨((g3.ps.alloc _).nu hn4).put9 (by omega) (by omega) p4, hkb.put9 (Nat.le_refl _) p4, by have := g1.le; have := g2.le; have := g3.le; omega, fun h => g3.er (g2.er (g1.er h))⟩ (.mk p4 t4 ?_ fun h => by have := hpr3 h; have := hpr (Decidable.byContradiction fun e => g3.er (g2.er e) h); omega)
    exact (hE5.put9 (b := w.heap.size) (fun b hb => by omega) p4).mono fun b hb => by omega
  · have hr2 := g2.kb.block ((Below.heap_alloc w1 (.cells p.row 45) _ hs1).trans hr1) (by omega)
    have ha2 := g2.kb.block (alloc_self w1 (.cells p.row 45)) (by omega)
    have hE2 := hE0.kb g2.kb (fun b hb => by simp at hb; omega)
    have hs2 := lt_of_block ha2
    have hrlt := lt_of_block hr2
    obtain ⟨hac, haf⟩ := row_cells ha2
    obtain ⟨hrc, hrf⟩ := row_cells hr2
    simp only [ER.row] at hac
    go_wp2
    refine ret_exp (p := p) (r := w.heap.size) rfl (by rfl) (put9_self hr2 rfl p) rfl ?_
    have hkb : KB S w w2 := (((((KB.refl S w).alloc _).trans g1.kb).alloc (.cells p.row 45)).trans g2.kb)
    refine .mk ⟨g2.ps.put9 (by omega) (by omega) p, hkb.put9 (Nat.le_refl _) p, g1.le, g1.er⟩ (.mk p t ?_ hpr)
    exact (hE2.put9 (b := w.heap.size) (fun b hb => by simp at hb; omega) p).mono fun b hb => by simp at hb; omega

set_option maxHeartbeats 4000000 in
set_option maxRecDepth 100000 in
theorem imp_in {k : Nat} (ha : CLevel 0 k) (hb : ∀ j, j < k → CExp 86 j) : CExp 86 k := by
  intro S w x hP hk
  have hpl := hP.plt
  have htl := hP.tlt
  have hxl := hP.lt
  have HA : Hid _ := ha
  have HB : Hid _ := hb
  clear ha hb
  go_enter Try.func86, Try.ntmps86
  go_wp2_with (fail)
  refine (HA.out S _ _ (hP.alloc _) hk).mono ?_
  rintro _ w1 @⟨_, _, x1, g1, ⟨p, t, hE, hpr⟩⟩
  have hr1 := g1.kb.block (alloc_self w _) (by omega)
  have hs1 := lt_of_block hr1
  have hE0 := hE.alloc (.cells p.row 45)
  simp only [ER.row]
  go_wp2_with (fail)
  refine (maybe_in (g1.ps.alloc _) _).mono ?_
  rintro _ w2 @⟨_, _, x2, g2, ⟨rfl, hat, hee⟩ | ⟨rfl, rfl⟩⟩
  · have hr2 := g2.kb.block ((Below.heap_alloc w1 (.cells p.row 45) _ hs1).trans hr1) (by omega)
    have ha2 := g2.kb.block (alloc_self w1 (.cells p.row 45)) (by omega)
    have hE2 := hE0.kb g2.kb (fun b hb => by simp at hb; omega)
    have hs2 := lt_of_block ha2
    have hm : S.len - x2.at' < k := by have := g2.ps.lt; have := g1.le; omega
    go_wp2_with (fail)
    refine (HB.out _ hm S _ _ g2.ps (Nat.le_refl _)).mono ?_
    rintro _ w3 @⟨_, _, x3, g3, ⟨q, u, hF, hpr3⟩⟩
    have hr3 := g3.kb.block hr2 (by omega)
    have ha3 := g3.kb.block ha2 (by omega)
    have hE3 := hE2.kb g3.kb (fun b hb => by simp at hb; omega)
    have hs3 := lt_of_block ha3
    obtain ⟨hac, haf⟩ := row_cells ha3
    simp only [ER.row] at hac ⊢
    have hB1 : w.heap.size ≤ w1.heap.size := by omega
    have hE4 : IsExp (w.heap.size + 1 ≤ ·) (w3.alloc (.cells q.row 45)) p t := (hE3.alloc _).mono fun b hb => by simp at hb; omega
    have hF4 : IsExp (w.heap.size + 1 ≤ ·) (w3.alloc (.cells q.row 45)) q u := (hF.alloc _).mono fun b hb => by omega
    go_wp2_with (fail)
    refine (two_in (B := (w.heap.size + 1 ≤ ·)) _ _ hE4 hF4 (fun b hb => by simp at hb; omega)).mono ?_
    rintro _ w4 ⟨⟨_, rfl, @⟨p4, t4, hE5, hc4⟩⟩, hn4⟩
    have hr4 := (hn4.same w.heap.size (by simp; omega)).trans ((Below.heap_alloc w3 (.cells q.row 45) _ (by omega)).trans hr3)
    obtain ⟨hrc, hrf⟩ := row_cells hr4
    have hrlt := lt_of_block hr4
    simp only [ER.row]
    go_wp2
    refine ret_exp (p := p4) (r := w.heap.size) rfl (by rfl) (put9_self hr4 rfl p4) rfl ?_
    have hkb : KB S w w4 := ((((((KB.refl S w).alloc _).trans g1.kb).alloc (.cells p.row 45)).trans g2.kb).trans g3.kb |>.alloc (.cells q.row 45)).trans (hn4.kb S)
    refine .mk ⟨((g3.ps.alloc _).nu hn4).put9 (by omega) (by omega) p4, hkb.put9 (Nat.le_refl _) p4, by have := g1.le; have := g2.le; have := g3.le; omega, fun h => g3.er (g2.er (g1.er h))⟩ (.mk p4 t4 ?_ fun h => by have := hpr3 h; have := hpr (Decidable.byContradiction fun e => g3.er (g2.er e) h); omega)
    exact (hE5.put9 (b := w.heap.size) (fun b hb => by omega) p4).mono fun b hb => by omega
  · have hr2 := g2.kb.block ((Below.heap_alloc w1 (.cells p.row 45) _ hs1).trans hr1) (by omega)
    have ha2 := g2.kb.block (alloc_self w1 (.cells p.row 45)) (by omega)
    have hE2 := hE0.kb g2.kb (fun b hb => by simp at hb; omega)
    have hs2 := lt_of_block ha2
    have hrlt := lt_of_block hr2
    obtain ⟨hac, haf⟩ := row_cells ha2
    obtain ⟨hrc, hrf⟩ := row_cells hr2
    simp only [ER.row] at hac
    go_wp2
    refine ret_exp (p := p) (r := w.heap.size) rfl (by rfl) (put9_self hr2 rfl p) rfl ?_
    have hkb : KB S w w2 := (((((KB.refl S w).alloc _).trans g1.kb).alloc (.cells p.row 45)).trans g2.kb)
    refine .mk ⟨g2.ps.put9 (by omega) (by omega) p, hkb.put9 (Nat.le_refl _) p, g1.le, g1.er⟩ (.mk p t ?_ hpr)
    exact (hE2.put9 (b := w.heap.size) (fun b hb => by simp at hb; omega) p).mono fun b hb => by simp at hb; omega
end Go.Pa

namespace Go.Pa
open Go Go.RowKit Go.Proofs

set_option maxHeartbeats 4000000 in
set_option maxRecDepth 100000 in
theorem level8_in {k : Nat} (ha : CExp 88 k) : CLevel 8 k := by
  intro S w x hP hk
  have hpl := hP.plt
  have htl := hP.tlt
  have HA : Hid _ := ha
  clear ha
  go_enter Try.func87, Try.ntmps87
  go_wp2_with (fail)
  refine (HA.out S _ _ (hP.alloc _) hk).mono ?_
  rintro _ w1 @⟨_, _, x1, g1, ⟨p, t, hE, hpr⟩⟩
  have hr1 := g1.kb.block (alloc_self w _) (by omega)
  have hs1 := lt_of_block hr1
  obtain ⟨hrc, hrf⟩ := row_cells hr1
  simp only [ER.row]
  go_wp2
  refine ret_exp (p := p) (r := w.heap.size) rfl (by rfl) (put9_self hr1 rfl p) rfl ?_
  refine .mk ⟨g1.ps.put9 (by omega) (by omega) p, (((KB.refl S w).alloc _).trans g1.kb).put9 (Nat.le_refl _) p, g1.le, g1.er⟩ (.mk p t ?_ hpr)
  exact (hE.put9 (b := w.heap.size) (fun b hb => by simp at hb; omega) p).mono fun b hb => by simp at hb; omega

/-- In the loop of level. -/
structure LvI (S : Src) (w : World) (x : St) (ab : Nat) (wr : World) (xc : St) (p : ER) (t : Tree) : Prop where
  g : Go1 S w x wr xc
  pr : xc.e = 0 → x.at' + t.cnt ≤ xc.at'
  r : wr.heap[w.heap.size]? = some (.cells zrow 45 (0, 0))
  a : wr.heap[ab]? = some (.cells p.row 45 (0, 0))
  e : IsExp (fun b => w.heap.size + 1 ≤ b ∧ b ≠ ab) wr p t

theorem LvI.kb {S : Src} {w : World} {x : St} {ab : Nat} {wr w2 : World} {xc x2 : St} {p : ER} {t : Tree} (h : LvI S w x ab wr xc p t) (g : Go1 S wr xc w2 x2) (hpb : S.pb < w.heap.size) (hab : w.heap.size < ab) : LvI S w x ab w2 x2 p t :=
  ⟨h.g.trans g, fun e => Nat.le_trans (h.pr (Decidable.byContradiction fun e' => g.er e' e)) g.le, g.kb.block h.r (by omega), g.kb.block h.a (by omega), h.e.kb g.kb (fun b hb => by omega)⟩

set_option maxHeartbeats 8000000 in
set_option maxRecDepth 100000 in
theorem level_in {n k : Nat} (hn : n < 8) (ha : CLevel (n + 1) k) : CLevel n k := by
  intro S w x hP hk
  have hpl := hP.plt
  have htl := hP.tlt
  have hxl := hP.lt
  have HA : Hid _ := ha
  clear ha
  have hn8 : ¬ (n : Int) = 8 := by omega
  have h8 : ((n : Int) == 8) = false := by simp [hn8]
  have hc1 : ((n + 1 : Nat) : Int) = (n : Int) + 1 := by omega
  go_enter Try.func87, Try.ntmps87
  go_wp2_with (fail)
  rw [← hc1]
  refine (HA.out S _ _ (hP.alloc _) hk).mono ?_
  rintro _ w1 @⟨_, _, x1, g1, ⟨p, t, hE, hpr⟩⟩
  have hr1 := g1.kb.block (alloc_self w _) (by omega)
  have hs1 := lt_of_block hr1
  have hI : LvI S w x w1.heap.size (w1.alloc (.cells p.row 45)) x1 p t :=
    ⟨⟨g1.ps.alloc _, (((KB.refl S w).alloc _).trans g1.kb).alloc _, g1.le, g1.er⟩, hpr, (Below.heap_alloc w1 _ _ hs1).trans hr1, alloc_self w1 _, (hE.bound.alloc _).mono fun b hb => by simp at hb; omega⟩
  have HI : Aside _ := hI
  have HG : Aside _ := (⟨hr1, hE, hpr, g1⟩ : _ ∧ _ ∧ _ ∧ _)
  clear hI hr1 hE hpr g1
  simp only [ER.row]
  go_wp2
  try simp only [h8]
  go_loopg [6, 7] (S.len) (fun kx s6 s7 wr => ∃ (xc : St) (p : ER) (t : Tree), S.len - xc.at' ≤ kx ∧ xc.at' < S.len ∧ x.at' ≤ xc.at' ∧ Aside (LvI S w x w1.heap.size wr xc p t))
  case atStart => exact ⟨x1, p, t, by omega, HG.out.2.2.2.ps.lt, HG.out.2.2.2.le, HI.out⟩
  case round =>
    obtain ⟨xc, p, t, hkx, hlt, hle, A⟩ := hrel
    have c2 := A.out.g.ps.c2
    have hplr := A.out.g.ps.plt
    by_cases he : xc.e = 0
    case neg =>
      obtain ⟨hac, haf⟩ := row_cells A.out.a
      obtain ⟨hrc, hrf⟩ := row_cells A.out.r
      have hsa := lt_of_block A.out.a
      simp only [ER.row] at hac
      simp only [zrow] at hrc
      go_wp2
      refine ret_exp (p := p) (r := w.heap.size) rfl (by rfl) (put9_self A.out.r rfl p) rfl ?_
      exact .mk ⟨A.out.g.ps.put9 (by omega) (by omega) p, A.out.g.kb.put9 (Nat.le_refl _) p, A.out.g.le, A.out.g.er⟩ (.mk p _ ((A.out.e.put9 (b := w.heap.size) (fun b hb => by omega) p).mono fun b hb => by omega) A.out.pr)

    case pos =>
      go_wp2_with (fail)
      refine (infix_in A.out.g.ps _).mono ?_
      rintro _ w2 @⟨_, _, x2, g2, rfl, op, rfl, hop⟩
      have hA2 := A.out.kb g2 hpl hs1
      have A2 : Aside _ := hA2
      have hpl2 := g2.ps.plt
      have c1 := g2.ps.c1
      have f1 := g2.ps.fz 1
      have hcap := S.hlen
      by_cases h0 : op = 0
      · subst h0
        clear hop
        obtain ⟨hac, haf⟩ := row_cells A2.out.a
        obtain ⟨hrc, hrf⟩ := row_cells A2.out.r
        have hsa := lt_of_block A2.out.a
        simp only [ER.row] at hac
        simp only [zrow] at hrc
        go_wp2
        refine ret_exp (p := p) (r := w.heap.size) rfl (by rfl) (put9_self A2.out.r rfl p) rfl ?_
        exact .mk ⟨A2.out.g.ps.put9 (by omega) (by omega) p, A2.out.g.kb.put9 (Nat.le_refl _) p, A2.out.g.le, A2.out.g.er⟩ (.mk p _ ((A2.out.e.put9 (b := w.heap.size) (fun b hb => by omega) p).mono fun b hb => by omega) A2.out.pr)

      · obtain ⟨_, hlt2⟩ := hop h0
        clear hop
        have hp := g2.ps.set1 hlt2
        rw [show ((x2.at' + 1 : Nat) : Int) = (x2.at' : Int) + 1 by omega] at hp
        have G : Go1 S wr x2 (w2.setCell ⟨S.pb, 1, none⟩ (.int .i64 ((x2.at' : Int) + 1))) { x2 with at' := x2.at' + 1 } := ⟨hp, g2.kb.setCell (.inr rfl) _, by simp, by simp [he]⟩
        have A3 : Aside _ := A.out.kb G hpl hs1
        go_wp2_with (fail)
        rw [← hc1]
        refine (HA.out S _ _ G.ps (by show S.len - (x2.at' + 1) ≤ k; omega)).mono ?_
        rintro _ w3 @⟨_, _, x3, g3, ⟨q, u, hF, hpr3⟩⟩
        have A4 : Aside _ := A3.out.kb g3 hpl hs1
        have hsa := lt_of_block A4.out.a
        obtain ⟨hac, haf⟩ := row_cells A4.out.a
        simp only [ER.row] at hac ⊢
        go_wp2_with (fail)
        have hE4 : IsExp (fun b => w.heap.size + 1 ≤ b ∧ b ≠ w1.heap.size) (w3.alloc (.cells q.row 45)) p t := A4.out.e.alloc _
        have hsz := lt_of_block A3.out.a
        have hF4 : IsExp (fun b => w.heap.size + 1 ≤ b ∧ b ≠ w1.heap.size) (w3.alloc (.cells q.row 45)) q u := (hF.alloc _).mono fun b hb => by constructor <;> omega
        refine (two_in (B := fun b => w.heap.size + 1 ≤ b ∧ b ≠ w1.heap.size) _ _ hE4 hF4 (fun b hb => by simp at hb; constructor <;> omega)).mono ?_
        rintro _ w4 ⟨⟨_, rfl, @⟨p4, t4, hE5, hc4⟩⟩, hn4⟩
        have ha4 := (hn4.same w1.heap.size (by simp; omega)).trans ((Below.heap_alloc w3 (.cells q.row 45) _ (by omega)).trans A4.out.a)
        have hr4 := (hn4.same w.heap.size (by simp; omega)).trans ((Below.heap_alloc w3 (.cells q.row 45) _ (by omega)).trans A4.out.r)
        obtain ⟨hac4, haf4⟩ := row_cells ha4
        have halt := lt_of_block ha4
        have hps : PS S (put9 w4 w1.heap.size p4) x3 := ((g3.ps.alloc (.cells q.row 45)).nu hn4).put9 (by omega) (by omega) p4
        have hkb : KB S w (put9 w4 w1.heap.size p4) := ((A4.out.g.kb.alloc (.cells q.row 45)).trans (hn4.kb S)).put9 (by omega) p4
        have A5 : Aside (LvI S w x w1.heap.size (put9 w4 w1.heap.size p4) x3 p4 t4) := ⟨⟨hps, hkb, A4.out.g.le, A4.out.g.er⟩, (fun h => by have h1 := hpr3 h; have h2 := A2.out.pr (by exact Decidable.byContradiction fun e => g3.er e h); have h3 : x2.at' + 1 + u.cnt ≤ x3.at' := h1; omega), (put9_other _ _ (by omega)).trans hr4, put9_self ha4 rfl p4, hE5.put9 (fun b hb => hb.2) p4⟩
        have hle3 : x2.at' + 1 ≤ x3.at' := g3.le
        have hlt3 := g3.ps.lt
        clear hac haf hE4 hF4 hE5 hps hkb hr4
        simp only [ER.row] at hac4 ⊢
        by_cases hn2 : (n : Int) = 2
        · obtain ⟨hac, haf⟩ := row_cells A5.out.a
          obtain ⟨hrc, hrf⟩ := row_cells A5.out.r
          simp only [put9, ER.row] at hac haf hrc hrf
          simp only [zrow] at hrc
          go_wp2
          refine ret_exp (p := p4) (r := w.heap.size) rfl (by rfl) (put9_self A5.out.r rfl p4) rfl ?_
          exact .mk ⟨A5.out.g.ps.put9 (by omega) (by omega) p4, A5.out.g.kb.put9 (Nat.le_refl _) p4, A5.out.g.le, A5.out.g.er⟩ (.mk p4 _ ((A5.out.e.put9 (b := w.heap.size) (fun b hb => by omega) p4).mono fun b hb => by omega) A5.out.pr)
        · go_wp2
          go_roundg (S.len - x3.at')
          case measure => omega
          case rel => exact ⟨x3, p4, t4, Nat.le_refl _, hlt3, by omega, A5⟩
end Go.Pa

namespace Go.Pa
open Go Go.RowKit Go.Proofs

section
variable {w w' : World} {lo : Nat} {e : TypeId} {size : Nat} {v : Value} {n : Nat} {xs : List Value}
theorem own_form (h : w.ownsRow lo e size v n xs) : ∃ a c, v = .slice a n c := by
  rcases h.2 with ⟨rfl, rfl⟩ | ⟨g, cap, cur, rfl, _⟩
  · exact ⟨_, _, rfl⟩
  · exact ⟨_, _, rfl⟩
theorem own_frame (h : w.ownsRow lo e size v n xs) (hs : ∀ b, v.ownBlock = some b → w'.heap[b]? = w.heap[b]?) : w'.ownsRow lo e size v n xs := by
  refine ⟨h.1, ?_⟩
  rcases h.2 with hn | ⟨g, cap, cur, rfl, hb, hgg, rest⟩
  · exact .inl hn
  · exact .inr ⟨g, cap, cur, rfl, hb, (hs g rfl).trans hgg, rest⟩
theorem own_mono {lo' : Nat} (h : w.ownsRow lo e size v n xs) (hl : lo' ≤ lo) : w.ownsRow lo' e size v n xs := by
  refine ⟨h.1, ?_⟩
  rcases h.2 with hn | ⟨g, cap, cur, rfl, hb, hgg, rest⟩
  · exact .inl hn
  · exact .inr ⟨g, cap, cur, rfl, Nat.le_trans hl hb, hgg, rest⟩
/-- A cell of the list is written. -/
theorem own_store (h : w.ownsRow lo e size v n xs) {g : Nat} (hg : v.ownBlock = some g) (j : Nat) (u : Value) : (w.setCell ⟨g, j, none⟩ u).ownsRow lo e size v n (xs.set j u) := by
  refine ⟨by rw [List.length_set]; exact h.1, ?_⟩
  rcases h.2 with ⟨rfl, _⟩ | ⟨g', cap, cur, rfl, hb, hgg, h1, h2, h3, h4⟩
  · cases hg
  · cases hg
    refine .inr ⟨g', cap, cur.setIfInBounds j u, rfl, hb, heap_setCell_self hgg u, h1, h2, by simpa using h3, ?_⟩
    rw [Array.toList_setIfInBounds, List.take_set, h4]
end

/-- The rows of n expressions. -/
def rowsOf (ps : Nat → ER) : Nat → List Value
  | 0 => []
  | n + 1 => rowsOf ps n ++ (ps n).row.toList
theorem rowsOf_length (ps : Nat → ER) (n : Nat) : (rowsOf ps n).length = n * 9 := by
  induction n with
  | zero => rfl
  | succ n ih => rw [rowsOf, List.length_append, ih, Nat.succ_mul]; rfl
theorem rowsOf_congr {ps qs : Nat → ER} {n : Nat} (h : ∀ i, i < n → ps i = qs i) : rowsOf ps n = rowsOf qs n := by
  induction n with
  | zero => rfl
  | succ n ih => rw [rowsOf, rowsOf, ih fun i hi => h i (by omega), h n (by omega)]
theorem rowsOf_get (ps : Nat → ER) {n i j : Nat} (hi : i < n) (hj : j < 9) : (rowsOf ps n)[i * 9 + j]? = (ps i).row[j]? := by
  induction n with
  | zero => omega
  | succ n ih =>
    rw [rowsOf]
    rcases Nat.lt_or_ge i n with h | h
    · rw [List.getElem?_append_left (by rw [rowsOf_length]; omega), ih h]
    · obtain rfl : i = n := by omega
      rw [List.getElem?_append_right (by rw [rowsOf_length]; omega), rowsOf_length, Nat.add_sub_cancel_left, Array.getElem?_toList]

/-- The list v holds m expressions; no other list lies in its block. -/
structure KidsO (lo : Nat) (w : World) (v : Value) (m : Nat) (ps : Nat → ER) (ts : Nat → Tree) : Prop where
  own : w.ownsRow lo 45 9 v m (rowsOf ps m)
  e : ∀ i, i < m → IsExp (fun b => lo ≤ b ∧ b < w.heap.size ∧ some b ≠ v.ownBlock) w (ps i) (ts i)
theorem KidsO.nil (lo : Nat) (w : World) (ps : Nat → ER) (ts : Nat → Tree) : KidsO lo w (.slice none 0 0) 0 ps ts := ⟨World.ownsRow_nil w lo 45 9, fun i hi => absurd hi (Nat.not_lt_zero i)⟩
section
variable {lo : Nat} {w w' : World} {v : Value} {m : Nat} {ps : Nat → ER} {ts : Nat → Tree}
theorem KidsO.frame (h : KidsO lo w v m ps ts) (hz : w.heap.size ≤ w'.heap.size) (hs : ∀ b, lo ≤ b → b < w.heap.size → w'.heap[b]? = w.heap[b]?) : KidsO lo w' v m ps ts :=
  ⟨own_frame h.own fun b hb => hs b (h.own.lt b hb).1 (h.own.lt b hb).2, fun i hi => ((h.e i hi).frame fun b hb hl => hs b hb.1 hl).mono fun b hb => ⟨hb.1, by omega, hb.2.2⟩⟩
theorem KidsO.mono {lo' : Nat} (h : KidsO lo w v m ps ts) (hl : lo' ≤ lo) : KidsO lo' w v m ps ts :=
  ⟨own_mono h.own hl, fun i hi => (h.e i hi).mono fun _ hb => ⟨Nat.le_trans hl hb.1, hb.2⟩⟩
theorem KidsO.kids (h : KidsO lo w v m ps ts) : KidsAt (lo ≤ ·) w v m ps := by
  rcases h.own.2 with ⟨rfl, rfl⟩ | ⟨g, cap, cur, rfl, hb, hgg, h1, h2, h3, h4⟩
  · exact .inl ⟨rfl, _, _, rfl⟩
  · refine .inr ⟨g, cap, rfl, hb, fun i hi j hj => ?_⟩
    have := h.own.cells (g := g) rfl (i * 9 + j) ((ps i).row.toList[j]'(by simp; omega)) (by rw [rowsOf_get ps hi hj]; simp)
    rw [show (⟨g, i * 9 + j, none⟩ : Addr) = (⟨g, 0, none⟩ : Addr).add (i * 9 + j) by unfold Addr.add; simp, this]
    simp
/-- One more. -/
theorem KidsO.push (h : KidsO lo w v m ps ts) {p : ER} {t : Tree} (hE : IsExp (fun b => lo ≤ b ∧ b < w.heap.size ∧ some b ≠ v.ownBlock) w p t) {g cap : Nat} (hown : w'.ownsRow lo 45 9 (.slice (some ⟨g, 0, none⟩) (m + 1) cap) (m + 1) (rowsOf ps m ++ p.row.toList))
    (hgr : w.grownBy w' v.ownBlock) (hat : v.ownBlock = some g ∨ g = w.heap.size) : KidsO lo w' (.slice (some ⟨g, 0, none⟩) (m + 1) cap) (m + 1) (fun i => if i = m then p else ps i) (fun i => if i = m then t else ts i) := by
  have hf : ∀ {q : ER} {u : Tree}, IsExp (fun b => lo ≤ b ∧ b < w.heap.size ∧ some b ≠ v.ownBlock) w q u → IsExp (fun b => lo ≤ b ∧ b < w'.heap.size ∧ some b ≠ (Value.slice (some ⟨g, 0, none⟩) (m + 1) cap).ownBlock) w' q u := fun hq =>
    (hq.frame fun b hb hl => hgr.block b hl hb.2.2).mono fun b hb => ⟨hb.1, Nat.lt_of_lt_of_le hb.2.1 hgr.size, fun e => by
      have e' : b = g := Option.some.inj e
      rcases hat with hat | hat
      · exact hb.2.2 (by rw [hat, e'])
      · omega⟩
  refine ⟨?_, fun i hi => ?_⟩
  · have e : rowsOf (fun i => if i = m then p else ps i) (m + 1) = rowsOf ps m ++ p.row.toList := by
      rw [rowsOf, rowsOf_congr (qs := ps) fun i hi => if_neg (by omega), if_pos rfl]
    rw [e]
    exact hown
  · rcases (by omega : i = m ∨ i < m) with rfl | hlt
    · rw [if_pos rfl, if_pos rfl]
      exact hf hE
    · rw [if_neg (by omega), if_neg (by omega)]
      exact hf (h.e i hlt)
theorem sumN_push (ts : Nat → Tree) (t : Tree) (m : Nat) : sumN (fun i => ((fun i => if i = m then t else ts i) i).cnt) (m + 1) = sumN (fun i => (ts i).cnt) m + t.cnt := by
  show sumN _ m + Tree.cnt (if m = m then t else ts m) = _
  rw [if_pos rfl, sumN_congr (g := fun i => (ts i).cnt) fun i hi => by simp only; rw [if_neg (by omega)]]
end

/-- What a method hands back: a list of expressions. -/
inductive KidsP (lo : Nat) (w : World) (x x' : St) : Value → Prop
  | mk (v : Value) (m : Nat) (ps : Nat → ER) (ts : Nat → Tree) (h : KidsO lo w v m ps ts) (hm : m ≤ 16) (hc : x'.e = 0 → x.at' + sumN (fun i => (ts i).cnt) m ≤ x'.at') : KidsP lo w x x' v
end Go.Pa
