/-
  A kid is appended (own work).
-/
import Derived.Test.YtlonlfiaclacdaaPaG
import Derived.Deep.RegionLaw
namespace Go.Pa
open Go Go.RowKit Go.Proofs

section
variable {S : Src} {w : World} {x : St} {rb tb xb : Nat} {wr w2 w3 : World} {xc x2 : St} {tk : Tk} {q : ER}
theorem WdI.grown (h : WdI S w x rb tb xb wr xc tk q) {row : Option Nat} (hg : wr.grownBy w2 row) (hpl : S.pb < w.heap.size) (htl : S.tb < w.heap.size) (hrow : ∀ b, row = some b → w.heap.size ≤ b ∧ b ≠ rb ∧ b ≠ tb ∧ b ≠ xb) : WdI S w x rb tb xb w2 xc tk q := by
  have h1 := lt_of_block h.r
  have h2 := lt_of_block h.t
  have h3 := lt_of_block h.a
  have h4 := h.g.kb.size
  have hs : ∀ b, b < w.heap.size ∨ b = rb ∨ b = tb ∨ b = xb → some b ≠ row := fun b hb e => by have := hrow b e.symm; omega
  exact ⟨⟨h.g.ps.of_same (hg.block _ (by omega) (hs _ (.inl hpl))) (hg.block _ (by omega) (hs _ (.inl htl))),
    ⟨hg.os.trans h.g.kb.os, hg.output.trans h.g.kb.output, Nat.le_trans h4 hg.size, fun k hk hn => (hg.block k (by omega) (hs _ (.inl hk))).trans (h.g.kb.same k hk hn)⟩, h.g.le, h.g.er⟩,
    h.hr, h.ht, h.hx, h.nr, h.nt, (hg.block _ h1 (hs _ (.inr (.inl rfl)))).trans h.r, (hg.block _ h2 (hs _ (.inr (.inr (.inl rfl))))).trans h.t, (hg.block _ h3 (hs _ (.inr (.inr (.inr rfl))))).trans h.a⟩

/-- One kid more. -/
theorem WdK.app {lo m cp : Nat} {a0 : Option Addr} {ps : Nat → ER} {ts : Nat → Tree} (h : WdK S w x rb tb xb wr xc tk q (sumN (fun i => (ts i).cnt) m)) (K : KidsO lo wr (.slice a0 m cp) m ps ts) (hlo : w.heap.size ≤ lo ∧ rb < lo ∧ tb < lo ∧ xb < lo ∧ lo ≤ wr.heap.size)
    (g : Go1 S wr xc w2 x2) (hpl : S.pb < w.heap.size) (htl : S.tb < w.heap.size) {p : ER} {t : Tree} (hE : IsExp (wr.heap.size ≤ ·) w2 p t) (hpr : x2.e = 0 → xc.at' + t.cnt ≤ x2.at') {gb cap : Nat}
    (hown : w3.ownsRow lo 45 9 (.slice (some ⟨gb, 0, none⟩) (m + 1) cap) (m + 1) (rowsOf ps m ++ p.row.toList)) (hgr : (w2.alloc (.cells p.row 45)).grownBy w3 (Value.slice a0 m cp).ownBlock)
    (hat : (Value.slice a0 m cp).ownBlock = some gb ∨ gb = w2.heap.size.succ) (q' : ER) (hq : q.row.setIfInBounds 7 (.slice (some ⟨gb, 0, none⟩) (m + 1) cap) = q'.row) (hk : q'.ks = .slice (some ⟨gb, 0, none⟩) (m + 1) cap) :
    WdK S w x rb tb xb (w3.setCell ⟨xb, 7, none⟩ (.slice (some ⟨gb, 0, none⟩) (m + 1) cap)) x2 tk q' (sumN (fun i => (ts i).cnt) m + t.cnt) := by
  have hob : ∀ b, some b = (Value.slice a0 m cp).ownBlock → lo ≤ b ∧ b < wr.heap.size := fun b hb => K.own.lt b hb.symm
  have hs := g.kb.size
  have K2 : KidsO lo (w2.alloc (.cells p.row 45)) (.slice a0 m cp) m ps ts := K.frame (by simp; omega) fun b hb hl => (Below.heap_alloc _ _ _ (by omega)).trans (g.kb.same b hl (by omega))
  have hW : WdI S w x rb tb xb w3 x2 tk q := ((h.i.kb g hpl).alloc _).grown hgr hpl htl fun b hb => by have := hob b hb.symm; refine ⟨?_, ?_, ?_, ?_⟩ <;> omega
  have h1 := lt_of_block h.i.r
  have h2 := lt_of_block h.i.t
  have h3 := lt_of_block h.i.a
  have h4 := h.i.g.kb.size
  have hE2 : IsExp (fun b => lo ≤ b ∧ b < (w2.alloc (.cells p.row 45)).heap.size ∧ some b ≠ (Value.slice a0 m cp).ownBlock) (w2.alloc (.cells p.row 45)) p t :=
    (hE.bound.alloc _).mono fun b hb => ⟨by have := hb.1; omega, by simp; omega, fun e => by have := hob _ e; have := hb.1; omega⟩
  have hP := (K2.push hE2 hown hgr (by simpa using hat)).kv
  rw [sumN_push] at hP
  refine ⟨hW.set hpl htl 7 _ q' hq, ?_, fun e => by have := hpr e; have := h.c (er0 g e); omega⟩
  rw [hk]
  exact (hP.frame fun b hb _ => Below.heap_setCell _ _ _ _ (by show b ≠ xb; omega)).mono fun b hb => by refine ⟨?_, ?_, ?_, ?_⟩ <;> omega
end
end Go.Pa

namespace Go.Pa
open Go Go.RowKit Go.Proofs

set_option maxHeartbeats 16000000 in
set_option maxRecDepth 100000 in
theorem word_reset {k : Nat} (he : ∀ j, j < k → CExp 80 j) (hl : ∀ j, j < k → CKids j) (S : Src) (w : World) (x : St) (hP : PS S w x) (hx0 : x.e = 0) (h5 : (S.t x.at').k ≠ 5) (hk : S.len - x.at' ≤ k) (hs : (S.t x.at').s.toList = [114, 101, 115, 101, 116]) :
    Calls Try.prog 95 #[.pointer (some ⟨S.pb, 0, none⟩), (S.t x.at').val] w (Ret S w x fun v w' x' => ExpP (w.heap.size ≤ ·) w' x x' v) := by
  have hpl := hP.plt
  have htl := hP.tlt
  have hxl := hP.lt
  have hn := next_lt hxl h5
  have hkk : S.len - (x.at' + 1) < k := by omega
  have HE : Hid _ := he
  have HL : Hid _ := hl
  have hcap := S.hlen
  have hpl1 : S.pb < w.heap.size + 1 := by omega
  have hpl2 : S.pb < w.heap.size + 1 + 1 := by omega
  have c1 := hP.c1
  have f1 := hP.fz 1
  have g0 : Go1 S w x (w.setCell ⟨S.pb, 1, none⟩ (.int .i64 ((x.at' : Int) + 1))) { x with at' := x.at' + 1 } := by
    have hp := hP.set1 hn
    rw [show ((x.at' + 1 : Nat) : Int) = (x.at' : Int) + 1 by omega] at hp
    exact ⟨hp, (KB.refl S w).setCell (.inr rfl) _, by simp, by simp⟩
  clear he hl h5
  generalize S.t x.at' = T at *
  obtain ⟨K, SS, N, TK, TL, AT⟩ := T
  dsimp only at hs
  dsimp only [Tk.val]
  have I0 : Aside _ := WdK.three g0 (by simp) ⟨K, SS, N, TK, TL, AT⟩ ⟨0, 0, ⟨#[]⟩, 0, 0, 0, 0, none, 0, 0, AT⟩ rfl (fun _ => Nat.le_refl _)
  have hle0 : x.at' + 1 ≤ ({ x with at' := x.at' + 1 } : St).at' := Nat.le_refl _
  clear g0
  go_enter Try.func95, Try.ntmps95
  obtain ⟨i0, hi, hz0, hz1, hz2⟩ := info_parts info45
  go_wp2_with (fail)
  refine (take_in I0.out.i.g.ps _).mono ?_
  rintro _ w1 @⟨_, _, x1, g1, rfl, _⟩
  have hle1 := Nat.le_trans hle0 g1.le
  obtain ⟨hxc1, hxf1⟩ := row_cells (I0.out.kb g1 hpl).i.a
  have hxl1 := lt_of_block (I0.out.kb g1 hpl).i.a
  simp only [ER.row] at hxc1
  obtain ⟨htc1, htf1⟩ := row_cells (I0.out.kb g1 hpl).i.t
  have htl1 := lt_of_block (I0.out.kb g1 hpl).i.t
  simp only [Tk.row] at htc1
  have I1 : Aside _ := I0.out.kb g1 hpl
  have I1 : Aside _ := I1.out.set hpl htl 0 (.int .i64 14) ⟨14, 0, ⟨#[]⟩, 0, 0, 0, 0, none, 0, 0, AT⟩ rfl rfl
  go_wp2_with (fail)
  refine (name_in I1.out.i.g.ps).mono ?_
  rintro _ w2 @⟨_, _, x2, g2, ⟨nm2, rfl⟩, _⟩
  have hle2 := Nat.le_trans hle1 g2.le
  obtain ⟨hxc2, hxf2⟩ := row_cells (I1.out.kb g2 hpl).i.a
  have hxl2 := lt_of_block (I1.out.kb g2 hpl).i.a
  simp only [ER.row] at hxc2
  obtain ⟨htc2, htf2⟩ := row_cells (I1.out.kb g2 hpl).i.t
  have htl2 := lt_of_block (I1.out.kb g2 hpl).i.t
  simp only [Tk.row] at htc2
  try clear hxc1 hxf1
  try clear htc1 htf1
  have I2 : Aside _ := I1.out.kb g2 hpl
  have I2 : Aside _ := I2.out.set hpl htl 2 (.string nm2) ⟨14, 0, nm2, 0, 0, 0, 0, none, 0, 0, AT⟩ rfl rfl
  go_wp2_with (fail)
  refine (call_in (HL.out (S.len - (x.at' + 1)) hkk) S _ _ I2.out.i.g.ps (Nat.sub_le_sub_left hle2 _)).mono ?_
  rintro _ w3 @⟨_, _, x3, g3, ⟨m3, ps3, ts3, hK3, hm3, hc3⟩⟩
  obtain ⟨a3, cp3, rfl⟩ := own_form hK3.own
  have hle3 := Nat.le_trans hle2 g3.le
  obtain ⟨hxc3, hxf3⟩ := row_cells (I2.out.kb g3 hpl).i.a
  have hxl3 := lt_of_block (I2.out.kb g3 hpl).i.a
  simp only [ER.row] at hxc3
  obtain ⟨htc3, htf3⟩ := row_cells (I2.out.kb g3 hpl).i.t
  have htl3 := lt_of_block (I2.out.kb g3 hpl).i.t
  simp only [Tk.row] at htc3
  try clear hxc2 hxf2
  try clear htc2 htf2
  have I3 : Aside _ := I2.out.list g3 hpl htl hK3 hc3 ⟨14, 0, nm2, 0, 0, 0, 0, a3, m3, cp3, AT⟩ rfl rfl
  have hlo : w.heap.size ≤ (w2.setCell ⟨w.heap.size + 2, 2, none⟩ (.string nm2)).heap.size ∧ w.heap.size + 1 < (w2.setCell ⟨w.heap.size + 2, 2, none⟩ (.string nm2)).heap.size ∧ w.heap.size < (w2.setCell ⟨w.heap.size + 2, 2, none⟩ (.string nm2)).heap.size ∧ w.heap.size + 2 < (w2.setCell ⟨w.heap.size + 2, 2, none⟩ (.string nm2)).heap.size := by simp; omega
  have K0 : Aside (KidsO (w2.setCell ⟨w.heap.size + 2, 2, none⟩ (.string nm2)).heap.size (w3.setCell ⟨w.heap.size + 2, 7, none⟩ (.slice a3 m3 cp3)) (.slice a3 m3 cp3) m3 ps3 ts3) := hK3.frame (by simp) fun z hz _ => Below.heap_setCell _ _ _ _ (by show z ≠ w.heap.size + 2; omega)
  clear hK3 hc3
  go_wp2_with (fail)
  refine (take_in I3.out.i.g.ps _).mono ?_
  rintro _ w4 @⟨_, _, x4, g4, rfl, _⟩
  have hle4 := Nat.le_trans hle3 g4.le
  obtain ⟨hxc4, hxf4⟩ := row_cells (I3.out.kb g4 hpl).i.a
  have hxl4 := lt_of_block (I3.out.kb g4 hpl).i.a
  simp only [ER.row] at hxc4
  obtain ⟨htc4, htf4⟩ := row_cells (I3.out.kb g4 hpl).i.t
  have htl4 := lt_of_block (I3.out.kb g4 hpl).i.t
  simp only [Tk.row] at htc4
  try clear hxc3 hxf3
  try clear htc3 htf3
  have I4 : Aside _ := I3.out.kb g4 hpl
  have K1 : Aside _ := K0.out.frame g4.kb.size fun z hz hl => g4.kb.same z hl (by omega)
  have K2 : Aside (KidsO (w2.setCell ⟨w.heap.size + 2, 2, none⟩ (.string nm2)).heap.size w4.drew (.slice a3 m3 cp3) m3 ps3 ts3) := K1.out.frame (Nat.le_refl _) fun _ _ _ => rfl
  have hll : (w2.setCell ⟨w.heap.size + 2, 2, none⟩ (.string nm2)).heap.size ≤ w4.heap.size := by have u1 := g4.kb.size; have u2 := g3.kb.size; simp at u1 u2 ⊢; omega
  go_wp2
  have hpbLO : S.pb < (w2.setCell ⟨w.heap.size + 2, 2, none⟩ (.string nm2)).heap.size := by omega
  have hrw : Aside (∀ z, (Value.slice a3 m3 cp3).ownBlock = some z → w.heap.size ≤ z ∧ z ≠ w.heap.size + 1 ∧ z ≠ w.heap.size ∧ z ≠ w.heap.size + 2) := fun z hz => by have := (K2.out.own.lt z hz).1; refine ⟨?_, ?_, ?_, ?_⟩ <;> omega
  have hm63 : m3 + 1 ≤ maxLen := by unfold maxLen; omega
  have hb63 : (m3 + 1) * 96 ≤ 140737488355328 := by omega
  go_region_law (first
    | (refine step_append_lies _ rfl (.tmp 152) (.tmp 155) 43 rfl (w2.setCell ⟨w.heap.size + 2, 2, none⟩ (.string nm2)).heap.size 45 i0 _ 9 96 Try.underlying43 hi hz0 hz1 hz2 rfl (by decide) (.slice a3 m3 cp3) m3 (rowsOf ps3 m3) (by simp [Act.eval, Act.put]) hO.out ⟨w5.heap.size, 0, none⟩ 1 1 (ER.row p5).toList (by simp [Act.eval, Act.put]) rfl hN.out (er_one p5) (by decide) hm63 hb63 hB w5.heap.size.succ (by simp) ?_; intro gb cap w6 hown hgrow hat hlt9; have hx9 := row_cells (((I4.out.drew.i.kb g5 hpl).alloc (.cells (ER.row p5) 45)).grown hgrow hpl htl hrw.out).a; have hxl9 := lt_of_block (((I4.out.drew.i.kb g5 hpl).alloc (.cells (ER.row p5) 45)).grown hgrow hpl htl hrw.out).a; simp only [ER.row] at hx9; obtain ⟨hxc9, hxf9⟩ := hx9)
    | (go_simp; go_at_call 80; refine (HE.out (S.len - (x.at' + 1)) hkk S _ _ I4.out.drew.i.g.ps (Nat.sub_le_sub_left hle4 _)).mono ?_; rintro _ w5 @⟨_, _, x5, g5, ⟨p5, t5, hE5, hpr5⟩⟩; have hO : Aside _ := (own_frame K2.out.own (fun z hz => g5.kb.same z (K2.out.own.lt z hz).2 (by have := (K2.out.own.lt z hz).1; omega))).alloc (.cells (ER.row p5) 45); have hN : Aside _ := World.news_of_block (alloc_self w5 (.cells (ER.row p5) 45)); have hB : (w2.setCell ⟨w.heap.size + 2, 2, none⟩ (.string nm2)).heap.size ≤ (w5.alloc (.cells (ER.row p5) 45)).heap.size := Nat.le_trans hll (Nat.le_trans (show w4.heap.size ≤ w5.heap.size from g5.kb.size) (Nat.le_of_lt (lt_of_block (alloc_self w5 (.cells (ER.row p5) 45))))); have hxr := row_cells (I4.out.drew.kb g5 hpl).i.a; have hxl5 := lt_of_block (I4.out.drew.kb g5 hpl).i.a; simp only [ER.row] at hxr ⊢; obtain ⟨hxc5, hxf5⟩ := hxr))
  all_goals
    have hle5 : x.at' + 1 ≤ x5.at' := Nat.le_trans hle4 g5.le
    have I5 : Aside _ := I4.out.drew.app K2.out ⟨hlo.1, hlo.2.1, hlo.2.2.1, hlo.2.2.2, hll⟩ g5 hpl htl hE5 hpr5 hown hgrow hat ⟨14, 0, nm2, 0, 0, 0, 0, some ⟨gb, 0, none⟩, m3 + 1, cap, AT⟩ rfl rfl
    clear hown hgrow hat hE5 hpr5
    go_wp2_with (fail)
    refine (take_in I5.out.i.g.ps _).mono ?_
    rintro _ w6 @⟨_, _, x6, g6, rfl, _⟩
    have hle6 := Nat.le_trans hle5 g6.le
    obtain ⟨hxc6, hxf6⟩ := row_cells (I5.out.kb g6 hpl).i.a
    have hxl6 := lt_of_block (I5.out.kb g6 hpl).i.a
    simp only [ER.row] at hxc6
    obtain ⟨htc6, htf6⟩ := row_cells (I5.out.kb g6 hpl).i.t
    have htl6 := lt_of_block (I5.out.kb g6 hpl).i.t
    simp only [Tk.row] at htc6
    try clear hxc5 hxf5
    try clear htc5 htf5
    have I6 : Aside _ := I5.out.kb g6 hpl
    obtain ⟨hrc, hrf⟩ := row_cells I6.out.i.r
    have hrl := lt_of_block I6.out.i.r
    simp only [zrow] at hrc
    have E : Aside _ := I6.out.fin hpl htl
    go_wp2
    exact ret_exp (p := ⟨14, 0, nm2, 0, 0, 0, 0, some ⟨gb, 0, none⟩, m3 + 1, cap, AT⟩) (r := w.heap.size + 1) rfl (by rfl) E.out.1 rfl (.mk E.out.2.1 E.out.2.2)
end Go.Pa
