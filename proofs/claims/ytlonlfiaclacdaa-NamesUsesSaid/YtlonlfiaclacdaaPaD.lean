/-
  unary, signed (own work).
-/
import Derived.Test.YtlonlfiaclacdaaPaC
import Derived.Deep.RegionHeld3
namespace Go.Pa
open Go Go.RowKit Go.Proofs

set_option maxHeartbeats 4000000 in
set_option maxRecDepth 100000 in
theorem field86_4 (a : Int) (b : ByteArray) (c d e f : Int) (w : World) : (Instr.field 86 (.agg #[.int .i64 a, .string b, .int .i64 c, .int .i64 d, .int .i64 e, .int .i64 f]) 4).run Try.prog w = .ok (.int .i64 f) w := by kernel_rfl

theorem heap_drew (w : World) (k : Nat) : w.drew.heap[k]? = w.heap[k]? := rfl
theorem heap_drew_alloc (w : World) (o : Obj) {k : Nat} (h : k < w.heap.size) : (w.alloc o).drew.heap[k]? = w.heap[k]? := Below.heap_alloc w o k h
theorem heap_alloc_drew (w : World) (o : Obj) {k : Nat} (h : k < w.heap.size) : (w.drew.alloc o).heap[k]? = w.heap[k]? := Below.heap_alloc w.drew o k h
theorem heap_set9 (w : World) (b : Nat) {k : Nat} (a0 a1 a2 a3 a4 a5 a6 a7 a8 : Value) (h : k ≠ b) :
    (((((((((w.setCell ⟨b, 0, none⟩ a0).setCell ⟨b, 1, none⟩ a1).setCell ⟨b, 2, none⟩ a2).setCell ⟨b, 3, none⟩ a3).setCell ⟨b, 4, none⟩ a4).setCell ⟨b, 5, none⟩ a5).setCell ⟨b, 6, none⟩ a6).setCell ⟨b, 7, none⟩ a7).setCell ⟨b, 8, none⟩ a8).heap[k]? = w.heap[k]? := by
  rw [Below.heap_setCell _ _ _ _ h, Below.heap_setCell _ _ _ _ h, Below.heap_setCell _ _ _ _ h, Below.heap_setCell _ _ _ _ h, Below.heap_setCell _ _ _ _ h, Below.heap_setCell _ _ _ _ h, Below.heap_setCell _ _ _ _ h, Below.heap_setCell _ _ _ _ h, Below.heap_setCell _ _ _ _ h]
theorem er0 {S : Src} {w w' : World} {x x' : St} (g : Go1 S w x w' x') (h : x'.e = 0) : x.e = 0 := Decidable.byContradiction fun e => g.er e h

/-- The result, of one kid, is in its block. -/
theorem end_one {S : Src} {w w4 : World} {x x4 : St} (g : Go1 S w x w4 x4) (hr : w4.heap[w.heap.size]? = some (.cells zrow 45 (0, 0))) (hpl : S.pb < w.heap.size) (htl : S.tb < w.heap.size) {p : ER} {t : Tree} (hE : IsExp (w.heap.size + 1 ≤ ·) w4 p t) (q : ER)
    (hq : q.ks = .slice (some ⟨w4.heap.size, 0, none⟩) 1 1) (hc : x4.e = 0 → x.at' + (1 + t.cnt) ≤ x4.at') :
    ((put9 w4 w.heap.size q).alloc (.cells p.row 45)).heap[w.heap.size]? = some (.cells q.row 45 (0, 0)) ∧ Go1 S w x ((put9 w4 w.heap.size q).alloc (.cells p.row 45)) x4 ∧ ExpP (w.heap.size ≤ ·) ((put9 w4 w.heap.size q).alloc (.cells p.row 45)) x x4 (.agg q.row) := by
  have hlt := lt_of_block hr
  obtain ⟨u, hu, hcu⟩ := one_kid hE (by omega) q hq
  refine ⟨(Below.heap_alloc _ _ _ (by simpa using hlt)).trans (put9_self hr rfl q), ⟨(g.ps.put9 (by omega) (by omega) q).alloc _, (g.kb.put9 (Nat.le_refl _) q).alloc _, g.le, g.er⟩, .mk q u ?_ fun h => by rw [hcu]; exact hc h⟩
  exact (hu.frame fun b hb hl => put9_alloc _ _ _ _ (by omega) hl).mono fun b hb => by omega

set_option maxHeartbeats 4000000 in
set_option maxRecDepth 100000 in
theorem unary_in {k : Nat} (ha : CExp 90 k) : CExp 88 k := by
  intro S w x hP hk
  have hpl := hP.plt
  have htl := hP.tlt
  have HA : Hid _ := ha
  clear ha
  go_enter Try.func88, Try.ntmps88
  go_wp2_with (fail)
  refine (is_ex (hP.alloc _) _).mono ?_
  rintro _ w1 @⟨_, _, x1, g1, rfl, hb⟩
  obtain ⟨b1, rfl⟩ : ∃ b, _ = Value.bool b := by rcases hb with ⟨hb, _⟩ | hb <;> exact ⟨_, hb⟩
  clear hb
  go_wp2_with (fail)
  refine (is_ex g1.ps _).mono ?_
  rintro _ w2 @⟨_, _, x2, g2, rfl, hb⟩
  obtain ⟨b2, rfl⟩ : ∃ b, _ = Value.bool b := by rcases hb with ⟨hb, _⟩ | hb <;> exact ⟨_, hb⟩
  clear hb
  go_wp2_with (fail)
  refine (is_ex g2.ps _).mono ?_
  rintro _ w3 @⟨_, _, x3, g3, rfl, hb⟩
  obtain ⟨b3, rfl⟩ : ∃ b, _ = Value.bool b := by rcases hb with ⟨hb, _⟩ | hb <;> exact ⟨_, hb⟩
  clear hb
  have hr3 := g3.kb.block (g2.kb.block (g1.kb.block (alloc_self w _) (by omega)) (by omega)) (by omega)
  have hs3 := lt_of_block hr3
  have hG : Go1 S w x3 w3 x3 := ⟨g3.ps, ((((KB.refl S w).alloc _).trans g1.kb).trans g2.kb).trans g3.kb, Nat.le_refl _, id⟩
  have G : Aside _ := (⟨hG, hr3⟩ : _ ∧ _)
  clear hG hr3 g1 g2 g3
  by_cases hneg : b1 = false ∧ b2 = false ∧ b3 = false
  · obtain ⟨rfl, rfl, rfl⟩ := hneg
    go_wp2_with (fail)
    refine (HA.out S _ _ G.out.1.ps hk).mono ?_
    rintro _ w4 @⟨_, _, x4, g4, ⟨p, t, hE, hpr⟩⟩
    have hr4 := g4.kb.block G.out.2 (by omega)
    obtain ⟨hrc, hrf⟩ := row_cells hr4
    have hs4 := lt_of_block hr4
    simp only [ER.row]
    go_wp2
    refine ret_exp (p := p) (r := w.heap.size) rfl (by rfl) (put9_self hr4 rfl p) rfl ?_
    have hg := G.out.1.trans g4
    refine .mk ⟨hg.ps.put9 (by omega) (by omega) p, hg.kb.put9 (Nat.le_refl _) p, hg.le, hg.er⟩ (.mk p t ?_ hpr)
    exact (hE.put9 (b := w.heap.size) (fun b hb => by omega) p).mono fun b hb => by omega
  · have hor : b1 = true ∨ b1 = false ∧ b2 = true ∨ b1 = false ∧ b2 = false ∧ b3 = true := by cases b1 <;> cases b2 <;> cases b3 <;> simp_all
    clear hneg
    rcases hor with rfl | ⟨rfl, rfl⟩ | ⟨rfl, rfl, rfl⟩
    all_goals
      go_wp2_with (fail)
      refine (open_in G.out.1.ps).mono ?_
      rintro _ w4 @⟨_, _, x4, g4, ⟨rfl, hat, hee⟩ | ⟨rfl, hee⟩⟩
      · have hr4 := g4.kb.block G.out.2 (by omega)
        go_wp2_with (fail)
        refine (HA.out S _ _ g4.ps (by omega)).mono ?_
        rintro _ w5 @⟨_, _, x5, g5, ⟨p, t, hE, hpr⟩⟩
        have hr5 := g5.kb.block hr4 (by omega)
        obtain ⟨hrc, hrf⟩ := row_cells hr5
        have hs5 := lt_of_block hr5
        have hs4 := lt_of_block hr4
        have c4 := g5.ps.c4
        have f4 := g5.ps.fz 4
        have hpl5 := g5.ps.plt
        simp only [ER.row]
        go_wp2
        have hr6 := (Below.heap_setCell w5 ⟨S.pb, 4, none⟩ (.int .i64 (wrap64 (x5.n - 1))) w.heap.size (by show w.heap.size ≠ S.pb; omega)).trans hr5
        refine ret_exp (p := p) (r := w.heap.size) rfl (by rfl) ((Below.heap_alloc _ _ _ (by simp; omega)).trans (put9_self hr6 rfl p)) rfl ?_
        have hg := (G.out.1.trans g4).trans g5
        have hps := ((hg.ps.set4 (wrap64 (x5.n - 1))).put9 (b := w.heap.size) (by omega) (by omega) p).alloc (.cells p.row 45)
        have hkb : KB S w ((put9 (w5.setCell ⟨S.pb, 4, none⟩ (.int .i64 (wrap64 (x5.n - 1)))) w.heap.size p).alloc (.cells p.row 45)) := (((hg.kb.setCell (.inr rfl) _).put9 (Nat.le_refl _) p).alloc _)
        refine .mk ⟨hps, hkb, hg.le, hg.er⟩ (.mk p t ?_ fun h => by have := hpr h; show _ ≤ x5.at'; omega)
        exact (((hE.setCell (a := ⟨S.pb, 4, none⟩) (fun b hb => by show b ≠ S.pb; omega) _).put9 (fun b hb => by omega) p).alloc _).mono fun b hb => by omega
      · have hr := g4.kb.block G.out.2 (by omega)
        obtain ⟨hrc, hrf⟩ := row_cells hr
        have hrlt := lt_of_block hr
        have hg := G.out.1.trans g4
        go_wp2
        refine ret_exp (p := ER.zero) (r := w.heap.size) rfl (by rfl) (put9_self hr rfl ER.zero) rfl ?_
        exact .mk ⟨hg.ps.put9 (by omega) (by omega) ER.zero, hg.kb.put9 (Nat.le_refl _) ER.zero, hg.le, hg.er⟩ (zero_exp _ _ _ _ hee)

set_option maxHeartbeats 4000000 in
set_option maxRecDepth 100000 in
theorem signed_in {k : Nat} (hu : ∀ j, j < k → CExp 88 j) (hp : CExp 92 k) : CExp 90 k := by
  intro S w x hP hk
  have hpl := hP.plt
  have htl := hP.tlt
  have HU : Hid _ := hu
  have HP : Hid _ := hp
  have hlt := hP.lt
  have hf4 := field86_4
  clear hu hp
  go_enter Try.func90, Try.ntmps90
  go_wp2_with (fail)
  refine (tok_in (hP.alloc _)).mono ?_
  rintro e w1 ⟨rfl, h1, k1⟩
  dsimp only [Tk.val]
  generalize (S.t x.at').at' = A0
  have hr1 := k1.block (alloc_self w _) (by omega)
  have hs1 := lt_of_block hr1
  have G1 : Aside _ := (⟨⟨h1, ((KB.refl S w).alloc _).trans k1, Nat.le_refl _, id⟩, hr1⟩ : Go1 S w x w1 x ∧ _)
  clear hr1 k1
  go_wp2_with (fail)
  refine (maybe_in G1.out.1.ps _).mono ?_
  rintro _ w2 @⟨_, _, x2, g2, ⟨rfl, hat, hee⟩ | ⟨rfl, rfl⟩⟩
  · have hr2 := g2.kb.block G1.out.2 (by omega)
    have hm : S.len - x2.at' < k := by have := g2.ps.lt; omega
    go_wp2_with (fail)
    refine (HU.out _ hm S _ _ g2.ps (Nat.le_refl _)).mono ?_
    rintro _ w3 @⟨_, _, x3, g3, ⟨p, t, hE, hpr⟩⟩
    have hr3 := g3.kb.block hr2 (by omega)
    have hs2 := lt_of_block hr2
    have hs3 := lt_of_block hr3
    obtain ⟨hrc, hrf⟩ := row_cells hr3
    simp only [ER.row] at hrc ⊢
    obtain ⟨e1, e2, e3⟩ := end_one ((G1.out.1.trans g2).trans g3) hr3 hpl htl (hE.mono fun b hb => by omega) ⟨3, 1, ⟨#[]⟩, 0, 0, 0, 0, some ⟨w3.heap.size, 0, none⟩, 1, 1, A0⟩ rfl (fun h => by have := hpr h; omega)
    have E : Aside _ := (⟨e1, e2, e3⟩ : _ ∧ _ ∧ _)
    clear e1 e2 e3
    go_wp2
    exact ret_exp (p := ⟨3, 1, ⟨#[]⟩, 0, 0, 0, 0, some ⟨w3.heap.size, 0, none⟩, 1, 1, A0⟩) (r := w.heap.size) rfl (by rfl) E.out.1 rfl (.mk E.out.2.1 E.out.2.2)
  · have hr2 := g2.kb.block G1.out.2 (by omega)
    have G2 : Aside _ := (⟨G1.out.1.trans g2, hr2⟩ : _ ∧ _)
    go_wp2_with (fail)
    refine (maybe_in G2.out.1.ps _).mono ?_
    rintro _ w4 @⟨_, _, x4, g4, ⟨rfl, hat, hee⟩ | ⟨rfl, rfl⟩⟩
    · have hr4 := g4.kb.block G2.out.2 (by omega)
      have G4 : Aside _ := (⟨G2.out.1.trans g4, hr4⟩ : _ ∧ _)
      have hm : S.len - x4.at' < k := by have := g4.ps.lt; omega
      go_wp2_with (fail)
      refine (HU.out _ hm S _ _ g4.ps (Nat.le_refl _)).mono ?_
      rintro _ w5 @⟨_, _, x5, g5, ⟨p, t, hE, hpr⟩⟩
      have hr5 := g5.kb.block hr4 (by omega)
      have hs4 := lt_of_block hr4
      have hs5 := lt_of_block hr5
      obtain ⟨hrc, hrf⟩ := row_cells hr5
      simp only [ER.row] at hrc ⊢
      obtain ⟨e1, e2, e3⟩ := end_one (G4.out.1.trans g5) hr5 hpl htl (hE.mono fun b hb => by omega) ⟨6, 0, ⟨#[]⟩, 0, 0, 0, 0, some ⟨w5.heap.size, 0, none⟩, 1, 1, A0⟩ rfl (fun h => by have := hpr h; omega)
      have E : Aside _ := (⟨e1, e2, e3⟩ : _ ∧ _ ∧ _)
      clear e1 e2 e3
      go_wp2
      exact ret_exp (p := ⟨6, 0, ⟨#[]⟩, 0, 0, 0, 0, some ⟨w5.heap.size, 0, none⟩, 1, 1, A0⟩) (r := w.heap.size) rfl (by rfl) E.out.1 rfl (.mk E.out.2.1 E.out.2.2)
    · have hr4 := g4.kb.block G2.out.2 (by omega)
      have G4 : Aside _ := (⟨G2.out.1.trans g4, hr4⟩ : _ ∧ _)
      clear hr2 hr4 G2
      go_wp2_with (fail)
      refine (maybe_in G4.out.1.ps _).mono ?_
      rintro _ w6 @⟨_, _, x6, g6, ⟨rfl, hat, hee⟩ | ⟨rfl, rfl⟩⟩
      · have hr6 := g6.kb.block G4.out.2 (by omega)
        have G6 : Aside _ := (⟨G4.out.1.trans g6, hr6⟩ : _ ∧ _)
        clear hr6
        go_wp2_with (fail)
        refine (tok_in G6.out.1.ps).mono ?_
        rintro e w7 ⟨rfl, h7, k7⟩
        have hr7 := k7.block G6.out.2 (by omega)
        have g7 : Go1 S w6 x6 w7 x6 := ⟨h7, k7, Nat.le_refl _, id⟩
        have G7 : Aside _ := (⟨G6.out.1.trans g7, hr7⟩ : _ ∧ _)
        have hs7 := lt_of_block hr7
        have c1 := h7.c1
        have c2 := h7.c2
        have f1 := h7.fz 1
        have hpl7 := h7.plt
        have hcap := S.hlen
        dsimp only [Tk.val]
        by_cases hg : (S.t x6.at').k = 2 ∧ (S.t x6.at').tk > 0
        · obtain ⟨hg1, hg2⟩ := hg
          have hn := next_lt g6.ps.lt (by omega)
          obtain ⟨mm, hW⟩ := Wrap_ex (S.t x6.at').tk (IntKind.i64.wrap (-(S.t x6.at').n))
          have hp := h7.set1 hn
          rw [show ((x6.at' + 1 : Nat) : Int) = (x6.at' : Int) + 1 by omega] at hp
          have hp0 := er0 g6
          have hr8 := (Below.heap_setCell w7 ⟨S.pb, 1, none⟩ (.int .i64 ((x6.at' : Int) + 1)) w.heap.size (by show w.heap.size ≠ S.pb; omega)).trans hr7
          have G8 : Go1 S w x4 (w7.setCell ⟨S.pb, 1, none⟩ (.int .i64 ((x6.at' : Int) + 1))) { x6 with at' := x6.at' + 1 } := ⟨hp, G7.out.1.kb.setCell (.inr rfl) _, by have := G7.out.1.le; show _ ≤ x6.at' + 1; omega, fun h => G7.out.1.er h⟩
          have GG : Aside _ := (⟨G8, hr8⟩ : _ ∧ _)
          clear hr8 G8 hp hr7 g7 h7 k7
          go_wp2
          generalize (S.t x6.at').at' = A1, (S.t x6.at').tl = TL, (S.t x6.at').n = N1, (S.t x6.at').tk = TK, (S.t x6.at').s = SS at *
          generalize hw8 : (w7.setCell ⟨S.pb, 1, none⟩ (.int .i64 ((x6.at' : Int) + 1))) = w8 at *
          have hs8 : w8.heap.size = w7.heap.size := by rw [← hw8]; simp
          generalize hw9 : w8.alloc _ = w9
          have hT : w9.heap[w7.heap.size]? = _ := hw9 ▸ alloc_at hs8
          obtain ⟨hTc, hTf⟩ := row_cells hT
          have hT2 : w9.cell? ⟨w7.heap.size, 2, none⟩ = some (.int .i64 N1) := hTc 2
          have hT3 : w9.cell? ⟨w7.heap.size, 3, none⟩ = some (.int .i64 TK) := hTc 3
          have hT4 : w9.cell? ⟨w7.heap.size, 4, none⟩ = some (.int .i64 TL) := hTc 4
          have hs9 : w9.heap.size = w7.heap.size + 1 := by rw [← hw9]; simp [hs8]
          have hlt9 : w7.heap.size < w9.heap.size := by omega
          have hK : ∀ W : World, W.heap[w7.heap.size]? = w9.heap[w7.heap.size]? → W.cell? ⟨w7.heap.size, 2, none⟩ = some (.int .i64 N1) ∧ W.cell? ⟨w7.heap.size, 3, none⟩ = some (.int .i64 TK) ∧ W.cell? ⟨w7.heap.size, 4, none⟩ = some (.int .i64 TL) := fun W hW => by
            have c : ∀ o, W.cell? ⟨w7.heap.size, o, none⟩ = w9.cell? ⟨w7.heap.size, o, none⟩ := fun o => World.cell?_of_block (w := w9) hW
            rw [c, c, c]
            exact ⟨hT2, hT3, hT4⟩
          go_region_held3 (fun w' => w'.cell? ⟨w7.heap.size, 2, none⟩ = some (.int .i64 N1) ∧ w'.cell? ⟨w7.heap.size, 3, none⟩ = some (.int .i64 TK) ∧ w'.cell? ⟨w7.heap.size, 4, none⟩ = some (.int .i64 TL))
            (first | (refine hK _ ?_; with_reducible exact heap_drew w9 _) | (refine hK _ ?_; with_reducible exact heap_drew_alloc w9 _ hlt9) | (refine hK _ ?_; with_reducible exact heap_alloc_drew w9 _ hlt9) | (refine hK _ ?_; with_reducible refine (heap_set9 _ _ _ _ _ _ _ _ _ _ _ (Nat.ne_of_lt hlt9)).trans ?_; first | with_reducible exact heap_drew_alloc w9 _ hlt9 | with_reducible exact heap_alloc_drew w9 _ hlt9) | (trace_state; fail))
            (first | (go_at_call 64; refine (hW _).mono ?_; rintro e w' ⟨rfl, rfl⟩))
          all_goals
            obtain ⟨tL, hL, hcL⟩ := IsExp.leaf (fun b => w.heap.size + 1 ≤ b ∧ b ≠ S.pb) ((w9.alloc (.cells (ER.row ⟨1, 0, ⟨#[]⟩, TK, TL, mm, 0, none, 0, 0, A0⟩) 45)).drew) ⟨1, 0, ⟨#[]⟩, TK, TL, mm, 0, none, 0, 0, A0⟩ rfl
            have hpsL : PS S ((w9.alloc (.cells (ER.row ⟨1, 0, ⟨#[]⟩, TK, TL, mm, 0, none, 0, 0, A0⟩) 45)).drew) { x6 with at' := x6.at' + 1 } := by
              rw [← hw9]
              exact ((GG.out.1.ps.alloc _).alloc _).drew
            have hrL : ((w9.alloc (.cells (ER.row ⟨1, 0, ⟨#[]⟩, TK, TL, mm, 0, none, 0, 0, A0⟩) 45)).drew).heap[w.heap.size]? = some (.cells zrow 45 (0, 0)) := by
              rw [← hw9]
              exact (Below.heap_alloc _ _ _ (by simp; omega)).trans ((Below.heap_alloc _ _ _ (by omega)).trans GG.out.2)
            have hkL : KB S w ((w9.alloc (.cells (ER.row ⟨1, 0, ⟨#[]⟩, TK, TL, mm, 0, none, 0, 0, A0⟩) 45)).drew) := by
              rw [← hw9]
              exact ((GG.out.1.kb.alloc _).alloc _).drew
            have hxle : x4.at' ≤ x6.at' + 1 := GG.out.1.le
            have HI : Aside _ := (⟨hL, hcL, hpsL, hrL, hkL⟩ : _ ∧ _ ∧ _ ∧ _ ∧ _)
            clear hL hcL hpsL hrL hkL hK hTc hTf
            go_wp2_with (fail)
            refine (indexed_in (p := ⟨1, 0, ⟨#[]⟩, TK, TL, mm, 0, none, 0, 0, A0⟩) (lo := w.heap.size + 1) (x0 := x4) HI.out.2.2.1 HI.out.1 (by simp; omega) (fun _ => by have := HI.out.2.1; have := G6.out.1.le; show x4.at' + tL.cnt ≤ x6.at' + 1; omega)).mono ?_
            rintro _ w10 @⟨_, _, x10, g10, ⟨p, t, hE, hpr⟩⟩
            have hr10 := g10.kb.block HI.out.2.2.2.1 (by omega)
            obtain ⟨hrc, hrf⟩ := row_cells hr10
            have hs10 := lt_of_block hr10
            have hg : Go1 S w x4 w10 x10 := ⟨g10.ps, HI.out.2.2.2.2.trans g10.kb, Nat.le_trans hxle g10.le, fun h => g10.er (GG.out.1.er h)⟩
            simp only [zrow] at hrc
            simp only [ER.row]
            go_wp2
            refine ret_exp (p := p) (r := w.heap.size) rfl (by rfl) (put9_self hr10 rfl p) rfl ?_
            refine .mk ⟨hg.ps.put9 (by omega) (by omega) p, hg.kb.put9 (Nat.le_refl _) p, hg.le, hg.er⟩ (.mk p t ?_ hpr)
            exact (hE.put9 (b := w.heap.size) (fun b hb => by omega) p).mono fun b hb => by omega
        · have hx7 := er0 g6
          have hm : S.len - x6.at' < k := by have := h7.lt; omega
          rcases (by omega : ¬ (S.t x6.at').k = 2 ∨ ((S.t x6.at').k = 2 ∧ ¬ (S.t x6.at').tk > 0)) with hn2 | ⟨hn2, hn3⟩
          all_goals
            have hps8 := h7.alloc (.cells (S.t x6.at').val.cells 86)
            go_wp2_with (fail)
            refine (HU.out _ hm S _ _ (h7.alloc _) (Nat.le_refl _)).mono ?_
            rintro _ w8 @⟨_, _, x8, g8, ⟨p, t, hE, hpr⟩⟩
            have hr8 := g8.kb.block ((Below.heap_alloc _ _ _ hs7).trans hr7) (by omega)
            have hs8 := lt_of_block hr8
            have g78 : Go1 S w x4 w8 x8 := ⟨g8.ps, (G7.out.1.kb.alloc _).trans g8.kb, Nat.le_trans G7.out.1.le g8.le, fun h => g8.er (G7.out.1.er h)⟩
            obtain ⟨hrc, hrf⟩ := row_cells hr8
            simp only [ER.row] at hrc ⊢
            obtain ⟨e1, e2, e3⟩ := end_one g78 hr8 hpl htl (hE.mono fun b hb => by simp at hb; omega) ⟨3, 2, ⟨#[]⟩, 0, 0, 0, 0, some ⟨w8.heap.size, 0, none⟩, 1, 1, A0⟩ rfl (fun h => by have := hpr h; omega)
            have E : Aside _ := (⟨e1, e2, e3⟩ : _ ∧ _ ∧ _)
            clear e1 e2 e3
            go_wp2
            exact ret_exp (p := ⟨3, 2, ⟨#[]⟩, 0, 0, 0, 0, some ⟨w8.heap.size, 0, none⟩, 1, 1, A0⟩) (r := w.heap.size) rfl (by rfl) E.out.1 rfl (.mk E.out.2.1 E.out.2.2)
      · have hr6 := g6.kb.block G4.out.2 (by omega)
        have G6 : Aside _ := (⟨G4.out.1.trans g6, hr6⟩ : _ ∧ _)
        go_wp2_with (fail)
        refine (HP.out S _ _ g6.ps hk).mono ?_
        rintro _ w7 @⟨_, _, x7, g7, ⟨p, t, hE, hpr⟩⟩
        have hr7 := g7.kb.block hr6 (by omega)
        have hs6 := lt_of_block hr6
        have G7 : Aside _ := (⟨G6.out.1.trans g7, hr7⟩ : _ ∧ _)
        simp only [ER.row]
        go_wp2_with (fail)
        refine (indexed_in (lo := w.heap.size + 1) g7.ps (hE.mono fun b hb => by omega) (by have := lt_of_block hr7; omega) hpr).mono ?_
        rintro _ w8 @⟨_, _, x8, g8, ⟨q, u, hF, hpr8⟩⟩
        have hr8 := g8.kb.block hr7 (by omega)
        obtain ⟨hrc, hrf⟩ := row_cells hr8
        have hs8 := lt_of_block hr8
        have hg := G7.out.1.trans g8
        simp only [ER.row]
        go_wp2
        refine ret_exp (p := q) (r := w.heap.size) rfl (by rfl) (put9_self hr8 rfl q) rfl ?_
        refine .mk ⟨hg.ps.put9 (by omega) (by omega) q, hg.kb.put9 (Nat.le_refl _) q, hg.le, hg.er⟩ (.mk q u ?_ hpr8)
        exact (hF.put9 (b := w.heap.size) (fun b hb => by omega) q).mono fun b hb => by omega
end Go.Pa
