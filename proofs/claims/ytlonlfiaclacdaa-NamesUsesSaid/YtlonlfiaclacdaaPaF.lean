/-
  prim (own work).
-/
import Derived.Test.YtlonlfiaclacdaaPaE
namespace Go.Pa
open Go Go.RowKit Go.Proofs

def Tk.row (t : Tk) : Array Value := #[.int .i64 t.k, .string t.s, .int .i64 t.n, .int .i64 t.tk, .int .i64 t.tl, .int .i64 t.at']

/-- While an expression is built: its block xb, the result's rb, the token's tb. -/
structure WdI (S : Src) (w : World) (x : St) (rb tb xb : Nat) (wr : World) (xc : St) (tk : Tk) (q : ER) : Prop where
  g : Go1 S w x wr xc
  hr : w.heap.size ≤ rb
  ht : w.heap.size ≤ tb
  hx : w.heap.size ≤ xb
  nr : rb ≠ xb
  nt : tb ≠ xb
  r : wr.heap[rb]? = some (.cells zrow 45 (0, 0))
  t : wr.heap[tb]? = some (.cells tk.row 86 (0, 0))
  a : wr.heap[xb]? = some (.cells q.row 45 (0, 0))
section
variable {S : Src} {w : World} {x : St} {rb tb xb : Nat} {wr w2 : World} {xc x2 : St} {tk : Tk} {q : ER}
theorem WdI.kb (h : WdI S w x rb tb xb wr xc tk q) (g : Go1 S wr xc w2 x2) (hpl : S.pb < w.heap.size) : WdI S w x rb tb xb w2 x2 tk q :=
  ⟨h.g.trans g, h.hr, h.ht, h.hx, h.nr, h.nt, g.kb.block h.r (by have := h.hr; omega), g.kb.block h.t (by have := h.ht; omega), g.kb.block h.a (by have := h.hx; omega)⟩
theorem WdI.next (h : WdI S w x rb tb xb wr xc tk q) (hpl : S.pb < w.heap.size) (hn : xc.at' + 1 < S.len) : WdI S w x rb tb xb (wr.setCell ⟨S.pb, 1, none⟩ (.int .i64 ((xc.at' : Int) + 1))) { xc with at' := xc.at' + 1 } tk q := by
  have hp := h.g.ps.set1 hn
  rw [show ((xc.at' + 1 : Nat) : Int) = (xc.at' : Int) + 1 by omega] at hp
  exact h.kb ⟨hp, (KB.refl S wr).setCell (.inr rfl) _, by simp, by simp⟩ hpl
theorem WdI.alloc (h : WdI S w x rb tb xb wr xc tk q) (o : Obj) : WdI S w x rb tb xb (wr.alloc o) xc tk q :=
  ⟨⟨h.g.ps.alloc _, h.g.kb.alloc _, h.g.le, h.g.er⟩, h.hr, h.ht, h.hx, h.nr, h.nt, (Below.heap_alloc _ _ _ (lt_of_block h.r)).trans h.r, (Below.heap_alloc _ _ _ (lt_of_block h.t)).trans h.t, (Below.heap_alloc _ _ _ (lt_of_block h.a)).trans h.a⟩
theorem WdI.drew (h : WdI S w x rb tb xb wr xc tk q) : WdI S w x rb tb xb wr.drew xc tk q :=
  ⟨⟨h.g.ps.drew, h.g.kb.drew, h.g.le, h.g.er⟩, h.hr, h.ht, h.hx, h.nr, h.nt, h.r, h.t, h.a⟩
/-- A field is set. -/
theorem WdI.set (h : WdI S w x rb tb xb wr xc tk q) (hpl : S.pb < w.heap.size) (htl : S.tb < w.heap.size) (j : Nat) (u : Value) (q' : ER) (hq : q.row.setIfInBounds j u = q'.row) : WdI S w x rb tb xb (wr.setCell ⟨xb, j, none⟩ u) xc tk q' := by
  have h1 := h.hx
  refine ⟨⟨h.g.ps.setNew (by show xb ≠ S.pb; omega) (by show xb ≠ S.tb; omega) _, h.g.kb.setCell (.inl h.hx) _, h.g.le, h.g.er⟩, h.hr, h.ht, h.hx, h.nr, h.nt, (Below.heap_setCell _ _ _ _ h.nr).trans h.r, (Below.heap_setCell _ _ _ _ h.nt).trans h.t, ?_⟩
  rw [heap_setCell_self h.a u, hq]
/-- The end: the expression is copied into the result. -/
theorem WdI.fin (h : WdI S w x rb tb xb wr xc tk q) (hpl : S.pb < w.heap.size) (htl : S.tb < w.heap.size) {p : ER} {t : Tree} (he : IsExp (fun b => w.heap.size ≤ b ∧ b ≠ rb) wr p t) (hc : xc.e = 0 → x.at' + t.cnt ≤ xc.at') :
    (put9 wr rb p).heap[rb]? = some (.cells p.row 45 (0, 0)) ∧ Go1 S w x (put9 wr rb p) xc ∧ ExpP (w.heap.size ≤ ·) (put9 wr rb p) x xc (.agg p.row) := by
  have := h.hr
  exact ⟨put9_self h.r rfl p, ⟨h.g.ps.put9 (by omega) (by omega) p, h.g.kb.put9 h.hr p, h.g.le, h.g.er⟩, .mk p t ((he.put9 (fun b hb => hb.2) p).mono fun _ hb => hb.1) hc⟩
end

/-- The token and the expression lie in new blocks. -/
theorem WdI.two {S : Src} {w w1 : World} {x x1 : St} (g : Go1 S w x w1 x1) (hr1 : w1.heap[w.heap.size]? = some (.cells zrow 45 (0, 0))) (tk : Tk) (q : ER) {n : Nat} (hn : w1.heap.size = n) :
    WdI S w x w.heap.size n (n + 1) ((w1.alloc (.cells tk.row 86)).alloc (.cells q.row 45)) x1 tk q := by
  subst hn
  have hs1 := lt_of_block hr1
  exact ⟨⟨(g.ps.alloc _).alloc _, (g.kb.alloc _).alloc _, g.le, g.er⟩, Nat.le_refl _, by omega, by omega, by omega, by omega, (Below.heap_alloc _ _ _ (by simp; omega)).trans ((Below.heap_alloc _ _ _ hs1).trans hr1), (Below.heap_alloc _ _ _ (by simp)).trans (alloc_self w1 _), alloc_at (by simp)⟩
/-- The end, without a call behind: the result, ahead of two new blocks. -/
theorem leaf_fin {S : Src} {w w1 : World} {x x1 : St} (g : Go1 S w x w1 x1) (hr1 : w1.heap[w.heap.size]? = some (.cells zrow 45 (0, 0))) (hpl : S.pb < w.heap.size) (htl : S.tb < w.heap.size) (q : ER) (hq : q.ks = .slice none 0 0) (hc : x1.e = 0 → x.at' + 1 ≤ x1.at') (o1 o2 : Obj) :
    (((put9 w1 w.heap.size q).alloc o1).alloc o2).heap[w.heap.size]? = some (.cells q.row 45 (0, 0)) ∧ Go1 S w x (((put9 w1 w.heap.size q).alloc o1).alloc o2) x1 ∧ ExpP (w.heap.size ≤ ·) (((put9 w1 w.heap.size q).alloc o1).alloc o2) x x1 (.agg q.row) := by
  have hs1 := lt_of_block hr1
  obtain ⟨t, ht, hct⟩ := IsExp.leaf (w.heap.size ≤ ·) (((put9 w1 w.heap.size q).alloc o1).alloc o2) q hq
  exact ⟨(Below.heap_alloc _ _ _ (by simp; omega)).trans ((Below.heap_alloc _ _ _ (by simpa using hs1)).trans (put9_self hr1 rfl q)), ⟨((g.ps.put9 (by omega) (by omega) q).alloc _).alloc _, ((g.kb.put9 (Nat.le_refl _) q).alloc _).alloc _, g.le, g.er⟩, .mk q t ht (by rw [hct]; exact hc)⟩

/-- An expression with a list of kids. -/
theorem exp_kids {lo : Nat} {w : World} {v : Value} {m : Nat} {ps : Nat → ER} {ts : Nat → Tree} (h : KidsO lo w v m ps ts) (q : ER) (hq : q.ks = v) : ∃ t, IsExp (lo ≤ ·) w q t ∧ t.cnt = 1 + sumN (fun i => (ts i).cnt) m :=
  ⟨_, .mk q m ps ts (by rw [hq]; exact h.kids) (fun i hi => (h.e i hi).mono fun _ hb => hb.1), rfl⟩

/-- word, at its token. -/
def CWord (k : Nat) : Prop := ∀ (S : Src) (w : World) (x : St), PS S w x → x.e = 0 → (S.t x.at').k ≠ 5 → S.len - x.at' ≤ k →
  Calls Try.prog 95 #[.pointer (some ⟨S.pb, 0, none⟩), (S.t x.at').val] w (Ret S w x fun v w' x' => ExpP (w.heap.size ≤ ·) w' x x' v)

set_option maxHeartbeats 8000000 in
set_option maxRecDepth 100000 in
theorem prim_in {k : Nat} (he : ∀ j, j < k → CExp 80 j) (hl : ∀ j, j < k → CKids j) (hw : CWord k) : CExp 92 k := by
  intro S w x hP hk
  have hpl := hP.plt
  have htl := hP.tlt
  have hxl := hP.lt
  have HE : Hid _ := he
  have HL : Hid _ := hl
  have HW : Hid _ := hw
  clear he hl hw
  go_enter Try.func92, Try.ntmps92
  go_wp2_with (fail)
  refine (tok_in (hP.alloc _)).mono ?_
  rintro e w1 ⟨rfl, h1, k1⟩
  dsimp only [Tk.val]
  have hr1 := k1.block (alloc_self w _) (by omega)
  have hs1 := lt_of_block hr1
  have g1 : Go1 S w x w1 x := ⟨h1, ((KB.refl S w).alloc _).trans k1, Nat.le_refl _, id⟩
  have G : Aside _ := (⟨g1, hr1⟩ : _ ∧ _)
  have c1 := h1.c1
  have c2 := h1.c2
  have f1 := h1.fz 1
  have hpl1 := h1.plt
  have hcap := S.hlen
  obtain ⟨hrc, hrf⟩ := row_cells hr1
  clear g1 hr1 k1
  have hnx := fun h => next_lt (S := S) (x := x) hxl h
  generalize hT : S.t x.at' = T at *
  obtain ⟨K, SS, N, TK, TL, AT⟩ := T
  dsimp only at hnx ⊢
  by_cases he : x.e = 0
  case neg =>
    have E : Aside _ := leaf_fin G.out.1 G.out.2 hpl htl ⟨0, 0, ⟨#[]⟩, 0, 0, 0, 0, none, 0, 0, AT⟩ rfl (fun h => absurd h he) (.cells (Tk.row ⟨K, SS, N, TK, TL, AT⟩) 86) (.cells (ER.row ⟨0, 0, ⟨#[]⟩, 0, 0, 0, 0, none, 0, 0, AT⟩) 45)
    go_wp2
    exact ret_exp (p := ⟨0, 0, ⟨#[]⟩, 0, 0, 0, 0, none, 0, 0, AT⟩) (r := w.heap.size) rfl (by rfl) E.out.1 rfl (.mk E.out.2.1 E.out.2.2)
  case pos =>
    have HN : Aside _ := hnx
    clear hnx
    by_cases k1 : K = 1
    · subst k1
      have hn := HN.out (by omega)
      have G2 : Go1 S w x (w1.setCell ⟨S.pb, 1, none⟩ (.int .i64 ((x.at' : Int) + 1))) { x with at' := x.at' + 1 } := by
        have hp := h1.set1 hn
        rw [show ((x.at' + 1 : Nat) : Int) = (x.at' : Int) + 1 by omega] at hp
        exact G.out.1.trans ⟨hp, (KB.refl S w1).setCell (.inr rfl) _, by simp, by simp⟩
      have hr2 := (Below.heap_setCell w1 ⟨S.pb, 1, none⟩ (.int .i64 ((x.at' : Int) + 1)) w.heap.size (by show w.heap.size ≠ S.pb; omega)).trans G.out.2
      have I : Aside _ := WdI.two G2 hr2 ⟨1, SS, N, TK, TL, AT⟩ ⟨2, 0, SS, 0, 0, 0, 0, none, 0, 0, AT⟩ (n := w1.heap.size) (by simp)
      clear G2 hr2
      go_wp2_with (fail)
      refine (is_ex I.out.g.ps _).mono ?_
      rintro _ w3 @⟨_, _, x3, g3, rfl, ⟨rfl, _, _⟩ | rfl⟩
      · have I3 : Aside _ := I.out.kb g3 hpl
        obtain ⟨hxc, hxf⟩ := row_cells I3.out.a
        have hxlt := lt_of_block I3.out.a
        simp only [ER.row] at hxc
        have I4 : Aside _ := I3.out.set hpl htl 0 (.int .i64 13) ⟨13, 0, SS, 0, 0, 0, 0, none, 0, 0, AT⟩ rfl
        go_wp2_with (fail)
        refine (call_in (HL.out (S.len - (x.at' + 1)) (by omega)) S _ _ I4.out.g.ps (Nat.le_refl _)).mono ?_
        rintro _ w5 @⟨_, _, x5, g5, ⟨m, ps, ts, hK, hm, hc⟩⟩
        have I5 : Aside _ := I4.out.kb g5 hpl
        obtain ⟨a0, cp, rfl⟩ := own_form hK.own
        obtain ⟨t, ht, hct⟩ := exp_kids hK ⟨13, 0, SS, 0, 0, 0, 0, a0, m, cp, AT⟩ rfl
        have I6 : Aside _ := I5.out.set hpl htl 7 (.slice a0 m cp) ⟨13, 0, SS, 0, 0, 0, 0, a0, m, cp, AT⟩ rfl
        have hb5 := lt_of_block I5.out.r
        have E : Aside _ := I6.out.fin hpl htl (t := t) ((ht.setCell (a := ⟨w1.heap.size + 1, 7, none⟩) (fun b hb => by simp at hb; show b ≠ w1.heap.size + 1; omega) _).mono fun b hb => by simp at hb; constructor <;> omega) (fun h => by have : x.at' + 1 + sumN (fun i => (ts i).cnt) m ≤ x5.at' := hc h; rw [hct]; omega)
        obtain ⟨hxc5, hxf5⟩ := row_cells I5.out.a
        obtain ⟨hrc5, hrf5⟩ := row_cells I5.out.r
        simp only [ER.row] at hxc5
        simp only [zrow] at hrc5
        clear hxc hxf hrc hrf hK ht
        go_wp2
        exact ret_exp (p := ⟨13, 0, SS, 0, 0, 0, 0, a0, m, cp, AT⟩) (r := w.heap.size) rfl (by rfl) E.out.1 rfl (.mk E.out.2.1 E.out.2.2)
      · have I3 : Aside _ := I.out.kb g3 hpl
        obtain ⟨hxc, hxf⟩ := row_cells I3.out.a
        obtain ⟨hrc3, hrf3⟩ := row_cells I3.out.r
        simp only [ER.row] at hxc
        simp only [zrow] at hrc3
        obtain ⟨t, ht, hct⟩ := IsExp.leaf (fun b => w.heap.size ≤ b ∧ b ≠ w.heap.size) w3 ⟨2, 0, SS, 0, 0, 0, 0, none, 0, 0, AT⟩ rfl
        have E : Aside _ := I3.out.fin hpl htl (t := t) ht (fun h => by rw [hct]; show x.at' + 1 ≤ x.at' + 1; omega)
        clear ht
        go_wp2
        exact ret_exp (p := ⟨2, 0, SS, 0, 0, 0, 0, none, 0, 0, AT⟩) (r := w.heap.size) rfl (by rfl) E.out.1 rfl (.mk E.out.2.1 E.out.2.2)
    by_cases k2 : K = 2
    · subst k2
      have hn := HN.out (by omega)
      by_cases htk : TK = 0
      · subst htk
        obtain ⟨b, hS⟩ := Signed_ex 0
        by_cases hneg : N < 0
        all_goals
          cases b
          all_goals
            go_wp2_with (fail)
            refine (hS _).mono ?_
            rintro _ _ ⟨rfl, rfl⟩
            have I : Aside _ := WdI.two G.out.1 G.out.2 ⟨2, SS, N, 0, TL, AT⟩ ⟨0, 0, ⟨#[]⟩, 0, 0, 0, 0, none, 0, 0, AT⟩ (n := w1.heap.size) rfl
            go_wp2_with (fail)
            refine (fail_ex I.out.g.ps 12 (by decide)).mono ?_
            rintro _ w3 @⟨_, _, x3, g3, rfl, hee⟩
            have I3 : Aside _ := I.out.kb g3 hpl
            obtain ⟨hxc, hxf⟩ := row_cells I3.out.a
            obtain ⟨hrc3, hrf3⟩ := row_cells I3.out.r
            simp only [ER.row] at hxc
            simp only [zrow] at hrc3
            obtain ⟨t, ht, hct⟩ := IsExp.leaf (fun b => w.heap.size ≤ b ∧ b ≠ w.heap.size) w3 ⟨0, 0, ⟨#[]⟩, 0, 0, 0, 0, none, 0, 0, AT⟩ rfl
            have E : Aside _ := I3.out.fin hpl htl (t := t) ht (fun h => absurd h hee)
            clear ht hrc hrf
            go_wp2
            exact ret_exp (p := ⟨0, 0, ⟨#[]⟩, 0, 0, 0, 0, none, 0, 0, AT⟩) (r := w.heap.size) rfl (by rfl) E.out.1 rfl (.mk E.out.2.1 E.out.2.2)
      · obtain ⟨b, hS⟩ := Signed_ex TK
        by_cases hbad : b = true ∧ N < 0
        · obtain ⟨rfl, hneg⟩ := hbad
          go_wp2_with (fail)
          refine (hS _).mono ?_
          rintro _ _ ⟨rfl, rfl⟩
          have I : Aside _ := WdI.two G.out.1 G.out.2 ⟨2, SS, N, TK, TL, AT⟩ ⟨0, 0, ⟨#[]⟩, 0, 0, 0, 0, none, 0, 0, AT⟩ (n := w1.heap.size) rfl
          go_wp2_with (fail)
          refine (fail_ex I.out.g.ps 12 (by decide)).mono ?_
          rintro _ w3 @⟨_, _, x3, g3, rfl, hee⟩
          have I3 : Aside _ := I.out.kb g3 hpl
          obtain ⟨hxc, hxf⟩ := row_cells I3.out.a
          obtain ⟨hrc3, hrf3⟩ := row_cells I3.out.r
          simp only [ER.row] at hxc
          simp only [zrow] at hrc3
          obtain ⟨t, ht, hct⟩ := IsExp.leaf (fun b => w.heap.size ≤ b ∧ b ≠ w.heap.size) w3 ⟨0, 0, ⟨#[]⟩, 0, 0, 0, 0, none, 0, 0, AT⟩ rfl
          have E : Aside _ := I3.out.fin hpl htl (t := t) ht (fun h => absurd h hee)
          clear ht hrc hrf
          go_wp2
          exact ret_exp (p := ⟨0, 0, ⟨#[]⟩, 0, 0, 0, 0, none, 0, 0, AT⟩) (r := w.heap.size) rfl (by rfl) E.out.1 rfl (.mk E.out.2.1 E.out.2.2)
        · have H : Aside _ := (hS : Same1 63 #[.int .i64 TK] (.bool b))
          have G2 : Go1 S w x (w1.setCell ⟨S.pb, 1, none⟩ (.int .i64 ((x.at' : Int) + 1))) { x with at' := x.at' + 1 } := by
            have hp := h1.set1 hn
            rw [show ((x.at' + 1 : Nat) : Int) = (x.at' : Int) + 1 by omega] at hp
            exact G.out.1.trans ⟨hp, (KB.refl S w1).setCell (.inr rfl) _, by simp, by simp⟩
          have hr2 := (Below.heap_setCell w1 ⟨S.pb, 1, none⟩ (.int .i64 ((x.at' : Int) + 1)) w.heap.size (by show w.heap.size ≠ S.pb; omega)).trans G.out.2
          have E : Aside _ := leaf_fin G2 hr2 hpl htl ⟨1, 0, ⟨#[]⟩, TK, TL, N, 0, none, 0, 0, AT⟩ rfl (fun _ => by show x.at' + 1 ≤ x.at' + 1; omega) (.cells (Tk.row ⟨2, SS, N, TK, TL, AT⟩) 86) (.cells (ER.row ⟨1, 0, ⟨#[]⟩, TK, TL, N, 0, none, 0, 0, AT⟩) 45)
          clear G2 hr2 hS
          have hok : b = false ∨ (b = true ∧ ¬ N < 0) := by cases b <;> simp_all
          clear hbad
          have htk0 : (TK == 0) = false := by simp [htk]
          have hok : b = false ∨ (b = true ∧ decide (N < 0) = false) := by simpa using hok
          rcases hok with rfl | ⟨rfl, hneg⟩
          all_goals
            go_wp2_with (fail)
            refine (H.out _).mono ?_
            rintro _ _ ⟨rfl, rfl⟩
            go_wp2
            exact ret_exp (p := ⟨1, 0, ⟨#[]⟩, TK, TL, N, 0, none, 0, 0, AT⟩) (r := w.heap.size) rfl (by rfl) E.out.1 rfl (.mk E.out.2.1 E.out.2.2)
    by_cases k4 : K = 4
    · subst k4
      have hn := HN.out (by omega)
      have G2 : Go1 S w x (w1.setCell ⟨S.pb, 1, none⟩ (.int .i64 ((x.at' : Int) + 1))) { x with at' := x.at' + 1 } := by
        have hp := h1.set1 hn
        rw [show ((x.at' + 1 : Nat) : Int) = (x.at' : Int) + 1 by omega] at hp
        exact G.out.1.trans ⟨hp, (KB.refl S w1).setCell (.inr rfl) _, by simp, by simp⟩
      have hr2 := (Below.heap_setCell w1 ⟨S.pb, 1, none⟩ (.int .i64 ((x.at' : Int) + 1)) w.heap.size (by show w.heap.size ≠ S.pb; omega)).trans G.out.2
      have H2 : Aside _ := (⟨G2, hr2⟩ : _ ∧ _)
      clear G2 hr2
      go_wp2_with (fail)
      · have I : Aside _ := WdI.two H2.out.1 H2.out.2 ⟨4, SS, N, TK, TL, AT⟩ ⟨0, 0, ⟨#[]⟩, 0, 0, 0, 0, none, 0, 0, AT⟩ (n := w1.heap.size) (by simp)
        refine (HE.out (S.len - (x.at' + 1)) (by omega) S _ _ I.out.g.ps (Nat.le_refl _)).mono ?_
        rintro _ w3 @⟨_, _, x3, g3, ⟨p, t, hE, hpr⟩⟩
        have I3 : Aside _ := (I.out.kb g3 hpl).alloc (.cells p.row 45)
        have hs3 := lt_of_block (I.out.kb g3 hpl).r
        have hs0 := lt_of_block I.out.r
        simp only [ER.row]
        go_wp2_with (fail)
        refine (take_in I3.out.g.ps _).mono ?_
        rintro _ w4 @⟨_, _, x4, g4, rfl, _⟩
        have I4 : Aside _ := I3.out.kb g4 hpl
        have hp4 := g4.kb.block (alloc_self w3 (.cells p.row 45)) (by omega)
        have E : Aside _ := I4.out.fin hpl htl (p := p) (t := t) (((hE.alloc (.cells p.row 45)).kb g4.kb (fun b hb => by simp at hb; omega)).mono fun b hb => by simp at hb hs0; constructor <;> omega) (fun h => by have : x.at' + 1 + t.cnt ≤ x3.at' := hpr (er0 g4 h); have := g4.le; omega)
        obtain ⟨hpc, hpf⟩ := row_cells hp4
        obtain ⟨hrc4, hrf4⟩ := row_cells I4.out.r
        simp only [ER.row] at hpc
        simp only [zrow] at hrc4
        clear hrc hrf hE
        go_wp2
        exact ret_exp (p := p) (r := w.heap.size) rfl (by rfl) E.out.1 rfl (.mk E.out.2.1 E.out.2.2)
      · have I : Aside _ := WdI.two H2.out.1 H2.out.2 ⟨4, SS, N, TK, TL, AT⟩ ⟨15, 0, ⟨#[]⟩, 0, 0, 0, 0, none, 0, 0, AT⟩ (n := w1.heap.size) (by simp)
        refine (HL.out (S.len - (x.at' + 1)) (by omega) S _ _ I.out.g.ps (Nat.le_refl _)).mono ?_
        rintro _ w3 @⟨_, _, x3, g3, ⟨m, ps, ts, hK, hm, hc⟩⟩
        obtain ⟨a0, cp, rfl⟩ := own_form hK.own
        have I3 : Aside _ := I.out.kb g3 hpl
        have I4 : Aside _ := I3.out.set hpl htl 7 (.slice a0 m cp) ⟨15, 0, ⟨#[]⟩, 0, 0, 0, 0, a0, m, cp, AT⟩ rfl
        have hs0 := lt_of_block I.out.a
        have hs3 := lt_of_block I3.out.a
        obtain ⟨hxc, hxf⟩ := row_cells I3.out.a
        simp only [ER.row] at hxc
        go_wp2_with (fail)
        refine (take_in I4.out.g.ps _).mono ?_
        rintro _ w5 @⟨_, _, x5, g5, rfl, _⟩
        have I5 : Aside _ := I4.out.kb g5 hpl
        obtain ⟨t, ht, hct⟩ := exp_kids hK ⟨15, 0, ⟨#[]⟩, 0, 0, 0, 0, a0, m, cp, AT⟩ rfl
        have E : Aside _ := I5.out.fin hpl htl (t := t) (((ht.setCell (a := ⟨w1.heap.size + 1, 7, none⟩) (fun b hb => by simp at hb hs0; show b ≠ w1.heap.size + 1; omega) (.slice a0 m cp)).kb g5.kb (fun b hb => by simp at hb; omega)).mono fun b hb => by simp at hb; constructor <;> omega) (fun h => by have : x.at' + 1 + sumN (fun i => (ts i).cnt) m ≤ x3.at' := hc (er0 g5 h); have : x3.at' ≤ x5.at' := g5.le; rw [hct]; omega)
        obtain ⟨hxc5, hxf5⟩ := row_cells I5.out.a
        obtain ⟨hrc5, hrf5⟩ := row_cells I5.out.r
        simp only [ER.row] at hxc5
        simp only [zrow] at hrc5
        clear hxc hxf hrc hrf hK ht
        go_wp2
        exact ret_exp (p := ⟨15, 0, ⟨#[]⟩, 0, 0, 0, 0, a0, m, cp, AT⟩) (r := w.heap.size) rfl (by rfl) E.out.1 rfl (.mk E.out.2.1 E.out.2.2)
      · have I : Aside _ := WdI.two G.out.1 G.out.2 ⟨4, SS, N, TK, TL, AT⟩ ⟨0, 0, ⟨#[]⟩, 0, 0, 0, 0, none, 0, 0, AT⟩ (n := w1.heap.size) rfl
        refine (fail_ex I.out.g.ps 12 (by decide)).mono ?_
        rintro _ w3 @⟨_, _, x3, g3, rfl, hee⟩
        have I3 : Aside _ := I.out.kb g3 hpl
        obtain ⟨hxc, hxf⟩ := row_cells I3.out.a
        obtain ⟨hrc3, hrf3⟩ := row_cells I3.out.r
        simp only [ER.row] at hxc
        simp only [zrow] at hrc3
        obtain ⟨t, ht, hct⟩ := IsExp.leaf (fun b => w.heap.size ≤ b ∧ b ≠ w.heap.size) w3 ⟨0, 0, ⟨#[]⟩, 0, 0, 0, 0, none, 0, 0, AT⟩ rfl
        have E : Aside _ := I3.out.fin hpl htl (t := t) ht (fun h => absurd h hee)
        clear ht hrc hrf
        go_wp2
        exact ret_exp (p := ⟨0, 0, ⟨#[]⟩, 0, 0, 0, 0, none, 0, 0, AT⟩) (r := w.heap.size) rfl (by rfl) E.out.1 rfl (.mk E.out.2.1 E.out.2.2)
    by_cases k3 : K = 3
    · subst k3
      have I : Aside _ := WdI.two G.out.1 G.out.2 ⟨3, SS, N, TK, TL, AT⟩ ⟨0, 0, ⟨#[]⟩, 0, 0, 0, 0, none, 0, 0, AT⟩ (n := w1.heap.size) rfl
      have hw3 := HW.out S _ _ I.out.g.ps he (by rw [hT]; show (3 : Int) ≠ 5; decide) hk
      rw [hT] at hw3
      have HW3 : Aside _ := hw3
      clear hw3
      go_wp2_with (fail)
      refine Calls.mono HW3.out ?_
      rintro _ w3 @⟨_, _, x3, g3, ⟨p, t, hE, hpr⟩⟩
      have I3 : Aside _ := I.out.kb g3 hpl
      have hs0 := lt_of_block I.out.r
      have E : Aside _ := I3.out.fin hpl htl (p := p) (t := t) (hE.mono fun b hb => by simp at hb; constructor <;> omega) hpr
      obtain ⟨hrc3, hrf3⟩ := row_cells I3.out.r
      simp only [zrow] at hrc3
      simp only [ER.row]
      clear hrc hrf hE
      go_wp2
      exact ret_exp (p := p) (r := w.heap.size) rfl (by rfl) E.out.1 rfl (.mk E.out.2.1 E.out.2.2)
    · have I : Aside _ := WdI.two G.out.1 G.out.2 ⟨K, SS, N, TK, TL, AT⟩ ⟨0, 0, ⟨#[]⟩, 0, 0, 0, 0, none, 0, 0, AT⟩ (n := w1.heap.size) rfl
      go_wp2_with (fail)
      refine (fail_ex I.out.g.ps 12 (by decide)).mono ?_
      rintro _ w3 @⟨_, _, x3, g3, rfl, hee⟩
      have I3 : Aside _ := I.out.kb g3 hpl
      obtain ⟨hxc, hxf⟩ := row_cells I3.out.a
      obtain ⟨hrc3, hrf3⟩ := row_cells I3.out.r
      simp only [ER.row] at hxc
      simp only [zrow] at hrc3
      obtain ⟨t, ht, hct⟩ := IsExp.leaf (fun b => w.heap.size ≤ b ∧ b ≠ w.heap.size) w3 ⟨0, 0, ⟨#[]⟩, 0, 0, 0, 0, none, 0, 0, AT⟩ rfl
      have E : Aside _ := I3.out.fin hpl htl (t := t) ht (fun h => absurd h hee)
      clear ht hrc hrf
      go_wp2
      exact ret_exp (p := ⟨0, 0, ⟨#[]⟩, 0, 0, 0, 0, none, 0, 0, AT⟩) (r := w.heap.size) rfl (by rfl) E.out.1 rfl (.mk E.out.2.1 E.out.2.2)
end Go.Pa

namespace Go.Pa
open Go Go.RowKit Go.Proofs

/-- The slice v holds expressions of c parts in all. -/
inductive KV (B : Nat → Prop) (w : World) (v : Value) (c : Nat) : Prop
  | mk (k : Nat) (ps : Nat → ER) (ts : Nat → Tree) (hk : KidsAt B w v k ps) (hr : ∀ i, i < k → IsExp B w (ps i) (ts i)) (hc : sumN (fun i => (ts i).cnt) k = c)
section
variable {B B' : Nat → Prop} {w w' : World} {v : Value} {c : Nat}
theorem KV.frame (h : KV B w v c) (hs : ∀ b, B b → b < w.heap.size → w'.heap[b]? = w.heap[b]?) : KV B w' v c := by
  obtain ⟨k, ps, ts, hk, hr, hc⟩ := h
  exact .mk k ps ts (hk.frame hs) (fun i hi => (hr i hi).frame hs) hc
theorem KV.mono (h : KV B w v c) (hs : ∀ b, B b → B' b) : KV B' w v c := by
  obtain ⟨k, ps, ts, hk, hr, hc⟩ := h
  exact .mk k ps ts (hk.mono hs) (fun i hi => (hr i hi).mono hs) hc
theorem KV.nil (B : Nat → Prop) (w : World) : KV B w (.slice none 0 0) 0 := .mk 0 (fun _ => ER.zero) (fun _ => .none) (.inl ⟨rfl, _, _, rfl⟩) (fun i hi => absurd hi (Nat.not_lt_zero i)) rfl
theorem KV.exp {q : ER} (h : KV B w q.ks c) : ∃ t, IsExp B w q t ∧ t.cnt = 1 + c := by
  obtain ⟨k, ps, ts, hk, hr, hc⟩ := h
  exact ⟨_, .mk q k ps ts hk hr, by simp only [Tree.cnt, hc]⟩
theorem KV.one {p : ER} {t : Tree} (h : IsExp B w' p t) {b : Nat} (hb : w'.heap[b]? = some (.cells p.row 45 (0, 0))) (hB : B b) : KV B w' (.slice (some ⟨b, 0, none⟩) 1 1) t.cnt :=
  .mk 1 (fun _ => p) (fun _ => t) (kids_one hb hB 1) (fun _ _ => h) (by simp [sumN])
theorem KV.two {p q : ER} {t u : Tree} (h : IsExp B w' p t) (h2 : IsExp B w' q u) {b : Nat} (hb : w'.heap[b]? = some (.cells (p.row ++ q.row) 45 (0, 0))) (hB : B b) : KV B w' (.slice (some ⟨b, 0, none⟩) 2 2) (t.cnt + u.cnt) :=
  .mk 2 (fun i => if i = 0 then p else q) (fun i => if i = 0 then t else u) (kids_two hb hB 2) (fun i hi => by
    rcases (by omega : i = 0 ∨ i = 1) with rfl | rfl
    · exact h
    · exact h2) (by simp [sumN])
theorem KV.three {p q r : ER} {t u s : Tree} (h : IsExp B w' p t) (h2 : IsExp B w' q u) (h3 : IsExp B w' r s) {b : Nat} (hb : w'.heap[b]? = some (.cells (p.row ++ q.row ++ r.row) 45 (0, 0))) (hB : B b) : KV B w' (.slice (some ⟨b, 0, none⟩) 3 3) (t.cnt + u.cnt + s.cnt) :=
  .mk 3 (fun i => if i = 0 then p else if i = 1 then q else r) (fun i => if i = 0 then t else if i = 1 then u else s) (kids_three hb hB 3) (fun i hi => by
    rcases (by omega : i = 0 ∨ i = 1 ∨ i = 2) with rfl | rfl | rfl
    · exact h
    · exact h2
    · exact h3) (by simp [sumN])
end
theorem KidsO.kv {lo : Nat} {w : World} {v : Value} {m : Nat} {ps : Nat → ER} {ts : Nat → Tree} (h : KidsO lo w v m ps ts) : KV (lo ≤ ·) w v (sumN (fun i => (ts i).cnt) m) :=
  .mk m ps ts h.kids (fun i hi => (h.e i hi).mono fun _ hb => hb.1) rfl

/-- While an expression is built; its kids have c parts. -/
structure WdK (S : Src) (w : World) (x : St) (rb tb xb : Nat) (wr : World) (xc : St) (tk : Tk) (q : ER) (c : Nat) : Prop where
  i : WdI S w x rb tb xb wr xc tk q
  k : KV (fun b => w.heap.size ≤ b ∧ b ≠ rb ∧ b ≠ tb ∧ b ≠ xb) wr q.ks c
  c : xc.e = 0 → x.at' + 1 + c ≤ xc.at'
section
variable {S : Src} {w : World} {x : St} {rb tb xb : Nat} {wr w2 : World} {xc x2 : St} {tk : Tk} {q : ER} {c : Nat}
theorem WdK.kb (h : WdK S w x rb tb xb wr xc tk q c) (g : Go1 S wr xc w2 x2) (hpl : S.pb < w.heap.size) : WdK S w x rb tb xb w2 x2 tk q c :=
  ⟨h.i.kb g hpl, h.k.frame fun b hb hl => g.kb.same b hl (by omega), fun e => Nat.le_trans (h.c (er0 g e)) g.le⟩
theorem WdK.alloc (h : WdK S w x rb tb xb wr xc tk q c) (o : Obj) : WdK S w x rb tb xb (wr.alloc o) xc tk q c := ⟨h.i.alloc o, h.k.frame fun _ _ hl => Below.heap_alloc _ _ _ hl, h.c⟩
theorem WdK.drew (h : WdK S w x rb tb xb wr xc tk q c) : WdK S w x rb tb xb wr.drew xc tk q c := ⟨h.i.drew, h.k.frame fun _ _ _ => rfl, h.c⟩
theorem WdK.set (h : WdK S w x rb tb xb wr xc tk q c) (hpl : S.pb < w.heap.size) (htl : S.tb < w.heap.size) (j : Nat) (u : Value) (q' : ER) (hq : q.row.setIfInBounds j u = q'.row) (hk : q'.ks = q.ks) : WdK S w x rb tb xb (wr.setCell ⟨xb, j, none⟩ u) xc tk q' c :=
  ⟨h.i.set hpl htl j u q' hq, by rw [hk]; exact h.k.frame fun b hb _ => Below.heap_setCell _ _ _ _ hb.2.2.2, h.c⟩
/-- The kids are set. -/
theorem WdK.kids (h : WdK S w x rb tb xb wr xc tk q 0) (g : Go1 S wr xc w2 x2) (v : Value) (q' : ER) (hk : q'.ks = v) {W : World} (hW : WdI S w x rb tb xb W x2 tk q')
    {c' : Nat} (hv : KV (wr.heap.size ≤ ·) W v c') (hc : x2.e = 0 → xc.at' + c' ≤ x2.at') : WdK S w x rb tb xb W x2 tk q' c' :=
  ⟨hW, by
    rw [hk]
    have h1 := lt_of_block h.i.r
    have h2 := lt_of_block h.i.t
    have h3 := lt_of_block h.i.a
    have h4 := h.i.hr
    exact hv.mono fun b hb => by refine ⟨?_, ?_, ?_, ?_⟩ <;> omega, fun e => by have := hc e; have := h.c (er0 g e); omega⟩
/-- One expression has been read: it is the kid. -/
theorem WdK.one (h : WdK S w x rb tb xb wr xc tk q 0) (g : Go1 S wr xc w2 x2) (hpl : S.pb < w.heap.size) (htl : S.tb < w.heap.size) {p : ER} {t : Tree} (hE : IsExp (wr.heap.size ≤ ·) w2 p t) (hpr : x2.e = 0 → xc.at' + t.cnt ≤ x2.at') (q' : ER)
    (hq : q.row.setIfInBounds 7 (.slice (some ⟨w2.heap.size, 0, none⟩) 1 1) = q'.row) (hk : q'.ks = .slice (some ⟨w2.heap.size, 0, none⟩) 1 1) :
    WdK S w x rb tb xb ((w2.setCell ⟨xb, 7, none⟩ (.slice (some ⟨w2.heap.size, 0, none⟩) 1 1)).alloc (.cells p.row 45)) x2 tk q' t.cnt := by
  have h3 := lt_of_block h.i.a
  have hs := g.kb.size
  refine h.kids g _ q' hk (((h.i.kb g hpl).set hpl htl 7 _ q' hq).alloc _) (KV.one ?_ (alloc_at (by simp)) (by omega)) hpr
  exact (hE.setCell (a := ⟨xb, 7, none⟩) (fun b hb => by show b ≠ xb; omega) _).alloc _
/-- A list has been read. -/
theorem WdK.list (h : WdK S w x rb tb xb wr xc tk q 0) (g : Go1 S wr xc w2 x2) (hpl : S.pb < w.heap.size) (htl : S.tb < w.heap.size) {v : Value} {m : Nat} {ps : Nat → ER} {ts : Nat → Tree} (hK : KidsO wr.heap.size w2 v m ps ts) (hpr : x2.e = 0 → xc.at' + sumN (fun i => (ts i).cnt) m ≤ x2.at') (q' : ER)
    (hq : q.row.setIfInBounds 7 v = q'.row) (hk : q'.ks = v) : WdK S w x rb tb xb (w2.setCell ⟨xb, 7, none⟩ v) x2 tk q' (sumN (fun i => (ts i).cnt) m) := by
  have h3 := lt_of_block h.i.a
  have hs := g.kb.size
  refine h.kids g _ q' hk ((h.i.kb g hpl).set hpl htl 7 _ q' hq) ?_ hpr
  exact hK.kv.frame fun b hb _ => Below.heap_setCell _ _ _ _ (by show b ≠ xb; omega)
/-- The end. -/
theorem WdK.fin (h : WdK S w x rb tb xb wr xc tk q c) (hpl : S.pb < w.heap.size) (htl : S.tb < w.heap.size) :
    (put9 wr rb q).heap[rb]? = some (.cells q.row 45 (0, 0)) ∧ Go1 S w x (put9 wr rb q) xc ∧ ExpP (w.heap.size ≤ ·) (put9 wr rb q) x xc (.agg q.row) := by
  obtain ⟨t, ht, hct⟩ := h.k.exp
  exact h.i.fin hpl htl (ht.mono fun b hb => ⟨hb.1, hb.2.1⟩) fun e => by have := h.c e; omega
end

/-- word's three blocks. -/
theorem WdK.three {S : Src} {w w1 : World} {x x1 : St} (g : Go1 S w x w1 x1) (hn : w1.heap.size = w.heap.size) (tk : Tk) (q : ER) (hq : q.ks = .slice none 0 0) (hc : x1.e = 0 → x.at' + 1 ≤ x1.at') :
    WdK S w x (w.heap.size + 1) w.heap.size (w.heap.size + 2) (((w1.alloc (.cells tk.row 86)).alloc (.cells zrow 45)).alloc (.cells q.row 45)) x1 tk q 0 :=
  ⟨⟨⟨((g.ps.alloc _).alloc _).alloc _, ((g.kb.alloc _).alloc _).alloc _, g.le, g.er⟩, by omega, by omega, by omega, by omega, by omega,
    (Below.heap_alloc _ _ _ (by simp; omega)).trans (alloc_at (by simp [hn])), (Below.heap_alloc _ _ _ (by simp; omega)).trans ((Below.heap_alloc _ _ _ (by simp; omega)).trans (alloc_at hn)), alloc_at (by simp; omega)⟩,
    by rw [hq]; exact KV.nil _ _, hc⟩

/-- An edge of a clock. -/
inductive EdgeV : Value → Prop
  | mk (s : ByteArray) (b : Bool) : EdgeV (.agg #[.string s, .bool b])

set_option maxHeartbeats 4000000 in
set_option maxRecDepth 100000 in
theorem edge_in {S : Src} {w : World} {x : St} (hP : PS S w x) :
    Calls Try.prog 78 #[.pointer (some ⟨S.pb, 0, none⟩)] w (Ret S w x fun v _ _ => EdgeV v) := by
  have hpl := hP.plt
  have htl := hP.tlt
  go_enter Try.func78, Try.ntmps78
  go_wp2_with (fail)
  refine (maybe_in (hP.alloc _) _).mono ?_
  rintro _ w1 @⟨_, _, x1, g1, hb⟩
  obtain ⟨b1, rfl⟩ : ∃ b, _ = Value.bool b := by rcases hb with ⟨hb, _⟩ | ⟨hb, _⟩ <;> exact ⟨_, hb⟩
  clear hb
  have hr1 := g1.kb.block (alloc_self w _) (by omega)
  go_wp2_with (fail)
  refine (name_in g1.ps).mono ?_
  rintro _ w2 @⟨_, _, x2, g2, ⟨s, rfl⟩, _⟩
  have hr2 := g2.kb.block hr1 (by omega)
  obtain ⟨hrc, hrf⟩ := row_cells hr2
  have hlt := lt_of_block hr2
  have hg : Go1 S w x w2 x2 := ⟨g2.ps, (((KB.refl S w).alloc _).trans g1.kb).trans g2.kb, Nat.le_trans g1.le g2.le, fun h => g2.er (g1.er h)⟩
  go_wp2
  have hrow : ((w2.setCell ⟨w.heap.size, 0, none⟩ (.string s)).setCell ⟨w.heap.size, 1, none⟩ (.bool (!b1))).heap[w.heap.size]? = some (.cells #[.string s, .bool (!b1)] 96 (0, 0)) := by
    rw [heap_setCell_self (heap_setCell_self hr2 _) _]
    rfl
  refine bodyPost_ret (results_cell_row rfl _ _ w.heap.size 96 _ _ _ (by rfl) hrow Try.underlying96 rfl (by kernel_rfl)) rfl ?_
  exact .mk ⟨(hg.ps.setNew (by show w.heap.size ≠ S.pb; omega) (by show w.heap.size ≠ S.tb; omega) _).setNew (by show w.heap.size ≠ S.pb; omega) (by show w.heap.size ≠ S.tb; omega) _, (hg.kb.setCell (.inl (Nat.le_refl _)) _).setCell (.inl (Nat.le_refl _)) _, hg.le, hg.er⟩ (.mk s (!b1))
end Go.Pa
