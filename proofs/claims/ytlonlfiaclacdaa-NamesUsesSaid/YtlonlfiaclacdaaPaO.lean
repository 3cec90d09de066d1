/-
  trans (own work).
-/
import Derived.Test.YtlonlfiaclacdaaPaN
namespace Go.Pa
open Go Go.RowKit Go.Proofs

theorem info127 : (Try.prog.info? 127).map (fun i => (i.zero, i.size, i.bytes)) = some (some (.agg #[.int .i64 0, .int .i64 0, .string ⟨#[]⟩, .int .i64 0, .int .i64 0, .int .i64 0, .int .i64 0, .slice none 0 0, .int .i64 0, .string ⟨#[]⟩, .bool false, .int .i64 0]), 12, 128) := by kernel_rfl

theorem arr12 {r : Array Value} (hs : r.size = 12) : ∃ c0 c1 c2 c3 c4 c5 c6 c7 c8 c9 c10 c11, r = #[c0, c1, c2, c3, c4, c5, c6, c7, c8, c9, c10, c11] := by
  obtain ⟨l⟩ := r
  match l, hs with
  | [c0, c1, c2, c3, c4, c5, c6, c7, c8, c9, c10, c11], _ => exact ⟨c0, c1, c2, c3, c4, c5, c6, c7, c8, c9, c10, c11, rfl⟩
/-- In the loop of trans. -/
structure TrI (S : Src) (w : World) (x : St) (wr : World) (xc : St) (v : Value) (n : Nat) : Prop where
  g : Go1 S w x wr xc
  l : PL 127 12 w.heap.size wr n v
theorem TrI.step {S : Src} {w : World} {x : St} {wr w2 : World} {xc x2 : St} {v : Value} {n : Nat} (h : TrI S w x wr xc v n) (g : Go1 S wr xc w2 x2) (hp : S.pb < w.heap.size) : TrI S w x w2 x2 v n :=
  ⟨h.g.trans g, h.l.frame fun b hb hlt => g.kb.same b hlt (by omega)⟩

/-- With the transition that is read. -/
structure TrR (S : Src) (w : World) (x : St) (wr : World) (xc : St) (v : Value) (n b : Nat) (r : Array Value) : Prop where
  i : TrI S w x wr xc v n
  hb : w.heap.size ≤ b
  ob : ∀ z, v.ownBlock = some z → z ≠ b
  blk : wr.heap[b]? = some (.cells r 127 (0, 0))
section
variable {S : Src} {w : World} {x : St} {wr w2 : World} {xc x2 : St} {v : Value} {n b : Nat} {r : Array Value}
theorem TrR.step (h : TrR S w x wr xc v n b r) (g : Go1 S wr xc w2 x2) (hp : S.pb < w.heap.size) : TrR S w x w2 x2 v n b r := ⟨h.i.step g hp, h.hb, h.ob, g.kb.block h.blk (by have := h.hb; omega)⟩
theorem TrR.set (h : TrR S w x wr xc v n b r) (hp : S.pb < w.heap.size) (ht : S.tb < w.heap.size) (j : Nat) (u : Value) : TrR S w x (wr.setCell ⟨b, j, none⟩ u) xc v n b (r.setIfInBounds j u) :=
  ⟨⟨⟨h.i.g.ps.setNew (by have := h.hb; show b ≠ S.pb; omega) (by have := h.hb; show b ≠ S.tb; omega) u, h.i.g.kb.setCell (.inl h.hb) u, h.i.g.le, h.i.g.er⟩, h.i.l.frame' fun z hz => Below.heap_setCell _ _ _ _ (h.ob z hz)⟩, h.hb, h.ob, heap_setCell_self h.blk u⟩
theorem TrR.new (h : TrI S w x wr xc v n) (r : Array Value) : TrR S w x (wr.alloc (.cells r 127)) xc v n wr.heap.size r :=
  ⟨⟨⟨h.g.ps.alloc _, h.g.kb.alloc _, h.g.le, h.g.er⟩, h.l.frame fun _ _ hl => Below.heap_alloc _ _ _ hl⟩, h.g.kb.size, fun z hz => by obtain ⟨ys, hys⟩ := h.l.own; have := (hys.lt z hz).2; omega, alloc_self wr _⟩
/-- The nine cells of the condition are written. -/
theorem TrR.cond (h : TrR S w x wr xc v n b r) (hp : S.pb < w.heap.size) (ht : S.tb < w.heap.size) (p : ER) (hs : r.size = 12) {a b1 c : Value} (h9 : r[9]? = some a) (h10 : r[10]? = some b1) (h11 : r[11]? = some c) :
    TrR S w x (put9 wr b p) xc v n b #[.int .i64 p.f, .int .i64 p.s, .string p.nm, .int .i64 p.tk, .int .i64 p.tl, .int .i64 p.n, .int .i64 p.m, .slice p.ka p.kl p.kc, .int .i64 p.at', a, b1, c] := by
  obtain ⟨c0, c1, c2, c3, c4, c5, c6, c7, c8, c9, c10, c11, rfl⟩ := arr12 hs
  simp at h9 h10 h11
  subst h9 h10 h11
  have H := ((((((((h.set hp ht 0 (.int .i64 p.f)).set hp ht 1 (.int .i64 p.s)).set hp ht 2 (.string p.nm)).set hp ht 3 (.int .i64 p.tk)).set hp ht 4 (.int .i64 p.tl)).set hp ht 5 (.int .i64 p.n)).set hp ht 6 (.int .i64 p.m)).set hp ht 7 (.slice p.ka p.kl p.kc)).set hp ht 8 (.int .i64 p.at')
  simp only [List.setIfInBounds_toArray, List.set_cons_succ, List.set_cons_zero] at H
  exact H
end

set_option maxHeartbeats 16000000 in
set_option maxRecDepth 100000 in
theorem trans_in {S : Src} {w : World} {x : St} (hP : PS S w x) (s : ByteArray) : Calls Try.prog 81 #[.pointer (some ⟨S.pb, 0, none⟩), .string s] w (Ret S w x fun v _ _ => SlV v) := by
  have hpl := hP.plt
  have htl := hP.tlt
  have hlt0 := hP.lt
  have hcap := S.hlen
  have hf4 := field86_4
  obtain ⟨i0, hi, hz0, hz1, hz2⟩ := info_parts info127
  have A0 : Aside (TrI S w x w x (.slice none 0 0) 0) := ⟨Go1.refl hP, PL.nil 127 12 _ _⟩
  go_enter Try.func81, Try.ntmps81
  go_wp2
  go_loopg [5, 6, 7, 8] (S.len) (fun kx s5 s6 s7 s8 wr => ∃ (xc : St) (n : Nat), S.len - xc.at' ≤ kx ∧ xc.at' < S.len ∧ n ≤ 16 ∧ Aside (TrI S w x wr xc s5 n))
  case atStart => exact ⟨x, 0, by omega, hlt0, by omega, A0⟩
  case round =>
    clear A0
    obtain ⟨xc, n, hkx, hlt, hn, A⟩ := hrel
    obtain ⟨a0, cp, rfl⟩ := A.out.l.form
    go_wp2_with (fail)
    refine (is_ex A.out.g.ps _).mono ?_
    rintro _ w1 @⟨_, _, x1, g1, rfl, ⟨rfl, hb4, hb42⟩ | rfl⟩
    · have A1 : Aside _ := A.out.step g1 hpl
      go_wp2_with (fail)
      refine (full_in A1.out.g.ps _ _).mono ?_
      rintro _ w2 @⟨_, _, x2, g2, ⟨rfl, hee⟩ | ⟨rfl, hlm, rfl⟩⟩
      · have A2 : Aside _ := A1.out.step g2 hpl
        go_wp2
        go_ret
        exact .mk A2.out.g (.mk _ _ _)
      · have A2 : Aside _ := A1.out.step g2 hpl
        have hn16 : n < 16 := by omega
        clear hlm
        have c1 := A2.out.g.ps.c1
        have f1 := A2.out.g.ps.fz 1
        have hpl2 := A2.out.g.ps.plt
        have hp := A2.out.g.ps.set1 hb42
        rw [show ((x2.at' + 1 : Nat) : Int) = (x2.at' : Int) + 1 by omega] at hp
        have A3 : Aside _ := A2.out.step (w2 := w2.setCell ⟨S.pb, 1, none⟩ (.int .i64 ((x2.at' : Int) + 1))) ⟨hp, (KB.refl S w2).setCell (.inr rfl) _, by simp, by simp⟩ hpl
        clear hp
        go_wp2_with (fail)
        refine (tok_ex A3.out.g.ps).mono ?_
        rintro e w4 ⟨⟨t4, rfl⟩, h4, k4⟩
        dsimp only [Tk.val]
        have A4 : Aside _ := A3.out.step ⟨h4, k4, Nat.le_refl _, id⟩ hpl
        have R4 : Aside _ := TrR.new A4.out #[.int .i64 0, .int .i64 0, .string ⟨#[]⟩, .int .i64 0, .int .i64 0, .int .i64 0, .int .i64 0, .slice none 0 0, .int .i64 0, .string ⟨#[]⟩, .bool false, .int .i64 t4.at']
        go_wp2_with (fail)
        refine (exp_any R4.out.i.g.ps).mono ?_
        rintro _ w5 @⟨_, _, x5, g5, ⟨p, t, _, _⟩⟩
        have R5 : Aside _ := R4.out.step g5 hpl
        have hle5 : x2.at' + 1 ≤ x5.at' := g5.le
        obtain ⟨hbc, hbf⟩ := row_cells R5.out.blk
        have hbl := lt_of_block R5.out.blk
        have R6 : Aside _ := R5.out.cond hpl htl p rfl rfl rfl rfl
        simp only [ER.row]
        go_wp2_with (fail)
        refine (maybe_in R6.out.i.g.ps _).mono ?_
        rintro _ w7 @⟨_, _, x7, g7, hbb⟩
        obtain ⟨b7, rfl⟩ : ∃ b, _ = Value.bool b := by rcases hbb with ⟨hb, _⟩ | ⟨hb, _⟩ <;> exact ⟨_, hb⟩
        clear hbb
        have R7 : Aside _ := R6.out.step g7 hpl
        have hle7 := g7.le
        obtain ⟨hbc7, hbf7⟩ := row_cells R7.out.blk
        have hbl7 := lt_of_block R7.out.blk
        have R8 : Aside _ := R7.out.set hpl htl 10 (.bool b7)
        clear hbc hbf
        cases b7
        · go_wp2_with (fail)
          refine (take_in R8.out.i.g.ps _).mono ?_
          rintro _ w9 @⟨_, _, x9, g9, rfl, _⟩
          have R9 : Aside _ := R8.out.step g9 hpl
          have hle9 := g9.le
          clear hbc7 hbf7
          go_wp2_with (fail)
          refine (name_in R9.out.i.g.ps).mono ?_
          rintro _ wa @⟨_, _, xa, ga, ⟨nm, rfl⟩, _⟩
          have Ra : Aside _ := R9.out.step ga hpl
          have hlea := ga.le
          obtain ⟨hbca, hbfa⟩ := row_cells Ra.out.blk
          have hbla := lt_of_block Ra.out.blk
          have Rb : Aside _ := Ra.out.set hpl htl 9 (.string nm)
          try clear hbc7 hbf7
          simp only [List.setIfInBounds_toArray, List.set_cons_succ, List.set_cons_zero] at hbca
          go_wp2_with (fail)
          refine (take_in Rb.out.i.g.ps _).mono ?_
          rintro _ wc @⟨_, _, xc2, gc, rfl, _⟩
          have Rc : Aside _ := Rb.out.step gc hpl
          have hlec := gc.le
          have hltc := gc.ps.lt
          obtain ⟨hbcc, hbfc⟩ := row_cells Rc.out.blk
          have hblc := lt_of_block Rc.out.blk
          simp only [List.setIfInBounds_toArray, List.set_cons_succ, List.set_cons_zero] at hbcc
          clear hbca hbfa
          obtain ⟨xs, hxs⟩ := Rc.out.i.l.own
          have HX : Aside (wc.ownsRow w.heap.size 127 12 (.slice a0 n cp) n xs) := hxs
          have hlb : w.heap.size ≤ wc.heap.size := Rc.out.i.g.kb.size
          clear hxs
          go_wp2_with (first | (at_builtin; refine wpList_append_lies _ rfl _ _ 97 rfl w.heap.size 127 i0 _ 12 128 Try.underlying97 hi hz0 hz1 hz2 rfl (by decide) _ n xs rfl (World.ownsRow.alloc HX.out _) ⟨wc.heap.size, 0, none⟩ 1 1 [.int .i64 p.f, .int .i64 p.s, .string p.nm, .int .i64 p.tk, .int .i64 p.tl, .int .i64 p.n, .int .i64 p.m, .slice p.ka p.kl p.kc, .int .i64 p.at', .string nm, .bool false, .int .i64 t4.at'] rfl rfl ?c1 ?c0 (by decide) ?c2 ?c3 ?c4 wc.heap.size.succ ?c5 ?_))
          case c0 => intro u hu; simp at hu; rcases hu with rfl | rfl | rfl | rfl | rfl | rfl | rfl | rfl | rfl | rfl | rfl | rfl <;> rfl
          case c1 => exact World.news_of_block (alloc_self wc _)
          case c2 => unfold maxLen; omega
          case c3 => omega
          case c4 => simp; omega
          case c5 => simp
          intro gk cap wd hown hgrow hat hltd
          have Ad : Aside (TrI S w x wd xc2 (.slice (some ⟨gk, 0, none⟩) (n + 1) cap) (n + 1)) :=
            ⟨(Go1.refl hP).transL ((((Rc.out.i.g.toL (Nat.le_refl _)).alloc (Nat.le_refl _) _).grown (Nat.le_refl _) hpl htl hgrow fun z hz => (World.ownsRow.lt HX.out z hz).1)), .mk _ _ hown⟩
          clear hown hgrow hat HX
          go_wp2
          go_roundg (S.len - xc2.at')
          case measure => omega
          case rel => exact ⟨xc2, n + 1, Nat.le_refl _, hltc, by omega, Ad⟩
        · go_wp2_with (fail)
          refine (name_in R8.out.i.g.ps).mono ?_
          rintro _ wa @⟨_, _, xa, ga, ⟨nm, rfl⟩, _⟩
          have Ra : Aside _ := R8.out.step ga hpl
          have hlea := ga.le
          obtain ⟨hbca, hbfa⟩ := row_cells Ra.out.blk
          have hbla := lt_of_block Ra.out.blk
          have Rb : Aside _ := Ra.out.set hpl htl 9 (.string nm)
          try clear hbc7 hbf7
          simp only [List.setIfInBounds_toArray, List.set_cons_succ, List.set_cons_zero] at hbca
          go_wp2_with (fail)
          refine (take_in Rb.out.i.g.ps _).mono ?_
          rintro _ wc @⟨_, _, xc2, gc, rfl, _⟩
          have Rc : Aside _ := Rb.out.step gc hpl
          have hlec := gc.le
          have hltc := gc.ps.lt
          obtain ⟨hbcc, hbfc⟩ := row_cells Rc.out.blk
          have hblc := lt_of_block Rc.out.blk
          simp only [List.setIfInBounds_toArray, List.set_cons_succ, List.set_cons_zero] at hbcc
          clear hbca hbfa
          obtain ⟨xs, hxs⟩ := Rc.out.i.l.own
          have HX : Aside (wc.ownsRow w.heap.size 127 12 (.slice a0 n cp) n xs) := hxs
          have hlb : w.heap.size ≤ wc.heap.size := Rc.out.i.g.kb.size
          clear hxs
          go_wp2_with (first | (at_builtin; refine wpList_append_lies _ rfl _ _ 97 rfl w.heap.size 127 i0 _ 12 128 Try.underlying97 hi hz0 hz1 hz2 rfl (by decide) _ n xs rfl (World.ownsRow.alloc HX.out _) ⟨wc.heap.size, 0, none⟩ 1 1 [.int .i64 p.f, .int .i64 p.s, .string p.nm, .int .i64 p.tk, .int .i64 p.tl, .int .i64 p.n, .int .i64 p.m, .slice p.ka p.kl p.kc, .int .i64 p.at', .string nm, .bool true, .int .i64 t4.at'] rfl rfl ?c1 ?c0 (by decide) ?c2 ?c3 ?c4 wc.heap.size.succ ?c5 ?_))
          case c0 => intro u hu; simp at hu; rcases hu with rfl | rfl | rfl | rfl | rfl | rfl | rfl | rfl | rfl | rfl | rfl | rfl <;> rfl
          case c1 => exact World.news_of_block (alloc_self wc _)
          case c2 => unfold maxLen; omega
          case c3 => omega
          case c4 => simp; omega
          case c5 => simp
          intro gk cap wd hown hgrow hat hltd
          have Ad : Aside (TrI S w x wd xc2 (.slice (some ⟨gk, 0, none⟩) (n + 1) cap) (n + 1)) :=
            ⟨(Go1.refl hP).transL ((((Rc.out.i.g.toL (Nat.le_refl _)).alloc (Nat.le_refl _) _).grown (Nat.le_refl _) hpl htl hgrow fun z hz => (World.ownsRow.lt HX.out z hz).1)), .mk _ _ hown⟩
          clear hown hgrow hat HX
          go_wp2
          go_roundg (S.len - xc2.at')
          case measure => omega
          case rel => exact ⟨xc2, n + 1, Nat.le_refl _, hltc, by omega, Ad⟩
    · have A1 : Aside _ := A.out.step g1 hpl
      go_wp2
      go_ret
      exact .mk A1.out.g (.mk _ _ _)
end Go.Pa

namespace Go.Pa
open Go Go.RowKit Go.Proofs

/-- A record that is built in the block b; the result's block is rb. -/
structure Rec (T : TypeId) (S : Src) (w : World) (x : St) (rb b : Nat) (z : Array Value) (wr : World) (xc : St) (r : Array Value) : Prop where
  g : Go1 S w x wr xc
  hr : w.heap.size ≤ rb
  hb : w.heap.size ≤ b
  ne : rb ≠ b
  r0 : wr.heap[rb]? = some (.cells z T (0, 0))
  a : wr.heap[b]? = some (.cells r T (0, 0))
section
variable {T : TypeId} {S : Src} {w : World} {x : St} {rb b : Nat} {z r : Array Value} {wr w2 : World} {xc x2 : St}
theorem Rec.step (h : Rec T S w x rb b z wr xc r) (g : Go1 S wr xc w2 x2) (hp : S.pb < w.heap.size) : Rec T S w x rb b z w2 x2 r :=
  ⟨h.g.trans g, h.hr, h.hb, h.ne, g.kb.block h.r0 (by have := h.hr; omega), g.kb.block h.a (by have := h.hb; omega)⟩
theorem Rec.set (h : Rec T S w x rb b z wr xc r) (hp : S.pb < w.heap.size) (ht : S.tb < w.heap.size) (j : Nat) (u : Value) (r' : Array Value) (hr : r.setIfInBounds j u = r') : Rec T S w x rb b z (wr.setCell ⟨b, j, none⟩ u) xc r' :=
  ⟨⟨h.g.ps.setNew (by have := h.hb; show b ≠ S.pb; omega) (by have := h.hb; show b ≠ S.tb; omega) u, h.g.kb.setCell (.inl h.hb) u, h.g.le, h.g.er⟩, h.hr, h.hb, h.ne, (Below.heap_setCell _ _ _ _ h.ne).trans h.r0, by rw [heap_setCell_self h.a u, hr]⟩
theorem Rec.alloc (h : Rec T S w x rb b z wr xc r) (o : Obj) : Rec T S w x rb b z (wr.alloc o) xc r :=
  ⟨⟨h.g.ps.alloc o, h.g.kb.alloc o, h.g.le, h.g.er⟩, h.hr, h.hb, h.ne, (Below.heap_alloc _ _ _ (lt_of_block h.r0)).trans h.r0, (Below.heap_alloc _ _ _ (lt_of_block h.a)).trans h.a⟩
/-- A cell of the result is written. -/
theorem Rec.res (h : Rec T S w x rb b z wr xc r) (hp : S.pb < w.heap.size) (ht : S.tb < w.heap.size) (j : Nat) (u : Value) (z' : Array Value) (hz : z.setIfInBounds j u = z') : Rec T S w x rb b z' (wr.setCell ⟨rb, j, none⟩ u) xc r :=
  ⟨⟨h.g.ps.setNew (by have := h.hr; show rb ≠ S.pb; omega) (by have := h.hr; show rb ≠ S.tb; omega) u, h.g.kb.setCell (.inl h.hr) u, h.g.le, h.g.er⟩, h.hr, h.hb, h.ne, by rw [heap_setCell_self h.r0 u, hz], (Below.heap_setCell _ _ _ _ (Ne.symm h.ne)).trans h.a⟩
theorem Rec.new {T : TypeId} {S : Src} {w w1 : World} {x x1 : St} {z : Array Value} (g : Go1 S w x w1 x1) (hr : w1.heap[w.heap.size]? = some (.cells z T (0, 0))) (r : Array Value) : Rec T S w x w.heap.size w1.heap.size z (w1.alloc (.cells r T)) x1 r :=
  have hl := lt_of_block hr
  ⟨⟨g.ps.alloc _, g.kb.alloc _, g.le, g.er⟩, Nat.le_refl _, g.kb.size, by omega, (Below.heap_alloc _ _ _ hl).trans hr, alloc_self w1 _⟩
end

/-- A list of items. -/
inductive ItemsV (E : Prop) (B : Nat → Prop) (w : World) : Value → Prop
  | mk (a : Option Addr) (m c : Nat) (hm : m ≤ maxLen) (h : ∀ i, i < m → ∃ b, a = some ⟨b, 0, none⟩ ∧ B b ∧ ∃ p t, IsExp B w p t ∧ (E → t.cnt ≤ 20000) ∧ ∀ j, j < 9 → w.cell? ⟨b, i * 12 + 1 + j, none⟩ = p.row[j]?) : ItemsV E B w (.slice a m c)
theorem ItemsV.frame {E : Prop} {B : Nat → Prop} {w w' : World} {v : Value} (h : ItemsV E B w v) (hs : ∀ b, B b → b < w.heap.size → w'.heap[b]? = w.heap[b]?) : ItemsV E B w' v := by
  obtain ⟨a, m, c, hm, h⟩ := h
  refine .mk a m c hm fun i hi => ?_
  obtain ⟨b, h1, h2, p, t, h3, h4, h5⟩ := h i hi
  have hlt : b < w.heap.size := lt_of_cell ((h5 0 (by omega)).trans rfl)
  exact ⟨b, h1, h2, p, t, h3.frame hs, h4, fun j hj => (World.cell?_of_block (w := w) (hs b h2 hlt)).trans (h5 j hj)⟩
theorem ItemsV.mono {E E' : Prop} {B B' : Nat → Prop} {w : World} {v : Value} (h : ItemsV E B w v) (hs : ∀ b, B b → B' b) (he : E' → E) : ItemsV E' B' w v := by
  obtain ⟨a, m, c, hm, h⟩ := h
  refine .mk a m c hm fun i hi => ?_
  obtain ⟨b, h1, h2, p, t, h3, h4, h5⟩ := h i hi
  exact ⟨b, h1, hs b h2, p, t, h3.mono hs, fun e => h4 (he e), h5⟩

/-- items, of no more than k tokens. -/
def CItems (k : Nat) : Prop := ∀ (S : Src) (w : World) (x : St), PS S w x → S.len - x.at' ≤ k →
  Calls Try.prog 56 #[.pointer (some ⟨S.pb, 0, none⟩)] w (Ret S w x fun v w' x' => ItemsV (x'.e = 0) (w.heap.size ≤ ·) w' v)

/-- A state. -/
inductive StateV : Value → Prop
  | mk (s : ByteArray) (a1 a2 a3 a4 : Option Addr) (n1 n2 n3 n4 c1 c2 c3 c4 : Nat) (n : Int) : StateV (.agg #[.string s, .slice a1 n1 c1, .slice a2 n2 c2, .slice a3 n3 c3, .slice a4 n4 c4, .int .i64 n])
def CState (k : Nat) : Prop := ∀ (S : Src) (w : World) (x : St), PS S w x → S.len - x.at' ≤ k →
  Calls Try.prog 79 #[.pointer (some ⟨S.pb, 0, none⟩)] w (Ret S w x fun v _ x' => StateV v ∧ Prog x x')

set_option maxHeartbeats 16000000 in
set_option maxRecDepth 100000 in
theorem state_in {k : Nat} (hi : CItems k) : CState k := by
  intro S w x hP hk
  have hpl := hP.plt
  have htl := hP.tlt
  have HI : Hid _ := hi
  have hf4 := field86_4
  clear hi
  go_enter Try.func79, Try.ntmps79
  go_wp2_with (fail)
  refine (tok_ex (hP.alloc _)).mono ?_
  rintro e w0 ⟨⟨t0, rfl⟩, h0, k0⟩
  obtain ⟨K, SS, N, TK, TL, AT⟩ := t0
  dsimp only [Tk.val]
  have hr0 := k0.block (alloc_self w _) (by omega)
  have R0 : Aside _ := Rec.new (x1 := x) ⟨h0, ((KB.refl S w).alloc _).trans k0, Nat.le_refl _, id⟩ hr0 #[.string ⟨#[]⟩, .slice none 0 0, .slice none 0 0, .slice none 0 0, .slice none 0 0, .int .i64 AT]
  have hle0 : x.at' ≤ x.at' := Nat.le_refl _
  have hs0 := lt_of_block hr0
  clear hr0 k0
  go_wp2_with (fail)
  refine (take_in R0.out.g.ps _).mono ?_
  rintro _ w1 @⟨_, _, x1, g1, rfl, hpr1⟩
  have hle1 : x.at' ≤ x1.at' := Nat.le_trans hle0 g1.le
  have R1 : Aside _ := R0.out.step g1 hpl
  obtain ⟨hc1, hf1⟩ := row_cells R1.out.a
  have hl1 := lt_of_block R1.out.a
  go_wp2_with (fail)
  refine (name_in R1.out.g.ps).mono ?_
  rintro _ w2 @⟨_, _, x2, g2, ⟨nm2, rfl⟩, _⟩
  have hle2 : x.at' ≤ x2.at' := Nat.le_trans hle1 g2.le
  have R2 : Aside _ := R1.out.step g2 hpl
  obtain ⟨hc2, hf2⟩ := row_cells R2.out.a
  have hl2 := lt_of_block R2.out.a
  try clear hc1 hf1
  have R2 : Aside _ := R2.out.set hpl htl 0 (.string nm2) #[.string nm2, .slice none 0 0, .slice none 0 0, .slice none 0 0, .slice none 0 0, .int .i64 AT] rfl
  go_wp2_with (fail)
  refine (trans_in R2.out.g.ps _).mono ?_
  rintro _ w3 @⟨_, _, x3, g3, ⟨a3, n3, c3⟩⟩
  have hle3 : x.at' ≤ x3.at' := Nat.le_trans hle2 g3.le
  have R3 : Aside _ := R2.out.step g3 hpl
  obtain ⟨hc3, hf3⟩ := row_cells R3.out.a
  have hl3 := lt_of_block R3.out.a
  try clear hc2 hf2
  have R3 : Aside _ := R3.out.set hpl htl 1 (.slice a3 n3 c3) #[.string nm2, .slice a3 n3 c3, .slice none 0 0, .slice none 0 0, .slice none 0 0, .int .i64 AT] rfl
  go_wp2_with (fail)
  refine (maybe_in R3.out.g.ps _).mono ?_
  rintro _ w4 @⟨_, _, x4, g4, hbb⟩
  have hle4 : x.at' ≤ x4.at' := Nat.le_trans hle3 g4.le
  have R4 : Aside _ := R3.out.step g4 hpl
  obtain ⟨hc4, hf4⟩ := row_cells R4.out.a
  have hl4 := lt_of_block R4.out.a
  try clear hc3 hf3
  obtain ⟨b4, rfl⟩ : ∃ b, _ = Value.bool b := by rcases hbb with ⟨hb, _⟩ | ⟨hb, _⟩ <;> exact ⟨_, hb⟩
  clear hbb
  cases b4
  ·
    go_wp2_with (fail)
    refine (take_in R4.out.g.ps _).mono ?_
    rintro _ w5 @⟨_, _, x5, g5, rfl, _⟩
    have hle5 : x.at' ≤ x5.at' := Nat.le_trans hle4 g5.le
    have R5 : Aside _ := R4.out.step g5 hpl
    obtain ⟨hc5, hf5⟩ := row_cells R5.out.a
    have hl5 := lt_of_block R5.out.a
    try clear hc4 hf4
    go_wp2_with (fail)
    refine (HI.out S _ _ R5.out.g.ps (by omega)).mono ?_
    rintro _ w6 @⟨_, _, x6, g6, hiv⟩
    have hle6 : x.at' ≤ x6.at' := Nat.le_trans hle5 g6.le
    have R6 : Aside _ := R5.out.step g6 hpl
    obtain ⟨hc6, hf6⟩ := row_cells R6.out.a
    have hl6 := lt_of_block R6.out.a
    try clear hc5 hf5
    obtain ⟨ai, mi, ci, _⟩ := hiv
    have R6 : Aside _ := R6.out.set hpl htl 4 (.slice ai mi ci) #[.string nm2, .slice a3 n3 c3, .slice none 0 0, .slice none 0 0, .slice ai mi ci, .int .i64 AT] rfl
    go_wp2_with (fail)
    refine (trans_in R6.out.g.ps _).mono ?_
    rintro _ w7 @⟨_, _, x7, g7, ⟨a7, n7, c7⟩⟩
    have hle7 : x.at' ≤ x7.at' := Nat.le_trans hle6 g7.le
    have R7 : Aside _ := R6.out.step g7 hpl
    obtain ⟨hc7, hf7⟩ := row_cells R7.out.a
    have hl7 := lt_of_block R7.out.a
    try clear hc6 hf6
    have R7 : Aside _ := R7.out.set hpl htl 2 (.slice a7 n7 c7) #[.string nm2, .slice a3 n3 c3, .slice a7 n7 c7, .slice none 0 0, .slice ai mi ci, .int .i64 AT] rfl
    obtain ⟨hrc, hrf⟩ := row_cells R7.out.r0
    have hrl := lt_of_block R7.out.r0
    have R7 : Aside _ := R7.out.res hpl htl 0 (.string nm2) #[.string nm2, .slice none 0 0, .slice none 0 0, .slice none 0 0, .slice none 0 0, .int .i64 0] rfl
    have R7 : Aside _ := R7.out.res hpl htl 1 (.slice a3 n3 c3) #[.string nm2, .slice a3 n3 c3, .slice none 0 0, .slice none 0 0, .slice none 0 0, .int .i64 0] rfl
    have R7 : Aside _ := R7.out.res hpl htl 2 (.slice a7 n7 c7) #[.string nm2, .slice a3 n3 c3, .slice a7 n7 c7, .slice none 0 0, .slice none 0 0, .int .i64 0] rfl
    have R7 : Aside _ := R7.out.res hpl htl 3 (.slice none 0 0) #[.string nm2, .slice a3 n3 c3, .slice a7 n7 c7, .slice none 0 0, .slice none 0 0, .int .i64 0] rfl
    have R7 : Aside _ := R7.out.res hpl htl 4 (.slice ai mi ci) #[.string nm2, .slice a3 n3 c3, .slice a7 n7 c7, .slice none 0 0, .slice ai mi ci, .int .i64 0] rfl
    have R7 : Aside _ := R7.out.res hpl htl 5 (.int .i64 AT) #[.string nm2, .slice a3 n3 c3, .slice a7 n7 c7, .slice none 0 0, .slice ai mi ci, .int .i64 AT] rfl
    have hpg : Aside (Prog x x7) := fun h => Nat.lt_of_lt_of_le (hpr1 (er0 g2 (er0 g3 (er0 g4 (er0 g5 (er0 g6 (er0 g7 h))))))) (Nat.le_trans g2.le (Nat.le_trans g3.le (Nat.le_trans g4.le (Nat.le_trans g5.le (Nat.le_trans g6.le (g7.le))))))
    go_wp2
    refine bodyPost_ret (results_cell_row rfl _ _ w.heap.size 99 _ _ _ (by rfl) R7.out.r0 Try.underlying99 rfl (by kernel_rfl)) rfl ?_
    exact .mk R7.out.g ⟨.mk _ _ _ _ _ _ _ _ _ _ _ _ _ _, hpg.out⟩
  ·
    go_wp2_with (fail)
    refine (locals_in R4.out.g.ps).mono ?_
    rintro _ w5 @⟨_, _, x5, g5, ⟨a5, n5, c5⟩⟩
    have hle5 : x.at' ≤ x5.at' := Nat.le_trans hle4 g5.le
    have R5 : Aside _ := R4.out.step g5 hpl
    obtain ⟨hc5, hf5⟩ := row_cells R5.out.a
    have hl5 := lt_of_block R5.out.a
    try clear hc4 hf4
    have R5 : Aside _ := R5.out.set hpl htl 3 (.slice a5 n5 c5) #[.string nm2, .slice a3 n3 c3, .slice none 0 0, .slice a5 n5 c5, .slice none 0 0, .int .i64 AT] rfl
    go_wp2_with (fail)
    refine (take_in R5.out.g.ps _).mono ?_
    rintro _ w6 @⟨_, _, x6, g6, rfl, _⟩
    have hle6 : x.at' ≤ x6.at' := Nat.le_trans hle5 g6.le
    have R6 : Aside _ := R5.out.step g6 hpl
    obtain ⟨hc6, hf6⟩ := row_cells R6.out.a
    have hl6 := lt_of_block R6.out.a
    try clear hc5 hf5
    go_wp2_with (fail)
    refine (HI.out S _ _ R6.out.g.ps (by omega)).mono ?_
    rintro _ w7 @⟨_, _, x7, g7, hiv⟩
    have hle7 : x.at' ≤ x7.at' := Nat.le_trans hle6 g7.le
    have R7 : Aside _ := R6.out.step g7 hpl
    obtain ⟨hc7, hf7⟩ := row_cells R7.out.a
    have hl7 := lt_of_block R7.out.a
    try clear hc6 hf6
    obtain ⟨ai, mi, ci, _⟩ := hiv
    have R7 : Aside _ := R7.out.set hpl htl 4 (.slice ai mi ci) #[.string nm2, .slice a3 n3 c3, .slice none 0 0, .slice a5 n5 c5, .slice ai mi ci, .int .i64 AT] rfl
    go_wp2_with (fail)
    refine (trans_in R7.out.g.ps _).mono ?_
    rintro _ w8 @⟨_, _, x8, g8, ⟨a8, n8, c8⟩⟩
    have hle8 : x.at' ≤ x8.at' := Nat.le_trans hle7 g8.le
    have R8 : Aside _ := R7.out.step g8 hpl
    obtain ⟨hc8, hf8⟩ := row_cells R8.out.a
    have hl8 := lt_of_block R8.out.a
    try clear hc7 hf7
    have R8 : Aside _ := R8.out.set hpl htl 2 (.slice a8 n8 c8) #[.string nm2, .slice a3 n3 c3, .slice a8 n8 c8, .slice a5 n5 c5, .slice ai mi ci, .int .i64 AT] rfl
    obtain ⟨hrc, hrf⟩ := row_cells R8.out.r0
    have hrl := lt_of_block R8.out.r0
    have R8 : Aside _ := R8.out.res hpl htl 0 (.string nm2) #[.string nm2, .slice none 0 0, .slice none 0 0, .slice none 0 0, .slice none 0 0, .int .i64 0] rfl
    have R8 : Aside _ := R8.out.res hpl htl 1 (.slice a3 n3 c3) #[.string nm2, .slice a3 n3 c3, .slice none 0 0, .slice none 0 0, .slice none 0 0, .int .i64 0] rfl
    have R8 : Aside _ := R8.out.res hpl htl 2 (.slice a8 n8 c8) #[.string nm2, .slice a3 n3 c3, .slice a8 n8 c8, .slice none 0 0, .slice none 0 0, .int .i64 0] rfl
    have R8 : Aside _ := R8.out.res hpl htl 3 (.slice a5 n5 c5) #[.string nm2, .slice a3 n3 c3, .slice a8 n8 c8, .slice a5 n5 c5, .slice none 0 0, .int .i64 0] rfl
    have R8 : Aside _ := R8.out.res hpl htl 4 (.slice ai mi ci) #[.string nm2, .slice a3 n3 c3, .slice a8 n8 c8, .slice a5 n5 c5, .slice ai mi ci, .int .i64 0] rfl
    have R8 : Aside _ := R8.out.res hpl htl 5 (.int .i64 AT) #[.string nm2, .slice a3 n3 c3, .slice a8 n8 c8, .slice a5 n5 c5, .slice ai mi ci, .int .i64 AT] rfl
    have hpg : Aside (Prog x x8) := fun h => Nat.lt_of_lt_of_le (hpr1 (er0 g2 (er0 g3 (er0 g4 (er0 g5 (er0 g6 (er0 g7 (er0 g8 h)))))))) (Nat.le_trans g2.le (Nat.le_trans g3.le (Nat.le_trans g4.le (Nat.le_trans g5.le (Nat.le_trans g6.le (Nat.le_trans g7.le (g8.le)))))))
    go_wp2
    refine bodyPost_ret (results_cell_row rfl _ _ w.heap.size 99 _ _ _ (by rfl) R8.out.r0 Try.underlying99 rfl (by kernel_rfl)) rfl ?_
    exact .mk R8.out.g ⟨.mk _ _ _ _ _ _ _ _ _ _ _ _ _ _, hpg.out⟩
end Go.Pa
