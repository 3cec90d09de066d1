/-
  Lists of nodes (own work).
-/
import Derived.Test.YtlonlfiaclacdaaPaR
import Derived.Deep.RegionLaw
namespace Go.Pa
open Go Go.RowKit Go.Proofs

theorem info40 : (Try.prog.info? 40).map (fun i => (i.zero, i.size, i.bytes)) = some (some (.agg #[.string ⟨#[]⟩, .slice none 0 0, .slice none 0 0, .slice none 0 0, .slice none 0 0, .int .i64 0]), 6, 120) := by kernel_rfl

theorem ItemsV.bound {E : Prop} {B : Nat → Prop} {w : World} {v : Value} (h : ItemsV E B w v) : ItemsV E (fun b => B b ∧ b < w.heap.size) w v := by
  obtain ⟨a, m, c, hm, h⟩ := h
  refine .mk a m c hm fun i hi => ?_
  obtain ⟨b, h1, h2, p, t, h3, h4, h5⟩ := h i hi
  exact ⟨b, h1, ⟨h2, lt_of_cell ((h5 0 (by omega)).trans rfl)⟩, p, t, h3.bound, h4, h5⟩

/-- A list of nodes. -/
inductive NodesV (E : Prop) (B : Nat → Prop) (w : World) : Value → Prop
  | mk (a : Option Addr) (m c : Nat) (hm : m ≤ maxLen) (h : ∀ i, i < m → ∃ b, a = some ⟨b, 0, none⟩ ∧ B b ∧ ∃ u, w.cell? ⟨b, i * 6 + 4, none⟩ = some u ∧ ItemsV E B w u) : NodesV E B w (.slice a m c)
theorem NodesV.frame {E : Prop} {B : Nat → Prop} {w w' : World} {v : Value} (h : NodesV E B w v) (hs : ∀ b, B b → b < w.heap.size → w'.heap[b]? = w.heap[b]?) : NodesV E B w' v := by
  obtain ⟨a, m, c, hm, h⟩ := h
  refine .mk a m c hm fun i hi => ?_
  obtain ⟨b, h1, h2, u, h3, h4⟩ := h i hi
  exact ⟨b, h1, h2, u, (World.cell?_of_block (w := w) (hs b h2 (lt_of_cell h3))).trans h3, h4.frame hs⟩
theorem NodesV.mono {E E' : Prop} {B B' : Nat → Prop} {w : World} {v : Value} (h : NodesV E B w v) (hs : ∀ b, B b → B' b) (he : E' → E) : NodesV E' B' w v := by
  obtain ⟨a, m, c, hm, h⟩ := h
  refine .mk a m c hm fun i hi => ?_
  obtain ⟨b, h1, h2, u, h3, h4⟩ := h i hi
  exact ⟨b, h1, hs b h2, u, h3, h4.mono hs he⟩

/-- A list of nodes that is built. -/
structure LN (E : Prop) (lo : Nat) (w : World) (v : Value) (n : Nat) (xs : List Value) : Prop where
  own : w.ownsRow lo 40 6 v n xs
  c : ∀ i, i < n → ∃ u, ItemsV E (fun b => lo ≤ b ∧ b < w.heap.size ∧ some b ≠ v.ownBlock) w u ∧ xs[i * 6 + 4]? = some u
section
variable {E E' : Prop} {lo : Nat} {w w' : World} {v : Value} {n : Nat} {xs : List Value}
theorem LN.frame (h : LN E lo w v n xs) (hz : w.heap.size ≤ w'.heap.size) (hs : ∀ b, lo ≤ b → b < w.heap.size → w'.heap[b]? = w.heap[b]?) (he : E' → E) : LN E' lo w' v n xs :=
  ⟨own_frame h.own fun b hb => hs b (h.own.lt b hb).1 (h.own.lt b hb).2, fun i hi => by
    obtain ⟨u, h1, h2⟩ := h.c i hi
    exact ⟨u, (h1.frame fun b hb hl => hs b hb.1 hl).mono (fun b hb => ⟨hb.1, by omega, hb.2.2⟩) he, h2⟩⟩
theorem LN.nodes (h : LN E lo w v n xs) : NodesV E (lo ≤ ·) w v := by
  obtain ⟨a, c, rfl⟩ := own_form h.own
  refine .mk a n c (own_max h.own) fun i hi => ?_
  obtain ⟨u, h1, h2⟩ := h.c i hi
  obtain ⟨g, cap, hv, hg, _⟩ := h.own.form (by omega)
  obtain ⟨rfl, rfl⟩ : a = some ⟨g, 0, none⟩ ∧ c = cap := by injection hv with h1 h2 h3; exact ⟨h1, h3⟩
  refine ⟨g, rfl, hg, u, ?_, h1.mono (fun _ hb => hb.1) id⟩
  have := h.own.cells (g := g) rfl _ _ h2
  rwa [show (⟨g, 0, none⟩ : Addr).add (i * 6 + 4) = ⟨g, i * 6 + 4, none⟩ by unfold Addr.add; simp] at this
theorem LN.push (h : LN E lo w v n xs) {u : Value} (hE : ItemsV E (fun b => lo ≤ b ∧ b < w.heap.size ∧ some b ≠ v.ownBlock) w u) {g cap : Nat} {r : List Value} (hr : r[4]? = some u)
    (hown : w'.ownsRow lo 40 6 (.slice (some ⟨g, 0, none⟩) (n + 1) cap) (n + 1) (xs ++ r)) (hgr : w.grownBy w' v.ownBlock) (hat : v.ownBlock = some g ∨ g = w.heap.size) : LN E lo w' (.slice (some ⟨g, 0, none⟩) (n + 1) cap) (n + 1) (xs ++ r) := by
  have hf : ∀ {u : Value}, ItemsV E (fun b => lo ≤ b ∧ b < w.heap.size ∧ some b ≠ v.ownBlock) w u → ItemsV E (fun b => lo ≤ b ∧ b < w'.heap.size ∧ some b ≠ (Value.slice (some ⟨g, 0, none⟩) (n + 1) cap).ownBlock) w' u := fun hq =>
    (hq.frame fun b hb hl => hgr.block b hl hb.2.2).mono (fun b hb => ⟨hb.1, Nat.lt_of_lt_of_le hb.2.1 hgr.size, fun e => by
      have e' : b = g := Option.some.inj e
      rcases hat with hat | hat
      · exact hb.2.2 (by rw [hat, e'])
      · omega⟩) id
  have hxs : xs.length = n * 6 := h.own.1
  refine ⟨hown, fun i hi => ?_⟩
  rcases (by omega : i = n ∨ i < n) with rfl | hlt
  · refine ⟨u, hf hE, ?_⟩
    rw [List.getElem?_append_right (by omega), hxs, show i * 6 + 4 - i * 6 = 4 by omega]
    exact hr
  · obtain ⟨u', h1, h3⟩ := h.c i hlt
    refine ⟨u', hf h1, ?_⟩
    rw [List.getElem?_append_left (by omega)]
    exact h3
end

/-- The program that is built: its block b, the result's rb; the list of nodes is the call's own. -/
structure PgL (S : Src) (w : World) (x : St) (rb b lo : Nat) (wr : World) (xc : St) (v : Value) (n : Nat) (xs : List Value) : Prop where
  r : Rec 27 S w x rb b #[.slice none 0 0] wr xc #[v]
  l : LN (xc.e = 0) lo wr v n xs
  lo : w.heap.size ≤ lo ∧ rb < lo ∧ b < lo ∧ lo ≤ wr.heap.size
section
variable {S : Src} {w : World} {x : St} {rb b lo : Nat} {wr w2 : World} {xc x2 : St} {v : Value} {n : Nat} {xs : List Value}
theorem PgL.step (h : PgL S w x rb b lo wr xc v n xs) (g : Go1 S wr xc w2 x2) (hp : S.pb < w.heap.size) : PgL S w x rb b lo w2 x2 v n xs :=
  ⟨h.r.step g hp, h.l.frame g.kb.size (fun z hz hl => g.kb.same z hl (by have := h.lo; omega)) (er0 g), h.lo.1, h.lo.2.1, h.lo.2.2.1, Nat.le_trans h.lo.2.2.2 g.kb.size⟩
theorem PgL.drew (h : PgL S w x rb b lo wr xc v n xs) : PgL S w x rb b lo wr.drew xc v n xs :=
  ⟨⟨⟨h.r.g.ps.drew, h.r.g.kb.drew, h.r.g.le, h.r.g.er⟩, h.r.hr, h.r.hb, h.r.ne, h.r.r0, h.r.a⟩, h.l.frame (Nat.le_refl _) (fun _ _ _ => rfl) id, h.lo⟩
theorem PgL.alloc (h : PgL S w x rb b lo wr xc v n xs) (o : Obj) : PgL S w x rb b lo (wr.alloc o) xc v n xs :=
  ⟨h.r.alloc o, h.l.frame (by simp) (fun _ _ hl => Below.heap_alloc _ _ _ hl) id, h.lo.1, h.lo.2.1, h.lo.2.2.1, by have := h.lo.2.2.2; simp; omega⟩
theorem Rec.grown {T : TypeId} {z r : Array Value} (h : Rec T S w x rb b z wr xc r) {row : Option Nat} (hg : wr.grownBy w2 row) (hpl : S.pb < w.heap.size) (htl : S.tb < w.heap.size) {lo : Nat} (hrow : ∀ z, row = some z → lo ≤ z) (hlo : w.heap.size ≤ lo ∧ rb < lo ∧ b < lo) : Rec T S w x rb b z w2 xc r := by
  have h1 := lt_of_block h.r0
  have h2 := lt_of_block h.a
  have h4 := h.g.kb.size
  have hs : ∀ z, z < lo → some z ≠ row := fun z hz e => by have := hrow z e.symm; omega
  exact ⟨⟨h.g.ps.of_same (hg.block _ (by omega) (hs _ (by omega))) (hg.block _ (by omega) (hs _ (by omega))),
    ⟨hg.os.trans h.g.kb.os, hg.output.trans h.g.kb.output, Nat.le_trans h4 hg.size, fun k hk hn => (hg.block k (by omega) (hs _ (by omega))).trans (h.g.kb.same k hk hn)⟩, h.g.le, h.g.er⟩,
    h.hr, h.hb, h.ne, (hg.block _ h1 (hs _ hlo.2.1)).trans h.r0, (hg.block _ h2 (hs _ hlo.2.2)).trans h.a⟩
/-- One node more. -/
theorem PgL.push (h : PgL S w x rb b lo wr xc v n xs) {u : Value} {B : Nat → Prop} (hE : ItemsV (xc.e = 0) B wr u) (hB : ∀ z, B z → lo ≤ z ∧ some z ≠ v.ownBlock) {g cap : Nat} {r : Array Value} {T : TypeId} (hr : r.toList[4]? = some u) (hpl : S.pb < w.heap.size) (htl : S.tb < w.heap.size)
    (hown : w2.ownsRow lo 40 6 (.slice (some ⟨g, 0, none⟩) (n + 1) cap) (n + 1) (xs ++ r.toList)) (hgr : (wr.alloc (.cells r T)).grownBy w2 v.ownBlock) (hat : v.ownBlock = some g ∨ g = wr.heap.size + 1) :
    PgL S w x rb b lo (w2.setCell ⟨b, 0, none⟩ (.slice (some ⟨g, 0, none⟩) (n + 1) cap)) xc (.slice (some ⟨g, 0, none⟩) (n + 1) cap) (n + 1) (xs ++ r.toList) := by
  have ha := h.alloc (.cells r T)
  have hrow : ∀ z, v.ownBlock = some z → lo ≤ z := fun z hz => (h.l.own.lt z hz).1
  have hbn : b < lo := h.lo.2.2.1
  refine ⟨(ha.r.grown hgr hpl htl hrow ⟨h.lo.1, h.lo.2.1, h.lo.2.2.1⟩).set hpl htl 0 _ _ rfl, ?_, h.lo.1, h.lo.2.1, h.lo.2.2.1, by have := ha.lo.2.2.2; have := hgr.size; simp at *; omega⟩
  refine LN.frame (E := xc.e = 0) (w := w2) (LN.push ha.l (u := u) ?_ hr hown hgr (by simpa using hat)) (by simp) (fun z hz _ => Below.heap_setCell _ _ _ _ (by show z ≠ b; omega)) id
  exact (hE.bound.frame (w' := wr.alloc (.cells r T)) fun z hz hl => Below.heap_alloc _ _ _ hl).mono (fun z hz => ⟨(hB z hz.1).1, by have := hz.2; simp; omega, (hB z hz.1).2⟩) id
/-- The end. -/
theorem PgL.fin (h : PgL S w x rb b lo wr xc v n xs) (hpl : S.pb < w.heap.size) (htl : S.tb < w.heap.size) : (wr.setCell ⟨rb, 0, none⟩ v).heap[rb]? = some (.cells #[v] 27 (0, 0)) ∧ Go1 S w x (wr.setCell ⟨rb, 0, none⟩ v) xc ∧ NodesV (xc.e = 0) (w.heap.size ≤ ·) (wr.setCell ⟨rb, 0, none⟩ v) v := by
  have H := h.r.res hpl htl 0 v #[v] rfl
  exact ⟨H.r0, H.g, (h.l.nodes.frame fun z hz _ => Below.heap_setCell _ _ _ _ (by have := h.lo.2.1; show z ≠ rb; omega)).mono (fun z hz => Nat.le_trans h.lo.1 hz) id⟩
end
/-- A program. -/
inductive ProgV (E : Prop) (B : Nat → Prop) (w : World) : Value → Prop
  | mk (a : Option Addr) (n c : Nat) (h : NodesV E B w (.slice a n c)) : ProgV E B w (.agg #[.slice a n c])
theorem node_one (s : ByteArray) (a1 a2 a3 a4 : Option Addr) (n1 n2 n3 n4 c1 c2 c3 c4 : Nat) (n : Int) : ∀ u ∈ (#[Value.string s, .slice a1 n1 c1, .slice a2 n2 c2, .slice a3 n3 c3, .slice a4 n4 c4, .int .i64 n] : Array Value).toList, u.oneCell' = true := by
  intro u hu
  simp at hu
  rcases hu with rfl | rfl | rfl | rfl | rfl | rfl <;> rfl
end Go.Pa

namespace Go.Pa
open Go Go.RowKit Go.Proofs

set_option maxHeartbeats 16000000 in
set_option maxRecDepth 100000 in
theorem program_in {S : Src} {w : World} {x : St} (hP : PS S w x) : Calls Try.prog 28 #[.pointer (some ⟨S.pb, 0, none⟩)] w (Ret S w x fun v w' x' => ProgV (x'.e = 0) (w.heap.size ≤ ·) w' v) := by
  have hpl := hP.plt
  have htl := hP.tlt
  have hlt0 := hP.lt
  have hcap := S.hlen
  have hf0 := field86_0
  obtain ⟨i0, hi, hz0, hz1, hz2⟩ := info_parts info40
  have hlo1 : w.heap.size ≤ w.heap.size + 2 := by omega
  have A0 : Aside (PgL S w x w.heap.size (w.heap.size + 1) (w.heap.size + 2) ((w.alloc (.cells #[.slice none 0 0] 27)).alloc (.cells #[.slice none 0 0] 27)) x (.slice none 0 0) 0 []) := by
    have h1 := Rec.new (x1 := x) (w1 := w.alloc (.cells #[.slice none 0 0] 27)) ⟨hP.alloc _, (KB.refl S w).alloc _, Nat.le_refl _, id⟩ (alloc_self w (.cells #[.slice none 0 0] 27)) #[.slice none 0 0]
    rw [World.size_alloc] at h1
    exact ⟨h1, ⟨World.ownsRow_nil _ _ 40 6, fun i hi => absurd hi (Nat.not_lt_zero i)⟩, by omega, by omega, by omega, by simp⟩
  go_enter Try.func28, Try.ntmps28
  go_wp2
  go_loopg [4, 5] (2 * S.len + 1) (fun kx s4 s5 wr => ∃ (xc : St) (a0 : Option Addr) (n cp : Nat) (xs : List Value), 2 * (S.len - xc.at') + (if xc.e = 0 then 1 else 0) ≤ kx ∧ xc.at' < S.len ∧ n ≤ 60 ∧ Aside (PgL S w x w.heap.size (w.heap.size + 1) (w.heap.size + 2) wr xc (.slice a0 n cp) n xs))
  case atStart => exact ⟨x, none, 0, 0, [], by split <;> omega, hlt0, by omega, A0⟩
  case round =>
    clear A0
    obtain ⟨xc, a0, n, cp, xs, hkx, hlt, hn, A⟩ := hrel
    have HK : Hid _ := hkx
    clear hkx
    have c2 := A.out.r.g.ps.c2
    have hplr := A.out.r.g.ps.plt
    by_cases he : xc.e = 0
    case neg =>
      have HF : Aside _ := A.out.fin hpl htl
      obtain ⟨hbcF, hbfF⟩ := row_cells A.out.r.a
      have hblF := lt_of_block A.out.r.a
      obtain ⟨hrcF, hrfF⟩ := row_cells A.out.r.r0
      have hrlF := lt_of_block A.out.r.r0
      go_wp2
      refine bodyPost_ret (results_cell_row rfl _ _ w.heap.size 27 _ _ _ (by rfl) HF.out.1 Try.underlying27 rfl (by kernel_rfl)) rfl ?_
      exact .mk HF.out.2.1 (.mk _ _ _ HF.out.2.2)
    case pos =>
      go_wp2_with (fail)
      refine (tok_ex A.out.r.g.ps).mono ?_
      rintro e w1 ⟨⟨t1, rfl⟩, h1, k1⟩
      obtain ⟨K, SS, N, TK, TL, AT⟩ := t1
      dsimp only [Tk.val]
      have g1 : Go1 S wr xc w1 xc := ⟨h1, k1, Nat.le_refl _, id⟩
      have A1 : Aside _ := A.out.step g1 hpl
      by_cases hK5 : K = 5
      · subst hK5
        have HF : Aside _ := A1.out.fin hpl htl
        obtain ⟨hbcF, hbfF⟩ := row_cells A1.out.r.a
        have hblF := lt_of_block A1.out.r.a
        obtain ⟨hrcF, hrfF⟩ := row_cells A1.out.r.r0
        have hrlF := lt_of_block A1.out.r.r0
        go_wp2
        refine bodyPost_ret (results_cell_row rfl _ _ w.heap.size 27 _ _ _ (by rfl) HF.out.1 Try.underlying27 rfl (by kernel_rfl)) rfl ?_
        exact .mk HF.out.2.1 (.mk _ _ _ HF.out.2.2)
      · go_wp2_with (fail)
        refine (is_ex A1.out.r.g.ps _).mono ?_
        rintro _ w2 @⟨_, _, x2, g2, hx2, hb⟩
        have A2 : Aside _ := A1.out.step g2 hpl
        rcases hb with ⟨rfl, hxe, hxl⟩ | rfl
        · subst hx2
          obtain ⟨hc2, hf2⟩ := row_cells A2.out.r.a
          have hl2 := lt_of_block A2.out.r.a
          go_wp2_with (fail)
          refine (full_in A2.out.r.g.ps _ _).mono ?_
          rintro _ w3 @⟨_, _, x3, g3, hful⟩
          have A3 : Aside _ := A2.out.step g3 hpl
          clear hc2 hf2 hl2
          rcases hful with ⟨rfl, hee⟩ | ⟨rfl, hlm, hx3⟩
          · have HF : Aside _ := A3.out.fin hpl htl
            obtain ⟨hbcF, hbfF⟩ := row_cells A3.out.r.a
            have hblF := lt_of_block A3.out.r.a
            obtain ⟨hrcF, hrfF⟩ := row_cells A3.out.r.r0
            have hrlF := lt_of_block A3.out.r.r0
            go_wp2
            refine bodyPost_ret (results_cell_row rfl _ _ w.heap.size 27 _ _ _ (by rfl) HF.out.1 Try.underlying27 rfl (by kernel_rfl)) rfl ?_
            exact .mk HF.out.2.1 (.mk _ _ _ HF.out.2.2)
          · subst hx3
            have hn1 : n < 60 := by omega
            clear hlm
            obtain ⟨hc3, hf3⟩ := row_cells A3.out.drew.r.a
            have hl3 := lt_of_block A3.out.drew.r.a
            have hHX : (w3.drew.ownsRow (w.heap.size + 2) 40 6 (.slice a0 n cp) n xs) := A3.out.drew.l.own
            have HX : Aside (w3.drew.ownsRow (w.heap.size + 2) 40 6 (.slice a0 n cp) n xs) := hHX
            clear hHX
            have hm63 : n + 1 ≤ maxLen := by unfold maxLen; omega
            have hb63 : (n + 1) * 120 ≤ 140737488355328 := by omega
            have hpbLO : S.pb < w.heap.size + 2 := by omega
            have hll : w.heap.size + 2 ≤ w3.heap.size := A3.out.lo.2.2.2
            have hrw : Aside (∀ z, (Value.slice a0 n cp).ownBlock = some z → w.heap.size + 2 ≤ z) := fun z hz => (World.ownsRow.lt HX.out z hz).1
            have hlo3 : Aside (w.heap.size ≤ w.heap.size + 2 ∧ w.heap.size < w.heap.size + 2 ∧ w.heap.size + 1 < w.heap.size + 2) := ⟨A3.out.lo.1, A3.out.lo.2.1, A3.out.lo.2.2.1⟩
            go_wp2
            go_region_law (first
              | (refine step_append_lies _ rfl (.tmp 30) (.tmp 33) 25 rfl (w.heap.size + 2) 40 i0 _ 6 120 Try.underlying25 hi hz0 hz1 hz2 rfl (by decide) (.slice a0 n cp) n xs (by simp [Act.eval, Act.put]) hO.out ⟨w7.heap.size, 0, none⟩ 1 1 [Value.string s7, .slice a1 n1 c1, .slice a2 n2 c2, .slice a3 n3 c3, .slice a4 n4 c4, .int .i64 n7] (by simp [Act.eval, Act.put]) rfl hN.out (node_one s7 a1 a2 a3 a4 n1 n2 n3 n4 c1 c2 c3 c4 n7) (by decide) hm63 hb63 hB w7.heap.size.succ (by simp) ?_; intro gk cap w8 hown hgrow hat hlt8; have hx9 := row_cells (((A3.out.drew.step g7 hpl).alloc (.cells #[Value.string s7, .slice a1 n1 c1, .slice a2 n2 c2, .slice a3 n3 c3, .slice a4 n4 c4, .int .i64 n7] 40)).r.grown hgrow hpl htl hrw.out hlo3.out).a; have hxl9 := lt_of_block (((A3.out.drew.step g7 hpl).alloc (.cells #[Value.string s7, .slice a1 n1 c1, .slice a2 n2 c2, .slice a3 n3 c3, .slice a4 n4 c4, .int .i64 n7] 40)).r.grown hgrow hpl htl hrw.out hlo3.out).a; obtain ⟨hxc9, hxf9⟩ := hx9)
              | (go_simp; go_at_call 41; refine (node_in A3.out.drew.r.g.ps).mono ?_; rintro _ w7 @⟨_, _, x7, g7, ⟨s7, a1, a2, a3, a4, n1, n2, n3, n4, c1, c2, c3, c4, n7, hiv⟩, hpr7⟩; have hO : Aside _ := (own_frame HX.out (fun z hz => g7.kb.same z (World.ownsRow.lt HX.out z hz).2 (Nat.ne_of_gt (Nat.lt_of_lt_of_le hpbLO (World.ownsRow.lt HX.out z hz).1)))).alloc (.cells #[Value.string s7, .slice a1 n1 c1, .slice a2 n2 c2, .slice a3 n3 c3, .slice a4 n4 c4, .int .i64 n7] 40); have hN : Aside _ := World.news_of_block (alloc_self w7 (.cells #[Value.string s7, .slice a1 n1 c1, .slice a2 n2 c2, .slice a3 n3 c3, .slice a4 n4 c4, .int .i64 n7] 40)); have hB : w.heap.size + 2 ≤ (w7.alloc (.cells #[Value.string s7, .slice a1 n1 c1, .slice a2 n2 c2, .slice a3 n3 c3, .slice a4 n4 c4, .int .i64 n7] 40)).heap.size := Nat.le_trans hll (Nat.le_trans (show w3.heap.size ≤ w7.heap.size from g7.kb.size) (Nat.le_of_lt (lt_of_block (alloc_self w7 (.cells #[Value.string s7, .slice a1 n1 c1, .slice a2 n2 c2, .slice a3 n3 c3, .slice a4 n4 c4, .int .i64 n7] 40))))); have hxr := row_cells (A3.out.drew.step g7 hpl).r.a; have hxl7 := lt_of_block (A3.out.drew.step g7 hpl).r.a; obtain ⟨hxc7, hxf7⟩ := hxr))
            all_goals
              have hlt7 := g7.ps.lt
              have hle7 : x3.at' ≤ x7.at' := g7.le
              have A8 : Aside _ := (A3.out.drew.step g7 hpl).push (T := 40) (r := #[Value.string s7, .slice a1 n1 c1, .slice a2 n2 c2, .slice a3 n3 c3, .slice a4 n4 c4, .int .i64 n7]) hiv (fun z hz => ⟨Nat.le_trans hll hz, fun e => by have := (World.ownsRow.lt HX.out z e.symm).2; have hz' : w3.drew.heap.size ≤ z := hz; omega⟩) rfl hpl htl hown hgrow hat
              have hmeas : 2 * (S.len - x7.at') + (if x7.e = 0 then 1 else 0) < 2 * (S.len - x3.at') + (if x3.e = 0 then 1 else 0) := by
                rw [if_pos he]
                split
                · rename_i h3
                  have : x3.at' < x7.at' := hpr7 h3
                  omega
                · omega
              have HM : Hid _ := hmeas
              clear hown hgrow hat HX hmeas hpr7 hiv
              go_wp2
              go_roundg (2 * (S.len - x7.at') + (if x7.e = 0 then 1 else 0))
              case measure => exact Nat.lt_of_lt_of_le HM.out HK.out
              case rel => exact ⟨x7, _, n + 1, _, _, Nat.le_refl _, hlt7, by omega, A8⟩
        · go_wp2_with (fail)
          refine (fail_ex A2.out.r.g.ps 12 (by decide)).mono ?_
          rintro _ w4 @⟨_, _, x4, g4, rfl, hee⟩
          have A4 : Aside _ := A2.out.step g4 hpl
          have HF : Aside _ := A4.out.fin hpl htl
          obtain ⟨hbcF, hbfF⟩ := row_cells A4.out.r.a
          have hblF := lt_of_block A4.out.r.a
          obtain ⟨hrcF, hrfF⟩ := row_cells A4.out.r.r0
          have hrlF := lt_of_block A4.out.r.r0
          go_wp2
          refine bodyPost_ret (results_cell_row rfl _ _ w.heap.size 27 _ _ _ (by rfl) HF.out.1 Try.underlying27 rfl (by kernel_rfl)) rfl ?_
          exact .mk HF.out.2.1 (.mk _ _ _ HF.out.2.2)
end Go.Pa
