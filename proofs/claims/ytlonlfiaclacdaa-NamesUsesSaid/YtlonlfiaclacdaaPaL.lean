/-
  word: true, false, none of its words; all together (own work).
-/
import Derived.Test.YtlonlfiaclacdaaPaI
import Derived.Test.YtlonlfiaclacdaaPaJ
import Derived.Test.YtlonlfiaclacdaaPaK
namespace Go.Pa
open Go Go.RowKit Go.Proofs

set_option maxHeartbeats 16000000 in
set_option maxRecDepth 100000 in
theorem word_true (S : Src) (w : World) (x : St) (hP : PS S w x) (h5 : (S.t x.at').k ≠ 5) (hs : (S.t x.at').s.toList = [116, 114, 117, 101]) :
    Calls Try.prog 95 #[.pointer (some ⟨S.pb, 0, none⟩), (S.t x.at').val] w (Ret S w x fun v w' x' => ExpP (w.heap.size ≤ ·) w' x x' v) := by
  have hpl := hP.plt
  have htl := hP.tlt
  have hxl := hP.lt
  have hn := next_lt hxl h5
  have hcap := S.hlen
  have hpl1 : S.pb < w.heap.size + 1 := by omega
  have hpl2 : S.pb < w.heap.size + 1 + 1 := by omega
  have c1 := hP.c1
  have f1 := hP.fz 1
  have g0 : Go1 S w x (w.setCell ⟨S.pb, 1, none⟩ (.int .i64 ((x.at' : Int) + 1))) { x with at' := x.at' + 1 } := by
    have hp := hP.set1 hn
    rw [show ((x.at' + 1 : Nat) : Int) = (x.at' : Int) + 1 by omega] at hp
    exact ⟨hp, (KB.refl S w).setCell (.inr rfl) _, by simp, by simp⟩
  clear h5
  generalize S.t x.at' = T at *
  obtain ⟨K, SS, N, TK, TL, AT⟩ := T
  dsimp only at hs
  dsimp only [Tk.val]
  have G : Aside _ := g0
  clear g0
  go_enter Try.func95, Try.ntmps95
  go_wp2
  refine ret_exp (p := ⟨1, 0, ⟨#[]⟩, 1, 0, 1, 0, none, 0, 0, AT⟩) (r := w.heap.size + 1) rfl (by rfl) ((Below.heap_alloc _ _ _ (by simp)).trans (alloc_at (by simp))) rfl ?_
  obtain ⟨t, ht, hct⟩ := IsExp.leaf (w.heap.size ≤ ·) ((((w.setCell ⟨S.pb, 1, none⟩ (.int .i64 ((x.at' : Int) + 1))).alloc (.cells (Tk.row ⟨K, SS, N, TK, TL, AT⟩) 86)).alloc (.cells (ER.row ⟨1, 0, ⟨#[]⟩, 1, 0, 1, 0, none, 0, 0, AT⟩) 45)).alloc (.cells (ER.row ⟨1, 0, ⟨#[]⟩, 1, 0, 1, 0, none, 0, 0, AT⟩) 45)) ⟨1, 0, ⟨#[]⟩, 1, 0, 1, 0, none, 0, 0, AT⟩ rfl
  exact .mk ⟨((G.out.ps.alloc _).alloc _).alloc _, ((G.out.kb.alloc _).alloc _).alloc _, G.out.le, G.out.er⟩ (.mk ⟨1, 0, ⟨#[]⟩, 1, 0, 1, 0, none, 0, 0, AT⟩ t ht fun _ => by rw [hct]; exact Nat.le_refl _)

set_option maxHeartbeats 16000000 in
set_option maxRecDepth 100000 in
theorem word_false (S : Src) (w : World) (x : St) (hP : PS S w x) (h5 : (S.t x.at').k ≠ 5) (hs : (S.t x.at').s.toList = [102, 97, 108, 115, 101]) :
    Calls Try.prog 95 #[.pointer (some ⟨S.pb, 0, none⟩), (S.t x.at').val] w (Ret S w x fun v w' x' => ExpP (w.heap.size ≤ ·) w' x x' v) := by
  have hpl := hP.plt
  have htl := hP.tlt
  have hxl := hP.lt
  have hn := next_lt hxl h5
  have hcap := S.hlen
  have hpl1 : S.pb < w.heap.size + 1 := by omega
  have hpl2 : S.pb < w.heap.size + 1 + 1 := by omega
  have c1 := hP.c1
  have f1 := hP.fz 1
  have g0 : Go1 S w x (w.setCell ⟨S.pb, 1, none⟩ (.int .i64 ((x.at' : Int) + 1))) { x with at' := x.at' + 1 } := by
    have hp := hP.set1 hn
    rw [show ((x.at' + 1 : Nat) : Int) = (x.at' : Int) + 1 by omega] at hp
    exact ⟨hp, (KB.refl S w).setCell (.inr rfl) _, by simp, by simp⟩
  clear h5
  generalize S.t x.at' = T at *
  obtain ⟨K, SS, N, TK, TL, AT⟩ := T
  dsimp only at hs
  dsimp only [Tk.val]
  have G : Aside _ := g0
  clear g0
  go_enter Try.func95, Try.ntmps95
  go_wp2
  refine ret_exp (p := ⟨1, 0, ⟨#[]⟩, 1, 0, 0, 0, none, 0, 0, AT⟩) (r := w.heap.size + 1) rfl (by rfl) ((Below.heap_alloc _ _ _ (by simp)).trans (alloc_at (by simp))) rfl ?_
  obtain ⟨t, ht, hct⟩ := IsExp.leaf (w.heap.size ≤ ·) ((((w.setCell ⟨S.pb, 1, none⟩ (.int .i64 ((x.at' : Int) + 1))).alloc (.cells (Tk.row ⟨K, SS, N, TK, TL, AT⟩) 86)).alloc (.cells (ER.row ⟨1, 0, ⟨#[]⟩, 1, 0, 0, 0, none, 0, 0, AT⟩) 45)).alloc (.cells (ER.row ⟨1, 0, ⟨#[]⟩, 1, 0, 0, 0, none, 0, 0, AT⟩) 45)) ⟨1, 0, ⟨#[]⟩, 1, 0, 0, 0, none, 0, 0, AT⟩ rfl
  exact .mk ⟨((G.out.ps.alloc _).alloc _).alloc _, ((G.out.kb.alloc _).alloc _).alloc _, G.out.le, G.out.er⟩ (.mk ⟨1, 0, ⟨#[]⟩, 1, 0, 0, 0, none, 0, 0, AT⟩ t ht fun _ => by rw [hct]; exact Nat.le_refl _)

set_option maxHeartbeats 16000000 in
set_option maxRecDepth 100000 in
theorem word_none (S : Src) (w : World) (x : St) (hP : PS S w x) (n0 : ((S.t x.at').s.toList == [116, 114, 117, 101]) = false) (n1 : ((S.t x.at').s.toList == [102, 97, 108, 115, 101]) = false) (n2 : ((S.t x.at').s.toList == [105, 102]) = false) (n3 : ((S.t x.at').s.toList == [119, 104, 101, 110]) = false) (n4 : ((S.t x.at').s.toList == [109, 101, 114, 103, 101]) = false) (n5 : ((S.t x.at').s.toList == [99, 97, 115, 116]) = false) (n6 : ((S.t x.at').s.toList == [116, 105, 99, 107]) = false) (n7 : ((S.t x.at').s.toList == [114, 101, 115, 101, 116]) = false) (n8 : ((S.t x.at').s.toList == [114, 101, 112]) = false) (n9 : ((S.t x.at').s.toList == [109, 97, 112]) = false) (n10 : ((S.t x.at').s.toList == [102, 111, 108, 100]) = false) :
    Calls Try.prog 95 #[.pointer (some ⟨S.pb, 0, none⟩), (S.t x.at').val] w (Ret S w x fun v w' x' => ExpP (w.heap.size ≤ ·) w' x x' v) := by
  have hpl := hP.plt
  have htl := hP.tlt
  generalize S.t x.at' = T at *
  obtain ⟨K, SS, N, TK, TL, AT⟩ := T
  dsimp only at n0 n1 n2 n3 n4 n5 n6 n7 n8 n9 n10
  dsimp only [Tk.val]
  have I0 : Aside _ := WdI.three (Go1.refl hP) rfl ⟨K, SS, N, TK, TL, AT⟩ ⟨0, 0, ⟨#[]⟩, 0, 0, 0, 0, none, 0, 0, AT⟩
  go_enter Try.func95, Try.ntmps95
  go_wp2_with (fail)
  refine (fail_ex I0.out.g.ps 12 (by decide)).mono ?_
  rintro _ w3 @⟨_, _, x3, g3, rfl, hee⟩
  have I3 : Aside _ := I0.out.kb g3 hpl
  obtain ⟨hxc, hxf⟩ := row_cells I3.out.a
  obtain ⟨hrc, hrf⟩ := row_cells I3.out.r
  have hxl3 := lt_of_block I3.out.a
  simp only [ER.row] at hxc
  simp only [zrow] at hrc
  obtain ⟨t, ht, hct⟩ := IsExp.leaf (fun b => w.heap.size ≤ b ∧ b ≠ w.heap.size + 1) w3 ⟨0, 0, ⟨#[]⟩, 0, 0, 0, 0, none, 0, 0, AT⟩ rfl
  have E : Aside _ := I3.out.fin hpl htl (t := t) ht (fun h => absurd h hee)
  clear ht
  go_wp2
  exact ret_exp (p := ⟨0, 0, ⟨#[]⟩, 0, 0, 0, 0, none, 0, 0, AT⟩) (r := w.heap.size + 1) rfl (by rfl) E.out.1 rfl (.mk E.out.2.1 E.out.2.2)

theorem word_in {k : Nat} (he : ∀ j, j < k → CExp 80 j) (hl : ∀ j, j < k → CKids j) : CWord k := by
  intro S w x hP hx h5 hk
  cases n0 : ((S.t x.at').s.toList == [116, 114, 117, 101])
  case true => exact word_true S w x hP h5 (eq_of_beq n0)
  cases n1 : ((S.t x.at').s.toList == [102, 97, 108, 115, 101])
  case true => exact word_false S w x hP h5 (eq_of_beq n1)
  cases n2 : ((S.t x.at').s.toList == [105, 102])
  case true => exact word_if he hl S w x hP hx h5 hk (eq_of_beq n2)
  cases n3 : ((S.t x.at').s.toList == [119, 104, 101, 110])
  case true => exact word_when he hl S w x hP hx h5 hk (eq_of_beq n3)
  cases n4 : ((S.t x.at').s.toList == [109, 101, 114, 103, 101])
  case true => exact word_merge he hl S w x hP hx h5 hk (eq_of_beq n4)
  cases n5 : ((S.t x.at').s.toList == [99, 97, 115, 116])
  case true => exact word_cast he hl S w x hP hx h5 hk (eq_of_beq n5)
  cases n6 : ((S.t x.at').s.toList == [116, 105, 99, 107])
  case true => exact word_tick he hl S w x hP hx h5 hk (eq_of_beq n6)
  cases n7 : ((S.t x.at').s.toList == [114, 101, 115, 101, 116])
  case true => exact word_reset he hl S w x hP hx h5 hk (eq_of_beq n7)
  cases n8 : ((S.t x.at').s.toList == [114, 101, 112])
  case true => exact word_rep he hl S w x hP hx h5 hk (eq_of_beq n8)
  cases n9 : ((S.t x.at').s.toList == [109, 97, 112])
  case true => exact word_map he hl S w x hP hx h5 hk (eq_of_beq n9)
  cases n10 : ((S.t x.at').s.toList == [102, 111, 108, 100])
  case true => exact word_fold he hl S w x hP hx h5 hk (eq_of_beq n10)
  exact word_none S w x hP n0 n1 n2 n3 n4 n5 n6 n7 n8 n9 n10
end Go.Pa

namespace Go.Pa
open Go Go.RowKit Go.Proofs

structure AllE (k : Nat) : Prop where
  exp : CExp 80 k
  arrow : CExp 83 k
  fby : CExp 84 k
  imp : CExp 86 k
  unary : CExp 88 k
  kids : CKids k

theorem all_e (k : Nat) : AllE k := by
  induction k using Nat.strongRecOn with
  | ind k ih =>
    have hw := word_in (k := k) (fun j hj => (ih j hj).exp) (fun j hj => (ih j hj).kids)
    have hp := prim_in (k := k) (fun j hj => (ih j hj).exp) (fun j hj => (ih j hj).kids) hw
    have hu := unary_in (signed_in (k := k) (fun j hj => (ih j hj).unary) hp)
    have h8 := level8_in hu
    have h0 : CLevel 0 k := level_in (by omega) (level_in (by omega) (level_in (by omega) (level_in (by omega) (level_in (by omega) (level_in (by omega) (level_in (by omega) (level_in (by omega) h8)))))))
    have hi := imp_in h0 fun j hj => (ih j hj).imp
    have hf := fby_in hi fun j hj => (ih j hj).fby
    have ha := arrow_in hf fun j hj => (ih j hj).arrow
    have he := exp_in ha
    refine ⟨he, ha, hf, hi, hu, exps_in fun j hj => ?_⟩
    rcases (by omega : j = k ∨ j < k) with rfl | hlt
    · exact he
    · exact (ih j hlt).exp

/-- exp: whatever tokens are left. -/
theorem exp_any {S : Src} {w : World} {x : St} (hP : PS S w x) : Calls Try.prog 80 #[.pointer (some ⟨S.pb, 0, none⟩)] w (Ret S w x fun v w' x' => ExpP (w.heap.size ≤ ·) w' x x' v) :=
  (all_e (S.len - x.at')).exp S w x hP (Nat.le_refl _)
end Go.Pa

namespace Go.Pa
open Go Go.RowKit Go.Proofs

/-- All blocks below lo but the parser's lie as they lay. -/
structure KBL (lo : Nat) (S : Src) (w w' : World) : Prop where
  os : w'.os = w.os
  output : w'.output = w.output
  size : w.heap.size ≤ w'.heap.size
  same : ∀ k, k < lo → k ≠ S.pb → w'.heap[k]? = w.heap[k]?
/-- A step, on a list that lies from lo on. -/
structure GoL (lo : Nat) (S : Src) (w : World) (x : St) (w' : World) (x' : St) : Prop where
  ps : PS S w' x'
  kb : KBL lo S w w'
  le : x.at' ≤ x'.at'
  er : x.e ≠ 0 → x'.e ≠ 0
section
variable {lo : Nat} {S : Src} {w w1 w2 : World} {x x1 x2 : St}
theorem Go1.toL (g : Go1 S w x w1 x1) (h : lo ≤ w.heap.size) : GoL lo S w x w1 x1 := ⟨g.ps, ⟨g.kb.os, g.kb.output, g.kb.size, fun k hk hn => g.kb.same k (by omega) hn⟩, g.le, g.er⟩
theorem GoL.trans (h : GoL lo S w x w1 x1) (g : GoL lo S w1 x1 w2 x2) : GoL lo S w x w2 x2 :=
  ⟨g.ps, ⟨g.kb.os.trans h.kb.os, g.kb.output.trans h.kb.output, Nat.le_trans h.kb.size g.kb.size, fun k hk hn => (g.kb.same k hk hn).trans (h.kb.same k hk hn)⟩, Nat.le_trans h.le g.le, fun e => g.er (h.er e)⟩
theorem Go1.transL {w0 : World} {x0 : St} (h : Go1 S w0 x0 w x) (g : GoL w0.heap.size S w x w1 x1) : Go1 S w0 x0 w1 x1 :=
  ⟨g.ps, ⟨g.kb.os.trans h.kb.os, g.kb.output.trans h.kb.output, Nat.le_trans h.kb.size g.kb.size, fun k hk hn => (g.kb.same k hk hn).trans (h.kb.same k hk hn)⟩, Nat.le_trans h.le g.le, fun e => g.er (h.er e)⟩
theorem GoL.step (h : GoL lo S w x w1 x1) (g : Go1 S w1 x1 w2 x2) (hl : lo ≤ w.heap.size) : GoL lo S w x w2 x2 := h.trans (g.toL (Nat.le_trans hl h.kb.size))
theorem erL (g : GoL lo S w x w1 x1) (h : x1.e = 0) : x.e = 0 := Decidable.byContradiction fun e => g.er e h
/-- A block of the list is written. -/
theorem GoL.set (h : GoL lo S w x w1 x1) {a : Addr} (ha : lo ≤ a.block) (hp : S.pb < lo) (ht : S.tb < lo) (u : Value) : GoL lo S w x (w1.setCell a u) x1 :=
  ⟨h.ps.setNew (by omega) (by omega) u, ⟨h.kb.os, h.kb.output, by simpa using h.kb.size, fun k hk hn => (Below.heap_setCell _ _ _ _ (by omega)).trans (h.kb.same k hk hn)⟩, h.le, h.er⟩
theorem GoL.alloc (h : GoL lo S w x w1 x1) (hl : lo ≤ w.heap.size) (o : Obj) : GoL lo S w x (w1.alloc o) x1 :=
  h.step ⟨h.ps.alloc o, (KB.refl S w1).alloc o, Nat.le_refl _, id⟩ hl
/-- The list has grown. -/
theorem GoL.grown (h : GoL lo S w x w1 x1) (hl : lo ≤ w.heap.size) (hp : S.pb < lo) (ht : S.tb < lo) {row : Option Nat} (hg : w1.grownBy w2 row) (hrow : ∀ b, row = some b → lo ≤ b) : GoL lo S w x w2 x1 :=
  have hz := h.kb.size
  have hs : ∀ b, b < lo → some b ≠ row := fun b hb e => by have := hrow b e.symm; omega
  ⟨h.ps.of_same (hg.block _ (by omega) (hs _ hp)) (hg.block _ (by omega) (hs _ ht)), ⟨hg.os.trans h.kb.os, hg.output.trans h.kb.output, Nat.le_trans hz hg.size, fun k hk hn => (hg.block k (by omega) (hs k hk)).trans (h.kb.same k hk hn)⟩, h.le, h.er⟩
end

/-- What a call hands back: it went a step over a list, and T holds. -/
inductive RetL (lo : Nat) (S : Src) (w : World) (x : St) (T : Value → World → St → Prop) : Ending → World → Prop
  | mk {v : Value} {w' : World} {x' : St} (g : GoL lo S w x w' x') (t : T v w' x') : RetL lo S w x T (.returned v) w'

/-- A list that is the call's own, of whatever. -/
inductive PL (e : TypeId) (sz lo : Nat) (w : World) (n : Nat) : Value → Prop
  | mk (v : Value) (xs : List Value) (h : w.ownsRow lo e sz v n xs) : PL e sz lo w n v
section
variable {e : TypeId} {sz lo : Nat} {w w' : World} {n : Nat} {v : Value}
theorem PL.form (h : PL e sz lo w n v) : ∃ a c, v = .slice a n c := by obtain ⟨xs, h⟩ := h; exact own_form h
theorem PL.frame (h : PL e sz lo w n v) (hs : ∀ b, lo ≤ b → b < w.heap.size → w'.heap[b]? = w.heap[b]?) : PL e sz lo w' n v := by
  obtain ⟨xs, h⟩ := h
  exact .mk v xs (own_frame h fun b hb => hs b (h.lt b hb).1 (h.lt b hb).2)
theorem PL.mono {lo' : Nat} (h : PL e sz lo w n v) (hl : lo' ≤ lo) : PL e sz lo' w n v := by
  obtain ⟨xs, h⟩ := h
  exact .mk v xs (own_mono h hl)
theorem PL.nil (e : TypeId) (sz lo : Nat) (w : World) : PL e sz lo w 0 (.slice none 0 0) := .mk _ [] (World.ownsRow_nil w lo e sz)
theorem PL.own (h : PL e sz lo w n v) : ∃ xs, w.ownsRow lo e sz v n xs := by obtain ⟨xs, h⟩ := h; exact ⟨xs, h⟩
end

theorem info82 : (Try.prog.info? 82).map (fun i => (i.zero, i.size, i.bytes)) = some (some (.agg #[.string ⟨#[]⟩, .int .i64 0, .int .i64 0, .slice none 0 0, .int .i64 0]), 5, 64) := by kernel_rfl

/-- In decl's loop. -/
structure DcI (lo : Nat) (S : Src) (w : World) (x : St) (wr : World) (xc : St) (v : Value) (n : Nat) : Prop where
  g : GoL lo S w x wr xc
  l : PL 82 5 lo wr n v
  b : n ≤ xc.at' + 1
  c : xc.e = 0 → n ≤ xc.at'
theorem DcI.step {lo : Nat} {S : Src} {w : World} {x : St} {wr w2 : World} {xc x2 : St} {v : Value} {n : Nat} (h : DcI lo S w x wr xc v n) (g : Go1 S wr xc w2 x2) (hl : lo ≤ w.heap.size) (hp : S.pb < lo) : DcI lo S w x w2 x2 v n :=
  ⟨h.g.step g hl, h.l.frame fun b hb hlt => g.kb.same b hlt (by omega), by have := h.b; have := g.le; omega, fun e => Nat.le_trans (h.c (er0 g e)) g.le⟩
end Go.Pa
