/-
  The program's Memory (own work).
-/
import Derived.Test.YtlonlfiaclacdaaPaZa
namespace Go.Pa
open Go Go.RowKit Go.Proofs
attribute [local go_sem] Oper.semAt_some

theorem results_cell_one {P : Program} {fn : Func} {p : Tmp} {ty : TypeId} (h : fn.results = #[.cell p ty]) (tmps : Array Value) (w : World) (g : Nat) (v : Value)
    (hp : tmps.getD p undef = .pointer (some ⟨g, 0, none⟩)) (hc : (loadVar ty ⟨g, 0, none⟩).run P w = .ok v w) : (results fn tmps).run P w = .ok v w := by
  have hp' : tmps[p]?.getD undef = .pointer (some ⟨g, 0, none⟩) := by simpa using hp
  simp [results, h, hp', asAddr, hc]

/-- In Memory: what holds when some parts have come; b: what the result's cell holds. -/
structure MemI (Lb : Nat) (w : World) (b : Bool) (pre : List ER) (W : World) : Prop where
  os : W.os = w.os
  output : W.output = w.output
  size : w.heap.size ≤ W.heap.size
  same : ∀ k, k < w.heap.size → k ≠ Lb → W.heap[k]? = w.heap[k]?
  lb : Lb < w.heap.size
  box : W.heap[Lb]? = some (.cells #[.bool b] 4 (0, 0))
  any : isAny gMem (pre.map ER.key) = b
theorem MemI.own {Lb : Nat} {w : World} {b : Bool} : OwnFrom w.heap.size (fun pre W => MemI Lb w b pre W) := by
  intro pre W W' row h hg hr
  have hb : ∀ k, k < w.heap.size → W'.heap[k]? = W.heap[k]? := fun k hk => hg.block k (Nat.lt_of_lt_of_le hk h.size) (fun e => by have := (hr k e.symm).1; omega)
  exact ⟨hg.os.trans h.os, hg.output.trans h.output, Nat.le_trans h.size hg.size, fun k hk hn => (hb k hk).trans (h.same k hk hn), h.lb, (hb _ h.lb).trans h.box, h.any⟩
theorem isAny_snoc (g : Int → Bool) (pre : List ER) (x : ER) : isAny g ((pre ++ [x]).map ER.key) = (isAny g (pre.map ER.key) || g x.f) := by
  rw [List.map_append, isAny_append]
  simp [isAny, ER.key]
theorem MemI.step {Lb : Nat} {w : World} {pre : List ER} {W W2 : World} (h : MemI Lb w false pre W) (hn : Nu W W2) {x : ER} (hx : gMem x.f = false) : KeepsFrom w.heap.size W W2 ∧ Kp Lb W W2 ∧ MemI Lb w false (pre ++ [x]) W2 := by
  have hc : W2.cell? ⟨Lb, 0, none⟩ = W.cell? ⟨Lb, 0, none⟩ := World.cell?_of_block (w := W) (hn.same Lb (Nat.lt_of_lt_of_le h.lb h.size))
  refine ⟨⟨hn.size, fun k o _ ho _ => (hn.same k (lt_get ho)).trans ho⟩, ⟨hn.size, fun k => ⟨Nat.lt_of_lt_of_le k.lt hn.size, fun i hi => Nat.lt_of_lt_of_le (k.ok i ((wr_cell hc i).1 hi)) hn.size⟩, fun i u hi _ hw => ⟨(hn.same i (lt_get hi)).trans hi, fun hh => hw ((wr_cell hc i).1 hh)⟩⟩, ?_⟩
  exact ⟨hn.os.trans h.os, hn.output.trans h.output, Nat.le_trans h.size hn.size, fun k hk h1 => (hn.same k (Nat.lt_of_lt_of_le hk h.size)).trans (h.same k hk h1), h.lb, (hn.same _ (Nat.lt_of_lt_of_le h.lb h.size)).trans h.box, by rw [isAny_snoc, h.any, hx]; rfl⟩
theorem MemI.stop {Lb : Nat} {w : World} {pre : List ER} {W W2 : World} (h : MemI Lb w false pre W) (hn : Nu W W2) {x : ER} (hx : gMem x.f = true) : KeepsFrom w.heap.size W (W2.setCell ⟨Lb, 0, none⟩ (.bool true)) ∧ MemI Lb w true (pre ++ [x]) (W2.setCell ⟨Lb, 0, none⟩ (.bool true)) := by
  have b2 : W2.heap[Lb]? = some (.cells #[.bool false] 4 (0, 0)) := (hn.same _ (Nat.lt_of_lt_of_le h.lb h.size)).trans h.box
  have hlb := h.lb
  refine ⟨⟨by simpa using hn.size, fun k o hk ho _ => (Below.heap_setCell _ _ _ _ (by show k ≠ Lb; omega)).trans ((hn.same k (lt_get ho)).trans ho)⟩, ?_⟩
  exact ⟨hn.os.trans h.os, hn.output.trans h.output, Nat.le_trans h.size (by simpa using hn.size), fun k hk h1 => (Below.heap_setCell _ _ _ _ h1).trans ((hn.same k (Nat.lt_of_lt_of_le hk h.size)).trans (h.same k hk h1)), h.lb, heap_setCell_self (o := 0) b2 _, by rw [isAny_snoc, hx, Bool.or_true]⟩

theorem MemI.alloc {Lb : Nat} {w : World} {b : Bool} {pre : List ER} {W : World} (h : MemI Lb w b pre W) (o : Obj) : MemI Lb w b pre (W.alloc o) := MemI.own pre W _ none h (World.grownBy_alloc W o none) (fun r e => by cases e)
theorem kf_alloc {B : Nat} {W W2 : World} (h : KeepsFrom B W W2) (o : Obj) : KeepsFrom B W (W2.alloc o) := h.trans ⟨by simp, fun k _ _ ho _ => (Below.heap_alloc _ _ _ (lt_get ho)).trans ho⟩
theorem load_bool {w : World} {b : Nat} {v : Bool} (h : w.heap[b]? = some (.cells #[.bool v] 4 (0, 0))) : (loadVar 4 ⟨b, 0, none⟩).run Try.prog w = .ok (.bool v) w := by
  have hc : w.cell? ⟨b, 0, none⟩ = some (.bool v) := by simp [World.cell?, h]
  simp [loadVar, isAgg, run_underlying Try.underlying4, hc, go_sem]
theorem MemI.ret {Lb : Nat} {w w3 : World} {b : Bool} {pre : List ER} {W : World} (h : MemI Lb w3 b pre W) (hN : Nu w w3) (hLb : w.heap.size ≤ Lb) {D : Nat} (hD : w3.heap.size ≤ D) (o : Obj) : Nu w (W.putObj D o) := by
  have hg := grownBy_putObj' W D o
  have hs := hN.size
  exact ⟨hg.os.trans (h.os.trans hN.os), hg.output.trans (h.output.trans hN.output), Nat.le_trans hs (Nat.le_trans h.size hg.size), fun k hk => (World.putObj_heap_other (by omega)).trans ((h.same k (by omega) (by omega)).trans (hN.same k hk))⟩
theorem MemI.off {Lb : Nat} {w : World} {pre : List ER} {W : World} (h : MemI Lb w false pre W) : MemI Lb w false pre (W.setCell ⟨Lb, 0, none⟩ (.bool false)) :=
  ⟨h.os, h.output, by simpa using h.size, fun k hk h1 => (Below.heap_setCell _ _ _ _ h1).trans (h.same k hk h1), h.lb, heap_setCell_self (o := 0) h.box _, h.any⟩

theorem isAny_prefix {g : Int → Bool} {l m : List (Int × ByteArray)} (h : l <+: m) (hl : isAny g l = true) : isAny g m = true := by
  obtain ⟨r, rfl⟩ := h
  rw [isAny_append, hl]
  rfl

set_option maxHeartbeats 16000000 in
set_option maxRecDepth 100000 in
theorem Memory_in (B : Nat → Prop) (p : ER) (t : Tree) (w : World) (hE : IsExp B w p t) (hcn : t.cnt ≤ 20000) : Calls Try.prog 18 #[.agg p.row] w (RetT w (isAny gMem t.pre)) := by
  have hrow : ∀ q : ER, q.row = #[.int .i64 q.f, .int .i64 q.s, .string q.nm, .int .i64 q.tk, .int .i64 q.tl, .int .i64 q.n, .int .i64 q.m, .slice q.ka q.kl q.kc, .int .i64 q.at'] := fun _ => rfl
  have HE : Aside _ := hE.bound
  clear hE
  refine (callsIn_wide (n := 5)).1 ?_
  refine callsIn_of_wp_marks Try.func18 rfl trivial ?_ rfl
  simp only [Try.ntmps18, List.size_toArray, List.length_cons, List.length_nil, Nat.reduceAdd, Nat.reduceSub, Array.replicate_succ, Array.replicate_zero, List.push_toArray, List.append_toArray, List.nil_append, List.cons_append]
  rw [hrow]
  gi_wp2_with (fail)
  refine ⟨trivial, (callsIn_wide.2 (Parts_in p _)).mono ?_⟩
  rintro _ WS ⟨rfl, hWS⟩
  have hsz : WS.heap.size = w.heap.size + 3 := by rw [hWS]; simp
  have hN : Nu w WS := by rw [hWS]; exact (((Nu.refl w).alloc _).alloc _).alloc _
  have b1 : WS.heap[w.heap.size + 1]? = some (.cells #[.bool false] 4 (0, 0)) := by
    rw [hWS]
    exact (Below.heap_alloc _ _ _ (by simp)).trans (alloc_at (n := w.heap.size + 1) (by simp))
  have b3 : WS.heap[w.heap.size + 2]? = some (.cells p.row 45 (0, 0)) := by
    rw [hWS]
    exact alloc_at (n := w.heap.size + 2) (by simp)
  have hok : WrOk (w.heap.size + 1) WS := by
    refine ⟨by omega, fun k hk => ?_⟩
    rcases hk with rfl | ⟨n, c, hk⟩
    · omega
    · simp [World.cell?, b1] at hk
  have hEW : IsExp (fun b => ¬ Wr (w.heap.size + 1) WS b) WS p t := by
    refine (HE.out.nu hN).mono fun b hb hw => ?_
    rcases hw with rfl | ⟨n, c, hw⟩
    · have := hb.2; omega
    · simp [World.cell?, b1] at hw
  have hI0 : MemI (w.heap.size + 1) WS false [] WS := ⟨rfl, rfl, Nat.le_refl _, fun _ _ _ => rfl, by omega, b1, rfl⟩
  have hseq := parts_seq 4 (w.heap.size + 1) 20000 (w.heap.size + 2) p t WS b3 hEW hok hcn hcn
  have HN : Aside _ := hN
  have HI0 : Aside _ := hI0
  have HS : Aside _ := hseq
  have hsz' : w.heap.size + 3 = WS.heap.size := hsz.symm
  clear hWS hN b1 b3 hok hEW hI0 hseq hsz
  gi_wp2
  refine wpIn_rangeFunc_ownH (F := Fence.wide) rfl (by decide) (gf := 34) (lb := #[.pointer (some ⟨w.heap.size + 2, 0, none⟩)]) rfl trivial (enters_of Try.func34 (by kernel_rfl) rfl) HS.out (fun h k => h.trans k) ?hKb (Below.refl _ _) (fun _ => rfl) (fun pre W => MemI (w.heap.size + 1) WS false pre W) (fun c pre W => c = .ret ∧ MemI (w.heap.size + 1) WS true pre W) MemI.own (fun c s W W' row h hg hr => ⟨h.1, MemI.own s W W' row h.2 hg hr⟩) HI0.out (fun x a' W => ∃ b, a' = { tmps := #[.agg p.row, .pointer (some ⟨w.heap.size, 0, none⟩), .pointer (some ⟨w.heap.size + 1, 0, none⟩), .pointer (some ⟨b, 0, none⟩), undef, undef, .agg p.row, .func (.func 34) #[] #[.pointer (some ⟨w.heap.size + 1 + 1, 0, none⟩)], .agg x.row, undef, undef, undef, undef, undef, undef, undef, undef, undef, undef, undef, undef, undef], defers := [] } ∧ W.heap[b]? = some (.cells x.row 45 (0, 0))) ?hAx ?assign ?body ?done ?stop
  case hAx =>
    rintro x a' _ W W' row ⟨b, h1, h2⟩ hg hr
    refine ⟨b, h1, (hg.block b (lt_get h2) fun e => ?_).trans h2⟩
    obtain ⟨_, o, ho, hc⟩ := hr b e.symm
    rw [h2] at ho
    cases ho
    cases hc
  case assign =>
    intro l pre x W K hI hK
    have hn : Nu W (W.alloc (.cells x.row 45)) := (Nu.refl W).alloc _
    have hI2 : MemI (w.heap.size + 1) WS false pre (W.alloc (.cells x.row 45)) := MemI.own pre W _ none hI (World.grownBy_alloc W _ none) (fun r e => by cases e)
    have hkp : Kp (w.heap.size + 1) W (W.alloc (.cells x.row 45)) := Kp.alloc (Nat.lt_of_lt_of_le hI.lb hI.size) _
    have hkf : KeepsFrom WS.heap.size W (W.alloc (.cells x.row 45)) := ⟨hn.size, fun k o _ ho _ => (hn.same k (lt_get ho)).trans ho⟩
    have hbb := alloc_self W (.cells x.row 45)
    have HK : Aside _ := fun a' h => hK a' _ hkf hkp hI2 ⟨W.heap.size, h, hbb⟩
    clear hK hn hI2 hkp hkf hbb hI
    gi_wp2
    exact HK.out _ (by simp only [hrow])
  case hKb =>
    intro W l o o' hl ho hc _
    have hc2 : (W.putObj l o').cell? ⟨w.heap.size + 1, 0, none⟩ = W.cell? ⟨w.heap.size + 1, 0, none⟩ := World.cell?_of_block (w := W) (World.putObj_heap_other (by show w.heap.size + 1 ≠ l; omega))
    have hs := (grownBy_putObj' W l o').size
    refine ⟨hs, fun h => ⟨Nat.lt_of_lt_of_le h.lt hs, fun k hk => Nat.lt_of_lt_of_le (h.ok k ((wr_cell hc2 k).1 hk)) hs⟩, fun k u hk hu hn => ⟨(World.putObj_heap_other (fun e => ?_)).trans hk, fun hw => hn ((wr_cell hc2 k).1 hw)⟩⟩
    subst e
    rw [ho] at hk
    cases hk
    rw [hc] at hu
    cases hu
  case done =>
    rintro D ys W hD hS hI hK
    have hbx := hI.box
    obtain ⟨hc2, hf2⟩ := row_cells hbx
    have hl2 := lt_of_block hbx
    have HI : Aside _ := hI
    have HS2 : Aside _ := hS
    clear hI hS
    gi_wp2
    have H2 := HI.out.off
    have hK2 : (W.setCell ⟨w.heap.size + 1, 0, none⟩ (.bool false)).heap[D]? = some (.deferred (some [])) := (Below.heap_setCell _ _ _ _ (by show D ≠ w.heap.size + 1; omega)).trans hK
    refine ⟨by simp, .inl ⟨_, _, rfl, run_takeDeferred hK2, ?_⟩⟩
    refine ⟨_, results_cell_one rfl _ _ (w.heap.size + 1) (.bool false) (by rfl) (load_bool ((World.putObj_heap_other (by omega)).trans H2.box)), ?_⟩
    rw [← show ys.map ER.key = t.pre from HS2.out, HI.out.any]
    exact .mk (H2.ret HN.out (by omega) hD _)
  case stop =>
    rintro D c pre W hD hS ⟨rfl, hI⟩ hK
    have HI : Aside _ := hI
    have HS2 : Aside _ := hS
    clear hI hS
    gi_wp2
    refine ⟨by simp, .inl ⟨_, _, rfl, run_takeDeferred hK, ?_⟩⟩
    refine ⟨_, results_cell_one rfl _ _ (w.heap.size + 1) (.bool true) (by rfl) (load_bool ((World.putObj_heap_other (by omega)).trans HI.out.box)), ?_⟩
    rw [isAny_prefix HS2.out HI.out.any]
    exact .mk (HI.out.ret HN.out (by omega) hD _)
  case body =>
    rintro l pre x a' W hl hrec hI ⟨b, rfl, hb⟩ hlen
    have hbx := hI.box
    obtain ⟨hc2, hf2⟩ := row_cells hbx
    have hl2 := lt_of_block hbx
    obtain ⟨hc3, hf3⟩ := row_cells hb
    have hl3 := lt_of_block hb
    rw [hrow x] at hc3
    have HI : Aside _ := hI
    clear hI hbx hb hrec
    by_cases h6 : x.f = 6
    · have hg : gMem x.f = true := by rw [h6]; rfl
      gi_wp2
      exact ⟨(HI.out.stop (Nu.refl W) hg).1, rfl, (HI.out.stop (Nu.refl W) hg).2⟩
    by_cases h7 : x.f = 7
    · have hg : gMem x.f = true := by rw [h7]; rfl
      gi_wp2
      exact ⟨(HI.out.stop (Nu.refl W) hg).1, rfl, (HI.out.stop (Nu.refl W) hg).2⟩
    by_cases h8 : x.f = 8
    · have hg : gMem x.f = true := by rw [h8]; rfl
      gi_wp2
      exact ⟨(HI.out.stop (Nu.refl W) hg).1, rfl, (HI.out.stop (Nu.refl W) hg).2⟩
    by_cases h12 : x.f = 12
    · have hg : gMem x.f = true := by rw [h12]; rfl
      gi_wp2
      exact ⟨(HI.out.stop (Nu.refl W) hg).1, rfl, (HI.out.stop (Nu.refl W) hg).2⟩
    have e6 : (x.f == 6) = false := by simp [h6]
    have e7 : (x.f == 7) = false := by simp [h7]
    have e8 : (x.f == 8) = false := by simp [h8]
    have e12 : (x.f == 12) = false := by simp [h12]
    gi_wp2_with (fail)
    refine ⟨trivial, (CallsIn.inRound l (callsIn_wide.2 (call_part x _))).mono ?_⟩
    rintro _ _ hT
    cases hT with
    | yes hg =>
      have hg2 : gMem x.f = true := by simp [gMem, hg]
      gi_wp2
      exact ⟨kf_alloc (HI.out.stop (Nu.refl W) hg2).1 _, rfl, (HI.out.stop (Nu.refl W) hg2).2.alloc _⟩
    | no hg =>
      have hg2 : gMem x.f = false := by simp [gMem, hg, e6, e7, e8, e12]
      gi_wp2
      exact HI.out.step ((Nu.refl W).alloc _) hg2
end Go.Pa

namespace Go.Pa
open Go Go.RowKit Go.Proofs

/-- The text at a place of a list. -/
theorem UL.at_get {lo : Nat} {w : World} {v : Value} {l : List ByteArray} (h : UL lo w v l) {i : Nat} (hi : i < l.length) : ∃ b c, v = .slice (some ⟨b, 0, none⟩) l.length c ∧ lo ≤ b ∧ w.cell? ⟨b, i, none⟩ = some (.string l[i]) := by
  obtain ⟨g, cap, hv, hg, _⟩ := h.own.form (by omega)
  have h2 := h.own.cells (g := g) (by rw [hv]; rfl) i (.string l[i]) (by simp [hi])
  rw [show (⟨g, 0, none⟩ : Addr).add i = ⟨g, i, none⟩ by unfold Addr.add; split <;> simp_all] at h2
  exact ⟨g, cap, hv, hg, h2⟩

set_option maxHeartbeats 8000000 in
set_option maxRecDepth 100000 in
theorem Same_in {lo lo2 : Nat} {w : World} {v u : Value} {l : List ByteArray} (h : UL lo w v l) (k : UL lo2 w u l) (hl : l.length ≤ 20000) : Calls Try.prog 15 #[v, u] w (RetT w true) := by
  obtain ⟨a1, c1, rfl⟩ := h.form
  obtain ⟨a2, c2, rfl⟩ := k.form
  have HV : Aside _ := h
  have HU : Aside _ := k
  clear h k
  generalize hn : l.length = n at hl
  go_enter Try.func15, Try.ntmps15
  go_wp2
  go_loopg [4, 5] n (fun kx s4 s5 wr => ∃ i : Nat, s5 = .int .i64 (i : Int) ∧ i ≤ n ∧ n - i ≤ kx ∧ Aside (Nu w wr))
  case atStart => exact ⟨0, rfl, by omega, by omega, Nu.refl w⟩
  case round =>
    obtain ⟨i, rfl, hin, hix, A⟩ := hrel
    rcases Nat.lt_or_ge i n with hlt | hge
    · have hlt' : (i : Int) < n := by omega
      obtain ⟨b1, d1, hv1, _, hb1⟩ := (HV.out.nu A.out).at_get (i := i) (by omega)
      obtain ⟨b2, d2, hv2, _, hb2⟩ := (HU.out.nu A.out).at_get (i := i) (by omega)
      obtain ⟨rfl, rfl⟩ : a1 = some ⟨b1, 0, none⟩ ∧ c1 = d1 := by injection hv1 with h1 h2 h3; exact ⟨h1, h3⟩
      obtain ⟨rfl, rfl⟩ : a2 = some ⟨b2, 0, none⟩ ∧ c2 = d2 := by injection hv2 with h1 h2 h3; exact ⟨h1, h3⟩
      generalize l[i] = s at hb1 hb2
      clear hv1 hv2
      have hbl1 := lt_of_cell hb1
      have hbl2 := lt_of_cell hb2
      have hi2 : (i : Int) < n := by omega
      go_wp2
      go_region
      all_goals
        go_wp2
        go_roundg (n - (i + 1))
        case measure => omega
        case rel => exact ⟨i + 1, by go_num, by omega, by omega, A.out.drew⟩
    · have hge' : ¬ (i : Int) < n := by omega
      go_wp2
      go_ret
      exact .mk A.out

/-- All but the list's own block lies as it lay. -/
structure NuBut (v : Value) (w w' : World) : Prop where
  os : w'.os = w.os
  output : w'.output = w.output
  size : w.heap.size ≤ w'.heap.size
  same : ∀ k, k < w.heap.size → v.ownBlock ≠ some k → w'.heap[k]? = w.heap[k]?
inductive WipeR (v : Value) (w : World) : Ending → World → Prop
  | mk {w' : World} (k : NuBut v w w') : WipeR v w (.returned (.tuple #[])) w'

set_option maxHeartbeats 8000000 in
set_option maxRecDepth 100000 in
theorem wipe_in {lo : Nat} {w : World} {v : Value} {l : List ByteArray} (h : UL lo w v l) (hl : l.length ≤ 20000) : Calls Try.prog 14 #[v] w (WipeR v w) := by
  rcases h.own.2 with ⟨rfl, h0⟩ | ⟨g, cap, cur, hv, _, hgg, hnc, _, hsz, _⟩
  · go_enter Try.func14, Try.ntmps14
    go_wp2
    go_loopg [2] 0 (fun kx s2 wr => s2 = .int .i64 0 ∧ wr = w)
    case atStart => exact ⟨rfl, rfl⟩
    case round =>
      obtain ⟨rfl, rfl⟩ := hrel
      go_wp2
      go_end0
      exact .mk ⟨rfl, rfl, Nat.le_refl _, fun _ _ _ => rfl⟩
  · obtain ⟨n, hn⟩ : ∃ n, l.length = n := ⟨_, rfl⟩
    rw [hn] at hv hnc hl
    subst hv
    have hcs : n ≤ cur.size := by rw [hsz]; omega
    have hgl := lt_of_block hgg
    clear h hn
    go_enter Try.func14, Try.ntmps14
    go_wp2
    go_loopg [2] n (fun kx s2 wr => ∃ (i : Nat) (cs : Array Value), s2 = .int .i64 (i : Int) ∧ i ≤ n ∧ n - i ≤ kx ∧ n ≤ cs.size ∧ Aside (wr.heap[g]? = some (.cells cs 9 (0, 0)) ∧ NuBut (.slice (some ⟨g, 0, none⟩) n cap) w wr))
    case atStart => exact ⟨0, cur, rfl, by omega, by omega, hcs, hgg, ⟨rfl, rfl, Nat.le_refl _, fun _ _ _ => rfl⟩⟩
    case round =>
      obtain ⟨i, cs, rfl, hin, hix, hcz, A⟩ := hrel
      rcases Nat.lt_or_ge i n with hlt | hge
      · have hlt' : (i : Int) < n := by omega
        have hic : i < cs.size := by omega
        have hcell : wr.cell? ⟨g, i, none⟩ = some cs[i] := by rw [cell_of_row _ _ _ _ _ _ A.out.1]; simp [hic]
        have hfz : wr.frozen? ⟨g, i, none⟩ = false := by simp [World.frozen?, A.out.1]
        have hgr := lt_of_block A.out.1
        have A2 : Aside ((wr.setCell ⟨g, i, none⟩ (.string ⟨#[63]⟩)).heap[g]? = some (.cells (cs.setIfInBounds i (.string ⟨#[63]⟩)) 9 (0, 0)) ∧ NuBut (.slice (some ⟨g, 0, none⟩) n cap) w (wr.setCell ⟨g, i, none⟩ (.string ⟨#[63]⟩))) :=
          ⟨heap_setCell_self A.out.1 _, ⟨A.out.2.os, A.out.2.output, by simpa using A.out.2.size, fun k hk hn => (Below.heap_setCell _ _ _ _ (fun e => hn (by rw [e]; rfl))).trans (A.out.2.same k hk hn)⟩⟩
        clear A
        go_wp2
        go_roundg (n - (i + 1))
        case measure => omega
        case rel => exact ⟨i + 1, _, by go_num, by omega, by omega, by simpa using hcz, A2⟩
      · have hge' : ¬ (i : Int) < n := by omega
        go_wp2
        go_end0
        exact .mk A.out.2
end Go.Pa
