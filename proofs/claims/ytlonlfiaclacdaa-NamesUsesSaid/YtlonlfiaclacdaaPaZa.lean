/-
  The program's told (own work).
-/
import Derived.Test.YtlonlfiaclacdaaPaZ
import Derived.Shelf.Abstract
import Derived.Maps.OwnIn
namespace Go.Pa
open Go Go.RowKit Go.Proofs
attribute [local go_sem] Oper.semAt_some

/-- In told: what holds when some parts have come. -/
structure ToldI (g : Int → Bool) (Lb : Nat) (w : World) (pre : List ER) (W : World) : Prop where
  os : W.os = w.os
  output : W.output = w.output
  size : w.heap.size ≤ W.heap.size
  same : ∀ k, k < w.heap.size → k ≠ Lb → W.heap[k]? = w.heap[k]?
  lb : Lb < w.heap.size
  box : ∃ a c, W.heap[Lb]? = some (.cells #[.slice a (told g (pre.map ER.key)).length c] 23 (0, 0)) ∧ UL w.heap.size W (.slice a (told g (pre.map ER.key)).length c) (told g (pre.map ER.key))
theorem ToldI.own {g : Int → Bool} {Lb : Nat} {w : World} : OwnFrom w.heap.size (fun pre W => ToldI g Lb w pre W) := by
  intro pre W W' row h hg hr
  have hnc : ∀ k cs T fr, W.heap[k]? = some (Obj.cells cs T fr) → W'.heap[k]? = W.heap[k]? := fun k cs T fr hk => hg.block k (lt_get hk) (fun e => by
    obtain ⟨_, o, ho, hc⟩ := hr k e.symm
    rw [hk] at ho
    cases ho
    cases hc)
  obtain ⟨a, c, h1, h2⟩ := h.box
  refine ⟨hg.os.trans h.os, hg.output.trans h.output, Nat.le_trans h.size hg.size, fun k hk hn => (hg.block k (Nat.lt_of_lt_of_le hk h.size) (fun e => by have := (hr k e.symm).1; omega)).trans (h.same k hk hn), h.lb, a, c, (hnc _ _ _ _ h1).trans h1, ⟨own_frame h2.own fun b hb => ?_⟩⟩
  rcases h2.own.2 with ⟨e, _⟩ | ⟨g', cap, cur, e, _, hgg, _⟩
  · rw [e] at hb; cases hb
  · rw [e] at hb
    cases hb
    exact hnc _ _ _ _ hgg

theorem UL.at_cells {lo : Nat} {w : World} {v : Value} {l : List ByteArray} (h : UL lo w v l) {b : Nat} (hb : v.ownBlock = some b) : ∃ n c cs T fr, v = .slice (some ⟨b, 0, none⟩) n c ∧ w.heap[b]? = some (Obj.cells cs T fr) := by
  rcases h.own.2 with ⟨e, _⟩ | ⟨g', cap, cur, e, _, hgg, _⟩
  · rw [e] at hb; cases hb
  · rw [e] at hb
    cases hb
    exact ⟨_, _, _, _, _, e, hgg⟩
theorem told_snoc (g : Int → Bool) (pre : List ER) (x : ER) : told g ((pre ++ [x]).map ER.key) = told g (pre.map ER.key) ++ if g x.f then [x.nm] else [] := by
  rw [List.map_append, told_append]
  show _ ++ told g [(x.f, x.nm)] = _
  rw [told_one]
theorem ToldI.skip {g : Int → Bool} {Lb : Nat} {w : World} {pre : List ER} {W : World} (h : ToldI g Lb w pre W) {x : ER} (hx : g x.f = false) (o : Obj) :
    KeepsFrom w.heap.size W (W.alloc o) ∧ Kp Lb W (W.alloc o) ∧ ToldI g Lb w (pre ++ [x]) (W.alloc o) := by
  have hn : Nu W (W.alloc o) := (Nu.refl W).alloc _
  have hI2 := ToldI.own pre W _ none h (World.grownBy_alloc W o none) (fun r e => by cases e)
  refine ⟨⟨hn.size, fun k o _ ho _ => (hn.same k (lt_get ho)).trans ho⟩, Kp.alloc (Nat.lt_of_lt_of_le h.lb h.size) _, ?_⟩
  have e : told g ((pre ++ [x]).map ER.key) = told g (pre.map ER.key) := by rw [told_snoc, hx]; simp
  exact ⟨hI2.os, hI2.output, hI2.size, hI2.same, hI2.lb, by rw [e]; exact hI2.box⟩
theorem ToldI.push {g : Int → Bool} {Lb : Nat} {w : World} {pre : List ER} {W W2 w4 : World} (h : ToldI g Lb w pre W) {x : ER} (hx : g x.f = true) {a : Option Addr} {c : Nat}
    (hbx : W.heap[Lb]? = some (.cells #[.slice a (told g (pre.map ER.key)).length c] 23 (0, 0))) (hul : UL w.heap.size W (.slice a (told g (pre.map ER.key)).length c) (told g (pre.map ER.key)))
    (hn : Nu W W2) {a' : Option Addr} {c' : Nat} (hown : w4.ownsRow w.heap.size 9 1 (.slice a' ((told g (pre.map ER.key)).length + 1) c') ((told g (pre.map ER.key)).length + 1) ((told g (pre.map ER.key)).map Value.string ++ [Value.string x.nm]))
    (hgr : W2.grownBy w4 (Value.slice a (told g (pre.map ER.key)).length c).ownBlock) (hat : (Value.slice a' ((told g (pre.map ER.key)).length + 1) c').ownBlock = (Value.slice a (told g (pre.map ER.key)).length c).ownBlock ∨ (Value.slice a' ((told g (pre.map ER.key)).length + 1) c').ownBlock = some W2.heap.size) :
    w4.heap[Lb]? = some (.cells #[.slice a (told g (pre.map ER.key)).length c] 23 (0, 0)) ∧
    KeepsFrom w.heap.size W (w4.setCell ⟨Lb, 0, none⟩ (.slice a' ((told g (pre.map ER.key)).length + 1) c')) ∧ Kp Lb W (w4.setCell ⟨Lb, 0, none⟩ (.slice a' ((told g (pre.map ER.key)).length + 1) c')) ∧ ToldI g Lb w (pre ++ [x]) (w4.setCell ⟨Lb, 0, none⟩ (.slice a' ((told g (pre.map ER.key)).length + 1) c')) := by
  have e : told g ((pre ++ [x]).map ER.key) = told g (pre.map ER.key) ++ [x.nm] := by rw [told_snoc, hx]; simp
  have hlen : (told g (pre.map ER.key)).length + 1 = (told g (pre.map ER.key) ++ [x.nm]).length := by simp
  have hmap : (told g (pre.map ER.key)).map Value.string ++ [Value.string x.nm] = (told g (pre.map ER.key) ++ [x.nm]).map Value.string := by simp
  have hLb := h.lb
  have hsz := h.size
  have hBo : ∀ b, (Value.slice a (told g (pre.map ER.key)).length c).ownBlock = some b → w.heap.size ≤ b ∧ b < W.heap.size := fun b hb => hul.own.lt b hb
  have hcell : W.cell? ⟨Lb, 0, none⟩ = some (.slice a (told g (pre.map ER.key)).length c) := by simp [World.cell?, hbx]
  have b4 : w4.heap[Lb]? = some (.cells #[.slice a (told g (pre.map ER.key)).length c] 23 (0, 0)) :=
    (hgr.block Lb (by have := hn.size; omega) (fun e => by have := (hBo _ e.symm).1; omega)).trans ((hn.same Lb (by omega)).trans hbx)
  have b5 : (w4.setCell ⟨Lb, 0, none⟩ (.slice a' ((told g (pre.map ER.key)).length + 1) c')).heap[Lb]? = some (.cells #[.slice a' ((told g (pre.map ER.key)).length + 1) c'] 23 (0, 0)) := heap_setCell_self (o := 0) b4 _
  have hblk : ∀ k, k < W.heap.size → k ≠ Lb → some k ≠ (Value.slice a (told g (pre.map ER.key)).length c).ownBlock → (w4.setCell ⟨Lb, 0, none⟩ (.slice a' ((told g (pre.map ER.key)).length + 1) c')).heap[k]? = W.heap[k]? := fun k hk h1 h2 =>
    (Below.heap_setCell _ _ _ _ h1).trans ((hgr.block k (Nat.lt_of_lt_of_le hk hn.size) h2).trans (hn.same k hk))
  have hs4 : W.heap.size ≤ (w4.setCell ⟨Lb, 0, none⟩ (.slice a' ((told g (pre.map ER.key)).length + 1) c')).heap.size := by have := hn.size; have := hgr.size; simp; omega
  have hwr : ∀ k, k ≠ Lb → Wr Lb (w4.setCell ⟨Lb, 0, none⟩ (.slice a' ((told g (pre.map ER.key)).length + 1) c')) k → (Value.slice a' ((told g (pre.map ER.key)).length + 1) c').ownBlock = some k := by
    intro k hk hw
    rcases hw with hw | ⟨n2, c2, hw⟩
    · exact absurd hw hk
    · simp [World.cell?, b5] at hw
      rw [hw.1]
      rfl
  have hul4 : UL w.heap.size (w4.setCell ⟨Lb, 0, none⟩ (.slice a' ((told g (pre.map ER.key)).length + 1) c')) (.slice a' ((told g (pre.map ER.key)).length + 1) c') (told g (pre.map ER.key) ++ [x.nm]) := by
    refine ⟨?_⟩
    rw [← hlen, ← hmap]
    exact own_frame hown fun b hb => Below.heap_setCell _ _ _ _ (by have := (World.ownsRow.lt hown b hb).1; show b ≠ Lb; omega)
  refine ⟨b4, ⟨hs4, fun k o hk ho hc => ?_⟩, ⟨hs4, fun _ => ⟨Nat.lt_of_lt_of_le (by omega) hs4, fun k hk => ?_⟩, fun k o hk hc hnw => ?_⟩, ?_⟩
  · refine (hblk k (lt_get ho) (by omega) fun e => ?_).trans ho
    obtain ⟨_, _, _, _, _, _, h2⟩ := hul.at_cells e.symm
    rw [ho] at h2
    cases h2
    cases hc
  · by_cases hkL : k = Lb
    · omega
    · exact (hul4.own.lt k (hwr k hkL hk)).2
  · have hkL : k ≠ Lb := fun e => hnw (.inl e)
    have hkB : some k ≠ (Value.slice a (told g (pre.map ER.key)).length c).ownBlock := fun e => by
      obtain ⟨n2, c2, _, _, _, h1, _⟩ := hul.at_cells e.symm
      exact hnw (.inr ⟨n2, c2, by rw [hcell, h1]⟩)
    refine ⟨(hblk k (lt_get hk) hkL hkB).trans hk, fun hw => ?_⟩
    have := hwr k hkL hw
    rcases hat with h1 | h1
    · exact hkB (by rw [← h1, this])
    · rw [h1] at this
      have := lt_get hk
      have := hn.size
      injection ‹some W2.heap.size = some k›
      omega
  · refine ⟨?_, ?_, Nat.le_trans hsz hs4, fun k hk h1 => (hblk k (by omega) h1 fun e => by have := (hBo _ e.symm).1; omega).trans (h.same k hk h1), hLb, a', c', ?_⟩
    · exact (hgr.os.trans hn.os).trans h.os
    · exact (hgr.output.trans hn.output).trans h.output
    · rw [e, ← hlen]
      refine ⟨b5, ?_⟩
      rw [hlen]
      rw [hlen] at hul4
      exact hul4
theorem ToldI.ret {g : Int → Bool} {Lb : Nat} {w w3 : World} {pre : List ER} {W : World} (h : ToldI g Lb w3 pre W) (hN : Nu w w3) (hLb : w.heap.size ≤ Lb) {D : Nat} {ds : Option (List Deferred)} (hD : w3.heap.size ≤ D) (hK : W.heap[D]? = some (.deferred ds)) (o : Obj) {a : Option Addr} {c : Nat}
    (hul : UL w3.heap.size W (.slice a (told g (pre.map ER.key)).length c) (told g (pre.map ER.key))) : RetU w (told g (pre.map ER.key)) (.returned (.slice a (told g (pre.map ER.key)).length c)) (W.putObj D o) := by
  have hg := grownBy_putObj' W D o
  have hs := hN.size
  refine .mk ⟨hg.os.trans (h.os.trans hN.os), hg.output.trans (h.output.trans hN.output), Nat.le_trans hs (Nat.le_trans h.size hg.size), fun k hk => (World.putObj_heap_other (by omega)).trans ((h.same k (by omega) (by omega)).trans (hN.same k hk))⟩ (UL.mono (lo := w3.heap.size) ⟨own_frame hul.own fun b hb => World.putObj_heap_other fun e => ?_⟩ hs)
  subst e
  obtain ⟨_, _, _, _, _, _, h2⟩ := hul.at_cells hb
  rw [hK] at h2
  cases h2

set_option maxHeartbeats 16000000 in
set_option maxRecDepth 100000 in
theorem toldUse_in (B : Nat → Prop) (p : ER) (t : Tree) (w : World) (hE : IsExp B w p t) (hcn : t.cnt ≤ 20000) : Calls Try.prog 22 #[.agg p.row, .func (.func 23) #[] #[]] w (RetU w (told gUse t.pre)) := by
  have hrow : ∀ q : ER, q.row = #[.int .i64 q.f, .int .i64 q.s, .string q.nm, .int .i64 q.tk, .int .i64 q.tl, .int .i64 q.n, .int .i64 q.m, .slice q.ka q.kl q.kc, .int .i64 q.at'] := fun _ => rfl
  have HE : Aside _ := hE.bound
  clear hE
  obtain ⟨i0, hi, hz0, hz1, hz2⟩ := info_parts info9
  refine (callsIn_wide (n := 5)).1 ?_
  refine callsIn_of_wp_marks Try.func22 rfl trivial ?_ rfl
  simp only [Try.ntmps22, List.size_toArray, List.length_cons, List.length_nil, Nat.reduceAdd, Nat.reduceSub, Array.replicate_succ, Array.replicate_zero, List.push_toArray, List.append_toArray, List.nil_append, List.cons_append]
  rw [hrow]
  gi_wp2_with (fail)
  refine ⟨trivial, (callsIn_wide.2 (Parts_in p _)).mono ?_⟩
  rintro _ WS ⟨rfl, hWS⟩
  have hsz : WS.heap.size = w.heap.size + 4 := by rw [hWS]; simp
  have hN : Nu w WS := by rw [hWS]; exact ((((Nu.refl w).alloc _).alloc _).alloc _).alloc _
  have b0 : WS.heap[w.heap.size]? = some (.cells p.row 45 (0, 0)) := by
    rw [hWS]
    exact (Below.heap_alloc _ _ _ (by simp <;> omega)).trans ((Below.heap_alloc _ _ _ (by simp <;> omega)).trans ((Below.heap_alloc _ _ _ (by simp)).trans (alloc_self w _)))
  have b1 : WS.heap[w.heap.size + 1]? = some (.cells #[.func (.func 23) #[] #[]] 64 (0, 0)) := by
    rw [hWS]
    exact (Below.heap_alloc _ _ _ (by simp <;> omega)).trans ((Below.heap_alloc _ _ _ (by simp <;> omega)).trans (alloc_at (n := w.heap.size + 1) (by simp)))
  have b2 : WS.heap[w.heap.size + 2]? = some (.cells #[.slice none 0 0] 23 (0, 0)) := by
    rw [hWS]
    exact (Below.heap_alloc _ _ _ (by simp)).trans (alloc_at (n := w.heap.size + 2) (by simp))
  have b3 : WS.heap[w.heap.size + 3]? = some (.cells p.row 45 (0, 0)) := by
    rw [hWS]
    exact alloc_at (n := w.heap.size + 3) (by simp)
  have hok : WrOk (w.heap.size + 2) WS := by
    refine ⟨by omega, fun k hk => ?_⟩
    rcases hk with rfl | ⟨n, c, hk⟩
    · omega
    · simp [World.cell?, b2] at hk
  have hEW : IsExp (fun b => ¬ Wr (w.heap.size + 2) WS b) WS p t := by
    refine (HE.out.nu hN).mono fun b hb hw => ?_
    rcases hw with rfl | ⟨n, c, hw⟩
    · have := hb.2; omega
    · simp [World.cell?, b2] at hw
  have hI0 : ToldI gUse (w.heap.size + 2) WS [] WS := ⟨rfl, rfl, Nat.le_refl _, fun _ _ _ => rfl, by omega, none, 0, b2, UL.nil _ _⟩
  have hseq := parts_seq 4 (w.heap.size + 2) 20000 (w.heap.size + 3) p t WS b3 hEW hok hcn hcn
  have HN : Aside _ := hN
  have HB1 : Aside _ := b1
  have HI0 : Aside _ := hI0
  have HS : Aside _ := hseq
  have hsz' : w.heap.size + 4 = WS.heap.size := hsz.symm
  clear hWS hN b0 b1 b2 b3 hok hEW hI0 hseq hsz
  gi_wp2
  refine wpIn_rangeFunc_ownH (F := Fence.wide) rfl (by decide) (gf := 34) (lb := #[.pointer (some ⟨w.heap.size + 3, 0, none⟩)]) rfl trivial (enters_of Try.func34 (by kernel_rfl) rfl) HS.out (fun h k => h.trans k) ?hKb (Below.refl _ _) (fun _ => rfl) (fun pre W => ToldI gUse (w.heap.size + 2) WS pre W) (fun _ _ _ => False) ToldI.own (fun _ _ _ _ _ h _ _ => h) HI0.out (fun x a' W => ∃ b, a' = { tmps := #[.agg p.row, .func (.func 23) #[] #[], .pointer (some ⟨w.heap.size, 0, none⟩), .pointer (some ⟨w.heap.size + 1, 0, none⟩), .slice none 0 0, .pointer (some ⟨w.heap.size + 1 + 1, 0, none⟩), .pointer (some ⟨b, 0, none⟩), undef, undef, .agg p.row, .func (.func 34) #[] #[.pointer (some ⟨w.heap.size + 1 + 1 + 1, 0, none⟩)], .agg x.row, undef, undef, undef, undef, undef, undef, undef, undef, undef, undef, undef, undef], defers := [] } ∧ W.heap[b]? = some (.cells x.row 45 (0, 0))) ?hAx ?assign ?body ?done ?stop
  case hAx =>
    rintro x a' _ W W' row ⟨b, h1, h2⟩ hg hr
    refine ⟨b, h1, (hg.block b (lt_get h2) fun e => ?_).trans h2⟩
    obtain ⟨_, o, ho, hc⟩ := hr b e.symm
    rw [h2] at ho
    cases ho
    cases hc
  case assign =>
    intro l pre x W K hI hK
    have hn : Nu W (W.alloc (.cells x.row 45)) := (Nu.refl W).alloc _
    have hI2 : ToldI gUse (w.heap.size + 2) WS pre (W.alloc (.cells x.row 45)) := ToldI.own pre W _ none hI (World.grownBy_alloc W _ none) (fun r e => by cases e)
    have hkp : Kp (w.heap.size + 2) W (W.alloc (.cells x.row 45)) := Kp.alloc (Nat.lt_of_lt_of_le hI.lb hI.size) _
    have hkf : KeepsFrom WS.heap.size W (W.alloc (.cells x.row 45)) := ⟨hn.size, fun k o _ ho _ => (hn.same k (lt_get ho)).trans ho⟩
    have hbb := alloc_self W (.cells x.row 45)
    have HK : Aside _ := fun a' h => hK a' _ hkf hkp hI2 ⟨W.heap.size, h, hbb⟩
    clear hK hn hI2 hkp hkf hbb hI
    gi_wp2
    exact HK.out _ (by simp only [hrow])
  case hKb =>
    intro W l o o' hl ho hc _
    have hc2 : (W.putObj l o').cell? ⟨w.heap.size + 2, 0, none⟩ = W.cell? ⟨w.heap.size + 2, 0, none⟩ := World.cell?_of_block (w := W) (World.putObj_heap_other (by show w.heap.size + 2 ≠ l; omega))
    have hs := (grownBy_putObj' W l o').size
    refine ⟨hs, fun h => ⟨Nat.lt_of_lt_of_le h.lt hs, fun k hk => Nat.lt_of_lt_of_le (h.ok k ((wr_cell hc2 k).1 hk)) hs⟩, fun k u hk hu hn => ⟨(World.putObj_heap_other (fun e => ?_)).trans hk, fun hw => hn ((wr_cell hc2 k).1 hw)⟩⟩
    subst e
    rw [ho] at hk
    cases hk
    rw [hc] at hu
    cases hu
  case done =>
    rintro D ys W hD hS hI hK
    obtain ⟨a, c, hbx, hul⟩ := hI.box
    obtain ⟨hc2, hf2⟩ := row_cells hbx
    have hl2 := lt_of_block hbx
    have HI : Aside _ := hI
    have HU : Aside _ := hul
    have HS2 : Aside _ := hS
    clear hI hul hS hbx
    gi_wp2
    refine ⟨by simp, .inl ⟨_, _, rfl, run_takeDeferred hK, ?_⟩⟩
    refine ⟨_, results_tmp rfl _ _ _, ?_⟩
    rw [← show ys.map ER.key = t.pre from HS2.out]
    exact HI.out.ret HN.out (by omega) hD hK (.deferred none) HU.out
  case stop =>
    rintro D c pre W _ _ h _
    exact h.elim
  case body =>
    rintro l pre x a' W hl hrec hI ⟨b, rfl, hb⟩ hlen
    have B1 : W.heap[w.heap.size + 1]? = some (.cells #[.func (.func 23) #[] #[]] 64 (0, 0)) := (hI.same _ (by omega) (by omega)).trans HB1.out
    obtain ⟨a, c, hbx, hul⟩ := hI.box
    obtain ⟨hc1, hf1⟩ := row_cells B1
    have hl1 := lt_of_block B1
    obtain ⟨hc2, hf2⟩ := row_cells hbx
    have hl2 := lt_of_block hbx
    obtain ⟨hc3, hf3⟩ := row_cells hb
    have hl3 := lt_of_block hb
    rw [hrow x] at hc3
    have HI : Aside _ := hI
    have HU : Aside _ := hul
    have HX2 : Aside _ := hbx
    clear hI hul hbx hb B1 hrec
    gi_wp2_with (fail)
    refine ⟨trivial, (CallsIn.inRound l (callsIn_wide.2 (use_in x _))).mono ?_⟩
    rintro _ _ hT
    cases hT with
    | yes hg =>
      have hll : (told gUse (pre.map ER.key)).length < 20000 := Nat.lt_of_le_of_lt (told_length _ _) (by rw [List.length_map]; exact hlen)
      have A1 : Aside _ := (HU.out.nu ((Nu.refl W).alloc (.cells x.row 45))).nu ((Nu.refl _).alloc (.cells #[.string x.nm] 9))
      have hWS : WS.heap.size ≤ W.heap.size := HI.out.size
      gi_wp2_with (first | (gi_at_builtin; refine wpListIn_append_own_at _ rfl _ _ 23 rfl WS.heap.size 9 i0 _ 1 16 Try.underlying23 hi hz0 hz1 hz2 rfl (by decide) _ (told gUse (pre.map ER.key)).length ((told gUse (pre.map ER.key)).map Value.string) rfl A1.out.own ⟨W.heap.size + 1, 0, none⟩ 1 1 [Value.string x.nm] rfl rfl ?c1 (string_one x.nm) ?c2 ?c3 ?c4 ?_))
      case c1 => first | exact World.news_of_block (alloc_at (n := W.heap.size + 1) (by simp)) | (intro j u h; simpa using h)
      case c2 => unfold maxLen; omega
      case c3 => omega
      case c4 => (try simp); omega
      intro v4 w4 hown hgrow hnil hat
      obtain ⟨a4, c4, rfl⟩ := own_form hown
      obtain ⟨b4, hkf, hkp, hti⟩ := HI.out.push hg HX2.out HU.out (((Nu.refl W).alloc _).alloc _) hown hgrow (by simpa using hat)
      obtain ⟨hc4, hf4⟩ := row_cells b4
      have hl4 := lt_of_block b4
      have HF : Aside _ := (⟨hkf, hkp, hti⟩ : _ ∧ _ ∧ _)
      clear hown hgrow hnil hat b4 hkf hkp hti
      gi_wp2
      exact HF.out
    | no hg =>
      gi_wp2
      rw [← hrow x]
      exact HI.out.skip hg _

set_option maxHeartbeats 16000000 in
set_option maxRecDepth 100000 in
theorem toldCall_in (B : Nat → Prop) (p : ER) (t : Tree) (w : World) (hE : IsExp B w p t) (hcn : t.cnt ≤ 20000) : Calls Try.prog 22 #[.agg p.row, .func (.func 24) #[] #[]] w (RetU w (told gCall t.pre)) := by
  have hrow : ∀ q : ER, q.row = #[.int .i64 q.f, .int .i64 q.s, .string q.nm, .int .i64 q.tk, .int .i64 q.tl, .int .i64 q.n, .int .i64 q.m, .slice q.ka q.kl q.kc, .int .i64 q.at'] := fun _ => rfl
  have HE : Aside _ := hE.bound
  clear hE
  obtain ⟨i0, hi, hz0, hz1, hz2⟩ := info_parts info9
  refine (callsIn_wide (n := 5)).1 ?_
  refine callsIn_of_wp_marks Try.func22 rfl trivial ?_ rfl
  simp only [Try.ntmps22, List.size_toArray, List.length_cons, List.length_nil, Nat.reduceAdd, Nat.reduceSub, Array.replicate_succ, Array.replicate_zero, List.push_toArray, List.append_toArray, List.nil_append, List.cons_append]
  rw [hrow]
  gi_wp2_with (fail)
  refine ⟨trivial, (callsIn_wide.2 (Parts_in p _)).mono ?_⟩
  rintro _ WS ⟨rfl, hWS⟩
  have hsz : WS.heap.size = w.heap.size + 4 := by rw [hWS]; simp
  have hN : Nu w WS := by rw [hWS]; exact ((((Nu.refl w).alloc _).alloc _).alloc _).alloc _
  have b0 : WS.heap[w.heap.size]? = some (.cells p.row 45 (0, 0)) := by
    rw [hWS]
    exact (Below.heap_alloc _ _ _ (by simp <;> omega)).trans ((Below.heap_alloc _ _ _ (by simp <;> omega)).trans ((Below.heap_alloc _ _ _ (by simp)).trans (alloc_self w _)))
  have b1 : WS.heap[w.heap.size + 1]? = some (.cells #[.func (.func 24) #[] #[]] 64 (0, 0)) := by
    rw [hWS]
    exact (Below.heap_alloc _ _ _ (by simp <;> omega)).trans ((Below.heap_alloc _ _ _ (by simp <;> omega)).trans (alloc_at (n := w.heap.size + 1) (by simp)))
  have b2 : WS.heap[w.heap.size + 2]? = some (.cells #[.slice none 0 0] 23 (0, 0)) := by
    rw [hWS]
    exact (Below.heap_alloc _ _ _ (by simp)).trans (alloc_at (n := w.heap.size + 2) (by simp))
  have b3 : WS.heap[w.heap.size + 3]? = some (.cells p.row 45 (0, 0)) := by
    rw [hWS]
    exact alloc_at (n := w.heap.size + 3) (by simp)
  have hok : WrOk (w.heap.size + 2) WS := by
    refine ⟨by omega, fun k hk => ?_⟩
    rcases hk with rfl | ⟨n, c, hk⟩
    · omega
    · simp [World.cell?, b2] at hk
  have hEW : IsExp (fun b => ¬ Wr (w.heap.size + 2) WS b) WS p t := by
    refine (HE.out.nu hN).mono fun b hb hw => ?_
    rcases hw with rfl | ⟨n, c, hw⟩
    · have := hb.2; omega
    · simp [World.cell?, b2] at hw
  have hI0 : ToldI gCall (w.heap.size + 2) WS [] WS := ⟨rfl, rfl, Nat.le_refl _, fun _ _ _ => rfl, by omega, none, 0, b2, UL.nil _ _⟩
  have hseq := parts_seq 4 (w.heap.size + 2) 20000 (w.heap.size + 3) p t WS b3 hEW hok hcn hcn
  have HN : Aside _ := hN
  have HB1 : Aside _ := b1
  have HI0 : Aside _ := hI0
  have HS : Aside _ := hseq
  have hsz' : w.heap.size + 4 = WS.heap.size := hsz.symm
  clear hWS hN b0 b1 b2 b3 hok hEW hI0 hseq hsz
  gi_wp2
  refine wpIn_rangeFunc_ownH (F := Fence.wide) rfl (by decide) (gf := 34) (lb := #[.pointer (some ⟨w.heap.size + 3, 0, none⟩)]) rfl trivial (enters_of Try.func34 (by kernel_rfl) rfl) HS.out (fun h k => h.trans k) ?hKb (Below.refl _ _) (fun _ => rfl) (fun pre W => ToldI gCall (w.heap.size + 2) WS pre W) (fun _ _ _ => False) ToldI.own (fun _ _ _ _ _ h _ _ => h) HI0.out (fun x a' W => ∃ b, a' = { tmps := #[.agg p.row, .func (.func 24) #[] #[], .pointer (some ⟨w.heap.size, 0, none⟩), .pointer (some ⟨w.heap.size + 1, 0, none⟩), .slice none 0 0, .pointer (some ⟨w.heap.size + 1 + 1, 0, none⟩), .pointer (some ⟨b, 0, none⟩), undef, undef, .agg p.row, .func (.func 34) #[] #[.pointer (some ⟨w.heap.size + 1 + 1 + 1, 0, none⟩)], .agg x.row, undef, undef, undef, undef, undef, undef, undef, undef, undef, undef, undef, undef], defers := [] } ∧ W.heap[b]? = some (.cells x.row 45 (0, 0))) ?hAx ?assign ?body ?done ?stop
  case hAx =>
    rintro x a' _ W W' row ⟨b, h1, h2⟩ hg hr
    refine ⟨b, h1, (hg.block b (lt_get h2) fun e => ?_).trans h2⟩
    obtain ⟨_, o, ho, hc⟩ := hr b e.symm
    rw [h2] at ho
    cases ho
    cases hc
  case assign =>
    intro l pre x W K hI hK
    have hn : Nu W (W.alloc (.cells x.row 45)) := (Nu.refl W).alloc _
    have hI2 : ToldI gCall (w.heap.size + 2) WS pre (W.alloc (.cells x.row 45)) := ToldI.own pre W _ none hI (World.grownBy_alloc W _ none) (fun r e => by cases e)
    have hkp : Kp (w.heap.size + 2) W (W.alloc (.cells x.row 45)) := Kp.alloc (Nat.lt_of_lt_of_le hI.lb hI.size) _
    have hkf : KeepsFrom WS.heap.size W (W.alloc (.cells x.row 45)) := ⟨hn.size, fun k o _ ho _ => (hn.same k (lt_get ho)).trans ho⟩
    have hbb := alloc_self W (.cells x.row 45)
    have HK : Aside _ := fun a' h => hK a' _ hkf hkp hI2 ⟨W.heap.size, h, hbb⟩
    clear hK hn hI2 hkp hkf hbb hI
    gi_wp2
    exact HK.out _ (by simp only [hrow])
  case hKb =>
    intro W l o o' hl ho hc _
    have hc2 : (W.putObj l o').cell? ⟨w.heap.size + 2, 0, none⟩ = W.cell? ⟨w.heap.size + 2, 0, none⟩ := World.cell?_of_block (w := W) (World.putObj_heap_other (by show w.heap.size + 2 ≠ l; omega))
    have hs := (grownBy_putObj' W l o').size
    refine ⟨hs, fun h => ⟨Nat.lt_of_lt_of_le h.lt hs, fun k hk => Nat.lt_of_lt_of_le (h.ok k ((wr_cell hc2 k).1 hk)) hs⟩, fun k u hk hu hn => ⟨(World.putObj_heap_other (fun e => ?_)).trans hk, fun hw => hn ((wr_cell hc2 k).1 hw)⟩⟩
    subst e
    rw [ho] at hk
    cases hk
    rw [hc] at hu
    cases hu
  case done =>
    rintro D ys W hD hS hI hK
    obtain ⟨a, c, hbx, hul⟩ := hI.box
    obtain ⟨hc2, hf2⟩ := row_cells hbx
    have hl2 := lt_of_block hbx
    have HI : Aside _ := hI
    have HU : Aside _ := hul
    have HS2 : Aside _ := hS
    clear hI hul hS hbx
    gi_wp2
    refine ⟨by simp, .inl ⟨_, _, rfl, run_takeDeferred hK, ?_⟩⟩
    refine ⟨_, results_tmp rfl _ _ _, ?_⟩
    rw [← show ys.map ER.key = t.pre from HS2.out]
    exact HI.out.ret HN.out (by omega) hD hK (.deferred none) HU.out
  case stop =>
    rintro D c pre W _ _ h _
    exact h.elim
  case body =>
    rintro l pre x a' W hl hrec hI ⟨b, rfl, hb⟩ hlen
    have B1 : W.heap[w.heap.size + 1]? = some (.cells #[.func (.func 24) #[] #[]] 64 (0, 0)) := (hI.same _ (by omega) (by omega)).trans HB1.out
    obtain ⟨a, c, hbx, hul⟩ := hI.box
    obtain ⟨hc1, hf1⟩ := row_cells B1
    have hl1 := lt_of_block B1
    obtain ⟨hc2, hf2⟩ := row_cells hbx
    have hl2 := lt_of_block hbx
    obtain ⟨hc3, hf3⟩ := row_cells hb
    have hl3 := lt_of_block hb
    rw [hrow x] at hc3
    have HI : Aside _ := hI
    have HU : Aside _ := hul
    have HX2 : Aside _ := hbx
    clear hI hul hbx hb B1 hrec
    gi_wp2_with (fail)
    refine ⟨trivial, (CallsIn.inRound l (callsIn_wide.2 (call_part x _))).mono ?_⟩
    rintro _ _ hT
    cases hT with
    | yes hg =>
      have hll : (told gCall (pre.map ER.key)).length < 20000 := Nat.lt_of_le_of_lt (told_length _ _) (by rw [List.length_map]; exact hlen)
      have A1 : Aside _ := (HU.out.nu ((Nu.refl W).alloc (.cells x.row 45))).nu ((Nu.refl _).alloc (.cells #[.string x.nm] 9))
      have hWS : WS.heap.size ≤ W.heap.size := HI.out.size
      gi_wp2_with (first | (gi_at_builtin; refine wpListIn_append_own_at _ rfl _ _ 23 rfl WS.heap.size 9 i0 _ 1 16 Try.underlying23 hi hz0 hz1 hz2 rfl (by decide) _ (told gCall (pre.map ER.key)).length ((told gCall (pre.map ER.key)).map Value.string) rfl A1.out.own ⟨W.heap.size + 1, 0, none⟩ 1 1 [Value.string x.nm] rfl rfl ?c1 (string_one x.nm) ?c2 ?c3 ?c4 ?_))
      case c1 => first | exact World.news_of_block (alloc_at (n := W.heap.size + 1) (by simp)) | (intro j u h; simpa using h)
      case c2 => unfold maxLen; omega
      case c3 => omega
      case c4 => (try simp); omega
      intro v4 w4 hown hgrow hnil hat
      obtain ⟨a4, c4, rfl⟩ := own_form hown
      obtain ⟨b4, hkf, hkp, hti⟩ := HI.out.push hg HX2.out HU.out (((Nu.refl W).alloc _).alloc _) hown hgrow (by simpa using hat)
      obtain ⟨hc4, hf4⟩ := row_cells b4
      have hl4 := lt_of_block b4
      have HF : Aside _ := (⟨hkf, hkp, hti⟩ : _ ∧ _ ∧ _)
      clear hown hgrow hnil hat b4 hkf hkp hti
      gi_wp2
      exact HF.out
    | no hg =>
      gi_wp2
      rw [← hrow x]
      exact HI.out.skip hg _

set_option maxHeartbeats 4000000 in
set_option maxRecDepth 100000 in
theorem Uses_in (B : Nat → Prop) (p : ER) (t : Tree) (w : World) (hE : IsExp B w p t) (hcn : t.cnt ≤ 20000) : Calls Try.prog 12 #[.agg p.row] w (RetU w (told gUse t.pre)) := by
  have hT := toldUse_in B p t (w.alloc (.cells p.row 45)) (hE.alloc _) hcn
  obtain ⟨f, s, nm, tk, tl, n, m, ka, kl, kc, at'⟩ := p
  dsimp only [ER.row] at hT ⊢
  have HT : Aside (Calls Try.prog 22 #[.agg #[.int .i64 f, .int .i64 s, .string nm, .int .i64 tk, .int .i64 tl, .int .i64 n, .int .i64 m, .slice ka kl kc, .int .i64 at'], .func (.func 23) #[] #[]] (w.alloc (.cells #[.int .i64 f, .int .i64 s, .string nm, .int .i64 tk, .int .i64 tl, .int .i64 n, .int .i64 m, .slice ka kl kc, .int .i64 at'] 45)) (RetU (w.alloc (.cells #[.int .i64 f, .int .i64 s, .string nm, .int .i64 tk, .int .i64 tl, .int .i64 n, .int .i64 m, .slice ka kl kc, .int .i64 at'] 45)) (told gUse t.pre))) := hT
  clear hT hE
  go_enter Try.func12, Try.ntmps12
  go_wp2_with (fail)
  refine HT.out.mono ?_
  rintro _ w2 @⟨v, _, hk, hu⟩
  obtain ⟨a, c, rfl⟩ := hu.form
  have HU : Aside _ := hu
  have HK : Aside _ := ((Nu.refl w).alloc _).trans hk
  clear hu hk
  go_wp2
  go_ret
  exact .mk HK.out (HU.out.mono (by simp))

set_option maxHeartbeats 4000000 in
set_option maxRecDepth 100000 in
theorem Calls_in (B : Nat → Prop) (p : ER) (t : Tree) (w : World) (hE : IsExp B w p t) (hcn : t.cnt ≤ 20000) : Calls Try.prog 13 #[.agg p.row] w (RetU w (told gCall t.pre)) := by
  have hT := toldCall_in B p t (w.alloc (.cells p.row 45)) (hE.alloc _) hcn
  obtain ⟨f, s, nm, tk, tl, n, m, ka, kl, kc, at'⟩ := p
  dsimp only [ER.row] at hT ⊢
  have HT : Aside (Calls Try.prog 22 #[.agg #[.int .i64 f, .int .i64 s, .string nm, .int .i64 tk, .int .i64 tl, .int .i64 n, .int .i64 m, .slice ka kl kc, .int .i64 at'], .func (.func 24) #[] #[]] (w.alloc (.cells #[.int .i64 f, .int .i64 s, .string nm, .int .i64 tk, .int .i64 tl, .int .i64 n, .int .i64 m, .slice ka kl kc, .int .i64 at'] 45)) (RetU (w.alloc (.cells #[.int .i64 f, .int .i64 s, .string nm, .int .i64 tk, .int .i64 tl, .int .i64 n, .int .i64 m, .slice ka kl kc, .int .i64 at'] 45)) (told gCall t.pre))) := hT
  clear hT hE
  go_enter Try.func13, Try.ntmps13
  go_wp2_with (fail)
  refine HT.out.mono ?_
  rintro _ w2 @⟨v, _, hk, hu⟩
  obtain ⟨a, c, rfl⟩ := hu.form
  have HU : Aside _ := hu
  have HK : Aside _ := ((Nu.refl w).alloc _).trans hk
  clear hu hk
  go_wp2
  go_ret
  exact .mk HK.out (HU.out.mono (by simp))
end Go.Pa
