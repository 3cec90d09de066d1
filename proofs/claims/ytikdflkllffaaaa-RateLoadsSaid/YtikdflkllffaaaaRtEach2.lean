/-
  rate.each (own work).
-/
import Derived.Test.YtikdflkllffaaaaRtEach
import Derived.BigRegionIn
import Derived.Stop.RegionWithIn
import Derived.Test.YtikdflkllffaaaaRtStill
namespace Go.Rt
open Go Go.RowKit Go.Proofs Go.Shelf
attribute [local go_sem] Oper.semAt_some

/-- .. said of the turns that have come. -/
def SmI (w : World) (g L bc bd : Nat) (co : Option Addr) (k cc : Nat) (cs : Nat → Int) (m : Nat) (below : Int) (pre : List (TT m below)) (W : World) : Prop := Sm w g L g bc bd co k cc cs (pre.map fun x => x.1) W

set_option maxHeartbeats 16000000 in
set_option maxRecDepth 100000 in
theorem each_in (dp : Nat) {ao : Option Addr} {m cap g L cc : Nat} {cl : Row} {w : World} (h : Lst g ao m cl w) (hG : Good cl m) (hm : m ≤ 64) (hL : L ≤ 5000) {co : Option Addr} {cs : Nat → Int} (hcs : CLst g co m cs w)
    (hrow : w.rowIs g 3 L (fun _ => .int .i64 0)) :
    CallsIn Fence.wide dp Try.prog 20 #[.slice ao m cap, .int .i64 L, .slice co m cc, .func (.func 21) #[.slice (some ⟨g, 0, none⟩) L L] #[]] w fun e w' => e = .returned (.tuple #[]) ∧
      w'.rowIs g 3 L (fun t => .int .i64 (wrap64 (sumIf cs (fun c => decide ((t : Int) % (cl c).1 = (cl c).2)) m))) ∧ w.heap.size ≤ w'.heap.size ∧ (∀ j, j < w.heap.size → j ≠ g → w'.heap[j]? = w.heap[j]?) ∧ w'.os = w.os ∧ w'.output = w.output ∧ w'.tape = w.tape := by
  have hg := hrow.lt
  obtain ⟨W1, hW1⟩ : ∃ W1, (w.alloc (.cells #[.slice co m cc] 36)).alloc (.cells #[.func (.func 21) #[.slice (some ⟨g, 0, none⟩) L L] #[]] 50) = W1 := ⟨_, rfl⟩
  have hs1 : W1.heap.size = w.heap.size + 2 := by rw [← hW1]; simp
  have hb1 : Below w.heap.size w W1 := by rw [← hW1]; exact ((Below.refl _ w).alloc (Nat.le_refl _) _).alloc (by simp) _
  have hbc : W1.cell? ⟨w.heap.size, 0, none⟩ = some (.slice co m cc) := by rw [← hW1]; simp
  have hbd : W1.cell? ⟨w.heap.size + 1, 0, none⟩ = some (.func (.func 21) #[.slice (some ⟨g, 0, none⟩) L L] #[]) := by rw [← hW1]; simp
  have hS1 : Sm w g L g w.heap.size (w.heap.size + 1) co m cc cs [] W1 :=
    ⟨(hrow.of_block (hb1.block _ hg)).congr (fun i _ => by show Value.int .i64 0 = Value.int .i64 (wrap64 (sumAt cs [] i)); rw [show sumAt cs [] (i : Int) = 0 from rfl, IntWalk.wrap64_in 0 ⟨by omega, by omega⟩]), hbc, hbd, hcs.below (hb1.mono (by omega)), hb1.size, fun j hj _ => hb1.block j hj, hb1.os, hb1.output, hb1.tape⟩
  have hon := on_in ao m cap (L : Int) W1
  have HL : Aside _ := (⟨h, hG⟩ : Lst g ao m cl w ∧ Good cl m)
  have H1 : Aside _ := (⟨hS1, hs1, hb1⟩ : Sm w g L g w.heap.size (w.heap.size + 1) co m cc cs [] W1 ∧ W1.heap.size = w.heap.size + 2 ∧ Below w.heap.size w W1)
  have HW : Hid _ := hW1
  clear hs1 hb1 hbc hbd hS1 hW1 hrow hcs h hG
  refine callsIn_of_wp_marks Try.func20 rfl trivial ?_ rfl
  simp only [Try.ntmps20, List.size_toArray, List.length_cons, List.length_nil, Nat.reduceAdd, Nat.reduceSub, Array.replicate_succ, Array.replicate_zero, List.push_toArray, List.append_toArray, List.nil_append, List.cons_append]
  gi_wp2_with (fail)
  rw [HW.out]
  refine ⟨trivial, fun h => by simp [Fence.wide] at h, (callsIn_wide.2 hon).mono ?_⟩
  rintro e w2 ⟨rfl, hw2⟩
  have HW2 : Aside _ := hw2
  clear hw2 hon
  gi_wp2_with (fail)
  have hs1 := H1.out.2.1
  have hs2 : w2.heap.size = W1.heap.size + 2 := by rw [← HW2.out]; simp
  have hb2 : Below W1.heap.size W1 w2 := by rw [← HW2.out]; exact ((Below.refl _ W1).alloc (Nat.le_refl _) _).alloc (by simp) _
  have hbw : Below w.heap.size w w2 := H1.out.2.2.trans (hb2.mono (by omega))
  have hE : Env (fun j => j = g) w2.heap.size W1.heap.size (W1.heap.size + 1) ao m cap cl (L : Int) w2 := by
    refine ⟨⟨by omega, by omega⟩, ⟨by omega, by omega⟩, ?_, ?_, fun hm0 => ?_⟩
    · rw [← HW2.out]; simp
    · rw [← HW2.out]; simp
    · obtain ⟨b, o, e, hb, hcs⟩ := (HL.out.1.below (hbw.mono (by omega))) hm0
      exact ⟨b, o, e, by omega, by omega, hcs⟩
  have hT : SmI w g L w.heap.size (w.heap.size + 1) co m cc cs m (L : Int) [] w2 := H1.out.1.of_below (by omega) (by omega) (by omega) (by omega) (by omega) hb2
  have hR := on1_runs (dp - 1) w2 (fun j => j = g) (fun j hj => by omega) W1.heap.size (W1.heap.size + 1) ao m cap cl (L : Int) hE HL.out.2 hm (by omega) (by omega)
  have hIb : ∀ (pre : List (TT m (L : Int))) (A B : World), SmI w g L w.heap.size (w.heap.size + 1) co m cc cs m (L : Int) pre A → Below w2.heap.size A B → SmI w g L w.heap.size (w.heap.size + 1) co m cc cs m (L : Int) pre B := fun pre A B hi hb =>
    Sm.of_below hi (by omega) (by omega) (by omega) (by omega) (by omega) hb
  have hWr : ∀ j, j = g → j < w2.heap.size := fun j hj => by omega
  have HS : Hid (W1.heap.size = w.heap.size + 2 ∧ w2.heap.size = W1.heap.size + 2) := ⟨hs1, hs2⟩
  clear hs1 hs2 hb2 hbw hE
  refine wpIn_rangeFunc_runs (α := TT m (L : Int)) (gf := 24) (lb := #[.pointer (some ⟨W1.heap.size, 0, none⟩), .pointer (some ⟨W1.heap.size + 1, 0, none⟩)]) rfl (enters_of Try.func24 (by kernel_rfl) rfl) hR hWr (fun _ => rfl)
    (SmI w g L w.heap.size (w.heap.size + 1) co m cc cs m (L : Int)) hIb hT
    (fun x a' W => ∃ Bx, w2.heap.size ≤ Bx ∧ W.rowIs Bx 47 2 (fun i => if i = 0 then .int .i64 x.1.1 else .int .i64 x.1.2) ∧ a' = { tmps := #[.slice ao m cap, .int .i64 L, .slice co m cc, .func (.func 21) #[.slice (some ⟨g, 0, none⟩) L L] #[], undef, undef, .pointer (some ⟨w.heap.size, 0, none⟩), .pointer (some ⟨w.heap.size + 1, 0, none⟩), .pointer (some ⟨Bx, 0, none⟩), .slice ao m cap, .int .i64 L, .func (.func 24) #[] #[.pointer (some ⟨W1.heap.size, 0, none⟩), .pointer (some ⟨W1.heap.size + 1, 0, none⟩)], .agg #[.int .i64 x.1.1, .int .i64 x.1.2], undef, undef, undef, undef, undef, undef, undef, undef, undef], defers := [] })
    ?hAx ?assign ?body ?done
  case hAx =>
    rintro x a' W l o o' ⟨Bx, h1, h2, h3⟩ ho hc
    refine ⟨Bx, h1, h2.of_block (World.putObj_heap_other (fun e => ?_)), h3⟩
    subst e
    obtain ⟨_, hh, _⟩ := h2
    rw [hh] at ho
    cases ho
    cases hc
  case assign =>
    intro l pre x W hI hsz
    dsimp only [encT]
    gi_wp2
    refine ⟨(KeepsBut.refl _ _).alloc _, hIb _ _ _ hI ((Below.refl _ W).alloc hsz _), W.heap.size, hsz, ?_, rfl⟩
    exact World.rowIs_alloc W #[.int .i64 x.1.1, .int .i64 x.1.2] 47 _ (fun i hi => by
      have : i = 0 ∨ i = 1 := by have : i < 2 := hi; omega
      rcases this with rfl | rfl <;> rfl)
  case body =>
    rintro l pre ⟨⟨t, c⟩, ht0, ht1, hc0, hc1⟩ a' W hI ⟨Bx, hBx, hrow, rfl⟩ hsz
    obtain ⟨tn, rfl⟩ : ∃ tn : Nat, t = tn := ⟨t.toNat, by simp at ht0; omega⟩
    obtain ⟨cn, rfl⟩ : ∃ cn : Nat, c = cn := ⟨c.toNat, by simp at hc0; omega⟩
    have htk : tn < L := by simpa using ht1
    have hcm : cn < m := by simpa using hc1
    have hcz : (cn : Int) < m := by omega
    have hb0 := hrow.cell (i := 0) (by omega)
    have hb1 := hrow.cell (i := 1) (by omega)
    simp only [if_true, if_neg (show ¬ (1 : Nat) = 0 by omega)] at hb0 hb1
    have hI' : Sm w g L g w.heap.size (w.heap.size + 1) co m cc cs _ W := hI
    have hbc := hI'.costs
    have hbd := hI'.fn
    obtain ⟨b, o, rfl, hbg, hls⟩ := hI'.list (by omega)
    have hcl := hls cn hcm
    have hadd := add_in (w := W.drew) (x := cs cn) (cap := L) (f := fun t => .int .i64 (wrap64 (sumAt cs (pre.map fun x => x.1) t))) hI'.row.drew htk rfl
    have hst := hI'.step (by omega) (by omega) (fun b' o' e => by cases e; omega) (t := tn) (c := cn) 1
    have hend : KeepsBut (fun j => j = g) W (W.drew.setCell ⟨g, tn, none⟩ (.int .i64 (wrap64 (wrap64 (sumAt cs (pre.map fun x => x.1) tn) + cs cn)))) ∧
        SmI w g L w.heap.size (w.heap.size + 1) (some ⟨b, o, none⟩) m cc cs m (L : Int) (pre ++ [⟨((tn : Int), (cn : Int)), ht0, ht1, hc0, hc1⟩]) (W.drew.setCell ⟨g, tn, none⟩ (.int .i64 (wrap64 (wrap64 (sumAt cs (pre.map fun x => x.1) tn) + cs cn)))) := by
      have hk := (KeepsBut.refl (fun j => j = g) W).setCell (p := ⟨g, tn, none⟩) rfl (.int .i64 (wrap64 (wrap64 (sumAt cs (pre.map fun x => x.1) tn) + cs cn)))
      refine ⟨⟨hk.size, hk.same⟩, ?_⟩
      unfold SmI
      rw [List.map_append]
      exact hst
    have HE : Aside _ := hend
    clear hend hst hI hI' hrow hls
    dsimp only
    gi_wp2
    refine wpIn_region_still_tail 8 (by kernel_rfl) (by kernel_rfl) (by kernel_rfl) ?_
    simp only [List.take_succ_cons, List.take_zero, List.drop_succ_cons, List.drop_zero]
    have hV : ({ W with drawn := W.drawn + 1 } : World) = W.drew := rfl
    rw [hV]
    obtain ⟨V, hV⟩ : ∃ V, W.drew = V := ⟨_, rfl⟩
    have hc1 : V.cell? ⟨w.heap.size + 1, 0, none⟩ = some (.func (.func 21) #[.slice (some ⟨g, 0, none⟩) L L] #[]) := hV ▸ hbd
    have hc2 : V.cell? ⟨w.heap.size, 0, none⟩ = some (.slice (some ⟨b, o, none⟩) m cc) := hV ▸ hbc
    have hc3 : V.cell? ⟨Bx, 0, none⟩ = some (.int .i64 tn) := hV ▸ hb0
    have hc4 : V.cell? ⟨Bx, 1, none⟩ = some (.int .i64 cn) := hV ▸ hb1
    have hc5 : V.cell? ⟨b, o + cn, none⟩ = some (.int .i64 (cs cn)) := hV ▸ hcl
    rw [hV] at hadd HE ⊢
    clear hbd hbc hb0 hb1 hcl
    repeat still_step
    refine wpStill_nil ?_
    gi_wp2_with (fail)
    refine ⟨trivial, fun h => by simp [Fence.wide] at h, (CallsIn.inRound l (callsIn_wide.2 hadd)).mono ?_⟩
    rintro e w' ⟨rfl, rfl⟩
    gi_wp2
    exact HE.out
  case done =>
    rintro D xs W hD hS hI hK
    have hI' : Sm w g L g w.heap.size (w.heap.size + 1) co m cc cs _ W := hI
    have hsz := HS.out
    gi_wp2
    refine ⟨by simp, .inl ⟨_, _, rfl, run_takeDeferred hK, ?_⟩⟩
    have hput : ∀ j, j < D → (W.putObj D (.deferred none)).heap[j]? = W.heap[j]? := fun j hj => World.putObj_heap_other (by omega)
    refine ⟨_, results_none rfl _ _ _, rfl, ?_, ?_, fun j hj hne => (hput j (by omega)).trans (hI'.keep j hj hne), hI'.os, hI'.output, hI'.tape⟩
    · refine (hI'.row.of_block (hput _ (by omega))).congr (fun i hi => ?_)
      congr 2
      rw [sumAt_nodup (m := m) hS.nodup (fun x hx => by obtain ⟨a, b⟩ := x; have := (hS.mem a b).1 hx; exact ⟨this.1, this.2.1⟩)]
      refine sumIf_congr fun c hc => ?_
      rw [decide_eq_decide, hS.mem]
      simp only [period, offset, Int.toNat_natCast]
      constructor
      · exact fun h => h.2.2.2.2
      · exact fun h => ⟨by omega, by omega, by omega, by omega, h⟩
    · have := hI'.size
      simpa [World.putObj] using this
end Go.Rt
