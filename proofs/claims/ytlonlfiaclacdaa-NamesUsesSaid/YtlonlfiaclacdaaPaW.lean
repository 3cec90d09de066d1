/-
  Parse, Program (own work).
-/
import Derived.Test.YtlonlfiaclacdaaPaV
namespace Go.Pa
open Go Go.RowKit Go.Proofs

theorem results_cell_row_tmp2 {P : Program} {fn : Func} {p u v : Tmp} {ty : TypeId} (h : fn.results = #[.cell p ty, .tmp u, .tmp v]) (tmps : Array Value) (w : World) (g : Nat) (t : TypeId) (cs : Array Value) (fr : Nat × Nat) (d : TypeDesc)
    (hp : tmps.getD p undef = .pointer (some ⟨g, 0, none⟩)) (hg : w.heap[g]? = some (.cells cs t fr))
    (hu : P.underlying ty = some d) (hd : (match d with | .struct _ | .array _ _ => true | _ => false) = true) (hi : (P.info? ty).map (·.size) = some cs.size) :
    (results fn tmps).run P w = .ok (.tuple #[.agg cs, tmps.getD u undef, tmps.getD v undef]) w := by
  have hp' : tmps[p]?.getD undef = .pointer (some ⟨g, 0, none⟩) := by simpa using hp
  simp [results, h, hp', asAddr, run_loadVar_row w g t ty cs fr d hg hu hd hi]

/-- What Parse hands back. -/
inductive ParseR (w : World) : Ending → World → Prop
  | bad (a : Option Addr) (n c : Nat) (at' e : Int) (he : e ≠ 0) {w' : World} (k : Nu w w') : ParseR w (.returned (.tuple #[.agg #[.slice a n c], .int .i64 at', .int .i64 e])) w'
  | good (a : Option Addr) (n c : Nat) {w' : World} (h : NodesV True (w.heap.size ≤ ·) w' (.slice a n c)) (k : Nu w w') : ParseR w (.returned (.tuple #[.agg #[.slice a n c], .int .i64 0, .int .i64 0])) w'

set_option maxHeartbeats 16000000 in
set_option maxRecDepth 100000 in
theorem Parse_in (w : World) (s : ByteArray) (hs : s.size ≤ 8000) : Calls Try.prog 20 #[.string s] w (ParseR w) := by
  go_enter Try.func20, Try.ntmps20
  go_wp2_with (fail)
  refine (Tokens_in _ s hs).mono ?_
  rintro e0 w1 hT
  cases hT with
  | bad a n c at' e he hk =>
    have B0 : w1.heap[w.heap.size]? = some (.cells #[.slice none 0 0] 27 (0, 0)) := nu_block hk (alloc_self w _)
    obtain ⟨hc0, hf0⟩ := row_cells B0
    have hl0 := lt_of_block B0
    have HB : Aside _ := heap_setCell_self (o := 0) B0 (.slice none 0 0)
    have HN : Aside _ := ((Nu.refl w).alloc _).trans hk
    clear hk B0
    go_wp2
    refine bodyPost_ret (results_cell_row_tmp2 rfl _ _ w.heap.size 27 _ _ _ (by rfl) HB.out Try.underlying27 rfl (by kernel_rfl)) rfl ?_
    exact .bad none 0 0 at' e he (HN.out.setCell (p := ⟨w.heap.size, 0, none⟩) (Nat.le_refl _) _)
  | good g n cap ts hg h0 h1 hl hk hc hlt =>
    have B0 : w1.heap[w.heap.size]? = some (.cells #[.slice none 0 0] 27 (0, 0)) := nu_block hk (alloc_self w _)
    have hl0 := lt_of_block B0
    obtain ⟨S, hS⟩ : ∃ S : Src, S = ⟨w1.heap.size, g, n, cap, ts, h0, hl, h1, hlt⟩ := ⟨_, rfl⟩
    have hP : PS S (w1.alloc (.cells #[.slice (some ⟨g, 0, none⟩) n cap, .int .i64 0, .int .i64 0, .int .i64 0, .int .i64 0] 74)) ⟨0, 0, 0, 0⟩ := by
      subst hS
      refine ⟨alloc_self w1 _, fun i hi => ?_, h0⟩
      have hcc : ∀ j, j < 6 → (w1.alloc (.cells #[.slice (some ⟨g, 0, none⟩) n cap, .int .i64 0, .int .i64 0, .int .i64 0, .int .i64 0] 74)).cell? ⟨g, i * 6 + j, none⟩ = (ts i).row[j]? := fun j hj =>
        (World.cell?_of_block (w := w1) (Below.heap_alloc w1 _ _ hlt)).trans (hc i hi j hj)
      exact ⟨hcc 0 (by omega), hcc 1 (by omega), hcc 2 (by omega), hcc 3 (by omega), hcc 4 (by omega), hcc 5 (by omega)⟩
    have hpb : S.pb = w1.heap.size := by subst hS; rfl
    have HP : Aside _ := hP
    have HN : Aside _ := ((Nu.refl w).alloc _).trans hk
    clear hk hP hc hS
    go_wp2_with (fail)
    rw [← hpb]
    refine (program_in HP.out).mono ?_
    rintro _ w2 @⟨_, _, x2, g2, hpv⟩
    cases hpv with
    | mk a m c hv =>
      have hkb : ∀ k, k < w1.heap.size → w2.heap[k]? = w1.heap[k]? := fun k hk => (g2.kb.same k (by simp; omega) (by omega)).trans (Below.heap_alloc _ _ _ hk)
      have hsz : w1.heap.size < w2.heap.size := by have := g2.kb.size; simp at this; omega
      have hws : w.heap.size < w1.heap.size := hl0
      have B2 : w2.heap[w.heap.size]? = some (.cells #[.slice none 0 0] 27 (0, 0)) := (hkb _ hws).trans B0
      have HN2 : Nu w w2 := HN.out.trans ⟨g2.kb.os.trans rfl, g2.kb.output.trans rfl, Nat.le_of_lt hsz, hkb⟩
      have c2 := g2.ps.c2
      have c3 := g2.ps.c3
      have hp2 := g2.ps.plt
      rw [hpb] at c2 c3 hp2
      obtain ⟨hc0, hf0⟩ := row_cells B2
      have hl2 := lt_of_block B2
      have hlo : w.heap.size ≤ w1.heap.size + 1 := by omega
      have HV : Aside (NodesV (x2.e = 0) (w1.heap.size + 1 ≤ ·) w2 (.slice a m c)) := by
        have := hv
        rw [World.size_alloc] at this
        exact this
      have HM : Aside _ := HN2
      have HB : Aside ((w2.setCell ⟨w.heap.size, 0, none⟩ (.slice none 0 0)).heap[w.heap.size]? = some (.cells #[.slice none 0 0] 27 (0, 0))) := heap_setCell_self (o := 0) B2 (.slice none 0 0)
      have HB2 : Aside ((w2.setCell ⟨w.heap.size, 0, none⟩ (.slice a m c)).heap[w.heap.size]? = some (.cells #[.slice a m c] 27 (0, 0))) := heap_setCell_self (o := 0) B2 (.slice a m c)
      clear hv hkb HN2 B2 B0
      by_cases he : x2.e = 0
      · go_wp2
        refine bodyPost_ret (results_cell_row_tmp2 rfl _ _ w.heap.size 27 _ _ _ (by rfl) ((Below.heap_alloc _ _ _ (by simp; omega)).trans HB2.out) Try.underlying27 rfl (by kernel_rfl)) rfl ?_
        exact .good a m c (((HV.out.frame fun z hz _ => Below.heap_setCell w2 ⟨w.heap.size, 0, none⟩ _ _ (by show z ≠ w.heap.size; omega)).frame fun z _ hl => Below.heap_alloc _ _ _ hl).mono (fun z hz => by show w.heap.size ≤ z; omega) (fun _ => he)) ((HM.out.setCell (p := ⟨w.heap.size, 0, none⟩) (Nat.le_refl _) _).alloc _)
      · go_wp2
        have hne1 : w1.heap.size ≠ w.heap.size := by omega
        have hne2 : w.heap.size ≠ w1.heap.size := by omega
        go_region
        all_goals
          go_wp2
          refine bodyPost_ret (results_cell_row_tmp2 rfl _ _ w.heap.size 27 _ _ _ (by rfl) ((Below.heap_alloc _ _ _ (by simp; omega)).trans HB.out) Try.underlying27 rfl (by kernel_rfl)) rfl ?_
          exact .bad none 0 0 _ _ he ((HM.out.setCell (p := ⟨w.heap.size, 0, none⟩) (Nat.le_refl _) _).alloc _).drew

/-- What Program hands back. -/
inductive ProgR (w : World) : Ending → World → Prop
  | bad (a : Option Addr) (n c : Nat) {w' : World} (k : Nu w w') : ProgR w (.returned (.tuple #[.agg #[.slice a n c], .bool false])) w'
  | good (a : Option Addr) (n c : Nat) {w' : World} (h : NodesV True (w.heap.size ≤ ·) w' (.slice a n c)) (k : Nu w w') : ProgR w (.returned (.tuple #[.agg #[.slice a n c], .bool true])) w'

set_option maxHeartbeats 16000000 in
set_option maxRecDepth 100000 in
theorem Program_in (w : World) (s : ByteArray) : Calls Try.prog 9 #[.string s] w (ProgR w) := by
  by_cases hs : s.size ≤ 8000
  · have hs' : ¬ (8000 : Int) < s.size := by omega
    go_enter Try.func9, Try.ntmps9
    go_wp2_with (fail)
    refine (Parse_in _ s hs).mono ?_
    rintro e0 w1 hT
    cases hT with
    | bad a n c at' e he hk =>
      have he2 : (e == 0) = false := by simp [he]
      have B0 : w1.heap[w.heap.size]? = some (.cells #[.slice none 0 0] 27 (0, 0)) := nu_block hk (alloc_self w _)
      obtain ⟨hc0, hf0⟩ := row_cells B0
      have hl0 := lt_of_block B0
      have HB : Aside ((w1.setCell ⟨w.heap.size, 0, none⟩ (.slice a n c)).heap[w.heap.size]? = some (.cells #[.slice a n c] 27 (0, 0))) := heap_setCell_self (o := 0) B0 (.slice a n c)
      have HN : Aside _ := ((Nu.refl w).alloc _).trans hk
      clear hk B0
      go_wp2
      refine bodyPost_ret (results_cell_row_tmp rfl _ _ w.heap.size 27 _ _ _ (by rfl) ((Below.heap_alloc _ _ _ (by simp; omega)).trans HB.out) Try.underlying27 rfl (by kernel_rfl)) rfl ?_
      exact .bad _ _ _ ((HN.out.setCell (p := ⟨w.heap.size, 0, none⟩) (Nat.le_refl _) _).alloc _)
    | good a n c hv hk =>
      have B0 : w1.heap[w.heap.size]? = some (.cells #[.slice none 0 0] 27 (0, 0)) := nu_block hk (alloc_self w _)
      obtain ⟨hc0, hf0⟩ := row_cells B0
      have hl0 := lt_of_block B0
      have HB : Aside ((w1.setCell ⟨w.heap.size, 0, none⟩ (.slice a n c)).heap[w.heap.size]? = some (.cells #[.slice a n c] 27 (0, 0))) := heap_setCell_self (o := 0) B0 (.slice a n c)
      have HN : Aside _ := ((Nu.refl w).alloc _).trans hk
      have HV : Aside (NodesV True (w.heap.size + 1 ≤ ·) w1 (.slice a n c)) := by
        have := hv
        rw [World.size_alloc] at this
        exact this
      clear hk B0 hv
      go_wp2
      refine bodyPost_ret (results_cell_row_tmp rfl _ _ w.heap.size 27 _ _ _ (by rfl) ((Below.heap_alloc _ _ _ (by simp; omega)).trans HB.out) Try.underlying27 rfl (by kernel_rfl)) rfl ?_
      exact .good a n c (((HV.out.frame fun z hz _ => Below.heap_setCell w1 ⟨w.heap.size, 0, none⟩ _ _ (by show z ≠ w.heap.size; omega)).frame fun z _ hl => Below.heap_alloc _ _ _ hl).mono (fun z hz => by show w.heap.size ≤ z; omega) id) ((HN.out.setCell (p := ⟨w.heap.size, 0, none⟩) (Nat.le_refl _) _).alloc _)
  · have hs' : (8000 : Int) < s.size := by omega
    go_enter Try.func9, Try.ntmps9
    go_wp2
    refine bodyPost_ret (results_cell_row_tmp rfl _ _ w.heap.size 27 _ _ _ (by rfl) (alloc_self w _) Try.underlying27 rfl (by kernel_rfl)) rfl ?_
    exact .bad _ _ _ ((Nu.refl w).alloc _)
end Go.Pa
