/-
  The lexer: token (own work).
-/
import Derived.Test.YtlonlfiaclacdaaPaT
namespace Go.Pa
open Go Go.RowKit Go.Proofs

theorem results_cell_row_tmp {P : Program} {fn : Func} {p u : Tmp} {ty : TypeId} (h : fn.results = #[.cell p ty, .tmp u]) (tmps : Array Value) (w : World) (g : Nat) (t : TypeId) (cs : Array Value) (fr : Nat × Nat) (d : TypeDesc)
    (hp : tmps.getD p undef = .pointer (some ⟨g, 0, none⟩)) (hg : w.heap[g]? = some (.cells cs t fr))
    (hu : P.underlying ty = some d) (hd : (match d with | .struct _ | .array _ _ => true | _ => false) = true) (hi : (P.info? ty).map (·.size) = some cs.size) :
    (results fn tmps).run P w = .ok (.tuple #[.agg cs, tmps.getD u undef]) w := by
  rw [results_cell_tmp h, hp]
  simp [asAddr, run_loadVar_row w g t ty cs fr d hg hu hd hi]

/-- What token hands back. -/
inductive TokR (w : World) (m : Nat) : Ending → World → Prop
  | bad (t : Tk) (e : Int) (he : e ≠ 0) {w' : World} (k : Nu w w') : TokR w m (.returned (.tuple #[t.val, .int .i64 e])) w'
  | good (t : Tk) (h5 : t.k ≠ 5) (h1 : 1 ≤ t.s.size) (h2 : t.s.size ≤ m) {w' : World} (k : Nu w w') : TokR w m (.returned (.tuple #[t.val, .int .i64 0])) w'
/-- Six cells of a block are written. -/
abbrev put6 (w : World) (b : Nat) (t : Tk) : World := (((((w.setCell ⟨b, 0, none⟩ (.int .i64 t.k)).setCell ⟨b, 1, none⟩ (.string t.s)).setCell ⟨b, 2, none⟩ (.int .i64 t.n)).setCell ⟨b, 3, none⟩ (.int .i64 t.tk)).setCell ⟨b, 4, none⟩ (.int .i64 t.tl)).setCell ⟨b, 5, none⟩ (.int .i64 t.at')
theorem put6_row {w : World} {b : Nat} (h : w.heap[b]? = some (.cells #[.int .i64 0, .string ⟨#[]⟩, .int .i64 0, .int .i64 0, .int .i64 0, .int .i64 0] 86 (0, 0))) (t : Tk) :
    (put6 w b t).heap[b]? = some (.cells #[.int .i64 t.k, .string t.s, .int .i64 t.n, .int .i64 t.tk, .int .i64 t.tl, .int .i64 t.at'] 86 (0, 0)) := by
  have H := heap_setCell_self (o := 5) (heap_setCell_self (o := 4) (heap_setCell_self (o := 3) (heap_setCell_self (o := 2) (heap_setCell_self (o := 1) (heap_setCell_self (o := 0) h (.int .i64 t.k)) (.string t.s)) (.int .i64 t.n)) (.int .i64 t.tk)) (.int .i64 t.tl)) (.int .i64 t.at')
  simpa using H
theorem put6_nu {w w' : World} {b : Nat} (h : Nu w w') (hb : w.heap.size ≤ b) (t : Tk) : Nu w (put6 w' b t) :=
  ((((((h.setCell (p := ⟨b, 0, none⟩) hb _).setCell (p := ⟨b, 1, none⟩) hb _).setCell (p := ⟨b, 2, none⟩) hb _).setCell (p := ⟨b, 3, none⟩) hb _).setCell (p := ⟨b, 4, none⟩) hb _).setCell (p := ⟨b, 5, none⟩) hb _)
theorem piece_size (s : ByteArray) (a b : Nat) (h1 : a ≤ b) (h2 : b ≤ s.size) : (s.extract a b).size = b - a := by
  rw [ByteArray.size_extract]
  omega
theorem nu_block {w w' : World} {b : Nat} {o : Obj} (k : Nu w w') (h : w.heap[b]? = some o) : w'.heap[b]? = some o := (k.same b (lt_of_block h)).trans h

set_option maxHeartbeats 32000000 in
set_option maxRecDepth 100000 in
theorem token_in (w : World) (s : ByteArray) (i : Nat) (hi : i < s.size) (hs : s.size ≤ 8000) : Calls Try.prog 36 #[.string s, .int .i64 (i : Int)] w (TokR w (s.size - i)) := by
  have hi' : (i : Int) < s.size := by omega
  go_enter Try.func36, Try.ntmps36
  go_wp2_with (fail)
  refine (letter_in _ _).mono ?_
  rintro _ _ ⟨rfl, rfl⟩
  generalize hL : letterB _ = bl
  cases bl
  case true =>
    have HL : Aside (letterB ((s[i]'hi).toNat : Int) = true) := hL
    clear hL
    go_wp2
    go_loopg [6] s.size (fun kx s6 wr => ∃ k : Nat, s6 = .int .i64 (k : Int) ∧ i ≤ k ∧ k ≤ s.size ∧ s.size - k ≤ kx ∧ wr = w.alloc (.cells #[.int .i64 0, .string ⟨#[]⟩, .int .i64 0, .int .i64 0, .int .i64 0, .int .i64 0] 86))
    case atStart => exact ⟨i, rfl, by omega, by omega, by omega, rfl⟩
    case round =>
      obtain ⟨k, rfl, hik, hks, hkx, rfl⟩ := hrel
      rcases Nat.lt_or_ge k s.size with hlt | hge
      · have hlt' : (k : Int) < s.size := by omega
        go_wp2_with (fail)
        refine (letter_in _ _).mono ?_
        rintro _ _ ⟨rfl, rfl⟩
        generalize hL2 : letterB _ = b2
        cases b2
        · go_wp2_with (fail)
          refine (digit_in _ _).mono ?_
          rintro _ _ ⟨rfl, rfl⟩
          generalize hD2 : digitB _ = b3
          cases b3
          · have hik2 : i < k := by
              rcases Nat.lt_or_ge i k with h | h
              · exact h
              · obtain rfl : i = k := by omega
                exact absurd (HL.out.symm.trans hL2) (by decide)
            clear hL2 hD2 HL
            by_cases h40 : (k : Int) - (i : Int) > 40
            · go_wp2
              refine bodyPost_ret (results_cell_row_tmp rfl _ _ w.heap.size 86 _ _ _ (by rfl) (alloc_self w _) Try.underlying86 rfl (by kernel_rfl)) rfl ?_
              exact .bad ⟨0, ⟨#[]⟩, 0, 0, 0, 0⟩ _ (by decide) ((Nu.refl w).alloc _)
            · have hsl := fun W => slice_str s i k (y := (k : Int)) rfl (by omega) (by omega) W
              have hps := piece_size s i k (by omega) (by omega)
              generalize s.extract i k = d at hsl hps
              go_wp2_with (fail)
              refine (key_in _ _).mono ?_
              rintro _ w2 ⟨⟨b, rfl⟩, hk⟩
              have B0 := nu_block hk ((Below.heap_alloc _ _ _ (by simp)).trans (alloc_self w _))
              have B1 := nu_block hk (alloc_at (n := w.heap.size + 1) (by simp))
              have hN : Nu w w2 := (((Nu.refl w).alloc _).alloc _).trans hk
              obtain ⟨hc0, hf0⟩ := row_cells B0
              obtain ⟨hc1, hf1⟩ := row_cells B1
              have hl0 := lt_of_block B0
              have hl1 := lt_of_block B1
              have HK : Aside _ := hk
              clear hk
              have HB : Aside _ := B0
              have HN : Aside _ := hN
              clear B0 hN B1
              have h11 : w.heap.size ≠ w.heap.size + 1 := by omega
              cases b
              · go_wp2
                refine bodyPost_ret (results_cell_row_tmp rfl _ _ w.heap.size 86 _ _ _ (by rfl) (put6_row HB.out ⟨1, d, 0, 0, 0, i⟩) Try.underlying86 rfl (by kernel_rfl)) rfl ?_
                exact .good ⟨1, d, 0, 0, 0, i⟩ (by show (1 : Int) ≠ 5; decide) (by show 1 ≤ d.size; omega) (by show d.size ≤ _; omega) (put6_nu HN.out (Nat.le_refl _) ⟨1, d, 0, 0, 0, i⟩)
              · go_wp2
                refine bodyPost_ret (results_cell_row_tmp rfl _ _ w.heap.size 86 _ _ _ (by rfl) (put6_row ((Below.heap_setCell _ _ _ _ h11).trans HB.out) ⟨3, d, 0, 0, 0, i⟩) Try.underlying86 rfl (by kernel_rfl)) rfl ?_
                exact .good ⟨3, d, 0, 0, 0, i⟩ (by show (3 : Int) ≠ 5; decide) (by show 1 ≤ d.size; omega) (by show d.size ≤ _; omega) (put6_nu (HN.out.setCell (p := ⟨w.heap.size + 1, 0, none⟩) (by show w.heap.size ≤ w.heap.size + 1; omega) _) (Nat.le_refl _) ⟨3, d, 0, 0, 0, i⟩)
          · go_wp2
            go_roundg (s.size - (k + 1))
            case measure => omega
            case rel => exact ⟨k + 1, by go_num, by omega, by omega, by omega, rfl⟩
        · go_wp2
          go_roundg (s.size - (k + 1))
          case measure => omega
          case rel => exact ⟨k + 1, by go_num, by omega, by omega, by omega, rfl⟩
      · have hge' : ¬ (k : Int) < s.size := by omega
        have hik2 : i < k := by omega
        clear HL
        by_cases h40 : (k : Int) - (i : Int) > 40
        · go_wp2
          refine bodyPost_ret (results_cell_row_tmp rfl _ _ w.heap.size 86 _ _ _ (by rfl) (alloc_self w _) Try.underlying86 rfl (by kernel_rfl)) rfl ?_
          exact .bad ⟨0, ⟨#[]⟩, 0, 0, 0, 0⟩ _ (by decide) ((Nu.refl w).alloc _)
        · have hsl := fun W => slice_str s i k (y := (k : Int)) rfl (by omega) (by omega) W
          have hps := piece_size s i k (by omega) (by omega)
          generalize s.extract i k = d at hsl hps
          go_wp2_with (fail)
          refine (key_in _ _).mono ?_
          rintro _ w2 ⟨⟨b, rfl⟩, hk⟩
          have B0 := nu_block hk ((Below.heap_alloc _ _ _ (by simp)).trans (alloc_self w _))
          have B1 := nu_block hk (alloc_at (n := w.heap.size + 1) (by simp))
          have hN : Nu w w2 := (((Nu.refl w).alloc _).alloc _).trans hk
          obtain ⟨hc0, hf0⟩ := row_cells B0
          obtain ⟨hc1, hf1⟩ := row_cells B1
          have hl0 := lt_of_block B0
          have hl1 := lt_of_block B1
          have HK : Aside _ := hk
          clear hk
          have HB : Aside _ := B0
          have HN : Aside _ := hN
          clear B0 hN B1
          have h11 : w.heap.size ≠ w.heap.size + 1 := by omega
          cases b
          · go_wp2
            refine bodyPost_ret (results_cell_row_tmp rfl _ _ w.heap.size 86 _ _ _ (by rfl) (put6_row HB.out ⟨1, d, 0, 0, 0, i⟩) Try.underlying86 rfl (by kernel_rfl)) rfl ?_
            exact .good ⟨1, d, 0, 0, 0, i⟩ (by show (1 : Int) ≠ 5; decide) (by show 1 ≤ d.size; omega) (by show d.size ≤ _; omega) (put6_nu HN.out (Nat.le_refl _) ⟨1, d, 0, 0, 0, i⟩)
          · go_wp2
            refine bodyPost_ret (results_cell_row_tmp rfl _ _ w.heap.size 86 _ _ _ (by rfl) (put6_row ((Below.heap_setCell _ _ _ _ h11).trans HB.out) ⟨3, d, 0, 0, 0, i⟩) Try.underlying86 rfl (by kernel_rfl)) rfl ?_
            exact .good ⟨3, d, 0, 0, 0, i⟩ (by show (3 : Int) ≠ 5; decide) (by show 1 ≤ d.size; omega) (by show d.size ≤ _; omega) (put6_nu (HN.out.setCell (p := ⟨w.heap.size + 1, 0, none⟩) (by show w.heap.size ≤ w.heap.size + 1; omega) _) (Nat.le_refl _) ⟨3, d, 0, 0, 0, i⟩)
  case false =>
    clear hL
    go_wp2_with (fail)
    refine (digit_in _ _).mono ?_
    rintro _ _ ⟨rfl, rfl⟩
    generalize hL : digitB _ = bl
    cases bl
    case true =>
      have HL : Aside (digitB ((s[i]'hi).toNat : Int) = true) := hL
      clear hL
      go_wp2
      go_loopg [6] s.size (fun kx s6 wr => ∃ k : Nat, s6 = .int .i64 (k : Int) ∧ i ≤ k ∧ k ≤ s.size ∧ s.size - k ≤ kx ∧ wr = w.alloc (.cells #[.int .i64 0, .string ⟨#[]⟩, .int .i64 0, .int .i64 0, .int .i64 0, .int .i64 0] 86))
      case atStart => exact ⟨i, rfl, by omega, by omega, by omega, rfl⟩
      case round =>
        obtain ⟨k, rfl, hik, hks, hkx, rfl⟩ := hrel
        rcases Nat.lt_or_ge k s.size with hlt | hge
        · have hlt' : (k : Int) < s.size := by omega
          go_wp2_with (fail)
          refine (digit_in _ _).mono ?_
          rintro _ _ ⟨rfl, rfl⟩
          generalize hD2 : digitB _ = b3
          cases b3
          · have hik2 : i < k := by
              rcases Nat.lt_or_ge i k with h | h
              · exact h
              · obtain rfl : i = k := by omega
                exact absurd (HL.out.symm.trans hD2) (by decide)
            clear hD2 HL
            have hsl := fun W => slice_str s i k (y := (k : Int)) rfl (by omega) (by omega) W
            have hps := piece_size s i k (by omega) (by omega)
            have hds : (s.extract i k).size ≤ 8000 := by omega
            go_wp2
            go_loopg [10] s.size (fun kx s10 wr => ∃ m : Nat, s10 = .int .i64 (m : Int) ∧ k ≤ m ∧ m ≤ s.size ∧ s.size - m ≤ kx ∧ wr = w.alloc (.cells #[.int .i64 0, .string ⟨#[]⟩, .int .i64 0, .int .i64 0, .int .i64 0, .int .i64 0] 86))
            case atStart => exact ⟨k, rfl, by omega, by omega, by omega, rfl⟩
            case round =>
              obtain ⟨m, rfl, hkm, hms, hmx, rfl⟩ := hrel
              rcases Nat.lt_or_ge m s.size with hmlt | hmge
              · have hmlt' : (m : Int) < s.size := by omega
                go_wp2_with (fail)
                refine (letter_in _ _).mono ?_
                rintro _ _ ⟨rfl, rfl⟩
                generalize hL2 : letterB _ = b2
                cases b2
                · go_wp2_with (fail)
                  refine (digit_in _ _).mono ?_
                  rintro _ _ ⟨rfl, rfl⟩
                  generalize hD2 : digitB _ = b3
                  cases b3
                  · clear hL2 hD2
                    have hsl2 := fun W => slice_str s k m (y := (m : Int)) rfl (by omega) (by omega) W
                    have hsl3 := fun W => slice_str s i m (y := (m : Int)) rfl (by omega) (by omega) W
                    have hpm := piece_size s i m (by omega) (by omega)
                    go_wp2_with (fail)
                    refine (Kind_in _ _).mono ?_
                    rintro _ w2 ⟨⟨_, rfl, kn, rfl, hkn⟩, hk⟩
                    have B0 := nu_block hk (alloc_self w _)
                    have hN : Nu w w2 := ((Nu.refl w).alloc _).trans hk
                    obtain ⟨hc0, hf0⟩ := row_cells B0
                    have hl0 := lt_of_block B0
                    have HK : Aside _ := hk
                    clear hk
                    have HB : Aside _ := B0
                    have HN : Aside _ := hN
                    clear B0 hN
                    go_wp2_with (fail)
                    all_goals first
                      | (refine bodyPost_ret (results_cell_row_tmp rfl _ _ w.heap.size 86 _ _ _ (by rfl) (put6_row HB.out ⟨0, ⟨#[]⟩, 0, 0, 0, 0⟩) Try.underlying86 rfl (by kernel_rfl)) rfl ?_
                         exact .bad ⟨0, ⟨#[]⟩, 0, 0, 0, 0⟩ _ (by decide) (put6_nu HN.out (Nat.le_refl _) ⟨0, ⟨#[]⟩, 0, 0, 0, 0⟩))
                      | (refine (number_in _ _ _ hkn (by omega)).mono ?_
                         rintro _ _ @⟨nv, nb⟩
                         cases nb
                         · go_wp2
                           refine bodyPost_ret (results_cell_row_tmp rfl _ _ w.heap.size 86 _ _ _ (by rfl) (put6_row HB.out ⟨0, ⟨#[]⟩, 0, 0, 0, 0⟩) Try.underlying86 rfl (by kernel_rfl)) rfl ?_
                           exact .bad ⟨0, ⟨#[]⟩, 0, 0, 0, 0⟩ _ (by decide) (put6_nu HN.out (Nat.le_refl _) ⟨0, ⟨#[]⟩, 0, 0, 0, 0⟩)
                         · go_wp2
                           refine bodyPost_ret (results_cell_row_tmp rfl _ _ w.heap.size 86 _ _ _ (by rfl) (put6_row HB.out ⟨2, s.extract i m, nv, kn, 0, i⟩) Try.underlying86 rfl (by kernel_rfl)) rfl ?_
                           exact .good ⟨2, s.extract i m, nv, kn, 0, i⟩ (by show (2 : Int) ≠ 5; decide) (by show 1 ≤ (s.extract i m).size; omega) (by show (s.extract i m).size ≤ _; omega) (put6_nu HN.out (Nat.le_refl _) ⟨2, s.extract i m, nv, kn, 0, i⟩))
                  · go_wp2
                    go_roundg (s.size - (m + 1))
                    case measure => omega
                    case rel => exact ⟨m + 1, by go_num, by omega, by omega, by omega, rfl⟩
                · go_wp2
                  go_roundg (s.size - (m + 1))
                  case measure => omega
                  case rel => exact ⟨m + 1, by go_num, by omega, by omega, by omega, rfl⟩
              · have hmge' : ¬ (m : Int) < s.size := by omega
                have hsl2 := fun W => slice_str s k m (y := (m : Int)) rfl (by omega) (by omega) W
                have hsl3 := fun W => slice_str s i m (y := (m : Int)) rfl (by omega) (by omega) W
                have hpm := piece_size s i m (by omega) (by omega)
                go_wp2_with (fail)
                refine (Kind_in _ _).mono ?_
                rintro _ w2 ⟨⟨_, rfl, kn, rfl, hkn⟩, hk⟩
                have B0 := nu_block hk (alloc_self w _)
                have hN : Nu w w2 := ((Nu.refl w).alloc _).trans hk
                obtain ⟨hc0, hf0⟩ := row_cells B0
                have hl0 := lt_of_block B0
                have HK : Aside _ := hk
                clear hk
                have HB : Aside _ := B0
                have HN : Aside _ := hN
                clear B0 hN
                go_wp2_with (fail)
                all_goals first
                  | (refine bodyPost_ret (results_cell_row_tmp rfl _ _ w.heap.size 86 _ _ _ (by rfl) (put6_row HB.out ⟨0, ⟨#[]⟩, 0, 0, 0, 0⟩) Try.underlying86 rfl (by kernel_rfl)) rfl ?_
                     exact .bad ⟨0, ⟨#[]⟩, 0, 0, 0, 0⟩ _ (by decide) (put6_nu HN.out (Nat.le_refl _) ⟨0, ⟨#[]⟩, 0, 0, 0, 0⟩))
                  | (refine (number_in _ _ _ hkn (by omega)).mono ?_
                     rintro _ _ @⟨nv, nb⟩
                     cases nb
                     · go_wp2
                       refine bodyPost_ret (results_cell_row_tmp rfl _ _ w.heap.size 86 _ _ _ (by rfl) (put6_row HB.out ⟨0, ⟨#[]⟩, 0, 0, 0, 0⟩) Try.underlying86 rfl (by kernel_rfl)) rfl ?_
                       exact .bad ⟨0, ⟨#[]⟩, 0, 0, 0, 0⟩ _ (by decide) (put6_nu HN.out (Nat.le_refl _) ⟨0, ⟨#[]⟩, 0, 0, 0, 0⟩)
                     · go_wp2
                       refine bodyPost_ret (results_cell_row_tmp rfl _ _ w.heap.size 86 _ _ _ (by rfl) (put6_row HB.out ⟨2, s.extract i m, nv, kn, 0, i⟩) Try.underlying86 rfl (by kernel_rfl)) rfl ?_
                       exact .good ⟨2, s.extract i m, nv, kn, 0, i⟩ (by show (2 : Int) ≠ 5; decide) (by show 1 ≤ (s.extract i m).size; omega) (by show (s.extract i m).size ≤ _; omega) (put6_nu HN.out (Nat.le_refl _) ⟨2, s.extract i m, nv, kn, 0, i⟩))
          · go_wp2
            go_roundg (s.size - (k + 1))
            case measure => omega
            case rel => exact ⟨k + 1, by go_num, by omega, by omega, by omega, rfl⟩
        · have hge' : ¬ (k : Int) < s.size := by omega
          have hik2 : i < k := by omega
          clear HL
          have hsl := fun W => slice_str s i k (y := (k : Int)) rfl (by omega) (by omega) W
          have hps := piece_size s i k (by omega) (by omega)
          have hds : (s.extract i k).size ≤ 8000 := by omega
          go_wp2
          go_loopg [10] s.size (fun kx s10 wr => ∃ m : Nat, s10 = .int .i64 (m : Int) ∧ k ≤ m ∧ m ≤ s.size ∧ s.size - m ≤ kx ∧ wr = w.alloc (.cells #[.int .i64 0, .string ⟨#[]⟩, .int .i64 0, .int .i64 0, .int .i64 0, .int .i64 0] 86))
          case atStart => exact ⟨k, rfl, by omega, by omega, by omega, rfl⟩
          case round =>
            obtain ⟨m, rfl, hkm, hms, hmx, rfl⟩ := hrel
            rcases Nat.lt_or_ge m s.size with hmlt | hmge
            · have hmlt' : (m : Int) < s.size := by omega
              go_wp2_with (fail)
              refine (letter_in _ _).mono ?_
              rintro _ _ ⟨rfl, rfl⟩
              generalize hL2 : letterB _ = b2
              cases b2
              · go_wp2_with (fail)
                refine (digit_in _ _).mono ?_
                rintro _ _ ⟨rfl, rfl⟩
                generalize hD2 : digitB _ = b3
                cases b3
                · clear hL2 hD2
                  have hsl2 := fun W => slice_str s k m (y := (m : Int)) rfl (by omega) (by omega) W
                  have hsl3 := fun W => slice_str s i m (y := (m : Int)) rfl (by omega) (by omega) W
                  have hpm := piece_size s i m (by omega) (by omega)
                  go_wp2_with (fail)
                  refine (Kind_in _ _).mono ?_
                  rintro _ w2 ⟨⟨_, rfl, kn, rfl, hkn⟩, hk⟩
                  have B0 := nu_block hk (alloc_self w _)
                  have hN : Nu w w2 := ((Nu.refl w).alloc _).trans hk
                  obtain ⟨hc0, hf0⟩ := row_cells B0
                  have hl0 := lt_of_block B0
                  have HK : Aside _ := hk
                  clear hk
                  have HB : Aside _ := B0
                  have HN : Aside _ := hN
                  clear B0 hN
                  go_wp2_with (fail)
                  all_goals first
                    | (refine bodyPost_ret (results_cell_row_tmp rfl _ _ w.heap.size 86 _ _ _ (by rfl) (put6_row HB.out ⟨0, ⟨#[]⟩, 0, 0, 0, 0⟩) Try.underlying86 rfl (by kernel_rfl)) rfl ?_
                       exact .bad ⟨0, ⟨#[]⟩, 0, 0, 0, 0⟩ _ (by decide) (put6_nu HN.out (Nat.le_refl _) ⟨0, ⟨#[]⟩, 0, 0, 0, 0⟩))
                    | (refine (number_in _ _ _ hkn (by omega)).mono ?_
                       rintro _ _ @⟨nv, nb⟩
                       cases nb
                       · go_wp2
                         refine bodyPost_ret (results_cell_row_tmp rfl _ _ w.heap.size 86 _ _ _ (by rfl) (put6_row HB.out ⟨0, ⟨#[]⟩, 0, 0, 0, 0⟩) Try.underlying86 rfl (by kernel_rfl)) rfl ?_
                         exact .bad ⟨0, ⟨#[]⟩, 0, 0, 0, 0⟩ _ (by decide) (put6_nu HN.out (Nat.le_refl _) ⟨0, ⟨#[]⟩, 0, 0, 0, 0⟩)
                       · go_wp2
                         refine bodyPost_ret (results_cell_row_tmp rfl _ _ w.heap.size 86 _ _ _ (by rfl) (put6_row HB.out ⟨2, s.extract i m, nv, kn, 0, i⟩) Try.underlying86 rfl (by kernel_rfl)) rfl ?_
                         exact .good ⟨2, s.extract i m, nv, kn, 0, i⟩ (by show (2 : Int) ≠ 5; decide) (by show 1 ≤ (s.extract i m).size; omega) (by show (s.extract i m).size ≤ _; omega) (put6_nu HN.out (Nat.le_refl _) ⟨2, s.extract i m, nv, kn, 0, i⟩))
                · go_wp2
                  go_roundg (s.size - (m + 1))
                  case measure => omega
                  case rel => exact ⟨m + 1, by go_num, by omega, by omega, by omega, rfl⟩
              · go_wp2
                go_roundg (s.size - (m + 1))
                case measure => omega
                case rel => exact ⟨m + 1, by go_num, by omega, by omega, by omega, rfl⟩
            · have hmge' : ¬ (m : Int) < s.size := by omega
              have hsl2 := fun W => slice_str s k m (y := (m : Int)) rfl (by omega) (by omega) W
              have hsl3 := fun W => slice_str s i m (y := (m : Int)) rfl (by omega) (by omega) W
              have hpm := piece_size s i m (by omega) (by omega)
              go_wp2_with (fail)
              refine (Kind_in _ _).mono ?_
              rintro _ w2 ⟨⟨_, rfl, kn, rfl, hkn⟩, hk⟩
              have B0 := nu_block hk (alloc_self w _)
              have hN : Nu w w2 := ((Nu.refl w).alloc _).trans hk
              obtain ⟨hc0, hf0⟩ := row_cells B0
              have hl0 := lt_of_block B0
              have HK : Aside _ := hk
              clear hk
              have HB : Aside _ := B0
              have HN : Aside _ := hN
              clear B0 hN
              go_wp2_with (fail)
              all_goals first
                | (refine bodyPost_ret (results_cell_row_tmp rfl _ _ w.heap.size 86 _ _ _ (by rfl) (put6_row HB.out ⟨0, ⟨#[]⟩, 0, 0, 0, 0⟩) Try.underlying86 rfl (by kernel_rfl)) rfl ?_
                   exact .bad ⟨0, ⟨#[]⟩, 0, 0, 0, 0⟩ _ (by decide) (put6_nu HN.out (Nat.le_refl _) ⟨0, ⟨#[]⟩, 0, 0, 0, 0⟩))
                | (refine (number_in _ _ _ hkn (by omega)).mono ?_
                   rintro _ _ @⟨nv, nb⟩
                   cases nb
                   · go_wp2
                     refine bodyPost_ret (results_cell_row_tmp rfl _ _ w.heap.size 86 _ _ _ (by rfl) (put6_row HB.out ⟨0, ⟨#[]⟩, 0, 0, 0, 0⟩) Try.underlying86 rfl (by kernel_rfl)) rfl ?_
                     exact .bad ⟨0, ⟨#[]⟩, 0, 0, 0, 0⟩ _ (by decide) (put6_nu HN.out (Nat.le_refl _) ⟨0, ⟨#[]⟩, 0, 0, 0, 0⟩)
                   · go_wp2
                     refine bodyPost_ret (results_cell_row_tmp rfl _ _ w.heap.size 86 _ _ _ (by rfl) (put6_row HB.out ⟨2, s.extract i m, nv, kn, 0, i⟩) Try.underlying86 rfl (by kernel_rfl)) rfl ?_
                     exact .good ⟨2, s.extract i m, nv, kn, 0, i⟩ (by show (2 : Int) ≠ 5; decide) (by show 1 ≤ (s.extract i m).size; omega) (by show (s.extract i m).size ≤ _; omega) (put6_nu HN.out (Nat.le_refl _) ⟨2, s.extract i m, nv, kn, 0, i⟩))
    case false =>
      clear hL
      go_wp2_with (fail)
      refine (sign_in _ s i hi hs).mono ?_
      rintro _ _ @⟨n, hn⟩
      rcases Nat.eq_zero_or_pos n with rfl | hpos
      · go_wp2
        refine bodyPost_ret (results_cell_row_tmp rfl _ _ w.heap.size 86 _ _ _ (by rfl) (alloc_self w _) Try.underlying86 rfl (by kernel_rfl)) rfl ?_
        exact .bad ⟨0, ⟨#[]⟩, 0, 0, 0, 0⟩ _ (by decide) ((Nu.refl w).alloc _)
      · have hn0 : ¬ (n : Int) = 0 := by omega
        have hsl := fun W => slice_str s i (i + n) (y := (i : Int) + (n : Int)) (by omega) (by omega) (by omega) W
        have hps := piece_size s i (i + n) (by omega) (by omega)
        go_wp2
        refine bodyPost_ret (results_cell_row_tmp rfl _ _ w.heap.size 86 _ _ _ (by rfl) (alloc_self w _) Try.underlying86 rfl (by kernel_rfl)) rfl ?_
        exact .good ⟨4, s.extract i (i + n), 0, 0, 0, i⟩ (by show (4 : Int) ≠ 5; decide) (by show 1 ≤ (s.extract i (i + n)).size; omega) (by show (s.extract i (i + n)).size ≤ _; omega) ((Nu.refl w).alloc _)
end Go.Pa
