/-
  The iterator over the turns of clocks (own work).
-/
import Derived.Test.YtikdflkllffaaaaRtHeapOps
import Derived.Test.YtikdflkllffaaaaRtLaw
import Derived.Test.YtikdflkllffaaaaRtPure
import Derived.RangeFuncNested
import Derived.RangeFuncBound
import Derived.RangeFuncCalls
import Derived.RangeFuncLeaves
import Derived.OwnWalkIn
import Derived.TacticsInMore
import Derived.LoopIn
import Derived.Sort.LoopGhostIn
import Derived.Deep.QuietTactic
import Derived.BigQuiet
import Derived.StillTailTactics
namespace Go.Rt
open Go Go.RowKit Go.Proofs
attribute [local go_sem] Oper.semAt_some

/-- A turn of one of m clocks, below a tick. -/
abbrev TT (m : Nat) (below : Int) := { x : T // 0 ≤ x.1 ∧ x.1 < below ∧ 0 ≤ x.2 ∧ x.2 < m }
def encT {m : Nat} {below : Int} (x : TT m below) : Array Value := #[.agg #[.int .i64 x.1.1, .int .i64 x.1.2]]

/-- What the iterator reads: the two captured variables and the clocks. -/
structure Env (R : Nat → Prop) (N bl bb : Nat) (ao : Option Addr) (m cap : Nat) (cl : Row) (below : Int) (w : World) : Prop where
  ltl : bl < N ∧ ¬ R bl
  ltb : bb < N ∧ ¬ R bb
  list : w.cell? ⟨bl, 0, none⟩ = some (.slice ao m cap)
  below : w.cell? ⟨bb, 0, none⟩ = some (.int .i64 below)
  clocks : 0 < m → ∃ b o, ao = some ⟨b, o, none⟩ ∧ b < N ∧ ¬ R b ∧ ∀ k, k < m → w.cell? ⟨b, o + k * 2, none⟩ = some (.int .i64 (cl k).1) ∧ w.cell? ⟨b, o + k * 2 + 1, none⟩ = some (.int .i64 (cl k).2)

theorem Env.of_same {R R' : Nat → Prop} {N N' bl bb : Nat} {ao : Option Addr} {m cap : Nat} {cl : Row} {bel : Int} {w w' : World} (h : Env R N bl bb ao m cap cl bel w) (hN : N ≤ N') (hR : ∀ k, k < N → ¬ R k → ¬ R' k)
    (hs : ∀ k, k < N → ¬ R k → w'.heap[k]? = w.heap[k]?) : Env R' N' bl bb ao m cap cl bel w' := by
  have c : ∀ b o, b < N → ¬ R b → w'.cell? ⟨b, o, none⟩ = w.cell? ⟨b, o, none⟩ := fun b o hb hr => World.cell?_of_block (w := w) (hs b hb hr)
  refine ⟨⟨by have := h.ltl.1; omega, hR _ h.ltl.1 h.ltl.2⟩, ⟨by have := h.ltb.1; omega, hR _ h.ltb.1 h.ltb.2⟩, (c _ _ h.ltl.1 h.ltl.2).trans h.list, (c _ _ h.ltb.1 h.ltb.2).trans h.below, fun hm => ?_⟩
  obtain ⟨b, o, e, h1, h2, h3⟩ := h.clocks hm
  exact ⟨b, o, e, by omega, hR _ h1 h2, fun k hk => ⟨(c _ _ h1 h2).trans (h3 k hk).1, (c _ _ h1 h2).trans (h3 k hk).2⟩⟩

theorem Turns.keeps {base hp n : Nat} {v : Value} {f : Row} {w w' : World} (h : Turns base w hp v n f) (hs : ∀ k, base ≤ k → k < w.heap.size → w'.heap[k]? = w.heap[k]?) : Turns base w' hp v n f := by
  refine ⟨h.le, (hs hp h.le h.lt).trans h.head, ?_⟩
  obtain ⟨h1, h2 | ⟨g, cap, cur, hv, hg, hh, r⟩⟩ := h.row
  · exact ⟨h1, .inl h2⟩
  · exact ⟨h1, .inr ⟨g, cap, cur, hv, hg, (hs g hg (lt_of_block hh)).trans hh, r⟩⟩

set_option maxHeartbeats 8000000 in
set_option maxRecDepth 100000 in
theorem on1_runs (n : Nat) (w : World) (Wr : Nat → Prop) (hWr : ∀ k, Wr k → k < w.heap.size) (bl bb : Nat) (ao : Option Addr) (m cap : Nat) (cl : Row) (below : Int) (hE : Env Wr w.heap.size bl bb ao m cap cl below w)
    (hG : Good cl m) (hm : m ≤ 64) (hb0 : 0 ≤ below) (hb1 : below ≤ 5000) :
    Runs n Try.prog 24 #[.pointer (some ⟨bl, 0, none⟩), .pointer (some ⟨bb, 0, none⟩)] (encT (m := m) (below := below)) Wr (fun xs => All cl m below (xs.map (·.1))) w := by
  intro l J W hW hl hlW hJ hY h0
  have hE1 : Env (fun k => Wr k ∨ k = l) W.heap.size bl bb ao m cap cl below W := hE.of_same hW.size (fun k hk hr h => h.elim hr (fun e => by omega)) (fun k hk _ => hW.block k hk)
  clear hE
  refine callsIn_of_wp Try.func24 rfl trivial ?_ rfl
  simp only [Try.ntmps24, List.size_toArray, List.length_cons, List.length_nil, Nat.reduceAdd, Nat.reduceSub, Array.replicate_succ, Array.replicate_zero, List.push_toArray, List.append_toArray, List.nil_append, List.cons_append]
  have hl1 := hE1.list
  have hbl := hE1.ltl.1
  have HE : Aside _ := hE1
  clear hE1
  gi_wp2
  gi_loopg [11] m (fun kx s wr => ∃ (k : Nat) (v : Value) (fk : Row), s = .int .i64 (k : Int) ∧ k ≤ m ∧ m - k ≤ kx ∧
    Aside (Turns W.heap.size wr (W.heap.size + 1) v k fk ∧ Heap k fk ∧ Bag k fk (fun c => 0 ≤ c ∧ c < k) (offset cl) ∧ Below W.heap.size W wr))
  case atStart =>
    refine ⟨0, .slice (some ⟨W.heap.size, 0, none⟩) 0 0, fun _ => (0, 0), rfl, Nat.zero_le _, by omega, ⟨by omega, ?_, ?_⟩, fun k _ h => absurd h (by omega), ?_, ((Below.refl _ W).alloc (Nat.le_refl _) _).alloc (by simp) _⟩
    · have := World.alloc_heap_new (W.alloc (.cells #[] 47)) (.cells #[.slice (some ⟨W.heap.size, 0, none⟩) 0 0] 55)
      rwa [World.size_alloc] at this
    · refine ⟨rfl, .inr ⟨W.heap.size, 0, #[], rfl, Nat.le_refl _, ?_, Nat.le_refl _, Nat.zero_le _, rfl, rfl⟩⟩
      exact (Below.heap_alloc _ _ _ (by simp)).trans (World.alloc_heap_new W _)
    · exact ⟨fun k h => absurd h (by omega), fun c h => by omega, fun _ _ h => absurd h (by omega)⟩
  case round =>
    obtain ⟨k, v, fk, rfl, hk, hkx, A⟩ := hrel
    obtain ⟨hT, hH, hBg, hBe⟩ := A.out
    have hE2 := HE.out.of_same (N' := W.heap.size) (R' := fun k => Wr k ∨ k = l) (Nat.le_refl _) (fun _ _ h => h) (fun k hk _ => hBe.block k hk)
    have hlw := hE2.list
    by_cases hkm : k < m
    · obtain ⟨b, o, rfl, hbN, _, hcells⟩ := hE2.clocks (by omega)
      have hck := (hcells k hkm).2
      have hps := heapPush_in hT hH ((cl k).2, (k : Int)) (by omega)
      have H2 : Aside _ := (⟨hBg, hBe⟩ : Bag k fk (fun c => 0 ≤ c ∧ c < k) (offset cl) ∧ Below W.heap.size W wr)
      have hkm' : (k : Int) < m := by omega
      clear A hT hH hBg hBe hE2 hcells
      gi_wp2_with (fail)
      refine ⟨trivial, fun h => by simp [Fence.wide] at h, (callsIn_wide.2 hps).mono ?_⟩
      rintro e w1 ⟨rfl, v1, f1, hT1, hS1, hH1, hB1⟩
      have H3 : Aside _ := (⟨hT1, hS1, hH1, hB1⟩ : Turns W.heap.size w1 (W.heap.size + 1) v1 (k + 1) f1 ∧ Same (k + 1) (put fk k ((cl k).2, (k : Int))) f1 ∧ Heap (k + 1) f1 ∧ Below W.heap.size wr w1)
      clear hT1 hS1 hH1 hB1 hps hlw hck
      gi_wp2
      gi_roundg (m - (k + 1))
      case measure => omega
      case rel =>
        obtain ⟨hT1, hS1, hH1, hB1⟩ := H3.out
        exact ⟨k + 1, v1, f1, by go_num, by omega, by omega, hT1, hH1, bag_start H2.out.1 hS1, H2.out.2.trans hB1⟩
    · obtain rfl : k = m := by omega
      have H2 : Aside _ := A.out
      clear A hT hH hBg hBe hE2
      gi_wp2
      gi_loopg [26] (rest (offset cl) below k) (fun kx _ wr2 => ∃ (pre : List (TT k below)) (v : Value) (fk : Row) (tk : Int → Int), rest tk below k ≤ kx ∧
        Aside (Turns W.heap.size wr2 (W.heap.size + 1) v k fk ∧ St cl k below (pre.map (·.1)) fk tk ∧ Env (fun k => Wr k ∨ k = l) W.heap.size bl bb ao k cap cl below wr2 ∧ J pre wr2))
      case atStart =>
        obtain ⟨hT, hH, hBg, hBe⟩ := H2.out
        exact ⟨[], v, fk, offset cl, Nat.le_refl _, hT, St.start hG hb0 hBg hH, HE.out.of_same (Nat.le_refl _) (fun _ _ h => h) (fun k hk _ => hBe.block k hk), hJ _ _ _ h0 hBe⟩
      case round =>
        clear H2
        obtain ⟨pre, v2, f2, tk, hkx2, A⟩ := hrel
        obtain ⟨hT, hSt, hE2, hJ2⟩ := A.out
        have hcell := hT.cell
        have hfree := hT.free
        have hlen := fun q => Len_in (w := wr.drewN q) (hT.grown (w' := wr.drewN q) ⟨rfl, rfl, rfl, Nat.le_refl _, fun _ _ => rfl⟩).row
        have hbel := hE2.below
        have H2 : Aside _ := A.out
        rcases Nat.eq_zero_or_pos k with hk0 | hk0
        · have hkz : decide (0 < k) = false := decide_eq_false (by omega)
          have HK : Hid _ := hk0
          clear A hT hSt hE2 hJ2 hk0
          gi_wp2
          refine wpIn_wide.2 ?_
          go_quiet ((go_at_call 26; refine Calls.quiet_of_same (hlen _)))
          gi_wp2
          go_end0
          obtain ⟨hT, hSt, hE2, hJ2⟩ := H2.out
          exact ⟨⟨_, rfl⟩, pre, hSt.all (.inl HK.out), hJ _ _ _ hJ2 ⟨rfl, rfl, rfl, Nat.le_refl _, fun _ _ => rfl⟩⟩
        · obtain ⟨g, cap2, rfl, _, _, _, _, hrow, _⟩ := own_slice hT.row hk0
          have hc0 : wr.cell? ⟨g, 0, none⟩ = some (.int .i64 (f2 0).1) := by simpa using (hrow 0 hk0).1
          by_cases hlow : (f2 0).1 < below
          · obtain ⟨t, c, hf20, hck, ht0, htk⟩ : ∃ (t : Int) (c : Nat), f2 0 = (t, (c : Int)) ∧ c < k ∧ 0 ≤ t ∧ t = tk c := by
              obtain ⟨⟨h1, h2⟩, h3⟩ := hSt.bag.each 0 hk0
              refine ⟨(f2 0).1, (f2 0).2.toNat, Prod.ext rfl (by simp; omega), by omega, by rw [h3]; exact (hSt.pos _ h1 h2).1, by rw [h3]; congr 1; omega⟩
            have hta := assert47 t (c : Int)
            have hpop := fun q => heapPop_k (w := wr.drewN q) (hT.grown (w' := wr.drewN q) ⟨rfl, rfl, rfl, Nat.le_refl _, fun _ _ => rfl⟩) hSt.heap hk0 (by omega)
            rw [hf20] at hlow hc0
            simp only [hf20] at hpop
            simp only at hlow hc0 hpop
            have HF : Hid _ := (⟨hf20, htk⟩ : f2 0 = (t, (c : Int)) ∧ t = tk c)
            clear A hT hSt hE2 hJ2 hrow hf20 htk
            gi_wp2
            refine wpIn_wide.2 ?_
            go_quiet ((go_at_call 26; refine Calls.quiet_of_same (hlen _)))
            clear hlen hcell hc0 hbel hfree
            gi_wp2_with (fail)
            refine ⟨trivial, fun h => by simp [Fence.wide] at h, (callsIn_wide.2 (hpop _)).mono ?_⟩
            rintro e w1 ⟨rfl, v1, f1, hT1, hS1, hH1, hB1⟩
            have hBA : Below W.heap.size wr (w1.alloc (.cells #[.int .i64 t, .int .i64 (c : Int)] 47)) :=
              (Below.trans (a := wr) (b := wr.drewN nq) ⟨rfl, rfl, rfl, Nat.le_refl _, fun _ _ => rfl⟩ hB1).alloc (by have := hT1.lt; have := hT1.le; omega) _
            have hT2 := hT1.grown (w' := w1.alloc (.cells #[.int .i64 t, .int .i64 (c : Int)] 47)) ((Below.refl _ _).alloc (Nat.le_refl _) _)
            have hnew := World.alloc_heap_new w1 (.cells #[.int .i64 t, .int .i64 (c : Int)] 47)
            have hszA : W.heap.size < w1.heap.size := by have := hT1.lt; omega
            have hE3 := H2.out.2.2.1.of_same (N' := W.heap.size) (R' := fun k => Wr k ∨ k = l) (Nat.le_refl _) (fun _ _ h => h) (fun k hk _ => hBA.block k hk)
            obtain ⟨fn, tmps, assign, body, hy, hR⟩ := hY pre ⟨(t, (c : Int)), ht0, hlow, by simp, by simp; omega⟩ _ (hJ _ _ _ H2.out.2.2.2 hBA) (by simp; omega)
            dsimp only [encT] at hy
            have H3 : Aside _ := (⟨hT2, hS1, hH1, hnew, hszA, hE3⟩ : Turns W.heap.size (w1.alloc (.cells #[.int .i64 t, .int .i64 (c : Int)] 47)) (W.heap.size + 1) v1 (k - 1) f1 ∧ Same (k - 1) (swp f2 0 (k - 1)) f1 ∧ Heap (k - 1) f1 ∧
              (w1.alloc (.cells #[.int .i64 t, .int .i64 (c : Int)] 47)).heap[w1.heap.size]? = some (.cells #[.int .i64 t, .int .i64 (c : Int)] 47) ∧ W.heap.size < w1.heap.size ∧
              Env (fun k => Wr k ∨ k = l) W.heap.size bl bb ao k cap cl below (w1.alloc (.cells #[.int .i64 t, .int .i64 (c : Int)] 47)))
            clear hT1 hS1 hH1 hB1 hpop hBA hT2 hnew hszA hE3
            gi_wp2
            refine ⟨fun h => by simp [Fence.wide] at h, hR.mono ?_⟩
            rintro e w2 ⟨rfl, hJB, hkB⟩
            have hT5 := H3.out.1.keeps (w' := w2) (fun j hj hjs => hkB.same j hjs (fun h => h.elim (fun h => by have := hWr j h; have := hW.size; omega) (fun h => by omega)))
            have hE5 := H3.out.2.2.2.2.2.of_same (w' := w2) (N' := W.heap.size) (R' := fun k => Wr k ∨ k = l) (Nat.le_refl _) (fun _ _ h => h) (fun j hj hr => hkB.same j (by have := H3.out.2.2.2.2.1; simp; omega) hr)
            have hbx : w2.heap[w1.heap.size]? = some (.cells #[.int .i64 t, .int .i64 (c : Int)] 47 (0, 0)) :=
              (hkB.same _ (by simp) (fun h => by have := H3.out.2.2.2.2.1; exact h.elim (fun h => by have := hWr _ h; have := hW.size; omega) (fun h => by omega))).trans H3.out.2.2.2.1
            have hb0 : w2.cell? ⟨w1.heap.size, 0, none⟩ = some (.int .i64 t) := by simp [World.cell?, hbx]
            have hb1 : w2.cell? ⟨w1.heap.size, 1, none⟩ = some (.int .i64 (c : Int)) := by simp [World.cell?, hbx]
            have hli := hE5.list
            obtain ⟨b, o, hao, _, _, hcells⟩ := hE5.clocks hk0
            subst hao
            have hper := (hcells c hck).1
            obtain ⟨hp1, hp2, _, _⟩ := hG c hck
            have hps := heapPush_in (w := w2.drew) (hT5.grown (w' := w2.drew) ⟨rfl, rfl, rfl, Nat.le_refl _, fun _ _ => rfl⟩) H3.out.2.2.1 (t + (cl c).1, (c : Int)) (by omega)
            have hck' : (c : Int) < k := by omega
            have H5 : Aside _ := (⟨hT5, hE5, hJB⟩ : Turns W.heap.size w2 (W.heap.size + 1) v1 (k - 1) f1 ∧ Env (fun k => Wr k ∨ k = l) W.heap.size bl bb (some ⟨b, o, none⟩) k cap cl below w2 ∧ J _ w2)
            clear hT5 hE5 hJB hbx hcells hy hkB
            gi_wp2
            refine wpIn_wide.2 ?_
            go_still_tail 15, (by kernel_rfl)
            change wpList _ _ _ _ _ w2.drew
            have hd : Below W.heap.size w2 w2.drew := (Below.refl _ w2).drew
            generalize w2.drew = w3 at hps hd ⊢
            have HD : Aside _ := hd
            clear hd hb0 hb1 hli hper
            go_wp2_with (fail)
            refine hps.mono ?_
            rintro e w4 ⟨rfl, v4, f4, hT6, hS6, hH6, hB6⟩
            have H6 : Aside _ := (⟨hT6, hS6, hH6, hB6⟩ : Turns W.heap.size w4 (W.heap.size + 1) v4 (k - 1 + 1) f4 ∧ Same (k - 1 + 1) (put f1 (k - 1) (t + (cl c).1, (c : Int))) f4 ∧ Heap (k - 1 + 1) f4 ∧ Below W.heap.size w3 w4)
            clear hT6 hS6 hH6 hB6 hps
            go_wp2
            gi_roundg (rest (bump tk c (t + (cl c).1)) below k)
            case measure =>
              have := rest_bump (tk := tk) (below := below) (t := t + (cl c).1) (c := (c : Int)) k (by omega) (by omega) (by rw [← HF.out.2]; exact hlow) (by rw [← HF.out.2]; omega)
              omega
            case rel =>
              obtain ⟨hT6, hS6, hH6, hB6⟩ := H6.out
              have hBe := HD.out.trans hB6
              refine ⟨pre ++ [⟨(t, (c : Int)), ht0, hlow, by simp, by simp; omega⟩], v4, f4, bump tk c (t + (cl c).1), Nat.le_refl _, ?_, ?_, ?_, ?_⟩
              · rw [show k - 1 + 1 = k by omega] at hT6; exact hT6
              · rw [List.map_append]
                exact H2.out.2.1.step_k hk0 hG HF.out.1 hlow H3.out.2.1 hS6 hH6
              · exact H5.out.2.1.of_same (Nat.le_refl _) (fun _ _ h => h) (fun j hj _ => hBe.block j hj)
              · exact hJ _ _ _ H5.out.2.2 hBe
          · have hlow' : decide ((f2 0).1 < below) = false := decide_eq_false hlow
            clear A hT hSt hE2 hJ2 hrow
            gi_wp2
            refine wpIn_wide.2 ?_
            go_quiet ((go_at_call 26; refine Calls.quiet_of_same (hlen _)))
            gi_wp2
            go_end0
            obtain ⟨hT, hSt, hE2, hJ2⟩ := H2.out
            exact ⟨⟨_, rfl⟩, pre, hSt.all (.inr (by omega)), hJ _ _ _ hJ2 ⟨rfl, rfl, rfl, Nat.le_refl _, fun _ _ => rfl⟩⟩
end Go.Rt
