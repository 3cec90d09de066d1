/-
  rate.Table (own work).
-/
import Derived.Test.YtikdflkllffaaaaRtBase
import Derived.Deep.OwnRows
import Derived.Shelf.Abstract
import Derived.BigRegionIn
namespace Go.Rt
open Go Go.RowKit Go.Proofs Go.Shelf
attribute [local go_sem] Oper.semAt_some

set_option maxHeartbeats 4000000 in
set_option maxRecDepth 100000 in
theorem on_in (ao : Option Addr) (m cap : Nat) (below : Int) (w : World) :
    Calls Try.prog 19 #[.slice ao m cap, .int .i64 below] w fun e w' =>
      e = .returned (.func (.func 24) #[] #[.pointer (some ⟨w.heap.size, 0, none⟩), .pointer (some ⟨w.heap.size + 1, 0, none⟩)]) ∧ (w.alloc (.cells #[.slice ao m cap] 22)).alloc (.cells #[.int .i64 below] 3) = w' := by
  go_enter Try.func19, Try.ntmps19
  go_wp2
  go_ret
  exact ⟨rfl, rfl⟩

/-- n rows of m truth values: the row of the rows is block g, the rows are blocks N and on. -/
structure Mat (w : World) (g N n m : Nat) (M : Nat → Nat → Bool) : Prop where
  rows : w.rowIs g 31 n (fun t => .slice (some ⟨N + t, 0, none⟩) m m)
  cells : ∀ t, t < n → w.rowIs (N + t) 4 m (fun c => .bool (M t c))

theorem info31 : (Try.prog.info? 31).map (fun i => (i.zero, i.size, i.bytes)) = some (some (.slice none 0 0), 1, 24) := by kernel_rfl
theorem info4 : (Try.prog.info? 4).map (fun i => (i.zero, i.size, i.bytes)) = some (some (.bool false), 1, 1) := by kernel_rfl

/-- The rows that Table has made so far. -/
structure Mk (w1 w : World) (G k L m : Nat) : Prop where
  size : w.heap.size = G + 2 + k
  rows : w.rowIs G 31 L (fun t => if t < k then .slice (some ⟨G + 2 + t, 0, none⟩) m m else .slice none 0 0)
  cells : ∀ t, t < k → w.rowIs (G + 2 + t) 4 m (fun _ => .bool false)
  head : w.rowIs (G + 1) 24 1 (fun _ => .slice (some ⟨G, 0, none⟩) L L)
  below : Below G w1 w
theorem Mk.start (w1 : World) (L m : Nat) : Mk w1 ((w1.alloc (.cells (madeCells #[.slice none 0 0] L) 31)).alloc (.cells #[.slice (some ⟨w1.heap.size, 0, none⟩) L L] 24)) w1.heap.size 0 L m := by
  have h1 := World.rowIs_made w1 (.slice none 0 0) L 31
  have h2 := World.rowIs_alloc (w1.alloc (.cells (madeCells #[.slice none 0 0] L) 31)) #[.slice (some ⟨w1.heap.size, 0, none⟩) L L] 24 (fun _ => .slice (some ⟨w1.heap.size, 0, none⟩) L L) (fun i hi => by
    have : i = 0 := by simpa using hi
    subst this; rfl)
  rw [World.size_alloc] at h2
  refine ⟨by simp, (h1.alloc _).congr (fun i _ => by simp), fun t h => absurd h (by omega), h2, ((Below.refl _ w1).alloc (Nat.le_refl _) _).alloc (by simp) _⟩
theorem Mk.step {w1 w : World} {G k L m : Nat} (h : Mk w1 w G k L m) :
    Mk w1 ((w.setCell ⟨G, k, none⟩ (.slice (some ⟨w.heap.size, 0, none⟩) m m)).alloc (.cells (madeCells #[.bool false] m) 4)).drew G (k + 1) L m := by
  have hs := h.size
  have hsz : (w.setCell ⟨G, k, none⟩ (.slice (some ⟨w.heap.size, 0, none⟩) m m)).heap.size = w.heap.size := by simp [World.setCell]
  refine ⟨?_, ?_, fun t ht => ?_, ?_, ?_⟩
  · show (World.alloc _ _).heap.size = _
    rw [World.size_alloc, hsz]; omega
  · refine (((h.rows.set k _).alloc _).drew).congr (fun i _ => ?_)
    by_cases e : i = k
    · rw [if_pos e, if_pos (by omega), e, hs]
    · rw [if_neg e]
      by_cases e' : i < k
      · rw [if_pos e', if_pos (by omega)]
      · rw [if_neg e', if_neg (by omega)]
  · by_cases e : t < k
    · exact (((h.cells t e).setOther (a := ⟨G, k, none⟩) (by show G + 2 + t ≠ G; omega) _).alloc _).drew
    · have := World.rowIs_made (w.setCell ⟨G, k, none⟩ (.slice (some ⟨w.heap.size, 0, none⟩) m m)) (.bool false) m 4
      rw [hsz, hs, show G + 2 + k = G + 2 + t by omega] at this
      rw [hs, show G + 2 + k = G + 2 + t by omega]
      exact this.drew
  · exact ((h.head.setOther (a := ⟨G, k, none⟩) (by show G + 1 ≠ G; omega) _).alloc _).drew
  · exact ((h.below.setCell (p := ⟨G, k, none⟩) (Nat.le_refl _) _).alloc (by rw [hsz]; omega) _).drew

/-- What Table's rows hold while the turns come. -/
structure Tb (w : World) (G k m : Nat) (pre : List T) (W : World) : Prop where
  head : W.rowIs (G + 1) 24 1 (fun _ => .slice (some ⟨G, 0, none⟩) k k)
  rows : W.rowIs G 31 k (fun t => .slice (some ⟨G + 2 + t, 0, none⟩) m m)
  cells : ∀ t, t < k → W.rowIs (G + 2 + t) 4 m (fun c => .bool (decide (((t : Int), (c : Int)) ∈ pre)))
  below : Below w.heap.size w W
theorem Tb.of_below {w A B : World} {G k m N : Nat} {pre : List T} (h : Tb w G k m pre A) (hN : G + 2 + k ≤ N) (hw : w.heap.size ≤ N) (hb : Below N A B) : Tb w G k m pre B :=
  ⟨h.head.of_block (hb.block _ (by omega)), h.rows.of_block (hb.block _ (by omega)), fun t ht => (h.cells t ht).of_block (hb.block _ (by omega)), h.below.trans (hb.mono hw)⟩
theorem Tb.step {w W : World} {G k m : Nat} {pre : List T} (h : Tb w G k m pre W) (hw : w.heap.size ≤ G) {t c : Nat} (ht : t < k) :
    Tb w G k m (pre ++ [((t : Int), (c : Int))]) (W.setCell ⟨G + 2 + t, c, none⟩ (.bool true)).drew := by
  refine ⟨(h.head.setOther (a := ⟨G + 2 + t, c, none⟩) (by show G + 1 ≠ G + 2 + t; omega) _).drew, (h.rows.setOther (a := ⟨G + 2 + t, c, none⟩) (by show G ≠ G + 2 + t; omega) _).drew, fun t' ht' => ?_,
    (h.below.setCell (p := ⟨G + 2 + t, c, none⟩) (by show _ ≤ G + 2 + t; omega) _).drew⟩
  by_cases e : t' = t
  · subst e
    refine (((h.cells t' ht').set c _).drew).congr (fun i _ => ?_)
    by_cases e : i = c
    · subst e; simp
    · have e' : ¬ (i : Int) = (c : Int) := by omega
      rw [if_neg e]; simp [e']
  · refine (((h.cells t' ht').setOther (a := ⟨G + 2 + t, c, none⟩) (by show G + 2 + t' ≠ G + 2 + t; omega) _).drew).congr (fun i _ => ?_)
    have e' : ¬ (t' : Int) = (t : Int) := by omega
    simp [e']

/-- .. said of the turns that have come. -/
def TbI (w : World) (G k m : Nat) (below : Int) (pre : List (TT m below)) (W : World) : Prop := Tb w G k m (pre.map (fun x => x.1)) W

set_option maxHeartbeats 8000000 in
set_option maxRecDepth 100000 in
theorem Table_in (dp : Nat) {ao : Option Addr} {m cap : Nat} {cl : Row} {w : World} (h : Lst w.heap.size ao m cl w) (hm : m ≤ 1000) :
    CallsIn Fence.wide dp Try.prog 9 #[.slice ao m cap] w fun e w' => ∃ n er : Int, Base cl m n er ∧ Below w.heap.size w w' ∧
      ((er ≠ 0 ∧ e = .returned (.tuple #[.int .i64 0, .slice none 0 0, .int .i64 er])) ∨
       (er = 0 ∧ ∃ g N, w.heap.size ≤ g ∧ w.heap.size ≤ N ∧ e = .returned (.tuple #[.int .i64 n, .slice (some ⟨g, 0, none⟩) n.toNat n.toNat, .int .i64 0]) ∧
         Mat w' g N n.toNat m (fun t c => decide ((t : Int) % (cl c).1 = (cl c).2)))) := by
  have hbs := base_in (cap := cap) h hm
  refine callsIn_of_wp_marks Try.func9 rfl trivial ?_ rfl
  simp only [Try.ntmps9, List.size_toArray, List.length_cons, List.length_nil, Nat.reduceAdd, Nat.reduceSub, Array.replicate_succ, Array.replicate_zero, List.push_toArray, List.append_toArray, List.nil_append, List.cons_append]
  gi_wp2_with (fail)
  refine ⟨trivial, fun h => by simp [Fence.wide] at h, (callsIn_wide.2 hbs).mono ?_⟩
  rintro e w1 ⟨⟨n, er, rfl, hB⟩, hb1⟩
  by_cases her : er = 0
  · subst her
    obtain ⟨hG, h64, h5, rfl⟩ : Good cl m ∧ m ≤ 64 ∧ lcmTo cl m ≤ 5000 ∧ n = lcmTo cl m := by
      rcases hB with ⟨_, _, h⟩ | ⟨_, _, _, h⟩ | ⟨_, _, _, _, h⟩ | ⟨h1, h2, h3, h4, _⟩
      · cases h
      · cases h
      · cases h
      · exact ⟨h1, h2, h3, h4⟩
    obtain ⟨L, hL⟩ : ∃ L, lcmTo cl m = L := ⟨_, rfl⟩
    rw [hL] at h5
    have HB : Aside (Base cl m (lcmTo cl m) 0 ∧ Below w.heap.size w w1 ∧ lcmTo cl m = L ∧ Good cl m ∧ Lst w.heap.size ao m cl w) := ⟨hB, hb1, hL, hG, h⟩
    rw [hL]
    clear hB hbs h hL hG
    have hmk := fun w => run_make_row' (P := Try.prog) 24 31 (.slice none 0 0) 24 Try.underlying24 info31 rfl .i64 .i64 L (by omega) (by omega) w
    have hmk2 := fun w => run_make_row' (P := Try.prog) 31 4 (.bool false) 1 Try.underlying31 info4 rfl .i64 .i64 m (by omega) (by omega) w
    gi_wp2
    gi_loopg [21] L (fun kx s wr => ∃ k : Nat, s = .int .i64 (k : Int) ∧ k ≤ L ∧ L - k ≤ kx ∧ Aside (Mk w1 wr w1.heap.size k L m))
    case atStart => exact ⟨0, rfl, Nat.zero_le _, Nat.le_refl _, Mk.start w1 L m⟩
    case round =>
      obtain ⟨k, rfl, hkL, hkx, A⟩ := hrel
      have hh := A.out.head.cell (i := 0) (by omega)
      rcases Nat.lt_or_ge k L with hlt | hge
      · have hlt' : (k : Int) < L := by omega
        have hc := A.out.rows.cell hlt
        rw [if_neg (by omega)] at hc
        have hf := A.out.rows.frozen k
        have hz1 : w1.heap.size < wr.heap.size := by have := A.out.size; omega
        have hz2 : w1.heap.size + 1 < wr.heap.size := by have := A.out.size; omega
        gi_wp2
        refine wpIn_wide.2 ?_
        go_region
        all_goals
          gi_wp2
          gi_roundg (L - (k + 1))
          case measure => omega
          case rel => exact ⟨k + 1, by go_num, by omega, Nat.le_refl _, A.out.step⟩
      · obtain rfl : k = L := by omega
        have H1 : Aside _ := A.out
        have hon := on_in ao m cap (k : Int) wr
        clear A hh hge hkL hkx hmk hmk2
        gi_wp2_with (fail)
        refine ⟨trivial, fun h => by simp [Fence.wide] at h, (callsIn_wide.2 hon).mono ?_⟩
        rintro e w2 ⟨rfl, hw2⟩
        have HW2 : Aside _ := hw2
        clear hw2 hon
        gi_wp2_with (fail)
        have hs1 : wr.heap.size = w1.heap.size + 2 + k := H1.out.size
        have hs2 : w2.heap.size = wr.heap.size + 2 := by rw [← HW2.out]; simp
        have hw1 : w.heap.size ≤ w1.heap.size := HB.out.2.1.size
        have hb2 : Below wr.heap.size wr w2 := by rw [← HW2.out]; exact ((Below.refl _ wr).alloc (Nat.le_refl _) _).alloc (by simp) _
        have hbw : Below w.heap.size w w2 := (HB.out.2.1.trans (H1.out.below.mono hw1)).trans (hb2.mono (by omega))
        have hE : Env (fun j => w1.heap.size + 2 ≤ j ∧ j < w1.heap.size + 2 + k) w2.heap.size wr.heap.size (wr.heap.size + 1) ao m cap cl (k : Int) w2 := by
          refine ⟨⟨by omega, by omega⟩, ⟨by omega, by omega⟩, ?_, ?_, fun hm0 => ?_⟩
          · rw [← HW2.out]; simp
          · rw [← HW2.out]; simp
          · obtain ⟨b, o, e, hb, hcs⟩ := (HB.out.2.2.2.2.below hbw) hm0
            exact ⟨b, o, e, by omega, by omega, hcs⟩
        have hT : Tb w w1.heap.size k m [] w2 := by
          refine ⟨H1.out.head.of_block (hb2.block _ (by omega)), (H1.out.rows.of_block (hb2.block _ (by omega))).congr (fun i hi => by rw [if_pos hi]), fun t ht => ((H1.out.cells t ht).of_block (hb2.block _ (by omega))).congr (fun i hi => by simp), hbw⟩
        have hR := on1_runs (dp - 1) w2 (fun j => w1.heap.size + 2 ≤ j ∧ j < w1.heap.size + 2 + k) (fun j hj => by omega) wr.heap.size (wr.heap.size + 1) ao m cap cl (k : Int) hE HB.out.2.2.2.1 h64 (by omega) (by omega)
        have hIb : ∀ (pre : List (TT m (k : Int))) (A B : World), TbI w w1.heap.size k m (k : Int) pre A → Below w2.heap.size A B → TbI w w1.heap.size k m (k : Int) pre B := fun pre A B hi hb => Tb.of_below hi (by omega) (by omega) hb
        have hWr : ∀ j, (w1.heap.size + 2 ≤ j ∧ j < w1.heap.size + 2 + k) → j < w2.heap.size := fun j hj => by omega
        have HS : Hid (wr.heap.size = w1.heap.size + 2 + k ∧ w2.heap.size = wr.heap.size + 2 ∧ w.heap.size ≤ w1.heap.size) := ⟨hs1, hs2, hw1⟩
        clear hs1 hs2 hw1 hb2 hbw hE
        refine wpIn_rangeFunc_runs (α := TT m (k : Int)) (gf := 24) (lb := #[.pointer (some ⟨wr.heap.size, 0, none⟩), .pointer (some ⟨wr.heap.size + 1, 0, none⟩)]) rfl (enters_of Try.func24 (by kernel_rfl) rfl) hR hWr (fun _ => rfl)
          (TbI w w1.heap.size k m (k : Int)) hIb hT
          (fun x a' W => ∃ Bx, w2.heap.size ≤ Bx ∧ W.rowIs Bx 47 2 (fun i => if i = 0 then .int .i64 x.1.1 else .int .i64 x.1.2) ∧ a' = { tmps := #[.slice ao m cap, undef, .int .i64 0, .slice none 0 0, .int .i64 0, .int .i64 k, .int .i64 0, .pointer (some ⟨w1.heap.size + 1, 0, none⟩), u8, .pointer (some ⟨Bx, 0, none⟩), .tuple #[.int .i64 k, .int .i64 0], .slice ao m cap, .tuple #[.int .i64 k, .int .i64 0], .int .i64 k, .int .i64 0, .int .i64 0, .bool false, undef, .int .i64 k, .slice (some ⟨w1.heap.size, 0, none⟩) k k, .int .i64 k, .int .i64 k, .bool false, u23, u24, u25, u26, u27, u28, u29, u30, .slice ao m cap, .int .i64 k, .func (.func 24) #[] #[.pointer (some ⟨wr.heap.size, 0, none⟩), .pointer (some ⟨wr.heap.size + 1, 0, none⟩)], .agg #[.int .i64 x.1.1, .int .i64 x.1.2], undef, undef, undef, undef, undef, undef, undef, undef, undef, undef], defers := [] })
          ?hAx ?assign ?body ?done
        case hAx =>
          rintro x a' W l o o' ⟨Bx, h1, h2, h3⟩ ho hc
          refine ⟨Bx, h1, h2.of_block (World.putObj_heap_other (fun e => ?_)), h3⟩
          subst e
          obtain ⟨_, hh, _⟩ := h2
          rw [hh] at ho
          cases ho
          cases hc
        case assign =>
          intro l pre x W hI hsz
          dsimp only [encT]
          gi_wp2
          refine ⟨(KeepsBut.refl _ _).alloc _, hIb _ _ _ hI ((Below.refl _ W).alloc hsz _), W.heap.size, hsz, ?_, rfl⟩
          exact World.rowIs_alloc W #[.int .i64 x.1.1, .int .i64 x.1.2] 47 _ (fun i hi => by
            have : i = 0 ∨ i = 1 := by have : i < 2 := hi; omega
            rcases this with rfl | rfl <;> rfl)
        case body =>
          rintro l pre ⟨⟨t, c⟩, ht0, ht1, hc0, hc1⟩ a' W hI ⟨Bx, hBx, hrow, rfl⟩ hsz
          obtain ⟨tn, rfl⟩ : ∃ tn : Nat, t = tn := ⟨t.toNat, by simp at ht0; omega⟩
          obtain ⟨cn, rfl⟩ : ∃ cn : Nat, c = cn := ⟨c.toNat, by simp at hc0; omega⟩
          have htk : tn < k := by simpa using ht1
          have hcm : cn < m := by simpa using hc1
          have htz : (tn : Int) < k := by omega
          have hcz : (cn : Int) < m := by omega
          have hb0 := hrow.cell (i := 0) (by omega)
          have hb1 := hrow.cell (i := 1) (by omega)
          simp only [if_true, if_neg (show ¬ (1 : Nat) = 0 by omega)] at hb0 hb1
          have hI' : Tb w w1.heap.size k m _ W := hI
          have hhd := hI'.head.cell (i := 0) (by omega)
          have hrw := hI'.rows.cell htk
          have hcl := (hI'.cells tn htk).cell hcm
          have hfr := (hI'.cells tn htk).frozen cn
          have HI : Aside _ := hI'
          clear hI hI' hrow
          dsimp only
          gi_wp2
          have hend : KeepsBut (fun j => w1.heap.size + 2 ≤ j ∧ j < w1.heap.size + 2 + k) W (W.setCell ⟨w1.heap.size + 2 + tn, cn, none⟩ (.bool true)).drew ∧ TbI w w1.heap.size k m (k : Int) (pre ++ [⟨((tn : Int), (cn : Int)), ht0, ht1, hc0, hc1⟩]) (W.setCell ⟨w1.heap.size + 2 + tn, cn, none⟩ (.bool true)).drew := by
            have hk := (KeepsBut.refl (fun j => w1.heap.size + 2 ≤ j ∧ j < w1.heap.size + 2 + k) W).setCell (p := ⟨w1.heap.size + 2 + tn, cn, none⟩) (show w1.heap.size + 2 ≤ w1.heap.size + 2 + tn ∧ w1.heap.size + 2 + tn < w1.heap.size + 2 + k by omega) (.bool true)
            refine ⟨⟨hk.size, hk.same⟩, ?_⟩
            have := HI.out.step HS.out.2.2 (c := cn) htk
            unfold TbI
            rw [List.map_append]
            exact this
          have HE : Aside _ := hend
          clear hend HI
          gi_region
          all_goals (gi_wp2; exact HE.out)
        case done =>
          rintro D xs W hD hS hI hK
          have hI' : Tb w w1.heap.size k m _ W := hI
          have hhd := hI'.head.cell (i := 0) (by omega)
          have HI : Aside _ := (⟨hS, hI'⟩ : All cl m (k : Int) (xs.map (fun x => x.1)) ∧ Tb w w1.heap.size k m (xs.map (fun x => x.1)) W)
          clear hI hI' hS
          gi_wp2
          refine wpIn_wide.2 ?_
          go_region
          all_goals
            gi_wp2
            have hG : w1.heap.size + 2 + k ≤ D ∧ w.heap.size ≤ w1.heap.size := by have := HS.out; omega
            refine ⟨by simp, .inl ⟨_, _, rfl, run_takeDeferred (w := W.drew) hK, ?_⟩⟩
            have hput : ∀ j, j < D → (W.drew.putObj D (.deferred none)).heap[j]? = W.heap[j]? := fun j hj => World.putObj_heap_other (w := W.drew) (by omega)
            refine ⟨_, results_tmp3 rfl _ _ _, (k : Int), 0, by have := HB.out.1; rw [HB.out.2.2.1] at this; exact this, ?_, .inr ⟨rfl, w1.heap.size, w1.heap.size + 2, hG.2, by omega, rfl, ?_, fun t ht => ?_⟩⟩
            · exact HI.out.2.below.trans ⟨rfl, rfl, rfl, by simp [World.putObj], fun j hj => hput j (by omega)⟩
            · exact HI.out.2.rows.of_block (hput _ (by omega))
            · refine ((HI.out.2.cells t ht).of_block (hput _ (by have : t < k := ht; omega))).congr (fun c hc => ?_)
              congr 1
              have hm := HI.out.1.mem (t : Int) (c : Int)
              rw [decide_eq_decide, hm]
              have : t < k := ht
              simp only [period, offset, Int.toNat_natCast]
              constructor
              · exact fun h => h.2.2.2.2
              · exact fun h => ⟨by omega, by omega, by omega, by omega, h⟩
  · have her' : (er == 0) = false := by simpa using her
    have H : Aside _ := (⟨hB, hb1⟩ : Base cl m n er ∧ Below w.heap.size w w1)
    clear hB hb1 hbs h
    gi_wp2
    exact ⟨_, results_tmp3 rfl _ _ _, n, er, H.out.1, H.out.2, .inl ⟨her, rfl⟩⟩
end Go.Rt
