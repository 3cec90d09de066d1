/-
  rate.Load (own work).
-/
import Derived.Test.YtikdflkllffaaaaRtEach2
import Derived.Test.YtikdflkllffaaaaRtAlive
namespace Go.Rt
open Go Go.RowKit Go.Proofs

/-- The greatest so far, and its first place. -/
def bestOf (s : Int × Nat) (f : Nat → Int) : Nat → Int × Nat
  | 0 => s
  | k + 1 => if (bestOf s f k).1 < f k then (f k, k) else bestOf s f k
theorem bestOf_same {f : Nat → Int} (h0 : 0 ≤ f 0) : ∀ k : Nat, bestOf (0, 0) f (k + 1) = bestOf (-1, 0) f (k + 1)
  | 0 => by
    show (if (0 : Int) < f 0 then (f 0, 0) else ((0 : Int), 0)) = (if (-1 : Int) < f 0 then (f 0, 0) else ((-1 : Int), 0))
    have h1 : (-1 : Int) < f 0 := by omega
    by_cases h : 0 < f 0
    · simp [h, h1]
    · have h2 : f 0 = 0 := by omega
      simp [h2]
  | k + 1 => by
    show (if (bestOf (0, 0) f (k + 1)).1 < f (k + 1) then _ else bestOf (0, 0) f (k + 1)) = (if (bestOf (-1, 0) f (k + 1)).1 < f (k + 1) then _ else bestOf (-1, 0) f (k + 1))
    rw [bestOf_same h0 k]
theorem bestOf_bound {f : Nat → Int} {s : Int × Nat} {lo hi : Int} (hs : lo ≤ s.1 ∧ s.1 ≤ hi ∧ s.2 = 0) (hf : ∀ k, lo ≤ f k ∧ f k ≤ hi) : ∀ k : Nat, lo ≤ (bestOf s f k).1 ∧ (bestOf s f k).1 ≤ hi ∧ (bestOf s f k).2 ≤ k
  | 0 => ⟨hs.1, hs.2.1, by simp only [bestOf]; omega⟩
  | k + 1 => by
    have := bestOf_bound hs hf k
    simp only [bestOf]
    split
    · exact ⟨(hf k).1, (hf k).2, by simp⟩
    · exact ⟨this.1, this.2.1, by omega⟩

/-- The costs of a tick. -/
def loadAt (cl : Row) (cs : Nat → Int) (m : Nat) (t : Nat) : Int := sumIf cs (fun c => decide ((t : Int) % (cl c).1 = (cl c).2)) m
theorem sumIf_bound {cs : Nat → Int} {P : Nat → Bool} : ∀ {m : Nat}, (∀ c, c < m → 0 ≤ cs c ∧ cs c ≤ 1000000) → 0 ≤ sumIf cs P m ∧ sumIf cs P m ≤ m * 1000000
  | 0, _ => ⟨Int.le_refl _, by simp [sumIf]⟩
  | m + 1, h => by
    have := sumIf_bound (P := P) (m := m) (fun c hc => h c (by omega))
    have h2 := h m (by omega)
    simp only [sumIf]
    split <;> omega
def Fit (cs : Nat → Int) (k : Nat) : Prop := ∀ j, j < k → 0 ≤ cs j ∧ cs j ≤ 1000000

/-- What Load hands back. -/
def Loads (cl : Row) (m : Nat) (cs : Nat → Int) (k : Nat) (most at' er : Int) : Prop :=
  (∃ n, Base cl m n er ∧ er ≠ 0 ∧ most = 0 ∧ at' = 0) ∨ (∃ n, Base cl m n 0 ∧ k ≠ m ∧ er = 23 ∧ most = 0 ∧ at' = 0) ∨ (∃ n, Base cl m n 0 ∧ k = m ∧ ¬ Fit cs k ∧ er = 1 ∧ most = 0 ∧ at' = 0) ∨
    (∃ L : Nat, Base cl m L 0 ∧ k = m ∧ Fit cs k ∧ er = 0 ∧ most = (bestOf (0, 0) (loadAt cl cs m) L).1 ∧ at' = ((bestOf (0, 0) (loadAt cl cs m) L).2 : Int))

theorem Lst.mono {N M : Nat} {ao : Option Addr} {m : Nat} {cl : Row} {w : World} (h : Lst N ao m cl w) (hN : N ≤ M) : Lst M ao m cl w := fun hm => by
  obtain ⟨b, o, e, h1, h2⟩ := h hm
  exact ⟨b, o, e, by omega, h2⟩
theorem CLst.mono {N M : Nat} {ao : Option Addr} {m : Nat} {cs : Nat → Int} {w : World} (h : CLst N ao m cs w) (hN : N ≤ M) : CLst M ao m cs w := fun hm => by
  obtain ⟨b, o, e, h1, h2⟩ := h hm
  exact ⟨b, o, e, by omega, h2⟩

theorem info3 : (Try.prog.info? 3).map (fun i => (i.zero, i.size, i.bytes)) = some (some (.int .i64 0), 1, 8) := by kernel_rfl

set_option maxHeartbeats 16000000 in
set_option maxRecDepth 100000 in
theorem Load_in {ao co : Option Addr} {m cap k cc : Nat} {cl : Row} {cs : Nat → Int} {w : World} (h : Lst w.heap.size ao m cl w) (hm : m ≤ 1000) (hc : CLst w.heap.size co k cs w) (hk : k ≤ 1000) :
    Calls Try.prog 14 #[.slice ao m cap, .slice co k cc] w fun e w' => ∃ most at' er : Int, Loads cl m cs k most at' er ∧ e = .returned (.tuple #[.int .i64 most, .int .i64 at', .int .i64 er]) ∧ Old w w' := by
  have hbs := base_in (cap := cap) h hm
  go_enter Try.func14, Try.ntmps14
  go_wp2_with (fail)
  refine hbs.mono ?_
  rintro e w1 ⟨⟨n, er, rfl, hB⟩, hb1⟩
  have hO1 := Old.of_below hb1
  by_cases her : er = 0
  · subst her
    have HB : Aside _ := (⟨hB, hO1, hb1, h.below hb1, hc.below hb1⟩ : Base cl m n 0 ∧ Old w w1 ∧ Below w.heap.size w w1 ∧ Lst w.heap.size ao m cl w1 ∧ CLst w.heap.size co k cs w1)
    obtain ⟨hG, hn0, hn5⟩ : Good cl m ∧ 0 < n ∧ n ≤ 5000 := by
      rcases hB with ⟨_, _, h⟩ | ⟨_, _, _, h⟩ | ⟨_, _, _, _, h⟩ | ⟨h1, h2, h3, h4, _⟩
      · cases h
      · cases h
      · cases h
      · have := lcmTo_pos h1
        exact ⟨h1, by omega, by omega⟩
    have hm64 : m ≤ 64 := by
      rcases hB with ⟨_, _, h⟩ | ⟨_, _, _, h⟩ | ⟨_, _, _, _, h⟩ | ⟨h1, h2, h3, h4, _⟩
      · cases h
      · cases h
      · cases h
      · exact h2
    have HG : Aside _ := hG
    clear hB hO1 hb1 hbs h hc hG
    by_cases hkm : k = m
    · subst hkm
      go_wp2
      go_loopg [4, 5, 27] k (fun kx s4 s5 s wr => ∃ j : Nat, s4 = .int .i64 0 ∧ s5 = .int .i64 0 ∧ s = .int .i64 (j : Int) ∧ j ≤ k ∧ k - j ≤ kx ∧ Aside (Fit cs j ∧ w1 = wr))
      case atStart => exact ⟨0, rfl, rfl, rfl, Nat.zero_le _, Nat.le_refl _, fun j h => absurd h (by omega), rfl⟩
      case round =>
        obtain ⟨j, rfl, rfl, rfl, hjk, hjx, A⟩ := hrel
        obtain ⟨hF, rfl⟩ := A.out
        clear A
        have HF : Aside _ := hF
        clear hF
        rcases Nat.lt_or_ge j k with hlt | hge
        · have hlt' : (j : Int) < k := by omega
          obtain ⟨b, o, rfl, hb, hcells⟩ := HB.out.2.2.2.2 (by omega)
          have hcl := hcells j hlt
          obtain ⟨c, hce⟩ : ∃ x, cs j = x := ⟨_, rfl⟩
          rw [hce] at hcl
          have HC : Hid _ := hce
          clear hcells hce
          by_cases hok : 0 ≤ c ∧ c ≤ 1000000
          · obtain ⟨c0, c1⟩ := hok
            go_wp2
            go_roundg (k - (j + 1))
            case measure => omega
            case rel =>
              refine ⟨j + 1, rfl, rfl, by go_num, by omega, Nat.le_refl _, fun i hi => ?_, rfl⟩
              rcases Nat.lt_or_ge i j with h1 | h1
              · exact HF.out i h1
              · rw [show i = j by omega, HC.out]; exact ⟨c0, c1⟩
          · have hbad : Hid (¬ Fit cs k) := fun h => hok (by have := h j hlt; rw [HC.out] at this; exact this)
            have hcase : c < 0 ∨ (¬ c < 0 ∧ 1000000 < c) := by omega
            clear hok
            rcases hcase with c0 | ⟨c0, c1⟩
            all_goals
              go_wp2
              go_ret3
              exact ⟨_, _, _, .inr (.inr (.inl ⟨n, HB.out.1, rfl, hbad.out, rfl, rfl, rfl⟩)), rfl, HB.out.2.1⟩
        · obtain rfl : j = k := by omega
          clear hge hjk hjx
          obtain ⟨L, rfl⟩ : ∃ L : Nat, n = L := ⟨n.toNat, by omega⟩
          have hmk := fun w => run_make_row' (P := Try.prog) 48 3 (.int .i64 0) 8 Try.underlying48 info3 rfl .i64 .i64 L (by omega) (by omega) w
          have hrow := World.rowIs_made w1 (.int .i64 0) L 3
          have hb2 : Below w1.heap.size w1 (w1.alloc (.cells (madeCells #[.int .i64 0] L) 3)) := (Below.refl _ w1).alloc (Nat.le_refl _) _
          have hle : w.heap.size ≤ w1.heap.size := HB.out.2.1.size
          have hea := callsIn_wide.1 (each_in 5 (cap := cap) (cc := cc) ((HB.out.2.2.2.1.mono hle).below hb2) HG.out hm64 (by omega) ((HB.out.2.2.2.2.mono hle).below hb2) hrow)
          clear hrow hb2
          go_wp2_with (fail)
          refine hea.mono ?_
          rintro e w3 ⟨rfl, hr3, hs3, hk3, ho3, hu3, _⟩
          have hr4 : w3.rowIs w1.heap.size 3 L (fun t => .int .i64 (loadAt cl cs j t)) := hr3.congr (fun i hi => by
            have := sumIf_bound (P := fun c => decide ((i : Int) % (cl c).1 = (cl c).2)) (m := j) HF.out
            rw [IntWalk.wrap64_in _ ⟨by omega, by omega⟩]; rfl)
          have HO : Aside _ := (⟨HB.out.2.1.trans ⟨ho3, hu3, by rw [World.size_alloc] at hs3; omega, fun i hi => (hk3 i (by rw [World.size_alloc]; omega) (by omega)).trans (Below.heap_alloc _ _ _ hi)⟩, hr4⟩ : Old w w3 ∧ w3.rowIs w1.heap.size 3 L (fun t => .int .i64 (loadAt cl cs j t)))
          have hbd : ∀ t, 0 ≤ loadAt cl cs j t ∧ loadAt cl cs j t ≤ 64000000 := fun t => by
            have := sumIf_bound (P := fun c => decide ((t : Int) % (cl c).1 = (cl c).2)) (m := j) HF.out
            unfold loadAt; omega
          have HD : Aside _ := hbd
          clear hea hmk hr3 hs3 hk3 ho3 hu3 hr4 hbd
          go_wp2
          go_loopg [4, 5, 47] L (fun kx s4 s5 s wr => ∃ t : Nat, s4 = .int .i64 (bestOf (0, 0) (loadAt cl cs j) t).1 ∧ s5 = .int .i64 ((bestOf (0, 0) (loadAt cl cs j) t).2 : Int) ∧ s = .int .i64 (t : Int) ∧ t ≤ L ∧ L - t ≤ kx ∧ Aside (w3 = wr))
          case atStart => exact ⟨0, rfl, rfl, rfl, Nat.zero_le _, Nat.le_refl _, rfl⟩
          case round =>
            obtain ⟨t, rfl, rfl, rfl, htL, htk, A⟩ := hrel
            obtain rfl := A.out
            clear A
            have hbb := bestOf_bound (s := (0, 0)) (f := loadAt cl cs j) (lo := 0) (hi := 64000000) ⟨by simp, by simp, rfl⟩ HD.out t
            obtain ⟨⟨b1, b2⟩, hbe⟩ : ∃ x, bestOf (0, 0) (loadAt cl cs j) t = x := ⟨_, rfl⟩
            rw [hbe] at hbb ⊢
            simp only at hbb
            obtain ⟨bb1, bb2, bb3⟩ := hbb
            rcases Nat.lt_or_ge t L with hlt | hge
            · have hlt' : (t : Int) < L := by omega
              have hcl := HO.out.2.cell hlt
              have hfb := HD.out t
              obtain ⟨f, hfe⟩ : ∃ x, loadAt cl cs j t = x := ⟨_, rfl⟩
              rw [hfe] at hcl hfb
              obtain ⟨fb1, fb2⟩ := hfb
              have hnx : Hid (bestOf (0, 0) (loadAt cl cs j) (t + 1) = if b1 < f then (f, t) else (b1, b2)) := by
                show (if (bestOf (0, 0) (loadAt cl cs j) t).1 < loadAt cl cs j t then (loadAt cl cs j t, t) else bestOf (0, 0) (loadAt cl cs j) t) = _
                rw [hbe, hfe]
              clear hbe hfe
              by_cases hgt : b1 < f
              · have HX : Hid _ := hgt
                go_wp2
                go_roundg (L - (t + 1))
                case measure => omega
                case rel => exact ⟨t + 1, by rw [hnx.out, if_pos HX.out], by rw [hnx.out, if_pos HX.out], by go_num, by omega, Nat.le_refl _, rfl⟩
              · have HX : Hid _ := hgt
                go_wp2
                go_roundg (L - (t + 1))
                case measure => omega
                case rel => exact ⟨t + 1, by rw [hnx.out, if_neg HX.out], by rw [hnx.out, if_neg HX.out], by go_num, by omega, Nat.le_refl _, rfl⟩
            · obtain rfl : t = L := by omega
              have HE : Hid _ := hbe
              clear hbe
              go_wp2
              go_ret3
              exact ⟨_, _, _, .inr (.inr (.inr ⟨t, HB.out.1, rfl, HF.out, rfl, by rw [HE.out], by rw [HE.out]⟩)), rfl, HO.out.1⟩
    · have hkz : ((k : Int) == (m : Int)) = false := by
        have : ¬ (k : Int) = (m : Int) := by omega
        simpa using this
      have HK : Hid _ := hkm
      clear hkm
      go_wp2
      go_ret3
      exact ⟨_, _, _, .inr (.inl ⟨n, HB.out.1, HK.out, rfl, rfl, rfl⟩), rfl, HB.out.2.1⟩
  · have her' : (er == 0) = false := by simpa using her
    have HB : Aside _ := (⟨hB, hO1, her⟩ : Base cl m n er ∧ Old w w1 ∧ ¬ er = 0)
    clear hB hO1 hb1 hbs h hc her
    go_wp2
    go_ret3
    exact ⟨_, _, _, .inl ⟨n, HB.out.1, HB.out.2.2, rfl, rfl⟩, rfl, HB.out.2.1⟩
end Go.Rt
