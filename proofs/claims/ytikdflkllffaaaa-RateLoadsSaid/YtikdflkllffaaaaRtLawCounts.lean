/-
  The walk of RateCounts (own work).
-/
import Derived.Test.YtikdflkllffaaaaRtTable
import Derived.Test.YtikdflkllffaaaaRtActive
import Derived.Test.YtikdflkllffaaaaRtAlive
import Derived.Test.YtikdflkllffaaaaRtCount
namespace Go.Rt
open Go Go.RowKit Go.Proofs

theorem Lst.old {ao : Option Addr} {m : Nat} {cl : Row} {w w' : World} (h : Lst w.heap.size ao m cl w) (ho : Old w w') : Lst w'.heap.size ao m cl w' := fun hm => by
  obtain ⟨b, o, e, h1, h2⟩ := h hm
  exact ⟨b, o, e, Nat.lt_of_lt_of_le h1 ho.size, fun k hk => ⟨(ho.cell (a := ⟨b, o + k * 2, none⟩) h1).trans (h2 k hk).1, (ho.cell (a := ⟨b, o + k * 2 + 1, none⟩) h1).trans (h2 k hk).2⟩⟩
/-- A copy of a list. -/
theorem lst_of_own {base : Nat} {w : World} {m : Nat} {v : Value} {cl : Row} (h : w.ownsRow base 35 2 v m (cellsOf cl m)) (hm : 0 < m) :
    ∃ g cap, v = .slice (some ⟨g, 0, none⟩) m cap ∧ Lst w.heap.size (some ⟨g, 0, none⟩) m cl w := by
  obtain ⟨h1, h2⟩ := h
  rcases h2 with ⟨_, h2⟩ | ⟨g, cap, cur, hv, hg, hh, r1, r2, r3, r4⟩
  · omega
  · have hget : ∀ j, j < m * 2 → w.cell? ⟨g, j, none⟩ = (cellsOf cl m)[j]? := fun j hj => by
      rw [← r4, List.getElem?_take, if_pos hj]
      simp [World.cell?, hh]
    refine ⟨g, cap, hv, fun _ => ⟨g, 0, rfl, lt_of_block hh, fun k hk => ⟨?_, ?_⟩⟩⟩
    · rw [Nat.zero_add, Nat.mul_comm k 2, hget _ (by omega), cellsOf_tick cl hk]
    · rw [Nat.zero_add, Nat.mul_comm k 2, hget _ (by omega), cellsOf_clock cl hk]
theorem cells_at {N m b o : Nat} {cl : Row} {w : World} (h : Lst N (some ⟨b, o, none⟩) m cl w) : ∀ j u, (cellsOf cl m)[j]? = some u → w.cell? ((⟨b, o, none⟩ : Addr).add j) = some u := by
  intro j u hj
  rw [cellsOf_get] at hj
  by_cases hjm : j < m * 2
  · rw [if_pos hjm] at hj
    obtain ⟨b', o', e, _, hc⟩ := h (by omega)
    cases e
    have hk := hc (j / 2) (by omega)
    have ea : (⟨b, o, none⟩ : Addr).add j = ⟨b, o + j, none⟩ := by simp [Addr.add]
    rw [ea]
    by_cases h2 : j % 2 = 0
    · rw [if_pos h2] at hj
      have := hk.1
      rw [show o + j / 2 * 2 = o + j by omega] at this
      rw [this]; exact hj
    · rw [if_neg h2] at hj
      have := hk.2
      rw [show o + j / 2 * 2 + 1 = o + j by omega] at this
      rw [this]; exact hj
  · rw [if_neg hjm] at hj; cases hj
theorem cellsOf_one (f : Row) (n : Nat) : ∀ u ∈ cellsOf f n, u.oneCell' = true := by
  intro u hu
  unfold cellsOf at hu
  obtain ⟨m, _, rfl⟩ := List.mem_map.1 hu
  split <;> rfl
theorem info35 : (Try.prog.info? 35).map (fun i => (i.zero, i.size, i.bytes)) = some (some (.agg #[.int .i64 0, .int .i64 0]), 2, 16) := by kernel_rfl

theorem act_mod {p o t : Int} (hp : 1 ≤ p) (h0 : 0 ≤ o) (ho : o < p) (ht : 0 ≤ t) : act p o t = decide (t % p = o) := by simp [act, hp, h0, ho, ht]

set_option maxHeartbeats 16000000 in
set_option maxRecDepth 100000 in
theorem RateCounts_in {ao : Option Addr} {m cap : Nat} {cl : Row} {w : World} (h : Lst w.heap.size ao m cl w) (hm : m ≤ maxLen) (which : Int) (hw1 : which ≤ 9223372036854775807) :
    Calls Try.prog 6 #[.slice ao m cap, .int .i64 which] w fun e w' => e = .returned (.bool true) ∧ Old w w' := by
  have hal := alive_in w
  have hnm := num_in
  obtain ⟨i0, hi, hz0, hz1, hz2⟩ := info_parts info35
  unfold maxLen at hm
  by_cases hbad : m < 1 ∨ (1 ≤ m ∧ 6 < m) ∨ (1 ≤ m ∧ m ≤ 6 ∧ which < 0)
  · rcases hbad with h1 | ⟨h1, h2⟩ | ⟨h1, h2, h3⟩
    all_goals
      clear hnm hi hz0 hz1 hz2 h
      try have h1' : (m : Int) < 1 := by omega
      try have h1' : ¬ (m : Int) < 1 := by omega
      try have h2' : (6 : Int) < m := by omega
      try have h2' : ¬ (6 : Int) < m := by omega
      go_enter Try.func6, Try.ntmps6
      go_wp2_with (fail)
      refine hal.mono ?_
      rintro x wA ⟨rfl, hA⟩
      have HA : Aside _ := hA
      clear hal hA
      go_wp2
      go_ret
      exact ⟨rfl, HA.out⟩
  · have h1 : 1 ≤ m := by omega
    have h2 : m ≤ 6 := by omega
    have h3 : 0 ≤ which := by omega
    have hd1 : decide ((m : Int) < 1) = false := decide_eq_false (by omega)
    have hd2 : decide ((6 : Int) < m) = false := decide_eq_false (by omega)
    have hd3 : decide (which < 0) = false := decide_eq_false (by omega)
    clear hbad
    obtain ⟨b, o, rfl, hb, _⟩ := h (by omega)
    go_enter Try.func6, Try.ntmps6
    go_wp2_with (fail)
    refine hal.mono ?_
    rintro x wA ⟨rfl, hA⟩
    have hLA := h.old hA
    have hcs := cells_at hLA
    have HA : Aside _ := (⟨hA, hLA⟩ : Old w wA ∧ Lst wA.heap.size (some ⟨b, o, none⟩) m cl wA)
    clear hal hA hLA h
    go_wp2_with (at_builtin; refine wpList_append_own _ rfl _ _ 22 rfl wA.heap.size 35 i0 _ 2 16 Try.underlying22 hi hz0 hz1 hz2 rfl (by decide) (.slice none 0 0) 0 [] rfl (World.ownsRow_nil _ _ _ _) ⟨b, o, none⟩ m cap (cellsOf cl m) rfl (cellsOf_length _ _) hcs (cellsOf_one _ _) (by unfold maxLen; omega) (by omega) (Nat.le_refl _) ?_; intro v1 w1 hown hgrow _)
    rw [Nat.zero_add, List.nil_append] at hown
    obtain ⟨g, cap2, rfl, hL1⟩ := lst_of_own hown (by omega)
    have hT := callsIn_wide.1 (Table_in 5 (cap := cap2) hL1 (by omega))
    have hb1 : Below wA.heap.size wA w1 := (Below.refl _ wA).grown hgrow (Nat.le_refl _) (fun k e => by cases e)
    clear hown hgrow hL1 hcs
    refine hT.mono ?_
    rintro x w3 ⟨n, er, hB, hbe, hx⟩
    have hAO : Old wA w3 := (Old.of_below hb1).trans (Old.of_below hbe)
    have HO : Hid (Old w w3) := HA.out.1.trans hAO
    have HL : Aside _ := HA.out.2.old hAO
    clear hT hbe hb1 hAO HA
    rcases hx with ⟨her, rfl⟩ | ⟨rfl, g2, N, hg, hN, rfl, hM⟩
    · have her' : (er == 0) = false := by simpa using her
      clear hB
      go_wp2_with (fail)
      refine (hnm _ _).mono ?_
      rintro x w4 ⟨rfl, rfl⟩
      go_wp2
      go_ret
      exact ⟨rfl, HO.out⟩
    · obtain ⟨hG, hm64, h5, rfl⟩ : Good cl m ∧ m ≤ 64 ∧ lcmTo cl m ≤ 5000 ∧ n = lcmTo cl m := by
        rcases hB with ⟨_, _, h⟩ | ⟨_, _, _, h⟩ | ⟨_, _, _, _, h⟩ | ⟨h1, h2, h3, h4, _⟩
        · cases h
        · cases h
        · cases h
        · exact ⟨h1, h2, h3, h4⟩
      obtain ⟨L, hLe⟩ : ∃ L, lcmTo cl m = L := ⟨_, rfl⟩
      obtain ⟨kk, hkk⟩ : ∃ k : Nat, which % (m : Int) = k := ⟨(which % (m : Int)).toNat, by have := Int.emod_nonneg which (show (m : Int) ≠ 0 by omega); omega⟩
      have hkm : kk < m := by have := Int.emod_lt_of_pos which (show (0 : Int) < m by omega); omega
      have hgk := hG kk hkm
      obtain ⟨p, hp⟩ : ∃ k : Nat, (cl kk).1 = k := ⟨(cl kk).1.toNat, by omega⟩
      obtain ⟨q, hq⟩ : ∃ k : Nat, (cl kk).2 = k := ⟨(cl kk).2.toNat, by omega⟩
      have hdv : p ∣ L := by have := dvd_lcmTo (cl := cl) hkm; rw [hp, hLe] at this; exact this
      rw [hp, hq] at hgk
      rw [hLe] at h5 hM ⊢
      simp only [Int.toNat_natCast] at hM ⊢
      have hac := fun (t : Int) (w : World) (ht : t ≤ 9223372036854775807) => Active_in (p : Int) (q : Int) t (by omega) ht w
      have HG : Aside _ := (⟨hG, hLe, hp, hq, hdv⟩ : Good cl m ∧ lcmTo cl m = L ∧ (cl kk).1 = p ∧ (cl kk).2 = q ∧ p ∣ L)
      clear hB hG hLe hp hq hdv
      go_wp2_with (fail)
      refine (hnm _ _).mono ?_
      rintro x w4 ⟨rfl, rfl⟩
      go_wp2
      simp only [hkk]
      go_loopg [10, 11] L (fun kx s10 s11 wr => ∃ t : Nat, s10 = .int .i64 (cnt p q t : Int) ∧ s11 = .int .i64 (t : Int) ∧ t ≤ L ∧ L - t ≤ kx ∧ Aside (Below w3.heap.size w3 wr))
      case atStart => exact ⟨0, by rw [cnt_zero]; rfl, rfl, Nat.zero_le _, Nat.le_refl _, Below.refl _ _⟩
      case round =>
        obtain ⟨t, rfl, rfl, htL, htk, A⟩ := hrel
        obtain ⟨c, hc⟩ : ∃ c, cnt p q t = c := ⟨_, rfl⟩
        have hcle : c ≤ 5001 := by rw [← hc]; have := cnt_le (p := p) (o := q) (t := t); omega
        rw [hc]
        rcases Nat.lt_or_ge t L with hlt | hge
        · obtain ⟨bb, hbb⟩ : ∃ x, decide ((t : Int) % (cl kk).1 = (cl kk).2) = x := ⟨_, rfl⟩
          have hr := (A.out.cell (p := ⟨g2, t, none⟩) hM.rows.lt).trans (hM.rows.cell hlt)
          have hcl := (A.out.cell (p := ⟨N + t, kk, none⟩) (hM.cells t hlt).lt).trans ((hM.cells t hlt).cell hkm)
          rw [hbb] at hcl
          obtain ⟨b', o', e, hbN, hls⟩ := HL.out (by omega)
          cases e
          have hl1 := (A.out.cell (p := ⟨b, o + kk * 2, none⟩) hbN).trans (hls kk hkm).1
          have hl2 := (A.out.cell (p := ⟨b, o + kk * 2 + 1, none⟩) hbN).trans (hls kk hkm).2
          rw [HG.out.2.2.1] at hl1
          rw [HG.out.2.2.2.1] at hl2
          have e1 : act p q t = bb := by
            rw [act_mod (by omega) (by omega) (by omega) (by omega), ← hbb, HG.out.2.2.1, HG.out.2.2.2.1]
          have e2 : act p q ((t : Int) + 7 * (L : Int)) = bb := by
            obtain ⟨y, hy⟩ := HG.out.2.2.2.2
            rw [act_mod (by omega) (by omega) (by omega) (by omega), ← hbb, HG.out.2.2.1, HG.out.2.2.2.1, hy]
            congr 1
            rw [show 7 * ((p * y : Nat) : Int) = (p : Int) * (7 * (y : Int)) by rw [Int.natCast_mul, ← Int.mul_assoc, Int.mul_comm 7 (p : Int), Int.mul_assoc], Int.add_mul_emod_self_left]
          have hq : ∀ (x : Int) (k : Nat), act p q x = bb → x ≤ 9223372036854775807 → Calls Try.prog 13 #[.int .i64 p, .int .i64 q, .int .i64 x] (wr.drewN k) fun e w' => e = .returned (.bool bb) ∧ w' = wr.drewN k := fun x k hx hl =>
            (hac x (wr.drewN k) hl).mono fun e w' h => ⟨by rw [h.1, hx], h.2.symm⟩
          have E1 : Hid _ := e1
          have E2 : Hid _ := e2
          clear e1 e2 hac
          have hlt' : (t : Int) < L := by omega
          have hkm' : (kk : Int) < m := by omega
          have hnext : Hid (cnt p q (t + 1) = c + if bb then 1 else 0) := by
            rw [cnt_succ (by omega) (by omega), hc, ← hbb, HG.out.2.2.1, HG.out.2.2.2.1]
            congr 1
            have e : ((t : Int) % p = q) ↔ t % p = q := by omega
            simp only [decide_eq_true_eq, e]
          have HM : Aside _ := hM
          have HN : Hid _ := hc
          clear hls hM hbb hc
          cases bb with
          | true =>
            go_wp2
            go_quiet ((go_at_call 13; refine Calls.quiet_of_same (hq _ _ ?_ ?_); (first | exact E1.out | exact E2.out); omega))
            go_wp2
            go_roundg (L - (t + 1))
            case measure => omega
            case rel => exact ⟨t + 1, by rw [hnext.out]; simp, by go_num, by omega, Nat.le_refl _, A.out.trans ⟨rfl, rfl, rfl, Nat.le_refl _, fun _ _ => rfl⟩⟩
          | false =>
            go_wp2
            go_quiet ((go_at_call 13; refine Calls.quiet_of_same (hq _ _ ?_ ?_); (first | exact E1.out | exact E2.out); omega))
            go_wp2
            go_roundg (L - (t + 1))
            case measure => omega
            case rel => exact ⟨t + 1, by rw [hnext.out]; simp, by go_num, by omega, Nat.le_refl _, A.out.trans ⟨rfl, rfl, rfl, Nat.le_refl _, fun _ _ => rfl⟩⟩
        · obtain rfl : t = L := by omega
          have hce : c * p = t := by rw [← hc]; exact cnt_end HG.out.2.2.2.2
          have hcz : (c : Int) * (p : Int) = (t : Int) := by rw [← hce]; simp
          obtain ⟨b', o', e, hbN, hls⟩ := HL.out (by omega)
          cases e
          have hl1 := (A.out.cell (p := ⟨b, o + kk * 2, none⟩) hbN).trans (hls kk hkm).1
          rw [HG.out.2.2.1] at hl1
          have hkm' : (kk : Int) < m := by omega
          have HC : Hid _ := hc
          clear hls hM hac hc hce
          have hL0 : 0 < t := by rw [← HG.out.2.1]; exact lcmTo_pos HG.out.1
          have HA2 : Aside _ := A.out
          clear A
          go_wp2
          go_loopg [12] t (fun kx s12 wr => ∃ x : Nat, s12 = .int .i64 (x : Int) ∧ 1 ≤ x ∧ x ≤ t ∧ t - x ≤ kx ∧ Aside (Below w3.heap.size w3 wr))
          case atStart => exact ⟨1, rfl, Nat.le_refl _, hL0, by omega, HA2.out⟩
          case round =>
            clear HA2 hl1
            obtain ⟨x, rfl, hx1, hxt, hxk, A⟩ := hrel
            rcases Nat.lt_or_ge x t with hlt | hge2
            · have hlt' : (x : Int) < t := by omega
              have hend : Hid (allTo cl x m = false) := allTo_end (by omega) (by rw [HG.out.2.1]; exact hlt)
              go_wp2
              go_loopg [13, 14] m (fun kx s13 s14 wr => ∃ i : Nat, s13 = .bool (allTo cl x i) ∧ s14 = .int .i64 (i : Int) ∧ i ≤ m ∧ m - i ≤ kx ∧ Aside (Below w3.heap.size w3 wr))
              case atStart => exact ⟨0, rfl, rfl, Nat.zero_le _, Nat.le_refl _, A.out⟩
              case round =>
                clear A
                obtain ⟨i, rfl, rfl, him, hik, A⟩ := hrel
                rcases Nat.lt_or_ge i m with hil | hig
                · have hil' : (i : Int) < m := by omega
                  obtain ⟨b', o', e, hbN, hls⟩ := HL.out (by omega)
                  cases e
                  have hl1 := (A.out.cell (p := ⟨b, o + i * 2, none⟩) hbN).trans (hls i hil).1
                  have hgi := HG.out.1 i hil
                  obtain ⟨pi, hpi⟩ : ∃ k : Nat, (cl i).1 = k := ⟨(cl i).1.toNat, by omega⟩
                  rw [hpi] at hl1 hgi
                  have hpi1 : 1 ≤ pi := by omega
                  obtain ⟨al, hal⟩ : ∃ y, allTo cl x i = y := ⟨_, rfl⟩
                  have hnext : Hid (allTo cl x (i + 1) = (al && decide (x % pi = 0))) := by
                    show (allTo cl x i && decide (x % (cl i).1.toNat = 0)) = _
                    rw [hal, hpi]; rfl
                  rw [hal]
                  clear hls hpi hal
                  cases al with
                  | true =>
                    go_wp2
                    go_roundg (m - (i + 1))
                    case measure => omega
                    case rel =>
                      refine ⟨i + 1, ?_, by go_num, by omega, Nat.le_refl _, A.out⟩
                      have e : ((x : Int) % (pi : Int) = 0) ↔ x % pi = 0 := by omega
                      rw [hnext.out, Bool.true_and]
                      congr 1
                      rw [Bool.eq_iff_iff]
                      simp only [beq_iff_eq, decide_eq_true_eq, e]
                  | false =>
                    go_wp2
                    go_roundg (m - (i + 1))
                    case measure => omega
                    case rel => exact ⟨i + 1, by rw [hnext.out]; rfl, by go_num, by omega, Nat.le_refl _, A.out⟩
                · obtain rfl : i = m := by omega
                  rw [hend.out]
                  go_wp2
                  go_roundg (t - (x + 1))
                  case measure => omega
                  case rel => exact ⟨x + 1, by go_num, by omega, by omega, Nat.le_refl _, A.out⟩
            · obtain rfl : x = t := by omega
              go_wp2
              go_ret
              exact ⟨rfl, HO.out.trans (Old.of_below A.out)⟩
end Go.Rt
