/-
  The walk of RateLoads (own work; this text was printed by mkloads.py).
-/
import Derived.Test.YtikdflkllffaaaaRtLoad
import Derived.Test.YtikdflkllffaaaaRtLawTables
namespace Go.Rt
open Go Go.RowKit Go.Proofs

theorem base_len {cl : Row} {m : Nat} {n : Int} (h : Base cl m n 0) : m ≤ 64 := by
  rcases h with ⟨_, _, h⟩ | ⟨_, _, _, h⟩ | ⟨_, _, _, _, h⟩ | ⟨h1, h2, h3, h4, _⟩
  · cases h
  · cases h
  · cases h
  · exact h2
theorem CLst.old {ao : Option Addr} {k : Nat} {cs : Nat → Int} {w w' : World} (h : CLst w.heap.size ao k cs w) (ho : Old w w') : CLst w'.heap.size ao k cs w' := fun hm => by
  obtain ⟨b, o, e, h1, h2⟩ := h hm
  exact ⟨b, o, e, Nat.lt_of_lt_of_le h1 ho.size, fun j hj => (ho.cell (a := ⟨b, o + j, none⟩) h1).trans (h2 j hj)⟩
def ccells (cs : Nat → Int) (k : Nat) : List Value := (List.range k).map fun j => .int .i64 (cs j)
theorem ccells_one (cs : Nat → Int) (k : Nat) : ∀ u ∈ ccells cs k, u.oneCell' = true := by
  intro u hu
  obtain ⟨j, _, rfl⟩ := List.mem_map.1 hu
  rfl
theorem ccells_at {N k : Nat} {a : Addr} {cs : Nat → Int} {w : World} (h : CLst N (some a) k cs w) : ∀ j u, (ccells cs k)[j]? = some u → w.cell? (a.add j) = some u := by
  intro j u hj
  by_cases hjk : j < k
  · obtain ⟨b, o, e, _, hc⟩ := h (by omega)
    cases e
    have ea : (⟨b, o, none⟩ : Addr).add j = ⟨b, o + j, none⟩ := by simp [Addr.add]
    rw [ea, hc j hjk]
    simpa [ccells, hjk] using hj
  · simp [ccells, hjk] at hj
theorem clst_of_own {base : Nat} {w : World} {k : Nat} {v : Value} {cs : Nat → Int} (h : w.ownsRow base 3 1 v k (ccells cs k)) : ∃ a cap, v = .slice a k cap ∧ CLst w.heap.size a k cs w := by
  obtain ⟨_, ⟨rfl, rfl⟩ | ⟨g, cap, cur, rfl, hg, hh, r1, r2, r3, r4⟩⟩ := h
  · exact ⟨_, _, rfl, fun h => absurd h (by omega)⟩
  · refine ⟨_, _, rfl, fun _ => ⟨g, 0, rfl, lt_of_block hh, fun j hj => ?_⟩⟩
    have : cur.toList[j]? = (ccells cs k)[j]? := by rw [← r4, List.getElem?_take, if_pos (by omega)]
    simp only [World.cell?, hh, Nat.zero_add]
    rw [← Array.getElem?_toList, this]
    simp [ccells, hj]
theorem info3' : (Try.prog.info? 3).map (fun i => (i.zero, i.size, i.bytes)) = some (some (.int .i64 0), 1, 8) := by kernel_rfl

set_option maxHeartbeats 16000000 in
set_option maxRecDepth 100000 in
theorem RateLoads_in {ao co : Option Addr} {m cap k cc : Nat} {cl : Row} {cs : Nat → Int} {w : World} (h : Lst w.heap.size ao m cl w) (hm : m ≤ maxLen) (hc : CLst w.heap.size co k cs w) (hk : k ≤ maxLen) (hnil : co = none → k = 0 ∧ cc = 0) :
    Calls Try.prog 5 #[.slice ao m cap, .slice co k cc] w fun e w' => e = .returned (.bool true) ∧ Old w w' := by
  have hal := alive_in w
  have hnm := num_in
  obtain ⟨i0, hi, hz0, hz1, hz2⟩ := info_parts info3'
  unfold maxLen at hm hk
  by_cases h100 : 100 < m ∨ (m ≤ 100 ∧ 100 < k)
  · rcases h100 with h1 | ⟨h1, h2⟩
    all_goals
      try have h1' : (100 : Int) < m := by omega
      try have h1' : decide ((100 : Int) < m) = false := decide_eq_false (by omega)
      try have h2' : (100 : Int) < k := by omega
      clear hnm hi hz0 hz1 hz2 h hc
      go_enter Try.func5, Try.ntmps5
      go_wp2_with (fail)
      refine hal.mono ?_
      rintro x wA ⟨rfl, hA⟩
      have HA : Aside _ := hA
      clear hal hA
      go_wp2
      go_ret
      exact ⟨rfl, HA.out⟩
  have hm1 : m ≤ 100 := by omega
  have hk1 : k ≤ 100 := by omega
  have hd1 : decide ((100 : Int) < m) = false := decide_eq_false (by omega)
  have hd2 : decide ((100 : Int) < k) = false := decide_eq_false (by omega)
  clear h100
  cases co with
  | none =>
  obtain ⟨rfl, rfl⟩ := hnil rfl
  · go_enter Try.func5, Try.ntmps5
    go_wp2_with (fail)
    refine hal.mono ?_
    rintro x wA ⟨rfl, hA⟩
    have hLA := h.old hA
    have hCA := hc.old hA
    have hLo := Load_in (cap := cap) (cc := 0) hLA (by omega) hCA (by omega)
    have HA : Aside _ := (⟨hA, hLA, hCA⟩ : Old w wA ∧ Lst wA.heap.size ao m cl wA ∧ CLst wA.heap.size none 0 cs wA)
    clear hal hA hLA hCA h hc hi hz0 hz1 hz2
    go_wp2_with (fail)
    refine hLo.mono ?_
    rintro x w3 ⟨most, at', er, hB, rfl, hO3⟩
    have hAO : Old wA w3 := hO3
    clear hLo hO3
    have hRT := RefTable_in (cap := cap) (HA.out.2.1.old hAO) (by omega)
    have HO : Aside _ := (⟨HA.out.1.trans hAO, hB, HA.out.2.2.old hAO⟩ : Old w w3 ∧ Loads cl m cs 0 most at' er ∧ CLst w3.heap.size none 0 cs w3)
    clear hAO HA hB
    go_wp2_with (fail)
    refine hRT.mono ?_
    rintro x w5 ⟨n5, er5, v5, rfl, hB5, hb5, hx5⟩
    have hO5 : Old w w5 := HO.out.1.trans (Old.of_below hb5)
    have hC5 : CLst w5.heap.size none 0 cs w5 := HO.out.2.2.old (Old.of_below hb5)
    rcases HO.out.2.1 with ⟨n, hb, he, rfl, rfl⟩ | ⟨n, hb, hk, rfl, rfl, rfl⟩ | ⟨n, hb, hk, hf, rfl, rfl, rfl⟩ | ⟨L, hb, hk, hf, rfl, rfl, rfl⟩
    · obtain ⟨hnn, hee⟩ := base_unique hb hB5
      subst hnn hee
      have hez : (er == 0) = false := by simpa using he
      have HX : Aside _ := hO5
      clear HO hb hx5 hB5 hb5 hRT hO5 hC5 he
      go_wp2_with (fail)
      refine (hnm _ _).mono ?_
      rintro x w6 ⟨rfl, rfl⟩
      go_wp2
      go_ret
      exact ⟨rfl, HX.out⟩
    · obtain ⟨hnn, hee⟩ := base_unique hb hB5
      subst hnn hee
      have hkz : ((0 : Nat) : Int) ≠ (m : Int) := by omega
      have hkz2 : (((0 : Nat) : Int) == (m : Int)) = false := by simpa using hkz
      have HX : Aside _ := hO5
      clear HO hb hx5 hB5 hb5 hRT hO5 hC5 hk hkz
      go_wp2_with (fail)
      refine (hnm _ _).mono ?_
      rintro x w6 ⟨rfl, rfl⟩
      go_wp2
      go_ret
      exact ⟨rfl, HX.out⟩
    · exact absurd (fun j h => absurd h (by omega)) hf
    · obtain ⟨hnn, hee⟩ := base_unique hb hB5
      subst hnn hee
      subst hk
      have hx5' : RRows w3.heap.size w5 v5 L 0 (onAt cl) := by
        rcases hx5 with ⟨h, _⟩ | ⟨_, h⟩
        · exact absurd rfl h
        · exact h
      obtain ⟨hG, hL⟩ := base_good hb
      have hL5 : L ≤ 5000 := by omega
      have hL0 : 0 < L := by omega
      have hm64 : 0 ≤ 64 := base_len hb
      obtain ⟨R, hR1, hR2⟩ := hx5'
      obtain ⟨gr, cr, rfl, hrc⟩ := own_rows hR1 hL0
      have hbd : ∀ t, 0 ≤ loadAt cl cs 0 t ∧ loadAt cl cs 0 t ≤ 64000000 := fun t => by
        have := sumIf_bound (P := fun c => decide ((t : Int) % (cl c).1 = (cl c).2)) (m := 0) hf
        unfold loadAt; omega
      have hsame : bestOf (0, 0) (loadAt cl cs 0) L = bestOf (-1, 0) (loadAt cl cs 0) L := by
        obtain ⟨L', rfl⟩ : ∃ x, L = x + 1 := ⟨L - 1, by omega⟩
        exact bestOf_same (hbd 0).1 L'
      rw [hsame]
      have HW : Aside _ := (⟨hR2, hrc, hO5, hC5, hf, hbd⟩ : (∀ s, s < L → BRow w5 (R s) 0 (onAt cl s)) ∧ (∀ s, s < L → w5.cell? ⟨gr, s, none⟩ = some (R s)) ∧ Old w w5 ∧ CLst w5.heap.size none 0 cs w5 ∧ Fit cs 0 ∧ ∀ t, 0 ≤ loadAt cl cs 0 t ∧ loadAt cl cs 0 t ≤ 64000000)
      clear HO hb hx5 hB5 hb5 hRT hO5 hC5 hf hR1 hR2 hrc hG hL hbd hsame
      obtain ⟨⟨be1, be2⟩, hbe⟩ : ∃ x, bestOf (-1, 0) (loadAt cl cs 0) L = x := ⟨_, rfl⟩
      rw [hbe]
      have HBE : Hid _ := hbe
      clear hbe
      go_wp2
      go_loopg [12] 0 (fun kx s wr => ∃ j : Nat, s = .int .i64 (j : Int) ∧ j ≤ 0 ∧ 0 - j ≤ kx ∧ Aside (Below w5.heap.size w5 wr))
      case atStart => exact ⟨0, rfl, Nat.zero_le _, Nat.le_refl _, Below.refl _ _⟩
      case round =>
        obtain ⟨j, rfl, hjk, hjx, A⟩ := hrel
        rcases Nat.lt_or_ge j 0 with hlt | hge
        · exact absurd hlt (by omega)
        · obtain rfl : j = 0 := by omega
          have HA0 : Aside _ := A.out
          clear A hge hjk hjx
          go_wp2
          go_loopg [13, 14, 15] L (fun kx s13 s14 s15 wr => ∃ t : Nat, s13 = .int .i64 (bestOf (-1, 0) (loadAt cl cs 0) t).1 ∧ s14 = .int .i64 ((bestOf (-1, 0) (loadAt cl cs 0) t).2 : Int) ∧ s15 = .int .i64 (t : Int) ∧ t ≤ L ∧ L - t ≤ kx ∧ Aside (Below w5.heap.size w5 wr))
          case atStart => exact ⟨0, rfl, rfl, rfl, Nat.zero_le _, Nat.le_refl _, HA0.out⟩
          case round =>
            clear HA0
            obtain ⟨t, rfl, rfl, rfl, htL, htk, A⟩ := hrel
            have hbb := bestOf_bound (s := (-1, 0)) (f := loadAt cl cs 0) (lo := -1) (hi := 64000000) ⟨by simp, by simp, rfl⟩ (fun k => by have := HW.out.2.2.2.2.2 k; omega) t
            obtain ⟨⟨b1, b2⟩, hbe⟩ : ∃ x, bestOf (-1, 0) (loadAt cl cs 0) t = x := ⟨_, rfl⟩
            rw [hbe] at hbb ⊢
            simp only at hbb
            obtain ⟨bb1, bb2, bb3⟩ := hbb
            have HBT : Hid _ := hbe
            clear hbe
            rcases Nat.lt_or_ge t L with hlt | hge
            · have hlt' : (t : Int) < L := by omega
              have HA1 : Aside _ := A.out
              clear A
              go_wp2
              go_loopg [16, 17] 0 (fun kx s16 s17 wr => ∃ i : Nat, s16 = .int .i64 (sumIf cs (onAt cl t) i) ∧ s17 = .int .i64 (i : Int) ∧ i ≤ 0 ∧ 0 - i ≤ kx ∧ Aside (Below w5.heap.size w5 wr))
              case atStart => exact ⟨0, rfl, rfl, Nat.zero_le _, Nat.le_refl _, HA1.out⟩
              case round =>
                clear HA1
                obtain ⟨i, rfl, rfl, hik, hix, A⟩ := hrel
                rcases Nat.lt_or_ge i 0 with hil | hig
                · exact absurd hil (by omega)
                · obtain rfl : i = 0 := by omega
                  have hfb := HW.out.2.2.2.2.2 t
                  have hfe : sumIf cs (onAt cl t) 0 = loadAt cl cs 0 t := rfl
                  rw [hfe]
                  obtain ⟨f, hff⟩ : ∃ x, loadAt cl cs 0 t = x := ⟨_, rfl⟩
                  rw [hff] at hfb ⊢
                  obtain ⟨fb1, fb2⟩ := hfb
                  have hnx : Hid (bestOf (-1, 0) (loadAt cl cs 0) (t + 1) = if b1 < f then (f, t) else (b1, b2)) := by
                    show (if (bestOf (-1, 0) (loadAt cl cs 0) t).1 < loadAt cl cs 0 t then (loadAt cl cs 0 t, t) else bestOf (-1, 0) (loadAt cl cs 0) t) = _
                    rw [HBT.out, hff]
                  clear hfe hff
                  by_cases hgt : b1 < f
                  · have HX : Hid _ := hgt
                    go_wp2
                    go_roundg (L - (t + 1))
                    case measure => omega
                    case rel => exact ⟨t + 1, by rw [hnx.out, if_pos HX.out], by rw [hnx.out, if_pos HX.out], by go_num, by omega, Nat.le_refl _, A.out⟩
                  · have HX : Hid _ := hgt
                    go_wp2
                    go_roundg (L - (t + 1))
                    case measure => omega
                    case rel => exact ⟨t + 1, by rw [hnx.out, if_neg HX.out], by rw [hnx.out, if_neg HX.out], by go_num, by omega, Nat.le_refl _, A.out⟩
            · obtain rfl : t = L := by omega
              have hee := HBT.out.symm.trans HBE.out
              obtain ⟨rfl, rfl⟩ := Prod.mk.inj hee
              clear hee
              have HO9 : Aside _ := HW.out.2.2.1.trans (Old.of_below A.out)
              go_wp2_with (fail)
              refine (hnm _ _).mono ?_
              rintro x w6 ⟨rfl, rfl⟩
              go_wp2
              go_ret
              exact ⟨rfl, HO9.out⟩
  | some a =>
  · go_enter Try.func5, Try.ntmps5
    go_wp2_with (fail)
    refine hal.mono ?_
    rintro x wA ⟨rfl, hA⟩
    have hLA := h.old hA
    have hCA := hc.old hA
    have hcs' := ccells_at hCA
    have HA : Aside _ := (⟨hA, hLA, hCA⟩ : Old w wA ∧ Lst wA.heap.size ao m cl wA ∧ CLst wA.heap.size (some a) k cs wA)
    clear hal hA hLA hCA h hc
    go_wp2_with (at_builtin; refine wpList_append_own _ rfl _ _ 36 rfl wA.heap.size 3 i0 _ 1 8 Try.underlying36 hi hz0 hz1 hz2 rfl (by decide) (.slice none 0 0) 0 [] rfl (World.ownsRow_nil _ _ _ _) a k cc (ccells cs k) rfl (by simp [ccells]) hcs' (ccells_one _ _) (by unfold maxLen; omega) (by omega) (Nat.le_refl _) ?_; intro v1 w1 hown hgrow _)
    rw [Nat.zero_add, List.nil_append] at hown
    obtain ⟨a2, cap2, rfl, hC1⟩ := clst_of_own hown
    have hb1 : Below wA.heap.size wA w1 := (Below.refl _ wA).grown hgrow (Nat.le_refl _) (fun k e => by cases e)
    have hLo := Load_in (cap := cap) (cc := cap2) (HA.out.2.1.old (Old.of_below hb1)) (by omega) hC1 (by omega)
    clear hown hgrow hC1 hcs' hi hz0 hz1 hz2
    go_wp2_with (fail)
    refine hLo.mono ?_
    rintro x w3 ⟨most, at', er, hB, rfl, hO3⟩
    have hAO : Old wA w3 := (Old.of_below hb1).trans hO3
    clear hLo hO3 hb1
    have hRT := RefTable_in (cap := cap) (HA.out.2.1.old hAO) (by omega)
    have HO : Aside _ := (⟨HA.out.1.trans hAO, hB, HA.out.2.2.old hAO⟩ : Old w w3 ∧ Loads cl m cs k most at' er ∧ CLst w3.heap.size (some a) k cs w3)
    clear hAO HA hB
    go_wp2_with (fail)
    refine hRT.mono ?_
    rintro x w5 ⟨n5, er5, v5, rfl, hB5, hb5, hx5⟩
    have hO5 : Old w w5 := HO.out.1.trans (Old.of_below hb5)
    have hC5 : CLst w5.heap.size (some a) k cs w5 := HO.out.2.2.old (Old.of_below hb5)
    rcases HO.out.2.1 with ⟨n, hb, he, rfl, rfl⟩ | ⟨n, hb, hk, rfl, rfl, rfl⟩ | ⟨n, hb, hk, hf, rfl, rfl, rfl⟩ | ⟨L, hb, hk, hf, rfl, rfl, rfl⟩
    · obtain ⟨hnn, hee⟩ := base_unique hb hB5
      subst hnn hee
      have hez : (er == 0) = false := by simpa using he
      have HX : Aside _ := hO5
      clear HO hb hx5 hB5 hb5 hRT hO5 hC5 he
      go_wp2_with (fail)
      refine (hnm _ _).mono ?_
      rintro x w6 ⟨rfl, rfl⟩
      go_wp2
      go_ret
      exact ⟨rfl, HX.out⟩
    · obtain ⟨hnn, hee⟩ := base_unique hb hB5
      subst hnn hee
      have hkz : ((k : Nat) : Int) ≠ (m : Int) := by omega
      have hkz2 : (((k : Nat) : Int) == (m : Int)) = false := by simpa using hkz
      have HX : Aside _ := hO5
      clear HO hb hx5 hB5 hb5 hRT hO5 hC5 hk hkz
      go_wp2_with (fail)
      refine (hnm _ _).mono ?_
      rintro x w6 ⟨rfl, rfl⟩
      go_wp2
      go_ret
      exact ⟨rfl, HX.out⟩
    · obtain ⟨hnn, hee⟩ := base_unique hb hB5
      subst hnn hee
      subst hk
      have HX : Aside _ := (⟨hO5, hC5, hf⟩ : Old w w5 ∧ CLst w5.heap.size (some a) k cs w5 ∧ ¬ Fit cs k)
      clear HO hb hx5 hB5 hb5 hRT hO5 hC5 hf
      go_wp2
      go_loopg [12] k (fun kx s wr => ∃ j : Nat, s = .int .i64 (j : Int) ∧ j ≤ k ∧ k - j ≤ kx ∧ Aside (Fit cs j ∧ w5 = wr))
      case atStart => exact ⟨0, rfl, Nat.zero_le _, Nat.le_refl _, fun j h => absurd h (by omega), rfl⟩
      case round =>
        obtain ⟨j, rfl, hjk, hjx, A⟩ := hrel
        obtain ⟨hF, rfl⟩ := A.out
        clear A
        have HF : Aside _ := hF
        clear hF
        rcases Nat.lt_or_ge j k with hlt | hge
        · have hlt' : (j : Int) < k := by omega
          obtain ⟨b, o, eqa, hb, hcells⟩ := HX.out.2.1 (by omega)
          cases eqa
          have hcl := hcells j hlt
          obtain ⟨c, hce⟩ : ∃ x, cs j = x := ⟨_, rfl⟩
          rw [hce] at hcl
          have HC : Hid _ := hce
          clear hcells hce
          by_cases hok : 0 ≤ c ∧ c ≤ 1000000
          · obtain ⟨c0, c1⟩ := hok
            have d1 : decide (c < 0) = false := decide_eq_false (by omega)
            have d2 : decide (1000000 < c) = false := decide_eq_false (by omega)
            go_wp2
            go_roundg (k - (j + 1))
            case measure => omega
            case rel =>
              refine ⟨j + 1, by go_num, by omega, Nat.le_refl _, fun i hi => ?_, rfl⟩
              rcases Nat.lt_or_ge i j with h1 | h1
              · exact HF.out i h1
              · rw [show i = j by omega, HC.out]; exact ⟨c0, c1⟩
          · have hcase : c < 0 ∨ (decide (c < 0) = false ∧ 1000000 < c) := by simp only [decide_eq_false_iff_not]; omega
            clear hok
            rcases hcase with c0 | ⟨c0, c1⟩
            all_goals
              go_wp2_with (fail)
              refine (hnm _ _).mono ?_
              rintro x w6 ⟨rfl, rfl⟩
              go_wp2
              go_ret
              exact ⟨rfl, HX.out.1⟩
        · obtain rfl : j = k := by omega
          exact absurd HF.out HX.out.2.2
    · obtain ⟨hnn, hee⟩ := base_unique hb hB5
      subst hnn hee
      subst hk
      have hx5' : RRows w3.heap.size w5 v5 L k (onAt cl) := by
        rcases hx5 with ⟨h, _⟩ | ⟨_, h⟩
        · exact absurd rfl h
        · exact h
      obtain ⟨hG, hL⟩ := base_good hb
      have hL5 : L ≤ 5000 := by omega
      have hL0 : 0 < L := by omega
      have hm64 : k ≤ 64 := base_len hb
      obtain ⟨R, hR1, hR2⟩ := hx5'
      obtain ⟨gr, cr, rfl, hrc⟩ := own_rows hR1 hL0
      have hbd : ∀ t, 0 ≤ loadAt cl cs k t ∧ loadAt cl cs k t ≤ 64000000 := fun t => by
        have := sumIf_bound (P := fun c => decide ((t : Int) % (cl c).1 = (cl c).2)) (m := k) hf
        unfold loadAt; omega
      have hsame : bestOf (0, 0) (loadAt cl cs k) L = bestOf (-1, 0) (loadAt cl cs k) L := by
        obtain ⟨L', rfl⟩ : ∃ x, L = x + 1 := ⟨L - 1, by omega⟩
        exact bestOf_same (hbd 0).1 L'
      rw [hsame]
      have HW : Aside _ := (⟨hR2, hrc, hO5, hC5, hf, hbd⟩ : (∀ s, s < L → BRow w5 (R s) k (onAt cl s)) ∧ (∀ s, s < L → w5.cell? ⟨gr, s, none⟩ = some (R s)) ∧ Old w w5 ∧ CLst w5.heap.size (some a) k cs w5 ∧ Fit cs k ∧ ∀ t, 0 ≤ loadAt cl cs k t ∧ loadAt cl cs k t ≤ 64000000)
      clear HO hb hx5 hB5 hb5 hRT hO5 hC5 hf hR1 hR2 hrc hG hL hbd hsame
      obtain ⟨⟨be1, be2⟩, hbe⟩ : ∃ x, bestOf (-1, 0) (loadAt cl cs k) L = x := ⟨_, rfl⟩
      rw [hbe]
      have HBE : Hid _ := hbe
      clear hbe
      go_wp2
      go_loopg [12] k (fun kx s wr => ∃ j : Nat, s = .int .i64 (j : Int) ∧ j ≤ k ∧ k - j ≤ kx ∧ Aside (Below w5.heap.size w5 wr))
      case atStart => exact ⟨0, rfl, Nat.zero_le _, Nat.le_refl _, Below.refl _ _⟩
      case round =>
        obtain ⟨j, rfl, hjk, hjx, A⟩ := hrel
        rcases Nat.lt_or_ge j k with hlt | hge
        · have hlt' : (j : Int) < k := by omega
          obtain ⟨b, o, eqa, hb, hcells⟩ := HW.out.2.2.2.1 (by omega)
          cases eqa
          have hcl := (A.out.cell (p := ⟨b, o + j, none⟩) hb).trans (hcells j hlt)
          have hfj := HW.out.2.2.2.2.1 j hlt
          obtain ⟨c, hce⟩ : ∃ x, cs j = x := ⟨_, rfl⟩
          rw [hce] at hcl hfj
          obtain ⟨c0, c1⟩ := hfj
          have d1 : decide (c < 0) = false := decide_eq_false (by omega)
          have d2 : decide (1000000 < c) = false := decide_eq_false (by omega)
          clear hcells hce
          go_wp2
          go_roundg (k - (j + 1))
          case measure => omega
          case rel => exact ⟨j + 1, by go_num, by omega, Nat.le_refl _, A.out⟩
        · obtain rfl : j = k := by omega
          have HA0 : Aside _ := A.out
          clear A hge hjk hjx
          go_wp2
          go_loopg [13, 14, 15] L (fun kx s13 s14 s15 wr => ∃ t : Nat, s13 = .int .i64 (bestOf (-1, 0) (loadAt cl cs j) t).1 ∧ s14 = .int .i64 ((bestOf (-1, 0) (loadAt cl cs j) t).2 : Int) ∧ s15 = .int .i64 (t : Int) ∧ t ≤ L ∧ L - t ≤ kx ∧ Aside (Below w5.heap.size w5 wr))
          case atStart => exact ⟨0, rfl, rfl, rfl, Nat.zero_le _, Nat.le_refl _, HA0.out⟩
          case round =>
            clear HA0
            obtain ⟨t, rfl, rfl, rfl, htL, htk, A⟩ := hrel
            have hbb := bestOf_bound (s := (-1, 0)) (f := loadAt cl cs j) (lo := -1) (hi := 64000000) ⟨by simp, by simp, rfl⟩ (fun k => by have := HW.out.2.2.2.2.2 k; omega) t
            obtain ⟨⟨b1, b2⟩, hbe⟩ : ∃ x, bestOf (-1, 0) (loadAt cl cs j) t = x := ⟨_, rfl⟩
            rw [hbe] at hbb ⊢
            simp only at hbb
            obtain ⟨bb1, bb2, bb3⟩ := hbb
            have HBT : Hid _ := hbe
            clear hbe
            rcases Nat.lt_or_ge t L with hlt | hge
            · have hlt' : (t : Int) < L := by omega
              have HA1 : Aside _ := A.out
              clear A
              go_wp2
              go_loopg [16, 17] j (fun kx s16 s17 wr => ∃ i : Nat, s16 = .int .i64 (sumIf cs (onAt cl t) i) ∧ s17 = .int .i64 (i : Int) ∧ i ≤ j ∧ j - i ≤ kx ∧ Aside (Below w5.heap.size w5 wr))
              case atStart => exact ⟨0, rfl, rfl, Nat.zero_le _, Nat.le_refl _, HA1.out⟩
              case round =>
                clear HA1
                obtain ⟨i, rfl, rfl, hik, hix, A⟩ := hrel
                rcases Nat.lt_or_ge i j with hil | hig
                · have hil' : (i : Int) < j := by omega
                  obtain ⟨b, o, eqa, hb, hcells⟩ := HW.out.2.2.2.1 (by omega)
                  cases eqa
                  have hcl := (A.out.cell (p := ⟨b, o + i, none⟩) hb).trans (hcells i hil)
                  have hfi := HW.out.2.2.2.2.1 i hil
                  obtain ⟨ra, rc, hRe, hRc⟩ := HW.out.1 t hlt
                  obtain ⟨hb2, cur, rfl, hh, hcur⟩ := hRc (by omega)
                  have hw := HW.out.2.1 t hlt
                  rw [hRe] at hw
                  have hgl : gr < w5.heap.size := plain_lt hw
                  have hw2 := (A.out.cell (p := ⟨gr, t, none⟩) hgl).trans hw
                  have hx : w5.cell? ⟨hb2, i, none⟩ = some (.bool (onAt cl t i)) := by simp only [World.cell?, hh]; exact hcur i hil
                  have hx2 := (A.out.cell (p := ⟨hb2, i, none⟩) (lt_of_block hh)).trans hx
                  obtain ⟨bb, hbb⟩ : ∃ y, onAt cl t i = y := ⟨_, rfl⟩
                  obtain ⟨c, hce⟩ : ∃ x, cs i = x := ⟨_, rfl⟩
                  have hsb := sumIf_bound (cs := cs) (P := onAt cl t) (m := i) (fun q hq => HW.out.2.2.2.2.1 q (by omega))
                  obtain ⟨sm, hsm⟩ : ∃ x, sumIf cs (onAt cl t) i = x := ⟨_, rfl⟩
                  have hnext : Hid (sumIf cs (onAt cl t) (i + 1) = sm + (if bb then c else 0)) := by
                    show sumIf cs (onAt cl t) i + (if onAt cl t i then cs i else 0) = _
                    rw [hsm, hbb, hce]
                  rw [hce] at hcl hfi
                  rw [hbb] at hx2
                  rw [hsm] at hsb ⊢
                  obtain ⟨f0, f1⟩ := hfi
                  obtain ⟨s0, s1⟩ := hsb
                  clear hRe hRc hh hcur hw hx hbb hgl hcells hce hsm
                  cases bb with
                  | true =>
                    go_wp2
                    go_roundg (j - (i + 1))
                    case measure => omega
                    case rel => exact ⟨i + 1, by rw [hnext.out]; rfl, by go_num, by omega, Nat.le_refl _, A.out⟩
                  | false =>
                    go_wp2
                    go_roundg (j - (i + 1))
                    case measure => omega
                    case rel => exact ⟨i + 1, by rw [hnext.out]; simp, by go_num, by omega, Nat.le_refl _, A.out⟩
                · obtain rfl : i = j := by omega
                  have hfb := HW.out.2.2.2.2.2 t
                  have hfe : sumIf cs (onAt cl t) i = loadAt cl cs i t := rfl
                  rw [hfe]
                  obtain ⟨f, hff⟩ : ∃ x, loadAt cl cs i t = x := ⟨_, rfl⟩
                  rw [hff] at hfb ⊢
                  obtain ⟨fb1, fb2⟩ := hfb
                  have hnx : Hid (bestOf (-1, 0) (loadAt cl cs i) (t + 1) = if b1 < f then (f, t) else (b1, b2)) := by
                    show (if (bestOf (-1, 0) (loadAt cl cs i) t).1 < loadAt cl cs i t then (loadAt cl cs i t, t) else bestOf (-1, 0) (loadAt cl cs i) t) = _
                    rw [HBT.out, hff]
                  clear hfe hff
                  by_cases hgt : b1 < f
                  · have HX : Hid _ := hgt
                    go_wp2
                    go_roundg (L - (t + 1))
                    case measure => omega
                    case rel => exact ⟨t + 1, by rw [hnx.out, if_pos HX.out], by rw [hnx.out, if_pos HX.out], by go_num, by omega, Nat.le_refl _, A.out⟩
                  · have HX : Hid _ := hgt
                    go_wp2
                    go_roundg (L - (t + 1))
                    case measure => omega
                    case rel => exact ⟨t + 1, by rw [hnx.out, if_neg HX.out], by rw [hnx.out, if_neg HX.out], by go_num, by omega, Nat.le_refl _, A.out⟩
            · obtain rfl : t = L := by omega
              have hee := HBT.out.symm.trans HBE.out
              obtain ⟨rfl, rfl⟩ := Prod.mk.inj hee
              clear hee
              have HO9 : Aside _ := HW.out.2.2.1.trans (Old.of_below A.out)
              go_wp2_with (fail)
              refine (hnm _ _).mono ?_
              rintro x w6 ⟨rfl, rfl⟩
              go_wp2
              go_ret
              exact ⟨rfl, HO9.out⟩
end Go.Rt
