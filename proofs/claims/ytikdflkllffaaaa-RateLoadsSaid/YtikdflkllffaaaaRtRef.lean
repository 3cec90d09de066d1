/-
  The document's own table (own work): its contract.
-/
import Derived.Test.YtikdflkllffaaaaRtBase
import Derived.StillTailTactics
import Derived.Deep.RegionLaw
import Derived.Maps.AppendAt
import Derived.Deep.OwnRows
namespace Go.Rt
open Go Go.RowKit Go.Proofs

theorem lcm_reached {b p n : Nat} (hn : 0 < n) (h1 : b ∣ n) (h2 : n ≤ Nat.lcm b p) (h3 : p ∣ n) : n = Nat.lcm b p :=
  Nat.le_antisymm h2 (Nat.le_of_dvd hn (Nat.lcm_dvd h1 h3))
theorem lcm_step {b p n : Nat} (h1 : b ∣ n) (h2 : n ≤ Nat.lcm b p) (h3 : ¬ p ∣ n) : b ∣ n + b ∧ n + b ≤ Nat.lcm b p := by
  refine ⟨Nat.dvd_add h1 (Nat.dvd_refl b), ?_⟩
  have hlt : n < Nat.lcm b p := by
    rcases Nat.lt_or_ge n (Nat.lcm b p) with h | h
    · exact h
    · exact absurd (by rw [Nat.le_antisymm h2 h]; exact Nat.dvd_lcm_right b p) h3
  obtain ⟨x, hx⟩ := h1
  obtain ⟨y, hy⟩ := Nat.dvd_lcm_left b p
  rw [hx] at hlt ⊢
  rw [hy] at hlt ⊢
  have hxy : x < y := Nat.lt_of_mul_lt_mul_left hlt
  have := Nat.mul_le_mul_left b (show x + 1 ≤ y by omega)
  rw [Nat.mul_add, Nat.mul_one] at this
  exact this
theorem lcm_le_mul (b p : Nat) : Nat.lcm b p ≤ b * p := by
  unfold Nat.lcm
  exact Nat.div_le_self _ _

/-- A row of m truth values behind a slice. -/
def BRow (w : World) (v : Value) (m : Nat) (f : Nat → Bool) : Prop :=
  ∃ a c, v = .slice a m c ∧ (0 < m → ∃ h cur, a = some ⟨h, 0, none⟩ ∧ w.heap[h]? = some (.cells cur 4 (0, 0)) ∧ ∀ c, c < m → cur[c]? = some (.bool (f c)))
theorem BRow.of_same {w w' : World} {v : Value} {m : Nat} {f : Nat → Bool} (h : BRow w v m f) (hs : ∀ (k : Nat) (cur : Array Value), w.heap[k]? = some (Obj.cells cur 4 (0, 0)) → w'.heap[k]? = w.heap[k]?) : BRow w' v m f := by
  obtain ⟨a, c, e, hc⟩ := h
  refine ⟨a, c, e, fun hm => ?_⟩
  obtain ⟨b, cur, h1, h2, h3⟩ := hc hm
  exact ⟨b, cur, h1, (hs b cur h2).trans h2, h3⟩
def bcells (f : Nat → Bool) (n : Nat) : List Value := (List.range n).map fun c => .bool (f c)
theorem bcells_succ (f : Nat → Bool) (n : Nat) : bcells f (n + 1) = bcells f n ++ [.bool (f n)] := by simp [bcells, List.range_succ]
theorem bcells_length (f : Nat → Bool) (n : Nat) : (bcells f n).length = n := by simp [bcells]
theorem brow_of_own {base : Nat} {w : World} {m : Nat} {v : Value} {f : Nat → Bool} (h : w.ownsRow base 4 1 v m (bcells f m)) : BRow w v m f := by
  obtain ⟨_, ⟨rfl, rfl⟩ | ⟨g, cap, cur, rfl, hg, hh, r1, r2, r3, r4⟩⟩ := h
  · exact ⟨none, 0, rfl, fun h => absurd h (by omega)⟩
  · refine ⟨some ⟨g, 0, none⟩, cap, rfl, fun hm => ⟨g, cur, rfl, hh, fun c hc => ?_⟩⟩
    have : cur.toList[c]? = (bcells f m)[c]? := by rw [← r4, List.getElem?_take, if_pos (by omega)]
    rw [← Array.getElem?_toList, this]
    simp [bcells, hc]

/-- L such rows behind a slice. -/
def RRows (base : Nat) (w : World) (v : Value) (L m : Nat) (M : Nat → Nat → Bool) : Prop :=
  ∃ R : Nat → Value, w.ownsRow base 31 1 v L ((List.range L).map R) ∧ ∀ s, s < L → BRow w (R s) m (M s)
theorem own_block' {base n size : Nat} {e : TypeId} {v : Value} {xs : List Value} {w : World} (h : w.ownsRow base e size v n xs) {g : Nat} (hg : v.ownBlock = some g) : base ≤ g ∧ ∃ cur, w.heap[g]? = some (.cells cur e (0, 0)) := by
  obtain ⟨_, ⟨rfl, _⟩ | ⟨g', cap, cur, rfl, hb, hh, _⟩⟩ := h
  · cases hg
  · cases hg; exact ⟨hb, cur, hh⟩
theorem own_below {base n size : Nat} {e : TypeId} {v : Value} {xs : List Value} {w w' : World} (h : w.ownsRow base e size v n xs) (hb : Below w.heap.size w w') : w'.ownsRow base e size v n xs :=
  h.kept (row := none) ⟨hb.os, hb.tape, hb.output, hb.size, fun k hk _ => hb.block k hk⟩ (by
    cases v.ownBlock with
    | none => exact .inl rfl
    | some k => exact .inr (fun e => by cases e))
theorem RRows.step {base : Nat} {w w1 w2 : World} {v v2 r : Value} {t m : Nat} {M : Nat → Nat → Bool} (hb : Below w.heap.size w w1) (hr : BRow w1 r m (M t)) (R : Nat → Value)
    (hR : w.ownsRow base 31 1 v t ((List.range t).map R) ∧ ∀ s, s < t → BRow w (R s) m (M s))
    (hown : w2.ownsRow base 31 1 v2 (t + 1) ((List.range t).map R ++ [r])) (hg : w1.grownBy w2 v.ownBlock) : RRows base w2 v2 (t + 1) m M := by
  have hk : ∀ (k : Nat) (cur : Array Value), w1.heap[k]? = some (Obj.cells cur 4 (0, 0)) → w2.heap[k]? = w1.heap[k]? := fun k cur hk => hg.block k (lt_of_block hk) (fun e => by
    obtain ⟨_, c2, h2⟩ := own_block' (own_below hR.1 hb) e.symm
    rw [hk] at h2
    cases h2)
  refine ⟨fun s => if s = t then r else R s, ?_, fun s hs => ?_⟩
  · have e : (List.range (t + 1)).map (fun s => if s = t then r else R s) = (List.range t).map R ++ [r] := by
      rw [List.range_succ, List.map_append]
      congr 1
      · exact List.map_congr_left fun s hs => if_neg (by have := List.mem_range.1 hs; omega)
      · simp
    rw [e]
    exact hown
  · by_cases e : s = t
    · subst e
      simp only [if_true]
      exact hr.of_same hk
    · simp only [if_neg e]
      exact ((hR.2 s (by omega)).of_same (fun k cur hk => hb.block k (lt_of_block hk))).of_same hk

theorem info31' : (Try.prog.info? 31).map (fun i => (i.zero, i.size, i.bytes)) = some (some (.slice none 0 0), 1, 24) := by kernel_rfl
theorem info4' : (Try.prog.info? 4).map (fun i => (i.zero, i.size, i.bytes)) = some (some (.bool false), 1, 1) := by kernel_rfl
def onAt (cl : Row) (t c : Nat) : Bool := decide ((t : Int) % (cl c).1 = (cl c).2)

set_option maxHeartbeats 16000000 in
set_option maxRecDepth 100000 in
theorem RefTable_in {ao : Option Addr} {m cap : Nat} {cl : Row} {w : World} (h : Lst w.heap.size ao m cl w) (hm : m ≤ 1000) :
    Calls Try.prog 10 #[.slice ao m cap] w fun e w' => ∃ (n er : Int) (v : Value), e = .returned (.tuple #[.int .i64 n, v, .int .i64 er]) ∧ Base cl m n er ∧ Below w.heap.size w w' ∧
      ((er ≠ 0 ∧ v = .slice none 0 0) ∨ (er = 0 ∧ RRows w.heap.size w' v n.toNat m (onAt cl))) := by
  obtain ⟨i4, hi4, hz4, hs4, hb4⟩ := info_parts info4'
  obtain ⟨i31, hi31, hz31, hs31, hb31⟩ := info_parts info31'
  go_enter Try.func10, Try.ntmps10
  go_wp2
  go_loopg [5] m (fun kx s wr => ∃ k : Nat, s = .int .i64 (k : Int) ∧ k ≤ m ∧ m - k ≤ kx ∧ Aside (Good cl k ∧ Below w.heap.size w wr))
  case atStart => exact ⟨0, rfl, Nat.zero_le _, Nat.le_refl _, fun j h => absurd h (by omega), Below.refl _ _⟩
  case round =>
    obtain ⟨k, rfl, hkm, hkx, A⟩ := hrel
    rcases Nat.lt_or_ge k m with hlt | hge
    · obtain ⟨b, o, rfl, hb, hcells⟩ := h.below A.out.2 (by omega)
      obtain ⟨hc1, hc2⟩ := hcells k hlt
      obtain ⟨⟨p, q⟩, hcl⟩ : ∃ x, cl k = x := ⟨_, rfl⟩
      rw [hcl] at hc1 hc2
      simp only at hc1 hc2
      have hlt' : (k : Int) < m := by omega
      have HC : Hid _ := hcl
      have HH : Aside _ := h
      clear hcells hcl h hi4 hz4 hs4 hb4 hi31 hz31 hs31 hb31
      by_cases hg : 1 ≤ p ∧ p ≤ 64 ∧ 0 ≤ q ∧ q < p
      · obtain ⟨g1, g2, g3, g4⟩ := hg
        have d1 : decide (p < 1) = false := decide_eq_false (by omega)
        have d2 : decide (64 < p) = false := decide_eq_false (by omega)
        have d3 : decide (q < 0) = false := decide_eq_false (by omega)
        have d4 : decide (p ≤ q) = false := decide_eq_false (by omega)
        go_wp2
        go_quiet (fail)
        go_wp2
        go_roundg (m - (k + 1))
        case measure => omega
        case rel =>
          refine ⟨k + 1, by go_num, by omega, by omega, fun j hj => ?_, A.out.2.trans ⟨rfl, rfl, rfl, Nat.le_refl _, fun _ _ => rfl⟩⟩
          rcases Nat.lt_or_ge j k with h1 | h1
          · exact A.out.1 j h1
          · rw [show j = k by omega, HC.out]; exact ⟨g1, g2, g3, g4⟩
      · have HB : Hid (¬ Good cl m) := fun hG => hg (by have := hG k hlt; rw [HC.out] at this; exact this)
        have hg' : p < 1 ∨ (decide (p < 1) = false ∧ 64 < p) ∨ (decide (p < 1) = false ∧ decide (64 < p) = false ∧ q < 0) ∨ (decide (p < 1) = false ∧ decide (64 < p) = false ∧ decide (q < 0) = false ∧ p ≤ q) := by
          simp only [decide_eq_false_iff_not]; omega
        clear hg
        rcases hg' with g | ⟨g1, g2⟩ | ⟨g1, g2, g3⟩ | ⟨g1, g2, g3, g4⟩
        all_goals
          go_wp2
          go_quiet (fail)
          go_wp2
          go_ret3
          exact ⟨_, _, _, rfl, .inl ⟨HB.out, rfl, rfl⟩, A.out.2.trans ⟨rfl, rfl, rfl, Nat.le_refl _, fun _ _ => rfl⟩, .inl ⟨by decide, rfl⟩⟩
    · obtain rfl : k = m := by omega
      clear hge hkm
      by_cases h64 : 64 < k
      · have h64' : (64 : Int) < k := by omega
        go_wp2
        go_ret3
        exact ⟨_, _, _, rfl, .inr (.inl ⟨A.out.1, h64, rfl, rfl⟩), A.out.2, .inl ⟨by decide, rfl⟩⟩
      · have h64' : ¬ (64 : Int) < k := by omega
        go_wp2
        go_loopg [6, 7] k (fun kx s6 s7 wr2 => ∃ j : Nat, s6 = .int .i64 (lcmTo cl j : Int) ∧ s7 = .int .i64 (j : Int) ∧ j ≤ k ∧ k - j ≤ kx ∧ Aside (lcmTo cl j ≤ 5000 ∧ Below w.heap.size w wr2))
        case atStart => exact ⟨0, rfl, rfl, Nat.zero_le _, Nat.le_refl _, by show 1 ≤ 5000; omega, A.out.2⟩
        case round =>
          have HG : Aside _ := A.out.1
          clear A
          obtain ⟨j, rfl, rfl, hjm, hjx, A⟩ := hrel
          rcases Nat.lt_or_ge j k with hlt | hge
          · have hlt' : (j : Int) < k := by omega
            obtain ⟨p, hp, hp1, hp2⟩ : ∃ p : Nat, (cl j).1 = (p : Int) ∧ 1 ≤ p ∧ p ≤ 64 := ⟨(cl j).1.toNat, by have := HG.out j hlt; omega, by have := HG.out j hlt; omega, by have := HG.out j hlt; omega⟩
            obtain ⟨n, hn⟩ : ∃ n, lcmTo cl j = n := ⟨_, rfl⟩
            have hn5 : n ≤ 5000 := by rw [← hn]; exact A.out.1
            have hn0 : 0 < n := by rw [← hn]; exact lcmTo_pos (Good.mono HG.out hjm)
            obtain ⟨l, hl⟩ : ∃ l, Nat.lcm n p = l := ⟨_, rfl⟩
            have hl5 : l ≤ 320000 := by
              have h1 := lcm_le_mul n p
              have h2 := Nat.mul_le_mul hn5 hp2
              rw [hl] at h1
              omega
            have hnl : n ∣ l ∧ n ≤ l := by
              have h1 := Nat.dvd_lcm_left n p
              have h2 := Nat.lcm_pos hn0 (show 0 < p by omega)
              rw [hl] at h1 h2
              exact ⟨h1, Nat.le_of_dvd h2 h1⟩
            have hnx : lcmTo cl (j + 1) = l := by show Nat.lcm (lcmTo cl j) (cl j).1.toNat = _; rw [hn, hp]; exact hl
            have HN : Hid (lcmTo cl j = n ∧ Nat.lcm n p = l ∧ lcmTo cl (j + 1) = l ∧ (cl j).1 = p ∧ lcmTo cl j ≤ 5000) := ⟨hn, hl, hnx, hp, A.out.1⟩
            have HB2 : Aside _ := A.out.2
            rw [hn]
            have hnl2 := hnl.2
            clear hn hl hnx hp A hi4 hz4 hs4 hb4 hi31 hz31 hs31 hb31
            go_wp2
            go_loopg [8] l (fun kx s8 wr3 => ∃ x : Nat, s8 = .int .i64 (x : Int) ∧ 0 < x ∧ x ≤ l ∧ l - x ≤ kx ∧ Aside (n ∣ x ∧ Below w.heap.size w wr3))
            case atStart => exact ⟨n, rfl, hn0, hnl2, by omega, Nat.dvd_refl n, HB2.out⟩
            case round =>
              clear HB2
              obtain ⟨x, rfl, hx0, hxl, hxk, A⟩ := hrel
              obtain ⟨b, o, rfl, hb, hcells⟩ := h.below A.out.2 (by omega)
              have hc1 := (hcells j hlt).1
              rw [HN.out.2.2.2.1] at hc1
              clear hcells
              by_cases hd : p ∣ x
              · have hz : (x : Int) % (p : Int) = 0 := by have := Nat.mod_eq_zero_of_dvd hd; omega
                have hxe : x = l := by rw [← HN.out.2.1]; exact lcm_reached hx0 A.out.1 (by rw [HN.out.2.1]; exact hxl) hd
                clear hd
                by_cases h5 : 5000 < x
                · have h5z : (5000 : Int) < x := by omega
                  have HB : Hid (Base cl k 0 2) := .inr (.inr (.inl ⟨HG.out, by omega, Nat.lt_of_lt_of_le (by rw [HN.out.2.2.1, ← hxe]; exact h5) (lcmTo_le HG.out (show j + 1 ≤ k by omega)), rfl, rfl⟩))
                  have HX : Hid _ := hxe
                  clear hxe
                  go_wp2
                  go_ret3
                  exact ⟨_, _, _, rfl, HB.out, A.out.2, .inl ⟨by decide, rfl⟩⟩
                · have h5z : ¬ (5000 : Int) < x := by omega
                  have HX : Hid _ := hxe
                  clear hxe
                  go_wp2
                  go_roundg (k - (j + 1))
                  case measure => omega
                  case rel => exact ⟨j + 1, by rw [HN.out.2.2.1, ← HX.out], by go_num, by omega, Nat.le_refl _, by rw [HN.out.2.2.1, ← HX.out]; omega, A.out.2⟩
              · have hz : ¬ (x : Int) % (p : Int) = 0 := fun h => hd (Nat.dvd_of_mod_eq_zero (by omega))
                have hz2 : ((x : Int) % (p : Int) == 0) = false := by simpa using hz
                have hst := lcm_step (p := p) A.out.1 (by rw [HN.out.2.1]; exact hxl) hd
                rw [HN.out.2.1] at hst
                have HS : Hid _ := hst
                clear hd hst
                go_wp2
                go_roundg (l - (x + n))
                case measure => have := HS.out.2; omega
                case rel => exact ⟨x + n, by go_num, by omega, HS.out.2, Nat.le_refl _, HS.out.1, A.out.2⟩
          · obtain rfl : j = k := by omega
            obtain ⟨L, hL⟩ : ∃ L, lcmTo cl j = L := ⟨_, rfl⟩
            have hL5 : L ≤ 5000 := by rw [← hL]; exact A.out.1
            have HB : Hid (Base cl j L 0) := by
              have : Base cl j (lcmTo cl j) 0 := .inr (.inr (.inr ⟨HG.out, by omega, A.out.1, rfl, rfl⟩))
              rw [hL] at this
              exact this
            have HA2 : Aside _ := A.out.2
            rw [hL]
            clear hL A
            go_wp2
            go_loopg [9, 10] L (fun kx s9 s10 wr => ∃ t : Nat, s10 = .int .i64 (t : Int) ∧ t ≤ L ∧ L - t ≤ kx ∧ Aside (RRows w.heap.size wr s9 t j (onAt cl) ∧ Below w.heap.size w wr))
            case atStart => exact ⟨0, rfl, Nat.zero_le _, Nat.le_refl _, ⟨fun _ => .nilIface, World.ownsRow_nil _ _ _ _, fun s hs => absurd hs (by omega)⟩, HA2.out⟩
            case round =>
              clear HA2
              obtain ⟨t, rfl, htL, htk, A⟩ := hrel
              obtain ⟨W0, rfl⟩ : ∃ W0, W0 = wr := ⟨_, rfl⟩
              rcases Nat.lt_or_ge t L with hlt | hge2
              · have hlt' : (t : Int) < L := by omega
                go_wp2
                go_loopg [11, 12] j (fun kx s11 s12 wr3 => ∃ i : Nat, s12 = .int .i64 (i : Int) ∧ i ≤ j ∧ j - i ≤ kx ∧ Aside (wr3.ownsRow W0.heap.size 4 1 s11 i (bcells (onAt cl t) i) ∧ Below W0.heap.size W0 wr3))
                case atStart => exact ⟨0, rfl, Nat.zero_le _, Nat.le_refl _, World.ownsRow_nil _ _ _ _, Below.refl _ _⟩
                case round =>
                  obtain ⟨i, rfl, hij, hik, A3⟩ := hrel
                  rcases Nat.lt_or_ge i j with hil | hig
                  · have hil' : (i : Int) < j := by omega
                    have hbw := A.out.2.trans (A3.out.2.mono A.out.2.size)
                    obtain ⟨b, o, rfl, hb, hcells⟩ := h.below hbw (by omega)
                    obtain ⟨hc1, hc2⟩ := hcells i hil
                    have hgi := HG.out i hil
                    obtain ⟨p, hp⟩ : ∃ p : Nat, (cl i).1 = (p : Int) := ⟨(cl i).1.toNat, by omega⟩
                    obtain ⟨q, hq⟩ : ∃ q : Nat, (cl i).2 = (q : Int) := ⟨(cl i).2.toNat, by omega⟩
                    rw [hp] at hc1 hgi
                    rw [hq] at hc2 hgi
                    have hp1 : 1 ≤ p := by omega
                    have hon : Hid (onAt cl t i = decide ((t : Int) % p = q)) := by show decide _ = _; rw [hp, hq]
                    have hown := A3.out.1
                    have hpz : ¬ (p : Int) = 0 := by omega
                    have hpz2 : ((p : Int) == 0) = false := by simpa using hpz
                    have hpn : ¬ p = 0 := by omega
                    have hsz := A3.out.2.size
                    have HA3 : Aside _ := A3.out.2
                    have HAA : Aside _ := A.out
                    clear hcells hp hq hgi A A3 hbw hi31 hz31 hs31 hb31
                    go_wp2
                    go_region_law (refine step_append_own rfl (.tmp 89) (.tmp 103) 31 rfl W0.heap.size 4 i4 _ 1 1 Try.underlying31 hi4 hz4 hs4 hb4 rfl (by decide) _ i (bcells (onAt cl t) i) (by simp [Act.eval]) (hown.alloc _) ⟨wr.heap.size, 0, none⟩ 1 1 [.bool ((t : Int).tmod (p : Int) == (q : Int))] (by simp [Act.eval]) rfl (cell_one_new _ _ _) (by simp [Value.oneCell']) (by unfold maxLen; omega) (by omega) (by simp; omega) ?_; intro v' w' hown' hgrow _)
                    all_goals
                      have hnew : Aside (w'.ownsRow W0.heap.size 4 1 v' (i + 1) (bcells (onAt cl t) (i + 1)) ∧ Below W0.heap.size W0 w') := by
                        refine ⟨?_, ?_⟩
                        · have e : decide ((t : Int) % p = q) = ((t : Int).tmod p == q) := by
                            rw [Int.tmod_eq_emod_of_nonneg (by omega), Bool.eq_iff_iff]; simp
                          rw [bcells_succ, hon.out, e]
                          exact hown'
                        · exact HA3.out.trans (((Below.refl _ wr).alloc hsz _).drew.grown hgrow (by show _ ≤ (World.alloc _ _).heap.size; rw [World.size_alloc]; omega) (fun k e => (own_block' hown e).1))
                      clear hown' hgrow hown hc1 hc2
                      go_wp2
                      go_roundg (j - (i + 1))
                      case measure => omega
                      case rel => exact ⟨i + 1, by go_num, by omega, Nat.le_refl _, hnew.out⟩
                  · obtain rfl : i = j := by omega
                    have hBR := brow_of_own A3.out.1
                    obtain ⟨R, hR1, hR2⟩ := A.out.1
                    have hown := own_below hR1 A3.out.2
                    have HR : Aside _ := (⟨hR1, hR2⟩ : W0.ownsRow w.heap.size 31 1 _ t ((List.range t).map R) ∧ ∀ s, s < t → BRow W0 (R s) i (onAt cl s))
                    have HX : Aside _ := (⟨hBR, A3.out.2, A.out.2⟩ : BRow wr _ i (onAt cl t) ∧ Below W0.heap.size W0 wr ∧ Below w.heap.size w W0)
                    have hsz1 := A3.out.2.size
                    have hsz2 := A.out.2.size
                    obtain ⟨ra, rc, hrv, _⟩ := hBR
                    subst hrv
                    clear A A3 hR1 hR2 hi4 hz4 hs4 hb4
                    go_wp2_with (at_builtin; refine wpList_append_own _ rfl (.tmp 105) (.tmp 107) 24 rfl w.heap.size 31 i31 _ 1 24 Try.underlying24 hi31 hz31 hs31 hb31 rfl (by decide) _ t ((List.range t).map R) rfl (hown.alloc _) ⟨wr.heap.size, 0, none⟩ 1 1 [.slice ra i rc] rfl rfl (cell_one_new _ _ _) (by simp [Value.oneCell']) (by unfold maxLen; omega) (by omega) (by simp; omega) ?_; intro v' w' hown' hgrow _)
                    have hba : Below W0.heap.size W0 (wr.alloc (.cells #[.slice ra i rc] 31)) := HX.out.2.1.alloc hsz1 _
                    have hBa := HX.out.1.of_same (w' := wr.alloc (.cells #[.slice ra i rc] 31)) (fun k cur hk => Below.heap_alloc _ _ _ (lt_of_block hk))
                    have HN : Aside _ := RRows.step (v := u9) hba hBa R HR.out hown' hgrow
                    have HY : Aside (Below w.heap.size w w') := HX.out.2.2.trans ((hba.mono hsz2).grown hgrow (by rw [World.size_alloc]; omega) (fun k e => (own_block' hown e).1))
                    clear hown' hgrow hown hba hBa
                    go_roundg (L - (t + 1))
                    case measure => omega
                    case rel => exact ⟨t + 1, by go_num, by omega, Nat.le_refl _, HN.out, HY.out⟩
              · obtain rfl : t = L := by omega
                go_wp2
                go_ret3
                exact ⟨_, _, _, rfl, HB.out, A.out.2, .inr ⟨rfl, A.out.1⟩⟩
end Go.Rt
