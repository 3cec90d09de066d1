/-
  item (own work).
-/
import Derived.Test.YtlonlfiaclacdaaPaP
namespace Go.Pa
open Go Go.RowKit Go.Proofs

theorem Go1.setN {S : Src} {w : World} {x : St} (h : PS S w x) (n : Int) : Go1 S w x (w.setCell ⟨S.pb, 4, none⟩ (.int .i64 n)) { x with n := n } := ⟨h.set4 n, (KB.refl S w).setCell (.inr rfl) _, Nat.le_refl _, id⟩
theorem Go1.next {S : Src} {w : World} {x : St} (h : PS S w x) (hn : x.at' + 1 < S.len) : Go1 S w x (w.setCell ⟨S.pb, 1, none⟩ (.int .i64 ((x.at' : Int) + 1))) { x with at' := x.at' + 1 } := by
  have hp := h.set1 hn
  rw [show ((x.at' + 1 : Nat) : Int) = (x.at' : Int) + 1 by omega] at hp
  exact ⟨hp, (KB.refl S w).setCell (.inr rfl) _, by simp, by simp⟩
theorem state_one (s : ByteArray) (a1 a2 a3 a4 : Option Addr) (n1 n2 n3 n4 c1 c2 c3 c4 : Nat) (n : Int) : ∀ u ∈ [Value.string s, .slice a1 n1 c1, .slice a2 n2 c2, .slice a3 n3 c3, .slice a4 n4 c4, .int .i64 n], u.oneCell' = true := by
  intro u hu
  simp at hu
  rcases hu with rfl | rfl | rfl | rfl | rfl | rfl <;> rfl
theorem string_one (s : ByteArray) : ∀ u ∈ [Value.string s], u.oneCell' = true := by
  intro u hu
  simp at hu
  subst hu
  rfl

set_option maxHeartbeats 32000000 in
set_option maxRecDepth 100000 in
theorem item_in {k : Nat} (hst : ∀ j, j < k → CState j) : CItem k := by
  intro S w x hP hk
  have hpl := hP.plt
  have htl := hP.tlt
  have hlt0 := hP.lt
  have hcap := S.hlen
  have hkk : ∀ n, x.at' + 1 ≤ n → n < S.len → S.len - n < k := fun n h1 h2 => by omega
  have HS : Hid _ := hst
  clear hst
  have hf4 := field86_4
  have hf0 := field86_0
  obtain ⟨i9, hi9, hy0, hy1, hy2⟩ := info_parts info9
  obtain ⟨i99, hi99, hz0, hz1, hz2⟩ := info_parts info99
  go_enter Try.func68, Try.ntmps68
  go_wp2_with (fail)
  refine (tok_ex (hP.alloc _)).mono ?_
  rintro e w1 ⟨⟨t1, rfl⟩, h1, k1⟩
  obtain ⟨K, SS, N, TK, TL, AT⟩ := t1
  dsimp only [Tk.val]
  have hr1 := k1.block (alloc_self w _) (by omega)
  have hs1 := lt_of_block hr1
  have R1 : Aside (ItR S w x w.heap.size w1.heap.size (w1.alloc (.cells (itemRow none 0 0 ER.zero none 0 0 AT) 48)) x none 0 0 ER.zero none 0 0 AT zt) := ⟨Rec.new ⟨h1, ((KB.refl S w).alloc _).trans k1, Nat.le_refl _, id⟩ hr1 _, zero_leaf _ _⟩
  clear hr1 k1
  go_wp2_with (fail)
  refine (is_ex R1.out.r.g.ps _).mono ?_
  rintro _ w2 @⟨_, _, x2, g2, hx2, hb⟩
  have R2 : Aside _ := R1.out.step g2 hpl
  have hb2 := lt_of_block R2.out.r.a
  rcases hb with ⟨rfl, hxe, hxl⟩ | rfl
  · subst hx2
    have c1 := R2.out.r.g.ps.c1
    have c4 := R2.out.r.g.ps.c4
    have f1 := R2.out.r.g.ps.fz 1
    have f4 := R2.out.r.g.ps.fz 4
    have hpl2 := R2.out.r.g.ps.plt
    by_cases hdeep : wrap64 (x2.n + 1) > 40
    · have R3 : Aside _ := R2.out.step (Go1.setN g2.ps (wrap64 (x2.n + 1))) hpl
      go_wp2_with (fail)
      refine (fail_ex R3.out.r.g.ps 2 (by decide)).mono ?_
      rintro _ w4 @⟨_, _, x4, g4, rfl, hee⟩
      have R4 : Aside _ := R3.out.step g4 hpl
      have F : Aside _ := R4.out.fin hpl htl (fun h => absurd h hee) (fun h => absurd h hee)
      obtain ⟨hbcF, hbfF⟩ := row_cells R4.out.r.a
      have hblF := lt_of_block R4.out.r.a
      obtain ⟨hrcF, hrfF⟩ := row_cells R4.out.r.r0
      have hrlF := lt_of_block R4.out.r.r0
      simp only [itemRow] at hbcF
      simp only [izero] at hrcF
      go_wp2
      exact bodyPost_ret (results_cell_row rfl _ _ w.heap.size 48 _ _ _ (by rfl) F.out.1 Try.underlying48 rfl (by kernel_rfl)) rfl (.mk F.out.2.1 F.out.2.2)
    · have R3 : Aside _ := (R2.out.step (Go1.setN g2.ps (wrap64 (x2.n + 1))) hpl).step (Go1.next (Go1.setN g2.ps (wrap64 (x2.n + 1))).ps hxl) hpl
      have L3 : Aside (ItL 99 6 S w x2 w.heap.size w1.heap.size w2.heap.size ((w2.setCell ⟨S.pb, 4, none⟩ (.int .i64 (wrap64 (x2.n + 1)))).setCell ⟨S.pb, 1, none⟩ (.int .i64 ((x2.at' : Int) + 1))) { x2 with n := wrap64 (x2.n + 1), at' := x2.at' + 1 } none 0 0 none 0 0 AT (.slice none 0 0) 0) := ⟨R3.out, PL.nil _ _ _ _, R2.out.r.g.kb.size, by omega, by omega, by simp⟩
      clear R3
      go_wp2
      try simp only [hdeep]
      go_loopg [5, 6] (2 * S.len + 1) (fun kx s5 s6 wr => ∃ (xc : St) (sa : Option Addr) (ns cs : Nat), 2 * (S.len - xc.at') + (if xc.e = 0 then 1 else 0) ≤ kx ∧ xc.at' < S.len ∧ x2.at' + 1 ≤ xc.at' ∧ ns ≤ 16 ∧ Aside (ItL 99 6 S w x2 w.heap.size w1.heap.size w2.heap.size wr xc none 0 0 sa ns cs AT (.slice sa ns cs) ns))
      case atStart => exact ⟨_, none, 0, 0, by split <;> (show 2 * (S.len - (x2.at' + 1)) + _ ≤ _; omega), hxl, Nat.le_refl _, by omega, L3⟩
      case round =>
        clear L3
        obtain ⟨xc, sa, ns, cs, hkx, hlt, hle, hns, A⟩ := hrel
        have HK : Hid _ := hkx
        clear hkx
        have Ai : Aside _ := A.out.i
        have c2r := A.out.i.r.g.ps.c2
        have hplr := A.out.i.r.g.ps.plt
        by_cases he : xc.e = 0
        case neg =>
          go_wp2_with (fail)
          refine (take_in Ai.out.r.g.ps _).mono ?_
          rintro _ wt @⟨_, _, xt, gt, rfl, _⟩
          have Rt : Aside _ := Ai.out.step gt hpl
          have c4t := Rt.out.r.g.ps.c4
          have f4t := Rt.out.r.g.ps.fz 4
          have hplt := Rt.out.r.g.ps.plt
          have hlet : x2.at' < xt.at' := Nat.lt_of_lt_of_le (by omega) gt.le
          have Ru : Aside _ := Rt.out.step (Go1.setN gt.ps (wrap64 (xt.n - 1))) hpl
          have F : Aside _ := Ru.out.fin hpl htl (fun _ => by rw [zt_cnt]; omega) (fun _ => hlet)
          obtain ⟨hbcF, hbfF⟩ := row_cells Rt.out.r.a
          have hblF := lt_of_block Rt.out.r.a
          obtain ⟨hrcF, hrfF⟩ := row_cells Rt.out.r.r0
          have hrlF := lt_of_block Rt.out.r.r0
          simp only [itemRow] at hbcF
          simp only [izero] at hrcF
          go_wp2
          exact bodyPost_ret (results_cell_row rfl _ _ w.heap.size 48 _ _ _ (by rfl) F.out.1 Try.underlying48 rfl (by kernel_rfl)) rfl (.mk F.out.2.1 F.out.2.2)
        case pos =>
          go_wp2_with (fail)
          refine (is_ex A.out.i.r.g.ps _).mono ?_
          rintro _ w5 @⟨_, _, x5, g5, hx5, hb5⟩
          subst hx5
          have A5 : Aside _ := A.out.step g5 hpl
          have Ai5 : Aside _ := A5.out.i
          obtain ⟨hbc5, hbf5⟩ := row_cells Ai5.out.r.a
          have hbl5 := lt_of_block Ai5.out.r.a
          simp only [itemRow, ER.zero] at hbc5
          rcases hb5 with ⟨rfl, _, _⟩ | rfl
          · go_wp2_with (fail)
            refine (full_in Ai5.out.r.g.ps _ _).mono ?_
            rintro _ w6 @⟨_, _, x6, g6, hful⟩
            have A6 : Aside _ := A5.out.step g6 hpl
            have Ai6 : Aside _ := A6.out.i
            have hle6 : x2.at' + 1 ≤ x6.at' := Nat.le_trans hle g6.le
            rcases hful with ⟨rfl, hee⟩ | ⟨rfl, hlm, hx6⟩
            · clear hbc5 hbf5
              go_wp2_with (fail)
              refine (take_in Ai6.out.r.g.ps _).mono ?_
              rintro _ wt @⟨_, _, xt, gt, rfl, _⟩
              have Rt : Aside _ := Ai6.out.step gt hpl
              have c4t := Rt.out.r.g.ps.c4
              have f4t := Rt.out.r.g.ps.fz 4
              have hplt := Rt.out.r.g.ps.plt
              have hlet : x2.at' < xt.at' := Nat.lt_of_lt_of_le (by omega) gt.le
              have Ru : Aside _ := Rt.out.step (Go1.setN gt.ps (wrap64 (xt.n - 1))) hpl
              have F : Aside _ := Ru.out.fin hpl htl (fun _ => by rw [zt_cnt]; omega) (fun _ => hlet)
              obtain ⟨hbcF, hbfF⟩ := row_cells Rt.out.r.a
              have hblF := lt_of_block Rt.out.r.a
              obtain ⟨hrcF, hrfF⟩ := row_cells Rt.out.r.r0
              have hrlF := lt_of_block Rt.out.r.r0
              simp only [itemRow] at hbcF
              simp only [izero] at hrcF
              go_wp2
              exact bodyPost_ret (results_cell_row rfl _ _ w.heap.size 48 _ _ _ (by rfl) F.out.1 Try.underlying48 rfl (by kernel_rfl)) rfl (.mk F.out.2.1 F.out.2.2)
            · have hn16 : ns < 16 := by omega
              clear hlm
              subst hx6
              obtain ⟨hbc6, hbf6⟩ := row_cells Ai6.out.r.a
              have hbl6 := lt_of_block Ai6.out.r.a
              simp only [itemRow, ER.zero] at hbc6
              clear hbc5 hbf5
              obtain ⟨xs, hxs⟩ := A6.out.drew.l.own
              have HX : Aside (w6.drew.ownsRow w2.heap.size 99 6 (.slice sa ns cs) ns xs) := hxs
              clear hxs
              have hm63 : ns + 1 ≤ maxLen := by unfold maxLen; omega
              have hb63 : (ns + 1) * 120 ≤ 140737488355328 := by omega
              have hpbLO : S.pb < w2.heap.size := hpl2
              have hrw : Aside (∀ z, (Value.slice sa ns cs).ownBlock = some z → w2.heap.size ≤ z) := fun z hz => (World.ownsRow.lt HX.out z hz).1
              have hlo3 : Aside (w.heap.size ≤ w2.heap.size ∧ w.heap.size < w2.heap.size ∧ w1.heap.size < w2.heap.size) := ⟨A6.out.lo.1, A6.out.lo.2.1, A6.out.lo.2.2.1⟩
              have hll : w2.heap.size ≤ w6.heap.size := A6.out.lo.2.2.2
              go_wp2
              go_region_law (first
                | (refine step_append_lies _ rfl (.tmp 61) (.tmp 64) 46 rfl w2.heap.size 99 i99 _ 6 120 Try.underlying46 hi99 hz0 hz1 hz2 rfl (by decide) (.slice sa ns cs) ns xs (by simp [Act.eval, Act.put]) hO.out ⟨w7.heap.size, 0, none⟩ 1 1 [Value.string s7, .slice a71 n71 c71, .slice a72 n72 c72, .slice a73 n73 c73, .slice a74 n74 c74, .int .i64 n7] (by simp [Act.eval, Act.put]) rfl hN.out (state_one s7 a71 a72 a73 a74 n71 n72 n73 n74 c71 c72 c73 c74 n7) (by decide) hm63 hb63 hB w7.heap.size.succ (by simp) ?_; intro gk cap w8 hown hgrow hat hlt8; have hx9 := row_cells (((A6.out.drew.step g7 hpl).alloc (.cells #[Value.string s7, .slice a71 n71 c71, .slice a72 n72 c72, .slice a73 n73 c73, .slice a74 n74 c74, .int .i64 n7] 99)).i.grown hgrow hpl htl hrw.out hlo3.out).r.a; have hxl9 := lt_of_block (((A6.out.drew.step g7 hpl).alloc (.cells #[Value.string s7, .slice a71 n71 c71, .slice a72 n72 c72, .slice a73 n73 c73, .slice a74 n74 c74, .int .i64 n7] 99)).i.grown hgrow hpl htl hrw.out hlo3.out).r.a; simp only [itemRow, ER.zero] at hx9; obtain ⟨hxc9, hxf9⟩ := hx9)
                | (go_simp; go_at_call 79; refine (HS.out (S.len - x6.at') (hkk _ hle6 hlt) S _ _ A6.out.drew.i.r.g.ps (Nat.le_refl _)).mono ?_; rintro _ w7 @⟨_, _, x7, g7, ⟨s7, a71, a72, a73, a74, n71, n72, n73, n74, c71, c72, c73, c74, n7⟩, hpr7⟩; have hO : Aside _ := (own_frame HX.out (fun z hz => g7.kb.same z (World.ownsRow.lt HX.out z hz).2 (Nat.ne_of_gt (Nat.lt_of_lt_of_le hpbLO (World.ownsRow.lt HX.out z hz).1)))).alloc (.cells #[Value.string s7, .slice a71 n71 c71, .slice a72 n72 c72, .slice a73 n73 c73, .slice a74 n74 c74, .int .i64 n7] 99); have hN : Aside _ := World.news_of_block (alloc_self w7 (.cells #[Value.string s7, .slice a71 n71 c71, .slice a72 n72 c72, .slice a73 n73 c73, .slice a74 n74 c74, .int .i64 n7] 99)); have hB : w2.heap.size ≤ (w7.alloc (.cells #[Value.string s7, .slice a71 n71 c71, .slice a72 n72 c72, .slice a73 n73 c73, .slice a74 n74 c74, .int .i64 n7] 99)).heap.size := Nat.le_trans hll (Nat.le_trans (show w6.heap.size ≤ w7.heap.size from g7.kb.size) (Nat.le_of_lt (lt_of_block (alloc_self w7 (.cells #[Value.string s7, .slice a71 n71 c71, .slice a72 n72 c72, .slice a73 n73 c73, .slice a74 n74 c74, .int .i64 n7] 99))))); have hxr := row_cells (A6.out.drew.step g7 hpl).i.r.a; have hxl7 := lt_of_block (A6.out.drew.step g7 hpl).i.r.a; simp only [itemRow, ER.zero] at hxr; obtain ⟨hxc7, hxf7⟩ := hxr))
              all_goals
                have hle7 : x6.at' ≤ x7.at' := g7.le
                have hlt7 := g7.ps.lt
                have A8 : Aside (ItL 99 6 S w x2 w.heap.size w1.heap.size w2.heap.size (w8.setCell ⟨w1.heap.size, 10, none⟩ (.slice (some ⟨gk, 0, none⟩) (ns + 1) cap)) x7 none 0 0 (some ⟨gk, 0, none⟩) (ns + 1) cap AT (.slice (some ⟨gk, 0, none⟩) (ns + 1) cap) (ns + 1)) :=
                  ⟨(((A6.out.drew.step g7 hpl).alloc _).i.grown hgrow hpl htl hrw.out hlo3.out).setS hpl htl _ _ _, .mk _ _ (own_frame hown fun z hz => Below.heap_setCell _ _ _ _ (by have h1 := (World.ownsRow.lt hown z hz).1; have h2 := hlo3.out.2.2; show z ≠ w1.heap.size; omega)), hlo3.out.1, hlo3.out.2.1, hlo3.out.2.2, by have h0 : w6.heap.size ≤ w7.heap.size := g7.kb.size; have h1 := hgrow.size; simp at h1 ⊢; omega⟩
                have hmeas : 2 * (S.len - x7.at') + (if x7.e = 0 then 1 else 0) < 2 * (S.len - x6.at') + (if x6.e = 0 then 1 else 0) := by
                  rw [if_pos he]
                  split
                  · rename_i h3
                    have := hpr7 h3
                    omega
                  · omega
                have HM : Hid _ := hmeas
                clear hown hgrow hat HX hmeas hpr7
                go_wp2
                go_roundg (2 * (S.len - x7.at') + (if x7.e = 0 then 1 else 0))
                case measure => exact Nat.lt_of_lt_of_le HM.out HK.out
                case rel => exact ⟨x7, _, ns + 1, _, Nat.le_refl _, hlt7, by omega, by omega, A8⟩
          · rcases Nat.eq_zero_or_pos ns with hn0 | hn0
            · subst hn0
              go_wp2_with (fail)
              refine (fail_ex Ai5.out.r.g.ps 12 (by decide)).mono ?_
              rintro _ w6 @⟨_, _, x6, g6, rfl, hee⟩
              have Ai6 : Aside _ := Ai5.out.step g6 hpl
              have hle6 : x2.at' + 1 ≤ x6.at' := Nat.le_trans hle g6.le
              clear hbc5 hbf5
              go_wp2_with (fail)
              refine (take_in Ai6.out.r.g.ps _).mono ?_
              rintro _ wt @⟨_, _, xt, gt, rfl, _⟩
              have Rt : Aside _ := Ai6.out.step gt hpl
              have c4t := Rt.out.r.g.ps.c4
              have f4t := Rt.out.r.g.ps.fz 4
              have hplt := Rt.out.r.g.ps.plt
              have hlet : x2.at' < xt.at' := Nat.lt_of_lt_of_le (by omega) gt.le
              have Ru : Aside _ := Rt.out.step (Go1.setN gt.ps (wrap64 (xt.n - 1))) hpl
              have F : Aside _ := Ru.out.fin hpl htl (fun _ => by rw [zt_cnt]; omega) (fun _ => hlet)
              obtain ⟨hbcF, hbfF⟩ := row_cells Rt.out.r.a
              have hblF := lt_of_block Rt.out.r.a
              obtain ⟨hrcF, hrfF⟩ := row_cells Rt.out.r.r0
              have hrlF := lt_of_block Rt.out.r.r0
              simp only [itemRow] at hbcF
              simp only [izero] at hrcF
              go_wp2
              exact bodyPost_ret (results_cell_row rfl _ _ w.heap.size 48 _ _ _ (by rfl) F.out.1 Try.underlying48 rfl (by kernel_rfl)) rfl (.mk F.out.2.1 F.out.2.2)
            · have hn1 : ¬ (ns : Int) = 0 := by omega
              go_wp2_with (fail)
              refine (take_in Ai5.out.r.g.ps _).mono ?_
              rintro _ wt @⟨_, _, xt, gt, rfl, _⟩
              have Rt : Aside _ := Ai5.out.step gt hpl
              have c4t := Rt.out.r.g.ps.c4
              have f4t := Rt.out.r.g.ps.fz 4
              have hplt := Rt.out.r.g.ps.plt
              have hlet : x2.at' < xt.at' := Nat.lt_of_lt_of_le (by omega) gt.le
              have Ru : Aside _ := Rt.out.step (Go1.setN gt.ps (wrap64 (xt.n - 1))) hpl
              have F : Aside _ := Ru.out.fin hpl htl (fun _ => by rw [zt_cnt]; omega) (fun _ => hlet)
              obtain ⟨hbcF, hbfF⟩ := row_cells Rt.out.r.a
              have hblF := lt_of_block Rt.out.r.a
              obtain ⟨hrcF, hrfF⟩ := row_cells Rt.out.r.r0
              have hrlF := lt_of_block Rt.out.r.r0
              simp only [itemRow] at hbcF
              simp only [izero] at hrcF
              go_wp2
              exact bodyPost_ret (results_cell_row rfl _ _ w.heap.size 48 _ _ _ (by rfl) F.out.1 Try.underlying48 rfl (by kernel_rfl)) rfl (.mk F.out.2.1 F.out.2.2)
  · subst hx2
    have hm2 := R2.out
    go_wp2_with (fail)
    refine (maybe_in R2.out.r.g.ps _).mono ?_
    rintro _ w3 @⟨_, _, x3, g3, ⟨rfl, hat, hee⟩ | ⟨rfl, hx3⟩⟩
    · have R3 : Aside _ := R2.out.step g3 hpl
      have L3 : Aside (ItL 9 1 S w x2 w.heap.size w1.heap.size w3.heap.size w3 x3 none 0 0 none 0 0 AT (.slice none 0 0) 0) := ⟨R3.out, PL.nil _ _ _ _, R3.out.r.g.kb.size, by have := g3.kb.size; omega, by have := g3.kb.size; omega, Nat.le_refl _⟩
      have hlt3 := g3.ps.lt
      clear R3
      go_wp2
      go_loopg [8, 9] (S.len) (fun kx s8 s9 wr => ∃ (xc : St) (an : Option Addr) (nn cn : Nat), S.len - xc.at' ≤ kx ∧ xc.at' < S.len ∧ x2.at' < xc.at' ∧ nn ≤ xc.at' + 1 ∧ (xc.e = 0 → nn ≤ xc.at') ∧ Aside (ItL 9 1 S w x2 w.heap.size w1.heap.size w3.heap.size wr xc an nn cn none 0 0 AT (.slice an nn cn) nn))
      case atStart => exact ⟨x3, none, 0, 0, by omega, hlt3, hat, by omega, fun _ => by omega, L3⟩
      case round =>
        clear L3
        obtain ⟨xc, an, nn, cn, hkx, hlt, hle, hnb, hnc, A⟩ := hrel
        have HN : Hid _ := hnc
        clear hnc
        have Ai : Aside _ := A.out.i
        have c2r := A.out.i.r.g.ps.c2
        have hplr := A.out.i.r.g.ps.plt
        by_cases he : xc.e = 0
        case neg =>
          go_wp2_with (fail)
          refine (take_in Ai.out.r.g.ps _).mono ?_
          rintro _ wq @⟨_, _, xq, gq, rfl, _⟩
          have Aq : Aside _ := Ai.out.step gq hpl
          have hpq : x2.at' < xq.at' := Nat.lt_of_lt_of_le hle gq.le
          go_wp2_with (fail)
          refine (take_in Aq.out.r.g.ps _).mono ?_
          rintro _ wa @⟨_, _, xa, ga, rfl, _⟩
          have Ra : Aside _ := Aq.out.step ga hpl
          go_wp2_with (fail)
          refine (exp_any Ra.out.r.g.ps).mono ?_
          rintro _ wb @⟨_, _, xb, gb, ⟨p, t, hE, hprb⟩⟩
          have Rb0 : Aside _ := Ra.out.step gb hpl
          obtain ⟨hbcb, hbfb⟩ := row_cells Rb0.out.r.a
          have hblb := lt_of_block Rb0.out.r.a
          simp only [itemRow, ER.zero] at hbcb
          have Rb : Aside _ := Ra.out.setE gb hpl htl hE
          simp only [ER.row]
          go_wp2_with (fail)
          refine (take_in Rb.out.r.g.ps _).mono ?_
          rintro _ wc @⟨_, _, xc2, gc, rfl, _⟩
          have Rc : Aside _ := Rb.out.step gc hpl
          clear hbcb hbfb hE
          have hprc : xc2.e = 0 → x2.at' < xc2.at' := fun h => Nat.lt_of_lt_of_le ((fun _ => hpq) (er0 ga (er0 gb (er0 gc h)))) (Nat.le_trans ga.le (Nat.le_trans gb.le gc.le))
          have hcc : xc2.e = 0 → t.cnt ≤ 20000 := fun h => by
            have := hprb (er0 gc h)
            have := gc.ps.lt
            have : xb.at' ≤ xc2.at' := gc.le
            omega
          have HC : Aside _ := (⟨hprc, hcc⟩ : _ ∧ _)
          clear hprc hcc hprb
          have F : Aside _ := Rc.out.fin hpl htl HC.out.2 HC.out.1
          obtain ⟨hbcF, hbfF⟩ := row_cells Rc.out.r.a
          have hblF := lt_of_block Rc.out.r.a
          obtain ⟨hrcF, hrfF⟩ := row_cells Rc.out.r.r0
          have hrlF := lt_of_block Rc.out.r.r0
          simp only [itemRow] at hbcF
          simp only [izero] at hrcF
          go_wp2
          exact bodyPost_ret (results_cell_row rfl _ _ w.heap.size 48 _ _ _ (by rfl) F.out.1 Try.underlying48 rfl (by kernel_rfl)) rfl (.mk F.out.2.1 F.out.2.2)
        case pos =>
          have hnn := HN.out he
          go_wp2_with (fail)
          refine (tok_in Ai.out.r.g.ps).mono ?_
          rintro e w5 ⟨rfl, h5, k5⟩
          dsimp only [Tk.val]
          have A5 : Aside _ := A.out.step ⟨h5, k5, Nat.le_refl _, id⟩ hpl
          have Ai5 : Aside _ := A5.out.i
          obtain ⟨hbc5, hbf5⟩ := row_cells Ai5.out.r.a
          have hbl5 := lt_of_block Ai5.out.r.a
          simp only [itemRow, ER.zero] at hbc5
          by_cases hk1 : (S.t xc.at').k = 1
          · go_wp2_with (fail)
            refine (full_in Ai5.out.r.g.ps _ _).mono ?_
            rintro _ w6 @⟨_, _, x6, g6, ⟨rfl, hee⟩ | ⟨rfl, hlm, hx6⟩⟩
            · have Ai6 : Aside _ := Ai5.out.step g6 hpl
              clear hbc5 hbf5
              have F : Aside _ := Ai6.out.fin hpl htl (fun h => absurd h hee) (fun h => absurd h hee)
              obtain ⟨hbcF, hbfF⟩ := row_cells Ai6.out.r.a
              have hblF := lt_of_block Ai6.out.r.a
              obtain ⟨hrcF, hrfF⟩ := row_cells Ai6.out.r.r0
              have hrlF := lt_of_block Ai6.out.r.r0
              simp only [itemRow] at hbcF
              simp only [izero] at hrcF
              go_wp2
              exact bodyPost_ret (results_cell_row rfl _ _ w.heap.size 48 _ _ _ (by rfl) F.out.1 Try.underlying48 rfl (by kernel_rfl)) rfl (.mk F.out.2.1 F.out.2.2)
            · have A6 : Aside _ := A5.out.step g6 hpl
              clear hlm hbc5 hbf5
              subst hx6
              have Ai6 : Aside _ := A6.out.i
              obtain ⟨hbc6, hbf6⟩ := row_cells Ai6.out.r.a
              have hbl6 := lt_of_block Ai6.out.r.a
              simp only [itemRow, ER.zero] at hbc6
              obtain ⟨xs, hxs⟩ := A6.out.drew.l.own
              have HX : Aside (w6.drew.ownsRow w3.heap.size 9 1 (.slice an nn cn) nn xs) := hxs
              clear hxs
              have hm63 : nn + 1 ≤ maxLen := by unfold maxLen; omega
              have hb63 : (nn + 1) * 16 ≤ 140737488355328 := by omega
              have hlo3 : Aside (w.heap.size ≤ w3.heap.size ∧ w.heap.size < w3.heap.size ∧ w1.heap.size < w3.heap.size) := ⟨A6.out.lo.1, A6.out.lo.2.1, A6.out.lo.2.2.1⟩
              have hpbLO : S.pb < w3.heap.size := Nat.lt_of_lt_of_le hpl hlo3.out.1
              have hrw : Aside (∀ z, (Value.slice an nn cn).ownBlock = some z → w3.heap.size ≤ z) := fun z hz => (World.ownsRow.lt HX.out z hz).1
              have hll : w3.heap.size ≤ w6.heap.size := A6.out.lo.2.2.2
              have hs63 : w3.heap.size > w1.heap.size := hlo3.out.2.2
              go_wp2
              go_region_law (first
                | (refine step_append_lies _ rfl (.tmp 102) (.tmp 105) 23 rfl w3.heap.size 9 i9 _ 1 16 Try.underlying23 hi9 hy0 hy1 hy2 rfl (by decide) (.slice an nn cn) nn xs (by simp [Act.eval, Act.put]) hO.out ⟨w7.heap.size, 0, none⟩ 1 1 [Value.string s7] (by simp [Act.eval, Act.put]) rfl hN.out (string_one s7) (by decide) hm63 hb63 hB w7.heap.size.succ (by simp) ?_; intro gk cap w8 hown hgrow hat8 hlt8; have hx9 := row_cells (((A6.out.drew.step g7 hpl).alloc (.cells #[Value.string s7] 9)).i.grown hgrow hpl htl hrw.out hlo3.out).r.a; have hxl9 := lt_of_block (((A6.out.drew.step g7 hpl).alloc (.cells #[Value.string s7] 9)).i.grown hgrow hpl htl hrw.out hlo3.out).r.a; simp only [itemRow, ER.zero] at hx9; obtain ⟨hxc9, hxf9⟩ := hx9)
                | (go_simp; go_at_call 52; refine (name_in A6.out.drew.i.r.g.ps).mono ?_; rintro _ w7 @⟨_, _, x7, g7, ⟨s7, rfl⟩, hpr7⟩; have hO : Aside _ := (own_frame HX.out (fun z hz => g7.kb.same z (World.ownsRow.lt HX.out z hz).2 (Nat.ne_of_gt (Nat.lt_of_lt_of_le hpbLO (World.ownsRow.lt HX.out z hz).1)))).alloc (.cells #[Value.string s7] 9); have hN : Aside _ := World.news_of_block (alloc_self w7 (.cells #[Value.string s7] 9)); have hB : w3.heap.size ≤ (w7.alloc (.cells #[Value.string s7] 9)).heap.size := Nat.le_trans hll (Nat.le_trans (show w6.heap.size ≤ w7.heap.size from g7.kb.size) (Nat.le_of_lt (lt_of_block (alloc_self w7 (.cells #[Value.string s7] 9))))); have hxr := row_cells (A6.out.drew.step g7 hpl).i.r.a; have hxl7 := lt_of_block (A6.out.drew.step g7 hpl).i.r.a; simp only [itemRow, ER.zero] at hxr; obtain ⟨hxc7, hxf7⟩ := hxr))
              all_goals
                have hle7 : x6.at' ≤ x7.at' := g7.le
                have hnc7 : x7.e = 0 → nn + 1 ≤ x7.at' := fun h => by have : x6.at' < x7.at' := hpr7 h; omega
                have A8 : Aside (ItL 9 1 S w x2 w.heap.size w1.heap.size w3.heap.size (w8.setCell ⟨w1.heap.size, 0, none⟩ (.slice (some ⟨gk, 0, none⟩) (nn + 1) cap)) x7 (some ⟨gk, 0, none⟩) (nn + 1) cap none 0 0 AT (.slice (some ⟨gk, 0, none⟩) (nn + 1) cap) (nn + 1)) :=
                  ⟨(((A6.out.drew.step g7 hpl).alloc _).i.grown hgrow hpl htl hrw.out hlo3.out).setN hpl htl _ _ _, .mk _ _ (own_frame hown fun z hz => Below.heap_setCell _ _ _ _ (by have h1 := (World.ownsRow.lt hown z hz).1; have h2 := hlo3.out.2.2; show z ≠ w1.heap.size; omega)), hlo3.out.1, hlo3.out.2.1, hlo3.out.2.2, by have h0 : w6.heap.size ≤ w7.heap.size := g7.kb.size; have h1 := hgrow.size; simp at h1 ⊢; omega⟩
                have HC7 : Hid _ := hnc7
                clear hown hgrow hat8 HX hpr7 hnc7
                have Ai8 : Aside _ := A8.out.i
                go_wp2_with (fail)
                refine (maybe_in Ai8.out.r.g.ps _).mono ?_
                rintro _ w9 @⟨_, _, x9, g9, hm9⟩
                have A9 : Aside _ := A8.out.step g9 hpl
                have hle9 := g9.le
                have hlt9 := g9.ps.lt
                rcases hm9 with ⟨rfl, hat9, hee9⟩ | ⟨rfl, hx9⟩
                · go_wp2
                  go_roundg (S.len - x9.at')
                  case measure => omega
                  case rel => exact ⟨x9, some ⟨gk, 0, none⟩, nn + 1, cap, Nat.le_refl _, hlt9, by omega, by omega, fun h => Nat.le_trans (HC7.out (er0 g9 h)) hle9, A9⟩
                · have Ai9 : Aside _ := A9.out.i
                  go_wp2_with (fail)
                  refine (take_in Ai9.out.r.g.ps _).mono ?_
                  rintro _ wq @⟨_, _, xq, gq, rfl, _⟩
                  have Aq : Aside _ := Ai9.out.step gq hpl
                  have hpq : x2.at' < xq.at' := Nat.lt_of_lt_of_le (by omega) (Nat.le_trans g9.le gq.le)
                  go_wp2_with (fail)
                  refine (take_in Aq.out.r.g.ps _).mono ?_
                  rintro _ wa @⟨_, _, xa, ga, rfl, _⟩
                  have Ra : Aside _ := Aq.out.step ga hpl
                  go_wp2_with (fail)
                  refine (exp_any Ra.out.r.g.ps).mono ?_
                  rintro _ wb @⟨_, _, xb, gb, ⟨p, t, hE, hprb⟩⟩
                  have Rb0 : Aside _ := Ra.out.step gb hpl
                  obtain ⟨hbcb, hbfb⟩ := row_cells Rb0.out.r.a
                  have hblb := lt_of_block Rb0.out.r.a
                  simp only [itemRow, ER.zero] at hbcb
                  have Rb : Aside _ := Ra.out.setE gb hpl htl hE
                  simp only [ER.row]
                  go_wp2_with (fail)
                  refine (take_in Rb.out.r.g.ps _).mono ?_
                  rintro _ wc @⟨_, _, xc2, gc, rfl, _⟩
                  have Rc : Aside _ := Rb.out.step gc hpl
                  clear hbcb hbfb hE
                  have hprc : xc2.e = 0 → x2.at' < xc2.at' := fun h => Nat.lt_of_lt_of_le ((fun _ => hpq) (er0 ga (er0 gb (er0 gc h)))) (Nat.le_trans ga.le (Nat.le_trans gb.le gc.le))
                  have hcc : xc2.e = 0 → t.cnt ≤ 20000 := fun h => by
                    have := hprb (er0 gc h)
                    have := gc.ps.lt
                    have : xb.at' ≤ xc2.at' := gc.le
                    omega
                  have HC : Aside _ := (⟨hprc, hcc⟩ : _ ∧ _)
                  clear hprc hcc hprb
                  have F : Aside _ := Rc.out.fin hpl htl HC.out.2 HC.out.1
                  obtain ⟨hbcF, hbfF⟩ := row_cells Rc.out.r.a
                  have hblF := lt_of_block Rc.out.r.a
                  obtain ⟨hrcF, hrfF⟩ := row_cells Rc.out.r.r0
                  have hrlF := lt_of_block Rc.out.r.r0
                  simp only [itemRow] at hbcF
                  simp only [izero] at hrcF
                  go_wp2
                  exact bodyPost_ret (results_cell_row rfl _ _ w.heap.size 48 _ _ _ (by rfl) F.out.1 Try.underlying48 rfl (by kernel_rfl)) rfl (.mk F.out.2.1 F.out.2.2)
          · have A6 : Aside _ := A5.out
            clear hbc5 hbf5
            have Ai6 : Aside _ := A6.out.i
            obtain ⟨hbc6, hbf6⟩ := row_cells Ai6.out.r.a
            have hbl6 := lt_of_block Ai6.out.r.a
            simp only [itemRow, ER.zero] at hbc6
            obtain ⟨xs, hxs⟩ := A6.out.drew.l.own
            have HX : Aside (w5.drew.ownsRow w3.heap.size 9 1 (.slice an nn cn) nn xs) := hxs
            clear hxs
            have hm63 : nn + 1 ≤ maxLen := by unfold maxLen; omega
            have hb63 : (nn + 1) * 16 ≤ 140737488355328 := by omega
            have hlo3 : Aside (w.heap.size ≤ w3.heap.size ∧ w.heap.size < w3.heap.size ∧ w1.heap.size < w3.heap.size) := ⟨A6.out.lo.1, A6.out.lo.2.1, A6.out.lo.2.2.1⟩
            have hpbLO : S.pb < w3.heap.size := Nat.lt_of_lt_of_le hpl hlo3.out.1
            have hrw : Aside (∀ z, (Value.slice an nn cn).ownBlock = some z → w3.heap.size ≤ z) := fun z hz => (World.ownsRow.lt HX.out z hz).1
            have hll : w3.heap.size ≤ w5.heap.size := A6.out.lo.2.2.2
            have hs63 : w3.heap.size > w1.heap.size := hlo3.out.2.2
            go_wp2
            go_region_law (first
              | (refine step_append_lies _ rfl (.tmp 102) (.tmp 105) 23 rfl w3.heap.size 9 i9 _ 1 16 Try.underlying23 hi9 hy0 hy1 hy2 rfl (by decide) (.slice an nn cn) nn xs (by simp [Act.eval, Act.put]) hO.out ⟨w7.heap.size, 0, none⟩ 1 1 [Value.string s7] (by simp [Act.eval, Act.put]) rfl hN.out (string_one s7) (by decide) hm63 hb63 hB w7.heap.size.succ (by simp) ?_; intro gk cap w8 hown hgrow hat8 hlt8; have hx9 := row_cells (((A6.out.drew.step g7 hpl).alloc (.cells #[Value.string s7] 9)).i.grown hgrow hpl htl hrw.out hlo3.out).r.a; have hxl9 := lt_of_block (((A6.out.drew.step g7 hpl).alloc (.cells #[Value.string s7] 9)).i.grown hgrow hpl htl hrw.out hlo3.out).r.a; simp only [itemRow, ER.zero] at hx9; obtain ⟨hxc9, hxf9⟩ := hx9)
              | (go_simp; go_at_call 52; refine (name_in A6.out.drew.i.r.g.ps).mono ?_; rintro _ w7 @⟨_, _, x7, g7, ⟨s7, rfl⟩, hpr7⟩; have hO : Aside _ := (own_frame HX.out (fun z hz => g7.kb.same z (World.ownsRow.lt HX.out z hz).2 (Nat.ne_of_gt (Nat.lt_of_lt_of_le hpbLO (World.ownsRow.lt HX.out z hz).1)))).alloc (.cells #[Value.string s7] 9); have hN : Aside _ := World.news_of_block (alloc_self w7 (.cells #[Value.string s7] 9)); have hB : w3.heap.size ≤ (w7.alloc (.cells #[Value.string s7] 9)).heap.size := Nat.le_trans hll (Nat.le_trans (show w5.heap.size ≤ w7.heap.size from g7.kb.size) (Nat.le_of_lt (lt_of_block (alloc_self w7 (.cells #[Value.string s7] 9))))); have hxr := row_cells (A6.out.drew.step g7 hpl).i.r.a; have hxl7 := lt_of_block (A6.out.drew.step g7 hpl).i.r.a; simp only [itemRow, ER.zero] at hxr; obtain ⟨hxc7, hxf7⟩ := hxr))
            all_goals
              have hle7 : xc.at' ≤ x7.at' := g7.le
              have hnc7 : x7.e = 0 → nn + 1 ≤ x7.at' := fun h => by have : xc.at' < x7.at' := hpr7 h; omega
              have A8 : Aside (ItL 9 1 S w x2 w.heap.size w1.heap.size w3.heap.size (w8.setCell ⟨w1.heap.size, 0, none⟩ (.slice (some ⟨gk, 0, none⟩) (nn + 1) cap)) x7 (some ⟨gk, 0, none⟩) (nn + 1) cap none 0 0 AT (.slice (some ⟨gk, 0, none⟩) (nn + 1) cap) (nn + 1)) :=
                ⟨(((A6.out.drew.step g7 hpl).alloc _).i.grown hgrow hpl htl hrw.out hlo3.out).setN hpl htl _ _ _, .mk _ _ (own_frame hown fun z hz => Below.heap_setCell _ _ _ _ (by have h1 := (World.ownsRow.lt hown z hz).1; have h2 := hlo3.out.2.2; show z ≠ w1.heap.size; omega)), hlo3.out.1, hlo3.out.2.1, hlo3.out.2.2, by have h0 : w5.heap.size ≤ w7.heap.size := g7.kb.size; have h1 := hgrow.size; simp at h1 ⊢; omega⟩
              have HC7 : Hid _ := hnc7
              clear hown hgrow hat8 HX hpr7 hnc7
              have Ai8 : Aside _ := A8.out.i
              go_wp2_with (fail)
              refine (maybe_in Ai8.out.r.g.ps _).mono ?_
              rintro _ w9 @⟨_, _, x9, g9, hm9⟩
              have A9 : Aside _ := A8.out.step g9 hpl
              have hle9 := g9.le
              have hlt9 := g9.ps.lt
              rcases hm9 with ⟨rfl, hat9, hee9⟩ | ⟨rfl, hx9⟩
              · go_wp2
                go_roundg (S.len - x9.at')
                case measure => omega
                case rel => exact ⟨x9, some ⟨gk, 0, none⟩, nn + 1, cap, Nat.le_refl _, hlt9, by omega, by omega, fun h => Nat.le_trans (HC7.out (er0 g9 h)) hle9, A9⟩
              · have Ai9 : Aside _ := A9.out.i
                go_wp2_with (fail)
                refine (take_in Ai9.out.r.g.ps _).mono ?_
                rintro _ wq @⟨_, _, xq, gq, rfl, _⟩
                have Aq : Aside _ := Ai9.out.step gq hpl
                have hpq : x2.at' < xq.at' := Nat.lt_of_lt_of_le (by omega) (Nat.le_trans g9.le gq.le)
                go_wp2_with (fail)
                refine (take_in Aq.out.r.g.ps _).mono ?_
                rintro _ wa @⟨_, _, xa, ga, rfl, _⟩
                have Ra : Aside _ := Aq.out.step ga hpl
                go_wp2_with (fail)
                refine (exp_any Ra.out.r.g.ps).mono ?_
                rintro _ wb @⟨_, _, xb, gb, ⟨p, t, hE, hprb⟩⟩
                have Rb0 : Aside _ := Ra.out.step gb hpl
                obtain ⟨hbcb, hbfb⟩ := row_cells Rb0.out.r.a
                have hblb := lt_of_block Rb0.out.r.a
                simp only [itemRow, ER.zero] at hbcb
                have Rb : Aside _ := Ra.out.setE gb hpl htl hE
                simp only [ER.row]
                go_wp2_with (fail)
                refine (take_in Rb.out.r.g.ps _).mono ?_
                rintro _ wc @⟨_, _, xc2, gc, rfl, _⟩
                have Rc : Aside _ := Rb.out.step gc hpl
                clear hbcb hbfb hE
                have hprc : xc2.e = 0 → x2.at' < xc2.at' := fun h => Nat.lt_of_lt_of_le ((fun _ => hpq) (er0 ga (er0 gb (er0 gc h)))) (Nat.le_trans ga.le (Nat.le_trans gb.le gc.le))
                have hcc : xc2.e = 0 → t.cnt ≤ 20000 := fun h => by
                  have := hprb (er0 gc h)
                  have := gc.ps.lt
                  have : xb.at' ≤ xc2.at' := gc.le
                  omega
                have HC : Aside _ := (⟨hprc, hcc⟩ : _ ∧ _)
                clear hprc hcc hprb
                have F : Aside _ := Rc.out.fin hpl htl HC.out.2 HC.out.1
                obtain ⟨hbcF, hbfF⟩ := row_cells Rc.out.r.a
                have hblF := lt_of_block Rc.out.r.a
                obtain ⟨hrcF, hrfF⟩ := row_cells Rc.out.r.r0
                have hrlF := lt_of_block Rc.out.r.r0
                simp only [itemRow] at hbcF
                simp only [izero] at hrcF
                go_wp2
                exact bodyPost_ret (results_cell_row rfl _ _ w.heap.size 48 _ _ _ (by rfl) F.out.1 Try.underlying48 rfl (by kernel_rfl)) rfl (.mk F.out.2.1 F.out.2.2)
    · subst hx3
      have R3 : Aside _ := R2.out.step g3 hpl
      go_wp2_with (fail)
      refine (name_in R3.out.r.g.ps).mono ?_
      rintro _ w4 @⟨_, _, x4, g4, ⟨s4, rfl⟩, hpr4⟩
      have R4 : Aside _ := R3.out.step g4 hpl
      obtain ⟨hbc4, hbf4⟩ := row_cells R4.out.r.a
      have hbl4 := lt_of_block R4.out.r.a
      simp only [itemRow, ER.zero] at hbc4
      have R5 : Aside _ := (R4.out.setN hpl htl (some ⟨w4.heap.size, 0, none⟩) 1 1).alloc (.cells #[.string s4] 9)
      have HP4 : Hid _ := hpr4
      clear hpr4
      go_wp2_with (fail)
      refine (take_in R5.out.r.g.ps _).mono ?_
      rintro _ wa @⟨_, _, xa, ga, rfl, _⟩
      have Ra : Aside _ := R5.out.step ga hpl
      go_wp2_with (fail)
      refine (exp_any Ra.out.r.g.ps).mono ?_
      rintro _ wb @⟨_, _, xb, gb, ⟨p, t, hE, hprb⟩⟩
      have Rb0 : Aside _ := Ra.out.step gb hpl
      obtain ⟨hbcb, hbfb⟩ := row_cells Rb0.out.r.a
      have hblb := lt_of_block Rb0.out.r.a
      simp only [itemRow, ER.zero] at hbcb
      have Rb : Aside _ := Ra.out.setE gb hpl htl hE
      simp only [ER.row]
      go_wp2_with (fail)
      refine (take_in Rb.out.r.g.ps _).mono ?_
      rintro _ wc @⟨_, _, xc2, gc, rfl, _⟩
      have Rc : Aside _ := Rb.out.step gc hpl
      clear hbcb hbfb hE
      have hprc : xc2.e = 0 → x3.at' < xc2.at' := fun h => Nat.lt_of_lt_of_le ((HP4.out) (er0 ga (er0 gb (er0 gc h)))) (Nat.le_trans ga.le (Nat.le_trans gb.le gc.le))
      have hcc : xc2.e = 0 → t.cnt ≤ 20000 := fun h => by
        have := hprb (er0 gc h)
        have := gc.ps.lt
        have : xb.at' ≤ xc2.at' := gc.le
        omega
      have HC : Aside _ := (⟨hprc, hcc⟩ : _ ∧ _)
      clear hprc hcc hprb
      have F : Aside _ := Rc.out.fin hpl htl HC.out.2 HC.out.1
      obtain ⟨hbcF, hbfF⟩ := row_cells Rc.out.r.a
      have hblF := lt_of_block Rc.out.r.a
      obtain ⟨hrcF, hrfF⟩ := row_cells Rc.out.r.r0
      have hrlF := lt_of_block Rc.out.r.r0
      simp only [itemRow] at hbcF
      simp only [izero] at hrcF
      go_wp2
      exact bodyPost_ret (results_cell_row rfl _ _ w.heap.size 48 _ _ _ (by rfl) F.out.1 Try.underlying48 rfl (by kernel_rfl)) rfl (.mk F.out.2.1 F.out.2.2)
end Go.Pa
