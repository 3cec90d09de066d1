/-
  The law NamesUses (own work).
-/
import Derived.Test.YtlonlfiaclacdaaPaZb
import Derived.Test.YtlonlfiaclacdaaPaZc
import Derived.Deep.RegionHeld3
namespace Go.Pa
open Go Go.RowKit Go.Proofs

theorem NodesV.len {E : Prop} {B : Nat → Prop} {w : World} {a : Option Addr} {n c : Nat} (h : NodesV E B w (.slice a n c)) : n ≤ 9223372036854775807 := by
  cases h with
  | mk a m c hm h => exact Nat.le_trans hm (by decide)
theorem NodesV.pick {E : Prop} {B : Nat → Prop} {w : World} {a : Option Addr} {n c : Nat} (h : NodesV E B w (.slice a n c)) {i : Nat} (hi : i < n) : ∃ b ia im ic, a = some ⟨b, 0, none⟩ ∧ w.cell? ⟨b, i * 6 + 4, none⟩ = some (.slice ia im ic) ∧ ItemsV E B w (.slice ia im ic) := by
  cases h with
  | mk a m c hm h =>
    obtain ⟨b, h1, _, u, h3, h4⟩ := h i hi
    obtain ⟨ia, im, ic, rfl⟩ := h4.form
    exact ⟨b, ia, im, ic, h1, h3, h4⟩
theorem ItemsV.len {E : Prop} {B : Nat → Prop} {w : World} {a : Option Addr} {n c : Nat} (h : ItemsV E B w (.slice a n c)) : n ≤ 9223372036854775807 := by
  cases h with
  | mk a m c hm h => exact Nat.le_trans hm (by decide)
theorem ItemsV.pick {E : Prop} {B : Nat → Prop} {w : World} {a : Option Addr} {n c : Nat} (h : ItemsV E B w (.slice a n c)) (he : E) {k : Nat} (hk : k < n) : ∃ b q t, a = some ⟨b, 0, none⟩ ∧ IsExp B w q t ∧ t.cnt ≤ 20000 ∧
    w.cell? ⟨b, k * 12 + 1, none⟩ = some (.int .i64 q.f) ∧ w.cell? ⟨b, k * 12 + 2, none⟩ = some (.int .i64 q.s) ∧ w.cell? ⟨b, k * 12 + 3, none⟩ = some (.string q.nm) ∧ w.cell? ⟨b, k * 12 + 4, none⟩ = some (.int .i64 q.tk) ∧ w.cell? ⟨b, k * 12 + 5, none⟩ = some (.int .i64 q.tl) ∧
    w.cell? ⟨b, k * 12 + 6, none⟩ = some (.int .i64 q.n) ∧ w.cell? ⟨b, k * 12 + 7, none⟩ = some (.int .i64 q.m) ∧ w.cell? ⟨b, k * 12 + 8, none⟩ = some (.slice q.ka q.kl q.kc) ∧ w.cell? ⟨b, k * 12 + 9, none⟩ = some (.int .i64 q.at') := by
  cases h with
  | mk a m c hm h =>
    obtain ⟨b, h1, _, q, t, h3, h4, h5⟩ := h k hk
    exact ⟨b, q, t, h1, h3, h4 he, h5 0 (by omega), h5 1 (by omega), h5 2 (by omega), h5 3 (by omega), h5 4 (by omega), h5 5 (by omega), h5 6 (by omega), h5 7 (by omega), h5 8 (by omega)⟩
theorem ItemsV.nu {E : Prop} {B : Nat → Prop} {w w' : World} {v : Value} (h : ItemsV E B w v) (k : Nu w w') : ItemsV E B w' v := h.frame fun b _ hb => k.same b hb
theorem NodesV.nu {E : Prop} {B : Nat → Prop} {w w' : World} {v : Value} (h : NodesV E B w v) (k : Nu w w') : NodesV E B w' v := h.frame fun b _ hb => k.same b hb
/-- A list of the call's own is wiped. -/
theorem NuBut.nu {w w1 w2 : World} {v : Value} {l : List ByteArray} (k : Nu w w1) (h : UL w.heap.size w1 v l) (b : NuBut v w1 w2) : Nu w w2 :=
  ⟨b.os.trans k.os, b.output.trans k.output, Nat.le_trans k.size b.size, fun i hi => (b.same i (Nat.lt_of_lt_of_le hi k.size) fun e => by have := (h.own.lt i e).1; omega).trans (k.same i hi)⟩

set_option maxHeartbeats 32000000 in
set_option maxRecDepth 100000 in
theorem NamesUses_in (w : World) (s o : ByteArray) : Calls Try.prog 7 #[.string s, .string o] w (RetT w true) := by
  go_enter Try.func7, Try.ntmps7
  go_wp2_with (fail)
  refine (alive_in _).mono ?_
  rintro _ w1 @⟨_, hk1⟩
  have H1 : Aside _ := hk1
  clear hk1
  go_wp2_with (fail)
  refine (Program_in w1 s).mono ?_
  rintro e2 w2 hP
  obtain ⟨pa, pn, pc, ok, rfl, hk2, hpv⟩ : ∃ (a : Option Addr) (n c : Nat) (ok : Bool), e2 = Ending.returned (.tuple #[.agg #[.slice a n c], .bool ok]) ∧ Nu w1 w2 ∧ (ok = true → NodesV True (w1.heap.size ≤ ·) w2 (.slice a n c)) := by
    cases hP with
    | bad a n c k => exact ⟨a, n, c, false, rfl, k, fun h => by cases h⟩
    | good a n c h k => exact ⟨a, n, c, true, rfl, k, fun _ => h⟩
  have H2 : Aside _ := H1.out.trans hk2
  have HPV : Aside _ := hpv
  clear hP hk2 hpv
  go_wp2_with (fail)
  refine (Program_in _ o).mono ?_
  rintro e3 w3 hQ
  obtain ⟨qa, qn, qc, fine, rfl, hk3, hqv⟩ : ∃ (a : Option Addr) (n c : Nat) (ok : Bool), e3 = Ending.returned (.tuple #[.agg #[.slice a n c], .bool ok]) ∧ Nu (w2.alloc (.cells #[.slice pa pn pc] 27)) w3 ∧ (ok = true → NodesV True ((w2.alloc (.cells #[.slice pa pn pc] 27)).heap.size ≤ ·) w3 (.slice a n c)) := by
    cases hQ with
    | bad a n c k => exact ⟨a, n, c, false, rfl, k, fun h => by cases h⟩
    | good a n c h k => exact ⟨a, n, c, true, rfl, k, fun _ => h⟩
  have H3 : Aside _ := (H2.out.alloc _).trans hk3
  have HQV : Aside _ := hqv
  have HPb : Aside (w3.heap[w2.heap.size]? = some (.cells #[.slice pa pn pc] 27 (0, 0))) := nu_block hk3 (alloc_self w2 _)
  have hsz23 : w2.heap.size < w3.heap.size := lt_of_block HPb.out
  have HK3 : Aside (Nu w2 w3) := ((Nu.refl w2).alloc _).trans hk3
  clear hQ hk3 hqv
  cases ok
  · go_wp2
    go_ret
    exact .mk (H3.out.alloc _)
  have HP0 : Aside (NodesV True (fun _ => True) (w3.alloc (.cells #[.slice qa qn qc] 27)) (.slice pa pn pc)) := ((HPV.out rfl).nu (HK3.out.alloc _)).mono (fun _ _ => trivial) id
  have HQ0 : Aside (fine = true → NodesV True (fun _ => True) (w3.alloc (.cells #[.slice qa qn qc] 27)) (.slice qa qn qc)) := fun h => ((HQV.out h).nu ((Nu.refl w3).alloc _)).mono (fun _ _ => trivial) id
  have HPb0 : Aside ((w3.alloc (.cells #[.slice qa qn qc] 27)).heap[w2.heap.size]? = some (.cells #[.slice pa pn pc] 27 (0, 0))) := (Below.heap_alloc w3 _ _ hsz23).trans HPb.out
  have HQb0 : Aside ((w3.alloc (.cells #[.slice qa qn qc] 27)).heap[w3.heap.size]? = some (.cells #[.slice qa qn qc] 27 (0, 0))) := alloc_self w3 _
  have H4 : Aside (Nu w (w3.alloc (.cells #[.slice qa qn qc] 27))) := H3.out.alloc _
  have hpn := HP0.out.len
  clear HPV HQV HPb HK3 H3 H2 H1
  go_wp2
  go_loopg [4, 10, 11, 12, 13, 14] pn (fun kx s4 s10 s11 s12 s13 s14 wr => ∃ i : Nat, s10 = .int .i64 (i : Int) ∧ i ≤ pn ∧ pn - i ≤ kx ∧ Aside (Nu (w3.alloc (.cells #[.slice qa qn qc] 27)) wr))
  case atStart => exact ⟨0, rfl, by omega, by omega, Nu.refl _⟩
  case round =>
    obtain ⟨wo, rfl⟩ : ∃ wo, wo = wr := ⟨_, rfl⟩
    obtain ⟨i, rfl, hin, hix, A⟩ := hrel
    obtain ⟨hcp, hfp⟩ := row_cells (nu_block A.out HPb0.out)
    have hlp := lt_of_block (nu_block A.out HPb0.out)
    rcases Nat.lt_or_ge i pn with hlt | hge
    · have hlt' : (i : Int) < pn := by omega
      obtain ⟨bn, ia, im, ic, hpa, hci, hiv⟩ := (HP0.out.nu A.out).pick hlt
      obtain rfl : pa = some ⟨bn, 0, none⟩ := hpa
      have him := hiv.len
      have hbn := lt_of_cell hci
      have HI : Aside _ := hiv
      have HCI : Aside _ := hci
      clear hiv
      go_wp2
      go_loopg [4, 11, 12, 13, 14] im (fun kx s4 s11 s12 s13 s14 wz => ∃ k : Nat, s11 = .int .i64 (k : Int) ∧ k ≤ im ∧ im - k ≤ kx ∧ Aside (Nu wo wz))
      case atStart => exact ⟨0, rfl, by omega, by omega, Nu.refl _⟩
      case round =>
        clear hcp hfp hlp hci
        obtain ⟨k, rfl, hkm, hkx, A2⟩ := hrel
        have A3 : Aside _ := A.out.trans A2.out
        obtain ⟨hcp, hfp⟩ := row_cells (nu_block A3.out HPb0.out)
        have hlp := lt_of_block (nu_block A3.out HPb0.out)
        have hci : wr.cell? ⟨bn, i * 6 + 4, none⟩ = some (.slice ia im ic) := (A2.out.cell hbn).trans HCI.out
        have hbn2 := lt_of_cell hci
        rcases Nat.lt_or_ge k im with hkl | hkg
        · have hkl' : (k : Int) < im := by omega
          obtain ⟨bi, q, t, hia, hE, hcnt, k1, k2, k3, k4, k5, k6, k7, k8, k9⟩ := (HI.out.nu A2.out).pick trivial hkl
          obtain rfl : ia = some ⟨bi, 0, none⟩ := hia
          have hbi := lt_of_cell k1
          obtain ⟨f, s1, nm, tk, tl, nn, mm, ka, kl, kc, at'⟩ := q
          dsimp only at k1 k2 k3 k4 k5 k6 k7 k8 k9
          have HEx0 : Aside _ := hE
          clear hE
          go_wp2_with (fail)
          refine (Uses_in (fun _ => True) ⟨f, s1, nm, tk, tl, nn, mm, ka, kl, kc, at'⟩ t _ (HEx0.out.alloc _) hcnt).mono ?_
          rintro _ w4 @⟨va, _, hk4, hu4⟩
          obtain ⟨aa, ca, rfl⟩ := hu4.form
          have HUa4 : Aside (UL wr.heap.size w4 (.slice aa (told gUse t.pre).length ca) (told gUse t.pre)) := hu4.mono (by simp)
          have HEb4 : Aside (w4.heap[wr.heap.size]? = some (.cells #[.int .i64 f, .int .i64 s1, .string nm, .int .i64 tk, .int .i64 tl, .int .i64 nn, .int .i64 mm, .slice ka kl kc, .int .i64 at'] 45 (0, 0))) := nu_block hk4 (alloc_self wr _)
          have HK4 : Aside (Nu wr w4) := ((Nu.refl wr).alloc _).trans hk4
          obtain ⟨hc4, hf4⟩ := row_cells HEb4.out
          have hl4 := lt_of_block HEb4.out
          clear hk4 hu4
          go_wp2_with (fail)
          refine (Calls_in (fun _ => True) ⟨f, s1, nm, tk, tl, nn, mm, ka, kl, kc, at'⟩ t _ (HEx0.out.nu HK4.out) hcnt).mono ?_
          rintro _ w5 @⟨vb, _, hk5, hu5⟩
          obtain ⟨ab, cb, rfl⟩ := hu5.form
          clear hc4 hf4 hl4
          have HUa5 : Aside _ := HUa4.out.nu hk5
          have HUb5 : Aside (UL wr.heap.size w5 (.slice ab (told gCall t.pre).length cb) (told gCall t.pre)) := hu5.mono HK4.out.size
          have HEb5 : Aside _ := nu_block hk5 HEb4.out
          have HK5 : Aside (Nu wr w5) := HK4.out.trans hk5
          clear hk5 hu5 HUa4 HEb4 HK4
          have HKf : Aside _ := HK5.out
          have HEbf : Aside (w5.heap[wr.heap.size]? = some (.cells #[.int .i64 f, .int .i64 s1, .string nm, .int .i64 tk, .int .i64 tl, .int .i64 nn, .int .i64 mm, .slice ka kl kc, .int .i64 at'] 45 (0, 0))) := HEb5.out
          have HUaf : Aside (UL wr.heap.size w5 (.slice aa (told gUse t.pre).length ca) (told gUse t.pre)) := HUa5.out
          have HUbf : Aside (UL wr.heap.size w5 (.slice ab (told gCall t.pre).length cb) (told gCall t.pre)) := HUb5.out
          cases fine
          case false =>
            have HKeep : Aside (∀ W : World, Nu w5 W → (Nu w5 W ∧ W.cell? ⟨wr.heap.size, 0, none⟩ = some (.int .i64 f) ∧ W.cell? ⟨wr.heap.size, 1, none⟩ = some (.int .i64 s1) ∧ W.cell? ⟨wr.heap.size, 2, none⟩ = some (.string nm) ∧ W.cell? ⟨wr.heap.size, 3, none⟩ = some (.int .i64 tk) ∧ W.cell? ⟨wr.heap.size, 4, none⟩ = some (.int .i64 tl) ∧ W.cell? ⟨wr.heap.size, 5, none⟩ = some (.int .i64 nn) ∧ W.cell? ⟨wr.heap.size, 6, none⟩ = some (.int .i64 mm) ∧ W.cell? ⟨wr.heap.size, 7, none⟩ = some (.slice ka kl kc) ∧ W.cell? ⟨wr.heap.size, 8, none⟩ = some (.int .i64 at'))) := fun W hW => by
              obtain ⟨hcc, _⟩ := row_cells (nu_block hW HEbf.out)
              exact ⟨hW, hcc 0, hcc 1, hcc 2, hcc 3, hcc 4, hcc 5, hcc 6, hcc 7, hcc 8⟩
            have HEW : Aside (∀ W : World, Nu w5 W → IsExp (fun _ => True) W ⟨f, s1, nm, tk, tl, nn, mm, ka, kl, kc, at'⟩ t) := fun W hW => (HEx0.out.nu HKf.out).nu hW
            have HUaW : Aside (∀ W : World, Nu w5 W → UL wr.heap.size W (.slice aa (told gUse t.pre).length ca) (told gUse t.pre)) := fun W hW => HUaf.out.nu hW
            have HUbW : Aside (∀ W : World, Nu w5 W → UL wr.heap.size W (.slice ab (told gCall t.pre).length cb) (told gCall t.pre)) := fun W hW => HUbf.out.nu hW
            have hcn1 : (told gUse t.pre).length ≤ 20000 := told_le hcnt
            have hcn2 : (told gCall t.pre).length ≤ 20000 := told_le hcnt
            clear hcp hfp hlp hci hbn2 k1 k2 k3 k4 k5 k6 k7 k8 k9
            go_wp2
            go_region_held3 (fun W => Nu w5 W ∧ W.cell? ⟨wr.heap.size, 0, none⟩ = some (.int .i64 f) ∧ W.cell? ⟨wr.heap.size, 1, none⟩ = some (.int .i64 s1) ∧ W.cell? ⟨wr.heap.size, 2, none⟩ = some (.string nm) ∧ W.cell? ⟨wr.heap.size, 3, none⟩ = some (.int .i64 tk) ∧ W.cell? ⟨wr.heap.size, 4, none⟩ = some (.int .i64 tl) ∧ W.cell? ⟨wr.heap.size, 5, none⟩ = some (.int .i64 nn) ∧ W.cell? ⟨wr.heap.size, 6, none⟩ = some (.int .i64 mm) ∧ W.cell? ⟨wr.heap.size, 7, none⟩ = some (.slice ka kl kc) ∧ W.cell? ⟨wr.heap.size, 8, none⟩ = some (.int .i64 at'))
              (first | exact HKeep.out _ (Nu.refl _).drew | exact HKeep.out _ (by assumption))
              (first
                | (go_at_call 16; have hn6 := (‹Nu w5 _ ∧ _›).1; refine (refUses_in t (fun _ => True) ⟨f, s1, nm, tk, tl, nn, mm, ka, kl, kc, at'⟩ _ (HEW.out _ hn6) hcnt).mono ?_; rintro _ w6 @⟨v6, _, hk6, hu6⟩; obtain ⟨a6, c6, rfl⟩ := hu6.form; have hm6 : Nu w5 w6 := hn6.trans hk6)
                | (go_at_call_of 15 (Value.slice aa (told gUse t.pre).length ca); refine (Same_in (HUaW.out _ hm6) hu6 hcn1).mono ?_; rintro _ w7 @⟨_, hk7⟩; have hm7 : Nu w5 w7 := hm6.trans hk7)
                | (go_at_call 17; have hn8 := (‹Nu w5 _ ∧ _›).1; refine (refCalls_in t (fun _ => True) ⟨f, s1, nm, tk, tl, nn, mm, ka, kl, kc, at'⟩ _ (HEW.out _ hn8) hcnt).mono ?_; rintro _ w8 @⟨v8, _, hk8, hu8⟩; obtain ⟨a8, c8, rfl⟩ := hu8.form; have hm8 : Nu w5 w8 := hn8.trans hk8)
                | (go_at_call_of 15 (Value.slice ab (told gCall t.pre).length cb); refine (Same_in (HUbW.out _ hm8) hu8 hcn2).mono ?_; rintro _ w9 @⟨_, hk9⟩; have hm9 : Nu w5 w9 := hm8.trans hk9)
                | (go_at_call 18; have hn10 := (‹Nu w5 _ ∧ _›).1; refine (Memory_in (fun _ => True) ⟨f, s1, nm, tk, tl, nn, mm, ka, kl, kc, at'⟩ t _ (HEW.out _ hn10) hcnt).mono ?_; rintro _ w10 @⟨_, hk10⟩; have hm10 : Nu w5 w10 := hn10.trans hk10)
                | (go_at_call 19; have hn11 := (‹Nu w5 _ ∧ _›).1; refine (refMemory_in t (fun _ => True) ⟨f, s1, nm, tk, tl, nn, mm, ka, kl, kc, at'⟩ _ (HEW.out _ hn11) hcnt).mono ?_; rintro _ w11 @⟨_, hk11⟩; have hm11 : Nu w5 w11 := hn11.trans hk11))
            go_wp2
            go_roundg (im - (k + 1))
            case measure => omega
            case rel => exact ⟨k + 1, by go_num, by omega, by omega, A2.out.trans (HKf.out.trans hm11)⟩
          case true =>
            have HW5 : Aside (Nu (w3.alloc (.cells #[.slice qa qn qc] 27)) w5) := A3.out.trans HK5.out
            have HQ5 : Aside _ := (HQ0.out rfl).nu HW5.out
            obtain ⟨hcq, hfq⟩ := row_cells (nu_block HW5.out HQb0.out)
            have hlq := lt_of_block (nu_block HW5.out HQb0.out)
            rcases Nat.eq_zero_or_pos qn with hq0 | hq0
            · have hq0' : ¬ (0 : Int) < qn := by omega
              clear hq0
              have HKeep : Aside (∀ W : World, Nu w5 W → (Nu w5 W ∧ W.cell? ⟨wr.heap.size, 0, none⟩ = some (.int .i64 f) ∧ W.cell? ⟨wr.heap.size, 1, none⟩ = some (.int .i64 s1) ∧ W.cell? ⟨wr.heap.size, 2, none⟩ = some (.string nm) ∧ W.cell? ⟨wr.heap.size, 3, none⟩ = some (.int .i64 tk) ∧ W.cell? ⟨wr.heap.size, 4, none⟩ = some (.int .i64 tl) ∧ W.cell? ⟨wr.heap.size, 5, none⟩ = some (.int .i64 nn) ∧ W.cell? ⟨wr.heap.size, 6, none⟩ = some (.int .i64 mm) ∧ W.cell? ⟨wr.heap.size, 7, none⟩ = some (.slice ka kl kc) ∧ W.cell? ⟨wr.heap.size, 8, none⟩ = some (.int .i64 at'))) := fun W hW => by
                obtain ⟨hcc, _⟩ := row_cells (nu_block hW HEbf.out)
                exact ⟨hW, hcc 0, hcc 1, hcc 2, hcc 3, hcc 4, hcc 5, hcc 6, hcc 7, hcc 8⟩
              have HEW : Aside (∀ W : World, Nu w5 W → IsExp (fun _ => True) W ⟨f, s1, nm, tk, tl, nn, mm, ka, kl, kc, at'⟩ t) := fun W hW => (HEx0.out.nu HKf.out).nu hW
              have HUaW : Aside (∀ W : World, Nu w5 W → UL wr.heap.size W (.slice aa (told gUse t.pre).length ca) (told gUse t.pre)) := fun W hW => HUaf.out.nu hW
              have HUbW : Aside (∀ W : World, Nu w5 W → UL wr.heap.size W (.slice ab (told gCall t.pre).length cb) (told gCall t.pre)) := fun W hW => HUbf.out.nu hW
              have hcn1 : (told gUse t.pre).length ≤ 20000 := told_le hcnt
              have hcn2 : (told gCall t.pre).length ≤ 20000 := told_le hcnt
              clear hcp hfp hlp hci hbn2 k1 k2 k3 k4 k5 k6 k7 k8 k9
              go_wp2
              go_region_held3 (fun W => Nu w5 W ∧ W.cell? ⟨wr.heap.size, 0, none⟩ = some (.int .i64 f) ∧ W.cell? ⟨wr.heap.size, 1, none⟩ = some (.int .i64 s1) ∧ W.cell? ⟨wr.heap.size, 2, none⟩ = some (.string nm) ∧ W.cell? ⟨wr.heap.size, 3, none⟩ = some (.int .i64 tk) ∧ W.cell? ⟨wr.heap.size, 4, none⟩ = some (.int .i64 tl) ∧ W.cell? ⟨wr.heap.size, 5, none⟩ = some (.int .i64 nn) ∧ W.cell? ⟨wr.heap.size, 6, none⟩ = some (.int .i64 mm) ∧ W.cell? ⟨wr.heap.size, 7, none⟩ = some (.slice ka kl kc) ∧ W.cell? ⟨wr.heap.size, 8, none⟩ = some (.int .i64 at'))
                (first | exact HKeep.out _ (Nu.refl _).drew | exact HKeep.out _ (by assumption))
                (first
                  | (go_at_call 16; have hn6 := (‹Nu w5 _ ∧ _›).1; refine (refUses_in t (fun _ => True) ⟨f, s1, nm, tk, tl, nn, mm, ka, kl, kc, at'⟩ _ (HEW.out _ hn6) hcnt).mono ?_; rintro _ w6 @⟨v6, _, hk6, hu6⟩; obtain ⟨a6, c6, rfl⟩ := hu6.form; have hm6 : Nu w5 w6 := hn6.trans hk6)
                  | (go_at_call_of 15 (Value.slice aa (told gUse t.pre).length ca); refine (Same_in (HUaW.out _ hm6) hu6 hcn1).mono ?_; rintro _ w7 @⟨_, hk7⟩; have hm7 : Nu w5 w7 := hm6.trans hk7)
                  | (go_at_call 17; have hn8 := (‹Nu w5 _ ∧ _›).1; refine (refCalls_in t (fun _ => True) ⟨f, s1, nm, tk, tl, nn, mm, ka, kl, kc, at'⟩ _ (HEW.out _ hn8) hcnt).mono ?_; rintro _ w8 @⟨v8, _, hk8, hu8⟩; obtain ⟨a8, c8, rfl⟩ := hu8.form; have hm8 : Nu w5 w8 := hn8.trans hk8)
                  | (go_at_call_of 15 (Value.slice ab (told gCall t.pre).length cb); refine (Same_in (HUbW.out _ hm8) hu8 hcn2).mono ?_; rintro _ w9 @⟨_, hk9⟩; have hm9 : Nu w5 w9 := hm8.trans hk9)
                  | (go_at_call 18; have hn10 := (‹Nu w5 _ ∧ _›).1; refine (Memory_in (fun _ => True) ⟨f, s1, nm, tk, tl, nn, mm, ka, kl, kc, at'⟩ t _ (HEW.out _ hn10) hcnt).mono ?_; rintro _ w10 @⟨_, hk10⟩; have hm10 : Nu w5 w10 := hn10.trans hk10)
                  | (go_at_call 19; have hn11 := (‹Nu w5 _ ∧ _›).1; refine (refMemory_in t (fun _ => True) ⟨f, s1, nm, tk, tl, nn, mm, ka, kl, kc, at'⟩ _ (HEW.out _ hn11) hcnt).mono ?_; rintro _ w11 @⟨_, hk11⟩; have hm11 : Nu w5 w11 := hn11.trans hk11))
              go_wp2
              go_roundg (im - (k + 1))
              case measure => omega
              case rel => exact ⟨k + 1, by go_num, by omega, by omega, A2.out.trans (HKf.out.trans hm11)⟩
            · have hq0' : (0 : Int) < qn := by omega
              have hq1 : (0 : Int) < qn := hq0'
              have hqlen := HQ5.out.len
              obtain ⟨bq, ja, jm, jc, hqa, hcj, hjv⟩ := HQ5.out.pick hq0
              simp only [Nat.zero_mul, Nat.zero_add] at hcj
              obtain rfl : qa = some ⟨bq, 0, none⟩ := hqa
              have hbq := lt_of_cell hcj
              have hjlen := hjv.len
              have HJ : Aside _ := hjv
              have HCJ : Aside _ := hcj
              rcases Nat.eq_zero_or_pos jm with hj0 | hj0
              · have hj0' : ¬ (0 : Int) < jm := by omega
                clear hj0
                have HKeep : Aside (∀ W : World, Nu w5 W → (Nu w5 W ∧ W.cell? ⟨wr.heap.size, 0, none⟩ = some (.int .i64 f) ∧ W.cell? ⟨wr.heap.size, 1, none⟩ = some (.int .i64 s1) ∧ W.cell? ⟨wr.heap.size, 2, none⟩ = some (.string nm) ∧ W.cell? ⟨wr.heap.size, 3, none⟩ = some (.int .i64 tk) ∧ W.cell? ⟨wr.heap.size, 4, none⟩ = some (.int .i64 tl) ∧ W.cell? ⟨wr.heap.size, 5, none⟩ = some (.int .i64 nn) ∧ W.cell? ⟨wr.heap.size, 6, none⟩ = some (.int .i64 mm) ∧ W.cell? ⟨wr.heap.size, 7, none⟩ = some (.slice ka kl kc) ∧ W.cell? ⟨wr.heap.size, 8, none⟩ = some (.int .i64 at'))) := fun W hW => by
                  obtain ⟨hcc, _⟩ := row_cells (nu_block hW HEbf.out)
                  exact ⟨hW, hcc 0, hcc 1, hcc 2, hcc 3, hcc 4, hcc 5, hcc 6, hcc 7, hcc 8⟩
                have HEW : Aside (∀ W : World, Nu w5 W → IsExp (fun _ => True) W ⟨f, s1, nm, tk, tl, nn, mm, ka, kl, kc, at'⟩ t) := fun W hW => (HEx0.out.nu HKf.out).nu hW
                have HUaW : Aside (∀ W : World, Nu w5 W → UL wr.heap.size W (.slice aa (told gUse t.pre).length ca) (told gUse t.pre)) := fun W hW => HUaf.out.nu hW
                have HUbW : Aside (∀ W : World, Nu w5 W → UL wr.heap.size W (.slice ab (told gCall t.pre).length cb) (told gCall t.pre)) := fun W hW => HUbf.out.nu hW
                have hcn1 : (told gUse t.pre).length ≤ 20000 := told_le hcnt
                have hcn2 : (told gCall t.pre).length ≤ 20000 := told_le hcnt
                clear hcp hfp hlp hci hbn2 k1 k2 k3 k4 k5 k6 k7 k8 k9
                go_wp2
                go_region_held3 (fun W => Nu w5 W ∧ W.cell? ⟨wr.heap.size, 0, none⟩ = some (.int .i64 f) ∧ W.cell? ⟨wr.heap.size, 1, none⟩ = some (.int .i64 s1) ∧ W.cell? ⟨wr.heap.size, 2, none⟩ = some (.string nm) ∧ W.cell? ⟨wr.heap.size, 3, none⟩ = some (.int .i64 tk) ∧ W.cell? ⟨wr.heap.size, 4, none⟩ = some (.int .i64 tl) ∧ W.cell? ⟨wr.heap.size, 5, none⟩ = some (.int .i64 nn) ∧ W.cell? ⟨wr.heap.size, 6, none⟩ = some (.int .i64 mm) ∧ W.cell? ⟨wr.heap.size, 7, none⟩ = some (.slice ka kl kc) ∧ W.cell? ⟨wr.heap.size, 8, none⟩ = some (.int .i64 at'))
                  (first | exact HKeep.out _ (Nu.refl _).drew | exact HKeep.out _ (by assumption))
                  (first
                    | (go_at_call 16; have hn6 := (‹Nu w5 _ ∧ _›).1; refine (refUses_in t (fun _ => True) ⟨f, s1, nm, tk, tl, nn, mm, ka, kl, kc, at'⟩ _ (HEW.out _ hn6) hcnt).mono ?_; rintro _ w6 @⟨v6, _, hk6, hu6⟩; obtain ⟨a6, c6, rfl⟩ := hu6.form; have hm6 : Nu w5 w6 := hn6.trans hk6)
                    | (go_at_call_of 15 (Value.slice aa (told gUse t.pre).length ca); refine (Same_in (HUaW.out _ hm6) hu6 hcn1).mono ?_; rintro _ w7 @⟨_, hk7⟩; have hm7 : Nu w5 w7 := hm6.trans hk7)
                    | (go_at_call 17; have hn8 := (‹Nu w5 _ ∧ _›).1; refine (refCalls_in t (fun _ => True) ⟨f, s1, nm, tk, tl, nn, mm, ka, kl, kc, at'⟩ _ (HEW.out _ hn8) hcnt).mono ?_; rintro _ w8 @⟨v8, _, hk8, hu8⟩; obtain ⟨a8, c8, rfl⟩ := hu8.form; have hm8 : Nu w5 w8 := hn8.trans hk8)
                    | (go_at_call_of 15 (Value.slice ab (told gCall t.pre).length cb); refine (Same_in (HUbW.out _ hm8) hu8 hcn2).mono ?_; rintro _ w9 @⟨_, hk9⟩; have hm9 : Nu w5 w9 := hm8.trans hk9)
                    | (go_at_call 18; have hn10 := (‹Nu w5 _ ∧ _›).1; refine (Memory_in (fun _ => True) ⟨f, s1, nm, tk, tl, nn, mm, ka, kl, kc, at'⟩ t _ (HEW.out _ hn10) hcnt).mono ?_; rintro _ w10 @⟨_, hk10⟩; have hm10 : Nu w5 w10 := hn10.trans hk10)
                    | (go_at_call 19; have hn11 := (‹Nu w5 _ ∧ _›).1; refine (refMemory_in t (fun _ => True) ⟨f, s1, nm, tk, tl, nn, mm, ka, kl, kc, at'⟩ _ (HEW.out _ hn11) hcnt).mono ?_; rintro _ w11 @⟨_, hk11⟩; have hm11 : Nu w5 w11 := hn11.trans hk11))
                go_wp2
                go_roundg (im - (k + 1))
                case measure => omega
                case rel => exact ⟨k + 1, by go_num, by omega, by omega, A2.out.trans (HKf.out.trans hm11)⟩
              · have hj0' : (0 : Int) < jm := by omega
                obtain ⟨bj, q2, t2, hja, hE2, hcnt2, j1, j2, j3, j4, j5, j6, j7, j8, j9⟩ := hjv.pick trivial hj0
                simp only [Nat.zero_mul, Nat.zero_add] at j1 j2 j3 j4 j5 j6 j7 j8 j9
                obtain rfl : ja = some ⟨bj, 0, none⟩ := hja
                obtain ⟨f2, s2, nm2, tk2, tl2, nn2, mm2, ka2, kl2, kc2, at2⟩ := q2
                dsimp only at j1 j2 j3 j4 j5 j6 j7 j8 j9
                have hbj := lt_of_cell j1
                have HE2 : Aside _ := hE2
                have HJ9 : Aside _ := (⟨j1, j2, j3, j4, j5, j6, j7, j8, j9⟩ : _ ∧ _ ∧ _ ∧ _ ∧ _ ∧ _ ∧ _ ∧ _ ∧ _)
                clear hjv hE2
                go_wp2_with (fail)
                refine (Uses_in (fun _ => True) ⟨f2, s2, nm2, tk2, tl2, nn2, mm2, ka2, kl2, kc2, at2⟩ t2 _ HE2.out hcnt2).mono ?_
                rintro _ xw6 @⟨vu, _, hk6, hu6⟩
                obtain ⟨a6, c6, rfl⟩ := hu6.form
                have HU6 : Aside _ := hu6
                have HK6 : Aside _ := hk6
                clear hk6 hu6 hcq hfq hlq hcj hbq j1 j2 j3 j4 j5 j6 j7 j8 j9 hbj
                go_wp2_with (fail)
                refine (wipe_in HU6.out (told_le hcnt2)).mono ?_
                rintro _ xw7 @⟨_, hw7⟩
                have HN7 : Aside (Nu w5 xw7) := hw7.nu HK6.out HU6.out
                clear hw7
                obtain ⟨hcq, hfq⟩ := row_cells (nu_block (HW5.out.trans HN7.out) HQb0.out)
                have hlq := lt_of_block (nu_block (HW5.out.trans HN7.out) HQb0.out)
                have tr : ∀ b o v, w5.cell? ⟨b, o, none⟩ = some v → xw7.cell? ⟨b, o, none⟩ = some v := fun b o v h => (HN7.out.cell (lt_of_cell h)).trans h
                have hcj := tr _ _ _ HCJ.out
                have hbq := lt_of_cell hcj
                obtain ⟨j1, j2, j3, j4, j5, j6, j7, j8, j9⟩ := HJ9.out
                replace j1 := tr _ _ _ j1
                replace j2 := tr _ _ _ j2
                replace j3 := tr _ _ _ j3
                replace j4 := tr _ _ _ j4
                replace j5 := tr _ _ _ j5
                replace j6 := tr _ _ _ j6
                replace j7 := tr _ _ _ j7
                replace j8 := tr _ _ _ j8
                replace j9 := tr _ _ _ j9
                have hbj := lt_of_cell j1
                clear tr
                go_wp2_with (fail)
                refine (Calls_in (fun _ => True) ⟨f2, s2, nm2, tk2, tl2, nn2, mm2, ka2, kl2, kc2, at2⟩ t2 _ (HE2.out.nu HN7.out) hcnt2).mono ?_
                rintro _ xw8 @⟨vv, _, hk8, hu8⟩
                obtain ⟨a8, c8, rfl⟩ := hu8.form
                have HU8 : Aside _ := hu8
                have HK8 : Aside _ := hk8
                clear hk8 hu8 hcq hfq hlq hcj hbq j1 j2 j3 j4 j5 j6 j7 j8 j9 hbj
                go_wp2_with (fail)
                refine (wipe_in HU8.out (told_le hcnt2)).mono ?_
                rintro _ xw9 @⟨_, hw9⟩
                have HN9 : Aside (Nu w5 xw9) := HN7.out.trans (hw9.nu HK8.out HU8.out)
                clear hw9
                have HKf : Aside (Nu wr xw9) := HK5.out.trans HN9.out
                have HEbf : Aside (xw9.heap[wr.heap.size]? = some (.cells #[.int .i64 f, .int .i64 s1, .string nm, .int .i64 tk, .int .i64 tl, .int .i64 nn, .int .i64 mm, .slice ka kl kc, .int .i64 at'] 45 (0, 0))) := nu_block HN9.out HEb5.out
                have HUaf : Aside (UL wr.heap.size xw9 (.slice aa (told gUse t.pre).length ca) (told gUse t.pre)) := HUa5.out.nu HN9.out
                have HUbf : Aside (UL wr.heap.size xw9 (.slice ab (told gCall t.pre).length cb) (told gCall t.pre)) := HUb5.out.nu HN9.out
                have HKeep : Aside (∀ W : World, Nu xw9 W → (Nu xw9 W ∧ W.cell? ⟨wr.heap.size, 0, none⟩ = some (.int .i64 f) ∧ W.cell? ⟨wr.heap.size, 1, none⟩ = some (.int .i64 s1) ∧ W.cell? ⟨wr.heap.size, 2, none⟩ = some (.string nm) ∧ W.cell? ⟨wr.heap.size, 3, none⟩ = some (.int .i64 tk) ∧ W.cell? ⟨wr.heap.size, 4, none⟩ = some (.int .i64 tl) ∧ W.cell? ⟨wr.heap.size, 5, none⟩ = some (.int .i64 nn) ∧ W.cell? ⟨wr.heap.size, 6, none⟩ = some (.int .i64 mm) ∧ W.cell? ⟨wr.heap.size, 7, none⟩ = some (.slice ka kl kc) ∧ W.cell? ⟨wr.heap.size, 8, none⟩ = some (.int .i64 at'))) := fun W hW => by
                  obtain ⟨hcc, _⟩ := row_cells (nu_block hW HEbf.out)
                  exact ⟨hW, hcc 0, hcc 1, hcc 2, hcc 3, hcc 4, hcc 5, hcc 6, hcc 7, hcc 8⟩
                have HEW : Aside (∀ W : World, Nu xw9 W → IsExp (fun _ => True) W ⟨f, s1, nm, tk, tl, nn, mm, ka, kl, kc, at'⟩ t) := fun W hW => (HEx0.out.nu HKf.out).nu hW
                have HUaW : Aside (∀ W : World, Nu xw9 W → UL wr.heap.size W (.slice aa (told gUse t.pre).length ca) (told gUse t.pre)) := fun W hW => HUaf.out.nu hW
                have HUbW : Aside (∀ W : World, Nu xw9 W → UL wr.heap.size W (.slice ab (told gCall t.pre).length cb) (told gCall t.pre)) := fun W hW => HUbf.out.nu hW
                have hcn1 : (told gUse t.pre).length ≤ 20000 := told_le hcnt
                have hcn2 : (told gCall t.pre).length ≤ 20000 := told_le hcnt
                clear hcp hfp hlp hci hbn2 k1 k2 k3 k4 k5 k6 k7 k8 k9
                go_wp2
                go_region_held3 (fun W => Nu xw9 W ∧ W.cell? ⟨wr.heap.size, 0, none⟩ = some (.int .i64 f) ∧ W.cell? ⟨wr.heap.size, 1, none⟩ = some (.int .i64 s1) ∧ W.cell? ⟨wr.heap.size, 2, none⟩ = some (.string nm) ∧ W.cell? ⟨wr.heap.size, 3, none⟩ = some (.int .i64 tk) ∧ W.cell? ⟨wr.heap.size, 4, none⟩ = some (.int .i64 tl) ∧ W.cell? ⟨wr.heap.size, 5, none⟩ = some (.int .i64 nn) ∧ W.cell? ⟨wr.heap.size, 6, none⟩ = some (.int .i64 mm) ∧ W.cell? ⟨wr.heap.size, 7, none⟩ = some (.slice ka kl kc) ∧ W.cell? ⟨wr.heap.size, 8, none⟩ = some (.int .i64 at'))
                  (first | exact HKeep.out _ (Nu.refl _).drew | exact HKeep.out _ (by assumption))
                  (first
                    | (go_at_call 16; have hn6 := (‹Nu xw9 _ ∧ _›).1; refine (refUses_in t (fun _ => True) ⟨f, s1, nm, tk, tl, nn, mm, ka, kl, kc, at'⟩ _ (HEW.out _ hn6) hcnt).mono ?_; rintro _ w6 @⟨v6, _, hk6, hu6⟩; obtain ⟨a6, c6, rfl⟩ := hu6.form; have hm6 : Nu xw9 w6 := hn6.trans hk6)
                    | (go_at_call_of 15 (Value.slice aa (told gUse t.pre).length ca); refine (Same_in (HUaW.out _ hm6) hu6 hcn1).mono ?_; rintro _ w7 @⟨_, hk7⟩; have hm7 : Nu xw9 w7 := hm6.trans hk7)
                    | (go_at_call 17; have hn8 := (‹Nu xw9 _ ∧ _›).1; refine (refCalls_in t (fun _ => True) ⟨f, s1, nm, tk, tl, nn, mm, ka, kl, kc, at'⟩ _ (HEW.out _ hn8) hcnt).mono ?_; rintro _ w8 @⟨v8, _, hk8, hu8⟩; obtain ⟨a8, c8, rfl⟩ := hu8.form; have hm8 : Nu xw9 w8 := hn8.trans hk8)
                    | (go_at_call_of 15 (Value.slice ab (told gCall t.pre).length cb); refine (Same_in (HUbW.out _ hm8) hu8 hcn2).mono ?_; rintro _ w9 @⟨_, hk9⟩; have hm9 : Nu xw9 w9 := hm8.trans hk9)
                    | (go_at_call 18; have hn10 := (‹Nu xw9 _ ∧ _›).1; refine (Memory_in (fun _ => True) ⟨f, s1, nm, tk, tl, nn, mm, ka, kl, kc, at'⟩ t _ (HEW.out _ hn10) hcnt).mono ?_; rintro _ w10 @⟨_, hk10⟩; have hm10 : Nu xw9 w10 := hn10.trans hk10)
                    | (go_at_call 19; have hn11 := (‹Nu xw9 _ ∧ _›).1; refine (refMemory_in t (fun _ => True) ⟨f, s1, nm, tk, tl, nn, mm, ka, kl, kc, at'⟩ _ (HEW.out _ hn11) hcnt).mono ?_; rintro _ w11 @⟨_, hk11⟩; have hm11 : Nu xw9 w11 := hn11.trans hk11))
                go_wp2
                go_roundg (im - (k + 1))
                case measure => omega
                case rel => exact ⟨k + 1, by go_num, by omega, by omega, A2.out.trans (HKf.out.trans hm11)⟩
        · have hkg' : ¬ (k : Int) < im := by omega
          go_wp2
          go_roundg (pn - (i + 1))
          case measure => omega
          case rel => exact ⟨i + 1, by go_num, by omega, by omega, A3⟩
    · have hge' : ¬ (i : Int) < pn := by omega
      go_wp2
      go_ret
      exact .mk (H4.out.trans A.out)
end Go.Pa
