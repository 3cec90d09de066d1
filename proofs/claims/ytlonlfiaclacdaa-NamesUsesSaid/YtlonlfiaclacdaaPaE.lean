/-
  exps, call (own work).
-/
import Derived.Test.YtlonlfiaclacdaaPaD
import Derived.OwnWalk
namespace Go.Pa
open Go Go.RowKit Go.Proofs

theorem info45 : (Try.prog.info? 45).map (fun i => (i.zero, i.size, i.bytes)) = some (some (.agg zrow), 9, 96) := by kernel_rfl

/-- exps, behind no others. -/
def CKids (k : Nat) : Prop := ∀ (S : Src) (w : World) (x : St), PS S w x → S.len - x.at' ≤ k →
  Calls Try.prog 94 #[.pointer (some ⟨S.pb, 0, none⟩), .int .i64 0] w (Ret S w x fun v w' x' => KidsP w.heap.size w' x x' v)

theorem er_one (p : ER) : ∀ u ∈ p.row.toList, u.oneCell' = true := by
  intro u hu
  simp [ER.row] at hu
  rcases hu with rfl | rfl | rfl | rfl | rfl | rfl | rfl | rfl | rfl <;> rfl

/-- In the loop of exps. -/
structure ExI (S : Src) (w : World) (x : St) (wr : World) (xc : St) (v : Value) (m : Nat) (ps : Nat → ER) (ts : Nat → Tree) : Prop where
  g : Go1 S w x wr xc
  pr : xc.e = 0 → x.at' + sumN (fun i => (ts i).cnt) m ≤ xc.at'
  o : KidsO w.heap.size wr v m ps ts
theorem ExI.kb {S : Src} {w : World} {x : St} {wr w2 : World} {xc x2 : St} {v : Value} {m : Nat} {ps : Nat → ER} {ts : Nat → Tree} (h : ExI S w x wr xc v m ps ts) (g : Go1 S wr xc w2 x2) (hpb : S.pb < w.heap.size) : ExI S w x w2 x2 v m ps ts :=
  ⟨h.g.trans g, fun e => Nat.le_trans (h.pr (er0 g e)) g.le, h.o.frame g.kb.size fun b hb hl => g.kb.same b hl (by omega)⟩

/-- One more has been read and appended. -/
theorem ExI.push {S : Src} {w : World} {x : St} {w2 w3 w4 : World} {x2 x3 : St} {a0 : Option Addr} {cp m : Nat} {ps : Nat → ER} {ts : Nat → Tree} (h2 : ExI S w x w2 x2 (.slice a0 m cp) m ps ts) (g3 : Go1 S w2 x2 w3 x3) (hpb : S.pb < w.heap.size) (htb : S.tb < w.heap.size)
    {p : ER} {t : Tree} (hE : IsExp (w2.heap.size ≤ ·) w3 p t) (hpr : x3.e = 0 → x2.at' + t.cnt ≤ x3.at') {g cap : Nat}
    (hown : w4.ownsRow w.heap.size 45 9 (.slice (some ⟨g, 0, none⟩) (m + 1) cap) (m + 1) (rowsOf ps m ++ p.row.toList)) (hgr : (w3.alloc (.cells p.row 45)).grownBy w4 (Value.slice a0 m cp).ownBlock)
    (hat : (Value.slice a0 m cp).ownBlock = some g ∨ g = w3.heap.size.succ) :
    ExI S w x w4 x3 (.slice (some ⟨g, 0, none⟩) (m + 1) cap) (m + 1) (fun i => if i = m then p else ps i) (fun i => if i = m then t else ts i) := by
  have h3 := h2.kb g3 hpb
  have hlo2 := h2.g.kb.size
  have hs3 := g3.kb.size
  have hob : ∀ b, (Value.slice a0 m cp).ownBlock = some b → w.heap.size ≤ b ∧ b < w2.heap.size := fun b hb => h2.o.own.lt b hb
  have hob' : ∀ b, some b = (Value.slice a0 m cp).ownBlock → w.heap.size ≤ b ∧ b < w2.heap.size := fun b hb => h2.o.own.lt b hb.symm
  have hK : KidsO w.heap.size (w3.alloc (.cells p.row 45)) (.slice a0 m cp) m ps ts := h3.o.frame (by simp) fun b _ hl => Below.heap_alloc _ _ _ hl
  have hk : KB S w w4 := ⟨hgr.os.trans h3.g.kb.os, hgr.output.trans h3.g.kb.output, Nat.le_trans h3.g.kb.size (Nat.le_trans (by simp) hgr.size), fun b hb hn =>
    (hgr.block b (by simp; omega) (fun e => by have := hob' b e; omega)).trans ((Below.heap_alloc _ _ _ (by omega)).trans (h3.g.kb.same b hb hn))⟩
  refine ⟨⟨?_, hk, h3.g.le, h3.g.er⟩, fun h => ?_, hK.push ?_ hown hgr (by simpa using hat)⟩
  · exact h3.g.ps.of_same ((hgr.block _ (by simp; omega) (fun e => by have := hob' _ e; omega)).trans (Below.heap_alloc _ _ _ (by omega))) ((hgr.block _ (by simp; omega) (fun e => by have := hob' _ e; omega)).trans (Below.heap_alloc _ _ _ (by omega)))
  · rw [sumN_push]
    have := h2.pr (er0 g3 h)
    have := hpr h
    omega
  · exact (hE.bound.alloc _).mono fun b hb => ⟨by have := hb.1; omega, by simp; omega, fun e => by have := hob' _ e; have := hb.1; omega⟩

set_option maxHeartbeats 8000000 in
set_option maxRecDepth 100000 in
theorem exps_in {k : Nat} (he : ∀ j, j ≤ k → CExp 80 j) : CKids k := by
  intro S w x hP hk
  have hpl := hP.plt
  have htl := hP.tlt
  have hxl := hP.lt
  obtain ⟨i0, hi, hz0, hz1, hz2⟩ := info_parts info45
  have HE : Hid _ := he
  clear he
  have HI : Aside (ExI S w x w x (.slice none 0 0) 0 (fun _ => ER.zero) (fun _ => .none)) := ⟨Go1.refl hP, fun _ => Nat.le_refl _, KidsO.nil _ _ _ _⟩
  go_enter Try.func94, Try.ntmps94
  go_wp2
  go_loopg [5, 6, 7] (S.len) (fun kx s5 s6 s7 wr => ∃ (xc : St) (m : Nat) (ps : Nat → ER) (ts : Nat → Tree), S.len - xc.at' ≤ kx ∧ xc.at' < S.len ∧ x.at' ≤ xc.at' ∧ m ≤ 16 ∧ Aside (ExI S w x wr xc s5 m ps ts))
  case atStart => exact ⟨x, 0, _, _, by omega, hxl, Nat.le_refl _, by omega, HI⟩
  case round =>
    obtain ⟨xc, m, ps, ts, hkx, hlt, hle, hm, A⟩ := hrel
    have c2 := A.out.g.ps.c2
    have hplr := A.out.g.ps.plt
    obtain ⟨a0, cp, rfl⟩ := own_form A.out.o.own
    by_cases he : xc.e = 0
    case neg =>
      go_wp2
      go_ret
      exact .mk A.out.g (.mk _ m ps ts A.out.o hm A.out.pr)
    case pos =>
      go_wp2_with (fail)
      refine (full_in A.out.g.ps _ _).mono ?_
      rintro _ w2 @⟨_, _, x2, g2, ⟨rfl, hee⟩ | ⟨rfl, hlm, rfl⟩⟩
      · have A2 : Aside _ := A.out.kb g2 hpl
        go_wp2
        go_ret
        exact .mk A2.out.g (.mk _ m ps ts A2.out.o hm A2.out.pr)
      · have A2 : Aside _ := A.out.kb g2 hpl
        have hm16 : m < 16 := by omega
        clear hlm
        go_wp2_with (fail)
        refine (HE.out (S.len - x2.at') (by omega) S _ _ g2.ps (Nat.le_refl _)).mono ?_
        rintro _ w3 @⟨_, _, x3, g3, ⟨p, t, hE, hpr⟩⟩
        have A3 : Aside _ := A2.out.kb g3 hpl
        have HF : Aside _ := (⟨hE, hpr⟩ : _ ∧ _)
        clear hE hpr
        simp only [ER.row]
        go_wp2_with (first | (at_builtin; refine wpList_append_lies _ rfl _ _ 43 rfl w.heap.size 45 i0 _ 9 96 Try.underlying43 hi hz0 hz1 hz2 rfl (by decide) _ m (rowsOf ps m) rfl (A3.out.o.own.alloc _) ⟨w3.heap.size, 0, none⟩ 1 1 (ER.row p).toList rfl rfl ?c1 (er_one p) (by decide) ?c2 ?c3 ?c4 w3.heap.size.succ ?c5 ?_))
        case c1 => exact World.news_of_block (alloc_self w3 _)
        case c2 => unfold maxLen; omega
        case c3 => omega
        case c4 => have := A3.out.g.kb.size; simp; omega
        case c5 => simp
        intro g cap w4 hown hgrow hat hlt4
        have A4 : Aside _ := A2.out.push g3 hpl htl HF.out.1 HF.out.2 hown hgrow hat
        clear hown hgrow hat
        have hle3 := g3.le
        go_wp2_with (fail)
        refine (maybe_in A4.out.g.ps _).mono ?_
        rintro _ w5 @⟨_, _, x5, g5, ⟨rfl, hat, hee⟩ | ⟨rfl, rfl⟩⟩
        · have A5 : Aside _ := A4.out.kb g5 hpl
          have hlt5 := g5.ps.lt
          go_wp2
          go_roundg (S.len - x5.at')
          case measure => omega
          case rel => exact ⟨x5, m + 1, _, _, Nat.le_refl _, hlt5, by omega, by omega, A5⟩
        · have A5 : Aside _ := A4.out.kb g5 hpl
          go_wp2
          go_ret
          exact .mk A5.out.g (.mk _ (m + 1) _ _ A5.out.o (by omega) A5.out.pr)

set_option maxHeartbeats 4000000 in
set_option maxRecDepth 100000 in
/-- call: a list in brackets. -/
theorem call_in {k : Nat} (he : CKids k) (S : Src) (w : World) (x : St) (hP : PS S w x) (hk : S.len - x.at' ≤ k) :
    Calls Try.prog 93 #[.pointer (some ⟨S.pb, 0, none⟩)] w (Ret S w x fun v w' x' => KidsP w.heap.size w' x x' v) := by
  have hpl := hP.plt
  have hxl := hP.lt
  have HE : Hid _ := he
  clear he
  go_enter Try.func93, Try.ntmps93
  go_wp2_with (fail)
  refine (take_in hP _).mono ?_
  rintro _ w1 @⟨_, _, x1, g1, rfl, hpr1⟩
  have hl1 := g1.le
  have hx1 := g1.ps.lt
  go_wp2_with (fail)
  refine (is_ex g1.ps _).mono ?_
  rintro _ w2 @⟨_, _, x2, g2, rfl, ⟨rfl, hb, hb2⟩ | rfl⟩
  · go_wp2_with (fail)
    refine (take_in g2.ps _).mono ?_
    rintro _ w3 @⟨_, _, x3, g3, rfl, _⟩
    go_wp2
    go_ret
    exact .mk ((g1.trans g2).trans g3) (.mk _ 0 (fun _ => ER.zero) (fun _ => .none) (KidsO.nil _ _ _ _) (by omega) (fun _ => by have := g3.le; simp [sumN]; omega))
  · go_wp2_with (fail)
    refine (HE.out S _ _ g2.ps (by omega)).mono ?_
    rintro _ w3 @⟨_, _, x3, g3, ⟨m, ps, ts, hK, hm, hc⟩⟩
    obtain ⟨a0, cp, rfl⟩ := own_form hK.own
    go_wp2_with (fail)
    refine (take_in g3.ps _).mono ?_
    rintro _ w4 @⟨_, _, x4, g4, rfl, _⟩
    go_wp2
    go_ret
    have hz2 := (g1.trans g2).kb.size
    have hpl2 := (g1.trans g2).ps.plt
    exact .mk (((g1.trans g2).trans g3).trans g4) (.mk _ m ps ts ((hK.frame g4.kb.size fun b hb hl => g4.kb.same b hl (by omega)).mono hz2) hm (fun h => by have := hc (er0 g4 h); have := g4.le; omega))
end Go.Pa
