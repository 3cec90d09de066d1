/-
  decls, edges (own work).
-/
import Derived.Test.YtlonlfiaclacdaaPaM
import Derived.Test.YtlonlfiaclacdaaPaF
namespace Go.Pa
open Go Go.RowKit Go.Proofs

/-- A slice. -/
inductive SlV : Value → Prop
  | mk (a : Option Addr) (n c : Nat) : SlV (.slice a n c)

/-- In the loop of decls. -/
structure DsI (S : Src) (w : World) (x : St) (wr : World) (xc : St) (v : Value) (n : Nat) : Prop where
  g : Go1 S w x wr xc
  l : PL 82 5 w.heap.size wr n v
  b : n ≤ xc.at' + 1
  c : xc.e = 0 → n ≤ xc.at'
theorem DsI.step {S : Src} {w : World} {x : St} {wr w2 : World} {xc x2 : St} {v : Value} {n : Nat} (h : DsI S w x wr xc v n) (g : Go1 S wr xc w2 x2) (hp : S.pb < w.heap.size) : DsI S w x w2 x2 v n :=
  ⟨h.g.trans g, h.l.frame fun b hb hlt => g.kb.same b hlt (by omega), by have := h.b; have := g.le; omega, fun e => Nat.le_trans (h.c (er0 g e)) g.le⟩

set_option maxHeartbeats 8000000 in
set_option maxRecDepth 100000 in
theorem decls_in {S : Src} {w : World} {x : St} (hP : PS S w x) : Calls Try.prog 53 #[.pointer (some ⟨S.pb, 0, none⟩)] w (Ret S w x fun v _ _ => SlV v) := by
  have hpl := hP.plt
  have htl := hP.tlt
  go_enter Try.func53, Try.ntmps53
  go_wp2_with (fail)
  refine (decl_in (lo := w.heap.size) hP (PL.nil 82 5 _ _) (by omega) (fun _ => by omega) (Nat.le_refl _) hpl htl).mono ?_
  rintro _ w1 @⟨v1, _, x1, g1, @⟨n1, _, hl1, hb1, hc1⟩⟩
  obtain ⟨a1, cp1, rfl⟩ := hl1.form
  have A1 : Aside (DsI S w x w1 x1 (.slice a1 n1 cp1) n1) := ⟨(Go1.refl hP).transL g1, hl1, hb1, hc1⟩
  have hlt1 := g1.ps.lt
  clear g1 hl1 hb1 hc1
  go_wp2
  go_loopg [3, 4] (S.len) (fun kx s3 s4 wr => ∃ (xc : St) (n : Nat), S.len - xc.at' ≤ kx ∧ xc.at' < S.len ∧ Aside (DsI S w x wr xc s3 n))
  case atStart => exact ⟨x1, n1, by omega, hlt1, A1⟩
  case round =>
    clear A1
    obtain ⟨xc, n, hkx, hlt, A⟩ := hrel
    obtain ⟨a0, cp, rfl⟩ := A.out.l.form
    have c2 := A.out.g.ps.c2
    have hplr := A.out.g.ps.plt
    by_cases he : xc.e = 0
    case neg =>
      go_wp2
      go_ret
      exact .mk A.out.g (.mk _ _ _)
    case pos =>
      go_wp2_with (fail)
      refine (maybe_in A.out.g.ps _).mono ?_
      rintro _ w2 @⟨_, _, x2, g2, ⟨rfl, hat, hee⟩ | ⟨rfl, rfl⟩⟩
      · have A2 : Aside _ := A.out.step g2 hpl
        go_wp2_with (fail)
        refine (decl_in (lo := w.heap.size) A2.out.g.ps A2.out.l A2.out.b A2.out.c A2.out.g.kb.size hpl htl).mono ?_
        rintro _ w3 @⟨v3, _, x3, g3, @⟨n3, _, hl3, hb3, hc3⟩⟩
        obtain ⟨a3, cp3, rfl⟩ := hl3.form
        have A3 : Aside (DsI S w x w3 x3 (.slice a3 n3 cp3) n3) := ⟨A2.out.g.transL g3, hl3, hb3, hc3⟩
        have hle3 := g3.le
        have hlt3 := g3.ps.lt
        clear g3 hl3 hb3 hc3
        go_wp2
        go_roundg (S.len - x3.at')
        case measure => omega
        case rel => exact ⟨x3, n3, Nat.le_refl _, hlt3, A3⟩
      · have A2 : Aside _ := A.out.step g2 hpl
        go_wp2
        go_ret
        exact .mk A2.out.g (.mk _ _ _)

theorem info96 : (Try.prog.info? 96).map (fun i => (i.zero, i.size, i.bytes)) = some (some (.agg #[.string ⟨#[]⟩, .bool false]), 2, 24) := by kernel_rfl

/-- What edges hands back. -/
inductive EdgesV (lo : Nat) (w : World) (x : St) : Value → Prop
  | mk (n : Nat) {v : Value} (xs : List Value) (h : w.ownsRow lo 96 2 v n xs) (h1 : ∀ u ∈ xs, u.oneCell' = true) (hn : n ≤ 16) (hp : x.e = 0 → 1 ≤ n) : EdgesV lo w x v

/-- In the loop of edges. -/
structure EgI (S : Src) (w : World) (x : St) (wr : World) (xc : St) (v : Value) (n : Nat) (xs : List Value) : Prop where
  g : Go1 S w x wr xc
  l : wr.ownsRow w.heap.size 96 2 v n xs
  o : ∀ u ∈ xs, u.oneCell' = true
theorem EgI.step {S : Src} {w : World} {x : St} {wr w2 : World} {xc x2 : St} {v : Value} {n : Nat} {xs : List Value} (h : EgI S w x wr xc v n xs) (g : Go1 S wr xc w2 x2) (hp : S.pb < w.heap.size) : EgI S w x w2 x2 v n xs :=
  ⟨h.g.trans g, own_frame h.l fun b hb => g.kb.same b (World.ownsRow.lt h.l b hb).2 (by have := (World.ownsRow.lt h.l b hb).1; omega), h.o⟩

set_option maxHeartbeats 8000000 in
set_option maxRecDepth 100000 in
theorem edges_in {S : Src} {w : World} {x : St} (hP : PS S w x) : Calls Try.prog 66 #[.pointer (some ⟨S.pb, 0, none⟩)] w (Ret S w x fun v w' _ => EdgesV w.heap.size w' x v) := by
  have hpl := hP.plt
  have htl := hP.tlt
  have hlt0 := hP.lt
  have hcap := S.hlen
  obtain ⟨i0, hi, hz0, hz1, hz2⟩ := info_parts info96
  have A0 : Aside (EgI S w x w x (.slice none 0 0) 0 []) := ⟨Go1.refl hP, World.ownsRow_nil w _ 96 2, by simp⟩
  go_enter Try.func66, Try.ntmps66
  go_wp2
  go_loopg [3, 4, 5] (S.len) (fun kx s3 s4 s5 wr => ∃ (xc : St) (n : Nat) (xs : List Value), S.len - xc.at' ≤ kx ∧ xc.at' < S.len ∧ n < 16 ∧ (n = 0 → xc = x) ∧ Aside (EgI S w x wr xc s3 n xs))
  case atStart => exact ⟨x, 0, [], by omega, hlt0, by omega, fun _ => rfl, A0⟩
  case round =>
    clear A0
    obtain ⟨xc, n, xs, hkx, hlt, hn, hnx, A⟩ := hrel
    obtain ⟨a0, cp, rfl⟩ := own_form A.out.l
    have c2 := A.out.g.ps.c2
    have hplr := A.out.g.ps.plt
    by_cases he : xc.e = 0
    case neg =>
      have hne : x.e = 0 → 1 ≤ n := fun h => by
        rcases Nat.eq_zero_or_pos n with h0 | h0
        · rw [hnx h0] at he; exact absurd h he
        · exact h0
      have HN : Hid _ := hne
      clear hne hnx
      go_wp2
      go_ret
      exact .mk A.out.g (.mk n xs A.out.l A.out.o (by omega) HN.out)
    case pos =>
      clear hnx
      go_wp2_with (fail)
      refine (edge_in A.out.g.ps).mono ?_
      rintro _ w2 @⟨_, _, x2, g2, ⟨s2, b2⟩⟩
      have A2 : Aside _ := A.out.step g2 hpl
      have HX : Aside (w2.ownsRow w.heap.size 96 2 (.slice a0 n cp) n xs) := A2.out.l
      have hlb : w.heap.size ≤ w2.heap.size := A2.out.g.kb.size
      go_wp2_with (first | (at_builtin; refine wpList_append_lies _ rfl _ _ 80 rfl w.heap.size 96 i0 _ 2 24 Try.underlying80 hi hz0 hz1 hz2 rfl (by decide) _ n xs rfl (World.ownsRow.alloc HX.out _) ⟨w2.heap.size, 0, none⟩ 1 1 [.string s2, .bool b2] rfl rfl ?c1 ?c0 (by decide) ?c2 ?c3 ?c4 w2.heap.size.succ ?c5 ?_))
      case c0 => intro u hu; simp at hu; rcases hu with rfl | rfl <;> rfl
      case c1 => exact World.news_of_block (alloc_self w2 _)
      case c2 => unfold maxLen; omega
      case c3 => omega
      case c4 => simp; omega
      case c5 => simp
      intro gk cap w3 hown hgrow hat hlt3
      have A3 : Aside (EgI S w x w3 x2 (.slice (some ⟨gk, 0, none⟩) (n + 1) cap) (n + 1) (xs ++ [.string s2, .bool b2])) := by
        refine ⟨?_, hown, fun u hu => ?_⟩
        · exact (Go1.refl hP).transL ((((A2.out.g.toL (Nat.le_refl _)).alloc (Nat.le_refl _) _).grown (Nat.le_refl _) hpl htl hgrow fun z hz => (World.ownsRow.lt HX.out z hz).1))
        · rcases List.mem_append.1 hu with hu | hu
          · exact A2.out.o u hu
          · simp at hu
            rcases hu with rfl | rfl <;> rfl
      clear hown hgrow hat HX
      go_wp2_with (fail)
      refine (is_ex A3.out.g.ps _).mono ?_
      rintro _ w4 @⟨_, _, x4, g4, rfl, ⟨rfl, hb4, hb42⟩ | rfl⟩
      · have A4 : Aside _ := A3.out.step g4 hpl
        have hle2 := g2.le
        have c1 := A4.out.g.ps.c1
        have f1 := A4.out.g.ps.fz 1
        have hpl4 := A4.out.g.ps.plt
        have hp := A4.out.g.ps.set1 hb42
        rw [show ((x4.at' + 1 : Nat) : Int) = (x4.at' : Int) + 1 by omega] at hp
        have A5 : Aside _ := A4.out.step (w2 := w4.setCell ⟨S.pb, 1, none⟩ (.int .i64 ((x4.at' : Int) + 1))) ⟨hp, (KB.refl S w4).setCell (.inr rfl) _, by simp, by simp⟩ hpl
        clear hp
        go_wp2_with (fail)
        refine (full_in A5.out.g.ps _ _).mono ?_
        rintro _ w6 @⟨_, _, x6, g6, ⟨rfl, hee⟩ | ⟨rfl, hlm, rfl⟩⟩
        · have A6 : Aside _ := A5.out.step g6 hpl
          go_wp2
          go_ret
          exact .mk A6.out.g (.mk (n + 1) _ A6.out.l A6.out.o (by omega) (fun h => by omega))
        · have A6 : Aside _ := A5.out.step g6 hpl
          have hlt6 : x4.at' + 1 < S.len := hb42
          go_wp2
          go_roundg (S.len - (x4.at' + 1))
          case measure => omega
          case rel => exact ⟨_, n + 1, _, Nat.le_refl _, hlt6, by omega, fun h => absurd h (by omega), A6⟩
      · have A4 : Aside _ := A3.out.step g4 hpl
        go_wp2
        go_ret
        exact .mk A4.out.g (.mk (n + 1) _ A4.out.l A4.out.o (by omega) (fun h => by omega))
end Go.Pa

namespace Go.Pa
open Go Go.RowKit Go.Proofs

set_option maxHeartbeats 16000000 in
set_option maxRecDepth 100000 in
theorem locals_in {S : Src} {w : World} {x : St} (hP : PS S w x) : Calls Try.prog 55 #[.pointer (some ⟨S.pb, 0, none⟩)] w (Ret S w x fun v _ _ => SlV v) := by
  have hpl := hP.plt
  have htl := hP.tlt
  have hlt0 := hP.lt
  have hcap := S.hlen
  have hf0 := field86_0
  obtain ⟨i0, hi, hz0, hz1, hz2⟩ := info_parts info96
  have A0 : Aside (DsI S w x w x (.slice none 0 0) 0) := ⟨Go1.refl hP, PL.nil 82 5 _ _, by omega, fun _ => by omega⟩
  go_enter Try.func55, Try.ntmps55
  go_wp2
  go_loopg [3, 4, 5, 6, 7] (S.len) (fun kx s3 s4 s5 s6 s7 wr => ∃ (xc : St) (n : Nat), S.len - xc.at' ≤ kx ∧ xc.at' < S.len ∧ Aside (DsI S w x wr xc s3 n))
  case atStart => exact ⟨x, 0, by omega, hlt0, A0⟩
  case round =>
    clear A0
    obtain ⟨xc, n, hkx, hlt, A⟩ := hrel
    obtain ⟨a0, cp, rfl⟩ := A.out.l.form
    have c2 := A.out.g.ps.c2
    have hplr := A.out.g.ps.plt
    by_cases he : xc.e = 0
    case neg =>
      go_wp2
      go_ret
      exact .mk A.out.g (.mk _ _ _)
    case pos =>
      go_wp2_with (fail)
      refine (decl_in (lo := w.heap.size) A.out.g.ps A.out.l A.out.b A.out.c A.out.g.kb.size hpl htl).mono ?_
      rintro _ w3 @⟨v3, _, x3, g3, @⟨n3, _, hl3, hb3, hc3⟩⟩
      obtain ⟨a3, cp3, rfl⟩ := hl3.form
      have A3 : Aside (DsI S w x w3 x3 (.slice a3 n3 cp3) n3) := ⟨A.out.g.transL g3, hl3, hb3, hc3⟩
      have hle3 := g3.le
      clear g3 hl3 hb3 hc3
      go_wp2_with (fail)
      refine (maybe_in A3.out.g.ps _).mono ?_
      rintro _ w4 @⟨_, _, x4, g4, ⟨rfl, hat, hee⟩ | ⟨rfl, rfl⟩⟩
      · have A4 : Aside _ := A3.out.step g4 hpl
        go_wp2_with (fail)
        refine (edges_in A4.out.g.ps).mono ?_
        rintro _ w5 @⟨_, _, x5, g5, @⟨m, _, xs, hx, ho, hm, hmp⟩⟩
        obtain ⟨ac, cc, rfl⟩ := own_form hx
        have hm1 := hmp hee
        obtain ⟨gc, cc2, hv, hgc, _⟩ := hx.form (by omega)
        obtain ⟨rfl, rfl⟩ : ac = some ⟨gc, 0, none⟩ ∧ cc = cc2 := by injection hv with h1 h2 h3; exact ⟨h1, h3⟩
        have hle5 := g5.le
        have hlt5 := g5.ps.lt
        have hn3 : n3 ≤ 20001 := by have := A3.out.b; have := A3.out.g.ps.lt; omega
        have hob : Aside (∀ z, (Value.slice a3 n3 cp3).ownBlock = some z → w.heap.size ≤ z ∧ z < w4.heap.size) := fun z hz => by obtain ⟨ys, hys⟩ := A4.out.l.own; exact hys.lt z hz
        have A5 : Aside _ := A4.out.step g5 hpl
        have HX : Aside (w5.ownsRow w4.heap.size 96 2 (.slice (some ⟨gc, 0, none⟩) m cc) m xs) := hx
        have HO : Aside _ := ho
        have hl4 : w.heap.size ≤ w4.heap.size := A4.out.g.kb.size
        clear hv hx ho hmp
        go_wp2
        go_loopg [7] (n3) (fun kx s7 wr => ∃ i : Nat, s7 = .int .i64 (i : Int) ∧ n3 - i ≤ kx ∧ Aside (DsI S w x wr x5 (.slice a3 n3 cp3) n3 ∧ wr.ownsRow w4.heap.size 96 2 (.slice (some ⟨gc, 0, none⟩) m cc) m xs))
        case atStart => exact ⟨n, rfl, by omega, A5.out, HX.out⟩
        case round =>
          clear A5 HX
          obtain ⟨i, rfl, hki, B⟩ := hrel
          by_cases hin : i < n3
          · obtain ⟨ys, hys⟩ := B.out.1.l.own
            obtain ⟨gk, cap, hv, hgb, hglt⟩ := hys.form (by omega)
            obtain ⟨rfl, rfl⟩ : a3 = some ⟨gk, 0, none⟩ ∧ cp3 = cap := by injection hv with h1 h2 h3; exact ⟨h1, h3⟩
            have HY : Aside (wr.ownsRow w.heap.size 82 5 (.slice (some ⟨gk, 0, none⟩) n3 cp3) n3 ys) := hys
            have hgk := (hob.out gk rfl).2
            have hin' : (i : Int) < n3 := by omega
            have hlb : w4.heap.size ≤ wr.heap.size := Nat.le_of_lt (Nat.lt_of_le_of_lt hgc (World.ownsRow.lt B.out.2 gc rfl).2)
            clear hv hys
            go_wp2_with (first | (at_builtin; refine wpList_append_lies _ rfl _ _ 80 rfl wr.heap.size 96 i0 _ 2 24 Try.underlying80 hi hz0 hz1 hz2 rfl (by decide) _ 0 [] rfl (World.ownsRow_nil wr wr.heap.size 96 2) ⟨gc, 0, none⟩ m cc xs rfl B.out.2.1 (World.ownsRow.cells (g := gc) B.out.2 rfl) HO.out (by omega) ?c2 ?c3 (Nat.le_refl _) wr.heap.size rfl ?_))
            case c2 => unfold maxLen; omega
            case c3 => omega
            intro gn capn w6 hown hgrow hat hlt6
            have hsame : ∀ k, k < wr.heap.size → w6.heap[k]? = wr.heap[k]? := fun k hk => hgrow.block k hk (by simp [Value.ownBlock])
            have hG6 : Go1 S wr x5 w6 x5 := ⟨B.out.1.g.ps.of_same (hsame _ B.out.1.g.ps.plt) (hsame _ B.out.1.g.ps.tlt), ⟨hgrow.os, hgrow.output, hgrow.size, fun k hk _ => hsame k hk⟩, Nat.le_refl _, id⟩
            have B6 : Aside _ := B.out.1.step hG6 hpl
            have HY6 : Aside (w6.ownsRow w.heap.size 82 5 (.slice (some ⟨gk, 0, none⟩) n3 cp3) n3 ys) := own_frame HY.out fun b hb => hsame b (World.ownsRow.lt HY.out b hb).2
            have HC6 : Aside (w6.ownsRow w4.heap.size 96 2 (.slice (some ⟨gc, 0, none⟩) m cc) m xs) := own_frame B.out.2 fun b hb => hsame b (World.ownsRow.lt B.out.2 b hb).2
            have hcell := own_cell HY6.out (g := gk) rfl
            obtain ⟨v3, hc3⟩ := (hcell (i * 5 + 3) (by omega)).1
            have hf3 := (hcell (i * 5 + 3) (by omega)).2
            have B7 : Aside (DsI S w x (w6.setCell ⟨gk, i * 5 + 3, none⟩ (.slice (some ⟨gn, 0, none⟩) m capn)) x5 (.slice (some ⟨gk, 0, none⟩) n3 cp3) n3 ∧ (w6.setCell ⟨gk, i * 5 + 3, none⟩ (.slice (some ⟨gn, 0, none⟩) m capn)).ownsRow w4.heap.size 96 2 (.slice (some ⟨gc, 0, none⟩) m cc) m xs) :=
              ⟨⟨(Go1.refl hP).transL ((B6.out.g.toL (Nat.le_refl _)).set hgb hpl htl _), .mk _ _ (own_store HY6.out rfl _ _), B6.out.b, B6.out.c⟩, own_frame HC6.out fun b hb => Below.heap_setCell _ _ _ _ (fun e => by have h1 := (World.ownsRow.lt HC6.out b hb).1; have e' : b = gk := e; omega)⟩
            clear hown hgrow hat hsame hG6 hcell
            try simp only [Nat.zero_add]
            go_wp2
            go_roundg (n3 - (i + 1))
            case measure => omega
            case rel => exact ⟨i + 1, by go_num, by omega, B7⟩
          · have hin' : ¬ (i : Int) < n3 := by omega
            have B1 : Aside _ := B.out.1
            go_wp2_with (fail)
            refine (take_in B1.out.g.ps _).mono ?_
            rintro _ w8 @⟨_, _, x8, g8, rfl, hpr8⟩
            have A8 : Aside _ := B1.out.step g8 hpl
            have hle8 := g8.le
            have hlt8 := g8.ps.lt
            have c28 := g8.ps.c2
            have hpl8 := g8.ps.plt
            by_cases he8 : x8.e = 0
            · have hprog := hpr8 he8
              clear hpr8
              go_wp2_with (fail)
              refine (tok_ex A8.out.g.ps).mono ?_
              rintro e w9 ⟨⟨t9, rfl⟩, h9, k9⟩
              dsimp only [Tk.val]
              have A9 : Aside _ := A8.out.step ⟨h9, k9, Nat.le_refl _, id⟩ hpl
              by_cases hk9 : t9.k = 1
              · go_wp2
                go_roundg (S.len - x8.at')
                case measure => omega
                case rel => exact ⟨x8, _, Nat.le_refl _, hlt8, A9⟩
              · go_wp2
                go_ret
                exact .mk A9.out.g (.mk _ _ _)
            · go_wp2
              go_ret
              exact .mk A8.out.g (.mk _ _ _)
      · have A4 : Aside _ := A3.out.step g4 hpl
        go_wp2_with (fail)
        refine (take_in A4.out.g.ps _).mono ?_
        rintro _ w8 @⟨_, _, x8, g8, rfl, hpr8⟩
        have A8 : Aside _ := A4.out.step g8 hpl
        have hle8 := g8.le
        have hlt8 := g8.ps.lt
        have c28 := g8.ps.c2
        have hpl8 := g8.ps.plt
        by_cases he8 : x8.e = 0
        · have hprog := hpr8 he8
          clear hpr8
          go_wp2_with (fail)
          refine (tok_ex A8.out.g.ps).mono ?_
          rintro e w9 ⟨⟨t9, rfl⟩, h9, k9⟩
          dsimp only [Tk.val]
          have A9 : Aside _ := A8.out.step ⟨h9, k9, Nat.le_refl _, id⟩ hpl
          by_cases hk9 : t9.k = 1
          · go_wp2
            go_roundg (S.len - x8.at')
            case measure => omega
            case rel => exact ⟨x8, _, Nat.le_refl _, hlt8, A9⟩
          · go_wp2
            go_ret
            exact .mk A9.out.g (.mk _ _ _)
        · go_wp2
          go_ret
          exact .mk A8.out.g (.mk _ _ _)
end Go.Pa
