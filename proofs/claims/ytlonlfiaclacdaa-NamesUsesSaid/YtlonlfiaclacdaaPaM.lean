/-
  decl (own work).
-/
import Derived.Test.YtlonlfiaclacdaaPaL
namespace Go.Pa
open Go Go.RowKit Go.Proofs

theorem own_cell {w : World} {lo : Nat} {e : TypeId} {size : Nat} {v : Value} {n : Nat} {xs : List Value} (h : w.ownsRow lo e size v n xs) {g : Nat} (hg : v.ownBlock = some g) (j : Nat) (hj : j < n * size) : (∃ u, w.cell? ⟨g, j, none⟩ = some u) ∧ w.frozen? ⟨g, j, none⟩ = false := by
  rcases h.2 with ⟨rfl, _⟩ | ⟨g', cap, cur, rfl, hb, hgg, h1, h2, h3, h4⟩
  · cases hg
  · cases hg
    have hjs : j < cur.size := by rw [h3]; exact Nat.lt_of_lt_of_le hj (Nat.mul_le_mul_right _ h1)
    exact ⟨⟨cur[j], by rw [cell_of_row _ _ _ _ _ _ hgg]; exact Array.getElem?_eq_getElem hjs⟩, frozen_of_row _ _ _ _ _ hgg⟩
theorem PL.frame' {e : TypeId} {sz lo : Nat} {w w' : World} {n : Nat} {v : Value} (h : PL e sz lo w n v) (hs : ∀ b, v.ownBlock = some b → w'.heap[b]? = w.heap[b]?) : PL e sz lo w' n v := by
  obtain ⟨xs, h⟩ := h
  exact .mk v xs (own_frame h hs)
theorem Go1.new {S : Src} {w : World} {x : St} (h : PS S w x) (o : Obj) : Go1 S w x (w.alloc o) x := ⟨h.alloc o, (KB.refl S w).alloc o, Nat.le_refl _, id⟩

theorem tok_ex {S : Src} {w : World} {x : St} (h : PS S w x) :
    Calls Try.prog 37 #[.pointer (some ⟨S.pb, 0, none⟩)] w fun e w' => (∃ t : Tk, e = .returned t.val) ∧ PS S w' x ∧ KB S w w' := (tok_in h).mono fun _ _ ⟨h1, h2⟩ => ⟨⟨_, h1⟩, h2⟩
/-- What decl hands back. -/
inductive DeclV (lo : Nat) (w : World) (x : St) : Value → Prop
  | mk (n : Nat) {v : Value} (h : PL 82 5 lo w n v) (hb : n ≤ x.at' + 1) (hc : x.e = 0 → n ≤ x.at') : DeclV lo w x v

set_option maxHeartbeats 16000000 in
set_option maxRecDepth 100000 in
theorem decl_in {lo : Nat} {S : Src} {w : World} {x : St} {v : Value} {n0 : Nat} (hP : PS S w x) (hL : PL 82 5 lo w n0 v) (hb : n0 ≤ x.at' + 1) (hc : x.e = 0 → n0 ≤ x.at') (hl : lo ≤ w.heap.size) (hp : S.pb < lo) (ht : S.tb < lo) :
    Calls Try.prog 65 #[.pointer (some ⟨S.pb, 0, none⟩), v] w (RetL lo S w x fun v' w' x' => DeclV lo w' x' v') := by
  obtain ⟨i0, hi, hz0, hz1, hz2⟩ := info_parts info82
  have A0 : Aside (DcI lo S w x w x v n0) := ⟨⟨hP, ⟨rfl, rfl, Nat.le_refl _, fun _ _ _ => rfl⟩, Nat.le_refl _, id⟩, hL, hb, hc⟩
  have hlt0 := hP.lt
  have hcap := S.hlen
  have hf0 := field86_0
  have hf4 := field86_4
  obtain ⟨a0, cp, rfl⟩ := hL.form
  clear hP hL hb hc
  go_enter Try.func65, Try.ntmps65
  go_wp2
  go_loopg [1, 6, 7, 8, 9] (S.len) (fun kx s1 s6 s7 s8 s9 wr => ∃ (xc : St) (n : Nat), S.len - xc.at' ≤ kx ∧ xc.at' < S.len ∧ Aside (DcI lo S w x wr xc s1 n))
  case atStart => exact ⟨x, n0, by omega, hlt0, A0⟩
  case round =>
    clear A0
    obtain ⟨xc, n, hkx, hlt, A⟩ := hrel
    obtain ⟨a0, cp, rfl⟩ := A.out.l.form
    have c2 := A.out.g.ps.c2
    have hplr := A.out.g.ps.plt
    by_cases he : xc.e = 0
    case neg =>
      go_wp2_with (fail)
      refine (take_in A.out.g.ps _).mono ?_
      rintro _ wa @⟨_, _, xa, ga, rfl, _⟩
      have Aa : Aside _ := A.out.step ga hl hp
      go_wp2_with (fail)
      refine (kind_in Aa.out.g.ps).mono ?_
      rintro _ wb @⟨_, _, xb, gb, ⟨kd, rfl⟩, _⟩
      have Ab : Aside _ := Aa.out.step gb hl hp
      have Ac : Aside _ := Ab.out.step (Go1.new Ab.out.g.ps (.cells #[.int .i64 kd, .int .i64 0] 42)) hl hp
      have hbo : Aside (∀ z, (Value.slice a0 n cp).ownBlock = some z → z < wb.heap.size) := fun z hz => by obtain ⟨ys, hys⟩ := Ab.out.l.own; exact (hys.lt z hz).2
      have hlb : lo ≤ wb.heap.size := Nat.le_trans hl Ab.out.g.kb.size
      go_wp2_with (fail)
      refine (maybe_in Ac.out.g.ps _).mono ?_
      rintro _ wc @⟨_, _, xc2, gc, hbb⟩
      obtain ⟨b1, rfl⟩ : ∃ b, _ = Value.bool b := by rcases hbb with ⟨hb, _⟩ | ⟨hb, _⟩ <;> exact ⟨_, hb⟩
      clear hbb
      have Ad : Aside _ := Ac.out.step gc hl hp
      have hT := gc.kb.block (alloc_self wb (.cells #[.int .i64 kd, .int .i64 0] 42)) (by omega)
      cases b1
      · go_wp2
        obtain ⟨xs2, hxs2⟩ := Ad.out.l.own
        go_loopg [12] (n) (fun kx s12 wr => ∃ i : Nat, s12 = .int .i64 (i : Int) ∧ n - i ≤ kx ∧ Aside (DcI lo S w x wr xc2 (.slice a0 n cp) n ∧ wr.heap[wb.heap.size]? = some (.cells #[.int .i64 kd, .int .i64 0] 42 (0, 0))))
        case atStart => exact ⟨n0, rfl, by omega, Ad.out, hT⟩
        case round =>
          obtain ⟨i, rfl, hki, B⟩ := hrel
          obtain ⟨htc, htf⟩ := row_cells B.out.2
          have hn2 : n ≤ 20001 := by have := B.out.1.b; have := B.out.1.g.ps.lt; omega
          by_cases hin : i < n
          · obtain ⟨xs, hxs⟩ := B.out.1.l.own
            obtain ⟨gk, cap, hv, hgb, hglt⟩ := hxs.form (by omega)
            obtain ⟨rfl, rfl⟩ : a0 = some ⟨gk, 0, none⟩ ∧ cp = cap := by injection hv with h1 h2 h3; exact ⟨h1, h3⟩
            have hcell := own_cell hxs (g := gk) rfl
            obtain ⟨v1, hc1⟩ := (hcell (i * 5 + 1) (by omega)).1
            obtain ⟨v2, hc2⟩ := (hcell (i * 5 + 2) (by omega)).1
            have hf1 := (hcell (i * 5 + 1) (by omega)).2
            have hf2 := (hcell (i * 5 + 2) (by omega)).2
            have hin' : (i : Int) < n := by omega
            have hne : wb.heap.size ≠ gk := fun e => by have := hbo.out gk rfl; omega
            have B2 : Aside (DcI lo S w x ((wr.setCell ⟨gk, i * 5 + 1, none⟩ (.int .i64 kd)).setCell ⟨gk, i * 5 + 2, none⟩ (.int .i64 0)) xc2 (.slice (some ⟨gk, 0, none⟩) n cp) n ∧ ((wr.setCell ⟨gk, i * 5 + 1, none⟩ (.int .i64 kd)).setCell ⟨gk, i * 5 + 2, none⟩ (.int .i64 0)).heap[wb.heap.size]? = some (.cells #[.int .i64 kd, .int .i64 0] 42 (0, 0))) :=
              ⟨⟨(B.out.1.g.set hgb hp ht _).set hgb hp ht _, .mk _ _ (own_store (own_store hxs rfl _ _) rfl _ _), B.out.1.b, B.out.1.c⟩, (Below.heap_setCell _ _ _ _ hne).trans ((Below.heap_setCell _ _ _ _ hne).trans B.out.2)⟩
            clear hxs hcell hv
            go_wp2
            go_roundg (n - (i + 1))
            case measure => omega
            case rel => exact ⟨i + 1, by go_num, by omega, B2⟩
          · have hin' : ¬ (i : Int) < n := by omega
            go_wp2
            go_ret
            exact .mk B.out.1.g (.mk n B.out.1.l B.out.1.b B.out.1.c)
      · go_wp2_with (fail)
        refine (size_in Ad.out.g.ps).mono ?_
        rintro _ wd @⟨_, _, xd, gd, ⟨ln, rfl⟩, _⟩
        have hTd := gd.kb.block hT (by omega)
        have Ae : Aside _ := Ad.out.step gd hl hp
        obtain ⟨htc, htf⟩ := row_cells hTd
        have htl := lt_of_block hTd
        have hTe : (wd.setCell ⟨wb.heap.size, 1, none⟩ (.int .i64 ln)).heap[wb.heap.size]? = some (.cells #[.int .i64 kd, .int .i64 ln] 42 (0, 0)) := heap_setCell_self hTd _
        have Af : Aside (DcI lo S w x (wd.setCell ⟨wb.heap.size, 1, none⟩ (.int .i64 ln)) xd (.slice a0 n cp) n) := ⟨Ae.out.g.set (by exact hlb) hp ht _, Ae.out.l.frame' fun z hz => Below.heap_setCell _ _ _ _ (fun e => by have := hbo.out z hz; have e' : z = wb.heap.size := e; omega), Ae.out.b, Ae.out.c⟩
        go_wp2
        obtain ⟨xs2, hxs2⟩ := Af.out.l.own
        go_loopg [12] (n) (fun kx s12 wr => ∃ i : Nat, s12 = .int .i64 (i : Int) ∧ n - i ≤ kx ∧ Aside (DcI lo S w x wr xd (.slice a0 n cp) n ∧ wr.heap[wb.heap.size]? = some (.cells #[.int .i64 kd, .int .i64 ln] 42 (0, 0))))
        case atStart => exact ⟨n0, rfl, by omega, Af.out, hTe⟩
        case round =>
          obtain ⟨i, rfl, hki, B⟩ := hrel
          obtain ⟨htc, htf⟩ := row_cells B.out.2
          have hn2 : n ≤ 20001 := by have := B.out.1.b; have := B.out.1.g.ps.lt; omega
          by_cases hin : i < n
          · obtain ⟨xs, hxs⟩ := B.out.1.l.own
            obtain ⟨gk, cap, hv, hgb, hglt⟩ := hxs.form (by omega)
            obtain ⟨rfl, rfl⟩ : a0 = some ⟨gk, 0, none⟩ ∧ cp = cap := by injection hv with h1 h2 h3; exact ⟨h1, h3⟩
            have hcell := own_cell hxs (g := gk) rfl
            obtain ⟨v1, hc1⟩ := (hcell (i * 5 + 1) (by omega)).1
            obtain ⟨v2, hc2⟩ := (hcell (i * 5 + 2) (by omega)).1
            have hf1 := (hcell (i * 5 + 1) (by omega)).2
            have hf2 := (hcell (i * 5 + 2) (by omega)).2
            have hin' : (i : Int) < n := by omega
            have hne : wb.heap.size ≠ gk := fun e => by have := hbo.out gk rfl; omega
            have B2 : Aside (DcI lo S w x ((wr.setCell ⟨gk, i * 5 + 1, none⟩ (.int .i64 kd)).setCell ⟨gk, i * 5 + 2, none⟩ (.int .i64 ln)) xd (.slice (some ⟨gk, 0, none⟩) n cp) n ∧ ((wr.setCell ⟨gk, i * 5 + 1, none⟩ (.int .i64 kd)).setCell ⟨gk, i * 5 + 2, none⟩ (.int .i64 ln)).heap[wb.heap.size]? = some (.cells #[.int .i64 kd, .int .i64 ln] 42 (0, 0))) :=
              ⟨⟨(B.out.1.g.set hgb hp ht _).set hgb hp ht _, .mk _ _ (own_store (own_store hxs rfl _ _) rfl _ _), B.out.1.b, B.out.1.c⟩, (Below.heap_setCell _ _ _ _ hne).trans ((Below.heap_setCell _ _ _ _ hne).trans B.out.2)⟩
            clear hxs hcell hv
            go_wp2
            go_roundg (n - (i + 1))
            case measure => omega
            case rel => exact ⟨i + 1, by go_num, by omega, B2⟩
          · have hin' : ¬ (i : Int) < n := by omega
            go_wp2
            go_ret
            exact .mk B.out.1.g (.mk n B.out.1.l B.out.1.b B.out.1.c)
    case pos =>
      have hnb := A.out.c he
      go_wp2_with (fail)
      refine (tok_in A.out.g.ps).mono ?_
      rintro e w1 ⟨rfl, h1, k1⟩
      dsimp only [Tk.val]
      have A1 : Aside _ := A.out.step ⟨h1, k1, Nat.le_refl _, id⟩ hl hp
      by_cases hk1 : (S.t xc.at').k = 1
      · go_wp2_with (fail)
        refine (full_in A1.out.g.ps _ _).mono ?_
        rintro _ w2 @⟨_, _, x2, g2, ⟨rfl, hee⟩ | ⟨rfl, hlm, rfl⟩⟩
        · have A2 : Aside _ := A1.out.step g2 hl hp
          go_wp2
          go_ret
          exact .mk A2.out.g (.mk n A2.out.l A2.out.b A2.out.c)
        · have A2 : Aside _ := A1.out.step g2 hl hp
          clear hlm
          go_wp2_with (fail)
          refine (tok_ex A2.out.g.ps).mono ?_
          rintro e w3 ⟨⟨t3, rfl⟩, h3, k3⟩
          dsimp only [Tk.val]
          have A3 : Aside _ := A2.out.step ⟨h3, k3, Nat.le_refl _, id⟩ hl hp
          go_wp2_with (fail)
          refine (name_in A3.out.g.ps).mono ?_
          rintro _ w4 @⟨_, _, x4, g4, ⟨nm, rfl⟩, hpr4⟩
          have A4 : Aside _ := A3.out.step g4 hl hp
          obtain ⟨xs, hxs⟩ := A4.out.l.own
          have HX : Aside (w4.ownsRow lo 82 5 (.slice a0 n cp) n xs) := hxs
          have hlb : lo ≤ w4.heap.size := Nat.le_trans hl A4.out.g.kb.size
          have hle4 := g4.le
          have hnb4 : x4.e = 0 → n + 1 ≤ x4.at' := fun e => by have := hpr4 e; omega
          have hnc4 : n + 1 ≤ x4.at' + 1 := by omega
          clear hxs
          go_wp2_with (first | (at_builtin; refine wpList_append_lies _ rfl _ _ 37 rfl lo 82 i0 _ 5 64 Try.underlying37 hi hz0 hz1 hz2 rfl (by decide) _ n xs rfl (World.ownsRow.alloc HX.out _) ⟨w4.heap.size, 0, none⟩ 1 1 [.string nm, .int .i64 0, .int .i64 0, .slice none 0 0, .int .i64 t3.at'] rfl rfl ?c1 ?c0 (by decide) ?c2 ?c3 ?c4 w4.heap.size.succ ?c5 ?_))
          case c0 => intro u hu; simp at hu; rcases hu with rfl | rfl | rfl | rfl | rfl <;> rfl
          case c1 => exact World.news_of_block (alloc_self w4 _)
          case c2 => unfold maxLen; omega
          case c3 => omega
          case c4 => simp; omega
          case c5 => simp
          intro gk cap w5 hown hgrow hat hlt5
          have A5 : Aside (DcI lo S w x w5 x4 (.slice (some ⟨gk, 0, none⟩) (n + 1) cap) (n + 1)) :=
            ⟨(A4.out.g.alloc hl _).grown hl hp ht hgrow fun z hz => (World.ownsRow.lt HX.out z hz).1, .mk _ _ hown, hnc4, hnb4⟩
          clear hown hgrow hat HX
          go_wp2_with (fail)
          refine (maybe_in A5.out.g.ps _).mono ?_
          rintro _ w6 @⟨_, _, x6, g6, ⟨rfl, hat, hee⟩ | ⟨rfl, rfl⟩⟩
          · have A6 : Aside _ := A5.out.step g6 hl hp
            have hlt6 := g6.ps.lt
            go_wp2
            go_roundg (S.len - x6.at')
            case measure => omega
            case rel => exact ⟨x6, n + 1, Nat.le_refl _, hlt6, A6⟩
          · have A6 : Aside _ := A5.out.step g6 hl hp
            clear A A1 A2 A3 A4 A5 hnb hnb4 hnc4
            generalize n + 1 = n at *
            generalize (some (⟨gk, 0, none⟩ : Addr)) = a0 at *
            generalize cap = cp at *
            go_wp2_with (fail)
            refine (take_in A6.out.g.ps _).mono ?_
            rintro _ wa @⟨_, _, xa, ga, rfl, _⟩
            have Aa : Aside _ := A6.out.step ga hl hp
            go_wp2_with (fail)
            refine (kind_in Aa.out.g.ps).mono ?_
            rintro _ wb @⟨_, _, xb, gb, ⟨kd, rfl⟩, _⟩
            have Ab : Aside _ := Aa.out.step gb hl hp
            have Ac : Aside _ := Ab.out.step (Go1.new Ab.out.g.ps (.cells #[.int .i64 kd, .int .i64 0] 42)) hl hp
            have hbo : Aside (∀ z, (Value.slice a0 n cp).ownBlock = some z → z < wb.heap.size) := fun z hz => by obtain ⟨ys, hys⟩ := Ab.out.l.own; exact (hys.lt z hz).2
            have hlb : lo ≤ wb.heap.size := Nat.le_trans hl Ab.out.g.kb.size
            go_wp2_with (fail)
            refine (maybe_in Ac.out.g.ps _).mono ?_
            rintro _ wc @⟨_, _, xc2, gc, hbb⟩
            obtain ⟨b1, rfl⟩ : ∃ b, _ = Value.bool b := by rcases hbb with ⟨hb, _⟩ | ⟨hb, _⟩ <;> exact ⟨_, hb⟩
            clear hbb
            have Ad : Aside _ := Ac.out.step gc hl hp
            have hT := gc.kb.block (alloc_self wb (.cells #[.int .i64 kd, .int .i64 0] 42)) (by omega)
            cases b1
            · go_wp2
              obtain ⟨xs2, hxs2⟩ := Ad.out.l.own
              go_loopg [12] (n) (fun kx s12 wr => ∃ i : Nat, s12 = .int .i64 (i : Int) ∧ n - i ≤ kx ∧ Aside (DcI lo S w x wr xc2 (.slice a0 n cp) n ∧ wr.heap[wb.heap.size]? = some (.cells #[.int .i64 kd, .int .i64 0] 42 (0, 0))))
              case atStart => exact ⟨n0, rfl, by omega, Ad.out, hT⟩
              case round =>
                obtain ⟨i, rfl, hki, B⟩ := hrel
                obtain ⟨htc, htf⟩ := row_cells B.out.2
                have hn2 : n ≤ 20001 := by have := B.out.1.b; have := B.out.1.g.ps.lt; omega
                by_cases hin : i < n
                · obtain ⟨xs, hxs⟩ := B.out.1.l.own
                  obtain ⟨gk, cap, hv, hgb, hglt⟩ := hxs.form (by omega)
                  obtain ⟨rfl, rfl⟩ : a0 = some ⟨gk, 0, none⟩ ∧ cp = cap := by injection hv with h1 h2 h3; exact ⟨h1, h3⟩
                  have hcell := own_cell hxs (g := gk) rfl
                  obtain ⟨v1, hc1⟩ := (hcell (i * 5 + 1) (by omega)).1
                  obtain ⟨v2, hc2⟩ := (hcell (i * 5 + 2) (by omega)).1
                  have hf1 := (hcell (i * 5 + 1) (by omega)).2
                  have hf2 := (hcell (i * 5 + 2) (by omega)).2
                  have hin' : (i : Int) < n := by omega
                  have hne : wb.heap.size ≠ gk := fun e => by have := hbo.out gk rfl; omega
                  have B2 : Aside (DcI lo S w x ((wr.setCell ⟨gk, i * 5 + 1, none⟩ (.int .i64 kd)).setCell ⟨gk, i * 5 + 2, none⟩ (.int .i64 0)) xc2 (.slice (some ⟨gk, 0, none⟩) n cp) n ∧ ((wr.setCell ⟨gk, i * 5 + 1, none⟩ (.int .i64 kd)).setCell ⟨gk, i * 5 + 2, none⟩ (.int .i64 0)).heap[wb.heap.size]? = some (.cells #[.int .i64 kd, .int .i64 0] 42 (0, 0))) :=
                    ⟨⟨(B.out.1.g.set hgb hp ht _).set hgb hp ht _, .mk _ _ (own_store (own_store hxs rfl _ _) rfl _ _), B.out.1.b, B.out.1.c⟩, (Below.heap_setCell _ _ _ _ hne).trans ((Below.heap_setCell _ _ _ _ hne).trans B.out.2)⟩
                  clear hxs hcell hv
                  go_wp2
                  go_roundg (n - (i + 1))
                  case measure => omega
                  case rel => exact ⟨i + 1, by go_num, by omega, B2⟩
                · have hin' : ¬ (i : Int) < n := by omega
                  go_wp2
                  go_ret
                  exact .mk B.out.1.g (.mk n B.out.1.l B.out.1.b B.out.1.c)
            · go_wp2_with (fail)
              refine (size_in Ad.out.g.ps).mono ?_
              rintro _ wd @⟨_, _, xd, gd, ⟨ln, rfl⟩, _⟩
              have hTd := gd.kb.block hT (by omega)
              have Ae : Aside _ := Ad.out.step gd hl hp
              obtain ⟨htc, htf⟩ := row_cells hTd
              have htl := lt_of_block hTd
              have hTe : (wd.setCell ⟨wb.heap.size, 1, none⟩ (.int .i64 ln)).heap[wb.heap.size]? = some (.cells #[.int .i64 kd, .int .i64 ln] 42 (0, 0)) := heap_setCell_self hTd _
              have Af : Aside (DcI lo S w x (wd.setCell ⟨wb.heap.size, 1, none⟩ (.int .i64 ln)) xd (.slice a0 n cp) n) := ⟨Ae.out.g.set (by exact hlb) hp ht _, Ae.out.l.frame' fun z hz => Below.heap_setCell _ _ _ _ (fun e => by have := hbo.out z hz; have e' : z = wb.heap.size := e; omega), Ae.out.b, Ae.out.c⟩
              go_wp2
              obtain ⟨xs2, hxs2⟩ := Af.out.l.own
              go_loopg [12] (n) (fun kx s12 wr => ∃ i : Nat, s12 = .int .i64 (i : Int) ∧ n - i ≤ kx ∧ Aside (DcI lo S w x wr xd (.slice a0 n cp) n ∧ wr.heap[wb.heap.size]? = some (.cells #[.int .i64 kd, .int .i64 ln] 42 (0, 0))))
              case atStart => exact ⟨n0, rfl, by omega, Af.out, hTe⟩
              case round =>
                obtain ⟨i, rfl, hki, B⟩ := hrel
                obtain ⟨htc, htf⟩ := row_cells B.out.2
                have hn2 : n ≤ 20001 := by have := B.out.1.b; have := B.out.1.g.ps.lt; omega
                by_cases hin : i < n
                · obtain ⟨xs, hxs⟩ := B.out.1.l.own
                  obtain ⟨gk, cap, hv, hgb, hglt⟩ := hxs.form (by omega)
                  obtain ⟨rfl, rfl⟩ : a0 = some ⟨gk, 0, none⟩ ∧ cp = cap := by injection hv with h1 h2 h3; exact ⟨h1, h3⟩
                  have hcell := own_cell hxs (g := gk) rfl
                  obtain ⟨v1, hc1⟩ := (hcell (i * 5 + 1) (by omega)).1
                  obtain ⟨v2, hc2⟩ := (hcell (i * 5 + 2) (by omega)).1
                  have hf1 := (hcell (i * 5 + 1) (by omega)).2
                  have hf2 := (hcell (i * 5 + 2) (by omega)).2
                  have hin' : (i : Int) < n := by omega
                  have hne : wb.heap.size ≠ gk := fun e => by have := hbo.out gk rfl; omega
                  have B2 : Aside (DcI lo S w x ((wr.setCell ⟨gk, i * 5 + 1, none⟩ (.int .i64 kd)).setCell ⟨gk, i * 5 + 2, none⟩ (.int .i64 ln)) xd (.slice (some ⟨gk, 0, none⟩) n cp) n ∧ ((wr.setCell ⟨gk, i * 5 + 1, none⟩ (.int .i64 kd)).setCell ⟨gk, i * 5 + 2, none⟩ (.int .i64 ln)).heap[wb.heap.size]? = some (.cells #[.int .i64 kd, .int .i64 ln] 42 (0, 0))) :=
                    ⟨⟨(B.out.1.g.set hgb hp ht _).set hgb hp ht _, .mk _ _ (own_store (own_store hxs rfl _ _) rfl _ _), B.out.1.b, B.out.1.c⟩, (Below.heap_setCell _ _ _ _ hne).trans ((Below.heap_setCell _ _ _ _ hne).trans B.out.2)⟩
                  clear hxs hcell hv
                  go_wp2
                  go_roundg (n - (i + 1))
                  case measure => omega
                  case rel => exact ⟨i + 1, by go_num, by omega, B2⟩
                · have hin' : ¬ (i : Int) < n := by omega
                  go_wp2
                  go_ret
                  exact .mk B.out.1.g (.mk n B.out.1.l B.out.1.b B.out.1.c)
      · have A2 : Aside _ := A1.out
        go_wp2_with (fail)
        refine (tok_ex A2.out.g.ps).mono ?_
        rintro e w3 ⟨⟨t3, rfl⟩, h3, k3⟩
        dsimp only [Tk.val]
        have A3 : Aside _ := A2.out.step ⟨h3, k3, Nat.le_refl _, id⟩ hl hp
        go_wp2_with (fail)
        refine (name_in A3.out.g.ps).mono ?_
        rintro _ w4 @⟨_, _, x4, g4, ⟨nm, rfl⟩, hpr4⟩
        have A4 : Aside _ := A3.out.step g4 hl hp
        obtain ⟨xs, hxs⟩ := A4.out.l.own
        have HX : Aside (w4.ownsRow lo 82 5 (.slice a0 n cp) n xs) := hxs
        have hlb : lo ≤ w4.heap.size := Nat.le_trans hl A4.out.g.kb.size
        have hle4 := g4.le
        have hnb4 : x4.e = 0 → n + 1 ≤ x4.at' := fun e => by have := hpr4 e; omega
        have hnc4 : n + 1 ≤ x4.at' + 1 := by omega
        clear hxs
        go_wp2_with (first | (at_builtin; refine wpList_append_lies _ rfl _ _ 37 rfl lo 82 i0 _ 5 64 Try.underlying37 hi hz0 hz1 hz2 rfl (by decide) _ n xs rfl (World.ownsRow.alloc HX.out _) ⟨w4.heap.size, 0, none⟩ 1 1 [.string nm, .int .i64 0, .int .i64 0, .slice none 0 0, .int .i64 t3.at'] rfl rfl ?c1 ?c0 (by decide) ?c2 ?c3 ?c4 w4.heap.size.succ ?c5 ?_))
        case c0 => intro u hu; simp at hu; rcases hu with rfl | rfl | rfl | rfl | rfl <;> rfl
        case c1 => exact World.news_of_block (alloc_self w4 _)
        case c2 => unfold maxLen; omega
        case c3 => omega
        case c4 => simp; omega
        case c5 => simp
        intro gk cap w5 hown hgrow hat hlt5
        have A5 : Aside (DcI lo S w x w5 x4 (.slice (some ⟨gk, 0, none⟩) (n + 1) cap) (n + 1)) :=
          ⟨(A4.out.g.alloc hl _).grown hl hp ht hgrow fun z hz => (World.ownsRow.lt HX.out z hz).1, .mk _ _ hown, hnc4, hnb4⟩
        clear hown hgrow hat HX
        go_wp2_with (fail)
        refine (maybe_in A5.out.g.ps _).mono ?_
        rintro _ w6 @⟨_, _, x6, g6, ⟨rfl, hat, hee⟩ | ⟨rfl, rfl⟩⟩
        · have A6 : Aside _ := A5.out.step g6 hl hp
          have hlt6 := g6.ps.lt
          go_wp2
          go_roundg (S.len - x6.at')
          case measure => omega
          case rel => exact ⟨x6, n + 1, Nat.le_refl _, hlt6, A6⟩
        · have A6 : Aside _ := A5.out.step g6 hl hp
          clear A A1 A2 A3 A4 A5 hnb hnb4 hnc4
          generalize n + 1 = n at *
          generalize (some (⟨gk, 0, none⟩ : Addr)) = a0 at *
          generalize cap = cp at *
          go_wp2_with (fail)
          refine (take_in A6.out.g.ps _).mono ?_
          rintro _ wa @⟨_, _, xa, ga, rfl, _⟩
          have Aa : Aside _ := A6.out.step ga hl hp
          go_wp2_with (fail)
          refine (kind_in Aa.out.g.ps).mono ?_
          rintro _ wb @⟨_, _, xb, gb, ⟨kd, rfl⟩, _⟩
          have Ab : Aside _ := Aa.out.step gb hl hp
          have Ac : Aside _ := Ab.out.step (Go1.new Ab.out.g.ps (.cells #[.int .i64 kd, .int .i64 0] 42)) hl hp
          have hbo : Aside (∀ z, (Value.slice a0 n cp).ownBlock = some z → z < wb.heap.size) := fun z hz => by obtain ⟨ys, hys⟩ := Ab.out.l.own; exact (hys.lt z hz).2
          have hlb : lo ≤ wb.heap.size := Nat.le_trans hl Ab.out.g.kb.size
          go_wp2_with (fail)
          refine (maybe_in Ac.out.g.ps _).mono ?_
          rintro _ wc @⟨_, _, xc2, gc, hbb⟩
          obtain ⟨b1, rfl⟩ : ∃ b, _ = Value.bool b := by rcases hbb with ⟨hb, _⟩ | ⟨hb, _⟩ <;> exact ⟨_, hb⟩
          clear hbb
          have Ad : Aside _ := Ac.out.step gc hl hp
          have hT := gc.kb.block (alloc_self wb (.cells #[.int .i64 kd, .int .i64 0] 42)) (by omega)
          cases b1
          · go_wp2
            obtain ⟨xs2, hxs2⟩ := Ad.out.l.own
            go_loopg [12] (n) (fun kx s12 wr => ∃ i : Nat, s12 = .int .i64 (i : Int) ∧ n - i ≤ kx ∧ Aside (DcI lo S w x wr xc2 (.slice a0 n cp) n ∧ wr.heap[wb.heap.size]? = some (.cells #[.int .i64 kd, .int .i64 0] 42 (0, 0))))
            case atStart => exact ⟨n0, rfl, by omega, Ad.out, hT⟩
            case round =>
              obtain ⟨i, rfl, hki, B⟩ := hrel
              obtain ⟨htc, htf⟩ := row_cells B.out.2
              have hn2 : n ≤ 20001 := by have := B.out.1.b; have := B.out.1.g.ps.lt; omega
              by_cases hin : i < n
              · obtain ⟨xs, hxs⟩ := B.out.1.l.own
                obtain ⟨gk, cap, hv, hgb, hglt⟩ := hxs.form (by omega)
                obtain ⟨rfl, rfl⟩ : a0 = some ⟨gk, 0, none⟩ ∧ cp = cap := by injection hv with h1 h2 h3; exact ⟨h1, h3⟩
                have hcell := own_cell hxs (g := gk) rfl
                obtain ⟨v1, hc1⟩ := (hcell (i * 5 + 1) (by omega)).1
                obtain ⟨v2, hc2⟩ := (hcell (i * 5 + 2) (by omega)).1
                have hf1 := (hcell (i * 5 + 1) (by omega)).2
                have hf2 := (hcell (i * 5 + 2) (by omega)).2
                have hin' : (i : Int) < n := by omega
                have hne : wb.heap.size ≠ gk := fun e => by have := hbo.out gk rfl; omega
                have B2 : Aside (DcI lo S w x ((wr.setCell ⟨gk, i * 5 + 1, none⟩ (.int .i64 kd)).setCell ⟨gk, i * 5 + 2, none⟩ (.int .i64 0)) xc2 (.slice (some ⟨gk, 0, none⟩) n cp) n ∧ ((wr.setCell ⟨gk, i * 5 + 1, none⟩ (.int .i64 kd)).setCell ⟨gk, i * 5 + 2, none⟩ (.int .i64 0)).heap[wb.heap.size]? = some (.cells #[.int .i64 kd, .int .i64 0] 42 (0, 0))) :=
                  ⟨⟨(B.out.1.g.set hgb hp ht _).set hgb hp ht _, .mk _ _ (own_store (own_store hxs rfl _ _) rfl _ _), B.out.1.b, B.out.1.c⟩, (Below.heap_setCell _ _ _ _ hne).trans ((Below.heap_setCell _ _ _ _ hne).trans B.out.2)⟩
                clear hxs hcell hv
                go_wp2
                go_roundg (n - (i + 1))
                case measure => omega
                case rel => exact ⟨i + 1, by go_num, by omega, B2⟩
              · have hin' : ¬ (i : Int) < n := by omega
                go_wp2
                go_ret
                exact .mk B.out.1.g (.mk n B.out.1.l B.out.1.b B.out.1.c)
          · go_wp2_with (fail)
            refine (size_in Ad.out.g.ps).mono ?_
            rintro _ wd @⟨_, _, xd, gd, ⟨ln, rfl⟩, _⟩
            have hTd := gd.kb.block hT (by omega)
            have Ae : Aside _ := Ad.out.step gd hl hp
            obtain ⟨htc, htf⟩ := row_cells hTd
            have htl := lt_of_block hTd
            have hTe : (wd.setCell ⟨wb.heap.size, 1, none⟩ (.int .i64 ln)).heap[wb.heap.size]? = some (.cells #[.int .i64 kd, .int .i64 ln] 42 (0, 0)) := heap_setCell_self hTd _
            have Af : Aside (DcI lo S w x (wd.setCell ⟨wb.heap.size, 1, none⟩ (.int .i64 ln)) xd (.slice a0 n cp) n) := ⟨Ae.out.g.set (by exact hlb) hp ht _, Ae.out.l.frame' fun z hz => Below.heap_setCell _ _ _ _ (fun e => by have := hbo.out z hz; have e' : z = wb.heap.size := e; omega), Ae.out.b, Ae.out.c⟩
            go_wp2
            obtain ⟨xs2, hxs2⟩ := Af.out.l.own
            go_loopg [12] (n) (fun kx s12 wr => ∃ i : Nat, s12 = .int .i64 (i : Int) ∧ n - i ≤ kx ∧ Aside (DcI lo S w x wr xd (.slice a0 n cp) n ∧ wr.heap[wb.heap.size]? = some (.cells #[.int .i64 kd, .int .i64 ln] 42 (0, 0))))
            case atStart => exact ⟨n0, rfl, by omega, Af.out, hTe⟩
            case round =>
              obtain ⟨i, rfl, hki, B⟩ := hrel
              obtain ⟨htc, htf⟩ := row_cells B.out.2
              have hn2 : n ≤ 20001 := by have := B.out.1.b; have := B.out.1.g.ps.lt; omega
              by_cases hin : i < n
              · obtain ⟨xs, hxs⟩ := B.out.1.l.own
                obtain ⟨gk, cap, hv, hgb, hglt⟩ := hxs.form (by omega)
                obtain ⟨rfl, rfl⟩ : a0 = some ⟨gk, 0, none⟩ ∧ cp = cap := by injection hv with h1 h2 h3; exact ⟨h1, h3⟩
                have hcell := own_cell hxs (g := gk) rfl
                obtain ⟨v1, hc1⟩ := (hcell (i * 5 + 1) (by omega)).1
                obtain ⟨v2, hc2⟩ := (hcell (i * 5 + 2) (by omega)).1
                have hf1 := (hcell (i * 5 + 1) (by omega)).2
                have hf2 := (hcell (i * 5 + 2) (by omega)).2
                have hin' : (i : Int) < n := by omega
                have hne : wb.heap.size ≠ gk := fun e => by have := hbo.out gk rfl; omega
                have B2 : Aside (DcI lo S w x ((wr.setCell ⟨gk, i * 5 + 1, none⟩ (.int .i64 kd)).setCell ⟨gk, i * 5 + 2, none⟩ (.int .i64 ln)) xd (.slice (some ⟨gk, 0, none⟩) n cp) n ∧ ((wr.setCell ⟨gk, i * 5 + 1, none⟩ (.int .i64 kd)).setCell ⟨gk, i * 5 + 2, none⟩ (.int .i64 ln)).heap[wb.heap.size]? = some (.cells #[.int .i64 kd, .int .i64 ln] 42 (0, 0))) :=
                  ⟨⟨(B.out.1.g.set hgb hp ht _).set hgb hp ht _, .mk _ _ (own_store (own_store hxs rfl _ _) rfl _ _), B.out.1.b, B.out.1.c⟩, (Below.heap_setCell _ _ _ _ hne).trans ((Below.heap_setCell _ _ _ _ hne).trans B.out.2)⟩
                clear hxs hcell hv
                go_wp2
                go_roundg (n - (i + 1))
                case measure => omega
                case rel => exact ⟨i + 1, by go_num, by omega, B2⟩
              · have hin' : ¬ (i : Int) < n := by omega
                go_wp2
                go_ret
                exact .mk B.out.1.g (.mk n B.out.1.l B.out.1.b B.out.1.c)
end Go.Pa
