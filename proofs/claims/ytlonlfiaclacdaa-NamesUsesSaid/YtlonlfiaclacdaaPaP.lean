/-
  items (own work).
-/
import Derived.Test.YtlonlfiaclacdaaPaO
import Derived.Deep.RegionLaw
namespace Go.Pa
open Go Go.RowKit Go.Proofs

theorem info48 : (Try.prog.info? 48).map (fun i => (i.zero, i.size, i.bytes)) = some (some (.agg #[.slice none 0 0, .int .i64 0, .int .i64 0, .string ⟨#[]⟩, .int .i64 0, .int .i64 0, .int .i64 0, .int .i64 0, .slice none 0 0, .int .i64 0, .slice none 0 0, .int .i64 0]), 12, 152) := by kernel_rfl

def itemRow (an : Option Addr) (nn cn : Nat) (p : ER) (sa : Option Addr) (ns cs : Nat) (at' : Int) : Array Value :=
  #[.slice an nn cn, .int .i64 p.f, .int .i64 p.s, .string p.nm, .int .i64 p.tk, .int .i64 p.tl, .int .i64 p.n, .int .i64 p.m, .slice p.ka p.kl p.kc, .int .i64 p.at', .slice sa ns cs, .int .i64 at']
/-- An item. -/
inductive ItemV (E : Prop) (B : Nat → Prop) (w : World) : Value → Prop
  | mk (an : Option Addr) (nn cn : Nat) (p : ER) (sa : Option Addr) (ns cs : Nat) (at' : Int) (t : Tree) (h : IsExp B w p t) (hc : E → t.cnt ≤ 20000) : ItemV E B w (.agg (itemRow an nn cn p sa ns cs at'))
def CItem (k : Nat) : Prop := ∀ (S : Src) (w : World) (x : St), PS S w x → S.len - x.at' ≤ k →
  Calls Try.prog 68 #[.pointer (some ⟨S.pb, 0, none⟩)] w (Ret S w x fun v w' x' => ItemV (x'.e = 0) (w.heap.size ≤ ·) w' v ∧ Prog x x')

theorem item_one (an : Option Addr) (nn cn : Nat) (p : ER) (sa : Option Addr) (ns cs : Nat) (at' : Int) : ∀ u ∈ (itemRow an nn cn p sa ns cs at').toList, u.oneCell' = true := by
  intro u hu
  simp [itemRow] at hu
  rcases hu with rfl | rfl | rfl | rfl | rfl | rfl | rfl | rfl | rfl | rfl | rfl | rfl <;> rfl
theorem item_get (an : Option Addr) (nn cn : Nat) (p : ER) (sa : Option Addr) (ns cs : Nat) (at' : Int) : ∀ j, j < 9 → (itemRow an nn cn p sa ns cs at').toList[1 + j]? = p.row[j]? := by
  intro j hj
  match j, hj with
  | 0, _ | 1, _ | 2, _ | 3, _ | 4, _ | 5, _ | 6, _ | 7, _ | 8, _ => rfl

theorem own_max {w : World} {lo : Nat} {e : TypeId} {size : Nat} {v : Value} {n : Nat} {xs : List Value} (h : w.ownsRow lo e size v n xs) : n ≤ maxLen := by
  rcases h.2 with ⟨_, rfl⟩ | ⟨g, cap, cur, rfl, _, _, h1, h2, _⟩
  · exact Nat.zero_le _
  · exact Nat.le_trans h1 h2

/-- A list of items that is built. -/
structure LI (E : Prop) (lo : Nat) (w : World) (v : Value) (n : Nat) (xs : List Value) : Prop where
  own : w.ownsRow lo 48 12 v n xs
  c : ∀ i, i < n → ∃ p t, IsExp (fun b => lo ≤ b ∧ b < w.heap.size ∧ some b ≠ v.ownBlock) w p t ∧ (E → t.cnt ≤ 20000) ∧ ∀ j, j < 9 → xs[i * 12 + 1 + j]? = p.row[j]?
section
variable {E E' : Prop} {lo : Nat} {w w' : World} {v : Value} {n : Nat} {xs : List Value}
theorem LI.frame (h : LI E lo w v n xs) (hz : w.heap.size ≤ w'.heap.size) (hs : ∀ b, lo ≤ b → b < w.heap.size → w'.heap[b]? = w.heap[b]?) (he : E' → E) : LI E' lo w' v n xs :=
  ⟨own_frame h.own fun b hb => hs b (h.own.lt b hb).1 (h.own.lt b hb).2, fun i hi => by
    obtain ⟨p, t, h1, h2, h3⟩ := h.c i hi
    exact ⟨p, t, (h1.frame fun b hb hl => hs b hb.1 hl).mono fun b hb => ⟨hb.1, by omega, hb.2.2⟩, fun e => h2 (he e), h3⟩⟩
theorem LI.items (h : LI E lo w v n xs) : ItemsV E (lo ≤ ·) w v := by
  obtain ⟨a, c, rfl⟩ := own_form h.own
  refine .mk a n c (own_max h.own) fun i hi => ?_
  obtain ⟨p, t, h1, h2, h3⟩ := h.c i hi
  obtain ⟨g, cap, hv, hg, _⟩ := h.own.form (by omega)
  obtain ⟨rfl, rfl⟩ : a = some ⟨g, 0, none⟩ ∧ c = cap := by injection hv with h1 h2 h3; exact ⟨h1, h3⟩
  refine ⟨g, rfl, hg, p, t, h1.mono fun _ hb => hb.1, h2, fun j hj => ?_⟩
  have h4 := h3 j hj
  have hjs : j < p.row.size := by simpa using hj
  rw [Array.getElem?_eq_getElem hjs] at h4 ⊢
  have := h.own.cells (g := g) rfl _ _ h4
  rwa [show (⟨g, 0, none⟩ : Addr).add (i * 12 + 1 + j) = ⟨g, i * 12 + 1 + j, none⟩ by unfold Addr.add; simp] at this
theorem LI.push (h : LI E lo w v n xs) {p : ER} {t : Tree} (hE : IsExp (fun b => lo ≤ b ∧ b < w.heap.size ∧ some b ≠ v.ownBlock) w p t) (hc : E → t.cnt ≤ 20000) {g cap : Nat} {r : List Value} (hr : ∀ j, j < 9 → r[1 + j]? = p.row[j]?)
    (hown : w'.ownsRow lo 48 12 (.slice (some ⟨g, 0, none⟩) (n + 1) cap) (n + 1) (xs ++ r)) (hgr : w.grownBy w' v.ownBlock) (hat : v.ownBlock = some g ∨ g = w.heap.size) : LI E lo w' (.slice (some ⟨g, 0, none⟩) (n + 1) cap) (n + 1) (xs ++ r) := by
  have hf : ∀ {q : ER} {u : Tree}, IsExp (fun b => lo ≤ b ∧ b < w.heap.size ∧ some b ≠ v.ownBlock) w q u → IsExp (fun b => lo ≤ b ∧ b < w'.heap.size ∧ some b ≠ (Value.slice (some ⟨g, 0, none⟩) (n + 1) cap).ownBlock) w' q u := fun hq =>
    (hq.frame fun b hb hl => hgr.block b hl hb.2.2).mono fun b hb => ⟨hb.1, Nat.lt_of_lt_of_le hb.2.1 hgr.size, fun e => by
      have e' : b = g := Option.some.inj e
      rcases hat with hat | hat
      · exact hb.2.2 (by rw [hat, e'])
      · omega⟩
  have hxs : xs.length = n * 12 := h.own.1
  refine ⟨hown, fun i hi => ?_⟩
  rcases (by omega : i = n ∨ i < n) with rfl | hlt
  · refine ⟨p, t, hf hE, hc, fun j hj => ?_⟩
    rw [List.getElem?_append_right (by omega), hxs, show i * 12 + 1 + j - i * 12 = 1 + j by omega]
    exact hr j hj
  · obtain ⟨q, u, h1, h2, h3⟩ := h.c i hlt
    refine ⟨q, u, hf h1, h2, fun j hj => ?_⟩
    rw [List.getElem?_append_left (by omega)]
    exact h3 j hj
end

/-- In the loop of items. -/
structure ItsI (S : Src) (w : World) (x : St) (wr : World) (xc : St) (v : Value) (n : Nat) (xs : List Value) : Prop where
  g : Go1 S w x wr xc
  l : LI (xc.e = 0) w.heap.size wr v n xs
theorem ItsI.step {S : Src} {w : World} {x : St} {wr w2 : World} {xc x2 : St} {v : Value} {n : Nat} {xs : List Value} (h : ItsI S w x wr xc v n xs) (g : Go1 S wr xc w2 x2) (hp : S.pb < w.heap.size) : ItsI S w x w2 x2 v n xs :=
  ⟨h.g.trans g, h.l.frame g.kb.size (fun b hb hl => g.kb.same b hl (by omega)) (er0 g)⟩

set_option maxHeartbeats 16000000 in
set_option maxRecDepth 100000 in
theorem items_in {k : Nat} (hit : ∀ j, j ≤ k → CItem j) : CItems k := by
  intro S w x hP hk
  have hpl := hP.plt
  have htl := hP.tlt
  have hlt0 := hP.lt
  have hcap := S.hlen
  have HI : Hid _ := hit
  clear hit
  obtain ⟨i0, hi, hz0, hz1, hz2⟩ := info_parts info48
  have A0 : Aside (ItsI S w x w x (.slice none 0 0) 0 []) := ⟨Go1.refl hP, ⟨World.ownsRow_nil w _ 48 12, fun i hi => absurd hi (Nat.not_lt_zero i)⟩⟩
  go_enter Try.func56, Try.ntmps56
  go_wp2
  go_loopg [3, 4, 5] (2 * S.len + 1) (fun kx s3 s4 s5 wr => ∃ (xc : St) (n : Nat) (xs : List Value), 2 * (S.len - xc.at') + (if xc.e = 0 then 1 else 0) ≤ kx ∧ xc.at' < S.len ∧ x.at' ≤ xc.at' ∧ n ≤ 200 ∧ Aside (ItsI S w x wr xc s3 n xs))
  case atStart => exact ⟨x, 0, [], by split <;> omega, hlt0, Nat.le_refl _, by omega, A0⟩
  case round =>
    clear A0
    obtain ⟨xc, n, xs, hkx, hlt, hle, hn, A⟩ := hrel
    have HK : Hid _ := hkx
    clear hkx
    obtain ⟨a0, cp, rfl⟩ := own_form A.out.l.own
    have c2 := A.out.g.ps.c2
    have hplr := A.out.g.ps.plt
    by_cases he : xc.e = 0
    case neg =>
      go_wp2
      go_ret
      exact .mk A.out.g A.out.l.items
    case pos =>
      go_wp2_with (fail)
      refine (begins_in A.out.g.ps).mono ?_
      rintro _ w1 @⟨_, _, x1, g1, hx1, ⟨b1, rfl⟩⟩
      have A1 : Aside _ := A.out.step g1 hpl
      cases b1
      · rcases Nat.eq_zero_or_pos n with hn0 | hn0
        · subst hn0
          go_wp2_with (fail)
          refine (fail_ex A1.out.g.ps 12 (by decide)).mono ?_
          rintro _ w2 @⟨_, _, x2, g2, rfl, hee⟩
          have A2 : Aside _ := A1.out.step g2 hpl
          go_wp2
          go_ret
          exact .mk A2.out.g A2.out.l.items
        · have hn1 : ¬ (n : Int) = 0 := by omega
          go_wp2
          go_ret
          exact .mk A1.out.g A1.out.l.items
      · go_wp2_with (fail)
        refine (full_in A1.out.g.ps _ _).mono ?_
        rintro _ w2 @⟨_, _, x2, g2, hful⟩
        rcases hful with ⟨rfl, hee⟩ | ⟨rfl, hlm, hx2⟩
        · have A2 : Aside _ := A1.out.step g2 hpl
          go_wp2
          go_ret
          exact .mk A2.out.g A2.out.l.items
        · have A2 : Aside _ := A1.out.step g2 hpl
          have hx : x2 = xc := hx2.trans hx1
          have hn2 : n < 200 := by omega
          clear hlm
          subst hx
          go_wp2_with (fail)
          refine (HI.out (S.len - x2.at') (by omega) S _ _ A2.out.g.ps (Nat.le_refl _)).mono ?_
          rintro _ w3 @⟨_, _, x3, g3, @⟨an, nn, cn, p, sa, ns, cs, AT, t, hE, hc⟩, hpr⟩
          have A3 : Aside _ := A2.out.step g3 hpl
          have HX : Aside (w3.ownsRow w.heap.size 48 12 (.slice a0 n cp) n xs) := A3.out.l.own
          have hlb : w.heap.size ≤ w3.heap.size := A3.out.g.kb.size
          have HE : Aside _ := (⟨hE, hc, hpr⟩ : _ ∧ _ ∧ _)
          clear hE hc hpr
          simp only [itemRow]
          go_wp2_with (first | (at_builtin; refine wpList_append_lies _ rfl _ _ 38 rfl w.heap.size 48 i0 _ 12 152 Try.underlying38 hi hz0 hz1 hz2 rfl (by decide) _ n xs rfl (World.ownsRow.alloc HX.out _) ⟨w3.heap.size, 0, none⟩ 1 1 (itemRow an nn cn p sa ns cs AT).toList rfl rfl ?c1 (item_one an nn cn p sa ns cs AT) (by decide) ?c2 ?c3 ?c4 w3.heap.size.succ ?c5 ?_))
          case c1 => exact World.news_of_block (alloc_self w3 _)
          case c2 => unfold maxLen; omega
          case c3 => omega
          case c4 => simp; omega
          case c5 => simp
          intro gk cap w4 hown hgrow hat hlt4
          have hle3 := g3.le
          have hlt3 := g3.ps.lt
          have A4 : Aside (ItsI S w x w4 x3 (.slice (some ⟨gk, 0, none⟩) (n + 1) cap) (n + 1) (xs ++ (itemRow an nn cn p sa ns cs AT).toList)) := by
            have hob : ∀ b, some b = (Value.slice a0 n cp).ownBlock → w.heap.size ≤ b ∧ b < w2.heap.size := fun b hb => World.ownsRow.lt A2.out.l.own b hb.symm
            have hz2 := A2.out.g.kb.size
            have hz3 := g3.kb.size
            refine ⟨(Go1.refl hP).transL ((((A3.out.g.toL (Nat.le_refl _)).alloc (Nat.le_refl _) _).grown (Nat.le_refl _) hpl htl hgrow fun z hz => (World.ownsRow.lt HX.out z hz).1)), ?_⟩
            refine (A3.out.l.frame (w' := w3.alloc (.cells (itemRow an nn cn p sa ns cs AT) 48)) (by simp) (fun b _ hl => Below.heap_alloc _ _ _ hl) id).push (p := p) (t := t) ?_ HE.out.2.1 (item_get an nn cn p sa ns cs AT) hown hgrow (by simpa using hat)
            exact (HE.out.1.bound.alloc _).mono fun b hb => ⟨by have := hb.1; omega, by simp; omega, fun e => by have := hob _ e; have := hb.1; omega⟩
          have hmeas : 2 * (S.len - x3.at') + (if x3.e = 0 then 1 else 0) < 2 * (S.len - x2.at') + (if x2.e = 0 then 1 else 0) := by
            rw [if_pos he]
            split
            · rename_i h3
              have := HE.out.2.2 h3
              omega
            · omega
          have HM : Hid _ := hmeas
          clear hown hgrow hat HX hmeas
          go_wp2
          go_roundg (2 * (S.len - x3.at') + (if x3.e = 0 then 1 else 0))
          case measure => exact Nat.lt_of_lt_of_le HM.out HK.out
          case rel => exact ⟨x3, n + 1, _, Nat.le_refl _, hlt3, by omega, by omega, A4⟩
end Go.Pa

namespace Go.Pa
open Go Go.RowKit Go.Proofs

theorem info99 : (Try.prog.info? 99).map (fun i => (i.zero, i.size, i.bytes)) = some (some (.agg #[.string ⟨#[]⟩, .slice none 0 0, .slice none 0 0, .slice none 0 0, .slice none 0 0, .int .i64 0]), 6, 120) := by kernel_rfl
theorem info9 : (Try.prog.info? 9).map (fun i => (i.zero, i.size, i.bytes)) = some (some (.string ⟨#[]⟩), 1, 16) := by kernel_rfl

def put12 (w : World) (b : Nat) (an : Option Addr) (nn cn : Nat) (p : ER) (sa : Option Addr) (ns cs : Nat) (at' : Int) : World :=
  (((((((((((w.setCell ⟨b, 0, none⟩ (.slice an nn cn)).setCell ⟨b, 1, none⟩ (.int .i64 p.f)).setCell ⟨b, 2, none⟩ (.int .i64 p.s)).setCell ⟨b, 3, none⟩ (.string p.nm)).setCell ⟨b, 4, none⟩ (.int .i64 p.tk)).setCell ⟨b, 5, none⟩ (.int .i64 p.tl)).setCell ⟨b, 6, none⟩ (.int .i64 p.n)).setCell ⟨b, 7, none⟩ (.int .i64 p.m)).setCell ⟨b, 8, none⟩ (.slice p.ka p.kl p.kc)).setCell ⟨b, 9, none⟩ (.int .i64 p.at')).setCell ⟨b, 10, none⟩ (.slice sa ns cs)).setCell ⟨b, 11, none⟩ (.int .i64 at')
def putE (w : World) (b : Nat) (p : ER) : World :=
  ((((((((w.setCell ⟨b, 1, none⟩ (.int .i64 p.f)).setCell ⟨b, 2, none⟩ (.int .i64 p.s)).setCell ⟨b, 3, none⟩ (.string p.nm)).setCell ⟨b, 4, none⟩ (.int .i64 p.tk)).setCell ⟨b, 5, none⟩ (.int .i64 p.tl)).setCell ⟨b, 6, none⟩ (.int .i64 p.n)).setCell ⟨b, 7, none⟩ (.int .i64 p.m)).setCell ⟨b, 8, none⟩ (.slice p.ka p.kl p.kc)).setCell ⟨b, 9, none⟩ (.int .i64 p.at')
def izero : Array Value := #[.slice none 0 0, .int .i64 0, .int .i64 0, .string ⟨#[]⟩, .int .i64 0, .int .i64 0, .int .i64 0, .int .i64 0, .slice none 0 0, .int .i64 0, .slice none 0 0, .int .i64 0]

/-- An item that is built in the block b. -/
structure ItR (S : Src) (w : World) (x : St) (rb b : Nat) (wr : World) (xc : St) (an : Option Addr) (nn cn : Nat) (p : ER) (sa : Option Addr) (ns cs : Nat) (at' : Int) (t : Tree) : Prop where
  r : Rec 48 S w x rb b izero wr xc (itemRow an nn cn p sa ns cs at')
  e : IsExp (fun z => w.heap.size ≤ z ∧ z ≠ rb ∧ z ≠ b) wr p t
section
variable {S : Src} {w : World} {x : St} {rb b : Nat} {wr w2 : World} {xc x2 : St} {an : Option Addr} {nn cn : Nat} {p : ER} {sa : Option Addr} {ns cs : Nat} {at' : Int} {t : Tree}
theorem ItR.step (h : ItR S w x rb b wr xc an nn cn p sa ns cs at' t) (g : Go1 S wr xc w2 x2) (hp : S.pb < w.heap.size) : ItR S w x rb b w2 x2 an nn cn p sa ns cs at' t := ⟨h.r.step g hp, h.e.kb g.kb fun z hz => by omega⟩
theorem ItR.alloc (h : ItR S w x rb b wr xc an nn cn p sa ns cs at' t) (o : Obj) : ItR S w x rb b (wr.alloc o) xc an nn cn p sa ns cs at' t := ⟨h.r.alloc o, h.e.alloc o⟩
theorem ItR.drew (h : ItR S w x rb b wr xc an nn cn p sa ns cs at' t) : ItR S w x rb b wr.drew xc an nn cn p sa ns cs at' t :=
  ⟨⟨⟨h.r.g.ps.drew, h.r.g.kb.drew, h.r.g.le, h.r.g.er⟩, h.r.hr, h.r.hb, h.r.ne, h.r.r0, h.r.a⟩, h.e.drew⟩
theorem ItR.setN (h : ItR S w x rb b wr xc an nn cn p sa ns cs at' t) (hp : S.pb < w.heap.size) (ht : S.tb < w.heap.size) (a : Option Addr) (n c : Nat) : ItR S w x rb b (wr.setCell ⟨b, 0, none⟩ (.slice a n c)) xc a n c p sa ns cs at' t :=
  ⟨h.r.set hp ht 0 _ _ rfl, h.e.setCell (a := ⟨b, 0, none⟩) (fun z hz => hz.2.2) _⟩
theorem ItR.setS (h : ItR S w x rb b wr xc an nn cn p sa ns cs at' t) (hp : S.pb < w.heap.size) (ht : S.tb < w.heap.size) (a : Option Addr) (n c : Nat) : ItR S w x rb b (wr.setCell ⟨b, 10, none⟩ (.slice a n c)) xc an nn cn p a n c at' t :=
  ⟨h.r.set hp ht 10 _ _ rfl, h.e.setCell (a := ⟨b, 10, none⟩) (fun z hz => hz.2.2) _⟩
/-- The expression is put in. -/
theorem ItR.setE (h : ItR S w x rb b wr xc an nn cn p sa ns cs at' t) (g : Go1 S wr xc w2 x2) (hp : S.pb < w.heap.size) (ht : S.tb < w.heap.size) {q : ER} {u : Tree} (hE : IsExp (wr.heap.size ≤ ·) w2 q u) : ItR S w x rb b (putE w2 b q) x2 an nn cn q sa ns cs at' u := by
  have h1 := lt_of_block h.r.r0
  have h2 := lt_of_block h.r.a
  have h4 := h.r.g.kb.size
  have hf : ∀ z, wr.heap.size ≤ z → z ≠ b := fun z hz => by omega
  have H := ((((((((((h.r.step g hp).set hp ht 1 (.int .i64 q.f) _ rfl).set hp ht 2 (.int .i64 q.s) _ rfl).set hp ht 3 (.string q.nm) _ rfl).set hp ht 4 (.int .i64 q.tk) _ rfl).set hp ht 5 (.int .i64 q.tl) _ rfl).set hp ht 6 (.int .i64 q.n) _ rfl).set hp ht 7 (.int .i64 q.m) _ rfl).set hp ht 8 (.slice q.ka q.kl q.kc) _ rfl).set hp ht 9 (.int .i64 q.at') _ rfl)
  simp only [itemRow, List.setIfInBounds_toArray, List.set_cons_succ, List.set_cons_zero] at H
  refine ⟨H, ?_⟩
  unfold putE
  exact (((((((((hE.setCell (a := ⟨b, 1, none⟩) hf _).setCell (a := ⟨b, 2, none⟩) hf _).setCell (a := ⟨b, 3, none⟩) hf _).setCell (a := ⟨b, 4, none⟩) hf _).setCell (a := ⟨b, 5, none⟩) hf _).setCell (a := ⟨b, 6, none⟩) hf _).setCell (a := ⟨b, 7, none⟩) hf _).setCell (a := ⟨b, 8, none⟩) hf _).setCell (a := ⟨b, 9, none⟩) hf _).mono fun z hz => by refine ⟨?_, ?_, ?_⟩ <;> omega
/-- The end: the item is copied into the result. -/
theorem ItR.fin (h : ItR S w x rb b wr xc an nn cn p sa ns cs at' t) (hp : S.pb < w.heap.size) (ht : S.tb < w.heap.size) (hc : xc.e = 0 → t.cnt ≤ 20000) (hpr : xc.e = 0 → x.at' < xc.at') :
    (put12 wr rb an nn cn p sa ns cs at').heap[rb]? = some (.cells (itemRow an nn cn p sa ns cs at') 48 (0, 0)) ∧ Go1 S w x (put12 wr rb an nn cn p sa ns cs at') xc ∧ ItemV (xc.e = 0) (w.heap.size ≤ ·) (put12 wr rb an nn cn p sa ns cs at') (.agg (itemRow an nn cn p sa ns cs at')) ∧ Prog x xc := by
  have hf : ∀ z, (w.heap.size ≤ z ∧ z ≠ rb ∧ z ≠ b) → z ≠ rb := fun z hz => hz.2.1
  have H := ((((((((((((h.r.res hp ht 0 (.slice an nn cn) _ rfl).res hp ht 1 (.int .i64 p.f) _ rfl).res hp ht 2 (.int .i64 p.s) _ rfl).res hp ht 3 (.string p.nm) _ rfl).res hp ht 4 (.int .i64 p.tk) _ rfl).res hp ht 5 (.int .i64 p.tl) _ rfl).res hp ht 6 (.int .i64 p.n) _ rfl).res hp ht 7 (.int .i64 p.m) _ rfl).res hp ht 8 (.slice p.ka p.kl p.kc) _ rfl).res hp ht 9 (.int .i64 p.at') _ rfl).res hp ht 10 (.slice sa ns cs) _ rfl).res hp ht 11 (.int .i64 at') _ rfl)
  simp only [izero, List.setIfInBounds_toArray, List.set_cons_succ, List.set_cons_zero] at H
  refine ⟨H.r0, H.g, .mk an nn cn p sa ns cs at' t ?_ hc, hpr⟩
  unfold put12
  exact ((((((((((((h.e.setCell (a := ⟨rb, 0, none⟩) hf _).setCell (a := ⟨rb, 1, none⟩) hf _).setCell (a := ⟨rb, 2, none⟩) hf _).setCell (a := ⟨rb, 3, none⟩) hf _).setCell (a := ⟨rb, 4, none⟩) hf _).setCell (a := ⟨rb, 5, none⟩) hf _).setCell (a := ⟨rb, 6, none⟩) hf _).setCell (a := ⟨rb, 7, none⟩) hf _).setCell (a := ⟨rb, 8, none⟩) hf _).setCell (a := ⟨rb, 9, none⟩) hf _).setCell (a := ⟨rb, 10, none⟩) hf _).setCell (a := ⟨rb, 11, none⟩) hf _).mono fun z hz => hz.1
end
/-- The expression that is none yet. -/
def zt : Tree := .node 0 ⟨#[]⟩ 0 (fun _ => .none)
theorem zero_leaf (B : Nat → Prop) (w : World) : IsExp B w ER.zero zt := .mk ER.zero 0 (fun _ => ER.zero) (fun _ => .none) (.inl ⟨rfl, _, _, rfl⟩) (fun i hi => absurd hi (Nat.not_lt_zero i))
theorem zt_cnt : zt.cnt = 1 := rfl
theorem ItR.grown {S : Src} {w : World} {x : St} {rb b : Nat} {wr w2 : World} {xc : St} {an : Option Addr} {nn cn : Nat} {sa : Option Addr} {ns cs : Nat} {at' : Int} (h : ItR S w x rb b wr xc an nn cn ER.zero sa ns cs at' zt) {row : Option Nat} (hg : wr.grownBy w2 row) (hpl : S.pb < w.heap.size) (htl : S.tb < w.heap.size) {lo : Nat} (hrow : ∀ z, row = some z → lo ≤ z) (hlo : w.heap.size ≤ lo ∧ rb < lo ∧ b < lo) : ItR S w x rb b w2 xc an nn cn ER.zero sa ns cs at' zt := by
  have h1 := lt_of_block h.r.r0
  have h2 := lt_of_block h.r.a
  have h4 := h.r.g.kb.size
  have hs : ∀ z, z < lo → some z ≠ row := fun z hz e => by have := hrow z e.symm; omega
  exact ⟨⟨⟨h.r.g.ps.of_same (hg.block _ (by omega) (hs _ (by omega))) (hg.block _ (by omega) (hs _ (by omega))),
    ⟨hg.os.trans h.r.g.kb.os, hg.output.trans h.r.g.kb.output, Nat.le_trans h4 hg.size, fun k hk hn => (hg.block k (by omega) (hs _ (by omega))).trans (h.r.g.kb.same k hk hn)⟩, h.r.g.le, h.r.g.er⟩,
    h.r.hr, h.r.hb, h.r.ne, (hg.block _ h1 (hs _ hlo.2.1)).trans h.r.r0, (hg.block _ h2 (hs _ hlo.2.2)).trans h.r.a⟩, zero_leaf _ _⟩

/-- In the loops of item: the list in the cell j is the call's own. -/
structure ItL (T : TypeId) (sz : Nat) (S : Src) (w : World) (x : St) (rb b lo : Nat) (wr : World) (xc : St) (an : Option Addr) (nn cn : Nat) (sa : Option Addr) (ns cs : Nat) (at' : Int) (v : Value) (n : Nat) : Prop where
  i : ItR S w x rb b wr xc an nn cn ER.zero sa ns cs at' zt
  l : PL T sz lo wr n v
  lo : w.heap.size ≤ lo ∧ rb < lo ∧ b < lo ∧ lo ≤ wr.heap.size
section
variable {T : TypeId} {sz : Nat} {S : Src} {w : World} {x : St} {rb b lo : Nat} {wr w2 : World} {xc x2 : St} {an : Option Addr} {nn cn : Nat} {sa : Option Addr} {ns cs : Nat} {at' : Int} {v : Value} {n : Nat}
theorem ItL.step (h : ItL T sz S w x rb b lo wr xc an nn cn sa ns cs at' v n) (g : Go1 S wr xc w2 x2) (hp : S.pb < w.heap.size) : ItL T sz S w x rb b lo w2 x2 an nn cn sa ns cs at' v n :=
  ⟨h.i.step g hp, h.l.frame fun z hz hl => g.kb.same z hl (by have := h.lo; omega), h.lo.1, h.lo.2.1, h.lo.2.2.1, Nat.le_trans h.lo.2.2.2 g.kb.size⟩
theorem ItL.drew (h : ItL T sz S w x rb b lo wr xc an nn cn sa ns cs at' v n) : ItL T sz S w x rb b lo wr.drew xc an nn cn sa ns cs at' v n := ⟨h.i.drew, h.l.frame fun _ _ _ => rfl, h.lo⟩
theorem ItL.alloc (h : ItL T sz S w x rb b lo wr xc an nn cn sa ns cs at' v n) (o : Obj) : ItL T sz S w x rb b lo (wr.alloc o) xc an nn cn sa ns cs at' v n :=
  ⟨h.i.alloc o, h.l.frame fun _ _ hl => Below.heap_alloc _ _ _ hl, h.lo.1, h.lo.2.1, h.lo.2.2.1, by have := h.lo.2.2.2; simp; omega⟩
end
end Go.Pa
