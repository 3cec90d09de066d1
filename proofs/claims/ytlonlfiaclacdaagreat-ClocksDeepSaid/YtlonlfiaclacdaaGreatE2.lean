/- Part of the proof of ClocksDeep (own work). -/
import Derived.Test.YtlonlfiaclacdaaGreatE1
import Derived.WalkKit
import Derived.OneCell
import Derived.Deep.LoopGhost
import Derived.Deep.QuietTactic
import Derived.BigQuiet
import Derived.StillTailTactics
import Derived.BigRegion
import Derived.Deep.AppendLies
set_option linter.all false
set_option maxRecDepth 100000
namespace Go.Vi
open Go.Proofs
theorem back_item {s : St} {f s1 tk tl i m at1 at' : Int} {nm : ByteArray} {nv kv sv : PV} {rn rk rs : List (List PV)} (hn : nv.data = some (.lst rn)) (hk : kv.data = some (.lst rk)) (hs : sv.data = some (.lst rs)) :
    (bif Nat.beq 0 0 then back0 (tupP [.agg [nv, .int .i64 f, .int .i64 s1, .str nm, .int .i64 tk, .int .i64 tl, .int .i64 i, .int .i64 m, kv, .int .i64 at1, sv, .int .i64 at']]) else backV 0 s (tupP [.agg [nv, .int .i64 f, .int .i64 s1, .str nm, .int .i64 tk, .int .i64 tl, .int .i64 i, .int .i64 m, kv, .int .i64 at1, sv, .int .i64 at']])) =
      some (.agg [.lst rn, .int .i64 f, .int .i64 s1, .str nm, .int .i64 tk, .int .i64 tl, .int .i64 i, .int .i64 m, .lst rk, .int .i64 at1, .lst rs, .int .i64 at']) := by
  have : datas [nv, .int .i64 f, .int .i64 s1, .str nm, .int .i64 tk, .int .i64 tl, .int .i64 i, .int .i64 m, kv, .int .i64 at1, sv, .int .i64 at'] = some [.lst rn, .int .i64 f, .int .i64 s1, .str nm, .int .i64 tk, .int .i64 tl, .int .i64 i, .int .i64 m, .lst rk, .int .i64 at1, .lst rs, .int .i64 at'] := by
    simp only [datas, hn, hk, hs]
    rfl
  show back0 (.agg _) = _
  simp only [back0, back1, this]
theorem name_rows_len {l : List ByteArray} : ∀ r ∈ l.map nameRow, r.length = 1 := by
  intro r hr
  obtain ⟨x, _, rfl⟩ := List.mem_map.1 hr
  rfl
attribute [local irreducible] qAsg qPick qBox qBuild qBsl qLoad1 qLoadN qStore qNil qBin qUn qConv qSlS qSlL qFA qF1 qFN qIA qIS qEx qLenS qLenL qApp pQ pQL pGL pCall pCallL condP optP pEnd OpS Int.instDecidableEq Int.decEq instBEqOfDecidableEq
section
variable {L : List PT} {a e b n a0 e0 : Int}
end
end Go.Vi
namespace Go.Vi
open Go.Proofs
attribute [local irreducible] qAsg qPick qBox qBuild qBsl qLoad1 qLoadN qStore qNil qBin qUn qConv qSlS qSlL qFA qF1 qFN qIA qIS qEx qLenS qLenL qApp pQ pQL pGL pCall pCallL condP optP pEnd OpS Int.instDecidableEq Int.decEq instBEqOfDecidableEq
attribute [local irreducible] c162j212 c162j190 c162j161 c162j58 c162j104
section
variable {L : List PT} {a e b n a0 e0 : Int}
theorem tok_pc (ha : At L a) : PC Tryz.prog 119 [.ptr 0 0] [cells L a e b n] (.agg (tokAt L a).row) [cells L a e b n] := by
  obtain ⟨r, c, hpc, a', e', b', n', hc, hr, h1, h2, h3, h4⟩ := tok_pf (b := b) (n := n) (e := e) (a := a) ha
  rw [h1, h2, h3, h4] at hc; rw [hr, hc] at hpc
  exact hpc
end
end Go.Vi
namespace Go.Vi
open Go.Proofs
attribute [local irreducible] qAsg qPick qBox qBuild qBsl qLoad1 qLoadN qStore qNil qBin qUn qConv qSlS qSlL qFA qF1 qFN qIA qIS qEx qLenS qLenL qApp pQ pQL pGL pCall pCallL condP optP pEnd OpS Int.instDecidableEq Int.decEq instBEqOfDecidableEq
attribute [local irreducible] c162j212 c162j190 c162j161 c162j58 c162j104
section
variable {L : List PT} {a e b n : Int}
theorem item_rows_len {l : List Item} : ∀ r ∈ l.map Item.row, r.length = 12 := by
  intro r hr
  obtain ⟨x, _, rfl⟩ := List.mem_map.1 hr
  exact x.row_len
theorem item_row_mk {names : List ByteArray} {f s tk tl i m at1 at' : Int} {nm : ByteArray} {kids : List Exp} {states : List State} : (Item.mk names (.mk f s nm tk tl i m kids at1) states at').row = [.lst (names.map nameRow), .int .i64 f, .int .i64 s, .str nm, .int .i64 tk, .int .i64 tl, .int .i64 i, .int .i64 m, .lst (Exp.rows kids), .int .i64 at1, .lst (states.map State.row), .int .i64 at'] := by
  rw [Item.row_eq]
  simp only [Item.names, Item.e, Item.states, Item.at', Exp.row]
  rfl
end
end Go.Vi
namespace Go.Vi
open Go.Proofs
theorem back_node {s : St} {nm : ByteArray} {at' : Int} {bi : Nat} {v1 v2 v3 : PV} {r1 r2 r3 ri : List (List PV)} (h1 : v1.data = some (.lst r1)) (h2 : v2.data = some (.lst r2)) (h3 : v3.data = some (.lst r3)) :
    (bif Nat.beq 0 0 then back0 (tupP [.agg [.str nm, v1, v2, v3, .acc bi ri, .int .i64 at']]) else backV 0 s (tupP [.agg [.str nm, v1, v2, v3, .acc bi ri, .int .i64 at']])) =
      some (.agg [.str nm, .lst r1, .lst r2, .lst r3, .lst ri, .int .i64 at']) := by
  have : datas [.str nm, v1, v2, v3, .acc bi ri, .int .i64 at'] = some [.str nm, .lst r1, .lst r2, .lst r3, .lst ri, .int .i64 at'] := by
    simp only [datas, h1, h2, h3]
    rfl
  show back0 (.agg _) = _
  simp only [back0, back1, this]
attribute [local irreducible] qAsg qPick qBox qBuild qBsl qLoad1 qLoadN qStore qNil qBin qUn qConv qSlS qSlL qFA qF1 qFN qIA qIS qEx qLenS qLenL qApp pQ pQL pGL pCall pCallL condP optP pEnd OpS Int.instDecidableEq Int.decEq instBEqOfDecidableEq
attribute [local irreducible] c123j26 c123j49
section
variable {L : List PT} {a e b n a0 e0 : Int}
end
end Go.Vi
namespace Go.Vi
open Go.Proofs
attribute [local irreducible] qAsg qPick qBox qBuild qBsl qLoad1 qLoadN qStore qNil qBin qUn qConv qSlS qSlL qFA qF1 qFN qIA qIS qEx qLenS qLenL qApp pQ pQL pGL pCall pCallL condP optP pEnd OpS Int.instDecidableEq Int.decEq instBEqOfDecidableEq
attribute [local irreducible] c107j4
section
variable {L : List PT} {a e b n a0 e0 : Int}
theorem node_row_mk {nm : ByteArray} {ins outs locals : List Var} {items : List Item} {at' : Int} : (Node.mk nm ins outs locals items at').row = [.str nm, .lst (ins.map Var.row), .lst (outs.map Var.row), .lst (locals.map Var.row), .lst (items.map Item.row), .int .i64 at'] := by
  simp only [Node.row, Item.rows_map]
end
end Go.Vi
namespace Go.Vi
open Go.Proofs
theorem resL2 {r : Option PV} {v u : PV} (h : r = some v) : resL [r, some u] = some [v, u] := by subst h; rfl
theorem o_sl2 {s : St} {t : ByteArray} {i k : Int} (h0 : 0 ≤ i) (h1 : i ≤ k) (h2 : k ≤ t.size) : OpS (qSlS true true (.str t) [.int .i64 i, .int .i64 k]) s (.str (t.extract i.toNat k.toNat)) s [] [] := by
  have hn : natOf (.int .i64 i) = some i.toNat := by simp only [natOf]; rw [if_pos h0]
  have hn2 : natOf (.int .i64 k) = some k.toNat := by simp only [natOf]; rw [if_pos (by omega)]
  exact o_slS (r1 := [.int .i64 k]) (r2 := []) (a := some i.toNat) (c := some k.toNat) (by simp only [takeB, hn]) (by simp only [takeB, hn2]) (by show k.toNat ≤ t.size; omega) (by show i.toNat ≤ k.toNat; omega)
attribute [local irreducible] qAsg qPick qBox qBuild qBsl qLoad1 qLoadN qStore qNil qBin qUn qConv qSlS qSlL qFA qF1 qFN qIA qIS qEx qLenS qLenL qApp pQ pQL pGL pCall pCallL condP optP pEnd OpS Int.instDecidableEq Int.decEq instBEqOfDecidableEq
attribute [local irreducible] c118j38 c118j8 c118j104 c118j92
section
variable {Q : PV → List (List PV) → Prop} {t : ByteArray} {i : Int}
end
end Go.Vi
namespace Go.Vi
open Go.Proofs
theorem pt_rows_len {l : List PT} : ∀ r ∈ l.map PT.row, r.length = 6 := by
  intro r hr
  obtain ⟨x, _, rfl⟩ := List.mem_map.1 hr
  rfl
theorem toks_mk {l : List PT} {z : PT} (hl : l.length < 20000) (hw : ∀ x ∈ l, x.kind ≠ 5 ∧ 0 ≤ x.tk ∧ x.tk ≤ 9 ∧ x.tl = 0) (hz : z.kind = 5) (hk : 0 ≤ z.tk ∧ z.tk ≤ 9 ∧ z.tl = 0) : Toks (l ++ [z]) := by
  have key : ∀ a, At (l ++ [z]) a → (a < l.length ∧ tokAt (l ++ [z]) a ∈ l) ∨ (a = l.length ∧ tokAt (l ++ [z]) a = z) := by
    intro a ha
    unfold At at ha
    simp at ha
    unfold tokAt
    by_cases h : a < l.length
    · refine .inl ⟨h, ?_⟩
      have : a.toNat < l.length := by omega
      rw [List.getD_eq_getElem?_getD, List.getElem?_append_left this, List.getElem?_eq_getElem this]
      simp
    · refine .inr ⟨by omega, ?_⟩
      have : a.toNat = l.length := by omega
      rw [List.getD_eq_getElem?_getD, this]
      simp
  refine ⟨by simp, by simp; omega, ?_, ?_, ?_⟩
  · intro a ha hne
    rcases key a ha with ⟨h, _⟩ | ⟨_, h⟩
    · simp; omega
    · rw [h] at hne; exact absurd hz hne
  · intro a ha
    rcases key a ha with ⟨_, h⟩ | ⟨_, h⟩
    · exact ⟨(hw _ h).2.1, (hw _ h).2.2.1⟩
    · rw [h]; exact ⟨hk.1, hk.2.1⟩
  · intro a ha
    rcases key a ha with ⟨_, h⟩ | ⟨_, h⟩
    · exact (hw _ h).2.2.2
    · rw [h]; exact hk.2.2
theorem resL3' {r : Option PV} {v b c : PV} (h : r = some v) : resL [r, some b, some c] = some [v, b, c] := by subst h; rfl
theorem resL3 {a b c : PV} : resL [some a, some b, some c] = some [a, b, c] := rfl
attribute [local irreducible] qAsg qPick qBox qBuild qBsl qLoad1 qLoadN qStore qNil qBin qUn qConv qSlS qSlL qFA qF1 qFN qIA qIS qEx qLenS qLenL qApp pQ pQL pGL pCall pCallL condP optP pEnd OpS Int.instDecidableEq Int.decEq instBEqOfDecidableEq
attribute [local irreducible] c106j17 c106j28
section
variable {t : ByteArray}
end
end Go.Vi
namespace Go.Vi
open Go Go.RowKit Go.Proofs
structure Hd (L : List PT) (B0 : Nat) (K : KK) (w : World) (a e b n : Int) : Prop where
  fro : FroK K w
  kb : K B0 = none
  own : ∃ v0 ty, DR K (.lst (L.map PT.row)) v0 ∧ w.heap[B0]? = some (.cells #[v0, .int .i64 a, .int .i64 e, .int .i64 b, .int .i64 n] ty (0, 0))
structure St1 (B0 : Nat) (K : KK) (w : World) (K' : KK) (w' : World) : Prop where
  le : Kle K K'
  old : ∀ B ks, K' B = some ks → B < w.heap.size → K B = some ks
  size : w.heap.size ≤ w'.heap.size
  same : ∀ B, B < w.heap.size → B ≠ B0 → w'.heap[B]? = w.heap[B]?
  os : w'.os = w.os
  output : w'.output = w.output
theorem DRs.one_inv {K : KK} {a : PV} {l' : List Value} (h : DRs K [a] l') : ∃ v, l' = [v] ∧ DR K a v := by
  cases h with | cons _ v _ l h1 h2 => cases h2; exact ⟨v, rfl, h1⟩
theorem DRs.cons_inv {K : KK} {a : PV} {l : List PV} {l' : List Value} (h : DRs K (a :: l) l') : ∃ v r, l' = v :: r ∧ DR K a v ∧ DRs K l r := by
  cases h with | cons _ v _ r h1 h2 => exact ⟨v, r, rfl, h1, h2⟩
theorem dr_int {K : KK} {k : IntKind} {i : Int} {v : Value} (h : DR K (.int k i) v) : v = .int k i := by cases h; rfl
theorem dr_bool {K : KK} {c : Bool} {v : Value} (h : DR K (.bool c) v) : v = .bool c := by cases h; rfl
theorem dr_str {K : KK} {c : ByteArray} {v : Value} (h : DR K (.str c) v) : v = .string c := by cases h; rfl
theorem cells_inv {K : KK} {L : List PT} {a e b n : Int} {l : List Value} (h : DRs K (cells L a e b n) l) : ∃ v0, DR K (.lst (L.map PT.row)) v0 ∧ l = [v0, .int .i64 a, .int .i64 e, .int .i64 b, .int .i64 n] := by
  obtain ⟨v0, l1, rfl, h0, h⟩ := h.cons_inv
  obtain ⟨v1, l2, rfl, h1, h⟩ := h.cons_inv
  obtain ⟨v2, l3, rfl, h2, h⟩ := h.cons_inv
  obtain ⟨v3, l4, rfl, h3, h⟩ := h.cons_inv
  obtain ⟨v4, rfl, h4⟩ := h.one_inv
  rw [dr_int h1, dr_int h2, dr_int h3, dr_int h4]
  exact ⟨v0, h0, rfl⟩
theorem Hd.conts {L : List PT} {B0 : Nat} {K : KK} {w : World} {a e b n : Int} (h : Hd L B0 K w a e b n) : Conts K w [B0] [cells L a e b n] := by
  obtain ⟨v0, ty, h0, h1⟩ := h.own
  exact .cons _ _ _ _ _ ty h.kb h1 (.cons _ _ _ _ h0 (.cons _ _ _ _ (.int _ _) (.cons _ _ _ _ (.int _ _) (.cons _ _ _ _ (.int _ _) (.cons _ _ _ _ (.int _ _) .nil))))) .nil
theorem Hd.of {L : List PT} {B0 : Nat} {K : KK} {w : World} {a e b n : Int} (hf : FroK K w) (h : Conts K w [B0] [cells L a e b n]) : Hd L B0 K w a e b n := by
  cases h with | cons _ _ _ _ vs ty hk hw hd hr =>
  obtain ⟨v0, h0, h1⟩ := cells_inv hd
  have hvs : vs = #[v0, .int .i64 a, .int .i64 e, .int .i64 b, .int .i64 n] := by rw [← Array.toArray_toList (xs := vs), h1]
  exact ⟨hf, hk, v0, ty, h0, by rw [hw, hvs]⟩
theorem Came.st1 {K K' : KK} {w w' : World} {B0 : Nat} {r : PV} {c : List (List PV)} {v : Value} (h : Came K w [B0] r c K' v w') : St1 B0 K w K' w' :=
  ⟨h.le, h.old, h.size, fun B hB hn => h.same B hB (by simpa using hn), h.os, h.output⟩
def Got (L : List PT) (B0 : Nat) (K : KK) (w : World) (a e b n : Int) (r : PV) (en : Ending) (w' : World) : Prop :=
  ∃ K' v, en = .returned v ∧ Hd L B0 K' w' a e b n ∧ St1 B0 K w K' w' ∧ RR K' w' w.heap.size r v
section
variable {L : List PT} {B0 : Nat} {K : KK} {w : World} {a e b n a' e' b' n' : Int} {f : Nat} {r x y : PV} {u v : Value}
theorem hdN {args : List PV} {cargs : List Value} (hd : Hd L B0 K w a e b n) (h : PC Tryz.prog f (.ptr 0 0 :: args) [cells L a e b n] r [cells L a' e' b' n']) (ha : ARs K [B0] args cargs) : Calls Tryz.prog f (.pointer (some ⟨B0, 0, none⟩) :: cargs).toArray w (Got L B0 K w a' e' b' n' r) :=
  callsIn_wide.1 ((h K w [B0] (.pointer (some ⟨B0, 0, none⟩) :: cargs) hd.fro hd.conts (by simp) (.cons _ _ _ _ (.ptr 0 B0 rfl) ha)).mono fun en w' ⟨K', v, h1, h2⟩ => ⟨K', v, h1, .of h2.fro h2.conts, h2.st1, h2.val⟩)
theorem hd0 (hd : Hd L B0 K w a e b n) (h : PC Tryz.prog f [.ptr 0 0] [cells L a e b n] r [cells L a' e' b' n']) : Calls Tryz.prog f #[.pointer (some ⟨B0, 0, none⟩)] w (Got L B0 K w a' e' b' n' r) := hdN hd h .nil
theorem hd1 (hd : Hd L B0 K w a e b n) (h : PC Tryz.prog f [.ptr 0 0, x] [cells L a e b n] r [cells L a' e' b' n']) (hx : DR K x u) : Calls Tryz.prog f #[.pointer (some ⟨B0, 0, none⟩), u] w (Got L B0 K w a' e' b' n' r) := hdN hd h (.cons _ _ _ _ (.data _ _ hx) .nil)
theorem hd2 (hd : Hd L B0 K w a e b n) (h : PC Tryz.prog f [.ptr 0 0, x, y] [cells L a e b n] r [cells L a' e' b' n']) (hx : DR K x u) (hy : DR K y v) : Calls Tryz.prog f #[.pointer (some ⟨B0, 0, none⟩), u, v] w (Got L B0 K w a' e' b' n' r) := hdN hd h (.cons _ _ _ _ (.data _ _ hx) (.cons _ _ _ _ (.data _ _ hy) .nil))
theorem rr_bool {base : Nat} {c : Bool} {v : Value} (h : RR K w base (.bool c) v) : v = .bool c := by
  cases h with | one _ _ h => cases h with | data _ _ h => exact dr_bool h
theorem rr_int {base : Nat} {k : IntKind} {c : Int} {v : Value} (h : RR K w base (.int k c) v) : v = .int k c := by
  cases h with | one _ _ h => cases h with | data _ _ h => exact dr_int h
theorem rr_str {base : Nat} {c : ByteArray} {v : Value} (h : RR K w base (.str c) v) : v = .string c := by
  cases h with | one _ _ h => cases h with | data _ _ h => exact dr_str h
theorem rr_unit {base : Nat} {v : Value} (h : RR K w base (.tuple []) v) : v = .tuple #[] := by
  cases h with
  | one _ _ h => cases h with | data _ _ h => cases h
  | tuple _ l h => cases h; rfl
theorem rr_tok {base : Nat} {t : PT} {v : Value} (h : RR K w base (.agg t.row) v) : v = .agg #[.int .i64 t.kind, .string t.text, .int .i64 t.n, .int .i64 t.tk, .int .i64 t.tl, .int .i64 t.at'] := by
  cases h with | one _ _ h => cases h with
  | data _ _ h => cases h
  | agg _ l h =>
    obtain ⟨v0, l1, rfl, h0, h⟩ := h.cons_inv
    obtain ⟨v1, l2, rfl, h1, h⟩ := h.cons_inv
    obtain ⟨v2, l3, rfl, h2, h⟩ := h.cons_inv
    obtain ⟨v3, l4, rfl, h3, h⟩ := h.cons_inv
    obtain ⟨v4, l5, rfl, h4, h⟩ := h.cons_inv
    obtain ⟨v5, rfl, h5⟩ := h.one_inv
    rw [dr_int h0, dr_str h1, dr_int h2, dr_int h3, dr_int h4, dr_int h5]
theorem Hd.lt (h : Hd L B0 K w a e b n) : B0 < w.heap.size := by
  obtain ⟨v0, ty, _, h1⟩ := h.own
  exact lt_of_block h1
theorem Hd.c2 (h : Hd L B0 K w a e b n) : w.cell? ⟨B0, 2, none⟩ = some (.int .i64 e) := by
  obtain ⟨v0, ty, _, h1⟩ := h.own
  simp [World.cell?, h1]
theorem Hd.frame {w' : World} (h : Hd L B0 K w a e b n) (hs : ∀ B, B = B0 ∨ (∃ ks, K B = some ks) → w'.heap[B]? = w.heap[B]?) : Hd L B0 K w' a e b n := by
  obtain ⟨v0, ty, h0, h1⟩ := h.own
  exact ⟨fun B ks hk => by
    obtain ⟨vs, ty, fz, h2, h3⟩ := h.fro B ks hk
    exact ⟨vs, ty, fz, (hs B (.inr ⟨ks, hk⟩)).trans h2, h3⟩, h.kb, v0, ty, h0, (hs B0 (.inl rfl)).trans h1⟩
theorem Hd.klt (h : Hd L B0 K w a e b n) {B : Nat} {ks : List Value} (hk : K B = some ks) : B < w.heap.size := by
  obtain ⟨vs, ty, _, h2, h3⟩ := h.fro B ks hk
  exact lt_of_block h2
end
section
variable {w w' : World} {lo : Nat} {e : TypeId} {size : Nat} {v : Value} {n : Nat} {xs : List Value}
theorem own_form (h : w.ownsRow lo e size v n xs) : ∃ a c, v = .slice a n c := by
  rcases h.2 with ⟨rfl, rfl⟩ | ⟨g, cap, cur, rfl, _⟩
  · exact ⟨_, _, rfl⟩
  · exact ⟨_, _, rfl⟩
theorem own_frame (h : w.ownsRow lo e size v n xs) (hs : ∀ b, v.ownBlock = some b → w'.heap[b]? = w.heap[b]?) : w'.ownsRow lo e size v n xs := by
  refine ⟨h.1, ?_⟩
  rcases h.2 with hn | ⟨g, cap, cur, rfl, hb, hgg, rest⟩
  · exact .inl hn
  · exact .inr ⟨g, cap, cur, rfl, hb, (hs g rfl).trans hgg, rest⟩
theorem heap_setCell_self {b o : Nat} {cur : Array Value} {e : TypeId} {fz : Nat × Nat} (h : w.heap[b]? = some (.cells cur e fz)) (u : Value) :
    (w.setCell ⟨b, o, none⟩ u).heap[b]? = some (.cells (cur.setIfInBounds o u) e fz) := by
  have hlt := lt_of_block h
  have h' : w.heap[b] = .cells cur e fz := by simpa [Array.getElem?_eq_getElem hlt] using h
  show (w.heap.modify b _)[b]? = _
  rw [Array.getElem?_eq_getElem (by simpa using hlt), Array.getElem_modify_self, h']
  rfl
theorem own_store (h : w.ownsRow lo e size v n xs) {g : Nat} (hg : v.ownBlock = some g) (j : Nat) (u : Value) : (w.setCell ⟨g, j, none⟩ u).ownsRow lo e size v n (xs.set j u) := by
  refine ⟨by rw [List.length_set]; exact h.1, ?_⟩
  rcases h.2 with ⟨rfl, _⟩ | ⟨g', cap, cur, rfl, hb, hgg, h1, h2, h3, h4⟩
  · cases hg
  · cases hg
    refine .inr ⟨g', cap, cur.setIfInBounds j u, rfl, hb, heap_setCell_self hgg u, h1, h2, by simpa using h3, ?_⟩
    rw [Array.toList_setIfInBounds, List.take_set, h4]
theorem own_cell (h : w.ownsRow lo e size v n xs) {g : Nat} (hg : v.ownBlock = some g) (j : Nat) (hj : j < n * size) : (∃ u, w.cell? ⟨g, j, none⟩ = some u) ∧ w.frozen? ⟨g, j, none⟩ = false := by
  rcases h.2 with ⟨rfl, _⟩ | ⟨g', cap, cur, rfl, hb, hgg, h1, h2, h3, h4⟩
  · cases hg
  · cases hg
    have hjs : j < cur.size := by rw [h3]; exact Nat.lt_of_lt_of_le hj (Nat.mul_le_mul_right _ h1)
    exact ⟨⟨cur[j], by rw [cell_of_row _ _ _ _ _ _ hgg]; exact Array.getElem?_eq_getElem hjs⟩, frozen_of_row _ _ _ _ _ hgg⟩
theorem alloc_self (w : World) (o : Go.Obj) : (w.alloc o).heap[w.heap.size]? = some o := by show (w.heap.push o)[w.heap.size]? = some o; simp
end
end Go.Vi
namespace Go.Vi
open Go.Proofs
section
variable (L : List PT) (n : Int)
inductive DLoop : Int → Int → Int → Nat → List (ByteArray × Int) → Int → Int → Int → Bool → Prop
  | stop (a e b : Int) (m : Nat) : e ≠ 0 → DLoop a e b m [] a e b false
  | full (a e b a1 e1 b1 : Int) (m : Nat) : At L a → e = 0 → (tokAt L a).kind = 1 → PC Tryz.prog 122 [.ptr 0 0, .int .i64 m, .int .i64 200] [cells L a e b n] (.bool true) [cells L a1 e1 b1 n] → DLoop a e b m [] a1 e1 b1 true
  | one (a e b a1 e1 b1 : Int) (m : Nat) (w : ByteArray) : At L a → e = 0 → ((tokAt L a).kind = 1 → PC Tryz.prog 122 [.ptr 0 0, .int .i64 m, .int .i64 200] [cells L a e b n] (.bool false) [cells L a e b n]) →
      PC Tryz.prog 146 [.ptr 0 0] [cells L a e b n] (.str w) [cells L a1 e1 b1 n] → PC Tryz.prog 148 [.ptr 0 0, .str ⟨#[44]⟩] [cells L a1 e1 b1 n] (.bool false) [cells L a1 e1 b1 n] → DLoop a e b m [(w, (tokAt L a).at')] a1 e1 b1 false
  | more (a e b a1 e1 b1 a2 a' e' b' : Int) (m : Nat) (w : ByteArray) (r : List (ByteArray × Int)) (f : Bool) : At L a → e = 0 → ((tokAt L a).kind = 1 → PC Tryz.prog 122 [.ptr 0 0, .int .i64 m, .int .i64 200] [cells L a e b n] (.bool false) [cells L a e b n]) →
      PC Tryz.prog 146 [.ptr 0 0] [cells L a e b n] (.str w) [cells L a1 e1 b1 n] → PC Tryz.prog 148 [.ptr 0 0, .str ⟨#[44]⟩] [cells L a1 e1 b1 n] (.bool true) [cells L a2 e1 b1 n] → DLoop a2 e1 b1 (m + 1) r a' e' b' f → DLoop a e b m ((w, (tokAt L a).at') :: r) a' e' b' f
inductive DTail : Int → Int → Int → Int → Int → Int → Int → Int → Prop
  | val (a e b a1 e1 b1 a2 e2 b2 : Int) (kd : Int) : PC Tryz.prog 145 [.ptr 0 0, .str ⟨#[58]⟩] [cells L a e b n] (.tuple []) [cells L a1 e1 b1 n] → PC Tryz.prog 163 [.ptr 0 0] [cells L a1 e1 b1 n] (.int .i64 kd) [cells L a2 e2 b2 n] →
      PC Tryz.prog 148 [.ptr 0 0, .str ⟨#[94]⟩] [cells L a2 e2 b2 n] (.bool false) [cells L a2 e2 b2 n] → DTail a e b kd 0 a2 e2 b2
  | arr (a e b a1 e1 b1 a2 e2 b2 a3 a4 e4 b4 : Int) (kd ln : Int) : PC Tryz.prog 145 [.ptr 0 0, .str ⟨#[58]⟩] [cells L a e b n] (.tuple []) [cells L a1 e1 b1 n] → PC Tryz.prog 163 [.ptr 0 0] [cells L a1 e1 b1 n] (.int .i64 kd) [cells L a2 e2 b2 n] →
      PC Tryz.prog 148 [.ptr 0 0, .str ⟨#[94]⟩] [cells L a2 e2 b2 n] (.bool true) [cells L a3 e2 b2 n] → PC Tryz.prog 164 [.ptr 0 0] [cells L a3 e2 b2 n] (.int .i64 ln) [cells L a4 e4 b4 n] → DTail a e b kd ln a4 e4 b4
inductive Decl : Int → Int → Int → Nat → List Var → Int → Int → Int → Prop
  | full (a e b a' e' b' : Int) (m : Nat) (r : List (ByteArray × Int)) : DLoop L n a e b m r a' e' b' true → Decl a e b m (r.map fun x => ⟨x.1, 0, 0, [], x.2⟩) a' e' b'
  | mk (a e b a1 e1 b1 a' e' b' : Int) (m : Nat) (r : List (ByteArray × Int)) (kd ln : Int) : DLoop L n a e b m r a1 e1 b1 false → DTail L n a1 e1 b1 kd ln a' e' b' → Decl a e b m (r.map fun x => ⟨x.1, kd, ln, [], x.2⟩) a' e' b'
end
section
variable {L : List PT} {a e b n : Int}
theorem DTail.inv {kd ln a' e' b' : Int} (h : DTail L n a e b kd ln a' e' b') : (ln = 0 ∧ ∃ a1 e1 b1, PC Tryz.prog 145 [.ptr 0 0, .str ⟨#[58]⟩] [cells L a e b n] (.tuple []) [cells L a1 e1 b1 n] ∧ PC Tryz.prog 163 [.ptr 0 0] [cells L a1 e1 b1 n] (.int .i64 kd) [cells L a' e' b' n] ∧
      PC Tryz.prog 148 [.ptr 0 0, .str ⟨#[94]⟩] [cells L a' e' b' n] (.bool false) [cells L a' e' b' n]) ∨
    ∃ a1 e1 b1 a2 e2 b2 a3, PC Tryz.prog 145 [.ptr 0 0, .str ⟨#[58]⟩] [cells L a e b n] (.tuple []) [cells L a1 e1 b1 n] ∧ PC Tryz.prog 163 [.ptr 0 0] [cells L a1 e1 b1 n] (.int .i64 kd) [cells L a2 e2 b2 n] ∧
      PC Tryz.prog 148 [.ptr 0 0, .str ⟨#[94]⟩] [cells L a2 e2 b2 n] (.bool true) [cells L a3 e2 b2 n] ∧ PC Tryz.prog 164 [.ptr 0 0] [cells L a3 e2 b2 n] (.int .i64 ln) [cells L a' e' b' n] := by
  cases h with
  | val => exact .inl ⟨rfl, _, _, _, ‹_›, ‹_›, ‹_›⟩
  | arr => exact .inr ⟨_, _, _, _, _, _, _, ‹_›, ‹_›, ‹_›, ‹_›⟩
theorem DLoop.inv {m : Nat} {r : List (ByteArray × Int)} {a' e' b' : Int} {f : Bool} (h : DLoop L n a e b m r a' e' b' f) : (e ≠ 0 ∧ r = [] ∧ a' = a ∧ e' = e ∧ b' = b ∧ f = false) ∨
    (At L a ∧ e = 0 ∧ (tokAt L a).kind = 1 ∧ r = [] ∧ f = true ∧ PC Tryz.prog 122 [.ptr 0 0, .int .i64 m, .int .i64 200] [cells L a e b n] (.bool true) [cells L a' e' b' n]) ∨
    (At L a ∧ e = 0 ∧ ((tokAt L a).kind = 1 → PC Tryz.prog 122 [.ptr 0 0, .int .i64 m, .int .i64 200] [cells L a e b n] (.bool false) [cells L a e b n]) ∧ ∃ w, r = [(w, (tokAt L a).at')] ∧ f = false ∧
      PC Tryz.prog 146 [.ptr 0 0] [cells L a e b n] (.str w) [cells L a' e' b' n] ∧ PC Tryz.prog 148 [.ptr 0 0, .str ⟨#[44]⟩] [cells L a' e' b' n] (.bool false) [cells L a' e' b' n]) ∨
    (At L a ∧ e = 0 ∧ ((tokAt L a).kind = 1 → PC Tryz.prog 122 [.ptr 0 0, .int .i64 m, .int .i64 200] [cells L a e b n] (.bool false) [cells L a e b n]) ∧ ∃ w a1 e1 b1 a2 r', r = (w, (tokAt L a).at') :: r' ∧
      PC Tryz.prog 146 [.ptr 0 0] [cells L a e b n] (.str w) [cells L a1 e1 b1 n] ∧ PC Tryz.prog 148 [.ptr 0 0, .str ⟨#[44]⟩] [cells L a1 e1 b1 n] (.bool true) [cells L a2 e1 b1 n] ∧ DLoop L n a2 e1 b1 (m + 1) r' a' e' b' f) := by
  cases h with
  | stop => exact .inl ⟨‹_›, rfl, rfl, rfl, rfl, rfl⟩
  | full => exact .inr (.inl ⟨‹_›, ‹_›, ‹_›, rfl, rfl, ‹_›⟩)
  | one => exact .inr (.inr (.inl ⟨‹_›, ‹_›, ‹_›, _, rfl, rfl, ‹_›, ‹_›⟩))
  | more => exact .inr (.inr (.inr ⟨‹_›, ‹_›, ‹_›, _, _, _, _, _, _, rfl, ‹_›, ‹_›, ‹_›⟩))
end
end Go.Vi
namespace Go.Vi
open Go Go.RowKit Go.Proofs
def varCells (l : List Var) : List Value := l.flatMap fun v => [.string v.name, .int .i64 v.tk, .int .i64 v.tl, .slice none 0 0, .int .i64 v.at']
def nameCells (l : List (ByteArray × Int)) : List Value := l.flatMap fun x => [.string x.1, .int .i64 0, .int .i64 0, .slice none 0 0, .int .i64 x.2]
structure Lf (lo B0 : Nat) (K : KK) (w : World) (K' : KK) (w' : World) : Prop where
  le : Kle K K'
  old : ∀ B ks, K' B = some ks → K B = some ks ∨ lo ≤ B
  size : w.heap.size ≤ w'.heap.size
  same : ∀ B, B < lo → B ≠ B0 → w'.heap[B]? = w.heap[B]?
  os : w'.os = w.os
  output : w'.output = w.output
theorem Lf.refl (lo B0 : Nat) (K : KK) (w : World) : Lf lo B0 K w K w := ⟨Kle.refl K, fun _ _ h => .inl h, Nat.le_refl _, fun _ _ _ => rfl, rfl, rfl⟩
structure DcI (L : List PT) (n : Int) (lo B0 : Nat) (K0 : KK) (w0 : World) (K : KK) (w : World) (a e b : Int) (v : Value) (m : Nat) (xs : List Value) : Prop where
  hd : Hd L B0 K w a e b n
  lf : Lf lo B0 K0 w0 K w
  own : w.ownsRow lo 77 5 v m xs
  kn : ∀ g, v.ownBlock = some g → K g = none
  nz : m = 0 → v = .slice none 0 0
section
variable {L : List PT} {n : Int} {lo B0 : Nat} {K0 K K' : KK} {w0 w w' : World} {a e b a' e' b' : Int} {v : Value} {m : Nat} {xs : List Value}
theorem DcI.step (h : DcI L n lo B0 K0 w0 K w a e b v m xs) (hl : lo ≤ w0.heap.size) (hB : B0 < lo) (hd : Hd L B0 K' w' a' e' b' n) (st : St1 B0 K w K' w') : DcI L n lo B0 K0 w0 K' w' a' e' b' v m xs := by
  have hlt : ∀ g, v.ownBlock = some g → lo ≤ g ∧ g < w.heap.size := fun g hg => World.ownsRow.lt h.own g hg
  have hs0 := h.lf.size
  refine ⟨hd, ⟨h.lf.le.trans st.le, fun B ks hk => ?_, Nat.le_trans hs0 st.size, fun B hlo hn => (st.same B (by omega) hn).trans (h.lf.same B hlo hn), st.os.trans h.lf.os, st.output.trans h.lf.output⟩, own_frame h.own fun g hg => ?_, fun g hg => ?_, h.nz⟩
  · by_cases hB' : B < w.heap.size
    · exact h.lf.old B ks (st.old B ks hk hB')
    · exact .inr (by omega)
  · have := hlt g hg
    exact st.same g this.2 (by omega)
  · cases hk : K' g with
    | none => rfl
    | some ks =>
      have := st.old g ks hk (hlt g hg).2
      rw [h.kn g hg] at this; cases this
theorem DcI.new (h : DcI L n lo B0 K0 w0 K w a e b v m xs) (hl : lo ≤ w0.heap.size) (hB : B0 < lo) (o : Go.Obj) : DcI L n lo B0 K0 w0 K (w.alloc o) a e b v m xs :=
  h.step hl hB (h.hd.frame fun B hb => Below.heap_alloc _ _ _ (by rcases hb with rfl | ⟨ks, hk⟩
                                                                  · exact h.hd.lt
                                                                  · exact h.hd.klt hk)) ⟨Kle.refl _, fun _ _ hk _ => hk, by simp, fun B hlt _ => Below.heap_alloc _ _ _ hlt, rfl, rfl⟩
theorem DcI.other (h : DcI L n lo B0 K0 w0 K w a e b v m xs) (hB : B0 < lo) {T : Nat} (hT : lo ≤ T) (hk : K T = none) (hv : v.ownBlock ≠ some T) (j : Nat) (u : Value) : DcI L n lo B0 K0 w0 K (w.setCell ⟨T, j, none⟩ u) a e b v m xs :=
  ⟨h.hd.frame fun B hb => Below.heap_setCell _ _ _ _ (by rcases hb with rfl | ⟨ks, hk'⟩
                                                         · exact fun e => by simp at e; omega
                                                         · exact fun e => by simp at e; rw [e, hk] at hk'; cases hk'), ⟨h.lf.le, h.lf.old, by simpa using h.lf.size, fun B hlo hn => (Below.heap_setCell _ _ _ _ (fun e => by simp at e; omega)).trans (h.lf.same B hlo hn), h.lf.os, h.lf.output⟩,
    own_frame h.own fun g hg => Below.heap_setCell _ _ _ _ (fun e => by simp at e; rw [e] at hg; exact hv hg), h.kn, h.nz⟩
theorem DcI.set (h : DcI L n lo B0 K0 w0 K w a e b v m xs) (hB : B0 < lo) {g : Nat} (hg : v.ownBlock = some g) (j : Nat) (u : Value) : DcI L n lo B0 K0 w0 K (w.setCell ⟨g, j, none⟩ u) a e b v m (xs.set j u) := by
  have hlo := (World.ownsRow.lt h.own g hg).1
  have hk := h.kn g hg
  exact ⟨h.hd.frame fun B hb => Below.heap_setCell _ _ _ _ (by rcases hb with rfl | ⟨ks, hk'⟩
                                                               · exact fun e => by simp at e; omega
                                                               · exact fun e => by simp at e; rw [e, hk] at hk'; cases hk'), ⟨h.lf.le, h.lf.old, by simpa using h.lf.size, fun B hlo' hn => (Below.heap_setCell _ _ _ _ (fun e => by simp at e; omega)).trans (h.lf.same B hlo' hn), h.lf.os, h.lf.output⟩,
    own_store h.own hg j u, h.kn, h.nz⟩
theorem DcI.grown (h : DcI L n lo B0 K0 w0 K w a e b v m xs) (hl : lo ≤ w0.heap.size) (hB : B0 < lo) {w' : World} (hg : w.grownBy w' v.ownBlock) {g cap m' H : Nat} {xs' : List Value} (hown : w'.ownsRow lo 77 5 (.slice (some ⟨g, 0, none⟩) m' cap) m' xs') (hat : v.ownBlock = some g ∨ g = H) (hH : w.heap.size = H) (hm : m' ≠ 0) :
    DcI L n lo B0 K0 w0 K w' a e b (.slice (some ⟨g, 0, none⟩) m' cap) m' xs' := by
  have hs0 := h.lf.size
  have hv : ∀ B, v.ownBlock = some B → lo ≤ B ∧ K B = none := fun B hb => ⟨(World.ownsRow.lt h.own B hb).1, h.kn B hb⟩
  refine ⟨h.hd.frame fun B hb => hg.block B ?_ ?_, ⟨h.lf.le, h.lf.old, Nat.le_trans hs0 hg.size, fun B hlo hn => (hg.block B (by omega) (fun e => by have := (hv B e.symm).1; omega)).trans (h.lf.same B hlo hn), hg.os.trans h.lf.os, hg.output.trans h.lf.output⟩, hown, fun g' hg' => ?_, fun e => absurd e hm⟩
  · rcases hb with rfl | ⟨ks, hk⟩
    · exact h.hd.lt
    · exact h.hd.klt hk
  · intro e
    obtain ⟨h1, h2⟩ := hv B e.symm
    rcases hb with rfl | ⟨ks, hk⟩
    · omega
    · rw [h2] at hk; cases hk
  · have : g' = g := by simpa [Value.ownBlock] using hg'.symm
    rw [this]
    rcases hat with hat | rfl
    · exact (hv g hat).2
    · cases hk : K g with
      | none => rfl
      | some ks => have := h.hd.klt hk; omega
structure DcT (L : List PT) (n : Int) (lo B0 : Nat) (K0 : KK) (w0 : World) (K : KK) (w : World) (a e b : Int) (v : Value) (m : Nat) (xs : List Value) (T : Nat) (kd ln : Int) : Prop where
  i : DcI L n lo B0 K0 w0 K w a e b v m xs
  lo : lo ≤ T
  cell : w.heap[T]? = some (.cells #[.int .i64 kd, .int .i64 ln] 74 (0, 0))
  kn : K T = none
  ne : v.ownBlock ≠ some T
theorem DcI.t (h : DcI L n lo B0 K0 w0 K w a e b v m xs) (hl : lo ≤ w0.heap.size) (hB : B0 < lo) (kd ln : Int) : DcT L n lo B0 K0 w0 K (w.alloc (.cells #[.int .i64 kd, .int .i64 ln] 74)) a e b v m xs w.heap.size kd ln := by
  refine ⟨h.new hl hB _, Nat.le_trans hl h.lf.size, alloc_self _ _, ?_, fun e => ?_⟩
  · cases hk : K w.heap.size with
    | none => rfl
    | some ks => have := h.hd.klt hk; omega
  · have := (World.ownsRow.lt h.own _ e).2; omega
theorem DcT.step {T : Nat} {kd ln : Int} (h : DcT L n lo B0 K0 w0 K w a e b v m xs T kd ln) (hl : lo ≤ w0.heap.size) (hB : B0 < lo) (hd : Hd L B0 K' w' a' e' b' n) (st : St1 B0 K w K' w') : DcT L n lo B0 K0 w0 K' w' a' e' b' v m xs T kd ln := by
  have hlt := lt_of_block h.cell
  have hlo := h.lo
  refine ⟨h.i.step hl hB hd st, hlo, (st.same T hlt (by omega)).trans h.cell, ?_, h.ne⟩
  cases hk : K' T with
  | none => rfl
  | some ks => have := st.old T ks hk hlt; rw [h.kn] at this; cases this
theorem DcT.setT {T : Nat} {kd ln : Int} (h : DcT L n lo B0 K0 w0 K w a e b v m xs T kd ln) (hB : B0 < lo) (ln' : Int) : DcT L n lo B0 K0 w0 K (w.setCell ⟨T, 1, none⟩ (.int .i64 ln')) a e b v m xs T kd ln' :=
  ⟨h.i.other hB h.lo h.kn h.ne _ _, h.lo, heap_setCell_self h.cell _, h.kn, h.ne⟩
theorem DcT.set {T g : Nat} {kd ln : Int} (h : DcT L n lo B0 K0 w0 K w a e b v m xs T kd ln) (hB : B0 < lo) (hg : v.ownBlock = some g) (j : Nat) (u : Value) : DcT L n lo B0 K0 w0 K (w.setCell ⟨g, j, none⟩ u) a e b v m (xs.set j u) T kd ln :=
  ⟨h.i.set hB hg j u, h.lo, (Below.heap_setCell _ _ _ _ (fun e => by simp at e; rw [← e] at hg; exact h.ne hg)).trans h.cell, h.kn, h.ne⟩
theorem row_cells {w : World} {b : Nat} {cs : Array Value} {t : TypeId} (h : w.heap[b]? = some (.cells cs t (0, 0))) : (∀ j, w.cell? ⟨b, j, none⟩ = cs[j]?) ∧ (∀ j, w.frozen? ⟨b, j, none⟩ = false) :=
  ⟨fun _ => cell_of_row _ _ _ _ _ _ h, fun _ => frozen_of_row _ _ _ _ _ h⟩
theorem names_vars (r : List (ByteArray × Int)) : varCells (r.map fun x => ⟨x.1, 0, 0, [], x.2⟩) = nameCells r := by
  simp [varCells, nameCells, List.flatMap_map]
def lstAt (xs : List Value) (r : List (ByteArray × Int)) (kd ln : Int) (d : Nat) : List Value := xs ++ varCells ((r.take d).map fun x => ⟨x.1, kd, ln, [], x.2⟩) ++ nameCells (r.drop d)
theorem varCells_len (l : List Var) : (varCells l).length = l.length * 5 := by
  induction l with
  | nil => rfl
  | cons x l ih => simp only [varCells, List.flatMap_cons, List.length_append, List.length_cons, List.length_nil] at ih ⊢; omega
theorem varCells_append (l k : List Var) : varCells (l ++ k) = varCells l ++ varCells k := by simp [varCells]
theorem nameCells_append (l k : List (ByteArray × Int)) : nameCells (l ++ k) = nameCells l ++ nameCells k := by simp [nameCells]
theorem set_app (P Q : List Value) (j i : Nat) (u : Value) (hi : i = P.length + j) : (P ++ Q).set i u = P ++ Q.set j u := by
  rw [hi, List.set_append_right _ _ (by omega), Nat.add_sub_cancel_left]
theorem lstAt_set {xs : List Value} {r : List (ByteArray × Int)} {kd ln : Int} {d m : Nat} (hx : xs.length = m * 5) (hd : d < r.length) :
    ((lstAt xs r kd ln d).set ((m + d) * 5 + 1) (.int .i64 kd)).set ((m + d) * 5 + 2) (.int .i64 ln) = lstAt xs r kd ln (d + 1) := by
  have h1 : r.drop d = r[d] :: r.drop (d + 1) := List.drop_eq_getElem_cons hd
  have h2 : r.take (d + 1) = r.take d ++ [r[d]] := by rw [List.take_succ_eq_append_getElem hd]
  have hlen : (xs ++ varCells ((r.take d).map fun x => (⟨x.1, kd, ln, [], x.2⟩ : Var))).length = (m + d) * 5 := by
    rw [List.length_append, varCells_len, hx, List.length_map, List.length_take]; omega
  unfold lstAt
  rw [set_app _ _ 1 _ _ (by rw [hlen]), set_app _ _ 2 _ _ (by rw [hlen]), h1, h2, List.map_append, varCells_append, ← List.append_assoc, List.append_assoc (xs ++ _)]
  congr 1
theorem lstAt_len {xs : List Value} {r : List (ByteArray × Int)} {kd ln : Int} : lstAt xs r kd ln r.length = xs ++ varCells (r.map fun x => ⟨x.1, kd, ln, [], x.2⟩) := by
  simp [lstAt, nameCells]
theorem lstAt_0 {xs : List Value} {r : List (ByteArray × Int)} {kd ln : Int} : lstAt xs r kd ln 0 = xs ++ nameCells r := by
  simp [lstAt, varCells]
end
theorem info77 : (Tryz.prog.info? 77).map (fun i => (i.zero, i.size, i.bytes)) = some (some (.agg #[.string ⟨#[]⟩, .int .i64 0, .int .i64 0, .slice none 0 0, .int .i64 0]), 5, 64) := by kernel_rfl
theorem field196_0 (a : Int) (b : ByteArray) (c d e f : Int) (w : World) : (Instr.field 196 (.agg #[.int .i64 a, .string b, .int .i64 c, .int .i64 d, .int .i64 e, .int .i64 f]) 0).run Tryz.prog w = .ok (.int .i64 a) w := by kernel_rfl
theorem field196_4 (a : Int) (b : ByteArray) (c d e f : Int) (w : World) : (Instr.field 196 (.agg #[.int .i64 a, .string b, .int .i64 c, .int .i64 d, .int .i64 e, .int .i64 f]) 4).run Tryz.prog w = .ok (.int .i64 f) w := by kernel_rfl
set_option maxHeartbeats 16000000 in
set_option maxRecDepth 100000 in
theorem decl_in {L : List PT} {n a e b a' e' b' : Int} {m : Nat} {l : List Var} (h : Decl L n a e b m l a' e' b') (hlim : m + l.length ≤ 20000) {K : KK} {w : World} {B0 lo : Nat} {v : Value} {xs : List Value} (hd : Hd L B0 K w a e b n) (hL : w.ownsRow lo 77 5 v m xs) (hk : ∀ g, v.ownBlock = some g → K g = none) (hnz : m = 0 → v = .slice none 0 0)
    (hl : lo ≤ w.heap.size) (hB : B0 < lo) :
    Calls Tryz.prog 159 #[.pointer (some ⟨B0, 0, none⟩), v] w fun en w' => ∃ K' v', en = .returned v' ∧ DcI L n lo B0 K w K' w' a' e' b' v' (m + l.length) (xs ++ varCells l) := by
  have A0 : Aside (DcI L n lo B0 K w K w a e b v m xs) := ⟨hd, Lf.refl _ _ _ _, hL, hk, hnz⟩
  obtain ⟨i0, hi, hz0, hz1, hz2⟩ : ∃ i, Tryz.prog.info? 77 = some i ∧ i.zero = some (.agg #[.string ⟨#[]⟩, .int .i64 0, .int .i64 0, .slice none 0 0, .int .i64 0]) ∧ i.size = 5 ∧ i.bytes = 64 := by
    have := info77
    cases h : Tryz.prog.info? 77 with
    | none => rw [h] at this; cases this
    | some i =>
      rw [h] at this
      simp only [Option.map_some, Option.some.injEq, Prod.mk.injEq] at this
      exact ⟨i, rfl, this⟩
  have hf0 := field196_0
  have hf4 := field196_4
  obtain ⟨a0, cp, rfl⟩ := own_form hL
  obtain ⟨r, a1, e1, b1, f, hdl, hrest⟩ : ∃ r a1 e1 b1 f, DLoop L n a e b m r a1 e1 b1 f ∧ (f = true ∧ a' = a1 ∧ e' = e1 ∧ b' = b1 ∧ l = r.map (fun x => ⟨x.1, 0, 0, [], x.2⟩) ∨ f = false ∧ ∃ kd ln, DTail L n a1 e1 b1 kd ln a' e' b' ∧ l = r.map (fun x => ⟨x.1, kd, ln, [], x.2⟩)) := by
    cases h with
    | full _ _ _ _ r h1 => exact ⟨r, _, _, _, true, h1, .inl ⟨rfl, rfl, rfl, rfl, rfl⟩⟩
    | mk a1 e1 b1 _ _ _ _ r kd ln h1 h2 => exact ⟨r, a1, e1, b1, false, h1, .inr ⟨rfl, kd, ln, h2, rfl⟩⟩
  have hrl : l.length = r.length := by rcases hrest with ⟨_, _, _, _, rfl⟩ | ⟨_, _, _, _, rfl⟩ <;> simp
  rw [hrl] at hlim
  have hx5 : xs.length = m * 5 := hL.1
  clear hd hL hk hnz
  go_enter Tryz.func159, Tryz.ntmps159
  go_wp2
  go_loopg [1, 6, 7, 8, 9] (r.length) (fun kx s1 s6 s7 s8 s9 wr => ∃ (Kc : KK) (ac ec bc : Int) (dn rs : List (ByteArray × Int)), r = dn ++ rs ∧ rs.length ≤ kx ∧ Aside (DLoop L n ac ec bc (m + dn.length) rs a1 e1 b1 f ∧ DcI L n lo B0 K w Kc wr ac ec bc s1 (m + dn.length) (xs ++ nameCells dn)))
  case atStart => exact ⟨K, a, e, b, [], r, rfl, Nat.le_refl _, hdl, by simpa [nameCells] using A0.out⟩
  case round =>
    clear A0
    obtain ⟨Kc, ac, ec, bc, dn, rs, hr, hkx, A⟩ := hrel
    obtain ⟨a0, cp, rfl⟩ := own_form A.out.2.own
    have c2 := A.out.2.hd.c2
    have hlt := A.out.2.hd.lt
    obtain ⟨hdl2, hdc⟩ := A.out
    rcases hdl2.inv with ⟨he, rfl, rfl, rfl, rfl, rfl⟩ | ⟨ha, he, hk1, rfl, rfl, hpf⟩ | ⟨ha, he, hfl, nm, rfl, rfl, hp1, hp2⟩ | ⟨ha, he, hfl, nm, a3, e3, b3, a4, r', rfl, hp1, hp2, hdl3⟩
    ·
      obtain rfl : r = dn := by simpa using hr
      clear hr hkx hdl2
      have A1 : Aside _ := hdc
      obtain ⟨hf, _⟩ | ⟨_, kd, ln, ht, rfl⟩ := hrest
      · cases hf
      rcases ht.inv with ⟨rfl, a2, e2, b2, hp1, hp2, hp3⟩ | ⟨a2, e2, b2, a3, e3, b3, a4, hp1, hp2, hp3, hp4⟩
      ·
        go_wp2_with (fail)
        refine (hd1 A1.out.hd hp1 (.str _)).mono ?_
        rintro _ wa ⟨Ka, _, rfl, hda, sta, hva⟩
        obtain rfl := rr_unit hva
        have Aa : Aside _ := A1.out.step hl hB hda sta
        go_wp2_with (fail)
        refine (hd0 Aa.out.hd hp2).mono ?_
        rintro _ wb ⟨Kb, _, rfl, hdb, stb, hvb⟩
        obtain rfl := rr_int hvb
        have Ab : Aside _ := Aa.out.step hl hB hdb stb
        have Ac : Aside _ := Ab.out.t hl hB kd 0
        go_wp2_with (fail)
        refine (hd1 Ac.out.i.hd hp3 (.str _)).mono ?_
        rintro _ wc ⟨Kt, _, rfl, hdc3, stc, hvc3⟩
        obtain rfl := rr_bool hvc3
        have Ad : Aside _ := Ac.out.step hl hB hdc3 stc
        clear hda sta hva hdb stb hvb hdc3 stc hvc3 Aa Ab Ac A1
        try clear A
        go_wp2
        go_loopg [12] (r.length) (fun kx s12 wr => ∃ d : Nat, s12 = .int .i64 ((m + d : Nat) : Int) ∧ d ≤ r.length ∧ r.length - d ≤ kx ∧ Aside (DcT L n lo B0 K w Kt wr a' e' b' (.slice a0 (m + r.length) cp) (m + r.length) (lstAt xs r kd 0 d) wb.heap.size kd 0))
        case atStart => exact ⟨0, rfl, by omega, by omega, by rw [lstAt_0]; exact Ad.out⟩
        case round =>
          clear Ad
          obtain ⟨d, rfl, hd9, hki, B⟩ := hrel
          obtain ⟨htc, htf⟩ := row_cells B.out.cell
          by_cases hin : d < r.length
          · have hown := B.out.i.own
            obtain ⟨gk, cap, hv, hgb, hglt⟩ := hown.form (by omega)
            obtain ⟨rfl, rfl⟩ : a0 = some ⟨gk, 0, none⟩ ∧ cp = cap := by injection hv with h1 h2 h3; exact ⟨h1, h3⟩
            have hcell := own_cell hown (g := gk) rfl
            obtain ⟨v1, hc1⟩ := (hcell ((m + d) * 5 + 1) (by omega)).1
            obtain ⟨v2, hc2⟩ := (hcell ((m + d) * 5 + 2) (by omega)).1
            have hf1 := (hcell ((m + d) * 5 + 1) (by omega)).2
            have hf2 := (hcell ((m + d) * 5 + 2) (by omega)).2
            have hin' : ((m + d : Nat) : Int) < (m + r.length : Nat) := by omega
            have hne : wb.heap.size ≠ gk := fun e => B.out.ne (by rw [e]; rfl)
            have B2 : Aside _ := lstAt_set (kd := kd) (ln := 0) hx5 hin ▸ (B.out.set hB (g := gk) rfl ((m + d) * 5 + 1) (.int .i64 kd)).set hB (g := gk) rfl ((m + d) * 5 + 2) (.int .i64 0)
            clear hown hcell hv
            go_wp2
            go_roundg (r.length - (d + 1))
            case measure => omega
            case rel => exact ⟨d + 1, by go_num, by omega, by omega, B2⟩
          · have hin' : ¬ ((m + d : Nat) : Int) < (m + r.length : Nat) := by omega
            obtain rfl : d = r.length := by omega
            go_wp2
            go_ret
            exact ⟨Kt, _, rfl, by have h9 := B.out.i; rw [lstAt_len] at h9; exact h9⟩
      ·
        go_wp2_with (fail)
        refine (hd1 A1.out.hd hp1 (.str _)).mono ?_
        rintro _ wa ⟨Ka, _, rfl, hda, sta, hva⟩
        obtain rfl := rr_unit hva
        have Aa : Aside _ := A1.out.step hl hB hda sta
        go_wp2_with (fail)
        refine (hd0 Aa.out.hd hp2).mono ?_
        rintro _ wb ⟨Kb, _, rfl, hdb, stb, hvb⟩
        obtain rfl := rr_int hvb
        have Ab : Aside _ := Aa.out.step hl hB hdb stb
        have Ac : Aside _ := Ab.out.t hl hB kd 0
        go_wp2_with (fail)
        refine (hd1 Ac.out.i.hd hp3 (.str _)).mono ?_
        rintro _ wc ⟨Kc2, _, rfl, hdc3, stc, hvc3⟩
        obtain rfl := rr_bool hvc3
        have Ad : Aside _ := Ac.out.step hl hB hdc3 stc
        go_wp2_with (fail)
        refine (hd0 Ad.out.i.hd hp4).mono ?_
        rintro _ wd ⟨Kt, _, rfl, hdd, std, hvd⟩
        obtain rfl := rr_int hvd
        have Ae : Aside _ := Ad.out.step hl hB hdd std
        have Af : Aside _ := Ae.out.setT hB ln
        obtain ⟨htc, htf⟩ := row_cells Ae.out.cell
        have htl := lt_of_block Ae.out.cell
        clear hda sta hva hdb stb hvb hdc3 stc hvc3 hdd std hvd Aa Ab Ac Ad Ae A1
        try clear A
        go_wp2
        go_loopg [12] (r.length) (fun kx s12 wr => ∃ d : Nat, s12 = .int .i64 ((m + d : Nat) : Int) ∧ d ≤ r.length ∧ r.length - d ≤ kx ∧ Aside (DcT L n lo B0 K w Kt wr a' e' b' (.slice a0 (m + r.length) cp) (m + r.length) (lstAt xs r kd ln d) wb.heap.size kd ln))
        case atStart => exact ⟨0, rfl, by omega, by omega, by rw [lstAt_0]; exact Af.out⟩
        case round =>
          clear Af
          obtain ⟨d, rfl, hd9, hki, B⟩ := hrel
          obtain ⟨htc, htf⟩ := row_cells B.out.cell
          by_cases hin : d < r.length
          · have hown := B.out.i.own
            obtain ⟨gk, cap, hv, hgb, hglt⟩ := hown.form (by omega)
            obtain ⟨rfl, rfl⟩ : a0 = some ⟨gk, 0, none⟩ ∧ cp = cap := by injection hv with h1 h2 h3; exact ⟨h1, h3⟩
            have hcell := own_cell hown (g := gk) rfl
            obtain ⟨v1, hc1⟩ := (hcell ((m + d) * 5 + 1) (by omega)).1
            obtain ⟨v2, hc2⟩ := (hcell ((m + d) * 5 + 2) (by omega)).1
            have hf1 := (hcell ((m + d) * 5 + 1) (by omega)).2
            have hf2 := (hcell ((m + d) * 5 + 2) (by omega)).2
            have hin' : ((m + d : Nat) : Int) < (m + r.length : Nat) := by omega
            have hne : wb.heap.size ≠ gk := fun e => B.out.ne (by rw [e]; rfl)
            have B2 : Aside _ := lstAt_set (kd := kd) (ln := ln) hx5 hin ▸ (B.out.set hB (g := gk) rfl ((m + d) * 5 + 1) (.int .i64 kd)).set hB (g := gk) rfl ((m + d) * 5 + 2) (.int .i64 ln)
            clear hown hcell hv
            go_wp2
            go_roundg (r.length - (d + 1))
            case measure => omega
            case rel => exact ⟨d + 1, by go_num, by omega, by omega, B2⟩
          · have hin' : ¬ ((m + d : Nat) : Int) < (m + r.length : Nat) := by omega
            obtain rfl : d = r.length := by omega
            go_wp2
            go_ret
            exact ⟨Kt, _, rfl, by have h9 := B.out.i; rw [lstAt_len] at h9; exact h9⟩
    ·
      obtain rfl : r = dn := by simpa using hr
      obtain ⟨_, rfl, rfl, rfl, rfl⟩ | ⟨hf, _⟩ := hrest
      case inr => cases hf
      have A1 : Aside _ := hdc
      clear hr hkx hdl2
      go_wp2_with (fail)
      refine (hd0 A1.out.hd (tok_pc ha)).mono ?_
      rintro _ wa ⟨Ka, _, rfl, hda, sta, hva⟩
      obtain rfl := rr_tok hva
      have Aa : Aside _ := A1.out.step hl hB hda sta
      clear hda sta hva
      go_wp2_with (fail)
      refine (hd2 Aa.out.hd hpf (.int _ _) (.int _ _)).mono ?_
      rintro _ wb ⟨Kb, _, rfl, hdb, stb, hvb⟩
      obtain rfl := rr_bool hvb
      have Ab : Aside _ := Aa.out.step hl hB hdb stb
      clear hdb stb hvb
      go_wp2
      go_ret
      exact ⟨Kb, _, rfl, by rw [names_vars, List.length_map]; exact Ab.out⟩
    ·
      have A1 : Aside _ := hdc
      obtain ⟨hf, _⟩ | ⟨_, kd, ln, ht, rfl⟩ := hrest
      case inl => cases hf
      have hlen : r.length = dn.length + 1 := by rw [hr]; simp
      have hr' : Aside (r = dn ++ [(nm, (tokAt L ac).at')]) := hr
      clear hr hkx hdl2
      go_wp2_with (fail)
      refine (hd0 A1.out.hd (tok_pc ha)).mono ?_
      rintro _ wa ⟨Ka, _, rfl, hda, sta, hva⟩
      obtain rfl := rr_tok hva
      have Aa : Aside _ := A1.out.step hl hB hda sta
      clear hda sta hva
      by_cases hk1 : (tokAt L ac).kind = 1
      · go_wp2_with (fail)
        refine (hd2 Aa.out.hd (hfl hk1) (.int _ _) (.int _ _)).mono ?_
        rintro _ wb ⟨Kb, _, rfl, hdb, stb, hvb⟩
        obtain rfl := rr_bool hvb
        have Ab : Aside _ := Aa.out.step hl hB hdb stb
        clear hdb stb hvb
        go_wp2_with (fail)
        refine (hd0 Ab.out.hd (tok_pc ha)).mono ?_
        rintro _ wt ⟨Kt1, _, rfl, hdt, stt, hvt⟩
        obtain rfl := rr_tok hvt
        have At1 : Aside _ := Ab.out.step hl hB hdt stt
        go_wp2_with (fail)
        refine (hd0 At1.out.hd hp1).mono ?_
        rintro _ wn ⟨Kn, _, rfl, hdn, stn, hvn⟩
        obtain rfl := rr_str hvn
        have An : Aside _ := At1.out.step hl hB hdn stn
        have HX : Aside (wn.ownsRow lo 77 5 (.slice a0 (m + dn.length) cp) (m + dn.length) (xs ++ nameCells dn)) := An.out.own
        have hlb : lo ≤ wn.heap.size := Nat.le_trans hl An.out.lf.size
        clear hdt stt hvt hdn stn hvn
        go_wp2_with (first | (at_builtin; refine wpList_append_lies _ rfl _ _ 45 rfl lo 77 i0 _ 5 64 Tryz.underlying45 hi hz0 hz1 hz2 rfl (by decide) _ (m + dn.length) (xs ++ nameCells dn) rfl (World.ownsRow.alloc HX.out _) ⟨wn.heap.size, 0, none⟩ 1 1 [.string nm, .int .i64 0, .int .i64 0, .slice none 0 0, .int .i64 (tokAt L ac).at'] rfl rfl ?c1 ?c0 (by decide) ?c2 ?c3 ?c4 wn.heap.size.succ ?c5 ?_))
        case c0 => intro u hu; simp at hu; rcases hu with rfl | rfl | rfl | rfl | rfl <;> rfl
        case c1 => exact World.news_of_block (alloc_self wn _)
        case c2 => unfold maxLen; omega
        case c3 => omega
        case c4 => simp; omega
        case c5 => simp
        intro gk cap w5 hown hgrow hat hlt5
        have A5 : Aside (DcI L n lo B0 K w Kn w5 _ _ _ (.slice (some ⟨gk, 0, none⟩) (m + dn.length + 1) cap) (m + dn.length + 1) (xs ++ nameCells (dn ++ [(nm, (tokAt L ac).at')]))) := (An.out.new hl hB _).grown hl hB hgrow (by rw [nameCells_append]; exact hown) hat (by simp) (by omega)
        clear hown hgrow hat HX
        go_wp2_with (fail)
        refine (hd1 A5.out.hd hp2 (.str _)).mono ?_
        rintro _ w6 ⟨K6, _, rfl, hd6, st6, hv6⟩
        obtain rfl := rr_bool hv6
        have A6 : Aside _ := A5.out.step hl hB hd6 st6
        have hmr : m + dn.length + 1 = m + r.length := by omega
        rw [← hr'.out, hmr] at A6
        rw [hmr]
        clear hd6 st6 hv6 A5 An At1 Ab Aa A A1 hdc hmr hr' hlb
        generalize (some (⟨gk, 0, none⟩ : Addr)) = a0 at *
        generalize cap = cp at *
        clear hlen
        rcases ht.inv with ⟨rfl, a2, e2, b2, hp1, hp2, hp3⟩ | ⟨a2, e2, b2, a3, e3, b3, a4, hp1, hp2, hp3, hp4⟩
        ·
          go_wp2_with (fail)
          refine (hd1 A6.out.hd hp1 (.str _)).mono ?_
          rintro _ wa ⟨Ka, _, rfl, hda, sta, hva⟩
          obtain rfl := rr_unit hva
          have Aa : Aside _ := A6.out.step hl hB hda sta
          go_wp2_with (fail)
          refine (hd0 Aa.out.hd hp2).mono ?_
          rintro _ wb ⟨Kb, _, rfl, hdb, stb, hvb⟩
          obtain rfl := rr_int hvb
          have Ab : Aside _ := Aa.out.step hl hB hdb stb
          have Ac : Aside _ := Ab.out.t hl hB kd 0
          go_wp2_with (fail)
          refine (hd1 Ac.out.i.hd hp3 (.str _)).mono ?_
          rintro _ wc ⟨Kt, _, rfl, hdc3, stc, hvc3⟩
          obtain rfl := rr_bool hvc3
          have Ad : Aside _ := Ac.out.step hl hB hdc3 stc
          clear hda sta hva hdb stb hvb hdc3 stc hvc3 Aa Ab Ac A6
          try clear A
          go_wp2
          go_loopg [12] (r.length) (fun kx s12 wr => ∃ d : Nat, s12 = .int .i64 ((m + d : Nat) : Int) ∧ d ≤ r.length ∧ r.length - d ≤ kx ∧ Aside (DcT L n lo B0 K w Kt wr a' e' b' (.slice a0 (m + r.length) cp) (m + r.length) (lstAt xs r kd 0 d) wb.heap.size kd 0))
          case atStart => exact ⟨0, rfl, by omega, by omega, by rw [lstAt_0]; exact Ad.out⟩
          case round =>
            clear Ad
            obtain ⟨d, rfl, hd9, hki, B⟩ := hrel
            obtain ⟨htc, htf⟩ := row_cells B.out.cell
            by_cases hin : d < r.length
            · have hown := B.out.i.own
              obtain ⟨gk, cap, hv, hgb, hglt⟩ := hown.form (by omega)
              obtain ⟨rfl, rfl⟩ : a0 = some ⟨gk, 0, none⟩ ∧ cp = cap := by injection hv with h1 h2 h3; exact ⟨h1, h3⟩
              have hcell := own_cell hown (g := gk) rfl
              obtain ⟨v1, hc1⟩ := (hcell ((m + d) * 5 + 1) (by omega)).1
              obtain ⟨v2, hc2⟩ := (hcell ((m + d) * 5 + 2) (by omega)).1
              have hf1 := (hcell ((m + d) * 5 + 1) (by omega)).2
              have hf2 := (hcell ((m + d) * 5 + 2) (by omega)).2
              have hin' : ((m + d : Nat) : Int) < (m + r.length : Nat) := by omega
              have hne : wb.heap.size ≠ gk := fun e => B.out.ne (by rw [e]; rfl)
              have B2 : Aside _ := lstAt_set (kd := kd) (ln := 0) hx5 hin ▸ (B.out.set hB (g := gk) rfl ((m + d) * 5 + 1) (.int .i64 kd)).set hB (g := gk) rfl ((m + d) * 5 + 2) (.int .i64 0)
              clear hown hcell hv
              go_wp2
              go_roundg (r.length - (d + 1))
              case measure => omega
              case rel => exact ⟨d + 1, by go_num, by omega, by omega, B2⟩
            · have hin' : ¬ ((m + d : Nat) : Int) < (m + r.length : Nat) := by omega
              obtain rfl : d = r.length := by omega
              go_wp2
              go_ret
              exact ⟨Kt, _, rfl, by have h9 := B.out.i; rw [lstAt_len] at h9; exact h9⟩
        ·
          go_wp2_with (fail)
          refine (hd1 A6.out.hd hp1 (.str _)).mono ?_
          rintro _ wa ⟨Ka, _, rfl, hda, sta, hva⟩
          obtain rfl := rr_unit hva
          have Aa : Aside _ := A6.out.step hl hB hda sta
          go_wp2_with (fail)
          refine (hd0 Aa.out.hd hp2).mono ?_
          rintro _ wb ⟨Kb, _, rfl, hdb, stb, hvb⟩
          obtain rfl := rr_int hvb
          have Ab : Aside _ := Aa.out.step hl hB hdb stb
          have Ac : Aside _ := Ab.out.t hl hB kd 0
          go_wp2_with (fail)
          refine (hd1 Ac.out.i.hd hp3 (.str _)).mono ?_
          rintro _ wc ⟨Kc2, _, rfl, hdc3, stc, hvc3⟩
          obtain rfl := rr_bool hvc3
          have Ad : Aside _ := Ac.out.step hl hB hdc3 stc
          go_wp2_with (fail)
          refine (hd0 Ad.out.i.hd hp4).mono ?_
          rintro _ wd ⟨Kt, _, rfl, hdd, std, hvd⟩
          obtain rfl := rr_int hvd
          have Ae : Aside _ := Ad.out.step hl hB hdd std
          have Af : Aside _ := Ae.out.setT hB ln
          obtain ⟨htc, htf⟩ := row_cells Ae.out.cell
          have htl := lt_of_block Ae.out.cell
          clear hda sta hva hdb stb hvb hdc3 stc hvc3 hdd std hvd Aa Ab Ac Ad Ae A6
          try clear A
          go_wp2
          go_loopg [12] (r.length) (fun kx s12 wr => ∃ d : Nat, s12 = .int .i64 ((m + d : Nat) : Int) ∧ d ≤ r.length ∧ r.length - d ≤ kx ∧ Aside (DcT L n lo B0 K w Kt wr a' e' b' (.slice a0 (m + r.length) cp) (m + r.length) (lstAt xs r kd ln d) wb.heap.size kd ln))
          case atStart => exact ⟨0, rfl, by omega, by omega, by rw [lstAt_0]; exact Af.out⟩
          case round =>
            clear Af
            obtain ⟨d, rfl, hd9, hki, B⟩ := hrel
            obtain ⟨htc, htf⟩ := row_cells B.out.cell
            by_cases hin : d < r.length
            · have hown := B.out.i.own
              obtain ⟨gk, cap, hv, hgb, hglt⟩ := hown.form (by omega)
              obtain ⟨rfl, rfl⟩ : a0 = some ⟨gk, 0, none⟩ ∧ cp = cap := by injection hv with h1 h2 h3; exact ⟨h1, h3⟩
              have hcell := own_cell hown (g := gk) rfl
              obtain ⟨v1, hc1⟩ := (hcell ((m + d) * 5 + 1) (by omega)).1
              obtain ⟨v2, hc2⟩ := (hcell ((m + d) * 5 + 2) (by omega)).1
              have hf1 := (hcell ((m + d) * 5 + 1) (by omega)).2
              have hf2 := (hcell ((m + d) * 5 + 2) (by omega)).2
              have hin' : ((m + d : Nat) : Int) < (m + r.length : Nat) := by omega
              have hne : wb.heap.size ≠ gk := fun e => B.out.ne (by rw [e]; rfl)
              have B2 : Aside _ := lstAt_set (kd := kd) (ln := ln) hx5 hin ▸ (B.out.set hB (g := gk) rfl ((m + d) * 5 + 1) (.int .i64 kd)).set hB (g := gk) rfl ((m + d) * 5 + 2) (.int .i64 ln)
              clear hown hcell hv
              go_wp2
              go_roundg (r.length - (d + 1))
              case measure => omega
              case rel => exact ⟨d + 1, by go_num, by omega, by omega, B2⟩
            · have hin' : ¬ ((m + d : Nat) : Int) < (m + r.length : Nat) := by omega
              obtain rfl : d = r.length := by omega
              go_wp2
              go_ret
              exact ⟨Kt, _, rfl, by have h9 := B.out.i; rw [lstAt_len] at h9; exact h9⟩
      ·
        have Ab : Aside _ := Aa.out
        go_wp2_with (fail)
        refine (hd0 Ab.out.hd (tok_pc ha)).mono ?_
        rintro _ wt ⟨Kt1, _, rfl, hdt, stt, hvt⟩
        obtain rfl := rr_tok hvt
        have At1 : Aside _ := Ab.out.step hl hB hdt stt
        go_wp2_with (fail)
        refine (hd0 At1.out.hd hp1).mono ?_
        rintro _ wn ⟨Kn, _, rfl, hdn, stn, hvn⟩
        obtain rfl := rr_str hvn
        have An : Aside _ := At1.out.step hl hB hdn stn
        have HX : Aside (wn.ownsRow lo 77 5 (.slice a0 (m + dn.length) cp) (m + dn.length) (xs ++ nameCells dn)) := An.out.own
        have hlb : lo ≤ wn.heap.size := Nat.le_trans hl An.out.lf.size
        clear hdt stt hvt hdn stn hvn
        go_wp2_with (first | (at_builtin; refine wpList_append_lies _ rfl _ _ 45 rfl lo 77 i0 _ 5 64 Tryz.underlying45 hi hz0 hz1 hz2 rfl (by decide) _ (m + dn.length) (xs ++ nameCells dn) rfl (World.ownsRow.alloc HX.out _) ⟨wn.heap.size, 0, none⟩ 1 1 [.string nm, .int .i64 0, .int .i64 0, .slice none 0 0, .int .i64 (tokAt L ac).at'] rfl rfl ?c1 ?c0 (by decide) ?c2 ?c3 ?c4 wn.heap.size.succ ?c5 ?_))
        case c0 => intro u hu; simp at hu; rcases hu with rfl | rfl | rfl | rfl | rfl <;> rfl
        case c1 => exact World.news_of_block (alloc_self wn _)
        case c2 => unfold maxLen; omega
        case c3 => omega
        case c4 => simp; omega
        case c5 => simp
        intro gk cap w5 hown hgrow hat hlt5
        have A5 : Aside (DcI L n lo B0 K w Kn w5 _ _ _ (.slice (some ⟨gk, 0, none⟩) (m + dn.length + 1) cap) (m + dn.length + 1) (xs ++ nameCells (dn ++ [(nm, (tokAt L ac).at')]))) := (An.out.new hl hB _).grown hl hB hgrow (by rw [nameCells_append]; exact hown) hat (by simp) (by omega)
        clear hown hgrow hat HX
        go_wp2_with (fail)
        refine (hd1 A5.out.hd hp2 (.str _)).mono ?_
        rintro _ w6 ⟨K6, _, rfl, hd6, st6, hv6⟩
        obtain rfl := rr_bool hv6
        have A6 : Aside _ := A5.out.step hl hB hd6 st6
        have hmr : m + dn.length + 1 = m + r.length := by omega
        rw [← hr'.out, hmr] at A6
        rw [hmr]
        clear hd6 st6 hv6 A5 An At1 Ab Aa A A1 hdc hmr hr' hlb
        generalize (some (⟨gk, 0, none⟩ : Addr)) = a0 at *
        generalize cap = cp at *
        clear hlen
        rcases ht.inv with ⟨rfl, a2, e2, b2, hp1, hp2, hp3⟩ | ⟨a2, e2, b2, a3, e3, b3, a4, hp1, hp2, hp3, hp4⟩
        ·
          go_wp2_with (fail)
          refine (hd1 A6.out.hd hp1 (.str _)).mono ?_
          rintro _ wa ⟨Ka, _, rfl, hda, sta, hva⟩
          obtain rfl := rr_unit hva
          have Aa : Aside _ := A6.out.step hl hB hda sta
          go_wp2_with (fail)
          refine (hd0 Aa.out.hd hp2).mono ?_
          rintro _ wb ⟨Kb, _, rfl, hdb, stb, hvb⟩
          obtain rfl := rr_int hvb
          have Ab : Aside _ := Aa.out.step hl hB hdb stb
          have Ac : Aside _ := Ab.out.t hl hB kd 0
          go_wp2_with (fail)
          refine (hd1 Ac.out.i.hd hp3 (.str _)).mono ?_
          rintro _ wc ⟨Kt, _, rfl, hdc3, stc, hvc3⟩
          obtain rfl := rr_bool hvc3
          have Ad : Aside _ := Ac.out.step hl hB hdc3 stc
          clear hda sta hva hdb stb hvb hdc3 stc hvc3 Aa Ab Ac A6
          try clear A
          go_wp2
          go_loopg [12] (r.length) (fun kx s12 wr => ∃ d : Nat, s12 = .int .i64 ((m + d : Nat) : Int) ∧ d ≤ r.length ∧ r.length - d ≤ kx ∧ Aside (DcT L n lo B0 K w Kt wr a' e' b' (.slice a0 (m + r.length) cp) (m + r.length) (lstAt xs r kd 0 d) wb.heap.size kd 0))
          case atStart => exact ⟨0, rfl, by omega, by omega, by rw [lstAt_0]; exact Ad.out⟩
          case round =>
            clear Ad
            obtain ⟨d, rfl, hd9, hki, B⟩ := hrel
            obtain ⟨htc, htf⟩ := row_cells B.out.cell
            by_cases hin : d < r.length
            · have hown := B.out.i.own
              obtain ⟨gk, cap, hv, hgb, hglt⟩ := hown.form (by omega)
              obtain ⟨rfl, rfl⟩ : a0 = some ⟨gk, 0, none⟩ ∧ cp = cap := by injection hv with h1 h2 h3; exact ⟨h1, h3⟩
              have hcell := own_cell hown (g := gk) rfl
              obtain ⟨v1, hc1⟩ := (hcell ((m + d) * 5 + 1) (by omega)).1
              obtain ⟨v2, hc2⟩ := (hcell ((m + d) * 5 + 2) (by omega)).1
              have hf1 := (hcell ((m + d) * 5 + 1) (by omega)).2
              have hf2 := (hcell ((m + d) * 5 + 2) (by omega)).2
              have hin' : ((m + d : Nat) : Int) < (m + r.length : Nat) := by omega
              have hne : wb.heap.size ≠ gk := fun e => B.out.ne (by rw [e]; rfl)
              have B2 : Aside _ := lstAt_set (kd := kd) (ln := 0) hx5 hin ▸ (B.out.set hB (g := gk) rfl ((m + d) * 5 + 1) (.int .i64 kd)).set hB (g := gk) rfl ((m + d) * 5 + 2) (.int .i64 0)
              clear hown hcell hv
              go_wp2
              go_roundg (r.length - (d + 1))
              case measure => omega
              case rel => exact ⟨d + 1, by go_num, by omega, by omega, B2⟩
            · have hin' : ¬ ((m + d : Nat) : Int) < (m + r.length : Nat) := by omega
              obtain rfl : d = r.length := by omega
              go_wp2
              go_ret
              exact ⟨Kt, _, rfl, by have h9 := B.out.i; rw [lstAt_len] at h9; exact h9⟩
        ·
          go_wp2_with (fail)
          refine (hd1 A6.out.hd hp1 (.str _)).mono ?_
          rintro _ wa ⟨Ka, _, rfl, hda, sta, hva⟩
          obtain rfl := rr_unit hva
          have Aa : Aside _ := A6.out.step hl hB hda sta
          go_wp2_with (fail)
          refine (hd0 Aa.out.hd hp2).mono ?_
          rintro _ wb ⟨Kb, _, rfl, hdb, stb, hvb⟩
          obtain rfl := rr_int hvb
          have Ab : Aside _ := Aa.out.step hl hB hdb stb
          have Ac : Aside _ := Ab.out.t hl hB kd 0
          go_wp2_with (fail)
          refine (hd1 Ac.out.i.hd hp3 (.str _)).mono ?_
          rintro _ wc ⟨Kc2, _, rfl, hdc3, stc, hvc3⟩
          obtain rfl := rr_bool hvc3
          have Ad : Aside _ := Ac.out.step hl hB hdc3 stc
          go_wp2_with (fail)
          refine (hd0 Ad.out.i.hd hp4).mono ?_
          rintro _ wd ⟨Kt, _, rfl, hdd, std, hvd⟩
          obtain rfl := rr_int hvd
          have Ae : Aside _ := Ad.out.step hl hB hdd std
          have Af : Aside _ := Ae.out.setT hB ln
          obtain ⟨htc, htf⟩ := row_cells Ae.out.cell
          have htl := lt_of_block Ae.out.cell
          clear hda sta hva hdb stb hvb hdc3 stc hvc3 hdd std hvd Aa Ab Ac Ad Ae A6
          try clear A
          go_wp2
          go_loopg [12] (r.length) (fun kx s12 wr => ∃ d : Nat, s12 = .int .i64 ((m + d : Nat) : Int) ∧ d ≤ r.length ∧ r.length - d ≤ kx ∧ Aside (DcT L n lo B0 K w Kt wr a' e' b' (.slice a0 (m + r.length) cp) (m + r.length) (lstAt xs r kd ln d) wb.heap.size kd ln))
          case atStart => exact ⟨0, rfl, by omega, by omega, by rw [lstAt_0]; exact Af.out⟩
          case round =>
            clear Af
            obtain ⟨d, rfl, hd9, hki, B⟩ := hrel
            obtain ⟨htc, htf⟩ := row_cells B.out.cell
            by_cases hin : d < r.length
            · have hown := B.out.i.own
              obtain ⟨gk, cap, hv, hgb, hglt⟩ := hown.form (by omega)
              obtain ⟨rfl, rfl⟩ : a0 = some ⟨gk, 0, none⟩ ∧ cp = cap := by injection hv with h1 h2 h3; exact ⟨h1, h3⟩
              have hcell := own_cell hown (g := gk) rfl
              obtain ⟨v1, hc1⟩ := (hcell ((m + d) * 5 + 1) (by omega)).1
              obtain ⟨v2, hc2⟩ := (hcell ((m + d) * 5 + 2) (by omega)).1
              have hf1 := (hcell ((m + d) * 5 + 1) (by omega)).2
              have hf2 := (hcell ((m + d) * 5 + 2) (by omega)).2
              have hin' : ((m + d : Nat) : Int) < (m + r.length : Nat) := by omega
              have hne : wb.heap.size ≠ gk := fun e => B.out.ne (by rw [e]; rfl)
              have B2 : Aside _ := lstAt_set (kd := kd) (ln := ln) hx5 hin ▸ (B.out.set hB (g := gk) rfl ((m + d) * 5 + 1) (.int .i64 kd)).set hB (g := gk) rfl ((m + d) * 5 + 2) (.int .i64 ln)
              clear hown hcell hv
              go_wp2
              go_roundg (r.length - (d + 1))
              case measure => omega
              case rel => exact ⟨d + 1, by go_num, by omega, by omega, B2⟩
            · have hin' : ¬ ((m + d : Nat) : Int) < (m + r.length : Nat) := by omega
              obtain rfl : d = r.length := by omega
              go_wp2
              go_ret
              exact ⟨Kt, _, rfl, by have h9 := B.out.i; rw [lstAt_len] at h9; exact h9⟩
    ·
      have A1 : Aside _ := hdc
      have hr' : Aside (r = dn ++ (nm, (tokAt L ac).at') :: r') := hr
      have hlen : r.length = dn.length + 1 + r'.length := by rw [hr]; simp; omega
      have hkx' := hkx
      rw [List.length_cons] at hkx'
      clear hr hkx hdl2
      go_wp2_with (fail)
      refine (hd0 A1.out.hd (tok_pc ha)).mono ?_
      rintro _ wa ⟨Ka, _, rfl, hda, sta, hva⟩
      obtain rfl := rr_tok hva
      have Aa : Aside _ := A1.out.step hl hB hda sta
      clear hda sta hva
      by_cases hk1 : (tokAt L ac).kind = 1
      · go_wp2_with (fail)
        refine (hd2 Aa.out.hd (hfl hk1) (.int _ _) (.int _ _)).mono ?_
        rintro _ wb ⟨Kb, _, rfl, hdb, stb, hvb⟩
        obtain rfl := rr_bool hvb
        have Ab : Aside _ := Aa.out.step hl hB hdb stb
        clear hdb stb hvb
        go_wp2_with (fail)
        refine (hd0 Ab.out.hd (tok_pc ha)).mono ?_
        rintro _ wt ⟨Kt1, _, rfl, hdt, stt, hvt⟩
        obtain rfl := rr_tok hvt
        have At1 : Aside _ := Ab.out.step hl hB hdt stt
        go_wp2_with (fail)
        refine (hd0 At1.out.hd hp1).mono ?_
        rintro _ wn ⟨Kn, _, rfl, hdn, stn, hvn⟩
        obtain rfl := rr_str hvn
        have An : Aside _ := At1.out.step hl hB hdn stn
        have HX : Aside (wn.ownsRow lo 77 5 (.slice a0 (m + dn.length) cp) (m + dn.length) (xs ++ nameCells dn)) := An.out.own
        have hlb : lo ≤ wn.heap.size := Nat.le_trans hl An.out.lf.size
        clear hdt stt hvt hdn stn hvn
        go_wp2_with (first | (at_builtin; refine wpList_append_lies _ rfl _ _ 45 rfl lo 77 i0 _ 5 64 Tryz.underlying45 hi hz0 hz1 hz2 rfl (by decide) _ (m + dn.length) (xs ++ nameCells dn) rfl (World.ownsRow.alloc HX.out _) ⟨wn.heap.size, 0, none⟩ 1 1 [.string nm, .int .i64 0, .int .i64 0, .slice none 0 0, .int .i64 (tokAt L ac).at'] rfl rfl ?c1 ?c0 (by decide) ?c2 ?c3 ?c4 wn.heap.size.succ ?c5 ?_))
        case c0 => intro u hu; simp at hu; rcases hu with rfl | rfl | rfl | rfl | rfl <;> rfl
        case c1 => exact World.news_of_block (alloc_self wn _)
        case c2 => unfold maxLen; omega
        case c3 => omega
        case c4 => simp; omega
        case c5 => simp
        intro gk cap w5 hown hgrow hat hlt5
        have A5 : Aside (DcI L n lo B0 K w Kn w5 _ _ _ (.slice (some ⟨gk, 0, none⟩) (m + dn.length + 1) cap) (m + dn.length + 1) (xs ++ nameCells (dn ++ [(nm, (tokAt L ac).at')]))) := (An.out.new hl hB _).grown hl hB hgrow (by rw [nameCells_append]; exact hown) hat (by simp) (by omega)
        clear hown hgrow hat HX
        go_wp2_with (fail)
        refine (hd1 A5.out.hd hp2 (.str _)).mono ?_
        rintro _ w6 ⟨K6, _, rfl, hd6, st6, hv6⟩
        obtain rfl := rr_bool hv6
        have A6 : Aside (DLoop L n a4 e3 b3 (m + (dn ++ [(nm, (tokAt L ac).at')]).length) r' a1 e1 b1 f ∧ DcI L n lo B0 K w K6 w6 a4 e3 b3 (.slice (some ⟨gk, 0, none⟩) (m + dn.length + 1) cap) (m + (dn ++ [(nm, (tokAt L ac).at')]).length) (xs ++ nameCells (dn ++ [(nm, (tokAt L ac).at')]))) :=
          ⟨by rw [List.length_append]; exact hdl3, by rw [List.length_append]; exact A5.out.step hl hB hd6 st6⟩
        clear hd6 st6 hv6 A5 An At1 Ab Aa A A1 hdc
        go_wp2
        go_roundg (r'.length)
        case measure => omega
        case rel => exact ⟨K6, a4, e3, b3, dn ++ [(nm, (tokAt L ac).at')], r', by rw [List.append_assoc]; exact hr'.out, Nat.le_refl _, A6⟩
      ·
        have Ab : Aside _ := Aa.out
        go_wp2_with (fail)
        refine (hd0 Ab.out.hd (tok_pc ha)).mono ?_
        rintro _ wt ⟨Kt1, _, rfl, hdt, stt, hvt⟩
        obtain rfl := rr_tok hvt
        have At1 : Aside _ := Ab.out.step hl hB hdt stt
        go_wp2_with (fail)
        refine (hd0 At1.out.hd hp1).mono ?_
        rintro _ wn ⟨Kn, _, rfl, hdn, stn, hvn⟩
        obtain rfl := rr_str hvn
        have An : Aside _ := At1.out.step hl hB hdn stn
        have HX : Aside (wn.ownsRow lo 77 5 (.slice a0 (m + dn.length) cp) (m + dn.length) (xs ++ nameCells dn)) := An.out.own
        have hlb : lo ≤ wn.heap.size := Nat.le_trans hl An.out.lf.size
        clear hdt stt hvt hdn stn hvn
        go_wp2_with (first | (at_builtin; refine wpList_append_lies _ rfl _ _ 45 rfl lo 77 i0 _ 5 64 Tryz.underlying45 hi hz0 hz1 hz2 rfl (by decide) _ (m + dn.length) (xs ++ nameCells dn) rfl (World.ownsRow.alloc HX.out _) ⟨wn.heap.size, 0, none⟩ 1 1 [.string nm, .int .i64 0, .int .i64 0, .slice none 0 0, .int .i64 (tokAt L ac).at'] rfl rfl ?c1 ?c0 (by decide) ?c2 ?c3 ?c4 wn.heap.size.succ ?c5 ?_))
        case c0 => intro u hu; simp at hu; rcases hu with rfl | rfl | rfl | rfl | rfl <;> rfl
        case c1 => exact World.news_of_block (alloc_self wn _)
        case c2 => unfold maxLen; omega
        case c3 => omega
        case c4 => simp; omega
        case c5 => simp
        intro gk cap w5 hown hgrow hat hlt5
        have A5 : Aside (DcI L n lo B0 K w Kn w5 _ _ _ (.slice (some ⟨gk, 0, none⟩) (m + dn.length + 1) cap) (m + dn.length + 1) (xs ++ nameCells (dn ++ [(nm, (tokAt L ac).at')]))) := (An.out.new hl hB _).grown hl hB hgrow (by rw [nameCells_append]; exact hown) hat (by simp) (by omega)
        clear hown hgrow hat HX
        go_wp2_with (fail)
        refine (hd1 A5.out.hd hp2 (.str _)).mono ?_
        rintro _ w6 ⟨K6, _, rfl, hd6, st6, hv6⟩
        obtain rfl := rr_bool hv6
        have A6 : Aside (DLoop L n a4 e3 b3 (m + (dn ++ [(nm, (tokAt L ac).at')]).length) r' a1 e1 b1 f ∧ DcI L n lo B0 K w K6 w6 a4 e3 b3 (.slice (some ⟨gk, 0, none⟩) (m + dn.length + 1) cap) (m + (dn ++ [(nm, (tokAt L ac).at')]).length) (xs ++ nameCells (dn ++ [(nm, (tokAt L ac).at')]))) :=
          ⟨by rw [List.length_append]; exact hdl3, by rw [List.length_append]; exact A5.out.step hl hB hd6 st6⟩
        clear hd6 st6 hv6 A5 An At1 Ab Aa A A1 hdc
        go_wp2
        go_roundg (r'.length)
        case measure => omega
        case rel => exact ⟨K6, a4, e3, b3, dn ++ [(nm, (tokAt L ac).at')], r', by rw [List.append_assoc]; exact hr'.out, Nat.le_refl _, A6⟩
end Go.Vi
namespace Go.Vi
open Go Go.RowKit Go.Proofs
section
variable {L : List PT} {n : Int} {lo B0 : Nat} {K0 K K' : KK} {w0 w w' : World} {a e b a' e' b' : Int} {v v' : Value} {m m' : Nat} {xs xs' : List Value}
theorem DcI.chain (h : DcI L n lo B0 K0 w0 K w a e b v m xs) (g : DcI L n lo B0 K w K' w' a' e' b' v' m' xs') : DcI L n lo B0 K0 w0 K' w' a' e' b' v' m' xs' :=
  ⟨g.hd, ⟨h.lf.le.trans g.lf.le, fun B ks hk => (g.lf.old B ks hk).elim (fun h1 => h.lf.old B ks h1) .inr, Nat.le_trans h.lf.size g.lf.size, fun B hlo hn => (g.lf.same B hlo hn).trans (h.lf.same B hlo hn), g.lf.os.trans h.lf.os, g.lf.output.trans h.lf.output⟩, g.own, g.kn, g.nz⟩
theorem came_list {rows : List (List PV)} (hd0 : Hd L B0 K w a e b n) (h : DcI L n w.heap.size B0 K w K' w' a' e' b' v m xs) (hr : Rows K' 5 rows xs) (hm : rows.length = m) : ∃ K'', Came K w [B0] (.acc 5 rows) [cells L a' e' b' n] K'' v w' := by
  have hB := hd0.lt
  have hfz : ∀ a : Addr, a.block < w.heap.size → w'.frozen? a = w.frozen? a := by
    intro ad hlt
    by_cases hb : ad.block = B0
    · obtain ⟨v0, ty, _, h1⟩ := hd0.own
      obtain ⟨v0', ty', _, h1'⟩ := h.hd.own
      simp only [World.frozen?, hb, h1, h1']
    · exact World.frozen?_of_block (h.lf.same _ hlt hb)
  rcases Nat.eq_zero_or_pos m with h0 | h0
  · have hv := h.nz h0
    have hrows : rows = [] := by rw [h0] at hm; exact List.length_eq_zero_iff.1 hm
    subst hv hrows
    refine ⟨K', h.lf.le, h.hd.fro, fun B ks hk hlt => (h.lf.old B ks hk).resolve_right (by omega), h.hd.conts, h.lf.size, fun B hlt hn => h.lf.same B hlt (by simpa using hn), h.lf.os, h.lf.output, hfz, .own0 5⟩
  · obtain ⟨g, cap, rfl, hlo, hlt⟩ := h.own.form h0
    have hk := h.kn g rfl
    rcases h.own.2 with ⟨h1, _⟩ | ⟨g', cap', cur, h1, h2, h3, h4, h5, h6, h7⟩
    · cases h1
    · cases h1
      let K'' : KK := fun B => if B = g then some xs else K' B
      have hle : Kle K' K'' := fun B ks hkB => ⟨ks, by
        show (if _ then _ else _) = _
        rw [if_neg (by rintro rfl; rw [hk] at hkB; cases hkB)]; exact hkB, List.prefix_refl _⟩
      have hpre : xs <+: cur.toList := by rw [← h7]; exact List.take_prefix _ _
      have hgB : g ≠ B0 := by omega
      refine ⟨K'', h.lf.le.trans hle, fun B ks hkB => ?_, fun B ks hkB hlt' => ?_, ?_, h.lf.size, fun B hlt hn => h.lf.same B hlt (by simpa using hn), h.lf.os, h.lf.output, hfz, ?_⟩
      · have hkB : (if B = g then some xs else K' B) = some ks := hkB
        by_cases hBg : B = g
        · rw [if_pos hBg] at hkB; cases hkB
          exact ⟨cur, 77, _, by rw [hBg]; exact h3, hpre⟩
        · rw [if_neg hBg] at hkB; exact h.hd.fro B ks hkB
      · have hkB : (if B = g then some xs else K' B) = some ks := hkB
        rw [if_neg (by omega)] at hkB
        exact (h.lf.old B ks hkB).resolve_right (by omega)
      · obtain ⟨v0, ty, q0, q1⟩ := h.hd.own
        have q0 := q0.mono hle
        refine .cons B0 _ _ _ _ ty ?_ q1 (.cons _ _ _ _ q0 (.cons _ _ _ _ (.int _ _) (.cons _ _ _ _ (.int _ _) (.cons _ _ _ _ (.int _ _) (.cons _ _ _ _ (.int _ _) .nil))))) .nil
        show (if _ then _ else _) = _
        rw [if_neg (by omega)]; exact h.hd.kb
      · subst hm
        exact .own rows g 5 cap xs cur 77 hlo (by show (if _ then _ else _) = _; rw [if_pos rfl]) (hr.mono hle) h0 h4 h3 (by omega)
theorem varRow_rel {K : KK} (x : Var) (hx : x.clock = []) : DRs K x.row [.string x.name, .int .i64 x.tk, .int .i64 x.tl, .slice none 0 0, .int .i64 x.at'] := by
  unfold Var.row
  rw [hx]
  exact .cons _ _ _ _ (.str _) (.cons _ _ _ _ (.int _ _) (.cons _ _ _ _ (.int _ _) (.cons _ _ _ _ (.none none 0 (fun _ => rfl)) (.cons _ _ _ _ (.int _ _) .nil))))
theorem Rows.one1 {K : KK} {e : Nat} {row : List PV} {ks : List Value} (h : DRs K row ks) (hl : row.length = e) : Rows K e [row] ks := by
  have hlen := h.length
  refine ⟨by simp; omega, fun i r hr => ?_, fun i r hr => ?_⟩
  · cases i with
    | zero => simp at hr; rw [← hr]; exact hl
    | succ i => simp at hr
  · cases i with
    | zero => simp at hr; rw [← hr]; simp; rw [List.take_of_length_le (by omega)]; exact h
    | succ i => simp at hr
theorem Rows.nil {K : KK} {e : Nat} : Rows K e [] [] := ⟨by simp, fun i r hr => by simp at hr, fun i r hr => by simp at hr⟩
theorem varCells_rows {K : KK} : ∀ (l : List Var), (∀ v ∈ l, v.clock = []) → Rows K 5 (l.map Var.row) (varCells l)
  | [], _ => Rows.nil
  | x :: l, h => by
    have h1 := Rows.one1 (varRow_rel (K := K) x (h x (by simp))) (e := 5) rfl
    have h2 := varCells_rows (K := K) l fun v hv => h v (by simp [hv])
    exact h1.append h2
end
inductive DsLoop (L : List PT) (n : Int) : Nat → Int → Int → Int → Nat → List Var → Int → Int → Int → Prop
  | stop (k : Nat) (a e b : Int) (m : Nat) : e ≠ 0 → DsLoop L n k a e b m [] a e b
  | last (k : Nat) (a e b : Int) (m : Nat) : e = 0 → PC Tryz.prog 148 [.ptr 0 0, .str ⟨#[59]⟩] [cells L a e b n] (.bool false) [cells L a e b n] → DsLoop L n k a e b m [] a e b
  | more (k : Nat) (a e b a1 a2 e2 b2 a' e' b' : Int) (m : Nat) (l1 l2 : List Var) : e = 0 → PC Tryz.prog 148 [.ptr 0 0, .str ⟨#[59]⟩] [cells L a e b n] (.bool true) [cells L a1 e b n] → Decl L n a1 e b m l1 a2 e2 b2 → DsLoop L n k a2 e2 b2 (m + l1.length) l2 a' e' b' →
      DsLoop L n (k + 1) a e b m (l1 ++ l2) a' e' b'
theorem DsLoop.inv {L : List PT} {n a e b a' e' b' : Int} {k m : Nat} {l : List Var} (h : DsLoop L n k a e b m l a' e' b') : (e ≠ 0 ∧ l = [] ∧ a' = a ∧ e' = e ∧ b' = b) ∨
    (e = 0 ∧ PC Tryz.prog 148 [.ptr 0 0, .str ⟨#[59]⟩] [cells L a e b n] (.bool false) [cells L a e b n] ∧ l = [] ∧ a' = a ∧ e' = e ∧ b' = b) ∨
    ∃ k' a1 a2 e2 b2 l1 l2, k = k' + 1 ∧ e = 0 ∧ PC Tryz.prog 148 [.ptr 0 0, .str ⟨#[59]⟩] [cells L a e b n] (.bool true) [cells L a1 e b n] ∧ Decl L n a1 e b m l1 a2 e2 b2 ∧ DsLoop L n k' a2 e2 b2 (m + l1.length) l2 a' e' b' ∧ l = l1 ++ l2 := by
  cases h with
  | stop => exact .inl ⟨‹_›, rfl, rfl, rfl, rfl⟩
  | last => exact .inr (.inl ⟨‹_›, ‹_›, rfl, rfl, rfl, rfl⟩)
  | more => exact .inr (.inr ⟨_, _, _, _, _, _, _, rfl, ‹_›, ‹_›, ‹_›, ‹_›, rfl⟩)
set_option maxHeartbeats 16000000 in
set_option maxRecDepth 100000 in
theorem decls_in {L : List PT} {n a e b a1 e1 b1 a' e' b' : Int} {l0 l : List Var} (h0 : Decl L n a e b 0 l0 a1 e1 b1) {k0 : Nat} (h : DsLoop L n k0 a1 e1 b1 l0.length l a' e' b') (hlim : l0.length + l.length ≤ 20000) {K : KK} {w : World} {B0 : Nat} (hd : Hd L B0 K w a e b n) :
    Calls Tryz.prog 147 #[.pointer (some ⟨B0, 0, none⟩)] w fun en w' => ∃ K' v', en = .returned v' ∧ DcI L n w.heap.size B0 K w K' w' a' e' b' v' (l0.length + l.length) (varCells (l0 ++ l)) := by
  have hB := hd.lt
  have H := decl_in h0 (by omega) (lo := w.heap.size) (v := .slice none 0 0) (xs := []) hd (World.ownsRow_nil w w.heap.size 77 5) (by intro g hg; cases hg) (fun _ => rfl) (Nat.le_refl _) hB
  simp only [Nat.zero_add, List.nil_append] at H
  go_enter Tryz.func147, Tryz.ntmps147
  go_wp2_with (fail)
  refine H.mono ?_
  rintro _ w1 ⟨K1, v1, rfl, hd1⟩
  obtain ⟨a0, cp, rfl⟩ := own_form hd1.own
  have A1 : Aside _ := hd1
  have hl0 := hB
  clear hd1 H hd
  go_wp2
  go_loopg [3, 4] (k0) (fun kx s3 s4 wr => ∃ (Kc : KK) (ac ec bc : Int) (dn rs : List Var) (kk : Nat), l0 ++ l = dn ++ rs ∧ kk ≤ kx ∧ Aside (DsLoop L n kk ac ec bc dn.length rs a' e' b' ∧ DcI L n w.heap.size B0 K w Kc wr ac ec bc s3 dn.length (varCells dn)))
  case atStart => exact ⟨K1, a1, e1, b1, l0, l, k0, rfl, Nat.le_refl _, h, A1.out⟩
  case round =>
    clear A1
    obtain ⟨Kc, ac, ec, bc, dn, rs, kk, hr, hkx, A⟩ := hrel
    obtain ⟨a0, cp, rfl⟩ := own_form A.out.2.own
    have c2 := A.out.2.hd.c2
    have hlt := A.out.2.hd.lt
    obtain ⟨hdl2, hdc⟩ := A.out
    have hr' : Aside (l0 ++ l = dn ++ rs) := hr
    have hlen : l0.length + l.length = dn.length + rs.length := by have := congrArg List.length hr; simpa using this
    clear hr
    rcases hdl2.inv with ⟨he, rfl, rfl, rfl, rfl⟩ | ⟨he, hp1, rfl, rfl, rfl, rfl⟩ | ⟨k', a2, a3, e3, b3, l1, l2, rfl, he, hp1, hdd, hdl3, rfl⟩
    · have A1 : Aside _ := hdc
      clear hdl2 hkx
      go_wp2
      go_ret
      exact ⟨Kc, _, rfl, by rw [hr'.out, hlen]; simpa using A1.out⟩
    · have A1 : Aside _ := hdc
      clear hdl2 hkx
      go_wp2_with (fail)
      refine (hd1 A1.out.hd hp1 (.str _)).mono ?_
      rintro _ wa ⟨Ka, _, rfl, hda, sta, hva⟩
      obtain rfl := rr_bool hva
      have Aa : Aside _ := A1.out.step (Nat.le_refl _) hB hda sta
      clear hda sta hva
      go_wp2
      go_ret
      exact ⟨Ka, _, rfl, by rw [hr'.out, hlen]; simpa using Aa.out⟩
    · have A1 : Aside _ := hdc
      have hlen2 : l0.length + l.length = dn.length + (l1.length + l2.length) := by rw [hlen, List.length_append]
      clear hdl2 hlen
      go_wp2_with (fail)
      refine (hd1 A1.out.hd hp1 (.str _)).mono ?_
      rintro _ wa ⟨Ka, _, rfl, hda, sta, hva⟩
      obtain rfl := rr_bool hva
      have Aa : Aside _ := A1.out.step (Nat.le_refl _) hB hda sta
      clear hda sta hva
      go_wp2_with (fail)
      refine (decl_in hdd (by omega) Aa.out.hd Aa.out.own Aa.out.kn Aa.out.nz Aa.out.lf.size hB).mono ?_
      rintro _ wb ⟨Kb, v2, rfl, hdb⟩
      obtain ⟨a9, cp9, rfl⟩ := own_form hdb.own
      have Ab : Aside (DsLoop L n k' a3 e3 b3 (dn ++ l1).length l2 a' e' b' ∧ DcI L n w.heap.size B0 K w Kb wb a3 e3 b3 (.slice a9 (dn.length + l1.length) cp9) (dn ++ l1).length (varCells (dn ++ l1))) :=
        ⟨by rw [List.length_append]; exact hdl3, by rw [List.length_append, varCells_append]; exact Aa.out.chain hdb⟩
      clear hdb hdl3
      go_wp2
      go_roundg (k')
      case measure => omega
      case rel => exact ⟨Kb, a3, e3, b3, dn ++ l1, l2, k', by rw [List.append_assoc]; exact hr'.out, Nat.le_refl _, Ab⟩
end Go.Vi
namespace Go.Vi
open Go Go.RowKit Go.Proofs
def Var.on (v : Var) (c : List Edge) : Var := { v with clock := c }
def edgeCells (c : List Edge) : List Value := c.flatMap fun g => [.string g.name, .bool g.on]
section
variable {K : KK} {e : Nat} {rows r1 r2 : List (List PV)} {ks : List Value} {row : List PV}
theorem Rows.split (h : Rows K e (r1 ++ r2) ks) : ∃ k1 k2, ks = k1 ++ k2 ∧ k1.length = r1.length * e ∧ Rows K e r1 k1 ∧ Rows K e r2 k2 := by
  have hlen := h.len
  rw [List.length_append, Nat.add_mul] at hlen
  refine ⟨ks.take (r1.length * e), ks.drop (r1.length * e), (List.take_append_drop _ _).symm, by rw [List.length_take]; omega, ⟨by rw [List.length_take]; omega, fun i r hr => ?_, fun i r hr => ?_⟩, ⟨by rw [List.length_drop]; omega, fun i r hr => ?_, fun i r hr => ?_⟩⟩
  · have hi := (List.getElem?_eq_some_iff.1 hr).1
    exact h.row i r (by rw [List.getElem?_append_left hi]; exact hr)
  · have hi := (List.getElem?_eq_some_iff.1 hr).1
    have := h.rel i r (by rw [List.getElem?_append_left hi]; exact hr)
    have h2 : i * e + e ≤ r1.length * e := by
      have := Nat.mul_le_mul_right e hi
      rw [Nat.succ_mul] at this; exact this
    rw [List.drop_take, List.take_take, Nat.min_eq_left (by omega)]
    exact this
  · exact h.row (r1.length + i) r (by rw [List.getElem?_append_right (by omega), Nat.add_sub_cancel_left]; exact hr)
  · have := h.rel (r1.length + i) r (by rw [List.getElem?_append_right (by omega), Nat.add_sub_cancel_left]; exact hr)
    rw [List.drop_drop, ← Nat.add_mul]
    exact this
theorem Rows.cons_split (h : Rows K e (row :: rows) ks) : ∃ k1 k2, ks = k1 ++ k2 ∧ k1.length = e ∧ DRs K row k1 ∧ Rows K e rows k2 := by
  obtain ⟨k1, k2, h1, h2, h3, h4⟩ := Rows.split (r1 := [row]) (r2 := rows) h
  have h5 := h3.rel 0 row rfl
  simp only [List.length_cons, List.length_nil, Nat.zero_add, Nat.one_mul] at h2
  simp only [Nat.zero_mul, List.drop_zero] at h5
  rw [List.take_of_length_le (by omega)] at h5
  exact ⟨k1, k2, h1, h2, h5, h4⟩
theorem edge_rows : ∀ {c : List Edge} {ks : List Value}, Rows K 2 (c.map Edge.row) ks → ks = edgeCells c
  | [], ks, h => by have := h.len; simpa [edgeCells] using this
  | g :: c, ks, h => by
    obtain ⟨k1, k2, rfl, _, h2, h3⟩ := Rows.cons_split h
    obtain ⟨v1, l1, rfl, g1, h2⟩ := h2.cons_inv
    obtain ⟨v2, rfl, g2⟩ := h2.one_inv
    rw [dr_str g1, dr_bool g2, edge_rows h3]
    rfl
theorem rows_edges : ∀ (c : List Edge), Rows K 2 (c.map Edge.row) (edgeCells c)
  | [] => Rows.nil
  | g :: c => (Rows.one1 (.cons _ _ _ _ (.str _) (.cons _ _ _ _ (.bool _) .nil)) rfl : Rows K 2 [g.row] _).append (rows_edges c)
theorem edgeCells_len (c : List Edge) : (edgeCells c).length = c.length * 2 := by
  induction c with
  | nil => rfl
  | cons x c ih => simp only [edgeCells, List.flatMap_cons, List.length_append, List.length_cons, List.length_nil] at ih ⊢; omega
theorem edgeCells_one (c : List Edge) : ∀ u ∈ edgeCells c, u.oneCell' = true := by
  intro u hu
  simp only [edgeCells, List.mem_flatMap] at hu
  obtain ⟨g, _, hu⟩ := hu
  simp at hu
  rcases hu with rfl | rfl <;> rfl
theorem var_inv {x : Var} {l : List Value} (h : DRs K x.row l) : ∃ vc, DR K (.lst (x.clock.map Edge.row)) vc ∧ l = [.string x.name, .int .i64 x.tk, .int .i64 x.tl, vc, .int .i64 x.at'] := by
  obtain ⟨v0, l1, rfl, h0, h⟩ := h.cons_inv
  obtain ⟨v1, l2, rfl, h1, h⟩ := h.cons_inv
  obtain ⟨v2, l3, rfl, h2, h⟩ := h.cons_inv
  obtain ⟨v3, l4, rfl, h3, h⟩ := h.cons_inv
  obtain ⟨v4, rfl, h4⟩ := h.one_inv
  rw [dr_str h0, dr_int h1, dr_int h2, dr_int h4]
  exact ⟨v3, h3, rfl⟩
theorem Rows.setClock {l1 l2 : List Var} {x : Var} {c : List Edge} {xs : List Value} {vc : Value} (h : Rows K 5 ((l1 ++ x :: l2).map Var.row) xs) (hc : DR K (.lst (c.map Edge.row)) vc) : Rows K 5 ((l1 ++ x.on c :: l2).map Var.row) (xs.set (l1.length * 5 + 3) vc) := by
  rw [List.map_append] at h
  obtain ⟨k1, k2, rfl, hk1, h1, h2⟩ := h.split
  obtain ⟨k3, k4, rfl, hk3, h3, h4⟩ := Rows.cons_split h2
  obtain ⟨vc0, _, rfl⟩ := var_inv h3
  rw [List.length_map] at hk1
  have : (k1 ++ ([.string x.name, .int .i64 x.tk, .int .i64 x.tl, vc0, .int .i64 x.at'] ++ k4)).set (l1.length * 5 + 3) vc = k1 ++ ([.string x.name, .int .i64 x.tk, .int .i64 x.tl, vc, .int .i64 x.at'] ++ k4) := by
    rw [set_app _ _ 3 _ _ (by rw [hk1])]
    rfl
  rw [this, List.map_append]
  refine h1.append ?_
  have h5 : DRs K (x.on c).row [.string x.name, .int .i64 x.tk, .int .i64 x.tl, vc, .int .i64 x.at'] :=
    .cons _ _ _ _ (.str _) (.cons _ _ _ _ (.int _ _) (.cons _ _ _ _ (.int _ _) (.cons _ _ _ _ hc (.cons _ _ _ _ (.int _ _) .nil))))
  exact (Rows.one1 h5 rfl : Rows K 5 [(x.on c).row] _).append h4
end
inductive LcStep (L : List PT) (n : Int) : Int → Int → Int → Nat → List Var → Int → Int → Int → Prop
  | plain (a e b a1 e1 b1 a2 e2 b2 : Int) (m : Nat) (l : List Var) : Decl L n a e b m l a1 e1 b1 → PC Tryz.prog 148 [.ptr 0 0, .str ⟨#[119, 104, 101, 110]⟩] [cells L a1 e1 b1 n] (.bool false) [cells L a1 e1 b1 n] →
      PC Tryz.prog 145 [.ptr 0 0, .str ⟨#[59]⟩] [cells L a1 e1 b1 n] (.tuple []) [cells L a2 e2 b2 n] → LcStep L n a e b m l a2 e2 b2
  | clock (a e b a1 e1 b1 a2 a3 e3 b3 a4 e4 b4 : Int) (m : Nat) (l : List Var) (c : List Edge) : Decl L n a e b m l a1 e1 b1 → PC Tryz.prog 148 [.ptr 0 0, .str ⟨#[119, 104, 101, 110]⟩] [cells L a1 e1 b1 n] (.bool true) [cells L a2 e1 b1 n] →
      PC Tryz.prog 160 [.ptr 0 0] [cells L a2 e1 b1 n] (.acc 2 (c.map Edge.row)) [cells L a3 e3 b3 n] → 0 < c.length → c.length ≤ 17 → PC Tryz.prog 145 [.ptr 0 0, .str ⟨#[59]⟩] [cells L a3 e3 b3 n] (.tuple []) [cells L a4 e4 b4 n] →
      LcStep L n a e b m (l.map fun v => v.on c) a4 e4 b4
theorem LcStep.inv {L : List PT} {n a e b a4 e4 b4 : Int} {m : Nat} {l' : List Var} (h : LcStep L n a e b m l' a4 e4 b4) : ∃ l a1 e1 b1, Decl L n a e b m l a1 e1 b1 ∧
    ((l' = l ∧ PC Tryz.prog 148 [.ptr 0 0, .str ⟨#[119, 104, 101, 110]⟩] [cells L a1 e1 b1 n] (.bool false) [cells L a1 e1 b1 n] ∧ PC Tryz.prog 145 [.ptr 0 0, .str ⟨#[59]⟩] [cells L a1 e1 b1 n] (.tuple []) [cells L a4 e4 b4 n]) ∨
    ∃ a2 a3 e3 b3 c, l' = l.map (fun v => v.on c) ∧ PC Tryz.prog 148 [.ptr 0 0, .str ⟨#[119, 104, 101, 110]⟩] [cells L a1 e1 b1 n] (.bool true) [cells L a2 e1 b1 n] ∧ PC Tryz.prog 160 [.ptr 0 0] [cells L a2 e1 b1 n] (.acc 2 (c.map Edge.row)) [cells L a3 e3 b3 n] ∧ 0 < c.length ∧ c.length ≤ 17 ∧
      PC Tryz.prog 145 [.ptr 0 0, .str ⟨#[59]⟩] [cells L a3 e3 b3 n] (.tuple []) [cells L a4 e4 b4 n]) := by
  cases h with
  | plain => exact ⟨_, _, _, _, ‹_›, .inl ⟨rfl, ‹_›, ‹_›⟩⟩
  | clock => exact ⟨_, _, _, _, ‹_›, .inr ⟨_, _, _, _, _, rfl, ‹_›, ‹_›, ‹_›, ‹_›, ‹_›⟩⟩
inductive LcLoop (L : List PT) (n : Int) : Nat → Int → Int → Int → Nat → List Var → Int → Int → Int → Prop
  | stop (k : Nat) (a e b : Int) (m : Nat) : e ≠ 0 → LcLoop L n k a e b m [] a e b
  | last (k : Nat) (a e b a' e' b' : Int) (m : Nat) (l : List Var) : e = 0 → LcStep L n a e b m l a' e' b' → At L a' → (e' ≠ 0 ∨ (tokAt L a').kind ≠ 1) → LcLoop L n k a e b m l a' e' b'
  | more (k : Nat) (a e b a1 e1 b1 a' e' b' : Int) (m : Nat) (l1 l2 : List Var) : e = 0 → LcStep L n a e b m l1 a1 e1 b1 → At L a1 → e1 = 0 → (tokAt L a1).kind = 1 → LcLoop L n k a1 e1 b1 (m + l1.length) l2 a' e' b' → LcLoop L n (k + 1) a e b m (l1 ++ l2) a' e' b'
theorem LcLoop.inv {L : List PT} {n a e b a' e' b' : Int} {k m : Nat} {l : List Var} (h : LcLoop L n k a e b m l a' e' b') : (e ≠ 0 ∧ l = [] ∧ a' = a ∧ e' = e ∧ b' = b) ∨
    (e = 0 ∧ LcStep L n a e b m l a' e' b' ∧ At L a' ∧ (e' ≠ 0 ∨ (tokAt L a').kind ≠ 1)) ∨
    ∃ k' a1 e1 b1 l1 l2, k = k' + 1 ∧ e = 0 ∧ LcStep L n a e b m l1 a1 e1 b1 ∧ At L a1 ∧ e1 = 0 ∧ (tokAt L a1).kind = 1 ∧ LcLoop L n k' a1 e1 b1 (m + l1.length) l2 a' e' b' ∧ l = l1 ++ l2 := by
  cases h with
  | stop => exact .inl ⟨‹_›, rfl, rfl, rfl, rfl⟩
  | last => exact .inr (.inl ⟨‹_›, ‹_›, ‹_›, ‹_›⟩)
  | more => exact .inr (.inr ⟨_, _, _, _, _, _, rfl, ‹_›, ‹_›, ‹_›, ‹_›, ‹_›, ‹_›, rfl⟩)
section
variable {L : List PT}
end
end Go.Vi
namespace Go.Vi
open Go Go.RowKit Go.Proofs
theorem Decl.plain {L : List PT} {n a e b a' e' b' : Int} {m : Nat} {l : List Var} (h : Decl L n a e b m l a' e' b') : ∀ v ∈ l, v.clock = [] := by
  intro v hv
  cases h with
  | full => obtain ⟨x, _, rfl⟩ := List.mem_map.1 hv; rfl
  | mk => obtain ⟨x, _, rfl⟩ := List.mem_map.1 hv; rfl
theorem rr_acc {K : KK} {w : World} {base e : Nat} {rows : List (List PV)} {v : Value} (h : RR K w base (.acc e rows) v) (h0 : 0 < rows.length) : ∃ B c ks vs ty, v = .slice (some ⟨B, 0, none⟩) rows.length c ∧ base ≤ B ∧ K B = some ks ∧ Rows K e rows ks ∧ w.heap[B]? = some (.cells vs ty (0, 0)) ∧ rows.length ≤ c := by
  cases h with
  | one _ _ h => cases h with | data _ _ h => cases h
  | own0 => simp at h0
  | own _ B _ c ks vs ty h1 h2 h3 h4 h5 h6 h7 => exact ⟨B, c, ks, vs, ty, rfl, h1, h2, h3, h6, h5⟩
section
variable {L : List PT} {n : Int} {lo B0 : Nat} {K0 K : KK} {w0 w w' : World} {a e b : Int} {v : Value} {m : Nat} {xs : List Value}
theorem DcI.know (h : DcI L n lo B0 K0 w0 K w a e b v m xs) (hl : lo ≤ w0.heap.size) (hB : B0 < lo) (hg : w.grownBy w' none) {g cap k : Nat} {t : TypeId} {sz : Nat} {ks : List Value} (hown : w'.ownsRow w.heap.size t sz (.slice (some ⟨g, 0, none⟩) k cap) k ks) :
    ∃ K', DcI L n lo B0 K0 w0 K' w' a e b v m xs ∧ K' g = some ks ∧ Kle K K' ∧ k ≤ cap ∧ ∀ B, B ≠ g → K' B = K B := by
  have hs0 := h.lf.size
  rcases hown.2 with ⟨h1, _⟩ | ⟨g', cap', cur, h1, h2, h3, h4, h5, h6, h7⟩
  · cases h1
  · cases h1
    have hle : Kle K (fun B => if B = g then some ks else K B) := fun B kb hk => ⟨kb, by
      have := h.hd.klt hk
      show (if B = g then some ks else K B) = some kb
      rw [if_neg (by omega)]; exact hk, List.prefix_refl _⟩
    have hlt := h.hd.lt
    have hsame : ∀ B, B < w.heap.size → w'.heap[B]? = w.heap[B]? := fun B hlt => hg.block B hlt (by simp)
    refine ⟨fun B => if B = g then some ks else K B, ⟨⟨fun B kb hk => ?_, ?_, ?_⟩, ⟨h.lf.le.trans hle, fun B kb hk => ?_, Nat.le_trans hs0 hg.size, fun B hlo hn => (hsame B (by omega)).trans (h.lf.same B hlo hn), hg.os.trans h.lf.os, hg.output.trans h.lf.output⟩, own_frame h.own fun B hb => hsame B (World.ownsRow.lt h.own B hb).2, fun B hb => ?_, h.nz⟩, ?_, hle, h4, fun B hne => ?_⟩
    · by_cases hBg : B = g
      · rw [if_pos hBg] at hk; cases hk
        exact ⟨cur, t, _, by rw [hBg]; exact h3, by rw [← h7]; exact List.take_prefix _ _⟩
      · rw [if_neg hBg] at hk
        obtain ⟨vs, ty, fz, q1, q2⟩ := h.hd.fro B kb hk
        exact ⟨vs, ty, fz, (hsame B (h.hd.klt hk)).trans q1, q2⟩
    · show (if _ then _ else _) = _
      rw [if_neg (by omega)]; exact h.hd.kb
    · obtain ⟨v0, ty, q0, q1⟩ := h.hd.own
      exact ⟨v0, ty, q0.mono hle, (hsame B0 hlt).trans q1⟩
    · by_cases hBg : B = g
      · exact .inr (by omega)
      · rw [if_neg hBg] at hk; exact h.lf.old B kb hk
    · show (if _ then _ else _) = _
      have := (World.ownsRow.lt h.own B hb).2
      rw [if_neg (by omega)]; exact h.kn B hb
    · show (if _ then _ else _) = _
      rw [if_pos rfl]
    · show (if _ then _ else _) = _
      rw [if_neg hne]
end
theorem take_drop_on {l : List Var} {d : Nat} (hd : d < l.length) (c : List Edge) : (l.take d).map (fun v => v.on c) ++ (l[d]).on c :: l.drop (d + 1) = (l.take (d + 1)).map (fun v => v.on c) ++ l.drop (d + 1) := by
  rw [List.take_succ_eq_append_getElem hd, List.map_append, List.append_assoc]
  rfl
theorem info80 : (Tryz.prog.info? 80).map (fun i => (i.zero, i.size, i.bytes)) = some (some (.agg #[.string ⟨#[]⟩, .bool false]), 2, 24) := by kernel_rfl
structure LcI (L : List PT) (n : Int) (lo B0 : Nat) (K0 : KK) (w0 : World) (K : KK) (w : World) (a e b : Int) (v : Value) (m : Nat) (l : List Var) (xs : List Value) : Prop where
  i : DcI L n lo B0 K0 w0 K w a e b v m xs
  r : Rows K 5 (l.map Var.row) xs
theorem LcI.step {L : List PT} {n : Int} {lo B0 : Nat} {K0 K K' : KK} {w0 w w' : World} {a e b a' e' b' : Int} {v : Value} {m : Nat} {l : List Var} {xs : List Value} (h : LcI L n lo B0 K0 w0 K w a e b v m l xs) (hl : lo ≤ w0.heap.size) (hB : B0 < lo) (hd : Hd L B0 K' w' a' e' b' n) (st : St1 B0 K w K' w') : LcI L n lo B0 K0 w0 K' w' a' e' b' v m l xs :=
  ⟨h.i.step hl hB hd st, h.r.mono st.le⟩
set_option maxHeartbeats 16000000 in
set_option maxRecDepth 100000 in
theorem locals_in {L : List PT} {n a e b a' e' b' : Int} {k0 : Nat} {l : List Var} (h : LcLoop L n k0 a e b 0 l a' e' b') (hlim : l.length ≤ 20000) {K : KK} {w : World} {B0 : Nat} (hd : Hd L B0 K w a e b n) :
    Calls Tryz.prog 149 #[.pointer (some ⟨B0, 0, none⟩)] w fun en w' => ∃ K' v' xs, en = .returned v' ∧ LcI L n w.heap.size B0 K w K' w' a' e' b' v' l.length l xs := by
  have hB := hd.lt
  obtain ⟨i0, hi, hz0, hz1, hz2⟩ : ∃ i, Tryz.prog.info? 80 = some i ∧ i.zero = some (.agg #[.string ⟨#[]⟩, .bool false]) ∧ i.size = 2 ∧ i.bytes = 24 := by
    have := info80
    cases h : Tryz.prog.info? 80 with
    | none => rw [h] at this; cases this
    | some i =>
      rw [h] at this
      simp only [Option.map_some, Option.some.injEq, Prod.mk.injEq] at this
      exact ⟨i, rfl, this⟩
  have hf0 := field196_0
  have A0 : Aside (LcI L n w.heap.size B0 K w K w a e b (.slice none 0 0) 0 [] []) := ⟨⟨hd, Lf.refl _ _ _ _, World.ownsRow_nil w w.heap.size 77 5, (by intro g hg; cases hg), fun _ => rfl⟩, Rows.nil⟩
  clear hd
  go_enter Tryz.func149, Tryz.ntmps149
  go_wp2
  go_loopg [3, 4, 5, 6, 7] (k0) (fun kx s3 s4 s5 s6 s7 wr => ∃ (Kc : KK) (ac ec bc : Int) (dn rs : List Var) (kk : Nat) (xs : List Value), l = dn ++ rs ∧ kk ≤ kx ∧ Aside (LcLoop L n kk ac ec bc dn.length rs a' e' b' ∧ LcI L n w.heap.size B0 K w Kc wr ac ec bc s3 dn.length dn xs))
  case atStart => exact ⟨K, a, e, b, [], l, k0, [], rfl, Nat.le_refl _, h, A0.out⟩
  case round =>
    clear A0
    obtain ⟨Kc, ac, ec, bc, dn, rs, kk, xs, hr, hkx, A⟩ := hrel
    obtain ⟨a0, cp, rfl⟩ := own_form A.out.2.i.own
    have c2 := A.out.2.i.hd.c2
    have hlt := A.out.2.i.hd.lt
    obtain ⟨hdl2, hdc⟩ := A.out
    have hr' : Aside (l = dn ++ rs) := hr
    have hlen : l.length = dn.length + rs.length := by rw [hr]; simp
    clear hr
    have A1 : Aside _ := hdc
    clear hdc A
    rcases hdl2.inv with ⟨he, rfl, rfl, rfl, rfl⟩ | ⟨he, hst, hae, hend⟩ | ⟨k', a1, e1, b1, l1, l2, rfl, he, hst, hae, he1, hk1, hdl3, rfl⟩
    · clear hdl2 hkx
      go_wp2
      go_ret
      exact ⟨Kc, _, xs, rfl, by rw [hlen, hr'.out]; simpa using A1.out⟩
    ·
      obtain ⟨l0, a2, e2, b2, hdd, hcase⟩ := hst.inv
      have hl0 : rs.length = l0.length := by rcases hcase with ⟨rfl, _⟩ | ⟨_, _, _, _, _, rfl, _⟩ <;> simp
      have hl20 : dn.length + l0.length ≤ 20000 := by omega
      clear hdl2
      have hpl := hdd.plain
      go_wp2_with (fail)
      refine (decl_in hdd (by omega) A1.out.i.hd A1.out.i.own A1.out.i.kn A1.out.i.nz A1.out.i.lf.size hB).mono ?_
      rintro _ wb ⟨Kb, v2, rfl, hdb⟩
      obtain ⟨a3, cp3, rfl⟩ := own_form hdb.own
      have Ab : Aside (LcI L n w.heap.size B0 K w Kb wb a2 e2 b2 (.slice a3 (dn.length + l0.length) cp3) (dn.length + l0.length) (dn ++ l0) (xs ++ varCells l0)) :=
        ⟨A1.out.i.chain hdb, by rw [List.map_append]; exact (A1.out.r.mono hdb.lf.le).append (varCells_rows l0 hpl)⟩
      clear hdb A1
      rcases hcase with ⟨rfl, hp1, hp2⟩ | ⟨a4, a5, e5, b5, c, rfl, hp1, hp2, hc0, hc17, hp3⟩
      ·
        go_wp2_with (fail)
        refine (hd1 Ab.out.i.hd hp1 (.str _)).mono ?_
        rintro _ wc ⟨Kc3, _, rfl, hdc, stc, hvc⟩
        obtain rfl := rr_bool hvc
        have Ac : Aside _ := Ab.out.step (Nat.le_refl _) hB hdc stc
        clear hdc stc hvc Ab
        go_wp2_with (fail)
        refine (hd1 Ac.out.i.hd hp2 (.str _)).mono ?_
        rintro _ wd ⟨Kd, _, rfl, hdd4, std, hvd⟩
        obtain rfl := rr_unit hvd
        have Ad : Aside _ := Ac.out.step (Nat.le_refl _) hB hdd4 std
        clear hdd4 std hvd Ac
        have c29 := Ad.out.i.hd.c2
        have hlt9 := Ad.out.i.hd.lt
        by_cases he9 : e' = 0
        · have hk9 : (tokAt L a').kind ≠ 1 := hend.resolve_left (fun h => h he9)
          go_wp2_with (fail)
          refine (hd0 Ad.out.i.hd (tok_pc hae)).mono ?_
          rintro _ wt ⟨Kt, _, rfl, hdt, stt, hvt⟩
          obtain rfl := rr_tok hvt
          have At : Aside _ := Ad.out.step (Nat.le_refl _) hB hdt stt
          clear hdt stt hvt
          go_wp2
          go_ret
          exact ⟨Kt, _, _, rfl, by rw [hlen, hr'.out]; first | exact At.out | (rw [List.length_map]; exact At.out)⟩
        · go_wp2
          go_ret
          exact ⟨_, _, _, rfl, by rw [hlen, hr'.out]; first | exact Ad.out | (rw [List.length_map]; exact Ad.out)⟩
      ·
        go_wp2_with (fail)
        refine (hd1 Ab.out.i.hd hp1 (.str _)).mono ?_
        rintro _ wc ⟨Kc3, _, rfl, hdc, stc, hvc⟩
        obtain rfl := rr_bool hvc
        have Ac : Aside _ := Ab.out.step (Nat.le_refl _) hB hdc stc
        clear hdc stc hvc Ab
        go_wp2_with (fail)
        refine (hd0 Ac.out.i.hd hp2).mono ?_
        rintro _ wd ⟨Kd, _, rfl, hdd4, std, hvd⟩
        obtain ⟨gc, cc, kc, vs, ty, rfl, hgc, hkc, hrc, hwc, hcc⟩ := rr_acc hvd (by simpa using hc0)
        obtain rfl := edge_rows hrc
        rw [List.length_map] at hcc
        rw [List.length_map]
        have Ad : Aside (LcI L n w.heap.size B0 K w Kd wd a5 e5 b5 (.slice a3 (dn.length + l0.length) cp3) (dn.length + l0.length) (dn ++ l0) (xs ++ varCells l0) ∧ Kd gc = some (edgeCells c)) := ⟨Ac.out.step (Nat.le_refl _) hB hdd4 std, hkc⟩
        clear hdd4 std hvd Ac hrc hwc hkc
        go_wp2
        go_loopg [7] (l0.length) (fun kx s7 wr => ∃ (d : Nat) (Ke : KK) (xd : List Value), s7 = .int .i64 ((dn.length + d : Nat) : Int) ∧ d ≤ l0.length ∧ l0.length - d ≤ kx ∧ Aside (LcI L n w.heap.size B0 K w Ke wr a5 e5 b5 (.slice a3 (dn.length + l0.length) cp3) (dn.length + l0.length) (dn ++ ((l0.take d).map (fun v => v.on c) ++ l0.drop d)) xd ∧ Ke gc = some (edgeCells c)))
        case atStart => exact ⟨0, Kd, _, rfl, by omega, by omega, by rw [List.take_zero, List.map_nil, List.nil_append, List.drop_zero]; exact Ad.out⟩
        case round =>
          clear Ad
          obtain ⟨d, Ke, xd, rfl, hd9, hki, B⟩ := hrel
          by_cases hin : d < l0.length
          · have hown := B.out.1.i.own
            obtain ⟨gk, cap, hv, hgb, hglt⟩ := hown.form (by omega)
            obtain ⟨rfl, rfl⟩ : a3 = some ⟨gk, 0, none⟩ ∧ cp3 = cap := by injection hv with h1 h2 h3; exact ⟨h1, h3⟩
            have hin' : ((dn.length + d : Nat) : Int) < (dn.length + l0.length : Nat) := by omega
            obtain ⟨vsc, tyc, _, hwc, hpc⟩ := B.out.1.i.hd.fro gc _ B.out.2
            have hcells : Aside (∀ j u, (edgeCells c)[j]? = some u → wr.cell? ((⟨gc, 0, none⟩ : Addr).add j) = some u) := fun j u hu => by
              obtain ⟨rest, hrest⟩ := hpc
              have : vsc.toList[j]? = some u := by rw [← hrest, List.getElem?_append_left (List.getElem?_eq_some_iff.1 hu).1]; exact hu
              rw [show ((⟨gc, 0, none⟩ : Addr).add j) = ⟨gc, j, none⟩ by simp only [Addr.add]; split <;> simp_all]
              rw [cell_of_row _ _ _ _ _ _ hwc]
              simpa using this
            have hec := edgeCells_len c
            clear hv hown hwc hpc
            go_wp2_with (first | (at_builtin; refine wpList_append_lies _ rfl _ _ 75 rfl wr.heap.size 80 i0 _ 2 24 Tryz.underlying75 hi hz0 hz1 hz2 rfl (by decide) _ 0 [] rfl (World.ownsRow_nil wr wr.heap.size 80 2) ⟨gc, 0, none⟩ c.length cc (edgeCells c) rfl (by omega) hcells.out (edgeCells_one c) (by omega) ?c2 ?c3 (Nat.le_refl _) wr.heap.size rfl ?_))
            case c2 => unfold maxLen; omega
            case c3 => omega
            intro gn capn w6 hown6 hgrow hat hlt6
            obtain ⟨K6, h6, hk6, hle6, hcap6, hold6⟩ := B.out.1.i.know (Nat.le_refl _) hB (by simpa [Value.ownBlock] using hgrow) hown6
            have hdr : DR K6 (.lst (c.map Edge.row)) (.slice (some ⟨gn, 0, none⟩) c.length capn) := by
              have h9 := Rows.dr (rows_edges (K := K6) c) (by simpa using hc0) hk6 (List.prefix_refl _) (c := capn) (by simpa using hcap6)
              rw [List.length_map] at h9; exact h9
            have hcell := own_cell h6.own (g := gk) rfl
            obtain ⟨v3, hc3⟩ := (hcell ((dn.length + d) * 5 + 3) (by omega)).1
            have hf3 := (hcell ((dn.length + d) * 5 + 3) (by omega)).2
            have B7 : Aside (LcI L n w.heap.size B0 K w K6 (w6.setCell ⟨gk, (dn.length + d) * 5 + 3, none⟩ (.slice (some ⟨gn, 0, none⟩) c.length capn)) a5 e5 b5 (.slice (some ⟨gk, 0, none⟩) (dn.length + l0.length) cp3) (dn.length + l0.length) (dn ++ ((l0.take (d + 1)).map (fun v => v.on c) ++ l0.drop (d + 1))) (xd.set ((dn.length + d) * 5 + 3) (.slice (some ⟨gn, 0, none⟩) c.length capn)) ∧ K6 gc = some (edgeCells c)) := by
              refine ⟨⟨h6.set hB (g := gk) rfl _ _, ?_⟩, ?_⟩
              · have h8 := B.out.1.r.mono hle6
                rw [List.drop_eq_getElem_cons hin, ← List.append_assoc] at h8
                have h9 := Rows.setClock (c := c) h8 hdr
                rw [← take_drop_on hin c, ← List.append_assoc]
                have hl9 : (dn ++ (l0.take d).map (fun v => v.on c)).length = dn.length + d := by simp; omega
                rw [hl9] at h9
                exact h9
              · by_cases hgg : gc = gn
                · rw [hgg]; exact hk6
                · rw [hold6 gc hgg]; exact B.out.2
            clear hown6 hgrow hat hdr hcell h6 hk6 hle6 hold6 B
            go_wp2
            go_roundg (l0.length - (d + 1))
            case measure => omega
            case rel => exact ⟨d + 1, K6, _, by go_num, by omega, by omega, B7⟩
          · have hin' : ¬ ((dn.length + d : Nat) : Int) < (dn.length + l0.length : Nat) := by omega
            obtain rfl : d = l0.length := by omega
            have Be : Aside (LcI L n w.heap.size B0 K w Ke wr a5 e5 b5 (.slice a3 (dn.length + l0.length) cp3) (dn.length + l0.length) (dn ++ (l0.map fun v => v.on c)) xd) := by have h9 := B.out.1; rw [List.take_length, List.drop_length, List.append_nil] at h9; exact h9
            clear B
            go_wp2_with (fail)
            refine (hd1 Be.out.i.hd hp3 (.str _)).mono ?_
            rintro _ we ⟨Kf, _, rfl, hde, ste, hve⟩
            obtain rfl := rr_unit hve
            have Af : Aside _ := Be.out.step (Nat.le_refl _) hB hde ste
            clear hde ste hve Be
            have c29 := Af.out.i.hd.c2
            have hlt9 := Af.out.i.hd.lt
            by_cases he9 : e' = 0
            · have hk9 : (tokAt L a').kind ≠ 1 := hend.resolve_left (fun h => h he9)
              go_wp2_with (fail)
              refine (hd0 Af.out.i.hd (tok_pc hae)).mono ?_
              rintro _ wt ⟨Kt, _, rfl, hdt, stt, hvt⟩
              obtain rfl := rr_tok hvt
              have At : Aside _ := Af.out.step (Nat.le_refl _) hB hdt stt
              clear hdt stt hvt
              go_wp2
              go_ret
              exact ⟨Kt, _, _, rfl, by rw [hlen, hr'.out]; first | exact At.out | (rw [List.length_map]; exact At.out)⟩
            · go_wp2
              go_ret
              exact ⟨_, _, _, rfl, by rw [hlen, hr'.out]; first | exact Af.out | (rw [List.length_map]; exact Af.out)⟩
    ·
      obtain ⟨l0, a2, e2, b2, hdd, hcase⟩ := hst.inv
      have hl0 : l1.length = l0.length := by rcases hcase with ⟨rfl, _⟩ | ⟨_, _, _, _, _, rfl, _⟩ <;> simp
      have hl20 : dn.length + l0.length ≤ 20000 := by rw [List.length_append] at hlen; omega
      clear hdl2
      have hpl := hdd.plain
      go_wp2_with (fail)
      refine (decl_in hdd (by rw [List.length_append] at hlen; omega) A1.out.i.hd A1.out.i.own A1.out.i.kn A1.out.i.nz A1.out.i.lf.size hB).mono ?_
      rintro _ wb ⟨Kb, v2, rfl, hdb⟩
      obtain ⟨a3, cp3, rfl⟩ := own_form hdb.own
      have Ab : Aside (LcI L n w.heap.size B0 K w Kb wb a2 e2 b2 (.slice a3 (dn.length + l0.length) cp3) (dn.length + l0.length) (dn ++ l0) (xs ++ varCells l0)) :=
        ⟨A1.out.i.chain hdb, by rw [List.map_append]; exact (A1.out.r.mono hdb.lf.le).append (varCells_rows l0 hpl)⟩
      clear hdb A1
      rcases hcase with ⟨rfl, hp1, hp2⟩ | ⟨a4, a5, e5, b5, c, rfl, hp1, hp2, hc0, hc17, hp3⟩
      ·
        go_wp2_with (fail)
        refine (hd1 Ab.out.i.hd hp1 (.str _)).mono ?_
        rintro _ wc ⟨Kc3, _, rfl, hdc, stc, hvc⟩
        obtain rfl := rr_bool hvc
        have Ac : Aside _ := Ab.out.step (Nat.le_refl _) hB hdc stc
        clear hdc stc hvc Ab
        go_wp2_with (fail)
        refine (hd1 Ac.out.i.hd hp2 (.str _)).mono ?_
        rintro _ wd ⟨Kd, _, rfl, hdd4, std, hvd⟩
        obtain rfl := rr_unit hvd
        have Ad : Aside _ := Ac.out.step (Nat.le_refl _) hB hdd4 std
        clear hdd4 std hvd Ac
        have c29 := Ad.out.i.hd.c2
        have hlt9 := Ad.out.i.hd.lt
        go_wp2_with (fail)
        refine (hd0 Ad.out.i.hd (tok_pc hae)).mono ?_
        rintro _ wt ⟨Kt, _, rfl, hdt, stt, hvt⟩
        obtain rfl := rr_tok hvt
        have At : Aside _ := Ad.out.step (Nat.le_refl _) hB hdt stt
        clear hdt stt hvt
        have Au : Aside (LcLoop L n k' a1 e1 b1 (dn ++ l1).length l2 a' e' b' ∧ LcI L n w.heap.size B0 K w Kt wt a1 e1 b1 (.slice a3 (dn.length + l1.length) cp3) (dn ++ l1).length (dn ++ l1) _) :=
          ⟨by rw [List.length_append]; exact hdl3, by have h9 := At.out; rw [List.length_append]; exact h9⟩
        clear At
        go_wp2
        go_roundg (k')
        case measure => omega
        case rel => exact ⟨Kt, a1, e1, b1, dn ++ l1, l2, k', _, by rw [List.append_assoc]; exact hr'.out, Nat.le_refl _, Au⟩
      ·
        go_wp2_with (fail)
        refine (hd1 Ab.out.i.hd hp1 (.str _)).mono ?_
        rintro _ wc ⟨Kc3, _, rfl, hdc, stc, hvc⟩
        obtain rfl := rr_bool hvc
        have Ac : Aside _ := Ab.out.step (Nat.le_refl _) hB hdc stc
        clear hdc stc hvc Ab
        go_wp2_with (fail)
        refine (hd0 Ac.out.i.hd hp2).mono ?_
        rintro _ wd ⟨Kd, _, rfl, hdd4, std, hvd⟩
        obtain ⟨gc, cc, kc, vs, ty, rfl, hgc, hkc, hrc, hwc, hcc⟩ := rr_acc hvd (by simpa using hc0)
        obtain rfl := edge_rows hrc
        rw [List.length_map] at hcc
        rw [List.length_map]
        have Ad : Aside (LcI L n w.heap.size B0 K w Kd wd a5 e5 b5 (.slice a3 (dn.length + l0.length) cp3) (dn.length + l0.length) (dn ++ l0) (xs ++ varCells l0) ∧ Kd gc = some (edgeCells c)) := ⟨Ac.out.step (Nat.le_refl _) hB hdd4 std, hkc⟩
        clear hdd4 std hvd Ac hrc hwc hkc
        go_wp2
        go_loopg [7] (l0.length) (fun kx s7 wr => ∃ (d : Nat) (Ke : KK) (xd : List Value), s7 = .int .i64 ((dn.length + d : Nat) : Int) ∧ d ≤ l0.length ∧ l0.length - d ≤ kx ∧ Aside (LcI L n w.heap.size B0 K w Ke wr a5 e5 b5 (.slice a3 (dn.length + l0.length) cp3) (dn.length + l0.length) (dn ++ ((l0.take d).map (fun v => v.on c) ++ l0.drop d)) xd ∧ Ke gc = some (edgeCells c)))
        case atStart => exact ⟨0, Kd, _, rfl, by omega, by omega, by rw [List.take_zero, List.map_nil, List.nil_append, List.drop_zero]; exact Ad.out⟩
        case round =>
          clear Ad
          obtain ⟨d, Ke, xd, rfl, hd9, hki, B⟩ := hrel
          by_cases hin : d < l0.length
          · have hown := B.out.1.i.own
            obtain ⟨gk, cap, hv, hgb, hglt⟩ := hown.form (by omega)
            obtain ⟨rfl, rfl⟩ : a3 = some ⟨gk, 0, none⟩ ∧ cp3 = cap := by injection hv with h1 h2 h3; exact ⟨h1, h3⟩
            have hin' : ((dn.length + d : Nat) : Int) < (dn.length + l0.length : Nat) := by omega
            obtain ⟨vsc, tyc, _, hwc, hpc⟩ := B.out.1.i.hd.fro gc _ B.out.2
            have hcells : Aside (∀ j u, (edgeCells c)[j]? = some u → wr.cell? ((⟨gc, 0, none⟩ : Addr).add j) = some u) := fun j u hu => by
              obtain ⟨rest, hrest⟩ := hpc
              have : vsc.toList[j]? = some u := by rw [← hrest, List.getElem?_append_left (List.getElem?_eq_some_iff.1 hu).1]; exact hu
              rw [show ((⟨gc, 0, none⟩ : Addr).add j) = ⟨gc, j, none⟩ by simp only [Addr.add]; split <;> simp_all]
              rw [cell_of_row _ _ _ _ _ _ hwc]
              simpa using this
            have hec := edgeCells_len c
            clear hv hown hwc hpc
            go_wp2_with (first | (at_builtin; refine wpList_append_lies _ rfl _ _ 75 rfl wr.heap.size 80 i0 _ 2 24 Tryz.underlying75 hi hz0 hz1 hz2 rfl (by decide) _ 0 [] rfl (World.ownsRow_nil wr wr.heap.size 80 2) ⟨gc, 0, none⟩ c.length cc (edgeCells c) rfl (by omega) hcells.out (edgeCells_one c) (by omega) ?c2 ?c3 (Nat.le_refl _) wr.heap.size rfl ?_))
            case c2 => unfold maxLen; omega
            case c3 => omega
            intro gn capn w6 hown6 hgrow hat hlt6
            obtain ⟨K6, h6, hk6, hle6, hcap6, hold6⟩ := B.out.1.i.know (Nat.le_refl _) hB (by simpa [Value.ownBlock] using hgrow) hown6
            have hdr : DR K6 (.lst (c.map Edge.row)) (.slice (some ⟨gn, 0, none⟩) c.length capn) := by
              have h9 := Rows.dr (rows_edges (K := K6) c) (by simpa using hc0) hk6 (List.prefix_refl _) (c := capn) (by simpa using hcap6)
              rw [List.length_map] at h9; exact h9
            have hcell := own_cell h6.own (g := gk) rfl
            obtain ⟨v3, hc3⟩ := (hcell ((dn.length + d) * 5 + 3) (by omega)).1
            have hf3 := (hcell ((dn.length + d) * 5 + 3) (by omega)).2
            have B7 : Aside (LcI L n w.heap.size B0 K w K6 (w6.setCell ⟨gk, (dn.length + d) * 5 + 3, none⟩ (.slice (some ⟨gn, 0, none⟩) c.length capn)) a5 e5 b5 (.slice (some ⟨gk, 0, none⟩) (dn.length + l0.length) cp3) (dn.length + l0.length) (dn ++ ((l0.take (d + 1)).map (fun v => v.on c) ++ l0.drop (d + 1))) (xd.set ((dn.length + d) * 5 + 3) (.slice (some ⟨gn, 0, none⟩) c.length capn)) ∧ K6 gc = some (edgeCells c)) := by
              refine ⟨⟨h6.set hB (g := gk) rfl _ _, ?_⟩, ?_⟩
              · have h8 := B.out.1.r.mono hle6
                rw [List.drop_eq_getElem_cons hin, ← List.append_assoc] at h8
                have h9 := Rows.setClock (c := c) h8 hdr
                rw [← take_drop_on hin c, ← List.append_assoc]
                have hl9 : (dn ++ (l0.take d).map (fun v => v.on c)).length = dn.length + d := by simp; omega
                rw [hl9] at h9
                exact h9
              · by_cases hgg : gc = gn
                · rw [hgg]; exact hk6
                · rw [hold6 gc hgg]; exact B.out.2
            clear hown6 hgrow hat hdr hcell h6 hk6 hle6 hold6 B
            go_wp2
            go_roundg (l0.length - (d + 1))
            case measure => omega
            case rel => exact ⟨d + 1, K6, _, by go_num, by omega, by omega, B7⟩
          · have hin' : ¬ ((dn.length + d : Nat) : Int) < (dn.length + l0.length : Nat) := by omega
            obtain rfl : d = l0.length := by omega
            have Be : Aside (LcI L n w.heap.size B0 K w Ke wr a5 e5 b5 (.slice a3 (dn.length + l0.length) cp3) (dn.length + l0.length) (dn ++ (l0.map fun v => v.on c)) xd) := by have h9 := B.out.1; rw [List.take_length, List.drop_length, List.append_nil] at h9; exact h9
            clear B
            go_wp2_with (fail)
            refine (hd1 Be.out.i.hd hp3 (.str _)).mono ?_
            rintro _ we ⟨Kf, _, rfl, hde, ste, hve⟩
            obtain rfl := rr_unit hve
            have Af : Aside _ := Be.out.step (Nat.le_refl _) hB hde ste
            clear hde ste hve Be
            have c29 := Af.out.i.hd.c2
            have hlt9 := Af.out.i.hd.lt
            go_wp2_with (fail)
            refine (hd0 Af.out.i.hd (tok_pc hae)).mono ?_
            rintro _ wt ⟨Kt, _, rfl, hdt, stt, hvt⟩
            obtain rfl := rr_tok hvt
            have At : Aside _ := Af.out.step (Nat.le_refl _) hB hdt stt
            clear hdt stt hvt
            have Au : Aside (LcLoop L n k' a1 e1 b1 (dn ++ (l0.map fun v => v.on c)).length l2 a' e' b' ∧ LcI L n w.heap.size B0 K w Kt wt a1 e1 b1 (.slice a3 (dn.length + l0.length) cp3) (dn ++ (l0.map fun v => v.on c)).length (dn ++ (l0.map fun v => v.on c)) _) :=
              ⟨by rw [List.length_append]; exact hdl3, by have h9 := At.out; rw [List.length_append, List.length_map]; exact h9⟩
            clear At
            go_wp2
            go_roundg (k')
            case measure => omega
            case rel => exact ⟨Kt, a1, e1, b1, dn ++ (l0.map fun v => v.on c), l2, k', _, by rw [List.append_assoc]; exact hr'.out, Nat.le_refl _, Au⟩
end Go.Vi
