/- Part of the proof of ClocksDeep (own work). -/
import Derived.Test.YtlonlfiaclacdaaGreatE1
import Derived.Test.YtlonlfiaclacdaaGreatE2
import Derived.Test.YtlonlfiaclacdaaGreatL1
set_option linter.all false
set_option maxRecDepth 100000
namespace Go.Vi
open Go.Proofs
theorem ne00 : ((0 : Int) != 0) = false := rfl
theorem eq00 : ((0 : Int) == 0) = true := rfl
structure Lx where
  kind : Int
  text : ByteArray
  n : Int := 0
  tk : Int := 0
def PT.lx (t : PT) : Lx := ⟨t.kind, t.text, t.n, t.tk⟩
def Lx.isW (t : Lx) (w : ByteArray) : Bool := (t.kind == 3 || t.kind == 4) && (t.text.toList == w.toList)
def Sfx (L : List PT) (a : Int) (l : List Lx) : Prop := 0 ≤ a ∧ (L.drop a.toNat).map PT.lx = l
section
variable {L : List PT} {a b n : Int} {t : Lx} {l : List Lx}
theorem Sfx.at (h : Sfx L a (t :: l)) : At L a := by
  obtain ⟨h0, h1⟩ := h
  refine ⟨h0, ?_⟩
  have := congrArg List.length h1
  simp at this
  omega
theorem Sfx.tok (h : Sfx L a (t :: l)) : (tokAt L a).lx = t := by
  have ha := h.at
  obtain ⟨h0, h1⟩ := h
  have hlt : a.toNat < L.length := by unfold At at ha; omega
  rw [List.drop_eq_getElem_cons hlt, List.map_cons] at h1
  have h2 := (List.cons.inj h1).1
  unfold tokAt
  rw [List.getD_eq_getElem?_getD, List.getElem?_eq_getElem hlt]
  exact h2
theorem Sfx.tail (h : Sfx L a (t :: l)) : Sfx L (a + 1) l := by
  have ha := h.at
  obtain ⟨h0, h1⟩ := h
  have hlt : a.toNat < L.length := by unfold At at ha; omega
  rw [List.drop_eq_getElem_cons hlt, List.map_cons] at h1
  refine ⟨by omega, ?_⟩
  rw [show (a + 1).toNat = a.toNat + 1 by omega]
  exact (List.cons.inj h1).2
theorem Sfx.isW (h : Sfx L a (t :: l)) (w : ByteArray) : Vi.isW L a 0 w = t.isW w := by
  have := h.tok
  subst this
  simp [Vi.isW, Lx.isW, PT.lx]
theorem Sfx.kind (h : Sfx L a (t :: l)) : (tokAt L a).kind = t.kind := congrArg Lx.kind h.tok
theorem Sfx.text (h : Sfx L a (t :: l)) : (tokAt L a).text = t.text := congrArg Lx.text h.tok
theorem Sfx.tk (h : Sfx L a (t :: l)) : (tokAt L a).tk = t.tk := congrArg Lx.tk h.tok
def PX (L : List PT) (n : Int) (f : Nat) (args : List PV) (l l' : List Lx) (R : PV → Prop) : Prop := ∀ a b, Sfx L a l → ∃ a' r, R r ∧ Sfx L a' l' ∧ PC Tryz.prog f (.ptr 0 0 :: args) [cells L a 0 b n] r [cells L a' 0 b n]
theorem PX.call {f : Nat} {args vs : List PV} {l l' : List Lx} {R : PV → Prop} {s : St} {k : PV → St → Prop} (h : PX L n f args l l' R) (hs : Sfx L a l) (h1 : toArgs vs 0 = some (.ptr 0 0 :: args, [0])) (h3 : getBoxes s [0] = some [cells L a 0 b n])
    (hk : ∀ r a', R r → Sfx L a' l' → k (place r (s.set 0 (.box (cells L a' 0 b n)))).1 (place r (s.set 0 (.box (cells L a' 0 b n)))).2) : pCall Tryz.prog f vs s k := by
  obtain ⟨a', r, hr, hs', hpc⟩ := h a b hs
  exact pCall_i hpc h1 rfl h3 rfl (hk r a' hr hs')
theorem PX.callL {f : Nat} {args vs : List PV} {l l' : List Lx} {R : PV → Prop} {s : St} {k : PV → St → List Nat → List Nat → Prop} (h : PX L n f args l l' R) (hs : Sfx L a l) (h1 : toArgs vs 0 = some (.ptr 0 0 :: args, [0])) (h3 : getBoxes s [0] = some [cells L a 0 b n])
    (hk : ∀ r a', R r → Sfx L a' l' → k (place r (s.set 0 (.box (cells L a' 0 b n)))).1 (place r (s.set 0 (.box (cells L a' 0 b n)))).2 [] [0]) : pCallL Tryz.prog f vs s k := by
  obtain ⟨a', r, hr, hs', hpc⟩ := h a b hs
  exact pCallL_i hpc h1 rfl h3 rfl (hk r a' hr hs')
theorem PX.mk {f : Nat} {args : List PV} {l l' : List Lx} {R : PV → Prop} (h : ∀ a b, Sfx L a l → PF L f args a 0 b n fun r a' e' b' n' => R r ∧ Sfx L a' l' ∧ e' = 0 ∧ b' = b ∧ n' = n) : PX L n f args l l' R := by
  intro a b hs
  obtain ⟨r, c, hpc, a', e', b', n', rfl, hr, hs', rfl, rfl, rfl⟩ := h a b hs
  exact ⟨a', r, hr, hs', hpc⟩
theorem PX.mono {f : Nat} {args : List PV} {l l' : List Lx} {R R' : PV → Prop} (h : PX L n f args l l' R) (hr : ∀ r, R r → R' r) : PX L n f args l l' R' := fun a b hs => by
  obtain ⟨a', r, h1, h2, h3⟩ := h a b hs
  exact ⟨a', r, hr r h1, h2, h3⟩
end
attribute [local irreducible] qAsg qPick qBox qBuild qBsl qLoad1 qLoadN qStore qNil qBin qUn qConv qSlS qSlL qFA qF1 qFN qIA qIS qEx qLenS qLenL qApp pQ pQL pGL pCall pCallL condP optP pEnd OpS Int.instDecidableEq Int.decEq instBEqOfDecidableEq
section
variable {L : List PT} {a b n : Int} {t : Lx} {l : List Lx}
theorem is_px (w : ByteArray) {v : Bool} (hv : t.isW w = v) : PX L n 120 [.str w] (t :: l) (t :: l) (fun r => r = .bool v) := by
  refine PX.mk fun a b hs => ?_
  obtain ⟨r, c, hpc, a', e', b', n', hc, rfl, rfl, rfl, rfl, rfl⟩ := is_pf (b := b) (n := n) (e := 0) hs.at w
  exact ⟨_, _, hpc, _, _, _, _, hc, by rw [hs.isW, hv], hs, rfl, rfl, rfl⟩
theorem maybe0_px (w : ByteArray) (hv : t.isW w = false) (hL : Toks L) : PX L n 148 [.str w] (t :: l) (t :: l) (fun r => r = .bool false) :=
  fun a b hs => ⟨a, _, rfl, hs, maybe_pc0 hL hs.at (by rw [hs.isW, hv])⟩
theorem maybe1_px (w : ByteArray) (hv : t.isW w = true) (hL : Toks L) : PX L n 148 [.str w] (t :: l) l (fun r => r = .bool true) :=
  fun a b hs => ⟨a + 1, _, rfl, hs.tail, maybe_pc1 hL hs.at (by rw [hs.isW, hv])⟩
theorem take_px (w : ByteArray) (hv : t.isW w = true) (hL : Toks L) : PX L n 145 [.str w] (t :: l) l (fun r => r = .tuple []) := by
  refine PX.mk fun a b hs => ?_
  refine c145_pq 0 rfl _ _ ?_
  unfold c145
  refine (is_px w hv).call hs rfl rfl fun r a' hr hs' => ?_
  subst hr
  refine zv ?_
  rw [succ64 hL hs'.at]
  exact fin_i rfl rfl rfl ⟨_, _, _, _, rfl, rfl, hs'.tail, rfl, rfl, rfl⟩
theorem name_px (hv : t.kind = 1) (hL : Toks L) : PX L n 146 [] (t :: l) l (fun r => r = .str t.text) := by
  refine PX.mk fun a b hs => ?_
  refine c146_pq 0 rfl _ ?_
  unfold c146
  refine call_tok rfl hs.at ?_
  refine zv ?_
  rw [ne00]
  refine zv ?_
  cases h1 : (tokAt L a).kind != 1
  · refine zv ?_
    rw [succ64 hL hs.at]
    exact fin_i rfl rfl rfl ⟨_, _, _, _, rfl, by rw [hs.text], hs.tail, rfl, rfl, rfl⟩
  · simp [hs.kind, hv] at h1
theorem kind_px {p : Int} (hk : PC Tryz.prog 142 [.str t.text] [] (.int .i64 p) []) (hp : p ≠ 0) (hv : t.kind = 3) (hL : Toks L) : PX L n 163 [] (t :: l) l (fun r => r = .int .i64 p) := by
  refine PX.mk fun a b hs => ?_
  have hk' := hk
  rw [← hs.text] at hk'
  refine c163_pq 0 rfl _ ?_
  unfold c163
  refine call_tok rfl hs.at ?_
  refine zv ?_
  rw [ne00]
  refine zv ?_
  cases h1 : (tokAt L a).kind != 3
  · refine zv ?_
    refine pCallL_i hk' rfl rfl rfl rfl ?_
    refine zv ?_
    cases h2 : (p == 0)
    · refine zv ?_
      refine pCall_i hk' rfl rfl rfl rfl ?_
      refine zv ?_
      rw [succ64 hL hs.at]
      exact fin_i rfl rfl rfl ⟨_, _, _, _, rfl, rfl, hs.tail, rfl, rfl, rfl⟩
    · simp at h2; exact absurd h2 hp
  · simp [hs.kind, hv] at h1
end
end Go.Vi
namespace Go.Vi
open Go.Proofs
def sg (c : UInt8) : Lx := ⟨4, ⟨#[c]⟩, 0, 0⟩
def kw (w : ByteArray) : Lx := ⟨3, w, 0, 0⟩
def nm (w : ByteArray) : Lx := ⟨1, w, 0, 0⟩
def lit0 : Lx := ⟨2, ⟨#[48, 105, 56]⟩, 0, 2⟩
def Stop (t : Lx) : Prop := t = sg 41 ∨ t = sg 44 ∨ t = sg 59
theorem isW_of {t : Lx} {w : ByteArray} {v : Bool} (h : ((t.kind == 3 || t.kind == 4) && (t.text.data.toList == w.data.toList)) = v) : t.isW w = v := by
  rw [← h]; simp only [Lx.isW, ByteArray.toList_eq]
theorem isW_kind {t : Lx} {w : ByteArray} (h : t.kind ≠ 3) (h' : t.kind ≠ 4) : t.isW w = false := by
  have h1 : (t.kind == 3) = false := by simpa using h
  have h2 : (t.kind == 4) = false := by simpa using h'
  simp only [Lx.isW, h1, h2]; rfl
theorem Stop.w {t : Lx} {w : ByteArray} (h : Stop t) (hw : ((w.data.toList == [41]) || (w.data.toList == [44]) || (w.data.toList == [59])) = false) : t.isW w = false := by
  simp only [Bool.or_eq_false_iff, beq_eq_false_iff_ne] at hw
  obtain ⟨⟨h1, h2⟩, h3⟩ := hw
  rcases h with rfl | rfl | rfl
  · exact isW_of (by simp [sg]; exact fun h => h1 h.symm)
  · exact isW_of (by simp [sg]; exact fun h => h2 h.symm)
  · exact isW_of (by simp [sg]; exact fun h => h3 h.symm)
theorem tne {a b : ByteArray} (h : (a.data.toList == b.data.toList) = false) : (a.toList == b.toList) = false := by rw [ByteArray.toList_eq, ByteArray.toList_eq]; exact h
theorem teq {a b : ByteArray} (h : (a.data.toList == b.data.toList) = true) : (a.toList == b.toList) = true := by rw [ByteArray.toList_eq, ByteArray.toList_eq]; exact h
theorem tnot {a b : ByteArray} {P : Prop} (h : (a.toList == b.toList) = true) (h' : (a.data.toList == b.data.toList) = false) : P := by rw [tne h'] at h; cases h
attribute [local irreducible] qAsg qPick qBox qBuild qBsl qLoad1 qLoadN qStore qNil qBin qUn qConv qSlS qSlL qFA qF1 qFN qIA qIS qEx qLenS qLenL qApp pQ pQL pGL pCall pCallL condP optP pEnd OpS Int.instDecidableEq Int.decEq instBEqOfDecidableEq
section
variable {L : List PT} {a b n : Int} {t : Lx} {l : List Lx}
theorem infix0_px (lv : Int) (c : UInt8) (hc : c = 41 ∨ c = 44 ∨ c = 59) : PX L n 176 [.int .i64 lv] (sg c :: l) (sg c :: l) (fun r => r = .int .i64 0) := by
  refine PX.mk fun a b hs => ?_
  refine c176_pq 0 rfl _ _ ?_
  unfold c176
  refine call_tok rfl hs.at ?_
  have hT := hs.tok
  generalize tokAt L a = T at hT ⊢
  obtain ⟨k, tx, nn, tk, tl, at'⟩ := T
  simp only [PT.lx, sg, Lx.mk.injEq] at hT
  obtain ⟨rfl, rfl, rfl, rfl⟩ := hT
  have fin0 : ∀ {s : St} {Q : PV → List (List PV) → Prop}, getBoxes s (List.range 1) = some [cells L a 0 b n] → (∀ r c', (∃ a' e' b' n', c' = [cells L a' e' b' n'] ∧ r = .int .i64 0 ∧ Sfx L a' (sg c :: l) ∧ e' = 0 ∧ b' = b ∧ n' = n) → Q r c') →
      optP (resL [some (.int .i64 0)]) fun l => pEnd 0 1 (tupP l) s Q := fun h2 hq => fin_i rfl rfl h2 (hq _ _ ⟨_, _, _, _, rfl, rfl, hs, rfl, rfl, rfl⟩)
  refine zv ?_
  simp only [Int.reduceBNe]
  refine zv ?_
  simp only [Int.reduceBNe]
  refine zv ?_
  rcases hc with rfl | rfl | rfl
  all_goals
    repeat' first
      | exact fin0 rfl (fun _ _ h => h)
      | (refine cond_i (fun h => ?_) (fun _ => ?_))
      | exact tnot h (by kernel_rfl)
      | (apply pQ_r; · exact zo)
theorem infixn_px (lv : Int) (hlv : lv ≠ 2) : PX L n 176 [.int .i64 lv] (sg 62 :: l) (sg 62 :: l) (fun r => r = .int .i64 0) := by
  refine PX.mk fun a b hs => ?_
  refine c176_pq 0 rfl _ _ ?_
  unfold c176
  refine call_tok rfl hs.at ?_
  have hT := hs.tok
  generalize tokAt L a = T at hT ⊢
  obtain ⟨k, tx, nn, tk, tl, at'⟩ := T
  simp only [PT.lx, sg, Lx.mk.injEq] at hT
  obtain ⟨rfl, rfl, rfl, rfl⟩ := hT
  have fin0 : ∀ {s : St} {Q : PV → List (List PV) → Prop}, getBoxes s (List.range 1) = some [cells L a 0 b n] → (∀ r c', (∃ a' e' b' n', c' = [cells L a' e' b' n'] ∧ r = .int .i64 0 ∧ Sfx L a' (sg 62 :: l) ∧ e' = 0 ∧ b' = b ∧ n' = n) → Q r c') →
      optP (resL [some (.int .i64 0)]) fun l => pEnd 0 1 (tupP l) s Q := fun h2 hq => fin_i rfl rfl h2 (hq _ _ ⟨_, _, _, _, rfl, rfl, hs, rfl, rfl, rfl⟩)
  refine zv ?_
  simp only [Int.reduceBNe]
  refine zv ?_
  simp only [Int.reduceBNe]
  refine zv ?_
  repeat' first
    | exact fin0 rfl (fun _ _ h => h)
    | (refine cond_i (fun h => ?_) (fun _ => ?_))
    | exact tnot h (by kernel_rfl)
    | exact absurd (by simpa using h) hlv
    | (apply pQ_r; · exact zo)
theorem infixg_px : PX L n 176 [.int .i64 2] (sg 62 :: l) (sg 62 :: l) (fun r => r = .int .i64 18) := by
  refine PX.mk fun a b hs => ?_
  refine c176_pq 0 rfl _ _ ?_
  unfold c176
  refine call_tok rfl hs.at ?_
  have hT := hs.tok
  generalize tokAt L a = T at hT ⊢
  obtain ⟨k, tx, nn, tk, tl, at'⟩ := T
  simp only [PT.lx, sg, Lx.mk.injEq] at hT
  obtain ⟨rfl, rfl, rfl, rfl⟩ := hT
  refine zv ?_
  simp only [Int.reduceBNe]
  refine zv ?_
  simp only [Int.reduceBNe]
  refine zv ?_
  refine cond_i (fun h => absurd h (by simp)) (fun _ => ?_)
  refine zv ?_
  refine cond_i (fun h => absurd h (by simp)) (fun _ => ?_)
  refine zv ?_
  refine cond_i (fun h => absurd h (by simp)) (fun _ => ?_)
  refine zv ?_
  refine cond_i (fun _ => ?_) (fun h => absurd h (by simp))
  refine zv ?_
  refine cond_i (fun h => tnot h (by kernel_rfl)) (fun _ => ?_)
  refine zv ?_
  refine cond_i (fun h => tnot h (by kernel_rfl)) (fun _ => ?_)
  refine zv ?_
  refine cond_i (fun h => tnot h (by kernel_rfl)) (fun _ => ?_)
  refine zv ?_
  refine cond_i (fun h => tnot h (by kernel_rfl)) (fun _ => ?_)
  refine zv ?_
  refine cond_i (fun _ => ?_) (fun h => by rw [teq (by kernel_rfl)] at h; cases h)
  exact fin_i rfl rfl rfl ⟨_, _, _, _, rfl, rfl, hs, rfl, rfl, rfl⟩
end
end Go.Vi
namespace Go.Vi
open Go.Proofs
def PXE (L : List PT) (n : Int) (f : Nat) (args : List PV) (l l' : List Lx) (R : Exp → Prop) : Prop := PX L n f args l l' fun r => ∃ x : Exp, R x ∧ r = .agg x.row
section
variable {L : List PT} {a b n : Int} {l l' : List Lx} {R : Exp → Prop}
theorem PXE.call {f : Nat} {args vs : List PV} {s : St} {k : PV → St → Prop} (h : PXE L n f args l l' R) (hs : Sfx L a l) (h1 : toArgs vs 0 = some (.ptr 0 0 :: args, [0])) (h3 : getBoxes s [0] = some [cells L a 0 b n])
    (hk : ∀ f s1 nm tk tl i m kids at' a', R (Exp.mk f s1 nm tk tl i m kids at') → Sfx L a' l' → k (.agg [.int .i64 f, .int .i64 s1, .str nm, .int .i64 tk, .int .i64 tl, .int .i64 i, .int .i64 m, .lst (Exp.rows kids), .int .i64 at']) (s.set 0 (.box (cells L a' 0 b n)))) : pCall Tryz.prog f vs s k :=
  PX.call h hs h1 h3 fun r a' ⟨x, hx, hr⟩ hs' => by
    subst hr
    cases x with | mk f s1 nm tk tl i m kids at' =>
    exact hk f s1 nm tk tl i m kids at' a' hx hs'
theorem PXE.pc {f : Nat} {args : List PV} (h : PXE L n f args l l' R) (hs : Sfx L a l) : ∃ f' s1 nm tk tl i m kids at' a', R (Exp.mk f' s1 nm tk tl i m kids at') ∧ Sfx L a' l' ∧
    PC Tryz.prog f (.ptr 0 0 :: args) [cells L a 0 b n] (.agg [.int .i64 f', .int .i64 s1, .str nm, .int .i64 tk, .int .i64 tl, .int .i64 i, .int .i64 m, .lst (Exp.rows kids), .int .i64 at']) [cells L a' 0 b n] := by
  obtain ⟨a', r, ⟨x, hx, rfl⟩, hs', hpc⟩ := h a b hs
  cases x with | mk f s1 nm tk tl i m kids at' =>
  exact ⟨f, s1, nm, tk, tl, i, m, kids, at', a', hx, hs', hpc⟩
end
attribute [local irreducible] qAsg qPick qBox qBuild qBsl qLoad1 qLoadN qStore qNil qBin qUn qConv qSlS qSlL qFA qF1 qFN qIA qIS qEx qLenS qLenL qApp pQ pQL pGL pCall pCallL condP optP pEnd OpS Int.instDecidableEq Int.decEq instBEqOfDecidableEq
section
variable {L : List PT} {n : Int} {t : Lx} {l l' : List Lx} {R : Exp → Prop} (hL : Toks L)
theorem level0_px {lv : Int} (h0 : 0 ≤ lv) (h7 : lv ≤ 7) (h : PXE L n 174 [.int .i64 (lv + 1)] l (t :: l') R) (hi : PX L n 176 [.int .i64 lv] (t :: l') (t :: l') (fun r => r = .int .i64 0)) : PXE L n 174 [.int .i64 lv] l (t :: l') R := by
  have hlv8 : ¬ lv = 8 := by omega
  have hwr : IntKind.i64.wrap (lv + 1) = lv + 1 := wrap64 (by omega) (by omega)
  refine PX.mk fun a b hs => ?_
  refine c174_pq 0 rfl _ _ ?_
  unfold c174
  refine zv ?_
  refine cond_i (fun h => absurd (by simpa using h) hlv8) (fun _ => ?_)
  refine zv ?_
  rw [hwr]
  refine h.call hs rfl rfl fun f s1 nm tk tl i m kids at' a1 hx hs1 => ?_
  refine zv ?_
  refine ⟨1, ?_⟩
  show c174l24b _ _ _ _ _ _ _ _ _
  unfold c174l24b
  refine zv ?_
  simp only [Int.reduceBEq]
  refine zv ?_
  refine hi.call hs1 rfl rfl fun r a2 hr hs2 => ?_
  subst hr
  refine zv ?_
  simp only [Int.reduceBEq]
  refine zv ?_
  exact fin_i (resL1 (o_cellR zo)) rfl rfl ⟨_, _, _, _, rfl, ⟨.mk f s1 nm tk tl i m kids at', hx, by simp only [Exp.row]⟩, hs2, rfl, rfl, rfl⟩
theorem level8_px (h : PXE L n 175 [] l l' R) : PXE L n 174 [.int .i64 8] l l' R := by
  refine PX.mk fun a b hs => ?_
  refine c174_pq 0 rfl _ _ ?_
  unfold c174
  refine zv ?_
  simp only [Int.reduceBEq]
  refine zv ?_
  refine h.call hs rfl rfl fun f s1 nm tk tl i m kids at' a1 hx hs1 => ?_
  refine zv ?_
  exact fin_i (resL1 (o_cellR zo)) rfl rfl ⟨_, _, _, _, rfl, ⟨.mk f s1 nm tk tl i m kids at', hx, by simp only [Exp.row]⟩, hs1, rfl, rfl, rfl⟩
theorem levelg_px {R' : Exp → Prop} (hL : Toks L) (h : PXE L n 174 [.int .i64 3] l (sg 62 :: l') R) {l2 : List Lx} (h' : PXE L n 174 [.int .i64 3] l' l2 R') :
    PXE L n 174 [.int .i64 2] l l2 (fun x => ∃ y z p, R y ∧ R' z ∧ x = .mk 4 18 ⟨#[]⟩ 0 0 0 0 [y, z] p) := by
  refine PX.mk fun a b hs => ?_
  refine c174_pq 0 rfl _ _ ?_
  unfold c174
  refine zv ?_
  simp only [Int.reduceBEq]
  refine zv ?_
  rw [show IntKind.i64.wrap (2 + 1) = 3 from wrap64 (by omega) (by omega)]
  refine h.call hs rfl rfl fun f s1 nm tk tl i m kids at' a1 hx hs1 => ?_
  refine zv ?_
  refine ⟨1, ?_⟩
  show c174l24b _ _ _ _ _ _ _ _ _
  unfold c174l24b
  refine zv ?_
  simp only [Int.reduceBEq]
  refine zv ?_
  refine infixg_px.call hs1 rfl rfl fun r a2 hr hs2 => ?_
  subst hr
  refine zv ?_
  simp only [Int.reduceBEq]
  refine zv ?_
  rw [succ64 hL hs2.at, show IntKind.i64.wrap (2 + 1) = 3 from wrap64 (by omega) (by omega)]
  refine h'.call hs2.tail rfl rfl fun f2 s2 nm2 tk2 tl2 i2 m2 kids2 at2 a3 hx2 hs3 => ?_
  refine zv ?_
  refine call_two ?_
  refine zv ?_
  simp only [Int.reduceBEq]
  refine zv ?_
  exact fin_i (resL1 (o_cellR zo)) rfl rfl ⟨_, _, _, _, rfl, ⟨.mk 4 18 ⟨#[]⟩ 0 0 0 0 [.mk f s1 nm tk tl i m kids at', .mk f2 s2 nm2 tk2 tl2 i2 m2 kids2 at2] at', ⟨_, _, _, hx, hx2, rfl⟩, by simp only [Exp.row]⟩, hs3, rfl, rfl, rfl⟩
theorem unary_px (h1 : t.isW ⟨#[110, 111, 116]⟩ = false) (h2 : t.isW ⟨#[45]⟩ = false) (h3 : t.isW ⟨#[112, 114, 101]⟩ = false) (h : PXE L n 177 [] (t :: l) l' R) : PXE L n 175 [] (t :: l) l' R := by
  refine PX.mk fun a b hs => ?_
  refine c175_pq 0 rfl _ ?_
  unfold c175
  refine zv ?_
  refine (is_px _ h1).call hs rfl rfl fun r a1 hr hs => ?_
  subst hr
  refine zv ?_
  refine (is_px _ h2).call hs rfl rfl fun r a1 hr hs => ?_
  subst hr
  refine zv ?_
  refine (is_px _ h3).call hs rfl rfl fun r a1 hr hs => ?_
  subst hr
  refine zv ?_
  refine h.call hs rfl rfl fun f s1 nm tk tl i m kids at' a1 hx hs1 => ?_
  refine zv ?_
  exact fin_i (resL1 (o_cellR zo)) rfl rfl ⟨_, _, _, _, rfl, ⟨.mk f s1 nm tk tl i m kids at', hx, by simp only [Exp.row]⟩, hs1, rfl, rfl, rfl⟩
theorem indexed_px (hL : Toks L) (h : t.isW ⟨#[91]⟩ = false) {f s1 tk tl i m at' : Int} {nm : ByteArray} {kids : List Exp} : PX L n 178 [.agg [.int .i64 f, .int .i64 s1, .str nm, .int .i64 tk, .int .i64 tl, .int .i64 i, .int .i64 m, .lst (Exp.rows kids), .int .i64 at']] (t :: l) (t :: l)
    (fun r => r = .agg [.int .i64 f, .int .i64 s1, .str nm, .int .i64 tk, .int .i64 tl, .int .i64 i, .int .i64 m, .lst (Exp.rows kids), .int .i64 at']) := by
  refine PX.mk fun a b hs => ?_
  refine c178_pq 0 rfl _ _ ?_
  unfold c178
  refine zv ?_
  refine ⟨1, ?_⟩
  show c178l4b _ _ _ _ _ _ _ _
  unfold c178l4b
  refine (maybe0_px _ h hL).call hs rfl rfl fun r a1 hr hs => ?_
  subst hr
  refine zv ?_
  exact fin_i (resL1 (o_cellR zo)) rfl rfl ⟨_, _, _, _, rfl, rfl, hs, rfl, rfl, rfl⟩
theorem signed_px (hL : Toks L) (h1 : t.isW ⟨#[110, 111, 116]⟩ = false) (h2 : t.isW ⟨#[45]⟩ = false) (h3 : t.isW ⟨#[112, 114, 101]⟩ = false) {u : Lx} (h4 : u.isW ⟨#[91]⟩ = false) (h : PXE L n 179 [] (t :: l) (u :: l') R) : PXE L n 177 [] (t :: l) (u :: l') R := by
  refine PX.mk fun a b hs => ?_
  refine c177_pq 0 rfl _ ?_
  unfold c177
  refine zv ?_
  refine call_tok rfl hs.at ?_
  refine zv ?_
  refine (maybe0_px _ h1 hL).call hs rfl rfl fun r a1 hr hs => ?_
  subst hr
  refine zv ?_
  refine (maybe0_px _ h3 hL).call hs rfl rfl fun r a1 hr hs => ?_
  subst hr
  refine zv ?_
  refine (maybe0_px _ h2 hL).call hs rfl rfl fun r a1 hr hs => ?_
  subst hr
  refine zv ?_
  refine h.call hs rfl rfl fun f s1 nm tk tl i m kids at' a1 hx hs1 => ?_
  refine zv ?_
  refine (indexed_px hL h4).call hs1 rfl rfl fun r a1 hr hs => ?_
  subst hr
  refine zv ?_
  exact fin_i (resL1 (o_cellR zo)) rfl rfl ⟨_, _, _, _, rfl, ⟨.mk f s1 nm tk tl i m kids at', hx, by simp only [Exp.row]⟩, hs, rfl, rfl, rfl⟩
theorem imp_px (hL : Toks L) (h1 : t.isW ⟨#[61, 62]⟩ = false) (h : PXE L n 174 [.int .i64 0] l (t :: l') R) : PXE L n 173 [] l (t :: l') R := by
  refine PX.mk fun a b hs => ?_
  refine c173_pq 0 rfl _ ?_
  unfold c173
  refine zv ?_
  refine h.call hs rfl rfl fun f s1 nm tk tl i m kids at' a1 hx hs1 => ?_
  refine zv ?_
  refine (maybe0_px _ h1 hL).call hs1 rfl rfl fun r a1 hr hs => ?_
  subst hr
  refine zv ?_
  exact fin_i (resL1 (o_cellR zo)) rfl rfl ⟨_, _, _, _, rfl, ⟨.mk f s1 nm tk tl i m kids at', hx, by simp only [Exp.row]⟩, hs, rfl, rfl, rfl⟩
theorem fby_px (hL : Toks L) (h1 : t.isW ⟨#[102, 98, 121]⟩ = false) (h : PXE L n 173 [] l (t :: l') R) : PXE L n 171 [] l (t :: l') R := by
  refine PX.mk fun a b hs => ?_
  refine c171_pq 0 rfl _ ?_
  unfold c171
  refine zv ?_
  refine h.call hs rfl rfl fun f s1 nm tk tl i m kids at' a1 hx hs1 => ?_
  refine zv ?_
  refine (maybe0_px _ h1 hL).call hs1 rfl rfl fun r a1 hr hs => ?_
  subst hr
  refine zv ?_
  exact fin_i (resL1 (o_cellR zo)) rfl rfl ⟨_, _, _, _, rfl, ⟨.mk f s1 nm tk tl i m kids at', hx, by simp only [Exp.row]⟩, hs, rfl, rfl, rfl⟩
theorem arrow_px (hL : Toks L) (h1 : t.isW ⟨#[45, 62]⟩ = false) (h : PXE L n 171 [] l (t :: l') R) : PXE L n 170 [] l (t :: l') R := by
  refine PX.mk fun a b hs => ?_
  refine c170_pq 0 rfl _ ?_
  unfold c170
  refine zv ?_
  refine h.call hs rfl rfl fun f s1 nm tk tl i m kids at' a1 hx hs1 => ?_
  refine zv ?_
  refine (maybe0_px _ h1 hL).call hs1 rfl rfl fun r a1 hr hs => ?_
  subst hr
  refine zv ?_
  exact fin_i (resL1 (o_cellR zo)) rfl rfl ⟨_, _, _, _, rfl, ⟨.mk f s1 nm tk tl i m kids at', hx, by simp only [Exp.row]⟩, hs, rfl, rfl, rfl⟩
theorem open_pc (hL : Toks L) {a b : Int} (h0 : 0 ≤ n) (h : n ≤ 30) : PC Tryz.prog 169 [.ptr 0 0] [cells L a 0 b n] (.bool true) [cells L a 0 b (n + 1)] := by
  have : PF L 169 [] a 0 b n (fun r a' e' b' n' => r = .bool true ∧ a' = a ∧ e' = 0 ∧ b' = b ∧ n' = n + 1) := by
    have hw : IntKind.i64.wrap (n + 1) = n + 1 := wrap64 (by omega) (by omega)
    refine c169_pq 0 rfl _ ?_
    unfold c169
    refine zv ?_
    rw [hw]
    refine cond_i (fun h => ?_) (fun _ => ?_)
    · have := of_decide_eq_true h; omega
    · exact fin_i rfl rfl rfl ⟨_, _, _, _, rfl, rfl, rfl, rfl, rfl, rfl⟩
  obtain ⟨r, c, hpc, a', e', b', n', rfl, rfl, rfl, rfl, rfl, rfl⟩ := this
  exact hpc
theorem exp_px (hL : Toks L) (h0 : 0 ≤ n) (hn : n ≤ 30) (h : PXE L (n + 1) 170 [] l l' R) : PXE L n 167 [] l l' R := by
  have hw : IntKind.i64.wrap (n + 1 - 1) = n := by rw [show n + 1 - 1 = n by omega]; exact wrap64 (by omega) (by omega)
  refine PX.mk fun a b hs => ?_
  refine c167_pq 0 rfl _ ?_
  unfold c167
  refine zv ?_
  refine pCall_i (open_pc hL h0 hn) rfl rfl rfl rfl ?_
  refine zv ?_
  refine h.call hs rfl rfl fun f s1 nm tk tl i m kids at' a1 hx hs1 => ?_
  refine zv ?_
  rw [hw]
  exact fin_i (resL1 (o_cellR zo)) rfl rfl ⟨_, _, _, _, rfl, ⟨.mk f s1 nm tk tl i m kids at', hx, by simp only [Exp.row]⟩, hs1, rfl, rfl, rfl⟩
end
end Go.Vi
namespace Go.Vi
open Go.Proofs
def IsV (w : ByteArray) (x : Exp) : Prop := ∃ p, x = .mk 2 0 w 0 0 0 0 [] p
def IsN (x : Exp) : Prop := ∃ p, x = .mk 1 0 ⟨#[]⟩ 2 0 0 0 [] p
def IsT (x : Exp) : Prop := ∃ p, x = .mk 1 0 ⟨#[]⟩ 1 0 1 0 [] p
def IsWh (R : Exp → Prop) (w : ByteArray) (on : Bool) (x : Exp) : Prop := ∃ y p, R y ∧ x = .mk 9 0 w 0 0 (bif on then 1 else 0) 0 [y] p
def kTrue : Lx := kw ⟨#[116, 114, 117, 101]⟩
def kWhen : Lx := kw ⟨#[119, 104, 101, 110]⟩
def kNot : Lx := kw ⟨#[110, 111, 116]⟩
theorem e20 : ((2 : Int) == 0) = false := rfl
theorem d00 : decide ((0 : Int) < 0) = false := rfl
def edgeL (w : ByteArray) (on : Bool) (l : List Lx) : List Lx := bif on then nm w :: l else kNot :: nm w :: l
attribute [local irreducible] qAsg qPick qBox qBuild qBsl qLoad1 qLoadN qStore qNil qBin qUn qConv qSlS qSlL qFA qF1 qFN qIA qIS qEx qLenS qLenL qApp pQ pQL pGL pCall pCallL condP optP pEnd OpS Int.instDecidableEq Int.decEq instBEqOfDecidableEq
section
variable {L : List PT} {n : Int} {t : Lx} {l l' : List Lx} {R : Exp → Prop} (hL : Toks L)
theorem prim_var (hL : Toks L) {w : ByteArray} (h : t.isW ⟨#[40]⟩ = false) : PXE L n 179 [] (nm w :: t :: l) (t :: l) (IsV w) := by
  refine PX.mk fun a b hs => ?_
  have hs1 := hs.tail
  have h64 := succ64 hL hs.at
  refine c179_pq 0 rfl _ ?_
  unfold c179
  refine zv ?_
  refine call_tok rfl hs.at ?_
  have hT := hs.tok
  generalize tokAt L a = T at hT ⊢
  obtain ⟨k, tx, nn, tk, tl, at'⟩ := T
  simp only [PT.lx, nm, Lx.mk.injEq] at hT
  obtain ⟨rfl, rfl, rfl, rfl⟩ := hT
  refine zv ?_
  simp only [Int.reduceBNe]
  refine zv ?_
  simp only [Int.reduceBEq]
  refine zv ?_
  rw [h64]
  refine (is_px _ h).call hs1 rfl rfl fun r a1 hr hs2 => ?_
  subst hr
  refine zv ?_
  exact fin_i (resL1 (o_cellR zo)) rfl rfl ⟨_, _, _, _, rfl, ⟨.mk 2 0 _ 0 0 0 0 [] at', ⟨_, rfl⟩, by simp only [Exp.row]; rfl⟩, hs2, rfl, rfl, rfl⟩
theorem prim_lit (hL : Toks L) : PXE L n 179 [] (lit0 :: t :: l) (t :: l) IsN := by
  refine PX.mk fun a b hs => ?_
  have hs1 := hs.tail
  have h64 := succ64 hL hs.at
  have htl := hL.tl a hs.at
  obtain ⟨sg, hsg⟩ := signed1_pq 2
  refine c179_pq 0 rfl _ ?_
  unfold c179
  refine zv ?_
  refine call_tok rfl hs.at ?_
  have hT := hs.tok
  generalize tokAt L a = T at hT htl ⊢
  obtain ⟨k, tx, nn, tk, tl, at'⟩ := T
  simp only [PT.lx, lit0, Lx.mk.injEq] at hT
  obtain ⟨rfl, rfl, rfl, rfl⟩ := hT
  simp only at htl
  subst htl
  refine zv ?_
  simp only [Int.reduceBNe]
  refine zv ?_
  simp only [Int.reduceBEq]
  refine zv ?_
  simp only [Int.reduceBEq]
  refine zv ?_
  refine pCall_i hsg rfl rfl rfl rfl ?_
  cases sg
  all_goals
    refine zv ?_
    dsimp only
    try rw [d00]
    rw [e20]
    refine zv ?_
    rw [h64]
    exact fin_i (resL1 (o_cellR zo)) rfl rfl ⟨_, _, _, _, rfl, ⟨.mk 1 0 _ 2 0 0 0 [] at', ⟨_, rfl⟩, by simp only [Exp.row]; rfl⟩, hs1, rfl, rfl, rfl⟩
theorem edge_px (hL : Toks L) {w : ByteArray} {on : Bool} : PX L n 165 [] (edgeL w on l) l (fun r => r = .agg [.str w, .bool on]) := by
  refine PX.mk fun a b hs => ?_
  refine c165_pq 0 rfl _ ?_
  unfold c165
  refine zv ?_
  cases on
  · refine (maybe1_px _ (t := kNot) (isW_of (by kernel_rfl)) hL).call hs rfl rfl fun r a1 hr hs => ?_
    subst hr
    refine zv ?_
    refine (name_px (t := nm w) rfl hL).call hs rfl rfl fun r a1 hr hs => ?_
    subst hr
    refine zv ?_
    exact fin_i (resL1 (o_cellR zo)) rfl rfl ⟨_, _, _, _, rfl, rfl, hs, rfl, rfl, rfl⟩
  · refine (maybe0_px _ (t := nm w) (isW_kind (by simp [nm]) (by simp [nm])) hL).call hs rfl rfl fun r a1 hr hs => ?_
    subst hr
    refine zv ?_
    refine (name_px (t := nm w) rfl hL).call hs rfl rfl fun r a1 hr hs => ?_
    subst hr
    refine zv ?_
    exact fin_i (resL1 (o_cellR zo)) rfl rfl ⟨_, _, _, _, rfl, rfl, hs, rfl, rfl, rfl⟩
theorem word_true (hL : Toks L) {a b : Int} (hs : Sfx L a (kTrue :: l)) : ∃ p, PC Tryz.prog 182 [.ptr 0 0, .agg (tokAt L a).row] [cells L a 0 b n] (.agg (Exp.mk 1 0 ⟨#[]⟩ 1 0 1 0 [] p).row) [cells L (a + 1) 0 b n] := by
  have h64 := succ64 hL hs.at
  have hT := hs.tok
  generalize tokAt L a = T at hT ⊢
  obtain ⟨k, tx, nn, tk, tl, at'⟩ := T
  simp only [PT.lx, kTrue, kw, Lx.mk.injEq] at hT
  obtain ⟨rfl, rfl, rfl, rfl⟩ := hT
  refine ⟨at', ?_⟩
  have : PF L 182 [.agg (PT.mk 3 ⟨#[116, 114, 117, 101]⟩ 0 0 tl at').row] a 0 b n (fun r a' e' b' n' => r = .agg (Exp.mk 1 0 ⟨#[]⟩ 1 0 1 0 [] at').row ∧ a' = a + 1 ∧ e' = 0 ∧ b' = b ∧ n' = n) := by
    refine c182_pq 0 rfl _ _ ?_
    unfold c182
    simp only [PT.row]
    refine zv ?_
    refine cond_i (fun h1 => ?_) (fun h => by rw [teq (by kernel_rfl)] at h; cases h)
    unfold c182j18
    refine cond_i (fun _ => ?_) (fun h => by rw [teq (by kernel_rfl)] at h; cases h)
    refine zv ?_
    refine cond_i (fun _ => ?_) (fun h => by rw [teq (by kernel_rfl)] at h; cases h)
    refine zv ?_
    rw [h64]
    exact fin_i (resL1 (o_cellR zo)) rfl rfl ⟨_, _, _, _, rfl, by simp only [Exp.row]; rfl, rfl, rfl, rfl, rfl⟩
  obtain ⟨r, c, hpc, a', e', b', n', rfl, rfl, rfl, rfl, rfl, rfl⟩ := this
  exact hpc
theorem prim_word (hk : t.kind = 3) (h : ∀ a b, Sfx L a (t :: l) → ∃ a' x, R x ∧ Sfx L a' l' ∧ PC Tryz.prog 182 [.ptr 0 0, .agg (tokAt L a).row] [cells L a 0 b n] (.agg x.row) [cells L a' 0 b n]) : PXE L n 179 [] (t :: l) l' R := by
  refine PX.mk fun a b hs => ?_
  obtain ⟨a', x, hx, hs', hpc⟩ := h a b hs
  cases x with | mk f s1 nm tk tl i m kids at' =>
  simp only [Exp.row] at hpc
  have hT := hs.kind
  rw [hk] at hT
  refine c179_pq 0 rfl _ ?_
  unfold c179
  refine zv ?_
  refine call_tok rfl hs.at ?_
  generalize tokAt L a = T at hT hpc ⊢
  obtain ⟨k, tx, nn, tk, tl, at'⟩ := T
  simp only at hT
  subst hT
  refine zv ?_
  simp only [Int.reduceBNe]
  refine zv ?_
  simp only [Int.reduceBEq]
  refine zv ?_
  simp only [Int.reduceBEq]
  refine zv ?_
  simp only [Int.reduceBEq]
  refine zv ?_
  simp only [Int.reduceBEq]
  refine zv ?_
  refine pCall_i hpc rfl rfl rfl rfl ?_
  refine zv ?_
  exact fin_i (resL1 (o_cellR zo)) rfl rfl ⟨_, _, _, _, rfl, ⟨_, hx, by simp only [Exp.row]⟩, hs', rfl, rfl, rfl⟩
end
end Go.Vi
namespace Go.Vi
open Go.Proofs
structure Bare (t : Lx) : Prop where
  h1 : t.isW ⟨#[110, 111, 116]⟩ = false
  h2 : t.isW ⟨#[45]⟩ = false
  h3 : t.isW ⟨#[112, 114, 101]⟩ = false
theorem bare_nm {w : ByteArray} : Bare (nm w) := ⟨isW_kind (by simp [nm]) (by simp [nm]), isW_kind (by simp [nm]) (by simp [nm]), isW_kind (by simp [nm]) (by simp [nm])⟩
theorem bare_lit : Bare lit0 := ⟨isW_kind (by simp [lit0]) (by simp [lit0]), isW_kind (by simp [lit0]) (by simp [lit0]), isW_kind (by simp [lit0]) (by simp [lit0])⟩
theorem bare_true : Bare kTrue := ⟨isW_of (by kernel_rfl), isW_of (by kernel_rfl), isW_of (by kernel_rfl)⟩
theorem bare_when : Bare kWhen := ⟨isW_of (by kernel_rfl), isW_of (by kernel_rfl), isW_of (by kernel_rfl)⟩
section
variable {L : List PT} {n : Int} {t u : Lx} {l l' : List Lx} {R : Exp → Prop}
theorem stop_infix (hu : Stop u) (lv : Int) : PX L n 176 [.int .i64 lv] (u :: l) (u :: l) (fun r => r = .int .i64 0) := by
  rcases hu with rfl | rfl | rfl
  · exact infix0_px lv 41 (.inl rfl)
  · exact infix0_px lv 44 (.inr (.inl rfl))
  · exact infix0_px lv 59 (.inr (.inr rfl))
theorem level3_of (hi : ∀ lv : Int, 3 ≤ lv → PX L n 176 [.int .i64 lv] (u :: l') (u :: l') (fun r => r = .int .i64 0)) (h : PXE L n 175 [] l (u :: l') R) : PXE L n 174 [.int .i64 3] l (u :: l') R :=
  level0_px (by omega) (by omega) (level0_px (by omega) (by omega) (level0_px (by omega) (by omega) (level0_px (by omega) (by omega) (level0_px (by omega) (by omega) (level8_px h) (hi 7 (by omega))) (hi 6 (by omega))) (hi 5 (by omega))) (hi 4 (by omega))) (hi 3 (by omega))
theorem un_of (hL : Toks L) (ht : Bare t) (hu : u.isW ⟨#[91]⟩ = false) (h : PXE L n 179 [] (t :: l) (u :: l') R) : PXE L n 175 [] (t :: l) (u :: l') R :=
  unary_px ht.h1 ht.h2 ht.h3 (signed_px hL ht.h1 ht.h2 ht.h3 hu h)
theorem exp_of2 (hL : Toks L) (h0 : 0 ≤ n) (hn : n ≤ 30) (hu : Stop u) (h : PXE L (n + 1) 174 [.int .i64 2] l (u :: l') R) : PXE L n 167 [] l (u :: l') R :=
  exp_px hL h0 hn (arrow_px hL (hu.w (by kernel_rfl)) (fby_px hL (hu.w (by kernel_rfl)) (imp_px hL (hu.w (by kernel_rfl)) (level0_px (by omega) (by omega) (level0_px (by omega) (by omega) h (stop_infix hu 1)) (stop_infix hu 0)))))
theorem exp_of (hL : Toks L) (h0 : 0 ≤ n) (hn : n ≤ 30) (ht : Bare t) (hu : Stop u) (h : PXE L (n + 1) 179 [] (t :: l) (u :: l') R) : PXE L n 167 [] (t :: l) (u :: l') R :=
  exp_of2 hL h0 hn hu (level0_px (by omega) (by omega) (level3_of (fun lv _ => stop_infix hu lv) (un_of hL ht (hu.w (by kernel_rfl)) h)) (stop_infix hu 2))
theorem exp_var (hL : Toks L) (h0 : 0 ≤ n) (hn : n ≤ 30) (hu : Stop u) {w : ByteArray} : PXE L n 167 [] (nm w :: u :: l) (u :: l) (IsV w) :=
  exp_of hL h0 hn bare_nm hu (prim_var hL (hu.w (by kernel_rfl)))
theorem exp_true (hL : Toks L) (h0 : 0 ≤ n) (hn : n ≤ 30) (hu : Stop u) : PXE L n 167 [] (kTrue :: u :: l) (u :: l) IsT :=
  exp_of hL h0 hn bare_true hu (prim_word rfl fun a b hs => by
    obtain ⟨p, hpc⟩ := word_true (n := n + 1) (b := b) hL hs
    exact ⟨a + 1, _, ⟨p, rfl⟩, hs.tail, hpc⟩)
def IsG (w : ByteArray) (x : Exp) : Prop := ∃ y z p, IsV w y ∧ IsN z ∧ x = .mk 4 18 ⟨#[]⟩ 0 0 0 0 [y, z] p
theorem exp_gt (hL : Toks L) (h0 : 0 ≤ n) (hn : n ≤ 30) (hu : Stop u) {w : ByteArray} : PXE L n 167 [] (nm w :: sg 62 :: lit0 :: u :: l) (u :: l) (IsG w) :=
  exp_of2 hL h0 hn hu (levelg_px hL (level3_of (fun lv h => infixn_px lv (by omega)) (un_of hL bare_nm (isW_of (by kernel_rfl)) (prim_var hL (isW_of (by kernel_rfl)))))
    (level3_of (fun lv h => stop_infix hu lv) (un_of hL bare_lit (hu.w (by kernel_rfl)) (prim_lit hL))))
end
attribute [local irreducible] qAsg qPick qBox qBuild qBsl qLoad1 qLoadN qStore qNil qBin qUn qConv qSlS qSlL qFA qF1 qFN qIA qIS qEx qLenS qLenL qApp pQ pQL pGL pCall pCallL condP optP pEnd OpS Int.instDecidableEq Int.decEq instBEqOfDecidableEq
attribute [local irreducible] c182j134 c182j157
section
variable {L : List PT} {n : Int} {t u : Lx} {l l' : List Lx} {R : Exp → Prop}
theorem word_when (hL : Toks L) {w : ByteArray} {on : Bool} (hexp : PXE L n 167 [] l (sg 44 :: edgeL w on (sg 41 :: l')) R) {a b : Int} (hs : Sfx L a (kWhen :: sg 40 :: l)) :
    ∃ a' x, IsWh R w on x ∧ Sfx L a' l' ∧ PC Tryz.prog 182 [.ptr 0 0, .agg (tokAt L a).row] [cells L a 0 b n] (.agg x.row) [cells L a' 0 b n] := by
  have h64 := succ64 hL hs.at
  have hs1 := hs.tail
  have hT := hs.tok
  generalize tokAt L a = T at hT ⊢
  obtain ⟨k, tx, nn, tk, tl, at'⟩ := T
  simp only [PT.lx, kWhen, kw, Lx.mk.injEq] at hT
  obtain ⟨rfl, rfl, rfl, rfl⟩ := hT
  have : PF L 182 [.agg (PT.mk 3 ⟨#[119, 104, 101, 110]⟩ 0 0 tl at').row] a 0 b n (fun r a' e' b' n' => (∃ x, IsWh R w on x ∧ r = .agg x.row) ∧ Sfx L a' l' ∧ e' = 0 ∧ b' = b ∧ n' = n) := by
    have tail : ∀ {s : St} {x : Bool}, x = true → s.heap 0 = some (.box (cells L a 0 b n)) → s.heap 1 = some (.box [.int .i64 3, .str ⟨#[119, 104, 101, 110]⟩, .int .i64 0, .int .i64 0, .int .i64 tl, .int .i64 at']) → s.heap 2 = some (.box [.int .i64 0, .int .i64 0, .str ⟨#[]⟩, .int .i64 0, .int .i64 0, .int .i64 0, .int .i64 0, .nil, .int .i64 0]) →
        s.heap 3 = some (.box [.int .i64 0, .int .i64 0, .str ⟨#[]⟩, .int .i64 0, .int .i64 0, .int .i64 0, .int .i64 0, .nil, .int .i64 at']) → s.next = 4 → c182j134 0 1 (fun r c => ∃ a' e' b' n', c = [cells L a' e' b' n'] ∧ (∃ x, IsWh R w on x ∧ r = .agg x.row) ∧ Sfx L a' l' ∧ e' = 0 ∧ b' = b ∧ n' = n)
        (.ptr 0 0) (.ptr 1 0) (.ptr 2 0) (.ptr 3 0) (.bool x) s := fun hx h0 h1 h2 h3 hn => stL_to4 (c182j134 0 1 _ _ _ _ _ _) h0 h1 h2 h3 hn fun hp' => by
      subst hx
      unfold c182j134
      refine ct ?_
      refine zv ?_
      rw [h64]
      refine (take_px (t := sg 40) _ (isW_of (by kernel_rfl)) hL).call hs1 rfl rfl fun r a1 hr hs2 => ?_
      subst hr
      refine zv ?_
      refine cond_i (fun _ => ?_) (fun h => by rw [teq (by kernel_rfl)] at h; cases h)
      refine zv ?_
      refine hexp.call hs2 rfl rfl fun f1 s1 nm1 tk1 tl1 i1 m1 kids1 at1 a2 hx hs3 => ?_
      refine zv ?_
      refine (take_px (t := sg 44) _ (isW_of (by kernel_rfl)) hL).call hs3 rfl rfl fun r a3 hr hs4 => ?_
      subst hr
      refine zv ?_
      refine (edge_px (w := w) (on := on) hL).call hs4 rfl rfl fun r a4 hr hs5 => ?_
      subst hr
      refine zv ?_
      have fin : ∀ {kv : PV} {i : Int} {hp : Nat → Option Obj} {nx : Nat} (h : kv.data = some (.lst (Exp.rows [Exp.mk f1 s1 nm1 tk1 tl1 i1 m1 kids1 at1]))) (hsc : kv.scalar = true) (hi : i = (bif on then 1 else 0)), c182j157 0 1 (fun r c => ∃ a' e' b' n', c = [cells L a' e' b' n'] ∧ (∃ x, IsWh R w on x ∧ r = .agg x.row) ∧ Sfx L a' l' ∧ e' = 0 ∧ b' = b ∧ n' = n)
          (.ptr 0 0) (.ptr 2 0) (.ptr 3 0) (stL [.box (cells L a4 0 b n), .box [.int .i64 3, .str ⟨#[119, 104, 101, 110]⟩, .int .i64 0, .int .i64 0, .int .i64 tl, .int .i64 at'], .box [.int .i64 0, .int .i64 0, .str ⟨#[]⟩, .int .i64 0, .int .i64 0, .int .i64 0, .int .i64 0, .nil, .int .i64 0],
            .box [.int .i64 9, .int .i64 0, .str w, .int .i64 0, .int .i64 0, .int .i64 i, .int .i64 0, kv, .int .i64 at']] hp nx) := by
        intro kv i hp nx h hsc hi
        unfold c182j157
        refine (take_px (t := sg 41) _ (isW_of (by kernel_rfl)) hL).call hs5 rfl rfl fun r a5 hr hs6 => ?_
        subst hr
        refine zv ?_
        refine pQ_r (o_storeA rfl rfl (by simp only [List.all_cons, hsc]; rfl) rfl) ?_
        refine fin_i (resL1 (o_cellR zo)) (back_exp h) rfl ⟨_, _, _, _, rfl, ⟨.mk 9 0 w 0 0 i 0 [.mk f1 s1 nm1 tk1 tl1 i1 m1 kids1 at1] at', ⟨_, _, hx, by rw [hi]⟩, by simp only [Exp.row]⟩, hs6, rfl, rfl, rfl⟩
      cases on
      · refine zv ?_
        exact stL_to4 (c182j157 0 1 _ _ _ _) rfl rfl rfl rfl rfl fun hp' => fin rfl rfl rfl
      · refine zv ?_
        exact stL_to4 (c182j157 0 1 _ _ _ _) rfl rfl rfl rfl rfl fun hp' => fin rfl rfl rfl
    refine c182_pq 0 rfl _ _ ?_
    unfold c182
    simp only [PT.row]
    refine zv ?_
    refine cond_i (fun h => tnot h (by kernel_rfl)) (fun _ => ?_)
    refine zv ?_
    unfold c182j18
    refine cond_i (fun h => tnot h (by kernel_rfl)) (fun _ => ?_)
    refine zv ?_
    refine cond_i (fun h => tnot h (by kernel_rfl)) (fun _ => ?_)
    refine zv ?_
    refine cond_i (fun h => ?_) (fun h => by rw [teq (by kernel_rfl)] at h; cases h)
    exact tail (teq (by kernel_rfl)) rfl rfl rfl rfl rfl
  obtain ⟨r, c, hpc, a', e', b', n', rfl, ⟨x, hx, rfl⟩, hs', rfl, rfl, rfl⟩ := this
  exact ⟨a', x, hx, hs', hpc⟩
theorem exp_when (hL : Toks L) (h0 : 0 ≤ n) (hn : n ≤ 29) (hu : Stop u) {v w : ByteArray} {on : Bool} : PXE L n 167 [] (kWhen :: sg 40 :: nm v :: sg 44 :: edgeL w on (sg 41 :: u :: l)) (u :: l) (IsWh (IsV v) w on) :=
  exp_of hL h0 (by omega) bare_when hu (prim_word rfl fun a b hs => word_when hL (exp_var hL (by omega) (by omega) (.inr (.inl rfl))) hs)
end
end Go.Vi
namespace Go.Vi
open Go Go.RowKit Go.Proofs
def kindsL : List ByteArray := [⟨#[98, 111, 111, 108]⟩, ⟨#[105, 56]⟩, ⟨#[105, 49, 54]⟩, ⟨#[105, 51, 50]⟩, ⟨#[105, 54, 52]⟩, ⟨#[117, 56]⟩, ⟨#[117, 49, 54]⟩, ⟨#[117, 51, 50]⟩, ⟨#[117, 54, 52]⟩]
def kindAt (w : ByteArray) : Int → List ByteArray → Int
  | _, [] => 0
  | i, t :: r => bif t.data.toList == w.data.toList then i + 1 else kindAt w (i + 1) r
def kindOf (w : ByteArray) : Int := kindAt w 0 kindsL
theorem drop_cons_of {α : Type} {l : List α} {i : Nat} {t : α} {r : List α} (h : l.drop i = t :: r) : l[i]? = some t ∧ l.drop (i + 1) = r := by
  have : l[i]? = some t := by rw [← List.head?_drop, h]; rfl
  refine ⟨this, ?_⟩
  rw [← List.drop_drop, h]; rfl
attribute [local irreducible] qAsg qPick qBox qBuild qBsl qLoad1 qLoadN qStore qNil qBin qUn qConv qSlS qSlL qFA qF1 qFN qIA qIS qEx qLenS qLenL qApp pQ pQL pGL pCall pCallL condP optP pEnd OpS Int.instDecidableEq Int.decEq instBEqOfDecidableEq
theorem kindOf_loop (w : ByteArray) (all : List ByteArray) (hall : all.length ≤ 20) {Q : PV → List (List PV) → Prop} : ∀ (l : List ByteArray) (i : Nat), all.drop i = l → Q (.int .i64 (kindAt w i l)) [] → ∃ k, ∀ s, c142l6 0 0 Q k (.str w) (.lst (all.map nameRow)) (.int .i64 i) s := by
  intro l
  induction l with
  | nil =>
    intro i h hQ
    have hi : all.length ≤ i := List.drop_eq_nil_iff.1 h
    refine ⟨1, fun s => ?_⟩
    show c142l6b _ _ _ _ _ _ _ _
    unfold c142l6b
    refine zv ?_
    refine cond_i (fun h => ?_) (fun h => ?_)
    · have := of_decide_eq_true h; simp at this; omega
    unfold c142j4
    exact fin_i rfl rfl rfl hQ
  | cons t r ih =>
    intro i h hQ
    obtain ⟨h1, h2⟩ := drop_cons_of h
    have hlt : i < all.length := (List.getElem?_eq_some_iff.1 h1).1
    have hs : IntKind.i64.wrap ((i : Int) + 1) = ((i + 1 : Nat) : Int) := by rw [wrap64 (by omega) (by omega)]; omega
    have ht : (all.map nameRow)[(i : Int).toNat]? = some [.str t] := by simp [h1, nameRow]
    cases hc : (t.data.toList == w.data.toList) with
    | true =>
      refine ⟨1, fun s => ?_⟩
      show c142l6b _ _ _ _ _ _ _ _
      unfold c142l6b
      refine zv ?_
      refine cond_i (fun h => ?_) (fun h => absurd (of_decide_eq_false h) (by simp; omega))
      refine pQ_r (o_iaL (by omega) ht rfl) ?_
      refine zv ?_
      refine cond_i (fun h => ?_) (fun h => by rw [teq hc] at h; cases h)
      refine zv ?_
      have e : kindAt w i (t :: r) = ((i + 1 : Nat) : Int) := by unfold kindAt; rw [hc]; show (i : Int) + 1 = _; omega
      rw [hs]
      rw [e] at hQ
      exact fin_i rfl rfl rfl hQ
    | false =>
      have e : kindAt w i (t :: r) = kindAt w ((i + 1 : Nat) : Int) r := by
        conv => lhs; unfold kindAt
        rw [hc]; show kindAt w ((i : Int) + 1) r = _; congr 1
      rw [e] at hQ
      obtain ⟨k, hk⟩ := ih (i + 1) h2 hQ
      refine ⟨k + 1, fun s => ?_⟩
      show c142l6b _ _ _ _ _ _ _ _
      unfold c142l6b
      refine zv ?_
      refine cond_i (fun h => ?_) (fun h => absurd (of_decide_eq_false h) (by simp; omega))
      refine pQ_r (o_iaL (by omega) ht rfl) ?_
      refine zv ?_
      refine cond_i (fun h => tnot h hc) (fun h => ?_)
      refine zv ?_
      rw [hs]
      exact hk _
theorem kindOf_pc (w : ByteArray) : PC Tryz.prog 142 [.str w] [] (.int .i64 (kindOf w)) [] := by
  have : PQ Tryz.prog 142 [.str w] [] (fun r c => r = .int .i64 (kindOf w) ∧ c = []) := by
    obtain ⟨k, hk⟩ := kindOf_loop w kindsL (by decide) (Q := fun r c => r = .int .i64 (kindOf w) ∧ c = []) kindsL 0 rfl ⟨rfl, rfl⟩
    refine c142_pq 0 rfl _ ?_
    unfold c142
    refine zv ?_
    exact ⟨k, hk _⟩
  obtain ⟨r, c, hpc, rfl, rfl⟩ := this
  exact hpc
def kBool : Lx := kw ⟨#[98, 111, 111, 108]⟩
def kI8 : Lx := kw ⟨#[105, 56]⟩
def kKind (bo : Bool) : Lx := bif bo then kBool else kI8
def kdN (bo : Bool) : Int := bif bo then 1 else 2
section
variable {L : List PT} {n : Int} {t u : Lx} {l l' : List Lx}
theorem kindP_px (bo : Bool) (hL : Toks L) : PX L n 163 [] (kKind bo :: l) l (fun r => r = .int .i64 (kdN bo)) := by
  cases bo
  · exact kind_px (t := kI8) (by have := kindOf_pc kI8.text; rwa [show kindOf kI8.text = 2 from by kernel_rfl] at this) (by simp [kdN]) rfl hL
  · exact kind_px (t := kBool) (by have := kindOf_pc kBool.text; rwa [show kindOf kBool.text = 1 from by kernel_rfl] at this) (by simp [kdN]) rfl hL
theorem decl_one (hL : Toks L) {w : ByteArray} {bo : Bool} (hu : u.isW ⟨#[94]⟩ = false) {a b : Int} (hs : Sfx L a (nm w :: sg 58 :: kKind bo :: u :: l)) {m : Nat} (hm : m < 200) :
    ∃ a' p, Decl L n a 0 b m [⟨w, kdN bo, 0, [], p⟩] a' 0 b ∧ Sfx L a' (u :: l) := by
  obtain ⟨a1, r1, rfl, hs1, p1⟩ := name_px (t := nm w) (n := n) rfl hL a b hs
  obtain ⟨a2, r2, rfl, hs2, p2⟩ := maybe0_px (n := n) ⟨#[44]⟩ (t := sg 58) (isW_of (by kernel_rfl)) hL a1 b hs1
  have q2 : a2 = a1 ∨ True := .inr trivial
  have p2' := maybe_pc0 (e := 0) (b := b) (n := n) hL hs1.at (w := ⟨#[44]⟩) (by rw [hs1.isW]; exact isW_of (by kernel_rfl))
  obtain ⟨a3, r3, rfl, hs3, p3⟩ := take_px (n := n) ⟨#[58]⟩ (t := sg 58) (isW_of (by kernel_rfl)) hL a1 b hs1
  obtain ⟨a4, r4, rfl, hs4, p4⟩ := kindP_px (n := n) bo hL a3 b hs3
  have p5 := maybe_pc0 (e := 0) (b := b) (n := n) hL hs4.at (w := ⟨#[94]⟩) (by rw [hs4.isW]; exact hu)
  exact ⟨a4, _, .mk _ _ _ _ _ _ _ _ _ _ _ _ _ (.one _ _ _ _ _ _ _ _ hs.at rfl (fun _ => full_pc0 hL hs.at (by omega)) p1 p2') (.val _ _ _ _ _ _ _ _ _ _ p3 p4 p5), hs4⟩
theorem decls_of {a b a1 a' : Int} {l0 l : List Var} {k : Nat} (h1 : Decl L n a 0 b 0 l0 a1 0 b) (g1 : DsLoop L n k a1 0 b l0.length l a' 0 b) (hl : l0.length + l.length ≤ 20000) (hcl : ∀ v ∈ l0 ++ l, v.clock = []) :
    PC Tryz.prog 147 [.ptr 0 0] [cells L a 0 b n] (.acc 5 ((l0 ++ l).map Var.row)) [cells L a' 0 b n] := by
  intro K w Bs cargs hK hC hnd hA
  obtain ⟨B0, rfl⟩ : ∃ B0, Bs = [B0] := by
    cases hC with | cons B0 _ Bs _ _ _ _ _ _ hr => cases hr; exact ⟨B0, rfl⟩
  have hd : Hd L B0 K w a 0 b n := .of hK hC
  obtain rfl : cargs = [.pointer (some ⟨B0, 0, none⟩)] := by
    cases hA with | cons _ v _ l' h5 h6 =>
      cases h6
      cases h5 with
      | data _ _ h7 => cases h7
      | ptr i B hi => simp at hi; rw [hi]
  refine callsIn_wide.2 ((decls_in h1 g1 hl hd).mono ?_)
  rintro en w' ⟨K', v', rfl, hdc⟩
  obtain ⟨K'', hc⟩ := came_list hd hdc (varCells_rows _ hcl) (by simp)
  exact ⟨K'', v', rfl, hc⟩
theorem locals_of {a b a' : Int} {l : List Var} {k : Nat} (g1 : LcLoop L n k a 0 b 0 l a' 0 b) (hl : l.length ≤ 20000) : PC Tryz.prog 149 [.ptr 0 0] [cells L a 0 b n] (.acc 5 (l.map Var.row)) [cells L a' 0 b n] := by
  intro K w Bs cargs hK hC hnd hA
  obtain ⟨B0, rfl⟩ : ∃ B0, Bs = [B0] := by
    cases hC with | cons B0 _ Bs _ _ _ _ _ _ hr => cases hr; exact ⟨B0, rfl⟩
  have hd : Hd L B0 K w a 0 b n := .of hK hC
  obtain rfl : cargs = [.pointer (some ⟨B0, 0, none⟩)] := by
    cases hA with | cons _ v _ l' h5 h6 =>
      cases h6
      cases h5 with
      | data _ _ h7 => cases h7
      | ptr i B hi => simp at hi; rw [hi]
  refine callsIn_wide.2 ((locals_in g1 hl hd).mono ?_)
  rintro en w' ⟨K', v', xs, rfl, hdc⟩
  obtain ⟨K'', hc⟩ := came_list hd hdc.i hdc.r (by simp)
  exact ⟨K'', v', rfl, hc⟩
theorem decls_px1 (hL : Toks L) {w : ByteArray} : PX L n 147 [] (nm w :: sg 58 :: kI8 :: sg 41 :: l) (sg 41 :: l) (fun r => ∃ p, r = .acc 5 [Var.row ⟨w, 2, 0, [], p⟩]) := by
  intro a b hs
  obtain ⟨a1, p, h1, hs1⟩ := decl_one (n := n) (b := b) hL (bo := false) (isW_of (by kernel_rfl)) hs (m := 0) (by omega)
  have p5 := maybe_pc0 (e := 0) (b := b) (n := n) hL hs1.at (w := ⟨#[59]⟩) (by rw [hs1.isW]; exact isW_of (by kernel_rfl))
  exact ⟨a1, _, ⟨p, rfl⟩, hs1, decls_of h1 (.last 0 _ _ _ _ rfl p5) (by simp) (by simp)⟩
end
end Go.Vi
namespace Go.Vi
open Go.Proofs
def kAnd : Lx := kw ⟨#[97, 110, 100]⟩
def edgesL : List Edge → List Lx → List Lx
  | [], l => l
  | [g], l => edgeL g.name g.on l
  | g :: h :: r, l => edgeL g.name g.on (kAnd :: edgesL (h :: r) l)
theorem edgesL_cons {g h : Edge} {r : List Edge} {l : List Lx} : edgesL (g :: h :: r) l = edgeL g.name g.on (kAnd :: edgesL (h :: r) l) := rfl
theorem edgeL_at {L : List PT} {w : ByteArray} {on : Bool} {l : List Lx} {a : Int} (h : Sfx L a (edgeL w on l)) : At L a := by
  cases on
  · exact Sfx.at (t := kNot) h
  · exact Sfx.at (t := nm w) h
attribute [local irreducible] qAsg qPick qBox qBuild qBsl qLoad1 qLoadN qStore qNil qBin qUn qConv qSlS qSlL qFA qF1 qFN qIA qIS qEx qLenS qLenL qApp pQ pQL pGL pCall pCallL condP optP pEnd OpS Int.instDecidableEq Int.decEq instBEqOfDecidableEq
section
variable {L : List PT} {n : Int} {t u : Lx} {l l' : List Lx}
theorem edges_loop' (hL : Toks L) (hu : u.isW ⟨#[97, 110, 100]⟩ = false) {Q : PV → Int → Int → Int → Int → Prop} : ∀ (r : List Edge) (g : Edge) {a b : Int} (hs : Sfx L a (edgesL (g :: r) (u :: l))) (k0 : List Edge) (hlen : k0.length + r.length ≤ 14) {eo : Nat} (heo : k0.map Edge.row = [] ∨ eo = 2)
      (hQ : ∀ a', Sfx L a' (u :: l) → Q (.acc 2 ((k0 ++ g :: r).map Edge.row)) a' 0 b n),
      ∃ k, ∀ (hp : Nat → Option Obj) (o1 : Obj), c160l9 2 1 (fun r c => ∃ a' e' b' n', c = [cells L a' e' b' n'] ∧ Q r a' e' b' n') k (.ptr 0 0) (.acc 2 (k0.map Edge.row))
        (stL [.box (cells L a 0 b n), o1, .own (k0.map Edge.row).length eo] hp 3) := by
  intro r
  induction r with
  | nil =>
    intro g a b hs k0 hlen eo heo hQ
    obtain ⟨a1, r1, rfl, hs1, hpc1⟩ := edge_px (n := n) hL a b hs
    have hrows : (k0 ++ [g]).map Edge.row = k0.map Edge.row ++ [g.row] := by simp
    have hf : Go.Ab.sizeFits ((k0.map Edge.row).length + 1) 24 = true := fits_small (by simp; omega) (by omega)
    refine ⟨1, fun hp o1 => ?_⟩
    show c160l9b _ _ _ _ _ _ _
    unfold c160l9b
    refine zv ?_
    rw [eq00]
    refine zv ?_
    refine pCall_i hpc1 rfl rfl rfl rfl ?_
    refine zv ?_
    refine pQ_r (o_app rfl rfl hf (all_len edge_rows_len) rfl (heo.imp (fun h => by rw [h]; rfl) (fun h => h.symm))) ?_
    refine zv ?_
    refine (is_px _ hu).call hs1 rfl rfl fun r a2 hr hs2 => ?_
    subst hr
    refine zv ?_
    rw [← show (k0 ++ [g]).map Edge.row = k0.map Edge.row ++ [[.str g.name, .bool g.on]] from hrows]
    exact fin_i rfl (backV_acc (eo := 2) (by rw [hrows, List.length_append]; rfl) (.inr rfl) edge_rows_len) rfl ⟨_, _, _, _, rfl, hQ _ hs2⟩
  | cons h r ih =>
    intro g a b hs k0 hlen eo heo hQ
    rw [edgesL_cons] at hs
    obtain ⟨a1, r1, rfl, hs1, hpc1⟩ := edge_px (n := n) hL a b hs
    have h64 := succ64 hL hs1.at
    have hs2 := hs1.tail
    have hrows : (k0 ++ [g]).map Edge.row = k0.map Edge.row ++ [g.row] := by simp
    have hf : Go.Ab.sizeFits ((k0.map Edge.row).length + 1) 24 = true := fits_small (by simp; omega) (by omega)
    have hll : ((k0.map Edge.row ++ [[PV.str g.name, PV.bool g.on]]).length : Int) = k0.length + 1 := by simp
    have ha2 : At L (a1 + 1) := by
      cases r with
      | nil => exact edgeL_at hs2
      | cons h2 r => exact edgeL_at hs2
    simp only [List.length_cons] at hlen
    have hpc3 := full_pc0 (e := 0) (b := b) (n := n) hL ha2 (x := ((k0.map Edge.row ++ [[PV.str g.name, PV.bool g.on]]).length : Int)) (y := 16) (by rw [hll]; omega)
    obtain ⟨k, hk⟩ := ih h hs2 (k0 ++ [g]) (by simp; omega) (eo := 2) (.inr rfl) fun a' h' => by rw [List.append_assoc]; exact hQ a' h'
    refine ⟨k + 1, fun hp o1 => ?_⟩
    show c160l9b _ _ _ _ _ _ _
    unfold c160l9b
    refine zv ?_
    rw [eq00]
    refine zv ?_
    refine pCall_i hpc1 rfl rfl rfl rfl ?_
    refine zv ?_
    refine pQ_r (o_app rfl rfl hf (all_len edge_rows_len) rfl (heo.imp (fun h => by rw [h]; rfl) (fun h => h.symm))) ?_
    refine zv ?_
    obtain ⟨a3, r3, rfl, hs3, _⟩ := is_px (n := n) (t := kAnd) ⟨#[97, 110, 100]⟩ (isW_of (v := true) (by kernel_rfl)) a1 b hs1
    have hpi : PC Tryz.prog 120 [.ptr 0 0, .str ⟨#[97, 110, 100]⟩] [cells L a1 0 b n] (.bool true) [cells L a1 0 b n] := by
      have := is_pc (e := 0) (b := b) (n := n) hs1.at ⟨#[97, 110, 100]⟩
      rwa [hs1.isW, isW_of (t := kAnd) (v := true) (by kernel_rfl)] at this
    refine pCall_i hpi rfl rfl rfl rfl ?_
    refine zv ?_
    rw [h64]
    refine pCall_i hpc3 rfl rfl rfl rfl ?_
    refine zv ?_
    rw [← show (k0 ++ [g]).map Edge.row = k0.map Edge.row ++ [[.str g.name, .bool g.on]] from hrows]
    exact stL_to3 (c160l9 2 1 _ k _ _) rfl rfl (by rw [hrows, List.length_append]; rfl) rfl fun hp' => hk hp' _
theorem edges_pxL (hL : Toks L) (hu : u.isW ⟨#[97, 110, 100]⟩ = false) {g : Edge} {r : List Edge} (hr : r.length ≤ 14) : PX L n 160 [] (edgesL (g :: r) (u :: l)) (u :: l) (fun v => v = .acc 2 ((g :: r).map Edge.row)) := by
  refine PX.mk fun a b hs => ?_
  obtain ⟨k, hk⟩ := edges_loop' hL hu r g (b := b) (n := n) hs [] (by simpa using hr) (eo := 0) (.inl rfl) (Q := fun r' a' e' b' n' => r' = .acc 2 ((g :: r).map Edge.row) ∧ Sfx L a' (u :: l) ∧ e' = 0 ∧ b' = b ∧ n' = n) fun a' h' => ⟨rfl, h', rfl, rfl, rfl⟩
  refine c160_pq 2 rfl _ ?_
  unfold c160
  refine zv ?_
  refine ⟨k, ?_⟩
  exact stL_to3 (c160l9 2 1 _ k _ _) rfl rfl rfl rfl fun hp' => hk hp' _
structure Lc where
  name : ByteArray
  bo : Bool
  clock : List Edge
def Lc.lx (x : Lc) (l : List Lx) : List Lx := nm x.name :: sg 58 :: kKind x.bo :: (match x.clock with
  | [] => sg 59 :: l
  | g :: r => kWhen :: edgesL (g :: r) (sg 59 :: l))
def Lc.var (x : Lc) (p : Int) : Var := ⟨x.name, kdN x.bo, 0, x.clock, p⟩
inductive Vs2 : List Lc → List Var → Prop
  | nil : Vs2 [] []
  | cons (x : Lc) (r : List Lc) (p : Int) (l : List Var) : Vs2 r l → Vs2 (x :: r) (x.var p :: l)
theorem Vs2.len {r : List Lc} {l : List Var} (h : Vs2 r l) : l.length = r.length := by
  induction h with
  | nil => rfl
  | cons _ _ _ _ _ ih => simp [ih]
def lcsL : List Lc → List Lx → List Lx
  | [], l => l
  | x :: r, l => x.lx (lcsL r l)
theorem lcstep_of (hL : Toks L) {x : Lc} (hx : x.clock.length ≤ 15) {a b : Int} (hs : Sfx L a (x.lx l)) {m : Nat} (hm : m < 200) : ∃ a' p, LcStep L n a 0 b m [x.var p] a' 0 b ∧ Sfx L a' l := by
  obtain ⟨w, bo, c⟩ := x
  unfold Lc.lx at hs
  cases c with
  | nil =>
    obtain ⟨a1, p, h1, hs1⟩ := decl_one (n := n) (b := b) hL (isW_of (by kernel_rfl)) hs hm
    have p2 := maybe_pc0 (e := 0) (b := b) (n := n) hL hs1.at (w := ⟨#[119, 104, 101, 110]⟩) (by rw [hs1.isW]; exact isW_of (by kernel_rfl))
    obtain ⟨a3, r3, rfl, hs3, p3⟩ := take_px (n := n) ⟨#[59]⟩ (t := sg 59) (isW_of (by kernel_rfl)) hL a1 b hs1
    exact ⟨a3, p, .plain _ _ _ _ _ _ _ _ _ _ _ h1 p2 p3, hs3⟩
  | cons g r =>
    obtain ⟨a1, p, h1, hs1⟩ := decl_one (n := n) (b := b) hL (isW_of (by kernel_rfl)) hs hm
    have p2 := maybe_pc1 (e := 0) (b := b) (n := n) hL hs1.at (w := ⟨#[119, 104, 101, 110]⟩) (by rw [hs1.isW]; exact isW_of (by kernel_rfl))
    obtain ⟨a3, r3, rfl, hs3, p3⟩ := edges_pxL (n := n) (u := sg 59) hL (isW_of (by kernel_rfl)) (by simpa using hx) (a1 + 1) b hs1.tail
    obtain ⟨a4, r4, rfl, hs4, p4⟩ := take_px (n := n) ⟨#[59]⟩ (t := sg 59) (isW_of (by kernel_rfl)) hL a3 b hs3
    refine ⟨a4, p, ?_, hs4⟩
    have := LcStep.clock (L := L) (n := n) _ _ _ _ _ _ _ _ _ _ _ _ _ _ _ (g :: r) h1 p2 p3 (by simp) (by simp at hx ⊢; omega) p4
    simpa [Var.on, Lc.var] using this
theorem lcloop_of (hL : Toks L) (hu : u.kind ≠ 1) : ∀ (r : List Lc) (x : Lc), (∀ y ∈ x :: r, y.clock.length ≤ 15) → ∀ (m : Nat), m + r.length < 199 → ∀ (a b : Int), Sfx L a (lcsL (x :: r) (u :: l)) → ∃ k vs a', LcLoop L n k a 0 b m vs a' 0 b ∧ Vs2 (x :: r) vs ∧ Sfx L a' (u :: l) := by
  intro r
  induction r with
  | nil =>
    intro x hx m hm a b hs
    obtain ⟨a1, p, h1, hs1⟩ := lcstep_of (n := n) (b := b) hL (hx x (by simp)) hs (m := m) (by omega)
    exact ⟨0, _, a1, .last 0 _ _ _ _ _ _ _ _ rfl h1 (Sfx.at hs1) (.inr (by rw [Sfx.kind hs1]; exact hu)), .cons _ _ p _ .nil, hs1⟩
  | cons y r ih =>
    intro x hx m hm a b hs
    simp only [List.length_cons] at hm
    obtain ⟨a1, p, h1, hs1⟩ := lcstep_of (n := n) (b := b) hL (hx x (by simp)) hs (m := m) (by omega)
    obtain ⟨k, vs, a', h2, h3, hs2⟩ := ih y (fun z hz => hx z (by simp [hz])) (m + 1) (by omega) a1 b hs1
    have hs1' : Sfx L a1 (nm y.name :: sg 58 :: kKind y.bo :: (match y.clock with
      | [] => sg 59 :: lcsL r (u :: l)
      | g :: q => kWhen :: edgesL (g :: q) (sg 59 :: lcsL r (u :: l)))) := hs1
    exact ⟨k + 1, _, a', .more k _ _ _ _ _ _ _ _ _ _ [x.var p] vs rfl h1 hs1'.at rfl (by rw [hs1'.kind]; rfl) h2, .cons _ _ p _ h3, hs2⟩
theorem locals_pxL (hL : Toks L) (hu : u.kind ≠ 1) {x : Lc} {r : List Lc} (hx : ∀ y ∈ x :: r, y.clock.length ≤ 15) (hr : r.length < 199) : PX L n 149 [] (lcsL (x :: r) (u :: l)) (u :: l) (fun v => ∃ vs, Vs2 (x :: r) vs ∧ v = .acc 5 (vs.map Var.row)) := by
  intro a b hs
  obtain ⟨k, vs, a', h1, h2, h3⟩ := lcloop_of (n := n) hL hu r x hx 0 (by omega) a b hs
  exact ⟨a', _, ⟨vs, h2, rfl⟩, h3, locals_of h1 (by rw [h2.len]; simp; omega)⟩
end
end Go.Vi
namespace Go.Vi
open Go.Proofs
inductive Ek where
  | var (v : ByteArray)
  | tru
  | gt (v : ByteArray)
  | wh (v w : ByteArray) (on : Bool)
def Ek.lx : Ek → List Lx → List Lx
  | .var v, l => nm v :: l
  | .tru, l => kTrue :: l
  | .gt v, l => nm v :: sg 62 :: lit0 :: l
  | .wh v w on, l => kWhen :: sg 40 :: nm v :: sg 44 :: edgeL w on (sg 41 :: l)
def Ek.is : Ek → Exp → Prop
  | .var v => IsV v
  | .tru => IsT
  | .gt v => IsG v
  | .wh v w on => IsWh (IsV v) w on
structure It where
  name : ByteArray
  e : Ek
def It.lx (x : It) (l : List Lx) : List Lx := nm x.name :: sg 61 :: x.e.lx (sg 59 :: l)
inductive Is2 : List It → List Item → Prop
  | nil : Is2 [] []
  | cons (x : It) (r : List It) (y : Exp) (p : Int) (l : List Item) : x.e.is y → Is2 r l → Is2 (x :: r) (.mk [x.name] y [] p :: l)
theorem Is2.len {r : List It} {l : List Item} (h : Is2 r l) : l.length = r.length := by
  induction h with
  | nil => rfl
  | cons _ _ _ _ _ _ _ ih => simp [ih]
def itsL : List It → List Lx → List Lx
  | [], l => l
  | x :: r, l => x.lx (itsL r l)
theorem exp_ek {L : List PT} {n : Int} {u : Lx} {l : List Lx} (hL : Toks L) (h0 : 0 ≤ n) (hn : n ≤ 29) (hu : Stop u) (k : Ek) : PXE L n 167 [] (k.lx (u :: l)) (u :: l) k.is := by
  cases k with
  | var v => exact exp_var hL h0 (by omega) hu
  | tru => exact exp_true hL h0 (by omega) hu
  | gt v => exact exp_gt hL h0 (by omega) hu
  | wh v w on => exact exp_when hL h0 hn hu
attribute [local irreducible] qAsg qPick qBox qBuild qBsl qLoad1 qLoadN qStore qNil qBin qUn qConv qSlS qSlL qFA qF1 qFN qIA qIS qEx qLenS qLenL qApp pQ pQL pGL pCall pCallL condP optP pEnd OpS Int.instDecidableEq Int.decEq instBEqOfDecidableEq
attribute [local irreducible] c162j212 c162j190 c162j161 c162j58 c162j104
section
variable {L : List PT} {n : Int} {t u : Lx} {l l' : List Lx}
theorem item_px (hL : Toks L) (h0 : 0 ≤ n) (hn : n ≤ 29) (x : It) : PX L n 162 [] (x.lx l) l (fun r => ∃ y p, x.e.is y ∧ r = .agg (Item.mk [x.name] y [] p).row) := by
  refine PX.mk fun a b hs => ?_
  obtain ⟨w, k⟩ := x
  unfold It.lx at hs
  refine c162_pq 0 rfl _ ?_
  unfold c162
  refine zv ?_
  refine call_tok rfl hs.at ?_
  refine zv ?_
  refine (is_px _ (t := nm w) (isW_kind (by simp [nm]) (by simp [nm]))).call hs rfl rfl fun r a1 hr hs1 => ?_
  subst hr
  refine zv ?_
  refine (maybe0_px _ (t := nm w) (isW_kind (by simp [nm]) (by simp [nm])) hL).call hs1 rfl rfl fun r a2 hr hs2 => ?_
  subst hr
  refine zv ?_
  refine (name_px (t := nm w) rfl hL).call hs2 rfl rfl fun r a3 hr hs3 => ?_
  subst hr
  refine zv ?_
  refine stL_to3 (c162j161 0 1 _ _ _ _) rfl rfl rfl rfl fun hp' => ?_
  unfold c162j161
  refine (take_px (t := sg 61) _ (isW_of (by kernel_rfl)) hL).call hs3 rfl rfl fun r a4 hr hs4 => ?_
  subst hr
  refine zv ?_
  refine (exp_ek hL h0 hn (.inr (.inr rfl)) k).call hs4 rfl rfl fun f2 s2 nm2 tk2 tl2 i2 m2 kids2 at2 a5 hx hs5 => ?_
  refine zv ?_
  refine (take_px (t := sg 59) _ (isW_of (by kernel_rfl)) hL).call hs5 rfl rfl fun r a6 hr hs6 => ?_
  subst hr
  refine zv ?_
  refine fin_i (resL1 (o_cellR (o_loadAP rfl rfl))) (back_item (rn := [[.str w]]) (rs := []) rfl rfl rfl) rfl ⟨_, _, _, _, rfl, ⟨.mk f2 s2 nm2 tk2 tl2 i2 m2 kids2 at2, (tokAt L a).at', hx, ?_⟩, hs6, rfl, rfl, rfl⟩
  rw [item_row_mk]
  rfl
theorem begins_px (v : Bool) (hv : (t.isW ⟨#[97, 117, 116, 111, 109, 97, 116, 111, 110]⟩ || t.isW ⟨#[40]⟩ || (t.kind == 1)) = v) : PX L n 161 [] (t :: l) (t :: l) (fun r => r = .bool v) := by
  refine PX.mk fun a b hs => ?_
  have hk := hs.kind
  refine c161_pq 0 rfl _ ?_
  unfold c161
  refine zv ?_
  rw [ne00]
  refine zv ?_
  refine (is_px _ rfl).call hs rfl rfl fun r a1 hr hs1 => ?_
  subst hr
  refine zv ?_
  refine (is_px _ rfl).call hs1 rfl rfl fun r a2 hr hs2 => ?_
  subst hr
  refine zv ?_
  rw [← hv]
  cases h1 : t.isW ⟨#[97, 117, 116, 111, 109, 97, 116, 111, 110]⟩
  · refine zv ?_
    cases h2 : t.isW ⟨#[40]⟩
    · refine zv ?_
      refine callL_tok rfl hs2.at ?_
      refine zv ?_
      exact fin_i rfl rfl rfl ⟨_, _, _, _, rfl, by rw [hs2.kind]; rfl, hs2, rfl, rfl, rfl⟩
    · refine zv ?_
      exact fin_i rfl rfl rfl ⟨_, _, _, _, rfl, rfl, hs2, rfl, rfl, rfl⟩
  · refine zv ?_
    exact fin_i rfl rfl rfl ⟨_, _, _, _, rfl, rfl, hs2, rfl, rfl, rfl⟩
theorem items_loop' (hL : Toks L) (h0 : 0 ≤ n) (hn : n ≤ 29) (hu : (u.isW ⟨#[97, 117, 116, 111, 109, 97, 116, 111, 110]⟩ || u.isW ⟨#[40]⟩ || (u.kind == 1)) = false) {Q : PV → Int → Int → Int → Int → Prop} : ∀ (r : List It) {a b : Int} (hs : Sfx L a (itsL r (u :: l))) (l0 : List Item) (hlen : l0.length + r.length ≤ 199) (hpos : 0 < l0.length + r.length) {eo : Nat} (heo : l0.map Item.row = [] ∨ eo = 12)
      (hQ : ∀ a' is, Is2 r is → Sfx L a' (u :: l) → Q (.acc 12 ((l0 ++ is).map Item.row)) a' 0 b n),
      ∃ k, ∀ (hp : Nat → Option Obj) (o1 : Obj), c150l4 12 1 (fun r c => ∃ a' e' b' n', c = [cells L a' e' b' n'] ∧ Q r a' e' b' n') k (.ptr 0 0) (.acc 2 (l0.map Item.row))
        (stL [.box (cells L a 0 b n), o1, .own (l0.map Item.row).length eo] hp 3) := by
  intro r
  induction r with
  | nil =>
    intro a b hs l0 hlen hpos eo heo hQ
    obtain ⟨a1, r1, rfl, hs1, p1⟩ := begins_px (n := n) (t := u) false hu a b hs
    refine ⟨1, fun hp o1 => ?_⟩
    show c150l4b _ _ _ _ _ _ _
    unfold c150l4b
    refine zv ?_
    rw [ne00]
    refine zv ?_
    refine pCall_i p1 rfl rfl rfl rfl ?_
    refine zv ?_
    refine cond_i (fun h => absurd (by simpa using h) (show ¬ ((l0.length : Int) = 0) by simp at hpos; omega)) (fun h => ?_)
    unfold c150j26
    refine zv ?_
    have := hQ a1 [] .nil hs1
    rw [List.append_nil] at this
    exact fin_i rfl (backV_acc rfl heo item_rows_len) rfl ⟨_, _, _, _, rfl, this⟩
  | cons x r ih =>
    intro a b hs l0 hlen hpos eo heo hQ
    simp only [List.length_cons] at hlen
    obtain ⟨a1, r1, rfl, hs1, p1⟩ := begins_px (n := n) (t := nm x.name) true (by simp [nm]) a b hs
    have p2 := full_pc0 (e := 0) (b := b) (n := n) hL hs1.at (x := ((l0.map Item.row).length : Int)) (y := 200) (by simp; omega)
    obtain ⟨a3, r3, ⟨y, p, hy, rfl⟩, hs3, p3⟩ := item_px (n := n) hL h0 hn x a1 b hs1
    have hrow : (l0 ++ [Item.mk [x.name] y [] p]).map Item.row = l0.map Item.row ++ [(Item.mk [x.name] y [] p).row] := by simp
    obtain ⟨k, hk⟩ := ih hs3 (l0 ++ [Item.mk [x.name] y [] p]) (by simp; omega) (by simp; omega) (eo := 12) (.inr rfl) fun a' is h1 h2 => by rw [List.append_assoc]; exact hQ a' _ (.cons x r y p is hy h1) h2
    refine ⟨k + 1, fun hp o1 => ?_⟩
    show c150l4b _ _ _ _ _ _ _
    unfold c150l4b
    refine zv ?_
    rw [ne00]
    refine zv ?_
    refine pCall_i p1 rfl rfl rfl rfl ?_
    refine zv ?_
    refine pCall_i p2 rfl rfl rfl rfl ?_
    refine zv ?_
    refine pCall_i p3 rfl rfl rfl rfl ?_
    cases y with | mk f s nm tk tl i m kids at1 =>
    rw [item_row_mk] at hrow ⊢
    refine zv ?_
    refine pQ_r (o_app rfl rfl (fits_small (by simp; omega) (by omega)) (all_len item_rows_len) rfl (heo.imp (fun h => by rw [h]; rfl) (fun h => h.symm))) ?_
    refine zv ?_
    rw [← hrow]
    exact stL_to3 (c150l4 12 1 _ k _ _) rfl rfl (by rw [hrow, List.length_append]; rfl) rfl fun hp' => hk hp' _
theorem items_px (hL : Toks L) (h0 : 0 ≤ n) (hn : n ≤ 29) (hu : (u.isW ⟨#[97, 117, 116, 111, 109, 97, 116, 111, 110]⟩ || u.isW ⟨#[40]⟩ || (u.kind == 1)) = false) {r : List It} (hr : r.length ≤ 199) (hpos : 0 < r.length) : PX L n 150 [] (itsL r (u :: l)) (u :: l) (fun v => ∃ is, Is2 r is ∧ v = .acc 12 (is.map Item.row)) := by
  refine PX.mk fun a b hs => ?_
  obtain ⟨k, hk⟩ := items_loop' hL h0 hn hu r hs (b := b) [] (by simpa using hr) (by simpa using hpos) (eo := 0) (.inl rfl) (Q := fun v a' e' b' n' => (∃ is, Is2 r is ∧ v = .acc 12 (is.map Item.row)) ∧ Sfx L a' (u :: l) ∧ e' = 0 ∧ b' = b ∧ n' = n) fun a' is h1 h2 => ⟨⟨is, h1, rfl⟩, h2, rfl, rfl, rfl⟩
  refine c150_pq 12 rfl _ ?_
  unfold c150
  refine zv ?_
  refine ⟨k, ?_⟩
  exact stL_to3 (c150l4 12 1 _ k _ _) rfl rfl rfl rfl fun hp' => hk hp' _
end
end Go.Vi
namespace Go.Vi
open Go.Proofs
def bFF : ByteArray := ⟨#[102]⟩
def bXX : ByteArray := ⟨#[120]⟩
def bYY : ByteArray := ⟨#[121]⟩
def kNode : Lx := kw ⟨#[110, 111, 100, 101]⟩
def kRet : Lx := kw ⟨#[114, 101, 116, 117, 114, 110, 115]⟩
def kVar : Lx := kw ⟨#[118, 97, 114]⟩
def kLet : Lx := kw ⟨#[108, 101, 116]⟩
def kTel : Lx := kw ⟨#[116, 101, 108]⟩
def lEnd : Lx := ⟨5, ⟨#[]⟩, 0, 0⟩
def nodeL (ls : List Lc) (is : List It) (l : List Lx) : List Lx := kNode :: nm bFF :: sg 40 :: nm bXX :: sg 58 :: kI8 :: sg 41 :: kRet :: sg 40 :: nm bYY :: sg 58 :: kI8 :: sg 41 :: kVar :: lcsL ls (kLet :: itsL is (kTel :: l))
def IsNd (ls : List Lc) (is : List It) (N : Node) : Prop := ∃ p p1 p2 vs xs, Vs2 ls vs ∧ Is2 is xs ∧ N = ⟨bFF, [⟨bXX, 2, 0, [], p1⟩], [⟨bYY, 2, 0, [], p2⟩], vs, xs, p⟩
theorem let_k : kLet.kind ≠ 1 := by decide
theorem tel_k : (kTel.isW ⟨#[97, 117, 116, 111, 109, 97, 116, 111, 110]⟩ || kTel.isW ⟨#[40]⟩ || (kTel.kind == 1)) = false := by rw [isW_of (t := kTel) (v := false) (by kernel_rfl), isW_of (t := kTel) (v := false) (by kernel_rfl)]; rfl
attribute [local irreducible] qAsg qPick qBox qBuild qBsl qLoad1 qLoadN qStore qNil qBin qUn qConv qSlS qSlL qFA qF1 qFN qIA qIS qEx qLenS qLenL qApp pQ pQL pGL pCall pCallL condP optP pEnd OpS Int.instDecidableEq Int.decEq instBEqOfDecidableEq
attribute [local irreducible] c123j26 c123j49 c107j4
section
variable {L : List PT} {n : Int} {t u : Lx} {l l' : List Lx}
theorem node_px (hL : Toks L) (h0 : 0 ≤ n) (hn : n ≤ 29) {x : Lc} {r : List Lc} (hx : ∀ y ∈ x :: r, y.clock.length ≤ 15) (hr : r.length < 199) {is : List It} (hi : is.length ≤ 199) (hpos : 0 < is.length) :
    PX L n 123 [] (nodeL (x :: r) is l) l (fun v => ∃ N, IsNd (x :: r) is N ∧ v = .agg N.row) := by
  refine PX.mk fun a b hs => ?_
  unfold nodeL at hs
  refine c123_pq 0 rfl _ ?_
  unfold c123
  refine zv ?_
  refine call_tok rfl hs.at ?_
  refine zv ?_
  refine (take_px (t := kNode) _ (isW_of (by kernel_rfl)) hL).call hs rfl rfl fun v a1 hv hs => ?_
  subst hv
  refine zv ?_
  refine (name_px (t := nm bFF) rfl hL).call hs rfl rfl fun v a2 hv hs => ?_
  subst hv
  refine zv ?_
  refine (take_px (t := sg 40) _ (isW_of (by kernel_rfl)) hL).call hs rfl rfl fun v a3 hv hs => ?_
  subst hv
  refine zv ?_
  refine (is_px (t := nm bXX) _ (isW_kind (by simp [nm]) (by simp [nm]))).call hs rfl rfl fun v a4 hv hs => ?_
  subst hv
  refine zv ?_
  refine (decls_px1 hL).call hs rfl rfl fun v a5 hv hs => ?_
  obtain ⟨p1, rfl⟩ := hv
  refine zv ?_
  refine stL_to3 (c123j26 0 1 _ _ _ _) rfl rfl rfl rfl fun hp' => ?_
  unfold c123j26
  refine (take_px (t := sg 41) _ (isW_of (by kernel_rfl)) hL).call hs rfl rfl fun v a6 hv hs => ?_
  subst hv
  refine zv ?_
  refine (take_px (t := kRet) _ (isW_of (by kernel_rfl)) hL).call hs rfl rfl fun v a7 hv hs => ?_
  subst hv
  refine zv ?_
  refine (take_px (t := sg 40) _ (isW_of (by kernel_rfl)) hL).call hs rfl rfl fun v a8 hv hs => ?_
  subst hv
  refine zv ?_
  refine (decls_px1 hL).call hs rfl rfl fun v a9 hv hs => ?_
  obtain ⟨p2, rfl⟩ := hv
  refine zv ?_
  refine (take_px (t := sg 41) _ (isW_of (by kernel_rfl)) hL).call hs rfl rfl fun v a10 hv hs => ?_
  subst hv
  refine zv ?_
  refine (maybe1_px (t := kVar) _ (isW_of (by kernel_rfl)) hL).call hs rfl rfl fun v a11 hv hs => ?_
  subst hv
  refine zv ?_
  refine (locals_pxL (u := kLet) hL let_k hx hr).call hs rfl rfl fun v a12 hv hs => ?_
  obtain ⟨vs, hvs, rfl⟩ := hv
  refine zv ?_
  refine stL_to3 (c123j49 0 1 _ _ _ _) rfl rfl rfl rfl fun hp' => ?_
  unfold c123j49
  refine (take_px (t := kLet) _ (isW_of (by kernel_rfl)) hL).call hs rfl rfl fun v a13 hv hs => ?_
  subst hv
  refine zv ?_
  refine (items_px (u := kTel) hL h0 hn tel_k hi hpos).call hs rfl rfl fun v a14 hv hs => ?_
  obtain ⟨xs, hxs, rfl⟩ := hv
  refine zv ?_
  refine (take_px (t := kTel) _ (isW_of (by kernel_rfl)) hL).call hs rfl rfl fun v a15 hv hs => ?_
  subst hv
  refine zv ?_
  refine fin_i (resL1 (o_cellR (o_loadAP rfl rfl))) (back_node (r1 := [Var.row ⟨bXX, 2, 0, [], p1⟩]) (r2 := [Var.row ⟨bYY, 2, 0, [], p2⟩]) (r3 := vs.map Var.row) rfl rfl rfl) rfl ⟨_, _, _, _, rfl, ⟨_, ⟨(tokAt L a).at', p1, p2, vs, xs, hvs, hxs, rfl⟩, ?_⟩, hs, rfl, rfl, rfl⟩
  rw [node_row_mk]
  rfl
theorem program_px (hL : Toks L) (h0 : 0 ≤ n) (hn : n ≤ 29) {x : Lc} {r : List Lc} (hx : ∀ y ∈ x :: r, y.clock.length ≤ 15) (hr : r.length < 199) {is : List It} (hi : is.length ≤ 199) (hpos : 0 < is.length) :
    PX L n 107 [] (nodeL (x :: r) is (lEnd :: l)) (lEnd :: l) (fun v => ∃ N, IsNd (x :: r) is N ∧ v = .agg [.lst [N.row]]) := by
  refine PX.mk fun a b hs => ?_
  obtain ⟨a1, v1, ⟨N, hN, rfl⟩, hs1, p1⟩ := node_px (n := n) (l := lEnd :: l) hL h0 hn hx hr hi hpos a b hs
  have hs' : Sfx L a (kNode :: _) := hs
  refine c107_pq 0 rfl _ ?_
  unfold c107
  refine zv ?_
  refine ⟨2, ?_⟩
  show c107l12b _ _ _ _ _ _ _ _
  unfold c107l12b
  refine zv ?_
  rw [eq00]
  refine zv ?_
  refine callL_tok rfl hs'.at ?_
  refine zv ?_
  cases h : (tokAt L a).kind != 5
  · rw [hs'.kind] at h; exact absurd h (by simp [kNode, kw])
  refine zv ?_
  refine (is_px (t := kNode) ⟨#[110, 111, 100, 101]⟩ (v := true) (isW_of (by kernel_rfl))).call hs' rfl rfl fun v a2 hv hs2 => ?_
  subst hv
  refine zv ?_
  refine pCall_i (full_pc0 (e := 0) (b := b) (n := n) hL hs2.at (x := 0) (y := 60) (by omega)) rfl rfl rfl rfl ?_
  refine zv ?_
  obtain ⟨a3, v3, ⟨N, hN, rfl⟩, hs3, p3⟩ := node_px (n := n) (l := lEnd :: l) hL h0 hn hx hr hi hpos a2 b hs2
  refine pCallL_i p3 rfl rfl rfl rfl ?_
  cases N with | mk nm ins outs locals items at2 =>
  rw [node_row_mk]
  refine zv ?_
  refine pQL_r (o_appN rfl rfl (fits_small (by simp) (by omega)) zn) ?_
  refine zv ?_
  refine ⟨by kernel_rfl, ?_⟩
  refine stL_to4 (c107l12 0 1 _ 1 _ _ _) rfl rfl rfl rfl rfl fun hp' => ?_
  show c107l12b _ _ _ _ _ _ _ _
  unfold c107l12b
  refine zv ?_
  rw [eq00]
  refine zv ?_
  refine callL_tok rfl hs3.at ?_
  refine zv ?_
  cases h : (tokAt L a3).kind != 5
  case true => rw [hs3.kind] at h; exact absurd h (by simp [lEnd])
  refine zv ?_
  unfold c107j4
  refine zv ?_
  refine fin_i (resL1 (o_cellR (o_loadAP rfl rfl))) rfl rfl ⟨_, _, _, _, rfl, ⟨_, hN, by rw [node_row_mk]⟩, hs3, rfl, rfl, rfl⟩
end
theorem parse_of {t : ByteArray} {L : List PT} (hL : Toks L) (hT : PC Tryz.prog 106 [.str t] [] (.tuple [.lst (L.map PT.row), .int .i64 0, .int .i64 0]) []) {x : Lc} {r : List Lc} (hx : ∀ y ∈ x :: r, y.clock.length ≤ 15) (hr : r.length < 199) {is : List It} (hi : is.length ≤ 199) (hpos : 0 < is.length)
    (hl : L.map PT.lx = nodeL (x :: r) is [lEnd]) : ∃ N, IsNd (x :: r) is N ∧ PC Tryz.prog 83 [.str t] [] (.tuple [.agg [.lst [N.row]], .int .i64 0, .int .i64 0]) [] := by
  obtain ⟨a1, v1, ⟨N, hN, rfl⟩, hs1, p1⟩ := program_px (n := 0) (l := []) hL (by omega) (by omega) hx hr hi hpos 0 0 ⟨by omega, hl⟩
  refine ⟨N, hN, ?_⟩
  have : PQ Tryz.prog 83 [.str t] [] (fun r c => r = .tuple [.agg [.lst [N.row]], .int .i64 0, .int .i64 0] ∧ c = []) := by
    refine c83_pq 0 rfl _ ?_
    unfold c83
    refine zv ?_
    refine pCall_i hT rfl rfl rfl rfl ?_
    refine zv ?_
    rw [ne00]
    refine zv ?_
    refine pCall_i p1 rfl rfl rfl rfl ?_
    refine zv ?_
    rw [ne00]
    refine zv ?_
    refine fin_i (resL3' (o_cellR (o_loadAP rfl rfl))) rfl rfl ⟨rfl, rfl⟩
  obtain ⟨v, c, hpc, rfl, rfl⟩ := this
  exact hpc
end Go.Vi
namespace Go.Vi
open Go.Proofs
def letterI (x : Int) : Bool := (decide (x ≥ 97) && decide (x ≤ 122)) || (decide (x ≥ 65) && decide (x ≤ 90)) || (x == 95)
def digitI (x : Int) : Bool := decide (x ≥ 48) && decide (x ≤ 57)
def keysL : List ByteArray := [⟨#[110, 111, 100, 101]⟩, ⟨#[114, 101, 116, 117, 114, 110, 115]⟩, ⟨#[118, 97, 114]⟩, ⟨#[108, 101, 116]⟩, ⟨#[116, 101, 108]⟩, ⟨#[105, 102]⟩, ⟨#[116, 104, 101, 110]⟩, ⟨#[101, 108, 115, 101]⟩, ⟨#[110, 111, 116]⟩, ⟨#[97, 110, 100]⟩, ⟨#[111, 114]⟩, ⟨#[120, 111, 114]⟩, ⟨#[109, 111, 100]⟩, ⟨#[112, 114, 101]⟩, ⟨#[102, 98, 121]⟩, ⟨#[119, 104, 101, 110]⟩, ⟨#[109, 101, 114, 103, 101]⟩, ⟨#[99, 97, 115, 116]⟩, ⟨#[116, 105, 99, 107]⟩, ⟨#[114, 101, 115, 101, 116]⟩, ⟨#[114, 101, 112]⟩, ⟨#[109, 97, 112]⟩, ⟨#[102, 111, 108, 100]⟩, ⟨#[111, 110]⟩, ⟨#[116, 114, 117, 101]⟩, ⟨#[102, 97, 108, 115, 101]⟩, ⟨#[97, 117, 116, 111, 109, 97, 116, 111, 110]⟩, ⟨#[115, 116, 97, 116, 101]⟩, ⟨#[100, 111]⟩, ⟨#[117, 110, 108, 101, 115, 115]⟩, ⟨#[117, 110, 116, 105, 108]⟩, ⟨#[99, 111, 110, 116, 105, 110, 117, 101]⟩, ⟨#[101, 110, 100]⟩]
def keyW (w : ByteArray) : Bool := decide (kindOf w > 0) || keysL.any (fun k => w.toList == k.toList)
theorem key_t {w k : ByteArray} (hk : k ∈ keysL) (h : (w.toList == k.toList) = true) : keyW w = true := by
  unfold keyW
  rw [Bool.or_eq_true]
  exact .inr (List.any_eq_true.2 ⟨k, hk, h⟩)
theorem key_f {w : ByteArray} (h : keysL.all (fun k => !(w.toList == k.toList)) = true) (h0 : decide (kindOf w > 0) = false) : keyW w = false := by
  unfold keyW
  rw [h0, Bool.false_or]
  rw [Bool.eq_false_iff]
  intro h1
  obtain ⟨k, hk, h2⟩ := List.any_eq_true.1 h1
  have := List.all_eq_true.1 h k hk
  rw [h2] at this; cases this
theorem nall_cons {w k : ByteArray} {l : List ByteArray} (h : (w.toList == k.toList) = false) (h' : l.all (fun k => !(w.toList == k.toList)) = true) : (k :: l).all (fun k => !(w.toList == k.toList)) = true := by
  rw [List.all_cons, h, h']; rfl
attribute [local irreducible] qAsg qPick qBox qBuild qBsl qLoad1 qLoadN qStore qNil qBin qUn qConv qSlS qSlL qFA qF1 qFN qIA qIS qEx qLenS qLenL qApp pQ pQL pGL pCall pCallL condP optP pEnd OpS Int.instDecidableEq Int.decEq instBEqOfDecidableEq
theorem letterI_pc (x : Int) : PC Tryz.prog 139 [.int .u8 x] [] (.bool (letterI x)) [] := by
  have : PQ Tryz.prog 139 [.int .u8 x] [] (fun r c => r = .bool (letterI x) ∧ c = []) := by
    refine c139_pq 0 rfl _ ?_
    unfold c139
    refine zv ?_
    cases h1 : decide (x ≥ 97) <;> refine zv ?_
    all_goals try (cases h2 : decide (x ≤ 122) <;> refine zv ?_)
    all_goals try (cases h3 : decide (x ≥ 65) <;> refine zv ?_)
    all_goals try (cases h4 : decide (x ≤ 90) <;> refine zv ?_)
    all_goals try (cases h5 : (x == 95) <;> refine zv ?_)
    all_goals exact fin_i rfl rfl rfl ⟨by simp [letterI, *], rfl⟩
  obtain ⟨r, c, hpc, rfl, rfl⟩ := this
  exact hpc
theorem digitI_pc (x : Int) : PC Tryz.prog 140 [.int .u8 x] [] (.bool (digitI x)) [] := by
  have : PQ Tryz.prog 140 [.int .u8 x] [] (fun r c => r = .bool (digitI x) ∧ c = []) := by
    refine c140_pq 0 rfl _ ?_
    unfold c140
    refine zv ?_
    cases h1 : decide (x ≥ 48) <;> refine zv ?_
    all_goals try (cases h2 : decide (x ≤ 57) <;> refine zv ?_)
    all_goals exact fin_i rfl rfl rfl ⟨by simp [digitI, *], rfl⟩
  obtain ⟨r, c, hpc, rfl, rfl⟩ := this
  exact hpc
theorem keyW_pc (w : ByteArray) : PC Tryz.prog 141 [.str w] [] (.bool (keyW w)) [] := by
  have hp := kindOf_pc w
  have : PQ Tryz.prog 141 [.str w] [] (fun r c => r = .bool (keyW w) ∧ c = []) := by
    have e4t : ∀ (s : St) (x : Bool), x = true → keyW w = true → getBoxes s (List.range 0) = some [] → c141j4 0 0 (fun r c => r = .bool (keyW w) ∧ c = []) (.bool x) s := fun s x hx h hs => by
      subst hx
      unfold c141j4
      refine ct ?_
      exact fin_i rfl rfl hs ⟨by rw [h], rfl⟩
    have e4f : ∀ (s : St) (x : Bool), x = false → keyW w = false → getBoxes s (List.range 0) = some [] → c141j4 0 0 (fun r c => r = .bool (keyW w) ∧ c = []) (.bool x) s := fun s x hx h hs => by
      subst hx
      unfold c141j4
      refine cf ?_
      exact fin_i rfl rfl hs ⟨by rw [h], rfl⟩
    refine c141_pq 0 rfl _ ?_
    unfold c141
    refine pCall_i hp rfl rfl rfl rfl ?_
    refine zv ?_
    refine cond_i (fun h => ?_) (fun h0 => ?_)
    · exact fin_i rfl rfl rfl ⟨by unfold keyW; rw [h]; rfl, rfl⟩
    repeat' first
      | exact e4t _ _ h (key_t (by repeat (first | exact List.Mem.head _ | apply List.Mem.tail)) h) rfl
      | exact fin_i rfl rfl rfl ⟨by rw [key_t (by repeat (first | exact List.Mem.head _ | apply List.Mem.tail)) h], rfl⟩
      | (refine cond_i (fun h => ?_) (fun h => ?_))
      | (apply pQ_r; · exact o_bin rfl)
      | (apply pQ_r; · exact o_asgB)
    exact fin_i rfl rfl rfl ⟨by rw [key_f (by unfold keysL; repeat (first | (refine nall_cons (by assumption) ?_) | exact List.all_nil)) h0], rfl⟩
  obtain ⟨r, c, hpc, rfl, rfl⟩ := this
  exact hpc
end Go.Vi
namespace Go.Vi
open Go.Proofs
def Bt (t : ByteArray) (i : Int) (l : List UInt8) : Prop := 0 ≤ i ∧ i ≤ t.size ∧ t.data.toList.drop i.toNat = l
section
variable {t : ByteArray} {i : Int} {c : UInt8} {w l : List UInt8}
theorem size_eq (t : ByteArray) : t.size = t.data.toList.length := rfl
theorem Bt.len (h : Bt t i l) : (t.size : Int) = i + l.length := by
  obtain ⟨h0, h1, h2⟩ := h
  have := congrArg List.length h2
  rw [List.length_drop, ← size_eq] at this
  omega
theorem Bt.get (h : Bt t i (c :: l)) : t[i.toNat]? = some c := by
  have hl := h.len
  obtain ⟨h0, h1, h2⟩ := h
  simp only [List.length_cons] at hl
  have h3 : t.data.toList[i.toNat]? = some c := by rw [← List.head?_drop, h2]; rfl
  have hlt : i.toNat < t.size := by omega
  rw [getElem?_pos t i.toNat hlt]
  rw [List.getElem?_eq_getElem (by rw [← size_eq]; exact hlt)] at h3
  have h4 : t.data[i.toNat] = c := by simpa using h3
  exact congrArg some h4
theorem Bt.tail (h : Bt t i (c :: l)) : Bt t (i + 1) l := by
  have hl := h.len
  obtain ⟨h0, h1, h2⟩ := h
  simp only [List.length_cons] at hl
  refine ⟨by omega, by omega, ?_⟩
  rw [show (i + 1).toNat = i.toNat + 1 by omega, ← List.drop_drop, h2]; rfl
theorem Bt.skip : ∀ {w : List UInt8} {i : Int}, Bt t i (w ++ l) → Bt t (i + w.length) l
  | [], i, h => by simpa using h
  | c :: w, i, h => by
    have := Bt.skip (w := w) (i := i + 1) (Bt.tail h)
    rw [show i + ((c :: w).length : Int) = i + 1 + w.length by simp; omega]
    exact this
theorem Bt.cut (h : Bt t i (w ++ l)) : t.extract i.toNat (i + w.length).toNat = ⟨w.toArray⟩ := by
  have hl := h.len
  obtain ⟨h0, h1, h2⟩ := h
  apply ByteArray.ext
  apply Array.toList_inj.1
  rw [ByteArray.data_extract, Array.toList_extract]
  rw [List.extract_eq_take_drop, h2, show (i + (w.length : Int)).toNat - i.toNat = w.length by omega]
  simp
end
def lodI (x : Int) : Bool := letterI x || digitI x
def NoLod : List UInt8 → Prop
  | [] => True
  | c :: _ => lodI c.toNat = false
attribute [local irreducible] qAsg qPick qBox qBuild qBsl qLoad1 qLoadN qStore qNil qBin qUn qConv qSlS qSlL qFA qF1 qFN qIA qIS qEx qLenS qLenL qApp pQ pQL pGL pCall pCallL condP optP pEnd OpS Int.instDecidableEq Int.decEq instBEqOfDecidableEq
attribute [local irreducible] c118j38 c118j8 c118j104 c118j92
section
variable {t : ByteArray} {i : Int} {c : UInt8} {w l : List UInt8} {Q : PV → List (List PV) → Prop}
theorem w_j8 (ht : t.size ≤ 70000) (h : Bt t i (w ++ l)) (hw : w.length ≤ 40) (hQ : Q (.tuple [.agg [.int .i64 (bif keyW ⟨w.toArray⟩ then 3 else 1), .str ⟨w.toArray⟩, .int .i64 0, .int .i64 0, .int .i64 0, .int .i64 i], .int .i64 0]) []) {c0 : List PV} (hc : c0.length = 6) {hp : Nat → Option Obj} :
    c118j8 0 0 Q (.str t) (.int .i64 i) (.ptr 0 0) (.int .i64 (i + w.length)) (stL [.box c0] hp 1) := by
  have hl := h.len
  have h0 := h.1
  simp only [List.length_append] at hl
  have hs : IntKind.i64.wrap (i + w.length - i) = w.length := by rw [show i + (w.length : Int) - i = w.length by omega]; exact wrap64 (by omega) (by omega)
  have hk := keyW_pc ⟨w.toArray⟩
  unfold c118j8
  refine zv ?_
  rw [hs]
  refine cond_i (fun h => ?_) (fun _ => ?_)
  · have := of_decide_eq_true h; omega
  refine pQ_r (o_sl2 h0 (by omega) (by omega)) ?_
  rw [h.cut]
  refine zv ?_
  refine pCall_i hk rfl rfl rfl rfl ?_
  refine zv ?_
  cases hb : keyW ⟨w.toArray⟩
  · refine zv ?_
    unfold c118j38
    refine zv ?_
    rw [hb] at hQ
    exact fin_i (resL2 (o_cellR (o_loadAP rfl rfl))) rfl rfl hQ
  · refine zv ?_
    unfold c118j38
    refine zv ?_
    rw [hb] at hQ
    exact fin_i (resL2 (o_cellR (o_loadAP rfl rfl))) rfl rfl hQ
theorem w_l50 (ht : t.size ≤ 70000) (hl : NoLod l) {c0 : List PV} (hc : c0.length = 6) {e : Int} (h0 : 0 ≤ i) : ∀ (v : List UInt8) (k : Int), Bt t k (v ++ l) → i ≤ k → k + v.length = e → (∀ c ∈ v, lodI c.toNat = true) →
    (∀ hp, c118j8 0 0 Q (.str t) (.int .i64 i) (.ptr 0 0) (.int .i64 e) (stL [.box c0] hp 1)) → ∃ K, ∀ hp, c118l50 0 0 Q K (.str t) (.int .i64 i) (.ptr 0 0) (.int .i64 k) (stL [.box c0] hp 1) := by
  intro v
  induction v with
  | nil =>
    intro k hb hik hk hv hj
    have hk : k = e := by simpa using hk
    subst hk
    refine ⟨1, fun hp => ?_⟩
    show c118l50b _ _ _ _ _ _ _ _ _
    unfold c118l50b
    refine zv ?_
    cases h : decide (k < ↑t.size)
    · refine zv ?_
      exact hj _
    · have hlt := of_decide_eq_true h
      have hlen := hb.len
      cases l with
      | nil => simp at hlen; omega
      | cons c l =>
        have hx := Bt.get hb
        have hl' : lodI c.toNat = false := hl
        unfold lodI at hl'
        rw [Bool.or_eq_false_iff] at hl'
        have hb1 := letterI_pc c.toNat
        have hb2 := digitI_pc c.toNat
        rw [hl'.1] at hb1
        rw [hl'.2] at hb2
        refine zv ?_
        refine gq_t (o_is (by omega) hx) ?_
        refine zv ?_
        refine pCallL_i hb1 rfl rfl rfl rfl ?_
        refine zv ?_
        refine gq_f (o_is (by omega) hx) ?_
        refine zv ?_
        refine pCallL_i hb2 rfl rfl rfl rfl ?_
        refine zv ?_
        exact hj _
  | cons c v ih =>
    intro k hb hik hk hv hj
    have hlen := hb.len
    simp only [List.cons_append, List.length_cons, List.length_append] at hlen hk
    have hs : IntKind.i64.wrap (k + 1) = k + 1 := wrap64 (by omega) (by omega)
    have hx := Bt.get hb
    have hlod := hv c (by simp)
    obtain ⟨K, ih⟩ := ih (k + 1) hb.tail (by omega) (by omega) (fun c hc => hv c (by simp [hc])) hj
    refine ⟨K + 1, fun hp => ?_⟩
    show c118l50b _ _ _ _ _ _ _ _ _
    unfold c118l50b
    refine zv ?_
    cases h : decide (k < ↑t.size)
    · exact absurd (of_decide_eq_false h) (by omega)
    have hb1 := letterI_pc c.toNat
    have hb2 := digitI_pc c.toNat
    refine zv ?_
    refine gq_t (o_is (by omega) hx) ?_
    refine zv ?_
    refine pCallL_i hb1 rfl rfl rfl rfl ?_
    refine zv ?_
    cases h1 : letterI c.toNat
    · refine zv ?_
      refine gq_f (o_is (by omega) hx) ?_
      refine zv ?_
      refine pCallL_i hb2 rfl rfl rfl rfl ?_
      refine zv ?_
      cases h2 : digitI c.toNat
      · unfold lodI at hlod; rw [h1, h2] at hlod; cases hlod
      · refine zv ?_
        rw [hs]
        exact ih _
    · refine zv ?_
      rw [hs]
      exact ih _
structure Word (w : List UInt8) : Prop where
  head : ∃ c r, w = c :: r ∧ letterI c.toNat = true
  all : ∀ c ∈ w, lodI c.toNat = true
  len : w.length ≤ 40
theorem token_word (ht : t.size ≤ 70000) (hw : Word w) (hl : NoLod l) (h : Bt t i (w ++ l)) : PC Tryz.prog 118 [.str t, .int .i64 i] [] (.tuple [.agg [.int .i64 (bif keyW ⟨w.toArray⟩ then 3 else 1), .str ⟨w.toArray⟩, .int .i64 0, .int .i64 0, .int .i64 0, .int .i64 i], .int .i64 0]) [] := by
  have : PQ Tryz.prog 118 [.str t, .int .i64 i] [] (fun r c => r = .tuple [.agg [.int .i64 (bif keyW ⟨w.toArray⟩ then 3 else 1), .str ⟨w.toArray⟩, .int .i64 0, .int .i64 0, .int .i64 0, .int .i64 i], .int .i64 0] ∧ c = []) := by
    obtain ⟨c, r, rfl, hc⟩ := hw.head
    have hx := Bt.get h
    have hb1 := letterI_pc c.toNat
    rw [hc] at hb1
    obtain ⟨K, hK⟩ := w_l50 (Q := fun r' c' => r' = .tuple [.agg [.int .i64 (bif keyW ⟨(c :: r).toArray⟩ then 3 else 1), .str ⟨(c :: r).toArray⟩, .int .i64 0, .int .i64 0, .int .i64 0, .int .i64 i], .int .i64 0] ∧ c' = []) ht hl (c0 := [.int .i64 0, .str ⟨#[]⟩, .int .i64 0, .int .i64 0, .int .i64 0, .int .i64 0]) rfl h.1 (c :: r) i h (by omega) rfl hw.all fun hp => w_j8 ht h hw.len ⟨rfl, rfl⟩ rfl
    refine c118_pq 0 rfl _ _ ?_
    unfold c118
    refine zv ?_
    refine pQ_r (o_is h.1 hx) ?_
    refine pCall_i hb1 rfl rfl rfl rfl ?_
    refine zv ?_
    refine ⟨K, ?_⟩
    exact stL_to1 (c118l50 0 0 _ K _ _ _ _) rfl rfl fun hp' => hK hp'
  obtain ⟨r, c, hpc, rfl, rfl⟩ := this
  exact hpc
end
end Go.Vi
namespace Go.Vi
open Go.Proofs
theorem numE_ok : numsE Tryz.prog (fun _ => 0) (fun _ _ => none) 200 60 143 [.str ⟨#[48]⟩, .int .i64 2] = some [.int .i64 0, .bool true] := by kernel_rfl
theorem number_0 : PC Tryz.prog 143 [.str ⟨#[48]⟩, .int .i64 2] [] (.tuple [.int .i64 0, .bool true]) [] :=
  pc_of_sw (numsE_sw (fun _ _ _ h => by cases h) numE_ok) fun r s h => by rw [h]; rfl
def Sign (c d : UInt8) : Prop := c = 40 ∨ c = 41 ∨ c = 44 ∨ c = 58 ∨ c = 59 ∨ ((c = 61 ∨ c = 62) ∧ d = 32)
attribute [local irreducible] qAsg qPick qBox qBuild qBsl qLoad1 qLoadN qStore qNil qBin qUn qConv qSlS qSlL qFA qF1 qFN qIA qIS qEx qLenS qLenL qApp pQ pQL pGL pCall pCallL condP optP pEnd OpS Int.instDecidableEq Int.decEq instBEqOfDecidableEq
section
variable {t : ByteArray} {i : Int} {c d : UInt8} {w l : List UInt8}
theorem sign_1 (ht : t.size ≤ 70000) (hc : Sign c d) (h : Bt t i (c :: d :: l)) : PC Tryz.prog 144 [.str t, .int .i64 i] [] (.int .i64 1) [] := by
  have hlen := h.len
  have h0 := h.1
  simp only [List.length_cons] at hlen
  have hs : IntKind.i64.wrap (i + 2) = i + 2 := wrap64 (by omega) (by omega)
  have hx := h.get
  have hcut := Bt.cut (w := [c, d]) h
  have hcut : t.extract i.toNat (i + 2).toNat = ⟨#[c, d]⟩ := hcut
  have : PQ Tryz.prog 144 [.str t, .int .i64 i] [] (fun r c => r = .int .i64 1 ∧ c = []) := by
    have e6 : ∀ (x : Bool) (s : St), x = true → getBoxes s (List.range 0) = some [] → c144j6 0 0 (fun r c => r = .int .i64 1 ∧ c = []) (.bool x) s := fun x s hx hs => by
      subst hx
      unfold c144j6
      refine ct ?_
      exact fin_i rfl rfl hs ⟨rfl, rfl⟩
    refine c144_pq 0 rfl _ _ ?_
    unfold c144
    refine zv ?_
    rw [hs]
    refine cond_i (fun _ => ?_) (fun h => absurd (of_decide_eq_false h) (by omega))
    refine zv ?_
    rw [hs]
    refine pQ_r (o_sl2 h0 (by omega) (by omega)) ?_
    rw [hcut]
    rcases hc with rfl | rfl | rfl | rfl | rfl | ⟨rfl | rfl, rfl⟩
    all_goals
      repeat' first
        | exact e6 _ _ h rfl
        | (refine cond_i (fun h => ?_) (fun h => ?_))
        | exact tnot h (by kernel_rfl)
        | exact fin_i rfl rfl rfl ⟨rfl, rfl⟩
        | (simp at h; done)
        | (apply pQ_r; · exact o_bin rfl)
        | (apply pQ_r; · exact o_asgB)
        | (apply pQ_r; · exact o_is h0 hx)
        | (unfold c144j87)
        | (unfold c144j0)
  obtain ⟨r, c, hpc, rfl, rfl⟩ := this
  exact hpc
end
end Go.Vi
namespace Go.Vi
open Go.Proofs
theorem sign_let {c d : UInt8} (hc : Sign c d) : letterI c.toNat = false ∧ digitI c.toNat = false := by
  rcases hc with rfl | rfl | rfl | rfl | rfl | ⟨rfl | rfl, rfl⟩ <;> exact ⟨by kernel_rfl, by kernel_rfl⟩
theorem s48 : letterI (UInt8.toNat 48) = false := by kernel_rfl
theorem s48d : digitI (UInt8.toNat 48) = true := by kernel_rfl
theorem s105 : letterI (UInt8.toNat 105) = true := by kernel_rfl
theorem s105d : digitI (UInt8.toNat 105) = false := by kernel_rfl
theorem s56 : letterI (UInt8.toNat 56) = false := by kernel_rfl
theorem s56d : digitI (UInt8.toNat 56) = true := by kernel_rfl
theorem s59 : letterI (UInt8.toNat 59) = false := by kernel_rfl
theorem s59d : digitI (UInt8.toNat 59) = false := by kernel_rfl
attribute [local irreducible] qAsg qPick qBox qBuild qBsl qLoad1 qLoadN qStore qNil qBin qUn qConv qSlS qSlL qFA qF1 qFN qIA qIS qEx qLenS qLenL qApp pQ pQL pGL pCall pCallL condP optP pEnd OpS Int.instDecidableEq Int.decEq instBEqOfDecidableEq
attribute [local irreducible] c118j38 c118j8 c118j104 c118j92 c106j17 c106j28
section
variable {t : ByteArray} {i : Int} {c d : UInt8} {w l : List UInt8}
theorem token_sign (ht : t.size ≤ 70000) (hc : Sign c d) (h : Bt t i (c :: d :: l)) : PC Tryz.prog 118 [.str t, .int .i64 i] [] (.tuple [.agg [.int .i64 4, .str ⟨#[c]⟩, .int .i64 0, .int .i64 0, .int .i64 0, .int .i64 i], .int .i64 0]) [] := by
  have hlen := h.len
  have h0 := h.1
  simp only [List.length_cons] at hlen
  have hx := h.get
  have hb1 := letterI_pc c.toNat
  have hb2 := digitI_pc c.toNat
  rw [(sign_let hc).1] at hb1
  rw [(sign_let hc).2] at hb2
  have hg := sign_1 ht hc h
  have hs : IntKind.i64.wrap (i + 1) = i + 1 := wrap64 (by omega) (by omega)
  have hcut : t.extract i.toNat (i + 1).toNat = ⟨#[c]⟩ := Bt.cut (w := [c]) h
  have : PQ Tryz.prog 118 [.str t, .int .i64 i] [] (fun r c' => r = .tuple [.agg [.int .i64 4, .str ⟨#[c]⟩, .int .i64 0, .int .i64 0, .int .i64 0, .int .i64 i], .int .i64 0] ∧ c' = []) := by
    refine c118_pq 0 rfl _ _ ?_
    unfold c118
    refine zv ?_
    refine pQ_r (o_is h0 hx) ?_
    refine pCall_i hb1 rfl rfl rfl rfl ?_
    refine zv ?_
    refine pQ_r (o_is h0 hx) ?_
    refine pCall_i hb2 rfl rfl rfl rfl ?_
    refine zv ?_
    refine pCall_i hg rfl rfl rfl rfl ?_
    refine zv ?_
    simp only [Int.reduceBEq]
    refine zv ?_
    rw [hs]
    refine pQ_r (o_sl2 h0 (by omega) (by omega)) ?_
    rw [hcut]
    refine zv ?_
    exact fin_i (resL2 (o_cellR (o_loadAP rfl rfl))) rfl rfl ⟨rfl, rfl⟩
  obtain ⟨r, c', hpc, rfl, rfl⟩ := this
  exact hpc
theorem token_lit (ht : t.size ≤ 70000) (h : Bt t i (48 :: 105 :: 56 :: 59 :: l)) : PC Tryz.prog 118 [.str t, .int .i64 i] [] (.tuple [.agg [.int .i64 2, .str ⟨#[48, 105, 56]⟩, .int .i64 0, .int .i64 2, .int .i64 0, .int .i64 i], .int .i64 0]) [] := by
  have hlen := h.len
  have h0 := h.1
  simp only [List.length_cons] at hlen
  have g1 := h.tail
  have g2 := g1.tail
  have g3 := g2.tail
  rw [show i + 1 + 1 = i + 2 by omega] at g2 g3
  rw [show i + 2 + 1 = i + 3 by omega] at g3
  have x0 := h.get
  have x1 := g1.get
  have x2 := g2.get
  have x3 := g3.get
  have hb1 := letterI_pc (UInt8.toNat 48); rw [s48] at hb1
  have hb2 := digitI_pc (UInt8.toNat 48); rw [s48d] at hb2
  have hc1 := letterI_pc (UInt8.toNat 105); rw [s105] at hc1
  have hc2 := digitI_pc (UInt8.toNat 105); rw [s105d] at hc2
  have hd1 := letterI_pc (UInt8.toNat 56); rw [s56] at hd1
  have hd2 := digitI_pc (UInt8.toNat 56); rw [s56d] at hd2
  have he1 := letterI_pc (UInt8.toNat 59); rw [s59] at he1
  have he2 := digitI_pc (UInt8.toNat 59); rw [s59d] at he2
  have hs : IntKind.i64.wrap (i + 1) = i + 1 := wrap64 (by omega) (by omega)
  have hs2 : IntKind.i64.wrap (i + 1 + 1) = i + 2 := by rw [wrap64 (by omega) (by omega)]; omega
  have hs3 : IntKind.i64.wrap (i + 2 + 1) = i + 3 := by rw [wrap64 (by omega) (by omega)]; omega
  have u1 : t.extract i.toNat (i + 1).toNat = ⟨#[48]⟩ := Bt.cut (w := [48]) h
  have u2 : t.extract (i + 1).toNat (i + 3).toNat = ⟨#[105, 56]⟩ := by
    have := Bt.cut (w := [105, 56]) g1
    rwa [show i + 1 + (([105, 56] : List UInt8).length : Int) = i + 3 by simp; omega] at this
  have u3 : t.extract i.toNat (i + 3).toNat = ⟨#[48, 105, 56]⟩ := Bt.cut (w := [48, 105, 56]) h
  have hk := kindOf_pc ⟨#[105, 56]⟩
  rw [show kindOf ⟨#[105, 56]⟩ = 2 by kernel_rfl] at hk
  have : PQ Tryz.prog 118 [.str t, .int .i64 i] [] (fun r c' => r = .tuple [.agg [.int .i64 2, .str ⟨#[48, 105, 56]⟩, .int .i64 0, .int .i64 2, .int .i64 0, .int .i64 i], .int .i64 0] ∧ c' = []) := by
    have A3 : ∃ K, ∀ hp, c118l154 0 0 (fun r c' => r = .tuple [.agg [.int .i64 2, .str ⟨#[48, 105, 56]⟩, .int .i64 0, .int .i64 2, .int .i64 0, .int .i64 i], .int .i64 0] ∧ c' = []) K (.str t) (.int .i64 i) (.ptr 0 0) (.int .i64 (i + 1)) (.str ⟨#[48]⟩) (.int .i64 (i + 3)) (stL [.box [.int .i64 0, .str ⟨#[]⟩, .int .i64 0, .int .i64 0, .int .i64 0, .int .i64 0]] hp 1) := by
      refine ⟨1, fun hp => ?_⟩
      show c118l154b _ _ _ _ _ _ _ _ _ _ _
      unfold c118l154b
      refine zv ?_
      cases h : decide (i + 3 < ↑t.size)
      · exact absurd (of_decide_eq_false h) (by omega)
      refine zv ?_
      refine gq_t (o_is (by omega) x3) ?_
      refine zv ?_
      refine pCallL_i he1 rfl rfl rfl rfl ?_
      refine zv ?_
      refine gq_f (o_is (by omega) x3) ?_
      refine zv ?_
      refine pCallL_i he2 rfl rfl rfl rfl ?_
      refine zv ?_
      unfold c118j104
      refine pQ_r (o_sl2 (by omega) (by omega) (by omega)) ?_
      rw [u2]
      refine pCall_i hk rfl rfl rfl rfl ?_
      refine zv ?_
      cases h : decide (i + 3 > i + 1)
      · exact absurd (of_decide_eq_false h) (by omega)
      refine zv ?_
      refine pCall_i number_0 rfl rfl rfl rfl ?_
      refine zv ?_
      refine pQ_r (o_sl2 h0 (by omega) (by omega)) ?_
      rw [u3]
      refine zv ?_
      exact fin_i (resL2 (o_cellR (o_loadAP rfl rfl))) rfl rfl ⟨rfl, rfl⟩
    obtain ⟨K3, hK3⟩ := A3
    have A2 : ∃ K, ∀ hp, c118l154 0 0 (fun r c' => r = .tuple [.agg [.int .i64 2, .str ⟨#[48, 105, 56]⟩, .int .i64 0, .int .i64 2, .int .i64 0, .int .i64 i], .int .i64 0] ∧ c' = []) K (.str t) (.int .i64 i) (.ptr 0 0) (.int .i64 (i + 1)) (.str ⟨#[48]⟩) (.int .i64 (i + 2)) (stL [.box [.int .i64 0, .str ⟨#[]⟩, .int .i64 0, .int .i64 0, .int .i64 0, .int .i64 0]] hp 1) := by
      refine ⟨K3 + 1, fun hp => ?_⟩
      show c118l154b _ _ _ _ _ _ _ _ _ _ _
      unfold c118l154b
      refine zv ?_
      cases h : decide (i + 2 < ↑t.size)
      · exact absurd (of_decide_eq_false h) (by omega)
      refine zv ?_
      refine gq_t (o_is (by omega) x2) ?_
      refine zv ?_
      refine pCallL_i hd1 rfl rfl rfl rfl ?_
      refine zv ?_
      refine gq_f (o_is (by omega) x2) ?_
      refine zv ?_
      refine pCallL_i hd2 rfl rfl rfl rfl ?_
      refine zv ?_
      rw [hs3]
      exact stL_to1 (c118l154 0 0 _ K3 _ _ _ _ _ _) rfl rfl fun hp' => hK3 hp'
    obtain ⟨K2, hK2⟩ := A2
    have A1 : ∃ K, ∀ hp, c118l154 0 0 (fun r c' => r = .tuple [.agg [.int .i64 2, .str ⟨#[48, 105, 56]⟩, .int .i64 0, .int .i64 2, .int .i64 0, .int .i64 i], .int .i64 0] ∧ c' = []) K (.str t) (.int .i64 i) (.ptr 0 0) (.int .i64 (i + 1)) (.str ⟨#[48]⟩) (.int .i64 (i + 1)) (stL [.box [.int .i64 0, .str ⟨#[]⟩, .int .i64 0, .int .i64 0, .int .i64 0, .int .i64 0]] hp 1) := by
      refine ⟨K2 + 1, fun hp => ?_⟩
      show c118l154b _ _ _ _ _ _ _ _ _ _ _
      unfold c118l154b
      refine zv ?_
      cases h : decide (i + 1 < ↑t.size)
      · exact absurd (of_decide_eq_false h) (by omega)
      refine zv ?_
      refine gq_t (o_is (by omega) x1) ?_
      refine zv ?_
      refine pCallL_i hc1 rfl rfl rfl rfl ?_
      refine zv ?_
      rw [hs2]
      exact stL_to1 (c118l154 0 0 _ K2 _ _ _ _ _ _) rfl rfl fun hp' => hK2 hp'
    obtain ⟨K1, hK1⟩ := A1
    have B1 : ∃ K, ∀ hp, c118l194 0 0 (fun r c' => r = .tuple [.agg [.int .i64 2, .str ⟨#[48, 105, 56]⟩, .int .i64 0, .int .i64 2, .int .i64 0, .int .i64 i], .int .i64 0] ∧ c' = []) K (.str t) (.int .i64 i) (.ptr 0 0) (.int .i64 (i + 1)) (stL [.box [.int .i64 0, .str ⟨#[]⟩, .int .i64 0, .int .i64 0, .int .i64 0, .int .i64 0]] hp 1) := by
      refine ⟨1, fun hp => ?_⟩
      show c118l194b _ _ _ _ _ _ _ _ _
      unfold c118l194b
      refine zv ?_
      cases h : decide (i + 1 < ↑t.size)
      · exact absurd (of_decide_eq_false h) (by omega)
      refine zv ?_
      refine gq_t (o_is (by omega) x1) ?_
      refine zv ?_
      refine pCallL_i hc2 rfl rfl rfl rfl ?_
      refine zv ?_
      unfold c118j92
      refine pQ_r (o_sl2 h0 (by omega) (by omega)) ?_
      rw [u1]
      refine zv ?_
      refine ⟨K1, ?_⟩
      exact stL_to1 (c118l154 0 0 _ K1 _ _ _ _ _ _) rfl rfl fun hp' => hK1 hp'
    obtain ⟨M1, hM1⟩ := B1
    have B0 : ∃ K, ∀ hp, c118l194 0 0 (fun r c' => r = .tuple [.agg [.int .i64 2, .str ⟨#[48, 105, 56]⟩, .int .i64 0, .int .i64 2, .int .i64 0, .int .i64 i], .int .i64 0] ∧ c' = []) K (.str t) (.int .i64 i) (.ptr 0 0) (.int .i64 (i)) (stL [.box [.int .i64 0, .str ⟨#[]⟩, .int .i64 0, .int .i64 0, .int .i64 0, .int .i64 0]] hp 1) := by
      refine ⟨M1 + 1, fun hp => ?_⟩
      show c118l194b _ _ _ _ _ _ _ _ _
      unfold c118l194b
      refine zv ?_
      cases h : decide (i < ↑t.size)
      · exact absurd (of_decide_eq_false h) (by omega)
      refine zv ?_
      refine gq_t (o_is (by omega) x0) ?_
      refine zv ?_
      refine pCallL_i hb2 rfl rfl rfl rfl ?_
      refine zv ?_
      rw [hs]
      exact stL_to1 (c118l194 0 0 _ M1 _ _ _ _) rfl rfl fun hp' => hM1 hp'
    obtain ⟨M0, hM0⟩ := B0
    refine c118_pq 0 rfl _ _ ?_
    unfold c118
    refine zv ?_
    refine pQ_r (o_is h0 x0) ?_
    refine pCall_i hb1 rfl rfl rfl rfl ?_
    refine zv ?_
    refine pQ_r (o_is h0 x0) ?_
    refine pCall_i hb2 rfl rfl rfl rfl ?_
    refine zv ?_
    refine ⟨M0, ?_⟩
    exact stL_to1 (c118l194 0 0 _ M0 _ _ _ _) rfl rfl fun hp' => hM0 hp'
  obtain ⟨r, c', hpc, rfl, rfl⟩ := this
  exact hpc
end
end Go.Vi
namespace Go.Vi
open Go.Proofs
structure Tx where
  x : Lx
  sp : Bool
def spB (sp : Bool) (l : List UInt8) : List UInt8 := bif sp then 32 :: l else l
def txB : List Tx → List UInt8
  | [] => []
  | a :: r => a.x.text.data.toList ++ spB a.sp (txB r)
def wordX (w : List UInt8) : Lx := ⟨bif keyW ⟨w.toArray⟩ then 3 else 1, ⟨w.toArray⟩, 0, 0⟩
inductive Good : List Tx → Prop
  | nil : Good []
  | word (w : List UInt8) (sp : Bool) (r : List Tx) : Word w → NoLod (spB sp (txB r)) → Good r → Good (⟨wordX w, sp⟩ :: r)
  | sign (c d : UInt8) (sp : Bool) (r : List Tx) (l : List UInt8) : spB sp (txB r) = d :: l → Sign c d → Good r → Good (⟨sg c, sp⟩ :: r)
  | lit (r : List Tx) (l : List UInt8) : txB r = 59 :: l → Good r → Good (⟨lit0, false⟩ :: r)
def Solid (c : UInt8) : Prop := c.toNat ≠ 32 ∧ c.toNat ≠ 9 ∧ c.toNat ≠ 10 ∧ c.toNat ≠ 13 ∧ c.toNat ≠ 45
theorem solid_let {c : UInt8} (h : letterI c.toNat = true) : Solid c := by
  unfold letterI at h
  simp only [Bool.or_eq_true, Bool.and_eq_true, decide_eq_true_eq, beq_iff_eq] at h
  unfold Solid; omega
theorem solid_sign {c d : UInt8} (h : Sign c d) : Solid c := by
  rcases h with rfl | rfl | rfl | rfl | rfl | ⟨rfl | rfl, rfl⟩ <;> exact ⟨by decide, by decide, by decide, by decide, by decide⟩
def Ahead : List UInt8 → Prop
  | [] => True
  | c :: _ => Solid c
theorem Good.ahead {r : List Tx} (h : Good r) : Ahead (txB r) := by
  cases h with
  | nil => trivial
  | word w sp r hw _ _ =>
    obtain ⟨c, v, rfl, hc⟩ := hw.head
    exact solid_let hc
  | sign c d sp r l _ hs _ => exact solid_sign hs
  | lit r l _ _ => exact (show Solid 48 from ⟨by decide, by decide, by decide, by decide, by decide⟩)
attribute [local irreducible] qAsg qPick qBox qBuild qBsl qLoad1 qLoadN qStore qNil qBin qUn qConv qSlS qSlL qFA qF1 qFN qIA qIS qEx qLenS qLenL qApp pQ pQL pGL pCall pCallL condP optP pEnd OpS Int.instDecidableEq Int.decEq instBEqOfDecidableEq
attribute [local irreducible] c106j17 c106j28
section
variable {t : ByteArray} {i : Int} {l : List UInt8}
theorem skip_0 (ht : t.size ≤ 70000) (h : Bt t i l) (ha : Ahead l) : ∀ (e n : Nat) (Q : PV → List (List PV) → Prop) (w11 : PV → PV → PV → St → Prop) (v : PV) (s : St), c106j17 e n Q w11 (.str t) v (.int .i64 i) s → c106l96 e n Q w11 1 (.str t) v (.int .i64 i) s := by
  intro e n Q w11 v s hw
  have hlen := h.len
  have h0 := h.1
  show c106l96b _ _ _ _ _ _ _ _ _
  unfold c106l96b
  refine zv ?_
  cases l with
  | nil =>
    simp only [List.length_nil] at hlen
    refine cond_i (fun h => absurd (of_decide_eq_true h) (by omega)) (fun _ => hw)
  | cons c l =>
    simp only [List.length_cons] at hlen
    have hx := h.get
    obtain ⟨n1, n2, n3, n4, n5⟩ := ha
    refine cond_i (fun _ => ?_) (fun h => absurd (of_decide_eq_false h) (by omega))
    refine pQ_r (o_is h0 hx) ?_
    refine zv ?_
    cases c1 : ((↑c.toNat : Int) == 32)
    case true => simp at c1; omega
    refine zv ?_
    refine gq_f (o_is h0 hx) ?_
    refine zv ?_
    cases c2 : ((↑c.toNat : Int) == 9)
    case true => simp at c2; omega
    refine zv ?_
    refine gq_f (o_is h0 hx) ?_
    refine zv ?_
    cases c3 : ((↑c.toNat : Int) == 10)
    case true => simp at c3; omega
    refine zv ?_
    refine gq_f (o_is h0 hx) ?_
    refine zv ?_
    refine cond_i (fun h => ?_) (fun _ => ?_)
    · simp at h; omega
    refine pQ_r (o_is h0 hx) ?_
    refine zv ?_
    cases c4 : ((↑c.toNat : Int) == 45)
    case true => simp at c4; omega
    refine zv ?_
    exact hw
theorem skip_1 (ht : t.size ≤ 70000) (h : Bt t i (32 :: l)) {K : Nat} (hK : ∀ (e n : Nat) (Q : PV → List (List PV) → Prop) (w11 : PV → PV → PV → St → Prop) (v : PV) (s : St), c106j17 e n Q w11 (.str t) v (.int .i64 (i + 1)) s → c106l96 e n Q w11 K (.str t) v (.int .i64 (i + 1)) s) :
    ∀ (e n : Nat) (Q : PV → List (List PV) → Prop) (w11 : PV → PV → PV → St → Prop) (v : PV) (s : St), c106j17 e n Q w11 (.str t) v (.int .i64 (i + 1)) s → c106l96 e n Q w11 (K + 1) (.str t) v (.int .i64 i) s := by
  intro e n Q w11 v s hw
  have hlen := h.len
  have h0 := h.1
  have hx := h.get
  simp only [List.length_cons] at hlen
  have hs : IntKind.i64.wrap (i + 1) = i + 1 := wrap64 (by omega) (by omega)
  show c106l96b _ _ _ _ _ _ _ _ _
  unfold c106l96b
  refine zv ?_
  refine cond_i (fun _ => ?_) (fun h => absurd (of_decide_eq_false h) (by omega))
  refine pQ_r (o_is h0 hx) ?_
  refine zv ?_
  cases c1 : ((↑(UInt8.toNat 32) : Int) == 32)
  case false => simp at c1
  refine zv ?_
  rw [hs]
  exact hK e n Q w11 v s hw
theorem skip_x (ht : t.size ≤ 70000) {sp : Bool} (h : Bt t i (spB sp l)) (ha : Ahead l) : ∃ K i', Bt t i' l ∧ ∀ (e n : Nat) (Q : PV → List (List PV) → Prop) (w11 : PV → PV → PV → St → Prop) (v : PV) (s : St), c106j17 e n Q w11 (.str t) v (.int .i64 i') s → c106l96 e n Q w11 K (.str t) v (.int .i64 i) s := by
  cases sp
  · exact ⟨1, i, h, skip_0 ht h ha⟩
  · exact ⟨1 + 1, i + 1, Bt.tail h, skip_1 ht h (skip_0 ht (Bt.tail h) ha)⟩
theorem token_good (ht : t.size ≤ 70000) {a : Tx} {r : List Tx} (hg : Good (a :: r)) (h : Bt t i (txB (a :: r))) :
    PC Tryz.prog 118 [.str t, .int .i64 i] [] (.tuple [.agg [.int .i64 a.x.kind, .str a.x.text, .int .i64 a.x.n, .int .i64 a.x.tk, .int .i64 0, .int .i64 i], .int .i64 0]) [] ∧ a.x.kind ≠ 5 ∧ 0 ≤ a.x.tk ∧ a.x.tk ≤ 9 ∧ 0 < a.x.text.size ∧ Good r := by
  cases hg with
  | word w sp r hw hn hr =>
    refine ⟨token_word ht hw hn h, ?_, by simp [wordX], by simp [wordX], ?_, hr⟩
    · unfold wordX; cases keyW ⟨w.toArray⟩ <;> simp
    · obtain ⟨c, v, rfl, _⟩ := hw.head; show 0 < (c :: v).toArray.size; simp
  | sign c d sp r l he hs hr =>
    have h' : Bt t i (c :: d :: l) := by
      have : txB (⟨sg c, sp⟩ :: r) = c :: spB sp (txB r) := rfl
      rw [this, he] at h; exact h
    exact ⟨token_sign ht hs h', by simp [sg], by simp [sg], by simp [sg], by simp [sg, ByteArray.size], hr⟩
  | lit r l he hr =>
    have h' : Bt t i (48 :: 105 :: 56 :: 59 :: l) := by
      have : txB (⟨lit0, false⟩ :: r) = 48 :: 105 :: 56 :: txB r := rfl
      rw [this, he] at h; exact h
    exact ⟨token_lit ht h', by simp [lit0], by simp [lit0], by simp [lit0], by simp [lit0, ByteArray.size], hr⟩
def Fine (l : List PT) : Prop := ∀ x ∈ l, x.kind ≠ 5 ∧ 0 ≤ x.tk ∧ x.tk ≤ 9 ∧ x.tl = 0
theorem tok_loop (ht : t.size ≤ 65536) {Q : PV → List (List PV) → Prop} : ∀ (r : List Tx) (sp : Bool) (i : Int) (l : List PT), Good r → Bt t i (spB sp (txB r)) → l.length + r.length < 20000 → Fine l →
    (∀ (m : List PT) (z : PT), Fine (l ++ m) → m.map PT.lx = r.map Tx.x → z.lx = lEnd → z.tl = 0 → Q (.tuple [.lst ((l ++ m ++ [z]).map PT.row), .int .i64 0, .int .i64 0]) []) →
    ∀ {eo : Nat}, (l.map PT.row = [] ∨ eo = 6) → ∃ k, ∀ (hp : Nat → Option Obj) (o0 : Obj) (nx : Nat), c106l10 0 0 Q k (.str t) (.acc 1 (l.map PT.row)) (.int .i64 i) (stL [o0, .own (l.map PT.row).length eo] hp (nx + 2)) := by
  intro r
  induction r with
  | nil =>
    intro sp i l hg hb hlen hw hQ eo heo
    obtain ⟨K, i', hb', g3⟩ := skip_x (by omega) hb hg.ahead
    have hl := hb'.len
    simp only [txB, List.length_nil] at hl
    have hll : (l.map PT.row).length = l.length := List.length_map _
    simp only [List.length_nil] at hlen
    have hf : Go.Ab.sizeFits ((l.map PT.row).length + 1) 56 = true := fits_small (by omega) (by omega)
    have hrow : (l ++ [PT.mk 5 ⟨#[]⟩ 0 0 0 i']).map PT.row = l.map PT.row ++ [[.int .i64 5, .str ⟨#[]⟩, .int .i64 0, .int .i64 0, .int .i64 0, .int .i64 i']] := by rw [List.map_append]; rfl
    refine ⟨1, fun hp o0 nx => ?_⟩
    show c106l10b _ _ _ _ _ _ _ _
    unfold c106l10b
    refine ⟨K, g3 _ _ _ _ _ _ ?_⟩
    unfold c106j17
    refine zv ?_
    refine cond_i (fun h => absurd (of_decide_eq_true h) (by omega)) (fun h => ?_)
    unfold c106j28
    refine zv ?_
    refine cond_i (fun h => absurd (of_decide_eq_true h) (by omega)) (fun h => ?_)
    refine zv ?_
    refine pQ_r (o_app rfl rfl hf (all_len pt_rows_len) zh (heo.imp (fun h => by rw [h]; rfl) (fun h => h.symm))) ?_
    refine zv ?_
    refine cond_i (fun _ => ?_) (fun h => by simp at h)
    refine zv ?_
    rw [← show _ = List.map PT.row l ++ [[.int .i64 5, .str ⟨#[]⟩, .int .i64 0, .int .i64 0, .int .i64 0, .int .i64 i']] from hrow]
    have := hQ [] (PT.mk 5 ⟨#[]⟩ 0 0 0 i') (by rwa [List.append_nil]) rfl rfl rfl
    rw [List.append_nil] at this
    exact fin_i resL3 rfl rfl this
  | cons a r ih =>
    intro sp i l hg hb hlen hw hQ eo heo
    obtain ⟨K, i', hb', g3⟩ := skip_x (by omega) hb hg.ahead
    have hl := hb'.len
    have h0 := hb'.1
    obtain ⟨hpc, k5, ktk, ktk9, ksz, hr⟩ := token_good (by omega) hg hb'
    have hll : (l.map PT.row).length = l.length := List.length_map _
    simp only [List.length_cons] at hlen
    have hsz : a.x.text.data.toList.length = a.x.text.size := rfl
    simp only [txB, List.length_append, hsz] at hl
    have hf : Go.Ab.sizeFits ((l.map PT.row).length + 1) 56 = true := fits_small (by omega) (by omega)
    have hrow : (l ++ [PT.mk a.x.kind a.x.text a.x.n a.x.tk 0 i']).map PT.row = l.map PT.row ++ [[.int .i64 a.x.kind, .str a.x.text, .int .i64 a.x.n, .int .i64 a.x.tk, .int .i64 0, .int .i64 i']] := by rw [List.map_append]; rfl
    have hs : IntKind.i64.wrap (i' + a.x.text.size) = i' + a.x.text.size := wrap64 (by omega) (by omega)
    have hb2 : Bt t (i' + a.x.text.size) (spB a.sp (txB r)) := Bt.skip (w := a.x.text.data.toList) hb'
    obtain ⟨k, hk⟩ := ih a.sp (i' + a.x.text.size) (l ++ [PT.mk a.x.kind a.x.text a.x.n a.x.tk 0 i']) hr hb2 (by simp; omega) (fun x hx => by
      rcases List.mem_append.1 hx with hx | hx
      · exact hw x hx
      · rw [List.mem_singleton.1 hx]; exact ⟨k5, ktk, ktk9, rfl⟩) (fun m z h1 h2 h3 h4 => by
      have := hQ (PT.mk a.x.kind a.x.text a.x.n a.x.tk 0 i' :: m) z (by rw [List.append_assoc] at h1; exact h1) (by rw [List.map_cons, h2]; rfl) h3 h4
      rw [List.append_assoc l] ; exact this) (eo := 6) (.inr rfl)
    refine ⟨k + 1, fun hp o0 nx => ?_⟩
    show c106l10b _ _ _ _ _ _ _ _
    unfold c106l10b
    refine ⟨K, g3 _ _ _ _ _ _ ?_⟩
    unfold c106j17
    refine zv ?_
    refine cond_i (fun _ => ?_) (fun h => absurd (of_decide_eq_false h) (by omega))
    refine pCall_i hpc rfl rfl rfl rfl ?_
    refine zv ?_
    rw [ne00]
    refine zv ?_
    unfold c106j28
    refine zv ?_
    refine cond_i (fun h => absurd (of_decide_eq_true h) (by omega)) (fun h => ?_)
    refine zv ?_
    refine pQ_r (o_app rfl rfl hf (all_len pt_rows_len) zh (heo.imp (fun h => by rw [h]; rfl) (fun h => h.symm))) ?_
    refine zv ?_
    refine cond_i (fun h => absurd (by simpa using h) k5) (fun _ => ?_)
    refine zv ?_
    rw [← hrow, hs]
    exact stL_to2 (c106l10 0 0 _ k _ _ _) (o0 := o0) zh (by rw [hrow, List.length_append]; rfl) (by rfl) fun hp' => hk hp' _ (nx + 2)
theorem tokens_of (ht : t.size ≤ 65536) {r : List Tx} (hg : Good r) (hb : t.data.toList = txB r) (hr : r.length < 20000) :
    ∃ L : List PT, Toks L ∧ L.map PT.lx = r.map Tx.x ++ [lEnd] ∧ PC Tryz.prog 106 [.str t] [] (.tuple [.lst (L.map PT.row), .int .i64 0, .int .i64 0]) [] := by
  have : PQ Tryz.prog 106 [.str t] [] (fun v c => c = [] ∧ ∃ L : List PT, Toks L ∧ L.map PT.lx = r.map Tx.x ++ [lEnd] ∧ v = .tuple [.lst (L.map PT.row), .int .i64 0, .int .i64 0]) := by
    obtain ⟨k, hk⟩ := tok_loop (t := t) (Q := fun v c => c = [] ∧ ∃ L : List PT, Toks L ∧ L.map PT.lx = r.map Tx.x ++ [lEnd] ∧ v = .tuple [.lst (L.map PT.row), .int .i64 0, .int .i64 0]) ht r false 0 [] hg ⟨by omega, by omega, hb⟩ (by simpa using hr) (fun x hx => by cases hx)
      (fun m z h1 h2 h3 h4 => ⟨rfl, m ++ [z], toks_mk (by have := congrArg List.length h2; simp at this; omega) h1 (congrArg Lx.kind h3) ⟨by rw [show z.tk = 0 from congrArg Lx.tk h3]; omega, by rw [show z.tk = 0 from congrArg Lx.tk h3]; omega, h4⟩, by rw [List.map_append, h2]; show _ ++ [z.lx] = _; rw [h3], rfl⟩) (eo := 0) (.inl rfl)
    refine c106_pq 0 rfl _ ?_
    unfold c106
    refine zv ?_
    refine cond_i (fun h => absurd (of_decide_eq_true h) (by omega)) (fun h => ?_)
    refine zv ?_
    refine ⟨k, ?_⟩
    exact stL_to2 (c106l10 0 0 _ k _ _ _) rfl rfl rfl fun hp' => hk hp' _ 0
  obtain ⟨v, c, hpc, rfl, L, h1, h2, rfl⟩ := this
  exact ⟨L, h1, h2, hpc⟩
end
end Go.Vi
