/- Part of the proof of ClocksDeep (own work). -/
import Derived.Test.YtlonlfiaclacdaaGreatF2
import Derived.Test.YtlonlfiaclacdaaGreatL2
import Derived.Test.YtlonlfiaclacdaaGreatG1
set_option linter.all false
set_option maxRecDepth 100000
namespace Go.Vi
open Go.Proofs
structure Nm (w : ByteArray) : Prop where
  word : Word w.data.toList
  key : keyW w = false
structure Kw (w : ByteArray) : Prop where
  word : Word w.data.toList
  key : keyW w = true
theorem ba_eta (w : ByteArray) : (⟨w.data.toList.toArray⟩ : ByteArray) = w := by cases w; rfl
theorem Nm.x {w : ByteArray} (h : Nm w) : wordX w.data.toList = nm w := by
  unfold wordX nm; rw [ba_eta, h.key]; rfl
theorem Kw.x {w : ByteArray} (h : Kw w) : wordX w.data.toList = kw w := by
  unfold wordX kw; rw [ba_eta, h.key]; rfl
theorem good_nm {w : ByteArray} {sp : Bool} {r : List Tx} (h : Nm w) (hn : NoLod (spB sp (txB r))) (hr : Good r) : Good (⟨nm w, sp⟩ :: r) := by
  have := Good.word w.data.toList sp r h.word hn hr
  rwa [h.x] at this
theorem good_kw {w : ByteArray} {sp : Bool} {r : List Tx} (h : Kw w) (hn : NoLod (spB sp (txB r))) (hr : Good r) : Good (⟨kw w, sp⟩ :: r) := by
  have := Good.word w.data.toList sp r h.word hn hr
  rwa [h.x] at this
theorem nl_sp {l : List UInt8} : NoLod (spB true l) := by show lodI (UInt8.toNat 32) = false; kernel_rfl
theorem wd {w : List UInt8} (h : (match w with | [] => false | c :: _ => letterI c.toNat) = true) (h2 : w.all (fun c => lodI c.toNat) = true) (h3 : w.length ≤ 40) : Word w := by
  refine ⟨?_, fun c hc => List.all_eq_true.1 h2 c hc, h3⟩
  cases w with
  | nil => cases h
  | cons c r => exact ⟨c, r, rfl, h⟩
theorem keyW_eq (w : ByteArray) : keyW w = (decide (kindOf w > 0) || keysL.any (fun k => w.data.toList == k.data.toList)) := by
  unfold keyW; simp only [ByteArray.toList_eq]
theorem mkNm {w : ByteArray} (h : (match w.data.toList with | [] => false | c :: _ => letterI c.toNat) = true) (h2 : w.data.toList.all (fun c => lodI c.toNat) = true) (h3 : w.data.toList.length ≤ 40) (h4 : (decide (kindOf w > 0) || keysL.any (fun k => w.data.toList == k.data.toList)) = false) : Nm w := ⟨wd h h2 h3, by rw [keyW_eq]; exact h4⟩
theorem mkKw {w : ByteArray} (h : (match w.data.toList with | [] => false | c :: _ => letterI c.toNat) = true) (h2 : w.data.toList.all (fun c => lodI c.toNat) = true) (h3 : w.data.toList.length ≤ 40) (h4 : (decide (kindOf w > 0) || keysL.any (fun k => w.data.toList == k.data.toList)) = true) : Kw w := ⟨wd h h2 h3, by rw [keyW_eq]; exact h4⟩
theorem nmF : Nm bFF := mkNm (by kernel_rfl) (by kernel_rfl) (by decide) (by kernel_rfl)
theorem nmX : Nm bXX := mkNm (by kernel_rfl) (by kernel_rfl) (by decide) (by kernel_rfl)
theorem nmY : Nm bYY := mkNm (by kernel_rfl) (by kernel_rfl) (by decide) (by kernel_rfl)
def zN (i : Nat) : ByteArray := ⟨#[122, UInt8.ofNat (48 + i)]⟩
def cNm (i : Nat) : ByteArray := ⟨#[99, UInt8.ofNat (48 + i)]⟩
theorem nmZ {i : Nat} (h : i < 9) : Nm (zN i) := by
  match i, h with
  | 0, _ => exact mkNm (by kernel_rfl) (by kernel_rfl) (by decide) (by kernel_rfl)
  | 1, _ => exact mkNm (by kernel_rfl) (by kernel_rfl) (by decide) (by kernel_rfl)
  | 2, _ => exact mkNm (by kernel_rfl) (by kernel_rfl) (by decide) (by kernel_rfl)
  | 3, _ => exact mkNm (by kernel_rfl) (by kernel_rfl) (by decide) (by kernel_rfl)
  | 4, _ => exact mkNm (by kernel_rfl) (by kernel_rfl) (by decide) (by kernel_rfl)
  | 5, _ => exact mkNm (by kernel_rfl) (by kernel_rfl) (by decide) (by kernel_rfl)
  | 6, _ => exact mkNm (by kernel_rfl) (by kernel_rfl) (by decide) (by kernel_rfl)
  | 7, _ => exact mkNm (by kernel_rfl) (by kernel_rfl) (by decide) (by kernel_rfl)
  | 8, _ => exact mkNm (by kernel_rfl) (by kernel_rfl) (by decide) (by kernel_rfl)
theorem nmC {i : Nat} (h : i < 9) : Nm (cNm i) := by
  match i, h with
  | 0, _ => exact mkNm (by kernel_rfl) (by kernel_rfl) (by decide) (by kernel_rfl)
  | 1, _ => exact mkNm (by kernel_rfl) (by kernel_rfl) (by decide) (by kernel_rfl)
  | 2, _ => exact mkNm (by kernel_rfl) (by kernel_rfl) (by decide) (by kernel_rfl)
  | 3, _ => exact mkNm (by kernel_rfl) (by kernel_rfl) (by decide) (by kernel_rfl)
  | 4, _ => exact mkNm (by kernel_rfl) (by kernel_rfl) (by decide) (by kernel_rfl)
  | 5, _ => exact mkNm (by kernel_rfl) (by kernel_rfl) (by decide) (by kernel_rfl)
  | 6, _ => exact mkNm (by kernel_rfl) (by kernel_rfl) (by decide) (by kernel_rfl)
  | 7, _ => exact mkNm (by kernel_rfl) (by kernel_rfl) (by decide) (by kernel_rfl)
  | 8, _ => exact mkNm (by kernel_rfl) (by kernel_rfl) (by decide) (by kernel_rfl)
def wNode : ByteArray := ⟨#[110, 111, 100, 101]⟩
def wRet : ByteArray := ⟨#[114, 101, 116, 117, 114, 110, 115]⟩
def wVar : ByteArray := ⟨#[118, 97, 114]⟩
def wLet : ByteArray := ⟨#[108, 101, 116]⟩
def wTel : ByteArray := ⟨#[116, 101, 108]⟩
def wBool : ByteArray := ⟨#[98, 111, 111, 108]⟩
def wI8 : ByteArray := ⟨#[105, 56]⟩
def wTrue : ByteArray := ⟨#[116, 114, 117, 101]⟩
def wWhen : ByteArray := ⟨#[119, 104, 101, 110]⟩
def wNot : ByteArray := ⟨#[110, 111, 116]⟩
def wAnd : ByteArray := ⟨#[97, 110, 100]⟩
theorem kwNode : Kw wNode := mkKw (by kernel_rfl) (by kernel_rfl) (by decide) (by kernel_rfl)
theorem kwRet : Kw wRet := mkKw (by kernel_rfl) (by kernel_rfl) (by decide) (by kernel_rfl)
theorem kwVar : Kw wVar := mkKw (by kernel_rfl) (by kernel_rfl) (by decide) (by kernel_rfl)
theorem kwLet : Kw wLet := mkKw (by kernel_rfl) (by kernel_rfl) (by decide) (by kernel_rfl)
theorem kwTel : Kw wTel := mkKw (by kernel_rfl) (by kernel_rfl) (by decide) (by kernel_rfl)
theorem kwBool : Kw wBool := mkKw (by kernel_rfl) (by kernel_rfl) (by decide) (by kernel_rfl)
theorem kwI8 : Kw wI8 := mkKw (by kernel_rfl) (by kernel_rfl) (by decide) (by kernel_rfl)
theorem kwTrue : Kw wTrue := mkKw (by kernel_rfl) (by kernel_rfl) (by decide) (by kernel_rfl)
theorem kwWhen : Kw wWhen := mkKw (by kernel_rfl) (by kernel_rfl) (by decide) (by kernel_rfl)
theorem kwNot : Kw wNot := mkKw (by kernel_rfl) (by kernel_rfl) (by decide) (by kernel_rfl)
theorem kwAnd : Kw wAnd := mkKw (by kernel_rfl) (by kernel_rfl) (by decide) (by kernel_rfl)
def Sep (c : UInt8) : Prop := c = 40 ∨ c = 41 ∨ c = 44 ∨ c = 58 ∨ c = 59
theorem good_sep {c : UInt8} {sp : Bool} {r : List Tx} (h : Sep c) (hn : spB sp (txB r) ≠ []) (hr : Good r) : Good (⟨sg c, sp⟩ :: r) := by
  cases he : spB sp (txB r) with
  | nil => exact absurd he hn
  | cons d l => exact .sign c d sp r l he (h.elim .inl fun h => .inr (h.elim .inl fun h => .inr (h.elim .inl fun h => .inr (h.elim .inl fun h => .inr (.inl h))))) hr
theorem good_eq {c : UInt8} {r : List Tx} (h : c = 61 ∨ c = 62) (hr : Good r) : Good (⟨sg c, true⟩ :: r) := .sign c 32 true r (txB r) rfl (.inr (.inr (.inr (.inr (.inr ⟨h, rfl⟩))))) hr
def edgeT (g : Edge) (sp : Bool) (r : List Tx) : List Tx := bif g.on then ⟨nm g.name, sp⟩ :: r else ⟨kw wNot, true⟩ :: ⟨nm g.name, sp⟩ :: r
def edgeB (g : Edge) : List UInt8 := (bif g.on then [] else [110, 111, 116, 32]) ++ g.name.data.toList
def edgesT : List Edge → List Tx → List Tx
  | [], r => r
  | [g], r => edgeT g false r
  | g :: h :: l, r => edgeT g true (⟨kw wAnd, true⟩ :: edgesT (h :: l) r)
def edgesB : List Edge → List UInt8
  | [] => []
  | [g] => edgeB g
  | g :: h :: l => edgeB g ++ [32, 97, 110, 100, 32] ++ edgesB (h :: l)
def Lc.tx (x : Lc) (r : List Tx) : List Tx := ⟨nm x.name, false⟩ :: ⟨sg 58, true⟩ :: (match x.clock with
  | [] => ⟨kKind x.bo, false⟩ :: ⟨sg 59, true⟩ :: r
  | g :: l => ⟨kKind x.bo, true⟩ :: ⟨kw wWhen, true⟩ :: edgesT (g :: l) (⟨sg 59, true⟩ :: r))
def kdB (bo : Bool) : List UInt8 := bif bo then [98, 111, 111, 108] else [105, 56]
def Lc.by (x : Lc) : List UInt8 := x.name.data.toList ++ [58, 32] ++ kdB x.bo ++ (match x.clock with
  | [] => []
  | g :: l => [32, 119, 104, 101, 110, 32] ++ edgesB (g :: l)) ++ [59, 32]
def lcsT : List Lc → List Tx → List Tx
  | [], r => r
  | x :: l, r => x.tx (lcsT l r)
def lcsB : List Lc → List UInt8
  | [] => []
  | x :: l => x.by ++ lcsB l
def Ek.tx : Ek → List Tx → List Tx
  | .var v, r => ⟨nm v, false⟩ :: r
  | .tru, r => ⟨kw wTrue, false⟩ :: r
  | .gt v, r => ⟨nm v, true⟩ :: ⟨sg 62, true⟩ :: ⟨lit0, false⟩ :: r
  | .wh v w on, r => ⟨kw wWhen, false⟩ :: ⟨sg 40, false⟩ :: ⟨nm v, false⟩ :: ⟨sg 44, true⟩ :: edgeT ⟨w, on⟩ false (⟨sg 41, false⟩ :: r)
def Ek.by : Ek → List UInt8
  | .var v => v.data.toList
  | .tru => [116, 114, 117, 101]
  | .gt v => v.data.toList ++ [32, 62, 32, 48, 105, 56]
  | .wh v w on => [119, 104, 101, 110, 40] ++ v.data.toList ++ [44, 32] ++ edgeB ⟨w, on⟩ ++ [41]
def It.tx (x : It) (r : List Tx) : List Tx := ⟨nm x.name, true⟩ :: ⟨sg 61, true⟩ :: x.e.tx (⟨sg 59, true⟩ :: r)
def It.by (x : It) : List UInt8 := x.name.data.toList ++ [32, 61, 32] ++ x.e.by ++ [59, 32]
def itsT : List It → List Tx → List Tx
  | [], r => r
  | x :: l, r => x.tx (itsT l r)
def itsB : List It → List UInt8
  | [] => []
  | x :: l => x.by ++ itsB l
def nodeT (ls : List Lc) (is : List It) : List Tx := ⟨kw wNode, true⟩ :: ⟨nm bFF, false⟩ :: ⟨sg 40, false⟩ :: ⟨nm bXX, false⟩ :: ⟨sg 58, true⟩ :: ⟨kI8, false⟩ :: ⟨sg 41, true⟩ :: ⟨kw wRet, true⟩ :: ⟨sg 40, false⟩ :: ⟨nm bYY, false⟩ :: ⟨sg 58, true⟩ :: ⟨kI8, false⟩ :: ⟨sg 41, true⟩ :: ⟨kw wVar, true⟩ ::
  lcsT ls (⟨kw wLet, true⟩ :: itsT is [⟨kw wTel, false⟩])
def headB : List UInt8 := [110, 111, 100, 101, 32, 102, 40, 120, 58, 32, 105, 56, 41, 32, 114, 101, 116, 117, 114, 110, 115, 32, 40, 121, 58, 32, 105, 56, 41, 32, 118, 97, 114, 32]
def nodeB (ls : List Lc) (is : List It) : List UInt8 := headB ++ lcsB ls ++ [108, 101, 116, 32] ++ itsB is ++ [116, 101, 108]
theorem edgeT_lx (g : Edge) (sp : Bool) (r : List Tx) : (edgeT g sp r).map Tx.x = edgeL g.name g.on (r.map Tx.x) := by
  unfold edgeT edgeL; cases g.on <;> rfl
theorem edgesT_lx : ∀ (l : List Edge) (r : List Tx), (edgesT l r).map Tx.x = edgesL l (r.map Tx.x)
  | [], r => rfl
  | [g], r => edgeT_lx g false r
  | g :: h :: l, r => by
    show (edgeT g true _).map Tx.x = edgeL g.name g.on (kAnd :: edgesL (h :: l) (r.map Tx.x))
    rw [edgeT_lx, List.map_cons, edgesT_lx (h :: l) r]; rfl
theorem lc_lx (x : Lc) (r : List Tx) : (x.tx r).map Tx.x = x.lx (r.map Tx.x) := by
  obtain ⟨w, bo, c⟩ := x
  cases c with
  | nil => rfl
  | cons g l =>
    show nm w :: sg 58 :: kKind bo :: kWhen :: (edgesT (g :: l) (⟨sg 59, true⟩ :: r)).map Tx.x = _
    rw [edgesT_lx]; rfl
theorem lcs_lx : ∀ (l : List Lc) (r : List Tx), (lcsT l r).map Tx.x = lcsL l (r.map Tx.x)
  | [], r => rfl
  | x :: l, r => by show (x.tx _).map Tx.x = x.lx _; rw [lc_lx, lcs_lx l r]
theorem ek_lx (k : Ek) (r : List Tx) : (k.tx r).map Tx.x = k.lx (r.map Tx.x) := by
  cases k with
  | var v => rfl
  | tru => rfl
  | gt v => rfl
  | wh v w on =>
    show kWhen :: sg 40 :: nm v :: sg 44 :: (edgeT ⟨w, on⟩ false (⟨sg 41, false⟩ :: r)).map Tx.x = _
    rw [edgeT_lx]; rfl
theorem it_lx (x : It) (r : List Tx) : (x.tx r).map Tx.x = x.lx (r.map Tx.x) := by
  show nm x.name :: sg 61 :: (x.e.tx _).map Tx.x = _
  rw [ek_lx]; rfl
theorem its_lx : ∀ (l : List It) (r : List Tx), (itsT l r).map Tx.x = itsL l (r.map Tx.x)
  | [], r => rfl
  | x :: l, r => by show (x.tx _).map Tx.x = x.lx _; rw [it_lx, its_lx l r]
theorem node_lx (ls : List Lc) (is : List It) : (nodeT ls is).map Tx.x ++ [lEnd] = nodeL ls is [lEnd] := by
  have h : ∀ (l : List It) (a b : List Lx), itsL l a ++ b = itsL l (a ++ b) := by
    intro l
    induction l with
    | nil => intro a b; rfl
    | cons x l ih =>
      intro a b
      obtain ⟨w, k⟩ := x
      have := ih a b
      cases k with
      | wh v w on => cases on <;> simp [itsL, It.lx, Ek.lx, edgeL, this]
      | _ => simp [itsL, It.lx, Ek.lx, this]
  have hE : ∀ (g : Edge) (a b : List Lx), edgeL g.name g.on a ++ b = edgeL g.name g.on (a ++ b) := by
    intro g a b; unfold edgeL; cases g.on <;> rfl
  have hEs : ∀ (l : List Edge) (a b : List Lx), edgesL l a ++ b = edgesL l (a ++ b) := by
    intro l
    induction l with
    | nil => intro a b; rfl
    | cons g l ih =>
      intro a b
      cases l with
      | nil => exact hE g a b
      | cons h l =>
        show edgeL g.name g.on (kAnd :: edgesL (h :: l) a) ++ b = _
        rw [hE, List.cons_append, ih]; rfl
  have hL : ∀ (l : List Lc) (a b : List Lx), lcsL l a ++ b = lcsL l (a ++ b) := by
    intro l
    induction l with
    | nil => intro a b; rfl
    | cons x l ih =>
      intro a b
      obtain ⟨w, bo, c⟩ := x
      have := ih a b
      cases c with
      | nil => simp [lcsL, Lc.lx, this]
      | cons g r => simp [lcsL, Lc.lx, hEs, this]
  unfold nodeT nodeL
  simp only [List.map_cons, lcs_lx, its_lx, List.map_nil, List.cons_append, hL, h, List.nil_append]
  rfl
end Go.Vi
namespace Go.Vi
open Go.Proofs
theorem edgeT_by (g : Edge) (sp : Bool) (r : List Tx) : txB (edgeT g sp r) = edgeB g ++ spB sp (txB r) := by
  obtain ⟨w, on⟩ := g
  cases on <;> simp [edgeT, edgeB, txB, spB, nm, kw, wNot]
theorem edgesT_by : ∀ (l : List Edge) (r : List Tx), txB (edgesT l r) = edgesB l ++ txB r
  | [], r => rfl
  | [g], r => edgeT_by g false r
  | g :: h :: l, r => by
    show txB (edgeT g true (⟨kw wAnd, true⟩ :: edgesT (h :: l) r)) = edgeB g ++ [32, 97, 110, 100, 32] ++ edgesB (h :: l) ++ txB r
    rw [edgeT_by]
    simp [txB, spB, kw, wAnd, edgesT_by (h :: l) r]
theorem kKind_by (bo : Bool) : (kKind bo).text.data.toList = kdB bo := by cases bo <;> rfl
theorem lc_by (x : Lc) (r : List Tx) : txB (x.tx r) = x.by ++ txB r := by
  obtain ⟨w, bo, c⟩ := x
  cases c with
  | nil => simp [Lc.tx, Lc.by, txB, spB, nm, sg, kKind_by]
  | cons g l => simp [Lc.tx, Lc.by, txB, spB, nm, sg, kw, wWhen, kKind_by, edgesT_by]
theorem lcs_by : ∀ (l : List Lc) (r : List Tx), txB (lcsT l r) = lcsB l ++ txB r
  | [], r => rfl
  | x :: l, r => by
    show txB (x.tx (lcsT l r)) = x.by ++ lcsB l ++ txB r
    rw [lc_by, lcs_by l r, List.append_assoc]
theorem ek_by (k : Ek) (r : List Tx) : txB (k.tx r) = k.by ++ txB r := by
  cases k with
  | var v => simp [Ek.tx, Ek.by, txB, spB, nm]
  | tru => simp [Ek.tx, Ek.by, txB, spB, kw, wTrue]
  | gt v => simp [Ek.tx, Ek.by, txB, spB, nm, sg, lit0]
  | wh v w on => simp [Ek.tx, Ek.by, txB, spB, nm, sg, kw, wWhen, edgeT_by]
theorem it_by (x : It) (r : List Tx) : txB (x.tx r) = x.by ++ txB r := by
  obtain ⟨w, k⟩ := x
  simp [It.tx, It.by, txB, spB, nm, sg, ek_by]
theorem its_by : ∀ (l : List It) (r : List Tx), txB (itsT l r) = itsB l ++ txB r
  | [], r => rfl
  | x :: l, r => by
    show txB (x.tx (itsT l r)) = x.by ++ itsB l ++ txB r
    rw [it_by, its_by l r, List.append_assoc]
theorem node_by (ls : List Lc) (is : List It) : txB (nodeT ls is) = nodeB ls is := by
  unfold nodeT nodeB
  simp [txB, spB, kw, nm, sg, lcs_by, its_by, wNode, wRet, wVar, wLet, wTel, bFF, bXX, bYY, kI8, headB]
theorem nl_59 {l : List UInt8} : NoLod (59 :: l) := by show lodI (UInt8.toNat 59) = false; kernel_rfl
theorem nl_58 {l : List UInt8} : NoLod (58 :: l) := by show lodI (UInt8.toNat 58) = false; kernel_rfl
theorem nl_41 {l : List UInt8} : NoLod (41 :: l) := by show lodI (UInt8.toNat 41) = false; kernel_rfl
theorem nl_40 {l : List UInt8} : NoLod (40 :: l) := by show lodI (UInt8.toNat 40) = false; kernel_rfl
theorem nl_44 {l : List UInt8} : NoLod (44 :: l) := by show lodI (UInt8.toNat 44) = false; kernel_rfl
theorem spne {l : List UInt8} : spB true l ≠ [] := by intro h; cases h
theorem edgeT_good {g : Edge} {sp : Bool} {r : List Tx} (hg : Nm g.name) (hn : NoLod (spB sp (txB r))) (hr : Good r) : Good (edgeT g sp r) := by
  obtain ⟨w, on⟩ := g
  cases on
  · exact good_kw kwNot nl_sp (good_nm hg hn hr)
  · exact good_nm hg hn hr
theorem edgesT_good : ∀ (l : List Edge) (r : List Tx), (∀ g ∈ l, Nm g.name) → NoLod (txB r) → Good r → Good (edgesT l r)
  | [], r, _, _, hr => hr
  | [g], r, h, hn, hr => edgeT_good (h g (by simp)) hn hr
  | g :: k :: l, r, h, hn, hr => edgeT_good (h g (by simp)) nl_sp (good_kw kwAnd nl_sp (edgesT_good (k :: l) r (fun x hx => h x (by simp only [List.mem_cons] at hx ⊢; exact .inr hx)) hn hr))
structure Lc.Ok (x : Lc) : Prop where
  name : Nm x.name
  clock : ∀ g ∈ x.clock, Nm g.name
theorem kKind_good {bo : Bool} {sp : Bool} {r : List Tx} (hn : NoLod (spB sp (txB r))) (hr : Good r) : Good (⟨kKind bo, sp⟩ :: r) := by
  cases bo
  · exact good_kw kwI8 hn hr
  · exact good_kw kwBool hn hr
theorem lc_good {x : Lc} {r : List Tx} (h : x.Ok) (hr : Good r) : Good (x.tx r) := by
  obtain ⟨w, bo, c⟩ := x
  have h59 : Good (⟨sg 59, true⟩ :: r) := good_sep (.inr (.inr (.inr (.inr rfl)))) spne hr
  cases c with
  | nil => exact good_nm h.name nl_58 (good_sep (.inr (.inr (.inr (.inl rfl)))) spne (kKind_good nl_59 h59))
  | cons g l => exact good_nm h.name nl_58 (good_sep (.inr (.inr (.inr (.inl rfl)))) spne (kKind_good nl_sp (good_kw kwWhen nl_sp (edgesT_good (g :: l) _ h.clock nl_59 h59))))
theorem lcs_good : ∀ (l : List Lc) (r : List Tx), (∀ x ∈ l, x.Ok) → Good r → Good (lcsT l r)
  | [], r, _, hr => hr
  | x :: l, r, h, hr => lc_good (h x (by simp)) (lcs_good l r (fun y hy => h y (by simp [hy])) hr)
def Ek.Ok : Ek → Prop
  | .var v => Nm v
  | .tru => True
  | .gt v => Nm v
  | .wh v w _ => Nm v ∧ Nm w
theorem ek_good {k : Ek} {r : List Tx} {l : List UInt8} (h : k.Ok) (he : txB r = 59 :: l) (hr : Good r) : Good (k.tx r) := by
  have hn : NoLod (spB false (txB r)) := by rw [he]; exact nl_59
  cases k with
  | var v => exact good_nm h hn hr
  | tru => exact good_kw kwTrue hn hr
  | gt v => exact good_nm h nl_sp (good_eq (.inr rfl) (.lit r l he hr))
  | wh v w on =>
    have h41 : Good (⟨sg 41, false⟩ :: r) := good_sep (.inr (.inl rfl)) (by rw [he]; intro h; cases h) hr
    refine good_kw kwWhen nl_40 (good_sep (.inl rfl) (fun hh => ?_) (good_nm h.1 nl_44 (good_sep (.inr (.inr (.inl rfl))) spne (edgeT_good h.2 nl_41 h41))))
    have := congrArg List.length hh
    simp [spB, txB, sg] at this
structure It.Ok (x : It) : Prop where
  name : Nm x.name
  e : x.e.Ok
theorem it_good {x : It} {r : List Tx} (h : x.Ok) (hr : Good r) : Good (x.tx r) :=
  good_nm h.name nl_sp (good_eq (.inl rfl) (ek_good (l := 32 :: txB r) h.e rfl (good_sep (.inr (.inr (.inr (.inr rfl)))) spne hr)))
theorem its_good : ∀ (l : List It) (r : List Tx), (∀ x ∈ l, x.Ok) → Good r → Good (itsT l r)
  | [], r, _, hr => hr
  | x :: l, r, h, hr => it_good (h x (by simp)) (its_good l r (fun y hy => h y (by simp [hy])) hr)
theorem node_good {ls : List Lc} {is : List It} (hl : ∀ x ∈ ls, x.Ok) (hi : ∀ x ∈ is, x.Ok) : Good (nodeT ls is) := by
  have ht : Good [⟨kw wTel, false⟩] := good_kw kwTel trivial .nil
  have h1 := its_good is _ hi ht
  have h2 := lcs_good ls _ hl (good_kw kwLet nl_sp h1)
  unfold nodeT
  exact good_kw kwNode nl_sp (good_nm nmF nl_40 (good_sep (.inl rfl) (by intro h; cases h) (good_nm nmX nl_58 (good_sep (.inr (.inr (.inr (.inl rfl)))) spne (good_kw kwI8 nl_41 (good_sep (.inr (.inl rfl)) spne (good_kw kwRet nl_sp (good_sep (.inl rfl) (by intro h; cases h) (good_nm nmY nl_58 (good_sep (.inr (.inr (.inr (.inl rfl)))) spne (good_kw kwI8 nl_41 (good_sep (.inr (.inl rfl)) spne (good_kw kwVar nl_sp h2)))))))))))))
theorem Good.len {r : List Tx} (h : Good r) : r.length ≤ (txB r).length := by
  have sp : ∀ (b : Bool) (l : List UInt8), l.length ≤ (spB b l).length := fun b l => by cases b <;> simp [spB]
  induction h with
  | nil => exact Nat.le_refl _
  | word w b r hw _ _ ih =>
    have := sp b (txB r)
    have hl : 0 < w.length := by obtain ⟨c, v, rfl, _⟩ := hw.head; simp
    have e : (txB (⟨wordX w, b⟩ :: r)).length = w.length + (spB b (txB r)).length := by simp [txB, wordX]
    rw [e, List.length_cons]; omega
  | sign c d b r l _ _ _ ih =>
    have := sp b (txB r)
    have e : (txB (⟨sg c, b⟩ :: r)).length = 1 + (spB b (txB r)).length := by simp [txB, sg]; omega
    rw [e, List.length_cons]; omega
  | lit r l _ _ ih =>
    have e : (txB (⟨lit0, false⟩ :: r)).length = 3 + (txB r).length := by simp [txB, lit0, spB]; omega
    rw [e, List.length_cons]; omega
theorem parse_node {t : ByteArray} (ht : t.size ≤ 19000) {x : Lc} {ls : List Lc} {is : List It} (hb : t.data.toList = nodeB (x :: ls) is) (hx : ∀ y ∈ x :: ls, y.Ok ∧ y.clock.length ≤ 15) (hr : ls.length < 199) (hi : ∀ y ∈ is, y.Ok) (hil : is.length ≤ 199) (hpos : 0 < is.length) :
    ∃ N, IsNd (x :: ls) is N ∧ PC Tryz.prog 83 [.str t] [] (.tuple [.agg [.lst [N.row]], .int .i64 0, .int .i64 0]) [] := by
  have hg := node_good (fun y hy => (hx y hy).1) hi
  have hlen : (nodeT (x :: ls) is).length < 20000 := by
    have := hg.len
    rw [node_by, ← hb, ← size_eq] at this
    omega
  obtain ⟨L, h1, h2, h3⟩ := tokens_of (t := t) (r := nodeT (x :: ls) is) (by omega) (node_good (fun y hy => (hx y hy).1) hi) (by rw [node_by]; exact hb) hlen
  exact parse_of h1 h3 (fun y hy => (hx y hy).2) hr hil hpos (by rw [h2, node_lx])
end Go.Vi
namespace Go.Vi
open Go.Proofs
inductive FE (S : List ByteArray) : Exp → Prop
  | mk (f s : Int) (nm : ByteArray) (tk tl n m : Int) (kids : List Exp) (at' : Int) : (f = 1 ∨ f = 2 ∨ f = 4 ∨ f = 9) → (f = 2 ∨ f = 9 → has S nm = true) → kids.length ≤ 100 → (∀ k ∈ kids, FE S k) → FE S (.mk f s nm tk tl n m kids at')
def CP (N : List Node) (f : Nat) (args : List PV) (r : PV) : Prop := ∀ a, PC Tryz.prog f (.ptr 0 0 :: args) [ck N 0 a] r [ck N 0 a]
theorem CP.mk {N : List Node} {f : Nat} {args : List PV} {r : PV} (h : ∀ a, CF N f args 0 a fun r' e' a' => r' = r ∧ e' = 0 ∧ a' = a) : CP N f args r := fun a => by
  obtain ⟨r', e', a', hpc, rfl, rfl, rfl⟩ := (h a).pc
  exact hpc
theorem nocall {f : Int} (hf : f = 1 ∨ f = 2 ∨ f = 4 ∨ f = 9) : isCall f = false := by rcases hf with rfl | rfl | rfl | rfl <;> rfl
attribute [local irreducible] qAsg qPick qBox qBuild qBsl qLoad1 qLoadN qStore qNil qBin qUn qConv qSlS qSlL qFA qF1 qFN qIA qIS qEx qLenS qLenL qApp pQ pQL pGL pCall pCallL condP optP pEnd OpS Int.instDecidableEq Int.decEq instBEqOfDecidableEq
section
variable {N : List Node} {S : List ByteArray} {nd : Int}
theorem names_fe (hS : S.length ≤ 1000000000) {x : Exp} (hx : FE S x) : CP N 109 [.agg x.row, .lst (S.map nameRow), .int .i64 nd] (.tuple []) := by
  induction hx with
  | mk f s1 nm tk tl i m kids at' hf hn hkl hk ih =>
  have hkr : (Exp.rows kids).length = kids.length := by rw [Exp.rows_map, List.length_map]
  have hc := nocall hf
  refine CP.mk fun a => ?_
  have loop : ∀ c : Nat, ∀ (j : Int), 0 ≤ j → kids.length - j = c → ∃ k, ∀ (hp : Nat → Option Obj), c109l142 0 1 (fun r c => ∃ e' a', c = [ck N e' a'] ∧ r = .tuple [] ∧ e' = 0 ∧ a' = a) k
      (.ptr 0 0) (.lst (S.map nameRow)) (.int .i64 nd) (.ptr 1 0) (.int .i64 j) (stL [.box (ck N 0 a), .box [.int .i64 f, .int .i64 s1, .str nm, .int .i64 tk, .int .i64 tl, .int .i64 i, .int .i64 m, .lst (Exp.rows kids), .int .i64 at']] hp 2) := by
    intro c
    induction c with
    | zero =>
      intro j h0 hc
      refine ⟨1, fun hp => ?_⟩
      show c109l142b _ _ _ _ _ _ _ _ _ _
      unfold c109l142b
      refine zv ?_
      refine and_E rfl ?_
      refine cond_i (fun h => ?_) (fun _ => ?_)
      · simp only [Bool.and_eq_true, decide_eq_true_eq, hkr] at h
        omega
      · exact fin_i rfl rfl rfl ⟨_, _, rfl, rfl, rfl, rfl⟩
    | succ c ihc =>
      intro j h0 hc
      have hlt : j < kids.length := by omega
      have hw : IntKind.i64.wrap (j + 1) = j + 1 := wrap64 (by omega) (by omega)
      have hpc := ih (kids[j.toNat]'(by omega)) (List.getElem_mem _) a
      obtain ⟨k, hk2⟩ := ihc (IntKind.i64.wrap (j + 1)) (by omega) (by omega)
      refine ⟨k + 1, fun hp => ?_⟩
      show c109l142b _ _ _ _ _ _ _ _ _ _
      unfold c109l142b
      refine zv ?_
      refine and_E rfl ?_
      refine cond_i (fun _ => ?_) (fun h => ?_)
      · refine zv ?_
        refine pQ_r (o_iaL h0 (exp_rows h0 hlt) (Exp.row_len _)) ?_
        refine pQ_r (o_loadAE (Exp.row_len _)) ?_
        refine pCall_i hpc (args_exp rfl) rfl rfl rfl ?_
        refine zv ?_
        exact stL_to2 (c109l142 0 1 _ k _ _ _ _ _) rfl rfl rfl fun hp' => hk2 hp'
      · simp only [Bool.and_eq_false_iff, decide_eq_false_iff_not, hkr] at h
        simp at h
        omega
  have row : [PV.int .i64 f, .int .i64 s1, .str nm, .int .i64 tk, .int .i64 tl, .int .i64 i, .int .i64 m, .lst (Exp.rows kids), .int .i64 at'] = [PV.int .i64 f, .int .i64 s1, .str nm, .int .i64 tk, .int .i64 tl, .int .i64 i, .int .i64 m, .lst (Exp.rows kids), .int .i64 at'] := rfl
  refine c109_pq 0 rfl _ _ _ _ ?_
  unfold c109
  simp only [Exp.row]
  refine zv ?_
  refine or_f (row := [.int .i64 f, .int .i64 s1, .str nm, .int .i64 tk, .int .i64 tl, .int .i64 i, .int .i64 m, .lst (Exp.rows kids), .int .i64 at']) rfl rfl ?_
  refine or_f (row := [.int .i64 f, .int .i64 s1, .str nm, .int .i64 tk, .int .i64 tl, .int .i64 i, .int .i64 m, .lst (Exp.rows kids), .int .i64 at']) rfl rfl ?_
  refine zv ?_
  refine pCall_i (has_pc S nm hS) rfl rfl rfl rfl ?_
  refine zv ?_
  refine and_not ?_
  refine cond_i (fun h => ?_) (fun _ => ?_)
  · simp only [Bool.and_eq_true, Bool.or_eq_true, beq_iff_eq, Bool.not_eq_true'] at h
    obtain ⟨h1, h2⟩ := h
    have : f = 2 ∨ f = 9 := by omega
    rw [hn this] at h2; cases h2
  refine zv ?_
  refine pCallL_i (isCall_pc f) rfl rfl rfl rfl ?_
  rw [hc]
  refine zv ?_
  refine ⟨by kernel_rfl, ?_⟩
  refine zv ?_
  refine or_f (row := [.int .i64 f, .int .i64 s1, .str nm, .int .i64 tk, .int .i64 tl, .int .i64 i, .int .i64 m, .lst (Exp.rows kids), .int .i64 at']) rfl rfl ?_
  refine or_f (row := [.int .i64 f, .int .i64 s1, .str nm, .int .i64 tk, .int .i64 tl, .int .i64 i, .int .i64 m, .lst (Exp.rows kids), .int .i64 at']) rfl rfl ?_
  refine and_len (row := [.int .i64 f, .int .i64 s1, .str nm, .int .i64 tk, .int .i64 tl, .int .i64 i, .int .i64 m, .lst (Exp.rows kids), .int .i64 at']) (rows := Exp.rows kids) rfl rfl ?_
  refine cond_i (fun h3 => ?_) (fun _ => ?_)
  · simp only [Bool.and_eq_true, Bool.or_eq_true, beq_iff_eq] at h3
    omega
  obtain ⟨k, hk2⟩ := loop kids.length 0 (by omega) (by omega)
  refine ⟨k, ?_⟩
  exact stL_to2 (c109l142 0 1 _ k _ _ _ _ _) rfl rfl rfl fun hp' => hk2 hp'
end
def FI (S : List ByteArray) (n : ByteArray) (x : Item) : Prop := ∃ e at', FE S e ∧ x = .mk [n] e [] at'
inductive FIs (S : List ByteArray) : List ByteArray → List Item → Prop
  | nil : FIs S [] []
  | cons (n : ByteArray) (x : Item) (ns : List ByteArray) (l : List Item) : FI S n x → FIs S ns l → FIs S (n :: ns) (x :: l)
theorem FIs.len {S : List ByteArray} {ns : List ByteArray} {l : List Item} (h : FIs S ns l) : l.length = ns.length := by
  induction h with
  | nil => rfl
  | cons _ _ _ _ _ _ ih => simp [ih]
theorem FIs.at {S : List ByteArray} {ns : List ByteArray} {l : List Item} (h : FIs S ns l) : ∀ (q : Nat) (x : Item), l[q]? = some x → ∃ n, ns[q]? = some n ∧ FI S n x := by
  induction h with
  | nil => intro q x hx; simp at hx
  | cons n x ns l hx _ ih =>
    intro q y hy
    cases q with
    | zero => simp at hy; subst hy; exact ⟨n, rfl, hx⟩
    | succ q => exact ih q y hy
end Go.Vi
namespace Go.Vi
open Go.Proofs
attribute [local irreducible] qAsg qPick qBox qBuild qBsl qLoad1 qLoadN qStore qNil qBin qUn qConv qSlS qSlL qFA qF1 qFN qIA qIS qEx qLenS qLenL qApp pQ pQL pGL pCall pCallL condP optP pEnd OpS Int.instDecidableEq Int.decEq instBEqOfDecidableEq
attribute [local irreducible] c86j4 c86j36 c86j71 c86j117 c86j145 c86j213 c86j202
section
variable {N : List Node} {S M : List ByteArray} {nd : Int}
theorem fi_loop (hS : S.length ≤ 1000000000) (hM : M.length ≤ 1000000000) {l : List Item} {ns : List ByteArray} (hl : FIs S ns l) (hn : ns.length ≤ 1000) (hhas : ∀ n ∈ ns, has M n = true) (hdist : ∀ (q : Nat) (h : q < ns.length), has (ns.take q) ns[q] = false) {a : Int} {Q : PV → List (List PV) → Prop} (hQ : Q (.acc 1 (ns.map nameRow)) [ck N 0 a]) :
    ∀ (c j : Nat), l.length - j = c → j ≤ l.length → ∃ K, ∀ (b eo : Nat) (s : St), L86 N 0 a (ns.take j) b eo s → c86l9 1 1 Q K (.ptr 0 0) (.lst (l.map Item.row)) (.lst (S.map nameRow)) (.lst (M.map nameRow)) (.int .i64 nd) (.acc b ((ns.take j).map nameRow)) (.int .i64 j) s := by
  have hlen := hl.len
  intro c
  induction c with
  | zero =>
    intro j hc hj
    have hj : j = ns.length := by omega
    subst hj
    rw [List.take_length]
    refine ⟨1, fun b eo s h => ?_⟩
    have h00 := h.h0
    show c86l9b _ _ _ _ _ _ _ _ _ _ _ _
    unfold c86l9b
    refine zv ?_
    refine and_E zh ?_
    refine cond_i (fun h9 => ?_) (fun _ => ?_)
    · simp only [Bool.and_eq_true, decide_eq_true_eq, List.length_map] at h9
      omega
    · unfold c86j4
      refine zv ?_
      exact fin_i rfl (backV_acc h.hb h.ho name_rows_len) (gb0 zh rfl) hQ
  | succ c ih =>
    intro j hc hj
    have hlt : j < l.length := by omega
    have hltn : j < ns.length := by omega
    have hlt' : (j : Int) < l.length := by omega
    have hrow := item_rows (l := l) (i := (j : Int)) (by omega) hlt'
    obtain ⟨n, hnn, e, at', he, hx⟩ := hl.at j _ (List.getElem?_eq_getElem hlt)
    have hnj : ns[j] = n := by rw [List.getElem?_eq_getElem hltn] at hnn; exact Option.some.inj hnn
    generalize hg : l[(j : Int).toNat]'(by omega) = x at hrow
    have hx : x = .mk [n] e [] at' := by rw [← hg, ← hx]; rfl
    subst hx
    have hr0 := Item.r0 (.mk [n] e [] at')
    have hr10 := Item.r10 (.mk [n] e [] at')
    have hcut := Item.cut (.mk [n] e [] at')
    have hsc := Item.scal (.mk [n] e [] at')
    have hrl := Item.row_len (.mk [n] e [] at')
    simp only [Item.names, Item.states, Item.e] at hr0 hr10 hcut
    generalize (Item.mk [n] e [] at').row = row at hrow hr0 hr10 hcut hsc hrl
    have hw1 : IntKind.i64.wrap ((j : Int) + 1) = ((j + 1 : Nat) : Int) := by rw [wrap64 (by omega) (by omega)]; omega
    have hm : has M n = true := hhas n (by rw [← hnj]; exact List.getElem_mem _)
    have hd : has (ns.take j) n = false := by have := hdist j hltn; rwa [hnj] at this
    have htk : ns.take (j + 1) = ns.take j ++ [n] := by rw [List.take_add_one, hnn]; rfl
    have hpn := names_fe (N := N) (nd := nd) hS he a
    obtain ⟨K, hK⟩ := ih (j + 1) (by omega) (by omega)
    rw [htk] at hK
    have hdl : (ns.take j).length ≤ 1000 := by simp; omega
    have R1 : ∃ k, ∀ (b eo bx : Nat) (s : St), L86x N 0 a (ns.take j ++ [n]) b eo bx row s → c86l169 1 1 Q (c86l9 1 1 Q K) k (.ptr 0 0) (.lst (l.map Item.row)) (.lst (S.map nameRow)) (.lst (M.map nameRow)) (.int .i64 nd) (.acc b ((ns.take j ++ [n]).map nameRow)) (.int .i64 (j : Int)) (.ptr bx 0) (.int .i64 1) s := by
      refine ⟨1, fun b eo bx s h => ?_⟩
      have h00 := h.i.h0
      have hxx := h.hx
      have hx0 := h.x0
      show c86l169b _ _ _ _ _ _ _ _ _ _ _ _ _ _ _
      unfold c86l169b
      refine zv ?_
      refine pQ_r (o_load1P zh hr0) ?_
      refine zv ?_
      unfold c86j145
      refine zv ?_
      rw [eq00]
      refine zv ?_
      refine pQ_r (o_loadNP zh hcut) ?_
      refine pCall_i hpn (args_exp rfl) rfl (gb0 zh rfl) rfl ?_
      unfold c86j36
      refine zv ?_
      rw [hw1]
      exact hK b eo _ h.i.box
    obtain ⟨k1, hk1⟩ := R1
    have R0 : ∃ k, ∀ (b eo bx : Nat) (s : St), L86x N 0 a (ns.take j) b eo bx row s → c86l169 1 1 Q (c86l9 1 1 Q K) k (.ptr 0 0) (.lst (l.map Item.row)) (.lst (S.map nameRow)) (.lst (M.map nameRow)) (.int .i64 nd) (.acc b ((ns.take j).map nameRow)) (.int .i64 (j : Int)) (.ptr bx 0) (.int .i64 0) s := by
      refine ⟨k1 + 1, fun b eo bx s h => ?_⟩
      have h00 := h.i.h0
      have hxx := h.hx
      have hx0 := h.x0
      show c86l169b _ _ _ _ _ _ _ _ _ _ _ _ _ _ _
      unfold c86l169b
      refine zv ?_
      refine pQ_r (o_load1P zh hr0) ?_
      refine zv ?_
      rw [eq00]
      refine zv ?_
      refine pQ_r (o_load1P zh hr0) ?_
      refine pQ_r (o_iaL (row := [.str n]) (by omega) rfl rfl) ?_
      refine zv ?_
      refine pCall_i (has_pc M _ hM) rfl rfl rfl rfl ?_
      rw [hm]
      refine zv ?_
      unfold c86j202
      refine zv ?_
      refine pQ_r (o_load1P zh hr0) ?_
      refine pQ_r (o_iaL (row := [.str n]) (by omega) rfl rfl) ?_
      refine zv ?_
      refine pCall_i (has_pc (ns.take j) _ (by omega)) rfl rfl rfl rfl ?_
      rw [hd]
      refine zv ?_
      exact app_one (nms := [n]) (by omega) h hr0 (by omega) (by simp) (by simp) fun b' s' h' => hk1 b' 1 bx s' h'
    obtain ⟨k0, hk0⟩ := R0
    refine ⟨K + 1, fun b eo s h => ?_⟩
    have h00 := h.h0
    have hlt0 := h.lt
    have hn0 := h.n0
    have hbb := h.hb
    show c86l9b _ _ _ _ _ _ _ _ _ _ _ _
    unfold c86l9b
    refine zv ?_
    refine and_E zh ?_
    refine cond_i (fun _ => ?_) (fun h9 => ?_)
    case refine_2 =>
      simp at h9
      omega
    refine pQ_r (o_iaL (by omega) hrow hrl) ?_
    refine pQ_r (o_loadAE hrl) ?_
    refine zv ?_
    refine pQ_r (o_storeA zh hrl hsc rfl) ?_
    refine zv ?_
    refine pQ_r (o_load1P zh hr10) ?_
    refine zv ?_
    exact ⟨k0, hk0 b eo s.next _ ⟨⟨zh, zh, h.ho, hn0, by simp only [new_next, set_next]; omega⟩, zh, by omega, by omega, by simp [new_next, set_next]⟩⟩
theorem list_fi (hS : S.length ≤ 1000000000) (hM : M.length ≤ 1000000000) {l : List Item} {ns : List ByteArray} (hl : FIs S ns l) (hn : ns.length ≤ 1000) (hhas : ∀ n ∈ ns, has M n = true) (hdist : ∀ (q : Nat) (h : q < ns.length), has (ns.take q) ns[q] = false) :
    CP N 86 [.lst (l.map Item.row), .lst (S.map nameRow), .lst (M.map nameRow), .int .i64 nd] (.acc 1 (ns.map nameRow)) := by
  refine CP.mk fun a => ?_
  obtain ⟨K, hK⟩ := fi_loop (N := N) (nd := nd) (a := a) (Q := fun r c => ∃ e' a', c = [ck N e' a'] ∧ r = .acc 1 (ns.map nameRow) ∧ e' = 0 ∧ a' = a) hS hM hl hn hhas hdist ⟨_, _, rfl, rfl, rfl, rfl⟩ l.length 0 (by omega) (by omega)
  refine c86_pq 1 rfl _ _ _ _ _ ?_
  unfold c86
  refine zv ?_
  exact ⟨K, hK _ 0 _ ⟨zh, zh, .inl rfl, by omega, by simp [new_next, initSt_next]⟩⟩
end
end Go.Vi
namespace Go.Vi
open Go.Proofs
def ClkT (S : List ByteArray) (v : Var) : Prop := ∀ g ∈ v.clock, has S g.name = true ∧ (g.name.toList == v.name.toList) = false
attribute [local irreducible] qAsg qPick qBox qBuild qBsl qLoad1 qLoadN qStore qNil qBin qUn qConv qSlS qSlL qFA qF1 qFN qIA qIS qEx qLenS qLenL qApp pQ pQL pGL pCall pCallL condP optP pEnd OpS Int.instDecidableEq Int.decEq instBEqOfDecidableEq
section
variable {N : List Node} {S : List ByteArray}
theorem clockNames_ok (hS : S.length ≤ 1000000000) {l : List Var} (hl : l.length ≤ 100000) (hw : ∀ v ∈ l, v.clock.length ≤ 100000) (hc : ∀ v ∈ l, ClkT S v) : CP N 87 [.lst (l.map Var.row), .lst (S.map nameRow)] (.tuple []) := by
  refine CP.mk fun a => ?_
  have inner : ∀ {Q : PV → List (List PV) → Prop} (w : PV → PV → PV → PV → St → Prop) (i : Int) (hi0 : 0 ≤ i) (hi : i < l.length) (v : Var) (hrow : (l.map Var.row)[i.toNat]? = some v.row) (hlen : v.clock.length ≤ 100000) (hv : ClkT S v) (hk : ∀ hp, w (.ptr 0 0) (.lst (l.map Var.row)) (.lst (S.map nameRow)) (.int .i64 (i + 1)) (stL [.box (ck N 0 a)] hp 1)),
      ∀ (c : Nat) (j : Int), 0 ≤ j → v.clock.length - j = c → ∃ k, ∀ hp, c87l34 0 1 Q w k (.ptr 0 0) (.lst (l.map Var.row)) (.lst (S.map nameRow)) (.int .i64 i) (.int .i64 j) (stL [.box (ck N 0 a)] hp 1) := by
    intro Q w i hi0 hi v hrow hlen hv hk c
    have hwi : IntKind.i64.wrap (i + 1) = i + 1 := wrap64 (by omega) (by omega)
    induction c with
    | zero =>
      intro j h0 hc
      refine ⟨1, fun hp => ?_⟩
      show c87l34b _ _ _ _ _ _ _ _ _ _ _
      unfold c87l34b
      refine pQ_r (o_iaL hi0 hrow rfl) ?_
      refine zv ?_
      refine cond_i (fun h9 => ?_) (fun _ => ?_)
      · have := of_decide_eq_true h9; rw [List.length_map] at this; omega
      · unfold c87j24
        refine zv ?_
        rw [hwi]
        exact hk hp
    | succ c ih =>
      intro j h0 hc
      have hlt : j < v.clock.length := by omega
      have hwj : IntKind.i64.wrap (j + 1) = j + 1 := wrap64 (by omega) (by omega)
      have hrowj := edge_at h0 hlt
      obtain ⟨hh, hne⟩ := hv (v.clock[j.toNat]'(by omega)) (List.getElem_mem _)
      generalize v.clock[j.toNat]'(by omega) = g at hrowj hh hne
      obtain ⟨k, hk⟩ := ih (j + 1) (by omega) (by omega)
      refine ⟨k + 1, fun hp => ?_⟩
      show c87l34b _ _ _ _ _ _ _ _ _ _ _
      unfold c87l34b
      refine pQ_r (o_iaL hi0 hrow rfl) ?_
      refine zv ?_
      refine cond_i (fun _ => ?_) (fun h9 => ?_)
      · refine pQ_r (o_iaL hi0 hrow rfl) ?_
        refine zv ?_
        refine pQ_r (o_iaL h0 hrowj rfl) ?_
        refine zv ?_
        refine pCall_i (has_pc S _ hS) rfl rfl rfl rfl ?_
        rw [hh]
        refine zv ?_
        refine gq_f (o_iaL hi0 hrow rfl) ?_
        refine zv ?_
        refine cond_i (fun h => ?_) (fun _ => ?_)
        · rw [hne] at h; cases h
        · refine zv ?_
          rw [hwj]
          exact hk hp
      · have := of_decide_eq_false h9; rw [List.length_map] at this; omega
  have outer : ∀ (c : Nat) (i : Int), 0 ≤ i → l.length - i = c → ∃ k, ∀ hp, c87l0 0 1 (fun r c => ∃ e' a', c = [ck N e' a'] ∧ r = .tuple [] ∧ e' = 0 ∧ a' = a) k (.ptr 0 0) (.lst (l.map Var.row)) (.lst (S.map nameRow)) (.int .i64 i) (stL [.box (ck N 0 a)] hp 1) := by
    intro c
    induction c with
    | zero =>
      intro i h0 hc
      refine ⟨1, fun hp => ?_⟩
      show c87l0b _ _ _ _ _ _ _ _ _
      unfold c87l0b
      refine zv ?_
      refine and_E rfl ?_
      refine cond_i (fun h => ?_) (fun _ => ?_)
      · simp only [Bool.and_eq_true, decide_eq_true_eq, List.length_map] at h
        omega
      · exact fin_i rfl rfl rfl ⟨_, _, rfl, rfl, rfl, rfl⟩
    | succ c ih =>
      intro i h0 hc'
      have hlt : i < l.length := by omega
      obtain ⟨k, hk⟩ := ih (i + 1) (by omega) (by omega)
      obtain ⟨k2, hk2⟩ := inner (Q := fun r c => ∃ e' a', c = [ck N e' a'] ∧ r = .tuple [] ∧ e' = 0 ∧ a' = a) (c87l0 0 1 _ k) i h0 hlt _ (var_rows h0 hlt) (hw _ (List.getElem_mem _)) (hc _ (List.getElem_mem _)) hk _ 0 (by omega) (by rw [Int.sub_zero])
      refine ⟨k + 1, fun hp => ?_⟩
      show c87l0b _ _ _ _ _ _ _ _ _
      unfold c87l0b
      refine zv ?_
      refine and_E rfl ?_
      refine cond_i (fun _ => ?_) (fun h => ?_)
      · exact ⟨k2, hk2 hp⟩
      · simp at h
        omega
  obtain ⟨k, hk⟩ := outer l.length 0 (by omega) (by omega)
  refine c87_pq 0 rfl _ _ _ ?_
  unfold c87
  exact ⟨k, stL_to1 (c87l0 0 1 _ k _ _ _ _) rfl rfl fun hp' => hk hp'⟩
theorem clockStates_ok {l : List Item} (hl : l.length ≤ 100000) (hst : ∀ x ∈ l, x.states = []) : CP N 88 [.lst (l.map Item.row), .lst (S.map nameRow)] (.tuple []) := by
  refine CP.mk fun a => ?_
  have outer : ∀ (c : Nat) (i : Int), 0 ≤ i → l.length - i = c → ∃ K, ∀ s, L88 N 0 a s → c88l0 0 1 (fun r c => ∃ e' a', c = [ck N e' a'] ∧ r = .tuple [] ∧ e' = 0 ∧ a' = a) K (.ptr 0 0) (.lst (l.map Item.row)) (.lst (S.map nameRow)) (.int .i64 i) s := by
    intro c
    induction c with
    | zero =>
      intro i h0 hc
      refine ⟨1, fun s h => ?_⟩
      have h00 := h.h0
      show c88l0b _ _ _ _ _ _ _ _ _
      unfold c88l0b
      refine zv ?_
      refine cond_i (fun h9 => ?_) (fun _ => ?_)
      · have := of_decide_eq_true h9; rw [List.length_map] at this; omega
      · exact fin_i rfl rfl (gb0 zh rfl) ⟨_, _, rfl, rfl, rfl, rfl⟩
    | succ c ih =>
      intro i h0 hc'
      have hlt : i < l.length := by omega
      have hwi : IntKind.i64.wrap (i + 1) = i + 1 := wrap64 (by omega) (by omega)
      have hrow := item_rows h0 hlt
      have hs := hst (l[i.toNat]'(by omega)) (List.getElem_mem _)
      have hr10 := Item.r10 (l[i.toNat]'(by omega))
      rw [hs] at hr10
      have hrl := Item.row_len (l[i.toNat]'(by omega))
      generalize (l[i.toNat]'(by omega)).row = row at hrow hr10 hrl
      obtain ⟨K, hK⟩ := ih (i + 1) (by omega) (by omega)
      refine ⟨K + 1, fun s h => ?_⟩
      have h00 := h.h0
      show c88l0b _ _ _ _ _ _ _ _ _
      unfold c88l0b
      refine zv ?_
      refine cond_i (fun _ => ?_) (fun h9 => ?_)
      · refine ⟨1, ?_⟩
        show c88l22b _ _ _ _ _ _ _ _ _ _ _
        unfold c88l22b
        refine pQ_r (o_iaL h0 hrow hrl) ?_
        refine zv ?_
        refine pQ_r (o_load1E hr10) ?_
        refine zv ?_
        rw [hwi]
        exact hK s h
      · have := of_decide_eq_false h9; rw [List.length_map] at this; omega
  obtain ⟨K, hK⟩ := outer l.length 0 (by omega) (by omega)
  refine c88_pq 0 rfl _ _ _ ?_
  unfold c88
  exact ⟨K, hK _ ⟨zh, by simp [initSt_next]⟩⟩
end
end Go.Vi
namespace Go.Vi
open Go.Proofs
structure NodeOk (n : Node) (ns : List ByteArray) : Prop where
  len : n.all.length ≤ 1000
  dist : Dist n.vars
  items : FIs n.vars ns n.items
  nlen : ns.length ≤ 1000
  may : ∀ w ∈ ns, has n.may w = true
  ndist : ∀ (q : Nat) (h : q < ns.length), has (ns.take q) ns[q] = false
  miss : ∀ (q : Nat) (h : q < n.all.length), n.ins.length ≤ q → has ns n.all[q].name = true
  clk : ∀ v ∈ n.locals, ClkT n.vars v ∧ v.clock.length ≤ 100000
theorem FIs.states {S : List ByteArray} {ns : List ByteArray} {l : List Item} (h : FIs S ns l) : ∀ x ∈ l, x.states = [] := by
  intro x hx
  obtain ⟨q, hq, rfl⟩ := List.getElem_of_mem hx
  obtain ⟨n, _, e, at', _, h2⟩ := h.at q _ (List.getElem?_eq_getElem hq)
  rw [h2]; rfl
attribute [local irreducible] qAsg qPick qBox qBuild qBsl qLoad1 qLoadN qStore qNil qBin qUn qConv qSlS qSlL qFA qF1 qFN qIA qIS qEx qLenS qLenL qApp pQ pQL pGL pCall pCallL condP optP pEnd OpS Int.instDecidableEq Int.decEq instBEqOfDecidableEq
attribute [local irreducible] c54j10 c54j72 c54j185 c54j248 c54j151 c54j295
section
variable {N : List Node} {n : Node} {ns : List ByteArray} {Q : PV → List (List PV) → Prop}
theorem ok_clocks (h : NodeOk n ns) {a : Int} (hQ : Q (.tuple [.int .i64 a, .int .i64 0]) []) (hN : N = [n]) :
    ∃ K, ∀ (bn bv eo : Nat) (s : St), L54 N 0 a bn n.rowL n.vars bv eo s → c54j185 0 0 Q (c54l45 0 0 Q K) (.ptr 0 0) (.ptr 1 0) (.int .i64 0) (.ptr bn 0) (.acc bv (n.vars.map nameRow)) s := by
  have hlen := h.len
  have hvl : n.vars.length = n.all.length := by simp [Node.vars]
  have hll : n.locals.length ≤ n.all.length := by simp [Node.all]; omega
  have hpc1 := clockNames_ok (N := N) (S := n.vars) (l := n.locals) (by omega) (by omega) (fun v hv => (h.clk v hv).2) (fun v hv => (h.clk v hv).1) a
  have hpc2 := clockStates_ok (N := N) (S := n.vars) (l := n.items) (by rw [h.items.len]; have := h.nlen; omega) h.items.states a
  have hwi : IntKind.i64.wrap (0 + 1) = 1 := wrap64 (by omega) (by omega)
  have fin : ∃ K, ∀ s, s.heap 0 = some (.box [.lst (N.map Node.row)]) → s.heap 1 = some (.box (ck N 0 a)) → c54l45 0 0 Q K (.ptr 0 0) (.ptr 1 0) (.int .i64 1) s := by
    refine ⟨1, fun s h1 h2 => ?_⟩
    show c54l45b _ _ _ _ _ _ _ _
    unfold c54l45b
    refine zv ?_
    refine and_E1 zh ?_
    refine cond_i (fun h9 => ?_) (fun _ => end54 zh hQ)
    subst hN
    simp at h9
  obtain ⟨K, hK⟩ := fin
  refine ⟨K, fun bn bv eo s h => ?_⟩
  have hpp := h.hp
  have hcc := h.hc
  have hnn := h.hn
  obtain ⟨n1, n2⟩ := h.n0
  have hlt := h.lt
  unfold c54j185
  refine zv ?_
  refine pCall_i hpc1 rfl rfl (gb1 zh rfl) rfl ?_
  refine zv ?_
  rw [eq00]
  refine zv ?_
  refine pCall_i hpc2 rfl rfl (gb1 zh rfl) rfl ?_
  unfold c54j72
  refine zv ?_
  rw [hwi]
  exact hK _ zh zh
theorem ok_missing (h : NodeOk n ns) {a : Int} {K : Nat} (hK : ∀ (bn bv eo : Nat) (s : St), L54 N 0 a bn n.rowL n.vars bv eo s → c54j185 0 0 Q (c54l45 0 0 Q K) (.ptr 0 0) (.ptr 1 0) (.int .i64 0) (.ptr bn 0) (.acc bv (n.vars.map nameRow)) s) :
    ∀ (c : Nat) (j : Int), n.ins.length ≤ j → n.all.length - j = c → ∃ k, ∀ (ba bd bn bv eo : Nat) (s : St), L54 N 0 a bn n.rowL n.vars bv eo s → c54l220 0 0 Q (c54l45 0 0 Q K) k (.ptr 0 0) (.ptr 1 0) (.int .i64 0) (.ptr bn 0) (.acc ba (n.all.map Var.row)) (.acc bv (n.vars.map nameRow)) (.acc bd (ns.map nameRow)) (.int .i64 j) s := by
  have hlen := h.len
  have hnl := h.nlen
  intro c
  induction c with
  | zero =>
    intro j h0 hc
    refine ⟨1, fun ba bd bn bv eo s h => ?_⟩
    have hcc := h.hc
    show c54l220b _ _ _ _ _ _ _ _ _ _ _ _ _ _
    unfold c54l220b
    refine zv ?_
    refine and_E1 zh ?_
    refine cond_i (fun h9 => ?_) (fun _ => hK bn bv eo s h)
    simp only [Bool.and_eq_true, decide_eq_true_eq, List.length_map, beq_iff_eq] at h9
    omega
  | succ c ih =>
    intro j h0 hc
    have hlt : j < n.all.length := by omega
    have hj0 : 0 ≤ j := by omega
    have hwj : IntKind.i64.wrap (j + 1) = j + 1 := wrap64 (by omega) (by omega)
    have hrow := var_rows hj0 hlt
    have hh := h.miss j.toNat (by omega) (by omega)
    obtain ⟨k, hk⟩ := ih (j + 1) (by omega) (by omega)
    refine ⟨k + 1, fun ba bd bn bv eo s h => ?_⟩
    have hcc := h.hc
    show c54l220b _ _ _ _ _ _ _ _ _ _ _ _ _ _
    unfold c54l220b
    refine zv ?_
    refine and_E1 zh ?_
    refine cond_i (fun _ => ?_) (fun h9 => ?_)
    case refine_2 => simp at h9; omega
    refine pQ_r (o_iaA hj0 hrow rfl) ?_
    refine zv ?_
    refine pCall_i (has_pc _ _ (by omega)) rfl rfl rfl rfl ?_
    rw [hh]
    refine zv ?_
    unfold c54j248
    refine zv ?_
    rw [hwj]
    exact hk ba bd bn bv eo s h
theorem ok_body (h : NodeOk n ns) {a : Int} (hQ : Q (.tuple [.int .i64 a, .int .i64 0]) []) (hN : N = [n]) :
    ∃ K, ∀ (ba bn bv eo : Nat) (s : St), L54 N 0 a bn n.rowL n.vars bv eo s → c54j151 0 0 Q (c54l45 0 0 Q K) (.ptr 0 0) (.ptr 1 0) (.int .i64 0) (.ptr bn 0) (.acc ba (n.all.map Var.row)) (.acc bv (n.vars.map nameRow)) s := by
  have hlen := h.len
  have hvl : n.vars.length = n.all.length := by simp [Node.vars]
  have hml : n.may.length ≤ n.vars.length := by simp [Node.may]
  have hil : n.ins.length ≤ n.all.length := by simp [Node.all]
  have hpc := list_fi (N := N) (nd := 0) (S := n.vars) (M := n.may) (by omega) (by omega) h.items h.nlen h.may h.ndist a
  obtain ⟨K, hK⟩ := ok_clocks (N := N) h hQ hN
  obtain ⟨k, hk⟩ := ok_missing (N := N) h hK (n.all.length - n.ins.length) n.ins.length (by omega) (by omega)
  refine ⟨K, fun ba bn bv eo s h => ?_⟩
  have hpp := h.hp
  have hcc := h.hc
  have hnn := h.hn
  have hvv := h.hv
  obtain ⟨n1, n2⟩ := h.n0
  obtain ⟨v1, v2, v3⟩ := h.v0
  obtain ⟨l1, l2, l3⟩ := h.lt
  unfold c54j151
  refine zv ?_
  rw [ne00]
  refine zv ?_
  refine pQ_r (o_slL (r1 := []) (r2 := []) (a := some n.ins.length) (c := none) rfl (by simp [takeB, natOf]) rfl (Nat.le_refl _) (by simp; omega) (all_len name_rows_len)) ?_
  have hsl : ((n.vars.map nameRow).drop ((some n.ins.length).getD 0)).take ((none : Option Nat).getD (n.vars.map nameRow).length - (some n.ins.length).getD 0) = n.may.map nameRow := by
    simp only [Option.getD_some, Option.getD_none]
    rw [List.take_of_length_le (by simp)]
    simp [Node.may, List.map_drop]
  rw [hsl]
  refine zv ?_
  refine pCall_i hpc rfl rfl (gb1 zh rfl) rfl ?_
  refine zv ?_
  simp only [List.length_map]
  exact ⟨k, hk ba s.next bn bv eo _ ((h.ck 0 a).new _)⟩
theorem ok_names (h : NodeOk n ns) {a : Int} {K : Nat} (hK : ∀ (ba bn bv eo : Nat) (s : St), L54 N 0 a bn n.rowL n.vars bv eo s → c54j151 0 0 Q (c54l45 0 0 Q K) (.ptr 0 0) (.ptr 1 0) (.int .i64 0) (.ptr bn 0) (.acc ba (n.all.map Var.row)) (.acc bv (n.vars.map nameRow)) s) :
    ∀ (c : Nat) (j : Int), 0 ≤ j → n.all.length - j = c →
      ∃ k, ∀ (ba bn bv eo : Nat) (s : St), L54 N 0 a bn n.rowL (n.vars.take j.toNat) bv eo s → c54l280 0 0 Q (c54l45 0 0 Q K) k (.ptr 0 0) (.ptr 1 0) (.int .i64 0) (.ptr bn 0) (.acc ba (n.all.map Var.row)) (.acc bv ((n.vars.take j.toNat).map nameRow)) (.int .i64 j) s := by
  have hlen := h.len
  have hvl : n.vars.length = n.all.length := by simp [Node.vars]
  intro c
  induction c with
  | zero =>
    intro j h0 hc
    have htake : n.vars.take j.toNat = n.vars := List.take_of_length_le (by omega)
    rw [htake]
    refine ⟨1, fun ba bn bv eo s h => ?_⟩
    show c54l280b _ _ _ _ _ _ _ _ _ _ _ _ _
    unfold c54l280b
    refine zv ?_
    refine cond_i (fun h9 => ?_) (fun _ => hK ba bn bv eo s h)
    have := of_decide_eq_true h9; rw [List.length_map] at this; omega
  | succ c ih =>
    intro j h0 hc
    have hlt : j < n.all.length := by omega
    have hwj : IntKind.i64.wrap (j + 1) = j + 1 := wrap64 (by omega) (by omega)
    have hrow := var_rows h0 hlt
    have hvj : n.vars[j.toNat]'(by omega) = (n.all[j.toNat]'(by omega)).name := by simp [Node.vars]
    have htk : n.vars.take (j + 1).toNat = n.vars.take j.toNat ++ [(n.all[j.toNat]'(by omega)).name] := by
      rw [show (j + 1).toNat = j.toNat + 1 by omega, List.take_succ_eq_append_getElem (by omega), hvj]
    have hrow2 : (n.vars.take (j + 1).toNat).map nameRow = (n.vars.take j.toNat).map nameRow ++ [[.str (n.all[j.toNat]'(by omega)).name]] := by rw [htk, List.map_append]; rfl
    have hd : has (n.vars.take j.toNat) (n.all[j.toNat]'(by omega)).name = false := by have := h.dist j.toNat (by omega); rwa [hvj] at this
    obtain ⟨k, hk⟩ := ih (j + 1) (by omega) (by omega)
    rw [hrow2] at hk
    refine ⟨k + 1, fun ba bn bv eo s h => ?_⟩
    have hpp := h.hp
    have hcc := h.hc
    have hnn := h.hn
    have hvv := h.hv
    obtain ⟨n1, n2⟩ := h.n0
    obtain ⟨v1, v2, v3⟩ := h.v0
    obtain ⟨l1, l2, l3⟩ := h.lt
    show c54l280b _ _ _ _ _ _ _ _ _ _ _ _ _
    unfold c54l280b
    refine zv ?_
    refine cond_i (fun _ => ?_) (fun h9 => ?_)
    case refine_2 => have := of_decide_eq_false h9; rw [List.length_map] at this; omega
    refine pQ_r (o_iaA h0 hrow rfl) ?_
    refine zv ?_
    refine pCall_i (has_pc _ _ (by simp; omega)) rfl rfl rfl rfl ?_
    rw [hd]
    refine zv ?_
    unfold c54j295
    refine pQ_r (o_iaA h0 hrow rfl) ?_
    refine zv ?_
    refine pQ_r (o_app rfl rfl (fits_small (by simp; omega) (by omega)) (all_len name_rows_len) zh (h.ho.imp (fun h => by rw [h]; rfl) (fun h => h.symm))) ?_
    refine zv ?_
    rw [hwj]
    refine hk ba bn bv 1 _ ⟨zh, zh, zh, ?_, .inr rfl, h.n0, h.v0, l1, l2, l3⟩
    rw [hrow2, List.length_append]
    exact zh
theorem names_ok (h : NodeOk n ns) : PC Tryz.prog 54 [.agg [.lst [n.row]]] [] (.tuple [.int .i64 0, .int .i64 0]) [] := by
  have hlen := h.len
  have hrow : ([n].map Node.row)[(0 : Int).toNat]? = some n.row := rfl
  have hal : n.all.length = n.ins.length + n.outs.length + n.locals.length := by simp [Node.all]; omega
  have hrow1 : n.ins.map Var.row ++ n.outs.map Var.row ++ n.locals.map Var.row = n.all.map Var.row := by simp [Node.all]
  have hnd : PC Tryz.prog 84 [.agg [.lst ([n].map Node.row)], .str n.name, .int .i64 0] [] (.int .i64 (-1)) [] := by
    obtain ⟨r, hr, hi⟩ := node_pc [n] (by simp) n.name 0
    rcases hi with ⟨h1, h2, _⟩ | ⟨rfl, _⟩
    · omega
    · exact hr
  have : PQ Tryz.prog 54 [.agg [.lst ([n].map Node.row)]] [] (fun r c => r = .tuple [.int .i64 0, .int .i64 0] ∧ c = []) := by
    obtain ⟨K, hK⟩ := ok_body (N := [n]) (a := 0) (Q := fun r c => r = .tuple [.int .i64 0, .int .i64 0] ∧ c = []) h ⟨rfl, rfl⟩ rfl
    obtain ⟨k, hk⟩ := ok_names (N := [n]) (a := 0) h hK n.all.length 0 (by omega) (by omega)
    have main : ∃ K, ∀ s, s.heap 0 = some (.box [.lst ([n].map Node.row)]) → s.heap 1 = some (.box (ck [n] 0 0)) → 1 < s.next → c54l45 0 0 (fun r c => r = .tuple [.int .i64 0, .int .i64 0] ∧ c = []) K (.ptr 0 0) (.ptr 1 0) (.int .i64 0) s := by
      refine ⟨K + 1, fun s h1 h2 h3 => ?_⟩
      show c54l45b _ _ _ _ _ _ _ _
      unfold c54l45b
      refine zv ?_
      rw [eq00]
      refine zv ?_
      refine pQ_r (o_iaL (by omega) hrow (Node.row_len _)) ?_
      refine pQ_r (o_loadAE (Node.row_len _)) ?_
      rw [Node.rowc]
      refine zv ?_
      refine pCall_i hnd rfl rfl rfl rfl ?_
      refine zv ?_
      refine pQL_r (o_appN rfl (all_len vrow_len) (fits_small (by simp; omega) (by omega)) zn) ?_
      refine zv ?_
      refine pQL_r (o_app rfl (all_len vrow_len) (fits_small (by simp; omega) (by omega)) (all_len vrow_len) zh (.inr rfl)) ?_
      refine zv ?_
      refine pQL_r (o_app rfl (all_len vrow_len) (fits_small (by simp; omega) (by omega)) (by rw [← List.map_append]; exact all_len vrow_len) (by rw [List.length_append]; exact zh) (.inr rfl)) ?_
      rw [hrow1]
      refine zv ?_
      refine ⟨?_, ?_⟩
      · simp only [new_next, set_next, place_int, set0, dN, ids_self, ids_succ, List.nil_append, List.append_nil]
        simp [clashesB, clashInB, clashB]
        exact ⟨by kernel_rfl, by kernel_rfl, by kernel_rfl⟩
      refine zv ?_
      have h8 := hk
      simp only [Int.toNat_zero, List.take_zero] at h8
      exact ⟨k, h8 _ s.next _ 0 _ ⟨zh, zh, zh, zh, .inl rfl, by omega, (by first | omega | (simp only [new_next, set_next, place_int, set0]; omega)), (by first | omega | (simp only [new_next, set_next, place_int, set0]; omega))⟩⟩
    obtain ⟨K2, hK2⟩ := main
    refine c54_pq 0 rfl _ ?_
    unfold c54
    refine zv ?_
    exact ⟨K2, hK2 _ zh zh (by simp only [new_next, initSt_next, set_next]; omega)⟩
  obtain ⟨r, c, hpc, rfl, rfl⟩ := this
  exact hpc
end
end Go.Vi
namespace Go.Vi
open Go.Proofs
theorem bin_gt : PC Tryz.prog 112 [.int .i64 18, .int .i64 2, .int .i64 0, .int .i64 0] [] (.tuple [.int .i64 0, .int .i64 1, .bool true]) [] :=
  pc_of_eval (l := [18, 2, 0, 0]) (r := [.int .i64 0, .int .i64 1, .bool true]) (n := 60) (by kernel_rfl)
def TyOf (V : List Var) (w : ByteArray) (t : Int × Int) : Prop := has (V.map Var.name) w = true ∧ ∀ v ∈ V, v.name.toList = w.toList → v.ty = t
inductive TE (V : List Var) : Int × Int → Exp → Prop
  | lit (s tk tl n m : Int) (nm : ByteArray) (at' : Int) : TE V (tk, tl) (.mk 1 s nm tk tl n m [] at')
  | var (s tk tl n m : Int) (nm : ByteArray) (at' : Int) (t : Int × Int) : TyOf V nm t → TE V t (.mk 2 s nm tk tl n m [] at')
  | gt (tk tl n m : Int) (nm : ByteArray) (at' : Int) (x y : Exp) : TE V (2, 0) x → TE V (2, 0) y → TE V (1, 0) (.mk 4 18 nm tk tl n m [x, y] at')
  | wh (s tk tl n m : Int) (nm : ByteArray) (at' : Int) (x : Exp) (t : Int × Int) : TyOf V nm (1, 0) → TE V t x → TE V t (.mk 9 s nm tk tl n m [x] at')
theorem tyNe_self (t : Int × Int) : tyNe t t = false := by simp [tyNe]
theorem tyOf_find {V : List Var} {w : ByteArray} {t : Int × Int} (h : TyOf V w t) {r : Int} (hr : IsVar V w r) : ∃ (h0 : 0 ≤ r) (h1 : r < V.length), (V[r.toNat]'(by omega)).ty = t := by
  obtain ⟨h0, h1⟩ := hr.has h.1
  rcases hr with ⟨_, v, hv, hn⟩ | ⟨rfl, _⟩
  · obtain ⟨hlt, he⟩ := List.getElem?_eq_some_iff.1 hv
    exact ⟨h0, h1, by rw [he]; exact h.2 v (by rw [← he]; exact List.getElem_mem _) hn⟩
  · omega
attribute [local irreducible] qAsg qPick qBox qBuild qBsl qLoad1 qLoadN qStore qNil qBin qUn qConv qSlS qSlL qFA qF1 qFN qIA qIS qEx qLenS qLenL qApp pQ pQL pGL pCall pCallL condP optP pEnd OpS Int.instDecidableEq Int.decEq instBEqOfDecidableEq
attribute [local irreducible] c92j28 c92j126 c92j205 c92j280 c92j361 c92j398 c92j447 c92j528 c92j552 c92j619 c92j650 c92j714 c92j773 c92j588 c92j351 c92j6 c110j10
section
variable {N : List Node} {V : List Var} {a at' : Int} {Q : PV → List (List PV) → Prop} {xr : List PV} {bt bk : Nat} {t : Int × Int} {s : St} {K : List (Int × Int)}
theorem t_28 (hQ : Q (.lst [tyRow t]) [ck N 0 a]) (h : L92 N 0 a xr bt t s) : c92j28 0 1 Q (.ptr 0 0) (.ptr 1 0) (.int .i64 0) (.ptr bt 0) s := by
  have h00 := h.h0
  have htt := h.ht
  unfold c92j28
  refine zv ?_
  rw [ne00]
  refine zv ?_
  exact fin_i rfl rfl (gb0 zh rfl) hQ
theorem t_398 (hQ : Q (.lst [tyRow t]) [ck N 0 a]) {u : Int × Int} (h : L92 N 0 a xr bt u s) : c92j398 0 1 Q (.ptr 0 0) (.ptr 1 0) (.acc bk ([t].map tyRow)) (.int .i64 0) (.ptr bt 0) s := by
  have htt := h.ht
  unfold c92j398
  refine pQ_r (o_iaA (row := tyRow t) (by omega) rfl rfl) ?_
  refine zv ?_
  exact t_28 (t := t) hQ (h.ty t)
theorem t_205 {k : Int} (hQ : Q (.lst [tyRow (k, 0)]) [ck N 0 a]) (h : L92 N 0 a xr bt (0, 0) s) : c92j205 0 1 Q (.ptr 0 0) (.ptr 1 0) (.int .i64 0) (.ptr bt 0) (.int .i64 k) s := by
  have htt := h.ht
  unfold c92j205
  refine zv ?_
  exact t_28 (t := (k, 0)) hQ (h.ty (k, 0))
theorem t_forms (hV : V.length ≤ 100000) {f s1 tk tl i m : Int} {nm : ByteArray} {kids : List Exp} (hf : (f = 1 ∧ t = (tk, tl)) ∨ (f = 2 ∧ TyOf V nm t) ∨ (f = 4 ∧ s1 = 18 ∧ K = [(2, 0), (2, 0)] ∧ t = (1, 0)) ∨ (f = 9 ∧ TyOf V nm (1, 0) ∧ K = [t]))
    (hQ : Q (.lst [tyRow t]) [ck N 0 a]) (h0 : s.heap 0 = some (.box (ck N 0 a))) (h1 : s.heap 1 = some (.box (xrow f s1 nm tk tl i m kids at'))) (hlt : 3 < s.next) : c92j6 0 1 Q (.ptr 0 0) (.lst (V.map Var.row)) (.ptr 1 0) (.acc bk (K.map tyRow)) s := by
  obtain ⟨rv, hrv, hisv⟩ := find_pc V hV nm
  unfold c92j6
  refine zv ?_
  rw [ne00]
  refine zv ?_
  have h : L92 N 0 a (xrow f s1 nm tk tl i m kids at') s.next (0, 0) ((s.new (Obj.box [.int .i64 0, .int .i64 0])).set s.next (Obj.box [.int .i64 0, .int .i64 0])) :=
    ⟨zh, zh, zh, by simp only [new_next, set_next]; omega⟩
  generalize (s.new (Obj.box [.int .i64 0, .int .i64 0])).set s.next (Obj.box [.int .i64 0, .int .i64 0]) = s' at h
  have hbt := h.lt
  generalize s.next = bt at h hbt
  have h00 := h.h0
  have h11 := h.h1
  have htt := h.ht
  refine zv ?_
  rcases hf with ⟨rfl, rfl⟩ | ⟨rfl, ht⟩ | ⟨rfl, rfl, rfl, rfl⟩ | ⟨rfl, ht, rfl⟩
  · simp only [Int.reduceBEq]
    refine zv ?_
    refine pQ_r (o_loadNP (v := .agg (tyRow (tk, tl))) zh rfl) ?_
    refine zv ?_
    exact t_28 (t := (tk, tl)) hQ (h.ty (tk, tl))
  · obtain ⟨q0, q1, q2⟩ := tyOf_find ht hisv
    have hrow := var_rows q0 q1
    generalize V[rv.toNat]'(by omega) = v at hrow q2
    simp only [Int.reduceBEq]
    refine zv ?_
    simp only [Int.reduceBEq]
    refine zv ?_
    refine pCall_i hrv rfl rfl rfl rfl ?_
    refine pQ_r (o_iaL q0 hrow rfl) ?_
    refine zv ?_
    subst q2
    exact t_28 (t := v.ty) hQ (h.ty v.ty)
  · simp only [Int.reduceBEq]
    refine zv ?_
    simp only [Int.reduceBEq]
    refine zv ?_
    simp only [Int.reduceBEq]
    refine zv ?_
    simp only [Int.reduceBEq]
    refine zv ?_
    refine pQL_r (o_iaA (row := tyRow (2, 0)) (by omega) rfl rfl) ?_
    refine zv ?_
    refine pCallL_i bin_gt rfl rfl rfl rfl ?_
    refine zv ?_
    refine ⟨zc, ?_⟩
    refine zv ?_
    refine gq_f (o_iaA (row := tyRow (2, 0)) (by omega) rfl rfl) ?_
    refine zv ?_
    refine gq_f (o_iaA (row := tyRow (2, 0)) (by omega) rfl rfl) ?_
    refine zv ?_
    refine gq_f (o_iaA (row := tyRow (2, 0)) (by omega) rfl rfl) ?_
    refine zv ?_
    refine gq_f (o_neqT (t := (2, 0)) (u := (2, 0))) ?_
    rw [tyNe_self]
    refine zv ?_
    refine ⟨zc, ?_⟩
    refine zv ?_
    exact t_205 hQ h
  · obtain ⟨q0, q1, q2⟩ := tyOf_find ht hisv
    have hrow := var_rows q0 q1
    generalize V[rv.toNat]'(by omega) = v at hrow q2
    simp only [Int.reduceBEq]
    refine zv ?_
    simp only [Int.reduceBEq]
    refine zv ?_
    simp only [Int.reduceBEq]
    refine zv ?_
    simp only [Int.reduceBEq]
    refine zv ?_
    simp only [Int.reduceBEq]
    refine zv ?_
    simp only [Int.reduceBEq]
    refine zv ?_
    simp only [Int.reduceBEq]
    refine zv ?_
    simp only [Int.reduceBEq]
    refine zv ?_
    unfold c92j351
    refine zv ?_
    simp only [Int.reduceBEq]
    refine zv ?_
    refine pCallL_i hrv rfl rfl rfl rfl ?_
    refine pQL_r (o_iaL q0 hrow rfl) ?_
    refine zv ?_
    refine pCallL_i bool1_pc rfl rfl rfl rfl ?_
    refine pQL_r (o_neqT (t := v.ty) (u := (1, 0))) ?_
    rw [q2, tyNe_self]
    refine ⟨zc, ?_⟩
    refine zv ?_
    exact t_398 hQ h
end
end Go.Vi
namespace Go.Vi
open Go.Proofs
attribute [local irreducible] qAsg qPick qBox qBuild qBsl qLoad1 qLoadN qStore qNil qBin qUn qConv qSlS qSlL qFA qF1 qFN qIA qIS qEx qLenS qLenL qApp pQ pQL pGL pCall pCallL condP optP pEnd OpS Int.instDecidableEq Int.decEq instBEqOfDecidableEq
attribute [local irreducible] c92j28 c92j126 c92j205 c92j280 c92j361 c92j398 c92j447 c92j528 c92j552 c92j619 c92j650 c92j714 c92j773 c92j588 c92j351 c92j6 c110j10
section
variable {N : List Node} {V : List Var} {t : Int × Int}
theorem one_te {x : Exp} (h : CP N 92 [.agg x.row, .lst (V.map Var.row)] (.lst [tyRow t])) : CP N 110 [.agg x.row, .lst (V.map Var.row)] (.agg (tyRow t)) := by
  refine CP.mk fun a => ?_
  have hpc := h a
  obtain ⟨at', hr8⟩ := x.r8
  have hsc := x.scal
  have hxl := x.row_len
  refine c110_pq 0 rfl _ _ _ ?_
  unfold c110
  refine pQ_r (o_boxA (Exp.scal _) zn) ?_
  refine zv ?_
  refine pQ_r (o_loadAP zh hxl) ?_
  refine pCall_i hpc (args_exp rfl) rfl (gb0 zh rfl) rfl ?_
  refine zv ?_
  rw [eq00]
  refine zv ?_
  refine cond_i (fun h => by simp at h) (fun _ => ?_)
  unfold c110j10
  refine zv ?_
  rw [ne00]
  refine zv ?_
  refine pQ_r (o_iaL (row := tyRow t) (by omega) rfl rfl) ?_
  refine zv ?_
  exact fin_i (resL1 (o_cellR zo)) rfl (gb0 zh rfl) ⟨_, _, rfl, rfl, rfl, rfl⟩
theorem types_of {f s1 tk tl i m at' : Int} {nm : ByteArray} {kids : List Exp} {K : List (Int × Int)} (hV : V.length ≤ 100000) (hf : (f = 1 ∧ t = (tk, tl)) ∨ (f = 2 ∧ TyOf V nm t) ∨ (f = 4 ∧ s1 = 18 ∧ K = [(2, 0), (2, 0)] ∧ t = (1, 0)) ∨ (f = 9 ∧ TyOf V nm (1, 0) ∧ K = [t]))
    (hl : K.length = kids.length) (hkl : kids.length ≤ 1000) (hk : ∀ (q : Nat) (h : q < kids.length), CP N 92 [.agg (kids[q]).row, .lst (V.map Var.row)] (.lst [tyRow (K[q]'(by omega))])) : CP N 92 [.agg (Exp.mk f s1 nm tk tl i m kids at').row, .lst (V.map Var.row)] (.lst [tyRow t]) := by
  have hkr : (Exp.rows kids).length = kids.length := by rw [Exp.rows_map, List.length_map]
  refine CP.mk fun a => ?_
  have loop : ∀ (c j : Nat), kids.length - j = c → j ≤ kids.length → ∃ k, ∀ (eo : Nat) (s : St), L92k N 0 a (xrow f s1 nm tk tl i m kids at') (K.take j) eo s →
      c92l858 0 1 (fun r c => ∃ e' a', c = [ck N e' a'] ∧ r = .lst [tyRow t] ∧ e' = 0 ∧ a' = a) k (.ptr 0 0) (.lst (V.map Var.row)) (.ptr 1 0) (.acc 3 ((K.take j).map tyRow)) (.int .i64 j) s := by
    intro c
    induction c with
    | zero =>
      intro j hc hj
      have hj : j = kids.length := by omega
      subst hj
      rw [show K.take kids.length = K from List.take_of_length_le (by omega)]
      refine ⟨1, fun eo s h => ?_⟩
      have h00 := h.h0
      have h11 := h.h1
      show c92l858b _ _ _ _ _ _ _ _ _ _
      unfold c92l858b
      refine zv ?_
      refine and_E zh ?_
      refine cond_i (fun h9 => ?_) (fun _ => ?_)
      · simp [hkr] at h9
      · exact t_forms hV hf ⟨_, _, rfl, rfl, rfl, rfl⟩ h.h0 h.h1 h.lt
    | succ c ih =>
      intro j hc hj
      have hlt : j < kids.length := by omega
      have hwj : IntKind.i64.wrap ((j : Int) + 1) = ((j + 1 : Nat) : Int) := by rw [wrap64 (by omega) (by omega)]; omega
      have hpc := one_te (hk j hlt) a
      have htk : K.take (j + 1) = K.take j ++ [K[j]'(by omega)] := by rw [List.take_succ_eq_append_getElem (by omega)]
      obtain ⟨k, hk2⟩ := ih (j + 1) (by omega) (by omega)
      have hrow2 : (K.take (j + 1)).map tyRow = (K.take j).map tyRow ++ [tyRow (K[j]'(by omega))] := by rw [htk, List.map_append]; rfl
      have hrow := exp_rows (l := kids) (i := (j : Int)) (by omega) (by omega)
      have hg : kids[(j : Int).toNat]'(by omega) = kids[j] := rfl
      rw [hg] at hrow
      refine ⟨k + 1, fun eo s h => ?_⟩
      have h00 := h.h0
      have h11 := h.h1
      have h33 := h.h3
      have hlt3 := h.lt
      show c92l858b _ _ _ _ _ _ _ _ _ _
      unfold c92l858b
      refine zv ?_
      refine and_E zh ?_
      refine cond_i (fun _ => ?_) (fun h9 => ?_)
      case refine_2 => simp [hkr] at h9; omega
      refine zv ?_
      refine pQ_r (o_iaL (by omega) hrow (Exp.row_len _)) ?_
      refine pQ_r (o_loadAE (Exp.row_len _)) ?_
      refine pCall_i hpc (args_exp rfl) rfl (gb0 zh rfl) rfl ?_
      refine zv ?_
      refine pQ_r (o_app rfl rfl (fits_small (by simp; omega) (by omega)) (all_len ty_len) zh (h.ho.imp (fun h => by rw [h]; rfl) (fun h => h.symm))) ?_
      refine zv ?_
      rw [hwj]
      have h8 := hk2 2 ((s.set 0 (.box (ck N 0 a))).set 3 (.own (((K.take j).map tyRow).length + 1) 2)) ⟨zh, zh, (by rw [hrow2, List.length_append]; exact zh), .inr rfl, hlt3⟩
      rw [hrow2] at h8
      exact h8
  obtain ⟨k, hk2⟩ := loop kids.length 0 (by omega) (by omega)
  refine c92_pq 0 rfl _ _ _ ?_
  unfold c92
  refine pQ_r (o_boxA (Exp.scal _) zn) ?_
  refine zv ?_
  exact ⟨k, hk2 0 _ ⟨zh, zh, zh, .inl rfl, by simp [new_next, initSt_next]⟩⟩
theorem types_te (hV : V.length ≤ 100000) {x : Exp} (h : TE V t x) : CP N 92 [.agg x.row, .lst (V.map Var.row)] (.lst [tyRow t]) := by
  induction h with
  | lit s tk tl n m nm at' => exact types_of (K := []) hV (.inl ⟨rfl, rfl⟩) rfl (by simp) (fun q h => by simp at h)
  | var s tk tl n m nm at' t ht => exact types_of (K := []) hV (.inr (.inl ⟨rfl, ht⟩)) rfl (by simp) (fun q h => by simp at h)
  | gt tk tl n m nm at' x y _ _ hx hy =>
    refine types_of (K := [(2, 0), (2, 0)]) hV (.inr (.inr (.inl ⟨rfl, rfl, rfl, rfl⟩))) rfl (by simp) (fun q h => ?_)
    match q, h with
    | 0, _ => exact hx
    | 1, _ => exact hy
  | wh s tk tl n m nm at' x t ht _ hx =>
    refine types_of (K := [t]) hV (.inr (.inr (.inr ⟨rfl, ht, rfl⟩))) rfl (by simp) (fun q h => ?_)
    match q, h with
    | 0, _ => exact hx
end
end Go.Vi
namespace Go.Vi
open Go.Proofs
def FT (V : List Var) (x : Item) : Prop := ∃ w e at' t, TE V t e ∧ TyOf V w t ∧ x = .mk [w] e [] at'
attribute [local irreducible] qAsg qPick qBox qBuild qBsl qLoad1 qLoadN qStore qNil qBin qUn qConv qSlS qSlL qFA qF1 qFN qIA qIS qEx qLenS qLenL qApp pQ pQL pGL pCall pCallL condP optP pEnd OpS Int.instDecidableEq Int.decEq instBEqOfDecidableEq
attribute [local irreducible] c56j24 c56j65 c57j24 c57j104 c57j65 c57j42 c35j10
section
variable {N : List Node} {V : List Var}
theorem sizes_ok {l : List Var} (hl : l.length ≤ 100000) (hs : ∀ v ∈ l, v.tl ≤ 16) : CP N 55 [.lst (l.map Var.row)] (.tuple []) := by
  refine CP.mk fun a => ?_
  have loop : ∀ c : Nat, ∃ k, ∀ (j : Int) (s : St), 0 ≤ j → l.length - j = c → s.heap 0 = some (.box (ck N 0 a)) →
      c55l0 0 1 (fun r c => ∃ e' a', c = [ck N e' a'] ∧ r = .tuple [] ∧ e' = 0 ∧ a' = a) k (.ptr 0 0) (.lst (l.map Var.row)) (.int .i64 j) s := by
    intro c
    induction c with
    | zero =>
      refine ⟨1, fun j s h0 hc h => ?_⟩
      show c55l0b _ _ _ _ _ _ _ _
      unfold c55l0b
      refine zv ?_
      refine cond_i (fun h9 => ?_) (fun _ => ?_)
      · have := of_decide_eq_true h9; rw [List.length_map] at this; omega
      · exact fin_i rfl rfl (gb0 zh rfl) ⟨_, _, rfl, rfl, rfl, rfl⟩
    | succ c ih =>
      obtain ⟨k, ih⟩ := ih
      refine ⟨k + 1, fun j s h0 hc h => ?_⟩
      have hlt : j < l.length := by omega
      have hwj : IntKind.i64.wrap (j + 1) = j + 1 := wrap64 (by omega) (by omega)
      have hrow := var_rows h0 hlt
      have hv := hs (l[j.toNat]'(by omega)) (List.getElem_mem _)
      generalize l[j.toNat]'(by omega) = v at hrow hv
      show c55l0b _ _ _ _ _ _ _ _
      unfold c55l0b
      refine zv ?_
      refine cond_i (fun _ => ?_) (fun h9 => ?_)
      · refine pQ_r (o_iaL h0 hrow rfl) ?_
        refine zv ?_
        refine cond_i (fun h9 => ?_) (fun _ => ?_)
        · have := of_decide_eq_true h9; omega
        · refine zv ?_
          rw [hwj]
          exact ih _ s (by omega) (by omega) h
      · have := of_decide_eq_false h9; rw [List.length_map] at this; omega
  refine c55_pq 0 rfl _ _ ?_
  unfold c55
  obtain ⟨k, hk⟩ := loop l.length
  exact ⟨k, hk 0 _ (by omega) (by omega) zh⟩
theorem declared_ok (hV : V.length ≤ 100000) {l : List Var} (hl : l.length ≤ 100000) (hcl : ∀ v ∈ l, v.clock.length ≤ 1000) (hc : ∀ v ∈ l, ∀ g ∈ v.clock, TyOf V g.name (1, 0)) : CP N 56 [.lst (l.map Var.row), .lst (V.map Var.row)] (.tuple []) := by
  refine CP.mk fun a => ?_
  have inner : ∀ {Q : PV → List (List PV) → Prop} (w : PV → PV → PV → PV → St → Prop) (i : Int) (hi0 : 0 ≤ i) (hi : i < l.length) (v : Var) (hrow : (l.map Var.row)[i.toNat]? = some v.row) (hlen : v.clock.length ≤ 1000) (hck : ∀ g ∈ v.clock, TyOf V g.name (1, 0)) (hw1 : ∀ (s : St), s.heap 0 = some (.box (ck N 0 a)) → w (.ptr 0 0) (.lst (l.map Var.row)) (.lst (V.map Var.row)) (.int .i64 (i + 1)) s),
      ∀ c : Nat, ∃ k, ∀ (j : Int) (s : St), 0 ≤ j → v.clock.length - j = c → s.heap 0 = some (.box (ck N 0 a)) → c56l34 0 1 Q w k (.ptr 0 0) (.lst (l.map Var.row)) (.lst (V.map Var.row)) (.int .i64 i) (.int .i64 j) s := by
    intro Q w i hi0 hi v hrow hlen hck hw1
    have hwi : IntKind.i64.wrap (i + 1) = i + 1 := wrap64 (by omega) (by omega)
    intro c
    induction c with
    | zero =>
      refine ⟨1, fun j s h0 hc h => ?_⟩
      show c56l34b _ _ _ _ _ _ _ _ _ _ _
      unfold c56l34b
      refine pQ_r (o_iaL hi0 hrow rfl) ?_
      refine zv ?_
      refine and_E zh ?_
      refine cond_i (fun h9 => ?_) (fun _ => ?_)
      · simp only [Bool.and_eq_true, decide_eq_true_eq, List.length_map, beq_iff_eq] at h9
        omega
      · unfold c56j24
        refine zv ?_
        rw [hwi]
        exact hw1 s h
    | succ c ih =>
      obtain ⟨k, ih⟩ := ih
      refine ⟨k + 1, fun j s h0 hc h => ?_⟩
      have hlt : j < v.clock.length := by omega
      have hwj : IntKind.i64.wrap (j + 1) = j + 1 := wrap64 (by omega) (by omega)
      have hrowj := edge_at h0 hlt
      have hty := hck (v.clock[j.toNat]'(by omega)) (List.getElem_mem _)
      generalize v.clock[j.toNat]'(by omega) = g at hrowj hty
      obtain ⟨rv, hrv, hisv⟩ := find_pc V hV g.name
      obtain ⟨q0, q1, q2⟩ := tyOf_find hty hisv
      have hrowv := var_rows q0 q1
      generalize V[rv.toNat]'(by omega) = u at hrowv q2
      show c56l34b _ _ _ _ _ _ _ _ _ _ _
      unfold c56l34b
      refine pQ_r (o_iaL hi0 hrow rfl) ?_
      refine zv ?_
      refine and_E zh ?_
      refine cond_i (fun _ => ?_) (fun h9 => ?_)
      case refine_2 => simp at h9; omega
      refine pQL_r (o_iaL hi0 hrow rfl) ?_
      refine zv ?_
      refine pQL_r (o_iaL h0 hrowj rfl) ?_
      refine zv ?_
      refine pCallL_i hrv rfl rfl rfl rfl ?_
      refine pQL_r (o_iaL q0 hrowv rfl) ?_
      refine zv ?_
      refine pCallL_i bool1_pc rfl rfl rfl rfl ?_
      refine pQL_r (o_neqT (t := u.ty) (u := (1, 0))) ?_
      refine ⟨zc, ?_⟩
      rw [q2, tyNe_self]
      refine cf ?_
      unfold c56j65
      refine zv ?_
      rw [hwj]
      exact ih _ _ (by omega) (by omega) h
  have outer : ∀ c : Nat, ∃ k, ∀ (i : Int) (s : St), 0 ≤ i → l.length - i = c → s.heap 0 = some (.box (ck N 0 a)) →
      c56l0 0 1 (fun r c => ∃ e' a', c = [ck N e' a'] ∧ r = .tuple [] ∧ e' = 0 ∧ a' = a) k (.ptr 0 0) (.lst (l.map Var.row)) (.lst (V.map Var.row)) (.int .i64 i) s := by
    intro c
    induction c with
    | zero =>
      refine ⟨1, fun i s h0 hcc h => ?_⟩
      show c56l0b _ _ _ _ _ _ _ _ _
      unfold c56l0b
      refine zv ?_
      refine and_E zh ?_
      refine cond_i (fun h9 => ?_) (fun _ => ?_)
      · simp only [Bool.and_eq_true, decide_eq_true_eq, List.length_map, beq_iff_eq] at h9
        omega
      · exact fin_i rfl rfl (gb0 zh rfl) ⟨_, _, rfl, rfl, rfl, rfl⟩
    | succ c ih =>
      obtain ⟨k, ih⟩ := ih
      refine ⟨k + 1, fun i s h0 hcc h => ?_⟩
      have hlt : i < l.length := by omega
      have hm : l[i.toNat]'(by omega) ∈ l := List.getElem_mem _
      obtain ⟨k2, hk2⟩ := inner (Q := fun r c => ∃ e' a', c = [ck N e' a'] ∧ r = .tuple [] ∧ e' = 0 ∧ a' = a) (c56l0 0 1 _ k) i h0 hlt _ (var_rows h0 hlt) (hcl _ hm) (hc _ hm) (fun s h => ih (i + 1) s (by omega) (by omega) h) (l[i.toNat]'(by omega)).clock.length
      show c56l0b _ _ _ _ _ _ _ _ _
      unfold c56l0b
      refine zv ?_
      refine and_E zh ?_
      refine cond_i (fun _ => ?_) (fun h9 => ?_)
      case refine_2 => simp at h9; omega
      exact ⟨k2, hk2 0 s (by omega) (by rw [Int.sub_zero]) h⟩
  refine c56_pq 0 rfl _ _ _ ?_
  unfold c56
  obtain ⟨k, hk⟩ := outer l.length
  exact ⟨k, hk 0 _ (by omega) (by omega) zh⟩
theorem titems_ok (hV : V.length ≤ 100000) {l : List Item} (hl : l.length ≤ 100000) (hi : ∀ x ∈ l, FT V x) : CP N 57 [.lst (l.map Item.row), .lst (V.map Var.row)] (.tuple []) := by
  refine CP.mk fun a => ?_
  have loop : ∀ {Q : PV → List (List PV) → Prop}, Q (.tuple []) [ck N 0 a] → ∀ c : Nat, ∃ K, ∀ (i : Int) (s : St), 0 ≤ i → l.length - i = c → L88 N 0 a s → c57l0 0 1 Q K (.ptr 0 0) (.lst (l.map Item.row)) (.lst (V.map Var.row)) (.int .i64 i) s := by
    intro Q hQ c
    induction c with
    | zero =>
      refine ⟨1, fun i s h0 hc h => ?_⟩
      have h00 := h.h0
      show c57l0b _ _ _ _ _ _ _ _ _
      unfold c57l0b
      refine zv ?_
      refine and_E zh ?_
      refine cond_i (fun h9 => ?_) (fun _ => ?_)
      · simp only [Bool.and_eq_true, decide_eq_true_eq, List.length_map, beq_iff_eq] at h9
        omega
      · exact fin_i rfl rfl (gb0 zh rfl) hQ
    | succ c ih =>
      obtain ⟨K, ih⟩ := ih
      refine ⟨K + 1, fun i s h0 hc h => ?_⟩
      have h00 := h.h0
      have hlt0 := h.lt
      have hlt : i < l.length := by omega
      have hwi : IntKind.i64.wrap (i + 1) = i + 1 := wrap64 (by omega) (by omega)
      have hrow := item_rows h0 hlt
      have hx := hi (l[i.toNat]'(by omega)) (List.getElem_mem _)
      generalize l[i.toNat]'(by omega) = x at hrow hx
      obtain ⟨w, ex, at', t, hte, hw, rfl⟩ := hx
      have hr0 := Item.r0 (.mk [w] ex [] at')
      have hr10 := Item.r10 (.mk [w] ex [] at')
      have hcut := Item.cut (.mk [w] ex [] at')
      have hsc := Item.scal (.mk [w] ex [] at')
      have hrl := Item.row_len (.mk [w] ex [] at')
      simp only [Item.names, Item.states, Item.e] at hr0 hr10 hcut
      generalize (Item.mk [w] ex [] at').row = row at hrow hr0 hr10 hcut hsc hrl
      have hpc := types_te (N := N) hV hte a
      obtain ⟨rv, hrv, hisv⟩ := find_pc V hV w
      obtain ⟨q0, q1, q2⟩ := tyOf_find hw hisv
      have hrowv := var_rows q0 q1
      generalize V[rv.toNat]'(by omega) = u at hrowv q2
      have R1 : ∃ k, ∀ (bx : Nat) (s : St), L57 N 0 a bx row s → c57l73 0 1 Q (c57l0 0 1 Q K) k (.ptr 0 0) (.lst (l.map Item.row)) (.lst (V.map Var.row)) (.int .i64 i) (.ptr bx 0) (.lst [tyRow t]) (.int .i64 1) s := by
        refine ⟨1, fun bx s h => ?_⟩
        have h00 := h.h0
        have hxx := h.hx
        have hlt := h.lt
        have hx0 := h.x0
        show c57l73b _ _ _ _ _ _ _ _ _ _ _ _ _
        unfold c57l73b
        refine zv ?_
        refine pQ_r (o_load1P zh hr0) ?_
        refine zv ?_
        unfold c57j24
        refine zv ?_
        rw [hwi]
        exact ih _ s (by omega) (by omega) ⟨h.h0, by omega⟩
      obtain ⟨k1, hk1⟩ := R1
      have R0 : ∃ k, ∀ (bx : Nat) (s : St), L57 N 0 a bx row s → c57l73 0 1 Q (c57l0 0 1 Q K) k (.ptr 0 0) (.lst (l.map Item.row)) (.lst (V.map Var.row)) (.int .i64 i) (.ptr bx 0) (.lst [tyRow t]) (.int .i64 0) s := by
        refine ⟨k1 + 1, fun bx s h => ?_⟩
        have h00 := h.h0
        have hxx := h.hx
        have hlt := h.lt
        have hx0 := h.x0
        show c57l73b _ _ _ _ _ _ _ _ _ _ _ _ _
        unfold c57l73b
        refine zv ?_
        refine pQ_r (o_load1P zh hr0) ?_
        refine zv ?_
        rw [eq00]
        refine zv ?_
        refine pQL_r (o_load1P zh hr0) ?_
        refine pQL_r (o_iaL (row := [.str w]) (by omega) rfl rfl) ?_
        refine zv ?_
        refine pCallL_i hrv rfl rfl rfl rfl ?_
        refine pQL_r (o_iaL q0 hrowv rfl) ?_
        refine zv ?_
        refine pQL_r (o_iaL (row := tyRow t) (by omega) rfl rfl) ?_
        refine zv ?_
        refine pQL_r (o_neqT (t := u.ty) (u := t)) ?_
        refine ⟨zc, ?_⟩
        rw [q2, tyNe_self]
        refine cf ?_
        unfold c57j104
        refine zv ?_
        exact hk1 bx _ h
      obtain ⟨k0, hk0⟩ := R0
      show c57l0b _ _ _ _ _ _ _ _ _
      unfold c57l0b
      refine zv ?_
      refine and_E zh ?_
      refine cond_i (fun _ => ?_) (fun h9 => ?_)
      case refine_2 => simp at h9; omega
      refine pQ_r (o_iaL h0 hrow hrl) ?_
      refine pQ_r (o_loadAE hrl) ?_
      refine zv ?_
      refine pQ_r (o_storeA zh hrl hsc rfl) ?_
      refine ⟨1, ?_⟩
      show c57l195b _ _ _ _ _ _ _ _ _ _ _ _
      unfold c57l195b
      refine zv ?_
      refine pQ_r (o_load1P zh hr10) ?_
      refine zv ?_
      unfold c57j42
      refine zv ?_
      refine pQ_r (o_load1P zh hr10) ?_
      refine zv ?_
      refine pQ_r (o_loadNP zh hcut) ?_
      refine pCall_i hpc (args_exp rfl) rfl (gb0 zh rfl) rfl ?_
      refine zv ?_
      rw [eq00]
      refine zv ?_
      refine gq_t (o_load1P zh hr0) ?_
      refine zv ?_
      refine cond_i (fun h9 => by simp at h9) (fun _ => ?_)
      unfold c57j65
      exact ⟨k0, hk0 _ _ ⟨zh, zh, by omega, by simp only [new_next, set_next, place_lst, set1]; omega⟩⟩
  refine c57_pq 0 rfl _ _ _ ?_
  unfold c57
  obtain ⟨K, hK⟩ := loop (Q := (fun r c => ∃ e' a', c = [ck N e' a'] ∧ r = .tuple [] ∧ e' = 0 ∧ a' = a)) ⟨_, _, rfl, rfl, rfl, rfl⟩ l.length
  exact ⟨K, hK 0 _ (by omega) (by omega) ⟨zh, by simp [initSt_next]⟩⟩
end
end Go.Vi
namespace Go.Vi
open Go.Proofs
structure NodeTy (n : Node) : Prop where
  len : n.all.length ≤ 1000
  tl : ∀ v ∈ n.all, v.tl ≤ 16
  clk : ∀ v ∈ n.locals, v.clock.length ≤ 1000 ∧ ∀ g ∈ v.clock, TyOf n.all g.name (1, 0)
  ilen : n.items.length ≤ 1000
  items : ∀ x ∈ n.items, FT n.all x
def rdy' (n : Node) : PV := .tuple [.agg [.lst [n.row]], .bool true]
attribute [local irreducible] qAsg qPick qBox qBuild qBsl qLoad1 qLoadN qStore qNil qBin qUn qConv qSlS qSlL qFA qF1 qFN qIA qIS qEx qLenS qLenL qApp pQ pQL pGL pCall pCallL condP optP pEnd OpS Int.instDecidableEq Int.decEq instBEqOfDecidableEq
attribute [local irreducible] c35j10
theorem types_ok {n : Node} (h : NodeTy n) : PC Tryz.prog 35 [.agg [.lst [n.row]]] [] (.tuple [.int .i64 0, .int .i64 0]) [] := by
  have hlen := h.len
  have hal : n.all.length = n.ins.length + n.outs.length + n.locals.length := by simp [Node.all]; omega
  have hil := h.ilen
  have hall := all_pc n [] (by simp; omega)
  rw [List.append_nil] at hall
  have hrow : ([n].map Node.row)[(0 : Int).toNat]? = some n.row := rfl
  have hwi : IntKind.i64.wrap (0 + 1) = 1 := wrap64 (by omega) (by omega)
  have hpc1 := sizes_ok (N := [n]) (l := n.all) (by omega) h.tl 0
  have hpc2 := declared_ok (N := [n]) (V := n.all) (l := n.locals) (by omega) (by omega) (fun v hv => (h.clk v hv).1) (fun v hv => (h.clk v hv).2) 0
  have hpc3 := titems_ok (N := [n]) (V := n.all) (l := n.items) (by omega) (by omega) h.items 0
  have : PQ Tryz.prog 35 [.agg [.lst ([n].map Node.row)]] [] (fun r c => r = .tuple [.int .i64 0, .int .i64 0] ∧ c = []) := by
    have fin : ∃ K, ∀ s, s.heap 0 = some (.box [.lst ([n].map Node.row)]) → s.heap 1 = some (.box (ck [n] 0 0)) → c35l45 0 0 (fun r c => r = .tuple [.int .i64 0, .int .i64 0] ∧ c = []) K (.ptr 0 0) (.ptr 1 0) (.int .i64 1) s := by
      refine ⟨1, fun s h1 h2 => ?_⟩
      show c35l45b _ _ _ _ _ _ _ _
      unfold c35l45b
      refine zv ?_
      exact end35 zh ⟨rfl, rfl⟩
    obtain ⟨K, hK⟩ := fin
    have main : ∃ K, ∀ s, s.heap 0 = some (.box [.lst ([n].map Node.row)]) → s.heap 1 = some (.box (ck [n] 0 0)) → 1 < s.next → c35l45 0 0 (fun r c => r = .tuple [.int .i64 0, .int .i64 0] ∧ c = []) K (.ptr 0 0) (.ptr 1 0) (.int .i64 0) s := by
      refine ⟨K + 1, fun s h1 h2 h3 => ?_⟩
      show c35l45b _ _ _ _ _ _ _ _
      unfold c35l45b
      refine zv ?_
      rw [eq00]
      refine zv ?_
      refine pQ_r (o_iaL (by omega) hrow (Node.row_len _)) ?_
      refine pQ_r (o_loadAE (Node.row_len _)) ?_
      rw [Node.rowc]
      refine zv ?_
      refine pCall_i hall rfl rfl rfl rfl ?_
      refine zv ?_
      refine pCall_i hpc1 rfl rfl (gb1 (cs := ck [n] 0 0) (by simp only [place_lst, set0]; exact zh) rfl) rfl ?_
      refine zv ?_
      refine pCall_i hpc2 rfl rfl (gb1 zh rfl) rfl ?_
      refine zv ?_
      refine pCall_i hpc3 rfl rfl (gb1 zh rfl) rfl ?_
      refine zv ?_
      rw [hwi]
      exact hK _ (by simp only [place_lst, place_tuple, set0, set1]; exact zh) zh
    obtain ⟨K2, hK2⟩ := main
    refine c35_pq 0 rfl _ ?_
    unfold c35
    refine zv ?_
    exact ⟨K2, hK2 _ zh zh (by simp only [new_next, initSt_next]; omega)⟩
  obtain ⟨r, c, hpc, rfl, rfl⟩ := this
  exact hpc
theorem typed_pcs {t : ByteArray} {n : Node} (ht : t.size ≤ 8000) (hp : PC Tryz.prog 83 [.str t] [] (.tuple [.agg [.lst [n.row]], .int .i64 0, .int .i64 0]) []) (hn : PC Tryz.prog 54 [.agg [.lst [n.row]]] [] (.tuple [.int .i64 0, .int .i64 0]) []) (hty : PC Tryz.prog 35 [.agg [.lst [n.row]]] [] (.tuple [.int .i64 0, .int .i64 0]) []) : PC Tryz.prog 19 [.str t] [] (rdy' n) [] := by
  have p53 : PC Tryz.prog 53 [.str t] [] (rdy' n) [] := by
    have : PQ Tryz.prog 53 [.str t] [] (fun r c => r = rdy' n ∧ c = []) := by
      refine c53_pq 0 rfl _ ?_
      unfold c53
      refine zv ?_
      refine cond_i (fun h => absurd (of_decide_eq_true h) (by omega)) (fun _ => ?_)
      refine pCall_i hp rfl rfl rfl rfl ?_
      simp only [place_tuple, set0]
      refine zv ?_
      rw [eq00]
      exact fin_i (resL2 (o_cellR zo)) rfl rfl ⟨rfl, rfl⟩
    obtain ⟨r, c, hpc, rfl, rfl⟩ := this
    exact hpc
  have p34 : PC Tryz.prog 34 [.str t] [] (rdy' n) [] := by
    have : PQ Tryz.prog 34 [.str t] [] (fun r c => r = rdy' n ∧ c = []) := by
      refine c34_pq 0 rfl _ ?_
      unfold c34
      refine zv ?_
      refine pCall_i p53 rfl rfl rfl rfl ?_
      simp only [place_tuple, rdy', set0]
      refine zv ?_
      refine pCall_i hn rfl rfl rfl rfl ?_
      simp only [place_tuple, set0]
      refine zv ?_
      rw [eq00]
      exact fin_i (resL2 (o_cellR zo)) rfl rfl ⟨rfl, rfl⟩
    obtain ⟨r, c, hpc, rfl, rfl⟩ := this
    exact hpc
  have : PQ Tryz.prog 19 [.str t] [] (fun r c => r = rdy' n ∧ c = []) := by
    refine c19_pq 0 rfl _ ?_
    unfold c19
    refine zv ?_
    refine pCall_i p34 rfl rfl rfl rfl ?_
    simp only [place_tuple, rdy', set0]
    refine zv ?_
    refine pCall_i hty rfl rfl rfl rfl ?_
    simp only [place_tuple, set0]
    refine zv ?_
    rw [eq00]
    exact fin_i (resL2 (o_cellR zo)) rfl rfl ⟨rfl, rfl⟩
  obtain ⟨r, c, hpc, rfl, rfl⟩ := this
  exact hpc
theorem typed_ok {t : ByteArray} {n : Node} {ns : List ByteArray} (ht : t.size ≤ 8000) (hp : PC Tryz.prog 83 [.str t] [] (.tuple [.agg [.lst [n.row]], .int .i64 0, .int .i64 0]) []) (hn : NodeOk n ns) (hty : NodeTy n) : PC Tryz.prog 19 [.str t] [] (rdy' n) [] := typed_pcs ht hp (names_ok hn) (types_ok hty)
end Go.Vi
namespace Go.Vi
open Go.Proofs
def key : Nat → ByteArray
  | 0 => bXX
  | 1 => bYY
  | k + 2 => bif k % 2 == 0 then cNm (k / 2) else zN (k / 2)
theorem key_run : ((List.range 20).all fun j => (List.range 20).all fun k => ((key j).data.toList == (key k).data.toList) == (j == k)) = true := by kernel_rfl
theorem key_eq {j k : Nat} (hj : j < 20) (hk : k < 20) : ((key j).toList == (key k).toList) = (j == k) := by
  have h1 := List.all_eq_true.1 key_run j (List.mem_range.2 hj)
  have h2 := List.all_eq_true.1 h1 k (List.mem_range.2 hk)
  rw [ByteArray.toList_eq, ByteArray.toList_eq]
  exact beq_iff_eq.1 h2
theorem has_key {L : List Nat} (hL : ∀ j ∈ L, j < 20) {k : Nat} (hk : k < 20) : has (L.map key) (key k) = L.contains k := by
  unfold has
  induction L with
  | nil => rfl
  | cons j r ih =>
    rw [List.map_cons, List.any_cons, ih (fun j h => hL j (by simp [h])), key_eq (hL j (by simp)) hk, List.contains_cons]
    congr 1
    exact Bool.eq_iff_iff.2 ⟨fun h => by simp at h ⊢; exact h.symm, fun h => by simp at h ⊢; exact h.symm⟩
structure Fm where
  n : Nat
  on : Nat → Bool
  skip : Int
def Fm.E (F : Fm) (i : Nat) : Edge := ⟨cNm i, F.on i⟩
def Fm.clk (F : Fm) (k : Nat) : List Edge := (List.range k).map F.E
def Fm.lc (F : Fm) (k : Nat) : Lc := ⟨key (k + 2), k % 2 == 0, F.clk ((k + 1) / 2)⟩
def Fm.lcs (F : Fm) : List Lc := (List.range (2 * F.n)).map F.lc
def Fm.src (F : Fm) (i : Nat) : Nat := if i = 0 ∨ (i : Int) = F.skip then 0 else 2 * i + 1
def Fm.ek (F : Fm) (k : Nat) : Ek := if k = 0 then .tru else if k % 2 = 0 then .gt (key (k + 1)) else .wh (key (F.src (k / 2))) (cNm (k / 2)) (F.on (k / 2))
def Fm.it (F : Fm) (k : Nat) : It := ⟨key (k + 2), F.ek k⟩
def Fm.its (F : Fm) : List It := ⟨bYY, .var bXX⟩ :: (List.range (2 * F.n)).map F.it
theorem key_c (i : Nat) : key (2 * i + 2) = cNm i := by
  show (bif (2 * i) % 2 == 0 then cNm (2 * i / 2) else zN (2 * i / 2)) = cNm i
  rw [show 2 * i % 2 = 0 by omega, show 2 * i / 2 = i by omega]; rfl
theorem key_z (i : Nat) : key (2 * i + 3) = zN i := by
  show (bif (2 * i + 1) % 2 == 0 then cNm ((2 * i + 1) / 2) else zN ((2 * i + 1) / 2)) = zN i
  rw [show (2 * i + 1) % 2 = 1 by omega, show (2 * i + 1) / 2 = i by omega]; rfl
theorem nmKey {k : Nat} (h : k < 20) : Nm (key k) := by
  match k, h with
  | 0, _ => exact nmX
  | 1, _ => exact nmY
  | k + 2, h =>
    show Nm (bif k % 2 == 0 then cNm (k / 2) else zN (k / 2))
    cases k % 2 == 0
    · exact nmZ (i := k / 2) (by omega)
    · exact nmC (i := k / 2) (by omega)
section
variable {F : Fm}
theorem src_lt (i : Nat) (h : i < 9) : F.src i < 20 := by unfold Fm.src; split <;> omega
theorem lc_ok (hn : F.n ≤ 9) : ∀ x ∈ F.lcs, x.Ok ∧ x.clock.length ≤ 15 := by
  intro x hx
  obtain ⟨k, hk, rfl⟩ := List.mem_map.1 hx
  have hk := List.mem_range.1 hk
  refine ⟨⟨nmKey (k := k + 2) (by omega), fun g hg => ?_⟩, ?_⟩
  · obtain ⟨i, hi, rfl⟩ := List.mem_map.1 hg
    have hi := List.mem_range.1 hi
    exact nmC (by omega)
  · simp [Fm.lc, Fm.clk]; omega
theorem it_ok (hn : F.n ≤ 9) : ∀ x ∈ F.its, x.Ok := by
  intro x hx
  rcases List.mem_cons.1 hx with rfl | hx
  · exact ⟨nmY, nmX⟩
  obtain ⟨k, hk, rfl⟩ := List.mem_map.1 hx
  have hk := List.mem_range.1 hk
  refine ⟨nmKey (k := k + 2) (by omega), ?_⟩
  show (F.ek k).Ok
  unfold Fm.ek
  split
  · trivial
  split
  · exact nmKey (k := k + 1) (by omega)
  · exact ⟨nmKey (src_lt _ (by omega)), nmC (i := k / 2) (by omega)⟩
end
def tyK (q : Nat) : Int × Int := if 2 ≤ q ∧ q % 2 = 0 then (1, 0) else (2, 0)
def Fm.clkK (F : Fm) (q : Nat) : List Edge := F.clk ((q - 1) / 2)
structure Fm.Vars (F : Fm) (A : List Var) : Prop where
  len : A.length = 2 * F.n + 2
  name : ∀ (q : Nat) (h : q < A.length), A[q].name = key q
  ty : ∀ (q : Nat) (h : q < A.length), A[q].ty = tyK q
  clk : ∀ (q : Nat) (h : q < A.length), A[q].clock = F.clkK q
theorem Vs2.at {r : List Lc} {l : List Var} (h : Vs2 r l) : ∀ (q : Nat) (hq : q < l.length), ∃ p, l[q] = (r[q]'(by rw [← h.len]; exact hq)).var p := by
  induction h with
  | nil => intro q hq; simp at hq
  | cons x r p l _ ih =>
    intro q hq
    cases q with
    | zero => exact ⟨p, rfl⟩
    | succ q => exact ih q (by simpa using hq)
theorem tyK_eq (q : Nat) : (kdN (q % 2 == 0), (0 : Int)) = tyK (q + 2) := by
  unfold tyK kdN
  by_cases h2 : q % 2 = 0
  · rw [if_pos ⟨by omega, by omega⟩, h2]; rfl
  · rw [if_neg (by omega), show (q % 2 == 0) = false by simpa using h2]; rfl
theorem nd_vars {F : Fm} {N : Node} (h : IsNd F.lcs F.its N) : F.Vars N.all ∧ N.ins.length = 1 ∧ N.outs.length = 1 ∧ Is2 F.its N.items ∧ N.locals = N.all.drop 2 := by
  obtain ⟨p, p1, p2, vs, xs, hv, hi, rfl⟩ := h
  have hl := hv.len
  have hl2 : F.lcs.length = 2 * F.n := by simp [Fm.lcs]
  have e : (Node.mk bFF [⟨bXX, 2, 0, [], p1⟩] [⟨bYY, 2, 0, [], p2⟩] vs xs p).all = ⟨bXX, 2, 0, [], p1⟩ :: ⟨bYY, 2, 0, [], p2⟩ :: vs := rfl
  refine ⟨⟨?_, ?_, ?_, ?_⟩, rfl, rfl, hi, rfl⟩
  · rw [e]; simp; omega
  all_goals
    intro q hq
    simp only [e] at hq ⊢
    match q, hq with
    | 0, _ => rfl
    | 1, _ => rfl
    | q + 2, hq =>
      have hq' : q < vs.length := by simpa using hq
      obtain ⟨p', hp⟩ := hv.at q hq'
      simp only [List.getElem_cons_succ, hp, Fm.lcs, List.getElem_map, List.getElem_range, Fm.lc, Lc.var]
      all_goals first | rfl | exact tyK_eq q
section
variable {F : Fm} {A : List Var} (h : F.Vars A) (hn : F.n ≤ 9)
include h
theorem Fm.Vars.names : A.map Var.name = (List.range (2 * F.n + 2)).map key := by
  apply List.ext_getElem
  · simp [h.len]
  · intro q h1 h2
    simp at h1
    simp [h.name q h1]
include hn
theorem Fm.Vars.has {k : Nat} (hk : k < 2 * F.n + 2) : Vi.has (A.map Var.name) (key k) = true := by
  rw [h.names, has_key (fun j hj => by have := List.mem_range.1 hj; omega) (by omega)]
  simpa using hk
theorem Fm.Vars.tyOf {k : Nat} (hk : k < 2 * F.n + 2) : TyOf A (key k) (tyK k) := by
  refine ⟨h.has hn hk, fun v hv hnm => ?_⟩
  obtain ⟨q, hq, rfl⟩ := List.getElem_of_mem hv
  have hql := hq
  rw [h.len] at hql
  rw [h.name q hq] at hnm
  have := key_eq (j := q) (k := k) (by omega) (by omega)
  rw [hnm] at this
  have hqk : q = k := by simpa using this.symm
  subst hqk
  exact h.ty q hq
theorem Fm.Vars.dist : Dist (A.map Var.name) := by
  intro q hq
  have hl : q < 2 * F.n + 2 := by simpa [h.len] using hq
  have e : (A.map Var.name)[q] = key q := by simp only [h.names, List.getElem_map, List.getElem_range]
  rw [e, h.names, ← List.map_take, has_key (fun j hj => by have := List.mem_range.1 (List.mem_of_mem_take hj); omega) (by omega)]
  rw [List.take_range]
  simp
  omega
end
end Go.Vi
namespace Go.Vi
open Go.Proofs
section
variable {S : List ByteArray} {V : List Var}
theorem fe_var {w : ByteArray} {x : Exp} (h : IsV w x) (hw : has S w = true) : FE S x := by
  obtain ⟨p, rfl⟩ := h
  exact .mk _ _ _ _ _ _ _ _ _ (by omega) (fun _ => hw) (by simp) (by simp)
theorem te_var {w : ByteArray} {x : Exp} {t : Int × Int} (h : IsV w x) (hw : TyOf V w t) : TE V t x := by
  obtain ⟨p, rfl⟩ := h
  exact .var _ _ _ _ _ _ _ _ hw
theorem fe_gt {w : ByteArray} {x : Exp} (h : IsG w x) (hw : has S w = true) : FE S x := by
  obtain ⟨y, z, p, hy, ⟨q, rfl⟩, rfl⟩ := h
  refine .mk _ _ _ _ _ _ _ _ _ (by omega) (fun h => by omega) (by simp) (fun k hk => ?_)
  rcases List.mem_cons.1 hk with rfl | hk
  · exact fe_var hy hw
  · rw [List.mem_singleton.1 hk]; exact .mk _ _ _ _ _ _ _ _ _ (by omega) (fun h => by omega) (by simp) (by simp)
theorem te_gt {w : ByteArray} {x : Exp} (h : IsG w x) (hw : TyOf V w (2, 0)) : TE V (1, 0) x := by
  obtain ⟨y, z, p, hy, ⟨q, rfl⟩, rfl⟩ := h
  exact .gt _ _ _ _ _ _ _ _ (te_var hy hw) (.lit _ _ _ _ _ _ _)
theorem fe_wh {v w : ByteArray} {on : Bool} {x : Exp} (h : IsWh (IsV v) w on x) (hv : has S v = true) (hw : has S w = true) : FE S x := by
  obtain ⟨y, p, hy, rfl⟩ := h
  refine .mk _ _ _ _ _ _ _ _ _ (by omega) (fun _ => hw) (by simp) (fun k hk => ?_)
  rw [List.mem_singleton.1 hk]; exact fe_var hy hv
theorem te_wh {v w : ByteArray} {on : Bool} {x : Exp} {t : Int × Int} (h : IsWh (IsV v) w on x) (hv : TyOf V v t) (hw : TyOf V w (1, 0)) : TE V t x := by
  obtain ⟨y, p, hy, rfl⟩ := h
  exact .wh _ _ _ _ _ _ _ _ _ hw (te_var hy hv)
theorem fe_tru {x : Exp} (h : IsT x) : FE S x := by
  obtain ⟨p, rfl⟩ := h
  exact .mk _ _ _ _ _ _ _ _ _ (by omega) (fun h => by omega) (by simp) (by simp)
theorem te_tru {x : Exp} (h : IsT x) : TE V (1, 0) x := by
  obtain ⟨p, rfl⟩ := h
  exact .lit _ _ _ _ _ _ _
end
section
variable {F : Fm} {A : List Var}
theorem fe_ek (h : F.Vars A) (hn : F.n ≤ 9) {k : Nat} (hk : k < 2 * F.n) {x : Exp} (hx : (F.ek k).is x) : FE (A.map Var.name) x := by
  unfold Fm.ek at hx
  split at hx
  · exact fe_tru hx
  split at hx
  · exact fe_gt hx (h.has hn (by omega))
  · refine fe_wh hx (h.has hn ?_) ?_
    · unfold Fm.src; split <;> omega
    · rw [← key_c]; exact h.has hn (by omega)
theorem te_ek (h : F.Vars A) (hn : F.n ≤ 9) {k : Nat} (hk : k < 2 * F.n) {x : Exp} (hx : (F.ek k).is x) : TE A (tyK (k + 2)) x := by
  unfold Fm.ek at hx
  split at hx
  · rename_i h0
    subst h0
    exact te_tru hx
  split at hx
  · rename_i h0 h2
    rw [show tyK (k + 2) = (1, 0) by unfold tyK; rw [if_pos (by omega)]]
    have := h.tyOf hn (k := k + 1) (by omega)
    rw [show tyK (k + 1) = (2, 0) by unfold tyK; rw [if_neg (by omega)]] at this
    exact te_gt hx this
  · rename_i h0 h2
    rw [show tyK (k + 2) = (2, 0) by unfold tyK; rw [if_neg (by omega)]]
    have hs := h.tyOf hn (k := F.src (k / 2)) (by unfold Fm.src; split <;> omega)
    rw [show tyK (F.src (k / 2)) = (2, 0) by unfold tyK Fm.src; rw [if_neg (by split <;> omega)]] at hs
    have hc := h.tyOf hn (k := 2 * (k / 2) + 2) (by omega)
    rw [show tyK (2 * (k / 2) + 2) = (1, 0) by unfold tyK; rw [if_pos (by omega)], key_c] at hc
    exact te_wh hx hs hc
theorem Is2.at {r : List It} {l : List Item} (h : Is2 r l) : ∀ (q : Nat) (hq : q < l.length), ∃ y p, (r[q]'(by rw [← h.len]; exact hq)).e.is y ∧ l[q] = .mk [(r[q]'(by rw [← h.len]; exact hq)).name] y [] p := by
  induction h with
  | nil => intro q hq; simp at hq
  | cons x r y p l hy _ ih =>
    intro q hq
    cases q with
    | zero => exact ⟨y, p, hy, rfl⟩
    | succ q => exact ih q (by simpa using hq)
theorem its_len : F.its.length = 2 * F.n + 1 := by simp [Fm.its]
theorem its_name (q : Nat) (hq : q < F.its.length) : F.its[q].name = key (q + 1) := by
  cases q with
  | zero => rfl
  | succ q => simp only [Fm.its, List.getElem_cons_succ, List.getElem_map, List.getElem_range]; rfl
theorem its_is (h : F.Vars A) (hn : F.n ≤ 9) (q : Nat) (hq : q < F.its.length) {y : Exp} (hy : F.its[q].e.is y) : FE (A.map Var.name) y ∧ TE A (tyK (q + 1)) y := by
  cases q with
  | zero => exact ⟨fe_var (w := bXX) hy (h.has hn (k := 0) (by omega)), te_var (w := bXX) hy (h.tyOf hn (k := 0) (by omega))⟩
  | succ q =>
    have hq' : q < 2 * F.n := by have := its_len (F := F); omega
    have hy : (F.ek q).is y := by simpa only [Fm.its, List.getElem_cons_succ, List.getElem_map, List.getElem_range, Fm.it] using hy
    exact ⟨fe_ek h hn hq' hy, te_ek h hn hq' hy⟩
def Fm.ns (F : Fm) : List ByteArray := (List.range (2 * F.n + 1)).map fun q => key (q + 1)
theorem ns_eq : F.ns = ((List.range (2 * F.n + 1)).map (· + 1)).map key := by simp [Fm.ns]
theorem ns_lt (hn : F.n ≤ 9) : ∀ j ∈ (List.range (2 * F.n + 1)).map (· + 1), j < 20 := by
  intro j hj
  obtain ⟨q, hq, rfl⟩ := List.mem_map.1 hj
  have := List.mem_range.1 hq
  omega
theorem fis_of {S : List ByteArray} : ∀ (ns : List ByteArray) (l : List Item), l.length = ns.length → (∀ (q : Nat) (hq : q < l.length) (hq' : q < ns.length), FI S ns[q] l[q]) → FIs S ns l
  | [], [], _, _ => .nil
  | [], _ :: _, h, _ => by simp at h
  | _ :: _, [], h, _ => by simp at h
  | n :: ns, x :: l, h, hh => .cons n x ns l (hh 0 (by simp) (by simp)) (fis_of ns l (by simpa using h) fun q hq hq' => hh (q + 1) (by simpa using hq) (by simpa using hq'))
theorem nd_ok {N : Node} (h : IsNd F.lcs F.its N) (hn : F.n ≤ 9) : NodeOk N F.ns ∧ NodeTy N := by
  obtain ⟨hv, hi, ho, hit, hl⟩ := nd_vars h
  have hA := hv.len
  have hil : N.items.length = 2 * F.n + 1 := by rw [hit.len, its_len]
  have hmay : N.may = F.ns := by
    have e : N.vars = (List.range (2 * F.n + 2)).map key := hv.names
    unfold Node.may
    rw [e, hi, ns_eq, List.range_succ_eq_map]
    simp
  have item : ∀ (q : Nat) (hq : q < N.items.length), ∃ y p, FE N.vars y ∧ TE N.all (tyK (q + 1)) y ∧ N.items[q] = .mk [key (q + 1)] y [] p := by
    intro q hq
    have hq2 : q < F.its.length := by rw [its_len]; omega
    obtain ⟨y, p, hy, he⟩ := hit.at q hq
    obtain ⟨h1, h2⟩ := its_is hv hn q hq2 hy
    exact ⟨y, p, h1, h2, by rw [he, its_name q hq2]⟩
  have clkE : ∀ v ∈ N.locals, ∃ q, q < 2 * F.n ∧ v.name = key (q + 2) ∧ v.clock = F.clk ((q + 1) / 2) := by
    intro v hv'
    rw [hl] at hv'
    obtain ⟨q, hq, rfl⟩ := List.getElem_of_mem hv'
    have hq' : q + 2 < N.all.length := by simp at hq; omega
    refine ⟨q, by omega, ?_, ?_⟩
    · rw [List.getElem_drop]; simpa [Nat.add_comm] using hv.name (2 + q) (by omega)
    · rw [List.getElem_drop, hv.clk (2 + q) (by omega)]
      show F.clk ((2 + q - 1) / 2) = _
      rw [show 2 + q - 1 = q + 1 by omega]
  refine ⟨⟨by omega, hv.dist hn, fis_of _ _ (by simp [Fm.ns, hil]) fun q hq hq' => ?_, by simp [Fm.ns]; omega, fun w hw => ?_, fun q hq => ?_, fun q hq hq1 => ?_, fun v hvl => ?_⟩, ⟨by omega, fun v hva => ?_, fun v hvl => ?_, by omega, fun x hx => ?_⟩⟩
  · obtain ⟨y, p, h1, _, h3⟩ := item q hq
    refine ⟨y, p, h1, ?_⟩
    rw [h3]
    simp [Fm.ns]
  · rw [hmay]
    exact has_true.2 ⟨w, hw, rfl⟩
  · have hq2 : q < 2 * F.n + 1 := by simpa [Fm.ns] using hq
    have e : F.ns[q] = key (q + 1) := by simp [Fm.ns]
    rw [e, ns_eq, ← List.map_take, has_key (fun j hj => ns_lt hn j (List.mem_of_mem_take hj)) (by omega), ← List.map_take, List.take_range]
    simp
    omega
  · rw [hi] at hq1
    rw [hv.name q hq, ns_eq, has_key (ns_lt hn) (by omega)]
    simp
    exact ⟨q - 1, by omega, by omega⟩
  · obtain ⟨q, hq, h1, h2⟩ := clkE v hvl
    refine ⟨fun g hg => ?_, by rw [h2]; simp [Fm.clk]; omega⟩
    rw [h2] at hg
    obtain ⟨i, hi', rfl⟩ := List.mem_map.1 hg
    have hi' := List.mem_range.1 hi'
    show has N.vars (cNm i) = true ∧ ((cNm i).toList == v.name.toList) = false
    rw [← key_c, h1]
    refine ⟨hv.has hn (by omega), ?_⟩
    rw [key_eq (by omega) (by omega)]
    simp
    omega
  · obtain ⟨q, hq, rfl⟩ := List.getElem_of_mem hva
    have := hv.ty q hq
    have : (N.all[q]).tl = (tyK q).2 := congrArg Prod.snd this
    rw [this]
    unfold tyK; split <;> simp
  · obtain ⟨q, hq, h1, h2⟩ := clkE v hvl
    refine ⟨by rw [h2]; simp [Fm.clk]; omega, fun g hg => ?_⟩
    rw [h2] at hg
    obtain ⟨i, hi', rfl⟩ := List.mem_map.1 hg
    have hi' := List.mem_range.1 hi'
    have := hv.tyOf hn (k := 2 * i + 2) (by omega)
    rw [key_c, show tyK (2 * i + 2) = (1, 0) by unfold tyK; rw [if_pos (by omega)]] at this
    exact this
  · obtain ⟨q, hq, rfl⟩ := List.getElem_of_mem hx
    obtain ⟨y, p, _, h2, h3⟩ := item q hq
    exact ⟨key (q + 1), y, p, tyK (q + 1), h2, hv.tyOf hn (by omega), h3⟩
theorem fam_typed {t : ByteArray} (hn : F.n ≤ 9) (h1 : 1 ≤ F.n) (ht : t.size ≤ 8000) (hb : t.data.toList = nodeB F.lcs F.its) : ∃ N, IsNd F.lcs F.its N ∧ PC Tryz.prog 19 [.str t] [] (rdy' N) [] := by
  have hlc : F.lcs = F.lc 0 :: F.lcs.tail := by
    unfold Fm.lcs
    rw [show 2 * F.n = (2 * F.n - 1) + 1 by omega, List.range_succ_eq_map]; rfl
  have hll : F.lcs.length = 2 * F.n := by simp [Fm.lcs]
  have hp : ∃ N, IsNd F.lcs F.its N ∧ PC Tryz.prog 83 [.str t] [] (.tuple [.agg [.lst [N.row]], .int .i64 0, .int .i64 0]) [] := by
    rw [hlc]
    rw [hlc] at hb
    exact parse_node (by omega) hb (by rw [← hlc]; exact lc_ok hn) (by simp [hll]; omega) (it_ok hn) (by rw [its_len]; omega) (by rw [its_len]; omega)
  obtain ⟨N, hN, hpc⟩ := hp
  obtain ⟨g1, g2⟩ := nd_ok hN hn
  exact ⟨N, hN, typed_ok ht hpc g1 g2⟩
end
end Go.Vi
