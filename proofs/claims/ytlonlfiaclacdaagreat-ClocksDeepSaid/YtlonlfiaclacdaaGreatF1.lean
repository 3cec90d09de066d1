/- Part of the proof of ClocksDeep (own work). -/
import Derived.Test.YtlonlfiaclacdaaGreatE1
set_option linter.all false
set_option maxRecDepth 100000
namespace Go.Vi
section
variable {P : Program} {s s' : St} {v x y : PV} {b o n m off size bytes : Nat} {cs cs' row l z : List PV} {rows xs : List (List PV)} {i j : Int} {kk : IntKind}
theorem o_loadR {e : Nat} (h : s.heap b = some (.arr e cs)) (h2 : cs[o]? = some v) : OpS (qLoad1 (.ptr b o)) s v s [b] [] := ⟨_, rfl, by simp only [Req.run, h, h2], rfl, rfl⟩
theorem o_lenB : OpS (qLenL (.bsl b n)) s (.int .i64 n) s [] [] := ⟨.val _, rfl, rfl, rfl, rfl⟩
theorem o_lenN : OpS (qLenL .nil) s (.int .i64 0) s [] [] := ⟨.val _, rfl, rfl, rfl, rfl⟩
theorem o_bslN (h : rowsN size l = some rows) (h0 : lstP rows = .lst rows := by rfl) : OpS (qBslN size l) s (.lst rows) s [] [] := ⟨.val (.lst rows), by simp only [qBslN, h, h0], rfl, rfl, rfl⟩
theorem o_map (h : s.next = n) : OpS (some (.map [] fun b => .map b)) s (.map n) (s.new (.map [])) [] [] := by subst h; exact ⟨_, rfl, rfl, rfl, rfl⟩
theorem o_min : OpS (qMin (.int kk i) (.int kk j)) s (.int kk (if j < i then j else i)) s [] [] := ⟨.val _, by simp only [qMin, minP, if_true], rfl, rfl, rfl⟩
theorem o_if {t : TypeId} (h : x.scalar = true) : OpS (qIf t x) s (.iface t x) s [] [] := ⟨.val _, by simp only [qIf, h, cond_true], rfl, rfl, rfl⟩
theorem o_as {t : TypeId} : OpS (qAs t (.iface t x)) s x s [] [] := ⟨.val _, by simp only [qAs, if_true], rfl, rfl, rfl⟩
theorem o_asgR : OpS (qAsg (.bsl b n)) s (.bsl b n) s [] [] := o_val
theorem o_asgM : OpS (qAsg (.map b)) s (.map b) s [] [] := o_val
theorem o_asgF {f : FuncId} : OpS (qAsg (.fn f l)) s (.fn f l) s [] [] := o_val
theorem o_asgY : OpS (qAsg (.yield n)) s (.yield n) s [] [] := o_val
theorem o_asgQ : OpS (qAsg .nptr) s .nptr s [] [] := o_val
theorem o_boxS (hx : x.scalar = true) (h : s.next = n) : OpS (qBox x) s (.ptr n 0) (s.new (.box [x])) [] [] := by
  subst h
  have hc : x.cells = [x] := by cases x <;> first | rfl | cases hx
  refine ⟨.box [x] fun b => .ptr b 0, ?_, rfl, rfl, rfl⟩
  show (bif x.cells.all PV.scalar then _ else _) = _
  rw [hc]; simp [hx]
end
section
variable {P : Program} {X : Mode} {E : Env} {f : FuncId} {vs args : List PV} {s s' : St} {k : PV → St → Prop} {kl : PV → St → List Nat → List Nat → Prop} {v : PV}
theorem pC_pc {conts conts' : List (List PV)} {r : PV} {bs : List Nat} (h : PC P f args conts r conts') (h1 : toArgs vs 0 = some (args, bs)) (h2 : distinct bs = true) (h3 : getBoxes s bs = some conts) (h4 : conts'.length = bs.length)
    (hk : k (place r (setBoxes s bs conts')).1 (place r (setBoxes s bs conts')).2) : pC P X f vs s k :=
  (callU_or P X).2 (.inl ⟨_, _, bs, ⟨args, conts, r, conts', h1, h2, h3, h4, h, rfl⟩, hk⟩)
theorem pCL_pc {conts conts' : List (List PV)} {r : PV} {bs : List Nat} (h : PC P f args conts r conts') (h1 : toArgs vs 0 = some (args, bs)) (h2 : distinct bs = true) (h3 : getBoxes s bs = some conts) (h4 : conts'.length = bs.length)
    (hk : kl (place r (setBoxes s bs conts')).1 (place r (setBoxes s bs conts')).2 [] bs) : pCL P X f vs s kl :=
  (callU_or P X).2 (.inl ⟨_, _, bs, ⟨args, conts, r, conts', h1, h2, h3, h4, h, rfl⟩, hk⟩)
theorem pC_w {Q : PV → St → Prop} (h : SW E P f vs s Q) (hk : ∀ v s', Grows s s' → Free s' → Q v s' → k v s') : pC P (.weak E) f vs s k := (callU_or P _).2 (.inr ⟨Q, h, hk⟩)
theorem pC_d (h : SC E P f vs s v s') (hk : k v s') : pC P (.det E) f vs s k := (callU_or P _).2 (.inr ⟨v, s', h.sw ⟨rfl, rfl⟩, hk⟩)
theorem pCL_s {s0 : St} (fp : List Nat) (hX : X ≠ .old) (hE : ∀ S m, X.env.holds m → X.env.holds (jR S m)) (hw : WkL vs args) (hr : refsInL (fun b => fp.contains b) args = true) (h : SC X.env P f args (restrict s fp) v s0) (hfp : FpOk s fp)
    (hk : kl v (merge s fp s0) [] fp) : pCL P X f vs s kl := by
  refine (callU_or P X).2 (.inr ?_)
  cases X with
  | old => exact absurd rfl hX
  | det E => exact ⟨v, _, fp, ⟨args, s0, hE, hw, hr, h, hfp, rfl⟩, hk⟩
  | weak E => exact ⟨v, _, fp, ⟨args, s0, hE, hw, hr, h, hfp, rfl⟩, hk⟩
theorem pDyn_w {Q : PV → St → Prop} (h : DynR E P vs s Q) (hk : ∀ v s', Grows s s' → Free s' → Q v s' → k v s') : pDyn P (.weak E) vs s k := ⟨Q, h, hk⟩
theorem fin_s {l : Option (List PV)} {l' : List PV} {Q : PV → St → Prop} (h0 : l = some l') (hk : Q (tupP l') s) : optP l fun l => Q (tupP l) s := by subst h0; exact hk
end
theorem zp {p : Prop} (h : p := by first | exact zo | exact o_lenB | exact o_lenN | exact o_asgR | exact o_asgM | exact o_asgF | exact o_asgY | exact o_asgQ | exact o_map zn | exact o_boxS rfl zn | exact o_if rfl | exact o_as | exact o_min | exact o_bslN (by dsimp only [rowsN, datasN, PV.cells, PV.data, PV.dataN] <;> rfl) | exact o_loadR zh (by assumption)) : p := h
theorem zw {A B : Prop} (h : B) (k : ZH B → A := by intro zq; (repeat (first | (apply pQ_r; · exact zp) | refine ct ?_ | refine cf ?_ | (apply pQL_r; · exact zp) | refine gs_t ?_ | refine gs_f ?_ | refine gs_u ?_ | refine gk_t ?_ | refine gk_f ?_ | (apply gq_t; · exact zp) | (apply gq_f; · exact zp) | refine gc_t ?_ | refine gc_f ?_)); exact zq.out) : A := k ⟨h⟩
theorem grows_set {s : St} {b : Nat} {o : Obj} (h : s.heap b ≠ none) : Grows s (s.set b o) := ⟨Nat.le_refl _, fun x _ hn => by
  by_cases c : x = b
  · subst c; exact absurd hn h
  · rw [St.set_ne2 c]; exact hn⟩
theorem free_set {s : St} {b : Nat} {o : Obj} (hf : Free s) (h : s.heap b ≠ none) : Free (s.set b o) := fun x hx => by
  have c : x ≠ b := by rintro rfl; exact h (hf x hx)
  rw [St.set_ne2 c]; exact hf x hx
theorem free_new {s : St} {o : Obj} (hf : Free s) : Free (s.new o) := fun x hx => by
  have hx : s.next + 1 ≤ x := hx
  rw [St.new_ne2 rfl (by omega)]; exact hf x (by omega)
theorem free_lt {s : St} (hf : Free s) {b : Nat} {o : Obj} (h : s.heap b = some o) : b < s.next := Nat.lt_of_not_le fun hc => by rw [hf b hc] at h; cases h
end Go.Vi
namespace Go.Vi
open Go.Proofs
attribute [local irreducible] qAsg qPick qBox qBuild qBsl qLoad1 qLoadN qStore qNil qBin qUn qConv qSlS qSlL qFA qF1 qFN qIA qIS qEx qLenS qLenL qApp pQ pQL pGL pCall pCallL condP optP pEnd OpS Int.instDecidableEq Int.decEq instBEqOfDecidableEq qBslN qMin qIf qAs lookupQ updateQ deleteQ pC pCL pGU pDyn pRng
abbrev Sc := Nat × Nat × ML
inductive Chain (s : St) : PV → List Sc → Prop
  | nil : Chain s .nptr []
  | cons (sp mp : Nat) (M : ML) (v : PV) (r : List Sc) : s.heap sp = some (.box [.map mp, v]) → s.heap mp = some (.map M) → M.all (fun p => (MKey.s default).like p.1) = true → Chain s v r → Chain s (.ptr sp 0) ((sp, mp, M) :: r)
def lkC (n : ByteArray) : List Sc → Int
  | [] => -1
  | (_, _, M) :: r => match mfind (.s n) M with
    | some i => i
    | none => lkC n r
def scIds : List Sc → List Nat
  | [] => []
  | (sp, mp, _) :: r => sp :: mp :: scIds r
end Go.Vi
namespace Go.Vi
open Go.Proofs
attribute [local irreducible] qAsg qPick qBox qBuild qBsl qLoad1 qLoadN qStore qNil qBin qUn qConv qSlS qSlL qFA qF1 qFN qIA qIS qEx qLenS qLenL qApp pQ pQL pGL pCall pCallL condP optP pEnd OpS Int.instDecidableEq Int.decEq instBEqOfDecidableEq qBslN qMin qIf qAs lookupQ updateQ deleteQ pC pCL pGU pDyn pRng
def rowI (l : List Int) : List (List PV) := l.map fun i => [.int .i64 i]
def cellV (p : Option Nat × List Int) : PV := match p.1 with
  | none => .nil
  | some c => .acc c (rowI p.2)
def OwnOk (s : St) (p : Option Nat × List Int) : Prop := match p.1 with
  | none => p.2 = []
  | some c => s.heap c = some (.own p.2.length 1)
theorem OwnOk.keep {s s' : St} {p : Option Nat × List Int} (h : OwnOk s p) (hk : ∀ c, p.1 = some c → s'.heap c = s.heap c) : OwnOk s' p := by
  unfold OwnOk at *
  split
  · rename_i he; rw [he] at h; exact h
  · rename_i c he; rw [he] at h; exact (hk c he).trans h
structure Gr where
  gp : Nat
  ba : Option Nat
  ats : List Int
  bo : Option Nat
  os : List (Option Nat × List Int)
def onV (bo : Option Nat) (n : Nat) : PV := match bo with
  | none => .nil
  | some b => .bsl b n
def OnOk (s : St) (bo : Option Nat) (os : List (Option Nat × List Int)) : Prop := match bo with
  | none => os = []
  | some b => s.heap b = some (.arr 1 (os.map cellV))
structure GS (s : St) (g : Gr) : Prop where
  box : s.heap g.gp = some (.box [cellV (g.ba, g.ats), onV g.bo g.os.length])
  ats : OwnOk s (g.ba, g.ats)
  on : OnOk s g.bo g.os
  own : ∀ p, p ∈ g.os → OwnOk s p
  nd : (g.ba.toList ++ g.os.filterMap Prod.fst).Nodup
def Gr.ids (g : Gr) : List Nat := g.gp :: (g.bo.toList ++ (g.ba.toList ++ g.os.filterMap Prod.fst))
theorem OnOk.keep {s s' : St} {bo : Option Nat} {os : List (Option Nat × List Int)} (h : OnOk s bo os) (hk : ∀ c, bo = some c → s'.heap c = s.heap c) : OnOk s' bo os := by
  unfold OnOk at *
  split
  · exact h
  · rename_i c; exact (hk c rfl).trans h
theorem GS.keep {s s' : St} {g : Gr} (h : GS s g) (hk : ∀ b, b ∈ g.ids → s'.heap b = s.heap b) : GS s' g :=
  ⟨(hk _ (by simp [Gr.ids])).trans h.box, h.ats.keep fun c hc => hk c (by have hc : g.ba = some c := hc; simp [Gr.ids, hc]), h.on.keep fun c hc => hk c (by simp [Gr.ids, hc]),
    fun p hp => (h.own p hp).keep fun c hc => hk c (by simp only [Gr.ids, List.mem_cons, List.mem_append, List.mem_filterMap]; exact .inr (.inr (.inr ⟨p, hp, hc⟩))), h.nd⟩
theorem GS.kind {s : St} {g : Gr} (h : GS s g) {b : Nat} (hb : b ∈ g.ids) : (b = g.gp ∧ s.heap b = some (.box [cellV (g.ba, g.ats), onV g.bo g.os.length])) ∨ (g.bo = some b ∧ s.heap b = some (.arr 1 (g.os.map cellV))) ∨ ∃ n, s.heap b = some (.own n 1) := by
  simp only [Gr.ids, List.mem_cons, List.mem_append, Option.mem_toList, List.mem_filterMap] at hb
  rcases hb with rfl | hb | hb | ⟨p, hp, hb⟩
  · exact .inl ⟨rfl, h.box⟩
  · have := h.on
    unfold OnOk at this
    rw [hb] at this
    exact .inr (.inl ⟨hb, this⟩)
  · have := h.ats
    unfold OwnOk at this
    simp only [hb] at this
    exact .inr (.inr ⟨_, this⟩)
  · have := h.own p hp
    unfold OwnOk at this
    rw [hb] at this
    exact .inr (.inr ⟨_, this⟩)
theorem refs_all {S : Nat → Bool} : ∀ {l : List PV}, (∀ v, v ∈ l → refsIn S v = true) → refsInL S l = true
  | [], _ => by unfold refsInL; rfl
  | a :: l, h => by unfold refsInL; rw [h a (by simp), refs_all fun v hv => h v (by simp [hv])]; rfl
theorem cellV_refs {S : Nat → Bool} {p : Option Nat × List Int} (h : ∀ c, p.1 = some c → S c = true) : refsIn S (cellV p) = true := by
  unfold cellV
  split
  · unfold refsIn; rfl
  · rename_i c he; unfold refsIn; exact h c he
theorem onV_refs {S : Nat → Bool} {bo : Option Nat} {n : Nat} (h : ∀ c, bo = some c → S c = true) : refsIn S (onV bo n) = true := by
  unfold onV
  split
  · unfold refsIn; rfl
  · rename_i c; unfold refsIn; exact h c rfl
theorem GS.fp {s : St} (hf : Free s) {g : Gr} (h : GS s g) {fp : List Nat} (hs : ∀ b, b ∈ g.ids → b ∈ fp) {b : Nat} (hb : b ∈ g.ids) : b < s.next ∧ ∃ o, s.heap b = some o ∧ o.isDead = false ∧ o.refsIn (fun b => fp.contains b) = true := by
  have hin : ∀ c, c ∈ g.ids → fp.contains c = true := fun c hc => by simpa using hs c hc
  rcases h.kind hb with ⟨_, hh⟩ | ⟨_, hh⟩ | ⟨n, hh⟩
  · refine ⟨free_lt hf hh, _, hh, rfl, refs_all fun v hv => ?_⟩
    simp only [List.mem_cons, List.not_mem_nil, or_false] at hv
    rcases hv with rfl | rfl
    · exact cellV_refs fun c hc => hin c (by have hc : g.ba = some c := hc; simp [Gr.ids, hc])
    · exact onV_refs fun c hc => hin c (by simp [Gr.ids, hc])
  · refine ⟨free_lt hf hh, _, hh, rfl, refs_all fun v hv => ?_⟩
    obtain ⟨p, hp, rfl⟩ := List.mem_map.1 hv
    exact cellV_refs fun c hc => hin c (by simp only [Gr.ids, List.mem_cons, List.mem_append, List.mem_filterMap]; exact .inr (.inr (.inr ⟨p, hp, hc⟩)))
  · exact ⟨free_lt hf hh, _, hh, rfl, rfl⟩
theorem GS.lt {s : St} (hf : Free s) {g : Gr} (h : GS s g) {b : Nat} (hb : b ∈ g.ids) : b < s.next := (h.fp hf (fun _ h => h) hb).1
end Go.Vi
namespace Go.Vi
open Go.Proofs
attribute [local irreducible] qAsg qPick qBox qBuild qBsl qLoad1 qLoadN qStore qNil qBin qUn qConv qSlS qSlL qFA qF1 qFN qIA qIS qEx qLenS qLenL qApp pQ pQL pGL pCall pCallL condP optP pEnd OpS Int.instDecidableEq Int.decEq instBEqOfDecidableEq qBslN qMin qIf qAs lookupQ updateQ deleteQ pC pCL pGU pDyn pRng
def Gr.own (g : Gr) : List Nat := g.os.filterMap Prod.fst
def appAt (on : List (List Int)) (v : Nat) (xs : List Int) : List (List Int) := on.set v (on.getD v [] ++ xs)
structure Hung (s : St) (g : Gr) (v : Nat) (xs : List Int) (s' : St) (g' : Gr) : Prop where
  gs : GS s' g'
  gp : g'.gp = g.gp
  ba : g'.ba = g.ba
  ats : g'.ats = g.ats
  bo : g'.bo = g.bo
  on : g'.os.map Prod.snd = appAt (g.os.map Prod.snd) v xs
  own : ∀ b, b ∈ g'.own → b ∈ g.own ∨ s.next ≤ b
  keep : ∀ b, g.bo ≠ some b → b ∉ g.own → b < s.next → s'.heap b = s.heap b
  grows : Grows s s'
  free : Free s'
end Go.Vi
namespace Go.Vi
open Go.Proofs
attribute [local irreducible] qAsg qPick qBox qBuild qBsl qLoad1 qLoadN qStore qNil qBin qUn qConv qSlS qSlL qFA qF1 qFN qIA qIS qEx qLenS qLenL qApp pQ pQL pGL pCall pCallL condP optP pEnd OpS Int.instDecidableEq Int.decEq instBEqOfDecidableEq qBslN qMin qIf qAs lookupQ updateQ deleteQ pC pCL pGU pDyn pRng
def hgs (i : Int) : List Int := if 0 ≤ i then [i] else []
theorem appAt_nil {on : List (List Int)} {v : Nat} : appAt on v [] = on := by
  unfold appAt
  rw [List.append_nil]
  by_cases h : v < on.length
  · rw [List.getD_eq_getElem?_getD, List.getElem?_eq_getElem h]; simp
  · rw [List.set_eq_of_length_le (by omega)]
theorem Hung.refl {s : St} {g : Gr} (hf : Free s) (hg : GS s g) (v : Nat) : Hung s g v [] s g := ⟨hg, rfl, rfl, rfl, rfl, appAt_nil.symm, fun b hb => .inl hb, fun _ _ _ _ => rfl, Grows.refl s, hf⟩
theorem lt_t {i j : Int} (h : i < j) : binP Tryz.prog .lss 3 (.int .i64 i) (.int .i64 j) = some (.bool true) := by
  show some (PV.bool (decide (i < j))) = _
  rw [decide_eq_true h]
theorem lt_f {i j : Int} (h : ¬ i < j) : binP Tryz.prog .lss 3 (.int .i64 i) (.int .i64 j) = some (.bool false) := by
  show some (PV.bool (decide (i < j))) = _
  rw [decide_eq_false h]
end Go.Vi
namespace Go.Vi
open Go.Proofs
attribute [local irreducible] qAsg qPick qBox qBuild qBsl qLoad1 qLoadN qStore qNil qBin qUn qConv qSlS qSlL qFA qF1 qFN qIA qIS qEx qLenS qLenL qApp pQ pQL pGL pCall pCallL condP optP pEnd OpS Int.instDecidableEq Int.decEq instBEqOfDecidableEq qBslN qMin qIf qAs lookupQ updateQ deleteQ pC pCL pGU pDyn pRng
section
variable {s s0 : St} {fp : List Nat}
theorem GS.merge {g' : Gr} (h : GS s0 g') (hf : Free s0) (hi : ∀ b, b ∈ g'.ids → b ∈ fp ∨ s.next ≤ b) : GS (merge s fp s0) g' :=
  h.keep fun b hb => merge_mine (by
    rcases hi b hb with h1 | h1
    · exact .inl h1
    · exact .inr ⟨h1, h.lt hf hb⟩)
theorem merge_keep {b : Nat} (h : b ∉ fp) (hl : b < s.next) : (merge s fp s0).heap b = s.heap b := merge_other h fun hc => by omega
theorem merge_free (hf : Free s) (h0 : Free s0) (hn : s.next ≤ s0.next) (hfp : ∀ b, b ∈ fp → b < s.next) : Free (merge s fp s0) := fun b hb => by
  have hb : s0.next ≤ b := hb
  rw [merge_other (fun h => by have := hfp b h; omega) (by omega)]
  exact hf b (by omega)
theorem merge_grows (hfp : ∀ b, b ∈ fp → s.heap b ≠ none) (hn : s.next ≤ s0.next) : Grows s (merge s fp s0) := ⟨hn, fun b hb hh => by
  rw [merge_other (fun h => hfp b h hh) (by omega)]; exact hh⟩
end
theorem GS.restrict {s : St} {g : Gr} (h : GS s g) {fp : List Nat} (hfp : ∀ b, b ∈ g.ids → b ∈ fp) : GS (restrict s fp) g := h.keep fun b hb => restrict_heap (hfp b hb)
theorem Chain.keep {s s' : St} {v : PV} {l : List Sc} (h : Chain s v l) (hk : ∀ b, b ∈ scIds l → s'.heap b = s.heap b) : Chain s' v l := by
  induction h with
  | nil => exact .nil
  | cons sp mp M v r h1 h2 h3 h4 ih =>
    exact .cons sp mp M v r ((hk sp (by simp [scIds])).trans h1) ((hk mp (by simp [scIds])).trans h2) h3 (ih fun b hb => hk b (by simp [scIds, hb]))
theorem Chain.kind {s : St} {v : PV} {l : List Sc} (h : Chain s v l) {b : Nat} (hb : b ∈ scIds l) : (∃ mp v, s.heap b = some (.box [.map mp, v])) ∨ ∃ M, s.heap b = some (.map M) := by
  induction h with
  | nil => simp [scIds] at hb
  | cons sp mp M v r h1 h2 h3 h4 ih =>
    simp only [scIds, List.mem_cons] at hb
    rcases hb with rfl | rfl | hb
    · exact .inl ⟨_, _, h1⟩
    · exact .inr ⟨_, h2⟩
    · exact ih hb
theorem Chain.lt {s : St} (hf : Free s) {v : PV} {l : List Sc} (h : Chain s v l) {b : Nat} (hb : b ∈ scIds l) : b < s.next := by
  rcases h.kind hb with ⟨_, _, h⟩ | ⟨_, h⟩ <;> exact free_lt hf h
theorem Chain.apart {s : St} {v : PV} {l : List Sc} (h : Chain s v l) {g : Gr} (hg : GS s g) {b : Nat} (hb : b ∈ scIds l) : b ∉ g.ids := by
  intro hm
  rcases hg.kind hm with ⟨_, hh⟩ | ⟨_, hh⟩ | ⟨n, hh⟩ <;> rcases h.kind hb with ⟨_, _, h2⟩ | ⟨_, h2⟩ <;> rw [hh] at h2 <;> try (cases h2; done)
  simp only [Option.some.injEq, Obj.box.injEq, List.cons.injEq, and_true] at h2
  have := h2.1
  unfold cellV at this
  split at this <;> cases this
theorem noBit {A : Prop} {m j : Nat} (h : Nat.testBit m j = true) : Nat.testBit m j = false → A := fun h' => by rw [h] at h'; cases h'
def putM (M : ML) (k : Nat) : List Var → ML
  | [] => M
  | v :: r => putM (mput (.s v.name) k M) (k + 1) r
end Go.Vi
namespace Go.Vi
open Go.Proofs
attribute [local irreducible] qAsg qPick qBox qBuild qBsl qLoad1 qLoadN qStore qNil qBin qUn qConv qSlS qSlL qFA qF1 qFN qIA qIS qEx qLenS qLenL qApp pQ pQL pGL pCall pCallL condP optP pEnd OpS Int.instDecidableEq Int.decEq instBEqOfDecidableEq qBslN qMin qIf qAs lookupQ updateQ deleteQ pC pCL pGU pDyn pRng
theorem Chain.fp {s : St} (hf : Free s) {fp : List Nat} : ∀ {v : PV} {l : List Sc}, Chain s v l → (∀ b, b ∈ scIds l → b ∈ fp) → (refsIn (fun b => fp.contains b) v = true) ∧ ∀ {b}, b ∈ scIds l → b < s.next ∧ ∃ o, s.heap b = some o ∧ o.isDead = false ∧ o.refsIn (fun b => fp.contains b) = true
  | _, _, .nil, _ => ⟨by unfold refsIn; rfl, fun h => by simp [scIds] at h⟩
  | _, _, .cons sp mp M v r h1 h2 h3 h4, hs => by
    obtain ⟨k1, k2⟩ := Chain.fp hf h4 fun b hb => hs b (by simp [scIds, hb])
    refine ⟨by unfold refsIn; simpa using hs sp (by simp [scIds]), fun {b} hb => ?_⟩
    simp only [scIds, List.mem_cons] at hb
    rcases hb with rfl | rfl | hb
    · refine ⟨free_lt hf h1, _, h1, rfl, refs_all fun x hx => ?_⟩
      simp only [List.mem_cons, List.not_mem_nil, or_false] at hx
      rcases hx with rfl | rfl
      · unfold refsIn; simpa using hs mp (by simp [scIds])
      · exact k1
    · exact ⟨free_lt hf h2, _, h2, rfl, rfl⟩
    · exact k2 hb
theorem Chain.restrict {s : St} {v : PV} {l : List Sc} (h : Chain s v l) {fp : List Nat} (hfp : ∀ b, b ∈ scIds l → b ∈ fp) : Chain (restrict s fp) v l := h.keep fun b hb => restrict_heap (hfp b hb)
theorem Gr.own_ids {g : Gr} {b : Nat} (h : b ∈ g.own) : b ∈ g.ids := by
  simp only [Gr.ids, List.mem_cons, List.mem_append]
  exact .inr (.inr (.inr h))
theorem Hung.ids {s s' : St} {g g' : Gr} {v : Nat} {xs : List Int} (h : Hung s g v xs s' g') {b : Nat} (hb : b ∈ g'.ids) : b ∈ g.ids ∨ s.next ≤ b := by
  simp only [Gr.ids, List.mem_cons, List.mem_append, h.gp, h.bo, h.ba] at hb ⊢
  rcases hb with h1 | h1 | h1 | h1
  · exact .inl (.inl h1)
  · exact .inl (.inr (.inl h1))
  · exact .inl (.inr (.inr (.inl h1)))
  · rcases h.own b h1 with h2 | h2
    · exact .inl (.inr (.inr (.inr h2)))
    · exact .inr h2
theorem Hung.len {s s' : St} {g g' : Gr} {v : Nat} {xs : List Int} (h : Hung s g v xs s' g') : g'.os.length = g.os.length := by
  have := congrArg List.length h.on
  simpa [appAt] using this
theorem toList_inj {a b : ByteArray} (h : a.toList = b.toList) : a = b := by
  have := congrArg List.toArray h
  cases a; cases b; simp_all [ByteArray.toList_eq]
theorem is_self {n : ByteArray} : MKey.is (.s n) (.s n) = true := by simp [MKey.is]
theorem is_ne {n n' : ByteArray} (h : n' ≠ n) : MKey.is (.s n') (.s n) = false := by
  simp only [MKey.is, beq_eq_false_iff_ne, ne_eq]
  intro hh; exact h (toList_inj hh)
theorem is_eq {n : ByteArray} {k : MKey} (h : MKey.is (.s n) k = true) : k = .s n := by
  cases k with
  | i _ => cases h
  | s m => simp only [MKey.is, beq_iff_eq] at h; rw [toList_inj h]
end Go.Vi
namespace Go.Vi
open Go.Proofs
attribute [local irreducible] qAsg qPick qBox qBuild qBsl qLoad1 qLoadN qStore qNil qBin qUn qConv qSlS qSlL qFA qF1 qFN qIA qIS qEx qLenS qLenL qApp pQ pQL pGL pCall pCallL condP optP pEnd OpS Int.instDecidableEq Int.decEq instBEqOfDecidableEq qBslN qMin qIf qAs lookupQ updateQ deleteQ pC pCL pGU pDyn pRng
structure Kept (s : St) (g : Gr) (s' : St) (g' : Gr) : Prop where
  gs : GS s' g'
  gp : g'.gp = g.gp
  ba : g'.ba = g.ba
  ats : g'.ats = g.ats
  bo : g'.bo = g.bo
  len : g'.os.length = g.os.length
  own : ∀ b, b ∈ g'.own → b ∈ g.own ∨ s.next ≤ b
  keep : ∀ b, g.bo ≠ some b → b ∉ g.own → b < s.next → s'.heap b = s.heap b
  grows : Grows s s'
  free : Free s'
theorem Kept.refl {s : St} {g : Gr} (hf : Free s) (hg : GS s g) : Kept s g s g := ⟨hg, rfl, rfl, rfl, rfl, rfl, fun _ h => .inl h, fun _ _ _ _ => rfl, Grows.refl s, hf⟩
theorem Kept.trans {s1 s2 s3 : St} {g1 g2 g3 : Gr} (h : Kept s1 g1 s2 g2) (k : Kept s2 g2 s3 g3) : Kept s1 g1 s3 g3 :=
  have hn := h.grows.next
  ⟨k.gs, k.gp.trans h.gp, k.ba.trans h.ba, k.ats.trans h.ats, k.bo.trans h.bo, k.len.trans h.len, fun b hb => by
    rcases k.own b hb with h1 | h1
    · exact h.own b h1
    · exact .inr (Nat.le_trans hn h1), fun b h1 h2 h3 => by
      rw [k.keep b (by rw [h.bo]; exact h1) (fun hm => by
        rcases h.own b hm with h4 | h4
        · exact h2 h4
        · omega) (Nat.lt_of_lt_of_le h3 hn)]
      exact h.keep b h1 h2 h3, h.grows.trans k.grows, k.free⟩
theorem Kept.at {s s' : St} {g g' : Gr} (h : Kept s g s' g') {b : Nat} (h1 : b ∉ g.ids) (h2 : b < s.next) : s'.heap b = s.heap b :=
  h.keep b (fun e => h1 (by simp [Gr.ids, e])) (fun e => h1 (Gr.own_ids e)) h2
theorem Kept.ids {s s' : St} {g g' : Gr} (h : Kept s g s' g') {b : Nat} (hb : b ∈ g'.ids) : b ∈ g.ids ∨ s.next ≤ b := by
  simp only [Gr.ids, List.mem_cons, List.mem_append, h.gp, h.bo, h.ba] at hb ⊢
  rcases hb with h1 | h1 | h1 | h1
  · exact .inl (.inl h1)
  · exact .inl (.inr (.inl h1))
  · exact .inl (.inr (.inr (.inl h1)))
  · rcases h.own b h1 with h2 | h2
    · exact .inl (.inr (.inr (.inr h2)))
    · exact .inr h2
theorem Kept.chain {s s' : St} {g g' : Gr} (h : Kept s g s' g') (hf : Free s) (hg : GS s g) {v : PV} {l : List Sc} (hc : Chain s v l) : Chain s' v l := hc.keep fun b hb => h.at (hc.apart hg hb) (hc.lt hf hb)
theorem Kept.before {s s1 s' : St} {g g' : Gr} (h : Kept s1 g s' g') (hf : Free s) (hg : GS s g) (hG : Grows s s1) (hk : ∀ b, b < s.next → s1.heap b = s.heap b) : Kept s g s' g' :=
  ⟨h.gs, h.gp, h.ba, h.ats, h.bo, h.len, fun b hb => by
    rcases h.own b hb with h1 | h1
    · exact .inl h1
    · exact .inr (Nat.le_trans hG.next h1), fun b h1 h2 h3 => (h.keep b h1 h2 (Nat.lt_of_lt_of_le h3 hG.next)).trans (hk b h3), hG.trans h.grows, h.free⟩
def Lens (on : List (List Int)) (T : Nat) : Prop := ∀ l, l ∈ on → l.length ≤ T
theorem Lens.mono {on : List (List Int)} {T T' : Nat} (h : Lens on T) (hT : T ≤ T') : Lens on T' := fun l hl => Nat.le_trans (h l hl) hT
theorem Lens.os {g : Gr} {T : Nat} (h : Lens (g.os.map Prod.snd) T) (hT : T ≤ 900000000) : ∀ p, p ∈ g.os → p.2.length ≤ 900000000 := fun p hp => Nat.le_trans (h _ (List.mem_map.2 ⟨p, hp, rfl⟩)) hT
def clkOn (ch : List Sc) (k : Nat) (on : List (List Int)) (l : List Edge) : List (List Int) := l.foldl (fun on x => appAt on k (hgs (lkC x.name ch))) on
end Go.Vi
namespace Go.Vi
open Go.Proofs
attribute [local irreducible] qAsg qPick qBox qBuild qBsl qLoad1 qLoadN qStore qNil qBin qUn qConv qSlS qSlL qFA qF1 qFN qIA qIS qEx qLenS qLenL qApp pQ pQL pGL pCall pCallL condP optP pEnd OpS Int.instDecidableEq Int.decEq instBEqOfDecidableEq qBslN qMin qIf qAs lookupQ updateQ deleteQ pC pCL pGU pDyn pRng
def idxM (M : ML) (n : ByteArray) : Nat := ((mfind (.s n) M).getD 0).toNat
def clkAll (ch : List Sc) (M : ML) (on : List (List Int)) (l : List Var) : List (List Int) := l.foldl (fun on v => clkOn ch (idxM M v.name) on v.clock) on
structure Put (s : St) (g : Gr) (sp mp : Nat) (M : ML) (r : List Sc) (l : List Var) (s' : St) (g' : Gr) : Prop where
  gs : GS s' g'
  gp : g'.gp = g.gp
  ats : g'.ats = g.ats ++ l.map Var.at'
  on : g'.os.map Prod.snd = clkAll ((sp, mp, putM M g.os.length l) :: r) (putM M g.os.length l) (g.os.map Prod.snd ++ l.map fun _ => []) l
  len : g'.os.length = g.os.length + l.length
  chain : Chain s' (.ptr sp 0) ((sp, mp, putM M g.os.length l) :: r)
  grows : Grows s s'
  free : Free s'
  ids : ∀ b, b ∈ g'.ids → b ∈ g.ids ∨ s.next ≤ b
  keep : ∀ b, b ∉ g.ids → b ≠ mp → b < s.next → s'.heap b = s.heap b
end Go.Vi
namespace Go.Vi
open Go.Proofs
attribute [local irreducible] qAsg qPick qBox qBuild qBsl qLoad1 qLoadN qStore qNil qBin qUn qConv qSlS qSlL qFA qF1 qFN qIA qIS qEx qLenS qLenL qApp pQ pQL pGL pCall pCallL condP optP pEnd OpS Int.instDecidableEq Int.decEq instBEqOfDecidableEq qBslN qMin qIf qAs lookupQ updateQ deleteQ pC pCL pGU pDyn pRng
def strs (l : List ByteArray) : List PV := l.map PV.str
structure Rnd (E : Env) (L : Nat) (xs : List PV) (I : List PV → St → Prop) : Prop where
  stable : ∀ {pre s s'}, I pre s → Free s → Free s' → s.next ≤ s'.next → (∀ b, b < s.next → s'.heap b = s.heap b) → I pre s'
  round : ∀ pre x post s, xs = pre ++ x :: post → I pre s → Free s → YW E Tryz.prog L [x] s fun r s' => r = .bool true ∧ I (pre ++ [x]) s'
section
variable {E : Env} {L : Nat} {xs : List PV} {I : List PV → St → Prop}
end
end Go.Vi
namespace Go.Vi
open Go.Proofs
attribute [local irreducible] qAsg qPick qBox qBuild qBsl qLoad1 qLoadN qStore qNil qBin qUn qConv qSlS qSlL qFA qF1 qFN qIA qIS qEx qLenS qLenL qApp pQ pQL pGL pCall pCallL condP optP pEnd OpS Int.instDecidableEq Int.decEq instBEqOfDecidableEq qBslN qMin qIf qAs lookupQ updateQ deleteQ pC pCL pGU pDyn pRng
def hangAll (ch : List Sc) (k : Nat) (on : List (List Int)) (ns : List ByteArray) : List (List Int) := ns.foldl (fun on n => appAt on k (hgs (lkC n ch))) on
def RdI (s1 : St) (g : Gr) (ch : List Sc) (k : Nat) (pre : List PV) (s : St) : Prop := ∃ ns g', pre = strs ns ∧ Kept s1 g s g' ∧ g'.os.map Prod.snd = hangAll ch k (g.os.map Prod.snd) ns
theorem RdI.stable {s1 s s' : St} {g : Gr} {ch : List Sc} {k : Nat} {pre : List PV} (h : RdI s1 g ch k pre s) (hf : Free s) (hf' : Free s') (hn : s.next ≤ s'.next) (hk : ∀ b, b < s.next → s'.heap b = s.heap b) : RdI s1 g ch k pre s' := by
  obtain ⟨ns, g', h1, h2, h3⟩ := h
  have hnx := h2.grows.next
  exact ⟨ns, g', h1, ⟨h2.gs.keep fun b hb => hk b (h2.gs.lt hf hb), h2.gp, h2.ba, h2.ats, h2.bo, h2.len, h2.own, fun b a1 a2 a3 => (hk b (by omega)).trans (h2.keep b a1 a2 a3), ⟨by omega, fun b hb hh => (hk b (by omega)).trans (h2.grows.none b hb hh)⟩, hf'⟩, h3⟩
end Go.Vi
