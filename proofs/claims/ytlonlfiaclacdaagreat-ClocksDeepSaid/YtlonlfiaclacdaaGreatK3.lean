/- Part of the proof of ClocksDeep (own work). -/
import Derived.Test.YtlonlfiaclacdaaGreatG2
import Derived.Test.YtlonlfiaclacdaaGreatK2
import Derived.Test.YtlonlfiaclacdaaGreatT1
import Derived.Test.YtlonlfiaclacdaaGreatT2
import Derived.Test.YtlonlfiaclacdaaGreatT3
import Derived.Test.YtlonlfiaclacdaaGreatT4
import Derived.Test.YtlonlfiaclacdaaGreatT5
import Derived.Test.YtlonlfiaclacdaaGreatT6
set_option linter.all false
set_option maxRecDepth 100000
namespace Go.Vi
open Go.Proofs
def kM : EM := [(kX, []), (kC, []), (kY, []), (kZ, [⟨kC, true⟩])]
theorem kM_eq (e : Exp) : putE [] (kN e).all = kM := by kernel_rfl
theorem kM_x : el kM kX = [] := by kernel_rfl
theorem kM_c : el kM kC = [] := by kernel_rfl
theorem kM_y : el kM kY = [] := by kernel_rfl
theorem kM_z : el kM kZ = [⟨kC, true⟩] := by kernel_rfl
theorem kM_len (w : ByteArray) : (el kM w).length ≤ 1000 := by
  rw [← kM_eq (kV kX 100)]
  refine el_len (fun v hv => ?_) fun w => by show ([] : List Edge).length ≤ 1000; simp
  have : v ∈ [(⟨kX, 2, 0, [], 7⟩ : Var), ⟨kC, 1, 0, [], 14⟩, ⟨kY, 2, 0, [], 32⟩, ⟨kZ, 2, 0, [⟨kC, true⟩], 43⟩] := hv
  simp only [List.mem_cons, List.not_mem_nil, or_false] at this
  rcases this with rfl | rfl | rfl | rfl <;> simp
theorem ce_kV (x : ByteArray) (a : Int) : CE kM (kV x a) (some (el kM x)) := ce_var ⟨a, rfl⟩
theorem wf_kV (x : ByteArray) (a : Int) : (kV x a).WF := wf_var (w := x) ⟨a, rfl⟩
theorem ce_mg : CE kM eMg (some []) := by
  have h2 : CE kM (.mk 9 0 kC 0 0 0 0 [.mk 1 0 ⟨#[]⟩ 2 0 0 0 [] 82] 77) (some [⟨kC, false⟩]) := by
    refine .mk _ _ _ _ _ _ _ _ _ [none] _ (by simp) rfl (fun i h h' => ?_) ?_
    · match i, h with
      | 0, _ => exact ce_num ⟨82, rfl⟩
    · simp [rule, kM_c, Ck.goes, Ck.any]
  refine .mk _ _ _ _ _ _ _ _ _ [some (el kM kZ), some [⟨kC, false⟩]] _ (by simp) rfl (fun i h h' => ?_) ?_
  · match i, h with
    | 0, _ => exact ce_kV kZ 74
    | 1, _ => exact h2
  · simp [rule, kM_c, kM_z, Ck.goes, Ck.l, sameE_self]
theorem ce_eWh : CE kM eWh (some [⟨kC, true⟩]) := by
  refine .mk _ _ _ _ _ _ _ _ _ [some (el kM kX)] _ (by simp) rfl (fun i h h' => ?_) ?_
  · match i, h with
    | 0, _ => exact ce_kV kX 105
  · simp [rule, kM_c, kM_x, Ck.goes, Ck.l, sameE_self]
theorem wf_mg : eMg.WF := by
  refine .mk _ _ _ _ _ _ _ _ _ (by simp [arOk]) (by omega) (by omega) (by omega) (by omega) fun k hk => ?_
  simp only [List.mem_cons, List.not_mem_nil, or_false] at hk
  rcases hk with rfl | rfl
  · exact wf_kV _ _
  · refine .mk _ _ _ _ _ _ _ _ _ (by simp [arOk]) (by omega) (by omega) (by omega) (by omega) fun k hk => ?_
    rw [List.mem_singleton.1 hk]; exact wf_num ⟨82, rfl⟩
theorem wf_eWh : eWh.WF := by
  refine .mk _ _ _ _ _ _ _ _ _ (by simp [arOk]) (by omega) (by omega) (by omega) (by omega) fun k hk => ?_
  rw [List.mem_singleton.1 hk]; exact wf_kV _ _
theorem pl_mg : (prV eMg).length ≤ 1000000 := by simp [eMg, kV, prV, prVs]
theorem pl_eWh : (prV eWh).length ≤ 1000000 := by simp [eWh, kV, prV, prVs]
theorem pl_kV (x : ByteArray) (a : Int) : (prV (kV x a)).length ≤ 1000000 := by simp [kV, prV, prVs]
theorem mg_ok (cb mb : Nat) : EqOk cb mb kM (.mk [kY] eMg [] 61) := eqok_of kM_len wf_mg pl_mg ce_mg (by rw [kM_y]; rfl)
theorem wh_ok (cb mb : Nat) : EqOk cb mb kM (.mk [kZ] eWh [] 96) := eqok_of kM_len wf_eWh pl_eWh ce_eWh (by rw [kM_z]; exact sameE_self _)
theorem x_bad (cb mb : Nat) : EqBad cb mb kM (.mk [kZ] (kV kX 100) [] 96) 96 :=
  ⟨rfl, fun s hf hS => (eq_ok (x := .mk [kZ] (kV kX 100) [] 96) kM_len rfl (wf_kV _ _) (pl_kV _ _) (ce_kV kX 100) hf hS).mono fun r s' h => by
    have : Ck.goes (some (el kM kX)) (el kM kZ) = false := by rw [kM_x, kM_z]; rfl
    rw [this] at h; exact h⟩
theorem check_k {e : Exp} {o : Option Int} (hF : ∀ cb mb, Fnd cb mb kM (kN e) o) {s : St} (hf : Free s) : SW .top Tryz.prog 20 [.agg [.lst [(kN e).row]]] s fun r s' => r = ckR o ∧ Kp s s' [] := by
  refine check_sw (by simp [kN]) (by simp [kN]) (by simp [kN]) (by simp [kN]) (fun v hv => ?_) (by rw [kM_eq]; exact kM_len) (fun v hv => ?_) (by rw [kM_eq]; exact hF) hf
  · have : v ∈ [(⟨kX, 2, 0, [], 7⟩ : Var), ⟨kC, 1, 0, [], 14⟩, ⟨kY, 2, 0, [], 32⟩, ⟨kZ, 2, 0, [⟨kC, true⟩], 43⟩] := hv
    simp only [List.mem_cons, List.not_mem_nil, or_false] at this
    rcases this with rfl | rfl | rfl | rfl <;> simp
  · have : v ∈ [(⟨kZ, 2, 0, [⟨kC, true⟩], 43⟩ : Var)] := hv
    rw [List.mem_singleton.1 this, kM_eq]
    refine ⟨by simp, fun i hi => ?_⟩
    have : i = 0 := by simpa using hi
    subst this
    show sameE (el kM kC) [] = true
    rw [kM_c]; rfl
theorem check_p {s : St} (hf : Free s) : SW .top Tryz.prog 20 [.agg [.lst [(kN eWh).row]]] s fun r s' => r = .tuple [.int .i64 0, .int .i64 0] ∧ Kp s s' [] :=
  check_k (o := none) (fun cb mb => .ok fun j hj => by
    have : j = 0 ∨ j = 1 := by simp [kN] at hj; omega
    rcases this with rfl | rfl
    · exact mg_ok cb mb
    · exact wh_ok cb mb) hf
theorem check_q {s : St} (hf : Free s) : SW .top Tryz.prog 20 [.agg [.lst [(kN (kV kX 100)).row]]] s fun r s' => r = .tuple [.int .i64 96, .int .i64 27] ∧ Kp s s' [] :=
  check_k (o := some 96) (fun cb mb => .bad 1 (by simp [kN]) 96 (fun j hj hb => by
    have : j = 0 := by omega
    subst this
    exact mg_ok cb mb) (x_bad cb mb)) hf
end Go.Vi
namespace Go.Vi
open Go.Proofs
def bs (l : List UInt8) : ByteArray := ⟨l.toArray⟩
theorem bs_app (a b : List UInt8) : bs a ++ bs b = bs (a ++ b) := by
  apply ByteArray.ext
  show (bs a ++ bs b).data = (bs (a ++ b)).data
  rw [ByteArray.data_append]
  simp [bs]
theorem bs_size (a : List UInt8) : (bs a).size = a.length := rfl
theorem bs_data (a : List UInt8) : (bs a).data.toList = a := rfl
def dg (i : Nat) : UInt8 := UInt8.ofNat (48 + i)
def digits : ByteArray := ⟨#[48, 49, 50, 51, 52, 53, 54, 55, 56, 57]⟩
theorem dg_ext : ∀ i : Nat, i < 10 → digits.extract i (i + 1) = bs [dg i]
  | 0, _ => by kernel_rfl
  | 1, _ => by kernel_rfl
  | 2, _ => by kernel_rfl
  | 3, _ => by kernel_rfl
  | 4, _ => by kernel_rfl
  | 5, _ => by kernel_rfl
  | 6, _ => by kernel_rfl
  | 7, _ => by kernel_rfl
  | 8, _ => by kernel_rfl
  | 9, _ => by kernel_rfl
  | n + 10, h => by omega
theorem zN_b (i : Nat) : (zN i).data.toList = [122, dg i] := rfl
theorem cNm_b (i : Nat) : (cNm i).data.toList = [99, dg i] := rfl
def bAnd : List UInt8 := [32, 97, 110, 100, 32]
theorem edgesB_snoc (g : Edge) : ∀ l : List Edge, edgesB (l ++ [g]) = edgesB l ++ ((if l = [] then [] else bAnd) ++ edgeB g)
  | [] => rfl
  | [h] => by
    rw [if_neg (by simp)]
    show edgeB h ++ [32, 97, 110, 100, 32] ++ edgeB g = edgeB h ++ (bAnd ++ edgeB g)
    rw [List.append_assoc]; rfl
  | h :: k :: l => by
    have := edgesB_snoc g (k :: l)
    rw [if_neg (by simp)] at this ⊢
    show edgeB h ++ [32, 97, 110, 100, 32] ++ edgesB (k :: (l ++ [g])) = edgeB h ++ [32, 97, 110, 100, 32] ++ edgesB (k :: l) ++ (bAnd ++ edgeB g)
    rw [show k :: (l ++ [g]) = (k :: l) ++ [g] from rfl, this]
    simp only [List.append_assoc]
theorem lcsB_app : ∀ a b : List Lc, lcsB (a ++ b) = lcsB a ++ lcsB b
  | [], _ => rfl
  | x :: a, b => by simp only [List.cons_append, lcsB, lcsB_app a b, List.append_assoc]
theorem itsB_app : ∀ a b : List It, itsB (a ++ b) = itsB a ++ itsB b
  | [], _ => rfl
  | x :: a, b => by simp only [List.cons_append, itsB, itsB_app a b, List.append_assoc]
section
variable (F : Fm)
def dclB (m : Nat) : List UInt8 := headB ++ lcsB ((List.range m).map F.lc)
def eqnB (m : Nat) : List UInt8 := dclB F (2 * F.n) ++ [108, 101, 116, 32] ++ itsB (⟨bYY, .var bXX⟩ :: (List.range m).map F.it)
theorem dclB_succ (m : Nat) : dclB F (m + 1) = dclB F m ++ (F.lc m).by := by
  simp only [dclB, List.range_succ, List.map_append, lcsB_app, List.append_assoc]
  simp [lcsB]
theorem eqnB_succ (m : Nat) : eqnB F (m + 1) = eqnB F m ++ (F.it m).by := by
  have : (⟨bYY, .var bXX⟩ : It) :: (List.range (m + 1)).map F.it = (⟨bYY, .var bXX⟩ :: (List.range m).map F.it) ++ [F.it m] := by rw [List.range_succ, List.map_append]; rfl
  simp only [eqnB, this, itsB_app, List.append_assoc]
  simp [itsB]
theorem nodeB_eq : nodeB F.lcs F.its = eqnB F (2 * F.n) ++ [116, 101, 108] := by
  simp only [nodeB, eqnB, dclB, Fm.lcs, Fm.its]
theorem clk_snoc (i : Nat) : edgesB (F.clk (i + 1)) = edgesB (F.clk i) ++ ((if i = 0 then [] else bAnd) ++ edgeB (F.E i)) := by
  have h : F.clk (i + 1) = F.clk i ++ [F.E i] := by simp only [Fm.clk, List.range_succ, List.map_append]; rfl
  rw [h, edgesB_snoc]
  by_cases h0 : i = 0
  · subst h0; rfl
  · rw [if_neg h0, if_neg (by
      intro hh
      have := congrArg List.length hh
      simp [Fm.clk] at this; omega)]
theorem edgeB_E (i : Nat) : edgeB (F.E i) = (bif F.on i then [] else [110, 111, 116, 32]) ++ [99, dg i] := rfl
theorem clk_cons (i : Nat) : ∃ g l, F.clk (i + 1) = g :: l := ⟨F.E 0, (List.range i).map fun k => F.E (k + 1), by
  simp [Fm.clk, List.range_succ_eq_map]⟩
theorem lc_z (i : Nat) : (F.lc (2 * i + 1)).by = [122, dg i] ++ [58, 32, 105, 56, 32, 119, 104, 101, 110, 32] ++ edgesB (F.clk (i + 1)) ++ [59, 32] := by
  have hk : key (2 * i + 1 + 2) = zN i := key_z i
  have hc : (2 * i + 1 + 1) / 2 = i + 1 := by omega
  have hb : ((2 * i + 1) % 2 == 0) = false := by
    rw [show (2 * i + 1) % 2 = 1 by omega]; rfl
  unfold Fm.lc Lc.by
  simp only [hk, hc, hb, zN_b]
  obtain ⟨g, l, h⟩ := clk_cons F i
  rw [h]
  simp [kdB]
theorem lc_c (i : Nat) : (F.lc (2 * i + 2)).by = [99, dg (i + 1)] ++ [58, 32, 98, 111, 111, 108, 32, 119, 104, 101, 110, 32] ++ edgesB (F.clk (i + 1)) ++ [59, 32] := by
  have hk : key (2 * i + 2 + 2) = cNm (i + 1) := key_c (i + 1)
  have hc : (2 * i + 2 + 1) / 2 = i + 1 := by omega
  have hb : ((2 * i + 2) % 2 == 0) = true := by
    rw [show (2 * i + 2) % 2 = 0 by omega]; rfl
  unfold Fm.lc Lc.by
  simp only [hk, hc, hb, cNm_b]
  obtain ⟨g, l, h⟩ := clk_cons F i
  rw [h]
  simp [kdB]
def fromB (i : Nat) : List UInt8 := if i = 0 ∨ (i : Int) = F.skip then [120] else [122, dg (i - 1)]
theorem it_z (i : Nat) : (F.it (2 * i + 1)).by = [122, dg i] ++ [32, 61, 32, 119, 104, 101, 110, 40] ++ fromB F i ++ [44, 32] ++ edgeB (F.E i) ++ [41, 59, 32] := by
  have hk : key (2 * i + 1 + 2) = zN i := key_z i
  have hs : (key (F.src i)).data.toList = fromB F i := by
    unfold Fm.src fromB
    by_cases h : i = 0 ∨ (i : Int) = F.skip
    · rw [if_pos h, if_pos h]; rfl
    · rw [if_neg h, if_neg h]
      have : key (2 * i + 1) = zN (i - 1) := by
        have := key_z (i - 1)
        rwa [show 2 * (i - 1) + 3 = 2 * i + 1 by omega] at this
      rw [this, zN_b]
  have he : F.ek (2 * i + 1) = .wh (key (F.src i)) (cNm i) (F.on i) := by
    unfold Fm.ek
    rw [if_neg (by omega), if_neg (by omega), show (2 * i + 1) / 2 = i by omega]
  unfold Fm.it It.by
  simp only [hk, he, zN_b, Ek.by, hs]
  simp [Fm.E]
theorem it_c (i : Nat) : (F.it (2 * i + 2)).by = [99, dg (i + 1)] ++ [32, 61, 32, 122] ++ [dg i] ++ [32, 62, 32, 48, 105, 56, 59, 32] := by
  have hk : key (2 * i + 2 + 2) = cNm (i + 1) := key_c (i + 1)
  have he : F.ek (2 * i + 2) = .gt (zN i) := by
    unfold Fm.ek
    rw [if_neg (by omega), if_pos (by omega), show key (2 * i + 2 + 1) = zN i from key_z i]
  unfold Fm.it It.by
  simp only [hk, he, cNm_b, zN_b, Ek.by]
  simp
theorem edgeB_len (i : Nat) : (edgeB (F.E i)).length ≤ 6 := by rw [edgeB_E]; cases F.on i <;> simp
theorem clkB_len : ∀ i : Nat, (edgesB (F.clk i)).length ≤ 11 * i
  | 0 => by simp [Fm.clk, edgesB]
  | i + 1 => by
    rw [clk_snoc]
    have h1 := clkB_len i
    have h2 := edgeB_len F i
    by_cases h : i = 0
    · rw [if_pos h]; simp; omega
    · rw [if_neg h]; simp [bAnd]; omega
theorem lc_len (m : Nat) (h : m ≤ 20) : (F.lc m).by.length ≤ 200 := by
  have hc := clkB_len F ((m + 1) / 2)
  have hn : (key (m + 2)).data.toList.length = 2 := by
    show (bif m % 2 == 0 then cNm (m / 2) else zN (m / 2)).data.toList.length = 2
    cases m % 2 == 0 <;> rfl
  unfold Fm.lc Lc.by
  simp only [List.length_append, hn]
  have hk : (kdB (m % 2 == 0)).length ≤ 4 := by cases m % 2 == 0 <;> simp [kdB]
  generalize F.clk ((m + 1) / 2) = l at hc
  cases l with
  | nil => simp; omega
  | cons g l => simp; omega
theorem dclB_len : ∀ m : Nat, m ≤ 20 → (dclB F m).length ≤ 40 + 200 * m
  | 0, _ => by simp [dclB, headB, lcsB]
  | m + 1, h => by
    rw [dclB_succ]
    have := dclB_len m (by omega)
    have := lc_len F m (by omega)
    simp; omega
theorem it_len (m : Nat) : (F.it m).by.length ≤ 40 := by
  have hn : ∀ k, (key k).data.toList.length ≤ 2 := fun k => by
    match k with
    | 0 => decide
    | 1 => decide
    | k + 2 =>
      show (bif k % 2 == 0 then cNm (k / 2) else zN (k / 2)).data.toList.length ≤ 2
      cases k % 2 == 0 <;> exact Nat.le_refl _
  have h1 := hn (m + 2)
  unfold Fm.it It.by
  simp only [List.length_append]
  have he : (F.ek m).by.length ≤ 20 := by
    unfold Fm.ek
    split
    · simp [Ek.by]
    split
    · have := hn (m + 1)
      simp [Ek.by] at this ⊢; omega
    · have h2 := hn (F.src (m / 2))
      have h3 := edgeB_len F (m / 2)
      have h4 : edgeB ⟨cNm (m / 2), F.on (m / 2)⟩ = edgeB (F.E (m / 2)) := rfl
      simp [Ek.by, h4] at h2 ⊢; omega
  simp only [List.length_cons, List.length_nil]; omega
theorem eqnB_len (hn : F.n ≤ 9) : ∀ m : Nat, m ≤ 20 → (eqnB F m).length ≤ 4000 + 40 * m
  | 0, _ => by
    have := dclB_len F (2 * F.n) (by omega)
    simp [eqnB, itsB, It.by, Ek.by, bYY, bXX]; omega
  | m + 1, h => by
    rw [eqnB_succ]
    have := eqnB_len hn m (by omega)
    have := it_len F m
    simp; omega
end
end Go.Vi
namespace Go.Vi
open Go.Proofs
theorem typed_p : PC Tryz.prog 19 [.str kTp] [] (rdy' (kN eWh)) [] := typed_pcs (by decide) (saysP_pc toks_kTp parse_kTp) (saysN_pc names_kTp) (saysN_pc types_kTp)
theorem typed_q : PC Tryz.prog 19 [.str kTq] [] (rdy' (kN (kV kX 100))) [] := typed_pcs (by decide) (saysP_pc toks_kTq parse_kTq) (saysN_pc names_kTq) (saysN_pc types_kTq)
theorem pGt_pc {P : Program} {X : Mode} {f : FuncId} {vs args : List PV} {s : St} {kl : PV → St → List Nat → List Nat → Prop} {conts conts' : List (List PV)} {r : PV} {bs : List Nat} (h : PC P f args conts r conts') (h1 : toArgs vs 0 = some (args, bs)) (h2 : distinct bs = true) (h3 : getBoxes s bs = some conts) (h4 : conts'.length = bs.length)
    (hk : kl (place r (setBoxes s bs conts')).1 (place r (setBoxes s bs conts')).2 [] bs) : pGL (.bool true) true (fun k => pGU P X f vs s k) kl s :=
  pGL_t (by simp [guardV]) (by unfold pGU; exact (callU_or P X).2 (.inl ⟨_, _, bs, ⟨args, conts, r, conts', h1, h2, h3, h4, h, rfl⟩, hk⟩))
section
attribute [local irreducible] qAsg qPick qBox qBuild qBsl qLoad1 qLoadN qStore qNil qBin qUn qConv qSlS qSlL qFA qF1 qFN qIA qIS qEx qLenS qLenL qApp pQ pQL pGL pCall pCallL condP optP pEnd OpS Int.instDecidableEq Int.decEq instBEqOfDecidableEq
theorem num_pc (n : Int) : PC Tryz.prog 21 [.int .i64 n] [] (.int .i64 n) [] := by
  have : PQ Tryz.prog 21 [.int .i64 n] [] (fun r c => c = [] ∧ r = .int .i64 n) := by
    refine c21_pq 0 rfl _ ?_
    unfold c21
    refine zv ?_
    exact fin_i rfl rfl rfl ⟨rfl, rfl⟩
  obtain ⟨r, c, hp, rfl, rfl⟩ := this
  exact hp
end
attribute [local irreducible] qAsg qPick qBox qBuild qBsl qLoad1 qLoadN qStore qNil qBin qUn qConv qSlS qSlL qFA qF1 qFN qIA qIS qEx qLenS qLenL qApp pQ pQL pGL pCall pCallL condP optP pEnd OpS Int.instDecidableEq Int.decEq instBEqOfDecidableEq qBslN qMin qIf qAs lookupQ updateQ deleteQ pC pCL pGU pDyn pRng
theorem alive_sw {s : St} (hf : Free s) : SW .top Tryz.prog 18 [] s fun r s' => r = .bool true := by
  refine (g18_cd (.weak .top) ?_).sw hf
  have hQ : ∀ s', (fun (r : PV) (s' : St) => r = .bool true) (.bool true) s' := fun _ => rfl
  generalize (fun (r : PV) (s' : St) => r = .bool true) = Q at hQ
  obtain ⟨s1, hs1⟩ : ∃ s1, s1 = (s.new (.box [.nil])).set s.next (.box [.lst [(kN eWh).row]]) := ⟨_, rfl⟩
  have k1 : Kp s s1 [] := by rw [hs1]; exact kp_set (kp_new hf) (Nat.le_refl _) (by rw [St.new_at rfl]; simp)
  have hb1 : s1.heap s.next = some (.box [.lst [(kN eWh).row]]) := by rw [hs1]; exact St.set_self
  obtain ⟨s2, hs2⟩ : ∃ s2, s2 = (s1.new (.box [.nil])).set s1.next (.box [.lst [(kN (kV kX 100)).row]]) := ⟨_, rfl⟩
  have k2 : Kp s1 s2 [] := by rw [hs2]; exact kp_set (kp_new k1.free) (Nat.le_refl _) (by rw [St.new_at rfl]; simp)
  have hb2 : s2.heap s1.next = some (.box [.lst [(kN (kV kX 100)).row]]) := by rw [hs2]; exact St.set_self
  have hb12 := (k2.keep _ (free_lt k1.free hb1) (by simp)).trans hb1
  unfold g18
  apply pQ_r
  · exact o_bin (v := .str kTp) (by kernel_rfl)
  refine pC_pc (args := [.str kTp]) typed_p rfl rfl rfl rfl ?_
  simp only [rdy', place_tuple, set0]
  apply pQ_r
  · exact o_ex rfl
  apply pQ_r
  · exact o_ex rfl
  apply pQ_r
  · exact o_box rfl
  apply pQ_r
  · exact o_storeA (St.new_at rfl) rfl rfl rfl
  rw [← hs1]
  apply pQ_r
  · exact o_asgB
  apply pQ_r
  · exact o_bin (v := .str kTq) (by kernel_rfl)
  refine pC_pc (args := [.str kTq]) typed_q rfl rfl rfl rfl ?_
  simp only [rdy', place_tuple, set0]
  apply pQ_r
  · exact o_ex rfl
  apply pQ_r
  · exact o_ex rfl
  apply pQ_r
  · exact o_box rfl
  apply pQ_r
  · exact o_storeA (St.new_at rfl) rfl rfl rfl
  rw [← hs2]
  apply pQ_r
  · exact o_asgB
  apply pQ_r
  · exact o_loadAP hb12 rfl
  refine pC_w (check_p k2.free) fun v s3 _ hf3 hq => ?_
  obtain ⟨rfl, k3⟩ := hq
  have hb23 := (k3.keep _ (free_lt k2.free hb2) (by simp)).trans hb2
  apply pQ_r
  · exact o_ex rfl
  apply pQ_r
  · exact o_ex rfl
  apply pQ_r
  · exact o_asgI
  apply pQ_r
  · exact o_asgI
  apply pQ_r
  · exact o_loadAP hb23 rfl
  refine pC_w (check_q hf3) fun v s4 _ hf4 hq => ?_
  obtain ⟨rfl, k4⟩ := hq
  apply pQ_r
  · exact o_ex rfl
  apply pQ_r
  · exact o_ex rfl
  apply pQ_r
  · exact o_asgI
  apply pQ_r
  · exact o_asgI
  refine gk_t ?_
  apply pQ_r
  · exact o_pickT
  refine gk_t ?_
  refine pGt_pc (num_pc 0) rfl rfl rfl rfl ?_
  refine gq_t (o_bin (v := .bool true) (by kernel_rfl)) ?_
  apply pQ_r
  · exact o_pickT
  refine gk_t ?_
  refine pGt_pc (num_pc 27) rfl rfl rfl rfl ?_
  refine gq_t (o_bin (v := .bool true) (by kernel_rfl)) ?_
  apply pQ_r
  · exact o_pickT
  refine gk_t ?_
  refine gk_t ?_
  refine gq_t o_lenS ?_
  refine gq_t (o_bin (v := .int .i64 96) (by kernel_rfl)) ?_
  refine gq_t (o_bin (v := .bool true) (by kernel_rfl)) ?_
  apply pQ_r
  · exact o_pickT
  apply pQ_r
  · exact o_asgB
  exact fin_s rfl (hQ _)
end Go.Vi
namespace Go.Vi
open Go.Proofs
theorem o_cat {s : St} {a b : List UInt8} {x y : ByteArray} (hx : x = bs a) (hy : y = bs b) (h : a.length + b.length ≤ 1000000) : OpS (qBin Tryz.prog .add 9 (.str x) (.str y)) s (.str (bs (a ++ b))) s [] [] := by
  subst hx hy
  refine o_bin ?_
  show (if (bs a).size + (bs b).size ≤ 9223372036854775807 then some (PV.str (bs a ++ bs b)) else none) = _
  rw [bs_size, bs_size, if_pos (by omega), bs_app]
theorem o_dig {s : St} {i : Nat} (h : i < 10) : OpS (qSlS true true (.str digits) [.int .i64 i, .int .i64 (i + 1 : Nat)]) s (.str (bs [dg i])) s [] [] := by
  have := o_slS (s := s) (t := digits) (lo := true) (hi := true) (r := [.int .i64 i, .int .i64 (i + 1 : Nat)]) (r1 := [.int .i64 (i + 1 : Nat)]) (r2 := []) (a := some i) (c := some (i + 1)) (by simp [takeB, natOf]) (by simp only [takeB, natOf]; rw [if_pos (by omega)]; simp) (by show i + 1 ≤ 10; omega) (by show i ≤ i + 1; omega)
  rw [← dg_ext i h]
  exact this
theorem addN {i k : Nat} (h : i + k ≤ 1000) : binP Tryz.prog .add 3 (.int .i64 i) (.int .i64 k) = some (.int .i64 (i + k : Nat)) := by
  show some (PV.int .i64 (IntKind.i64.wrap _)) = _
  rw [wrap64 (by omega) (by omega)]; simp
theorem subN {i : Nat} (h : 0 < i) (h' : i ≤ 1000) : binP Tryz.prog .sub 3 (.int .i64 i) (.int .i64 1) = some (.int .i64 (i - 1 : Nat)) := by
  show some (PV.int .i64 (IntKind.i64.wrap _)) = _
  rw [wrap64 (by omega) (by omega), show ((i : Int) - 1) = ((i - 1 : Nat) : Int) by omega]
theorem gt_t {i : Nat} (h : 0 < i) : binP Tryz.prog .gtr 3 (.int .i64 i) (.int .i64 0) = some (.bool true) := by
  show some (PV.bool (decide ((i : Int) > 0))) = _
  rw [decide_eq_true (by omega)]
theorem gt_f {i : Nat} (h : ¬ 0 < i) : binP Tryz.prog .gtr 3 (.int .i64 i) (.int .i64 0) = some (.bool false) := by
  show some (PV.bool (decide ((i : Int) > 0))) = _
  rw [decide_eq_false (by omega)]
theorem eq_t' {i j : Int} (h : i = j) : binP Tryz.prog .eql 3 (.int .i64 i) (.int .i64 j) = some (.bool true) := by
  show some (PV.bool (i == j)) = _
  rw [beq_iff_eq.2 h]
theorem eq_f' {i j : Int} (h : i ≠ j) : binP Tryz.prog .eql 3 (.int .i64 i) (.int .i64 j) = some (.bool false) := by
  show some (PV.bool (i == j)) = _
  rw [beq_eq_false_iff_ne.2 h]
attribute [local irreducible] qAsg qPick qBox qBuild qBsl qLoad1 qLoadN qStore qNil qBin qUn qConv qSlS qSlL qFA qF1 qFN qIA qIS qEx qLenS qLenL qApp pQ pQL pGL pCall pCallL condP optP pEnd OpS Int.instDecidableEq Int.decEq instBEqOfDecidableEq qBslN qMin qIf qAs lookupQ updateQ deleteQ pC pCL pGU pDyn pRng
section
variable {F : Fm} {onR : List (List PV)} {X : Mode} {Q : PV → St → Prop}
theorem dcl297 (hn : F.n ≤ 9) {i : Nat} (hi : i < F.n) {c0 : List UInt8} (hc : c0 ++ edgeB (F.E i) = edgesB (F.clk (i + 1))) {s : St} {ed : PV} {W : F7}
    (hW : W (I F.n) (I F.skip) (.lst onR) (.str (bs (dclB F (min (2 * (i + 1) + 1) (2 * F.n))))) (.str (bs (edgesB (F.clk (i + 1))))) (.str (bs (edgeB (F.E i)))) (I (i + 1 : Nat)) s) :
    g7j297 X Q W (I F.n) (I F.skip) (.lst onR) (.str (bs (dclB F (2 * i + 1)))) (.str (bs c0)) (I i) (.str (bs [dg i])) (.str (bs (edgeB (F.E i)))) s := by
  have hD := dclB_len F (2 * i + 1) (by omega)
  have hC := clkB_len F (i + 1)
  have hE := edgeB_len F i
  have hcl : c0.length ≤ 200 := by
    have := congrArg List.length hc
    rw [List.length_append] at this; omega
  have e1 := dclB_succ F (2 * i + 1)
  rw [lc_z] at e1
  have e2 := dclB_succ F (2 * i + 2)
  rw [lc_c] at e2
  have hD2 := dclB_len F (2 * i + 2) (by omega)
  generalize dclB F (2 * i + 1) = D at hD e1 ⊢
  unfold g7j297
  apply pQ_r
  · exact o_cat rfl rfl (by omega)
  rw [hc]
  generalize edgesB (F.clk (i + 1)) = C at hC e1 e2 hW ⊢
  apply pQ_r
  · exact o_asgS
  apply pQ_r
  · exact o_asgS
  apply pQ_r
  · exact o_cat (b := [122]) rfl rfl (by simp; omega)
  apply pQ_r
  · exact o_cat rfl rfl (by simp; omega)
  apply pQ_r
  · exact o_cat (b := [58, 32, 105, 56, 32, 119, 104, 101, 110, 32]) rfl rfl (by simp; omega)
  apply pQ_r
  · exact o_cat rfl rfl (by simp; omega)
  apply pQ_r
  · exact o_cat (b := [59, 32]) rfl rfl (by simp; omega)
  rw [show D ++ [122] ++ [dg i] ++ [58, 32, 105, 56, 32, 119, 104, 101, 110, 32] ++ C ++ [59, 32] = dclB F (2 * i + 2) by rw [e1]; simp]
  apply pQ_r
  · exact o_asgS
  apply pQ_r
  · exact o_bin (addN (k := 1) (by omega))
  have next : ∀ {D' : List UInt8}, D' = dclB F (min (2 * (i + 1) + 1) (2 * F.n)) → g7j264 X Q W (I F.n) (I F.skip) (.lst onR) (.str (bs D')) (.str (bs C)) (.str (bs (edgeB (F.E i)))) (I i) s := by
    intro D' hD'
    subst hD'
    unfold g7j264
    apply pQ_r
    · exact o_bin (addN (k := 1) (by omega))
    apply pQ_r
    · exact o_asgI
    exact hW
  by_cases hlt : i + 1 < F.n
  · apply pQ_r
    · exact o_bin (lt_t (by omega))
    refine ct ?_
    apply pQ_r
    · exact o_cat (b := [99]) rfl rfl (by simp; omega)
    apply pQ_r
    · exact o_bin (addN (k := 1) (by omega))
    apply pQ_r
    · exact o_bin (addN (k := 2) (by omega))
    apply pQ_r
    · exact o_dig (i := i + 1) (by omega)
    apply pQ_r
    · exact o_cat rfl rfl (by simp; omega)
    apply pQ_r
    · exact o_cat (b := [58, 32, 98, 111, 111, 108, 32, 119, 104, 101, 110, 32]) rfl rfl (by simp; omega)
    apply pQ_r
    · exact o_cat rfl rfl (by simp; omega)
    apply pQ_r
    · exact o_cat (b := [59, 32]) rfl rfl (by simp; omega)
    apply pQ_r
    · exact o_asgS
    refine next ?_
    rw [show min (2 * (i + 1) + 1) (2 * F.n) = 2 * i + 2 + 1 by omega, e2]
    simp
  · apply pQ_r
    · exact o_bin (lt_f (by omega))
    refine cf ?_
    refine next ?_
    rw [show min (2 * (i + 1) + 1) (2 * F.n) = 2 * i + 2 by omega]
theorem dcl_round (hn : F.n ≤ 9) (hon : ∀ i, i < F.n → onR[i]? = some [.bool (F.on i)]) {i : Nat} (hi : i < F.n) {s : St} {ed : PV} {W : F7}
    (hW : W (I F.n) (I F.skip) (.lst onR) (.str (bs (dclB F (min (2 * (i + 1) + 1) (2 * F.n))))) (.str (bs (edgesB (F.clk (i + 1))))) (.str (bs (edgeB (F.E i)))) (I (i + 1 : Nat)) s) :
    g7l251b X Q W (I F.n) (I F.skip) (.lst onR) (.str (bs (dclB F (2 * i + 1)))) (.str (bs (edgesB (F.clk i)))) ed (I i) s := by
  have hC := clkB_len F i
  have hE := edgeB_len F i
  have hcs := clk_snoc F i
  have j287 : g7j287 X Q W (I F.n) (I F.skip) (.lst onR) (.str (bs (dclB F (2 * i + 1)))) (.str (bs (edgesB (F.clk i)))) (I i) (.str (bs [dg i])) (.str (bs (edgeB (F.E i)))) s := by
    unfold g7j287
    by_cases h0 : 0 < i
    · apply pQ_r
      · exact o_bin (gt_t h0)
      refine ct ?_
      apply pQ_r
      · exact o_cat (b := bAnd) rfl rfl (by simp [bAnd]; omega)
      apply pQ_r
      · exact o_asgS
      refine dcl297 (ed := ed) hn hi ?_ hW
      rw [hcs, if_neg (by omega), List.append_assoc]
    · apply pQ_r
      · exact o_bin (gt_f h0)
      refine cf ?_
      refine dcl297 (ed := ed) hn hi ?_ hW
      rw [hcs, if_pos (by omega)]; rfl
  unfold g7l251b
  apply pQ_r
  · exact o_bin (lt_t (by omega))
  refine ct ?_
  apply pQ_r
  · exact o_bin (addN (k := 1) (by omega))
  apply pQ_r
  · exact o_dig (by omega)
  apply pQ_r
  · exact o_asgS
  apply pQ_r
  · exact o_cat (a := [99]) rfl rfl (by simp)
  apply pQ_r
  · exact o_asgS
  apply pQ_r
  · exact o_iaL (by omega) (row := [.bool (F.on i)]) (by simpa using hon i hi) rfl
  apply pQ_r
  · exact o_load1E rfl
  apply pQ_r
  · exact o_not
  have he := edgeB_E F i
  cases ho : F.on i with
  | true =>
    rw [ho] at he
    refine cf ?_
    rw [show [99] ++ [dg i] = edgeB (F.E i) by rw [he]; rfl]
    exact j287
  | false =>
    rw [ho] at he
    refine ct ?_
    apply pQ_r
    · exact o_cat (a := [110, 111, 116, 32, 99]) rfl rfl (by simp)
    apply pQ_r
    · exact o_asgS
    rw [show [110, 111, 116, 32, 99] ++ [dg i] = edgeB (F.E i) by rw [he]; rfl]
    exact j287
theorem dcl_loop (hn : F.n ≤ 9) (hon : ∀ i, i < F.n → onR[i]? = some [.bool (F.on i)]) : ∀ (k i : Nat) (s : St) (ee : List UInt8), F.n - i = k → i ≤ F.n → (i = 0 ∨ ee ≠ []) →
    (∀ ee', (F.n = 0 ∨ ee' ≠ []) → g7j30 X Q (I F.n) (I F.skip) (.lst onR) (.str (bs (dclB F (2 * F.n)))) (.str (bs ee')) s) →
    g7l251 X Q (k + 1) (I F.n) (I F.skip) (.lst onR) (.str (bs (dclB F (min (2 * i + 1) (2 * F.n))))) (.str (bs (edgesB (F.clk i)))) (.str (bs ee)) (I i) s
  | 0, i, s, ee, hk, hi, hee, hW => by
    show g7l251b _ _ _ _ _ _ _ _ _ _ _
    unfold g7l251b
    apply pQ_r
    · exact o_bin (lt_f (by omega))
    refine cf ?_
    rw [show min (2 * i + 1) (2 * F.n) = 2 * F.n by omega]
    exact hW ee (hee.imp (fun h => by omega) id)
  | k + 1, i, s, ee, hk, hi, hee, hW => by
    show g7l251b _ _ _ _ _ _ _ _ _ _ _
    rw [show min (2 * i + 1) (2 * F.n) = 2 * i + 1 by omega]
    refine dcl_round hn hon (by omega) ?_
    exact dcl_loop hn hon k (i + 1) s _ (by omega) (by omega) (.inr (by rw [edgeB_E]; simp)) hW
end
end Go.Vi
namespace Go.Vi
open Go.Proofs
theorem eqn_head (F : Fm) : dclB F (2 * F.n) ++ [108, 101, 116, 32, 121, 32, 61, 32, 120, 59, 32, 99, 48, 32, 61, 32, 116, 114, 117, 101, 59, 32] = eqnB F 1 := by
  have h : (F.it 0).by = [99, 48, 32, 61, 32, 116, 114, 117, 101, 59, 32] := rfl
  rw [eqnB_succ, h]
  simp [eqnB, itsB, It.by, Ek.by, bYY, bXX]
theorem fromB_len (F : Fm) (i : Nat) : (fromB F i).length ≤ 2 := by unfold fromB; split <;> simp
attribute [local irreducible] qAsg qPick qBox qBuild qBsl qLoad1 qLoadN qStore qNil qBin qUn qConv qSlS qSlL qFA qF1 qFN qIA qIS qEx qLenS qLenL qApp pQ pQL pGL pCall pCallL condP optP pEnd OpS Int.instDecidableEq Int.decEq instBEqOfDecidableEq qBslN qMin qIf qAs lookupQ updateQ deleteQ pC pCL pGU pDyn pRng
section
variable {F : Fm} {onR : List (List PV)} {X : Mode} {Q : PV → St → Prop}
theorem eqn174 (hn : F.n ≤ 9) {i : Nat} (hi : i < F.n) {s : St} {ed : PV} {W : F6}
    (hW : W (I F.n) (I F.skip) (.lst onR) (.str (bs (eqnB F (min (2 * (i + 1) + 1) (2 * F.n))))) ed (I (i + 1 : Nat)) s) :
    g7j174 X Q W (I F.n) (I F.skip) (.lst onR) (.str (bs (eqnB F (2 * i + 1)))) ed (I i) (.str (bs [dg i])) (.str (bs (edgeB (F.E i)))) (.str (bs (fromB F i))) s := by
  have hD := eqnB_len F hn (2 * i + 1) (by omega)
  have hE := edgeB_len F i
  have hf := fromB_len F i
  have e1 := eqnB_succ F (2 * i + 1)
  rw [it_z] at e1
  have e2 := eqnB_succ F (2 * i + 2)
  rw [it_c] at e2
  have hD2 := eqnB_len F hn (2 * i + 2) (by omega)
  generalize eqnB F (2 * i + 1) = D at hD e1 ⊢
  generalize fromB F i = fr at hf e1 ⊢
  generalize edgeB (F.E i) = ee at hE e1 ⊢
  unfold g7j174
  apply pQ_r
  · exact o_cat (b := [122]) rfl rfl (by simp; omega)
  apply pQ_r
  · exact o_cat rfl rfl (by simp; omega)
  apply pQ_r
  · exact o_cat (b := [32, 61, 32, 119, 104, 101, 110, 40]) rfl rfl (by simp; omega)
  apply pQ_r
  · exact o_cat rfl rfl (by simp; omega)
  apply pQ_r
  · exact o_cat (b := [44, 32]) rfl rfl (by simp; omega)
  apply pQ_r
  · exact o_cat rfl rfl (by simp; omega)
  apply pQ_r
  · exact o_cat (b := [41, 59, 32]) rfl rfl (by simp; omega)
  rw [show D ++ [122] ++ [dg i] ++ [32, 61, 32, 119, 104, 101, 110, 40] ++ fr ++ [44, 32] ++ ee ++ [41, 59, 32] = eqnB F (2 * i + 2) by rw [e1]; simp]
  apply pQ_r
  · exact o_asgS
  apply pQ_r
  · exact o_bin (addN (k := 1) (by omega))
  have next : ∀ {D' : List UInt8}, D' = eqnB F (min (2 * (i + 1) + 1) (2 * F.n)) → g7j131 X Q W (I F.n) (I F.skip) (.lst onR) (.str (bs D')) ed (I i) s := by
    intro D' hD'
    subst hD'
    unfold g7j131
    apply pQ_r
    · exact o_bin (addN (k := 1) (by omega))
    apply pQ_r
    · exact o_asgI
    exact hW
  by_cases hlt : i + 1 < F.n
  · apply pQ_r
    · exact o_bin (lt_t (by omega))
    refine ct ?_
    apply pQ_r
    · exact o_cat (b := [99]) rfl rfl (by simp; omega)
    apply pQ_r
    · exact o_bin (addN (k := 1) (by omega))
    apply pQ_r
    · exact o_bin (addN (k := 2) (by omega))
    apply pQ_r
    · exact o_dig (i := i + 1) (by omega)
    apply pQ_r
    · exact o_cat rfl rfl (by simp; omega)
    apply pQ_r
    · exact o_cat (b := [32, 61, 32, 122]) rfl rfl (by simp; omega)
    apply pQ_r
    · exact o_cat rfl rfl (by simp; omega)
    apply pQ_r
    · exact o_cat (b := [32, 62, 32, 48, 105, 56, 59, 32]) rfl rfl (by simp; omega)
    apply pQ_r
    · exact o_asgS
    refine next ?_
    rw [show min (2 * (i + 1) + 1) (2 * F.n) = 2 * i + 2 + 1 by omega, e2]
    simp
  · apply pQ_r
    · exact o_bin (lt_f (by omega))
    refine cf ?_
    refine next ?_
    rw [show min (2 * (i + 1) + 1) (2 * F.n) = 2 * i + 2 by omega]
theorem eqn_round (hn : F.n ≤ 9) (hon : ∀ i, i < F.n → onR[i]? = some [.bool (F.on i)]) {i : Nat} (hi : i < F.n) {s : St} {ed : PV} {W : F6}
    (hW : W (I F.n) (I F.skip) (.lst onR) (.str (bs (eqnB F (min (2 * (i + 1) + 1) (2 * F.n))))) ed (I (i + 1 : Nat)) s) :
    g7l119b X Q W (I F.n) (I F.skip) (.lst onR) (.str (bs (eqnB F (2 * i + 1)))) ed (I i) s := by
  have j174 := eqn174 (X := X) (Q := Q) (onR := onR) hn hi (ed := ed) hW
  have j163 : ∀ {fr : List UInt8}, (fr = bif decide (i = 0) then [120] else [122, dg (i - 1)]) → g7j163 X Q W (I F.n) (I F.skip) (.lst onR) (.str (bs (eqnB F (2 * i + 1)))) ed (I i) (.str (bs [dg i])) (.str (bs (edgeB (F.E i)))) (.str (bs fr)) s := by
    intro fr hfr
    unfold g7j163
    by_cases hs : (i : Int) = F.skip
    · have e : fromB F i = [120] := if_pos (.inr hs)
      rw [e] at j174
      apply pQ_r
      · exact o_bin (eq_t' hs)
      refine gk_t ?_
      by_cases h0 : 0 < i
      · refine gq_t (o_bin (gt_t h0)) ?_
        apply pQ_r
        · exact o_pickT
        exact ct j174
      · refine gq_t (o_bin (gt_f h0)) ?_
        apply pQ_r
        · exact o_pickT
        refine cf ?_
        rw [hfr, decide_eq_true (by omega)]
        exact j174
    · apply pQ_r
      · exact o_bin (eq_f' hs)
      refine gs_f ?_
      refine gs_f ?_
      apply pQ_r
      · exact o_pickF
      refine cf ?_
      have e : fromB F i = fr := by
        rw [hfr]
        unfold fromB
        by_cases h0 : i = 0
        · rw [if_pos (.inl h0), decide_eq_true h0]; rfl
        · rw [if_neg (by simp [h0, hs]), decide_eq_false h0]; rfl
      rw [e] at j174
      exact j174
  have j153 : g7j153 X Q W (I F.n) (I F.skip) (.lst onR) (.str (bs (eqnB F (2 * i + 1)))) ed (I i) (.str (bs [dg i])) (.str (bs (edgeB (F.E i)))) s := by
    unfold g7j153
    by_cases h0 : 0 < i
    · apply pQ_r
      · exact o_bin (gt_t h0)
      refine ct ?_
      apply pQ_r
      · exact o_bin (subN h0 (by omega))
      apply pQ_r
      · have := o_dig (s := s) (i := i - 1) (by omega)
        rw [show i - 1 + 1 = i by omega] at this
        exact this
      apply pQ_r
      · exact o_cat (a := [122]) rfl rfl (by simp)
      apply pQ_r
      · exact o_asgS
      refine j163 ?_
      rw [decide_eq_false (by omega)]; rfl
    · apply pQ_r
      · exact o_bin (gt_f h0)
      refine cf ?_
      refine j163 (fr := [120]) ?_
      rw [decide_eq_true (by omega)]; rfl
  unfold g7l119b
  apply pQ_r
  · exact o_bin (lt_t (by omega))
  refine ct ?_
  apply pQ_r
  · exact o_bin (addN (k := 1) (by omega))
  apply pQ_r
  · exact o_dig (by omega)
  apply pQ_r
  · exact o_asgS
  apply pQ_r
  · exact o_cat (a := [99]) rfl rfl (by simp)
  apply pQ_r
  · exact o_asgS
  apply pQ_r
  · exact o_iaL (by omega) (row := [.bool (F.on i)]) (by simpa using hon i hi) rfl
  apply pQ_r
  · exact o_load1E rfl
  apply pQ_r
  · exact o_not
  have he := edgeB_E F i
  cases ho : F.on i with
  | true =>
    rw [ho] at he
    refine cf ?_
    rw [show [99] ++ [dg i] = edgeB (F.E i) by rw [he]; rfl]
    exact j153
  | false =>
    rw [ho] at he
    refine ct ?_
    apply pQ_r
    · exact o_cat (a := [110, 111, 116, 32]) rfl rfl (by simp)
    apply pQ_r
    · exact o_asgS
    rw [show [110, 111, 116, 32] ++ ([99] ++ [dg i]) = edgeB (F.E i) by rw [he]; rfl]
    exact j153
theorem eqn_loop (hn : F.n ≤ 9) (hon : ∀ i, i < F.n → onR[i]? = some [.bool (F.on i)]) : ∀ (k i : Nat) (s : St) (ed : PV), F.n - i = k → i ≤ F.n →
    g7j41 X Q (I F.n) (I F.skip) (.str (bs (eqnB F (2 * F.n)))) ed s →
    g7l119 X Q (k + 1) (I F.n) (I F.skip) (.lst onR) (.str (bs (eqnB F (min (2 * i + 1) (2 * F.n))))) ed (I i) s
  | 0, i, s, ed, hk, hi, hW => by
    show g7l119b _ _ _ _ _ _ _ _ _ _
    unfold g7l119b
    apply pQ_r
    · exact o_bin (lt_f (by omega))
    refine cf ?_
    rw [show min (2 * i + 1) (2 * F.n) = 2 * F.n by omega]
    exact hW
  | k + 1, i, s, ed, hk, hi, hW => by
    show g7l119b _ _ _ _ _ _ _ _ _ _
    rw [show min (2 * i + 1) (2 * F.n) = 2 * i + 1 by omega]
    refine eqn_round hn hon (by omega) ?_
    exact eqn_loop hn hon k (i + 1) s ed (by omega) (by omega) hW
theorem j30_of (hn : F.n ≤ 9) (h1 : 1 ≤ F.n) (hon : ∀ i, i < F.n → onR[i]? = some [.bool (F.on i)]) {s : St} {ed : PV}
    (hW : g7j41 X Q (I F.n) (I F.skip) (.str (bs (eqnB F (2 * F.n)))) ed s) :
    g7j30 X Q (I F.n) (I F.skip) (.lst onR) (.str (bs (dclB F (2 * F.n)))) ed s := by
  have hD := dclB_len F (2 * F.n) (by omega)
  unfold g7j30
  apply pQ_r
  · exact o_cat (b := [108, 101, 116, 32, 121, 32, 61, 32, 120, 59, 32, 99, 48, 32, 61, 32, 116, 114, 117, 101, 59, 32]) rfl rfl (by simp; omega)
  rw [eqn_head]
  apply pQ_r
  · exact o_asgS
  have := eqn_loop (X := X) (Q := Q) hn hon F.n 0 s ed (by omega) (by omega) hW
  rw [show min (2 * 0 + 1) (2 * F.n) = 1 by omega] at this
  exact ⟨_, this⟩
end
end Go.Vi
namespace Go.Vi
open Go.Proofs
theorem gtI (i j : Int) : binP Tryz.prog .gtr 3 (.int .i64 i) (.int .i64 j) = some (.bool (decide (i > j))) := rfl
theorem ltI (i j : Int) : binP Tryz.prog .lss 3 (.int .i64 i) (.int .i64 j) = some (.bool (decide (i < j))) := rfl
theorem ne0 {l : List UInt8} (h : l ≠ []) : binP Tryz.prog .neq 9 (.str (bs l)) (.str ⟨#[]⟩) = some (.bool true) := by
  show some (PV.bool (!((bs l).toList == (ByteArray.mk #[]).toList))) = _
  rw [ByteArray.toList_eq, ByteArray.toList_eq, bs_data]
  cases l with
  | nil => exact absurd rfl h
  | cons x l => rfl
theorem pGf_pc {P : Program} {X : Mode} {f : FuncId} {vs args : List PV} {s : St} {kl : PV → St → List Nat → List Nat → Prop} {conts conts' : List (List PV)} {r : PV} {bs : List Nat} (h : PC P f args conts r conts') (h1 : toArgs vs 0 = some (args, bs)) (h2 : distinct bs = true) (h3 : getBoxes s bs = some conts) (h4 : conts'.length = bs.length)
    (hk : kl (place r (setBoxes s bs conts')).1 (place r (setBoxes s bs conts')).2 [] bs) : pGL (.bool false) false (fun k => pGU P X f vs s k) kl s :=
  pGL_t (by simp [guardV]) (by unfold pGU; exact (callU_or P X).2 (.inl ⟨_, _, bs, ⟨args, conts, r, conts', h1, h2, h3, h4, h, rfl⟩, hk⟩))
attribute [local irreducible] qAsg qPick qBox qBuild qBsl qLoad1 qLoadN qStore qNil qBin qUn qConv qSlS qSlL qFA qF1 qFN qIA qIS qEx qLenS qLenL qApp pQ pQL pGL pCall pCallL condP optP pEnd OpS Int.instDecidableEq Int.decEq instBEqOfDecidableEq qBslN qMin qIf qAs lookupQ updateQ deleteQ pC pCL pGU pDyn pRng
section
variable {F : Fm} {Q : PV → St → Prop}
theorem wrong_of {s : St} {K : F1} (hK : K (.bool F.wrong) s) : (oGtr3 (I F.skip) (I 0) fun h => hVT h (I F.skip) fun b => hVT h (I F.n) fun a => hQT h (qLss3 b a) fun a => oPick h a bF fun a => oAsg a K) s := by
  have hw : F.wrong = (decide (0 < F.skip) && decide (F.skip < F.n)) := rfl
  apply pQ_r
  · exact o_bin (gtI _ _)
  by_cases h : F.skip > 0
  · rw [decide_eq_true h]
    refine gk_t ?_
    refine gk_t ?_
    refine gq_t (o_bin (ltI _ _)) ?_
    apply pQ_r
    · exact o_pickT
    apply pQ_r
    · exact o_asgB
    rw [hw, decide_eq_true (show 0 < F.skip from h)] at hK
    exact hK
  · rw [decide_eq_false h]
    refine gs_f ?_
    refine gs_f ?_
    refine gs_f ?_
    apply pQ_r
    · exact o_pickF
    apply pQ_r
    · exact o_asgB
    rw [hw, decide_eq_false (show ¬ 0 < F.skip from h)] at hK
    exact hK
theorem j41_of (hn : F.n ≤ 9) (h1 : 1 ≤ F.n) {s : St} (hf : Free s) {ee : List UInt8} (hee : ee ≠ []) (hQ : ∀ s', Q (.bool true) s') :
    g7j41 (.weak .top) Q (I F.n) (I F.skip) (.str (bs (eqnB F (2 * F.n)))) (.str (bs ee)) s := by
  have hD := eqnB_len F hn (2 * F.n) (by omega)
  have hb := nodeB_eq F
  obtain ⟨N, hN, hpc⟩ := fam_typed (F := F) (t := bs (nodeB F.lcs F.its)) hn h1 (by rw [bs_size, hb]; simp; omega) (bs_data _)
  rw [hb] at hpc
  obtain ⟨o, ho, hck⟩ := fam_check hN hn
  obtain ⟨s1, hs1⟩ : ∃ s1, s1 = (s.new (.box [.nil])).set s.next (.box [.lst [N.row]]) := ⟨_, rfl⟩
  have k1 : Kp s s1 [] := by rw [hs1]; exact kp_set (kp_new hf) (Nat.le_refl _) (by rw [St.new_at rfl]; simp)
  have hb1 : s1.heap s.next = some (.box [.lst [N.row]]) := by rw [hs1]; exact St.set_self
  unfold g7j41
  apply pQ_r
  · exact o_cat (b := [116, 101, 108]) rfl rfl (by simp; omega)
  refine pC_pc (args := [.str (bs (eqnB F (2 * F.n) ++ [116, 101, 108]))]) hpc rfl rfl rfl rfl ?_
  simp only [rdy', place_tuple, set0]
  apply pQ_r
  · exact o_ex rfl
  apply pQ_r
  · exact o_ex rfl
  apply pQ_r
  · exact o_box rfl
  apply pQ_r
  · exact o_storeA (St.new_at rfl) rfl rfl rfl
  rw [← hs1]
  apply pQ_r
  · exact o_asgB
  apply pQ_r
  · exact o_loadAP hb1 rfl
  refine pC_w (hck k1.free) fun v s2 _ hf2 hq => ?_
  subst hq
  cases o with
  | none =>
    have hw : F.wrong = false := ho.symm
    simp only [ckR]
    apply pQ_r
    · exact o_ex rfl
    apply pQ_r
    · exact o_ex rfl
    apply pQ_r
    · exact o_asgI
    apply pQ_r
    · exact o_asgI
    refine wrong_of ?_
    rw [hw]
    refine gk_t ?_
    refine gq_t (o_bin (ne0 hee)) ?_
    apply pQ_r
    · exact o_pickT
    refine gk_t ?_
    refine pGt_pc (num_pc 0) rfl rfl rfl rfl ?_
    refine gq_t (o_bin (v := .bool false) (by kernel_rfl)) ?_
    refine gk_t ?_
    refine gq_t (o_bin (v := .bool true) (by kernel_rfl)) ?_
    apply pQ_r
    · exact o_pickT
    refine gk_t ?_
    refine gk_t ?_
    refine gk_f ?_
    refine pGf_pc (num_pc 0) rfl rfl rfl rfl ?_
    refine gq_f (o_bin (v := .bool true) (by kernel_rfl)) ?_
    refine gq_t o_pickF ?_
    apply pQ_r
    · exact o_pickT
    apply pQ_r
    · exact o_asgB
    exact fin_s rfl (hQ _)
  | some p =>
    have hw : F.wrong = true := ho.symm
    simp only [ckR]
    apply pQ_r
    · exact o_ex rfl
    apply pQ_r
    · exact o_ex rfl
    apply pQ_r
    · exact o_asgI
    apply pQ_r
    · exact o_asgI
    refine wrong_of ?_
    rw [hw]
    refine gk_t ?_
    refine gq_t (o_bin (ne0 hee)) ?_
    apply pQ_r
    · exact o_pickT
    refine gk_t ?_
    refine pGt_pc (num_pc 27) rfl rfl rfl rfl ?_
    refine gq_t (o_bin (v := .bool true) (by kernel_rfl)) ?_
    refine gk_t ?_
    refine gq_t (o_bin (v := .bool true) (by kernel_rfl)) ?_
    apply pQ_r
    · exact o_pickT
    refine gk_t ?_
    refine gk_t ?_
    refine gs_t ?_
    refine gs_t ?_
    refine gs_t ?_
    refine gq_t o_pickT ?_
    apply pQ_r
    · exact o_pickT
    apply pQ_r
    · exact o_asgB
    exact fin_s rfl (hQ _)
end
theorem dcl_one (F : Fm) : bs (dclB F 1) = ⟨#[110, 111, 100, 101, 32, 102, 40, 120, 58, 32, 105, 56, 41, 32, 114, 101, 116, 117, 114, 110, 115, 32, 40, 121, 58, 32, 105, 56, 41, 32, 118, 97, 114, 32, 99, 48, 58, 32, 98, 111, 111, 108, 59, 32]⟩ := by
  have h : (F.lc 0).by = [99, 48, 58, 32, 98, 111, 111, 108, 59, 32] := by
    unfold Fm.lc Lc.by
    simp [key, cNm, Fm.clk, kdB]
  have h0 : dclB F 0 = headB := by simp [dclB, lcsB]
  rw [dclB_succ, h0, h]
  rfl
section
variable {Q : PV → St → Prop} {n skip : Int} {rows : List (List PV)} {s : St}
theorem ask_t {d : PV} {K : F0} (h : decide (n < 1) = true ∨ decide (n > 9) = true ∨ decide ((rows.length : Int) < n) = true) (hd : d = .bool true) (hQ : Q (.bool true) s) :
    (oUn .not d fun g => hVF g (I n) fun h => hQF g (qLss3 h (I 1)) fun h => oPick g bT h fun g => hVF g (I n) fun h => hQF g (qGtr3 h (I 9)) fun h => oPick g bT h fun g => hVF g (.lst rows) fun h => hQF g (qLenL h) fun h => hVF g (I n) fun i => hQF g (qLss3 h i) fun h => oPick g bT h fun g => cN g (oAsg d fun d => s1 d Q) K) s := by
  subst hd
  have hend : ∀ {v : PV}, v = .bool true → cN v (oAsg (.bool true) fun d => s1 d Q) K s := by
    rintro _ rfl
    refine ct ?_
    apply pQ_r
    · exact o_asgB
    exact fin_s rfl hQ
  apply pQ_r
  · exact o_not
  refine gk_f ?_
  refine gq_f (o_bin (ltI _ _)) ?_
  apply pQ_r
  · exact o_pickF
  cases h1 : decide (n < 1) with
  | true =>
    refine gs_t ?_
    refine gs_t ?_
    apply pQ_r
    · exact o_pickT
    refine gs_t ?_
    refine gs_t ?_
    refine gs_t ?_
    refine gs_t ?_
    apply pQ_r
    · exact o_pickT
    exact hend rfl
  | false =>
    refine gk_f ?_
    refine gq_f (o_bin (gtI _ _)) ?_
    apply pQ_r
    · exact o_pickF
    cases h2 : decide (n > 9) with
    | true =>
      refine gs_t ?_
      refine gs_t ?_
      refine gs_t ?_
      refine gs_t ?_
      apply pQ_r
      · exact o_pickT
      exact hend rfl
    | false =>
      rw [h1, h2] at h
      refine gk_f ?_
      refine gq_f (o_lenL rfl) ?_
      refine gk_f ?_
      refine gq_f (o_bin (ltI _ _)) ?_
      apply pQ_r
      · exact o_pickF
      exact hend (congrArg PV.bool (by simpa using h))
theorem ask_f {d : PV} {K : F0} {A : F0} (h1 : ¬ n < 1) (h2 : ¬ n > 9) (h3 : ¬ (rows.length : Int) < n) (hd : d = .bool true) (hK : K s) :
    (oUn .not d fun g => hVF g (I n) fun h => hQF g (qLss3 h (I 1)) fun h => oPick g bT h fun g => hVF g (I n) fun h => hQF g (qGtr3 h (I 9)) fun h => oPick g bT h fun g => hVF g (.lst rows) fun h => hQF g (qLenL h) fun h => hVF g (I n) fun i => hQF g (qLss3 h i) fun h => oPick g bT h fun g => cN g A K) s := by
  subst hd
  apply pQ_r
  · exact o_not
  refine gk_f ?_
  refine gq_f (o_bin (ltI _ _)) ?_
  apply pQ_r
  · exact o_pickF
  rw [decide_eq_false h1]
  refine gk_f ?_
  refine gq_f (o_bin (gtI _ _)) ?_
  apply pQ_r
  · exact o_pickF
  rw [decide_eq_false h2]
  refine gk_f ?_
  refine gq_f (o_lenL rfl) ?_
  refine gk_f ?_
  refine gq_f (o_bin (ltI _ _)) ?_
  apply pQ_r
  · exact o_pickF
  rw [decide_eq_false h3]
  exact cf hK
end
theorem deep_pc (n skip : Int) (m : Nat) (f : Nat → Bool) : PC Tryz.prog 7 [.int .i64 n, .int .i64 skip, .lst ((List.range m).map fun i => [.bool (f i)])] [] (.bool true) [] := by
  refine pc_of_sw (Q := fun r s => r = .bool true) ((g7_cd (.weak .top) _ _ _ ?_).sw free_init) fun r s h => by rw [h]; rfl
  have hQ : ∀ s', (fun (r : PV) (s' : St) => r = .bool true) (.bool true) s' := fun _ => rfl
  generalize (fun (r : PV) (s' : St) => r = .bool true) = Q at hQ
  have hlen : (((List.range m).map fun i => [PV.bool (f i)]).length) = m := by simp
  have hon : ∀ k : Nat, k ≤ m → ∀ i, i < k → ((List.range m).map fun i => [PV.bool (f i)])[i]? = some [.bool (f i)] := fun k hk i hi => by
    rw [List.getElem?_map, List.getElem?_range (by omega)]; rfl
  generalize ((List.range m).map fun i => [PV.bool (f i)]) = rows at hlen hon
  unfold g7
  refine pC_w (alive_sw free_init) fun v s1 _ hf1 hq => ?_
  subst hq
  apply pQ_r
  · exact o_asgB
  by_cases h : n < 1 ∨ n > 9 ∨ (rows.length : Int) < n
  · exact ask_t (by simpa using h) rfl (hQ _)
  · have h1 : ¬ n < 1 := fun hh => h (.inl hh)
    have h2 : ¬ n > 9 := fun hh => h (.inr (.inl hh))
    have h3 : ¬ (rows.length : Int) < n := fun hh => h (.inr (.inr hh))
    refine ask_f h1 h2 h3 rfl ?_
    obtain ⟨k, rfl⟩ : ∃ k : Nat, n = k := ⟨n.toNat, by omega⟩
    have := dcl_loop (F := ⟨k, f, skip⟩) (onR := rows) (X := .weak .top) (Q := Q) (by show k ≤ 9; omega) (hon k (by omega)) k 0 s1 [] (by show k - 0 = k; omega) (Nat.zero_le _) (.inl rfl) fun ee hee => j30_of (F := ⟨k, f, skip⟩) (by show k ≤ 9; omega) (by show 1 ≤ k; omega) (hon k (by omega)) (j41_of (F := ⟨k, f, skip⟩) (by show k ≤ 9; omega) (by show 1 ≤ k; omega) hf1 (hee.resolve_left (by show ¬ k = 0; omega)) hQ)
    rw [show min (2 * 0 + 1) (2 * (Fm.mk k f skip).n) = 1 by show min (2 * 0 + 1) (2 * k) = 1; omega, dcl_one] at this
    exact ⟨_, this⟩
end Go.Vi
