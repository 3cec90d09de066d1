/- Part of the proof of ClocksDeep (own work). -/
import Derived.Test.YtlonlfiaclacdaaGreatE1
import Derived.Test.YtlonlfiaclacdaaGreatF2
import Derived.Test.YtlonlfiaclacdaaGreatL1
import Derived.Test.YtlonlfiaclacdaaGreatG2
import Derived.Test.YtlonlfiaclacdaaGreatK1
import Derived.Test.YtlonlfiaclacdaaGreatProg
import Derived.KernelRfl
set_option linter.all false
set_option maxRecDepth 100000
namespace Go.Vi
open Go.Proofs
mutual
theorem prV_mem {x : PV} : ∀ {e : Exp}, x ∈ prV e → ∃ e' : Exp, x = .agg e'.row
  | .mk f s n tk tl nn m kids a, h => by
    simp only [prV, List.mem_cons] at h
    rcases h with rfl | h
    · exact ⟨_, rfl⟩
    · exact prVs_mem h
theorem prVs_mem {x : PV} : ∀ {l : List Exp}, x ∈ prVs l → ∃ e' : Exp, x = .agg e'.row
  | [], h => by simp [prVs] at h
  | k :: r, h => by
    simp only [prVs, List.mem_append] at h
    rcases h with h | h
    · exact prV_mem h
    · exact prVs_mem h
end
theorem UsI.stable {s0 s s' : St} {fb lb : Nat} {pre : List PV} (h : UsI s0 fb lb pre s) (hf : Free s) (hn : s.next ≤ s'.next) (hk : ∀ b, b < s.next → s'.heap b = s.heap b) : UsI s0 fb lb pre s' := by
  refine ⟨fun b h1 h2 => (hk b (Nat.lt_of_lt_of_le h1 h.next)).trans (h.kp b h1 h2), Nat.le_trans h.next hn, h.grows.trans ⟨hn, fun b h1 h2 => (hk b h1).trans h2⟩, (hk fb (free_lt hf h.fn)).trans h.fn, ?_⟩
  rcases h.lst with h1 | ⟨ab, rows, h1, h2, h3⟩
  · exact .inl ((hk lb (free_lt hf h1)).trans h1)
  · exact .inr ⟨ab, rows, (hk lb (free_lt hf h1)).trans h1, (hk ab (free_lt hf h2)).trans h2, h3⟩
attribute [local irreducible] qAsg qPick qBox qBuild qBsl qLoad1 qLoadN qStore qNil qBin qUn qConv qSlS qSlL qFA qF1 qFN qIA qIS qEx qLenS qLenL qApp pQ pQL pGL pCall pCallL condP optP pEnd OpS Int.instDecidableEq Int.decEq instBEqOfDecidableEq qBslN qMin qIf qAs lookupQ updateQ deleteQ pC pCL pGU pDyn pRng
theorem us_round {s0 s : St} {fb lb : Nat} {pre : List PV} {e : Exp} (hf : Free s) (h : UsI s0 fb lb pre s) (hl : pre.length ≤ 1000000) :
    g114r16 (.weak .top) (.ptr fb 0) (.ptr lb 0) (.agg e.row) (fun s2 => UsI s0 fb lb (pre ++ [.agg e.row]) s2 ∧ BK lb s s2) s := by
  obtain ⟨s1, hs1⟩ : ∃ s1, s1 = (s.new (.box zE)).set s.next (.box e.row) := ⟨_, rfl⟩
  have k1 : Kp s s1 [] := by rw [hs1]; exact kp_set (kp_new hf) (Nat.le_refl _) (by rw [St.new_at rfl]; simp)
  have hN : s1.heap s.next = some (.box e.row) := by rw [hs1]; exact St.set_self
  have h1 := h.stable hf k1.grows.next fun b hb => k1.keep b hb (by simp)
  unfold g114r16
  apply pQ_r
  · exact o_box rfl
  apply pQ_r
  · exact o_storeA (St.new_at rfl) e.row_len (by rw [Exp.row_eq]; rfl) rfl
  rw [← hs1]
  apply pQ_r
  · exact o_load1P h1.fn rfl
  apply pQ_r
  · exact o_loadAP hN e.row_len
  refine pDyn_w (.inl ⟨115, [], [.agg e.row], Tryz.f115, rfl, Tryz.func115, by kernel_rfl, by kernel_rfl, use_sw k1.free⟩) fun v s2 _ _ hq => ?_
  obtain ⟨⟨n, u, rfl⟩, k2⟩ := hq
  have k12 := k1.trans k2
  have h2 := h.stable hf k12.grows.next fun b hb => k12.keep b hb (by simp)
  have hB : BK lb s s2 := fun b cs hb _ => (k12.keep b (free_lt hf hb) (by simp)).trans hb
  apply pQ_r
  · exact o_ex rfl
  apply pQ_r
  · exact o_ex rfl
  apply pQ_r
  · exact o_asgS
  apply pQ_r
  · exact o_asgB
  refine cond_0 ?_ ⟨⟨h2.kp, h2.next, h2.grows, h2.fn, h2.lst.imp id fun ⟨ab, rows, a1, a2, a3, a4, a5⟩ => ⟨ab, rows, a1, a2, a3, a4, by simp; omega⟩⟩, hB⟩
  rcases h2.lst with a1 | ⟨ab, rows, a1, a2, a3, a4, a5⟩
  · apply pQ_r
    · exact o_load1P a1 rfl
    apply pQ_r
    · exact o_bsl (rows := [[.str n]]) rfl
    apply pQ_r
    · exact o_appN (xs := [[.str n]]) rfl rfl rfl rfl
    have hlb := free_lt k2.free a1
    have k3 : Kp s2 (s2.new (.own 1 1)) [] := kp_new k2.free
    have a1' := (k3.keep lb hlb (by simp)).trans a1
    apply pQ_r
    · exact o_store1 a1' rfl rfl rfl
    have hk : ∀ b, b < s2.next → b ≠ lb → ((s2.new (.own 1 1)).set lb (.box [.acc s2.next [[.str n]]])).heap b = s2.heap b := fun b h1 h2 => by rw [St.set_ne2 h2]; exact k3.keep b h1 (by simp)
    have hfb : fb ≠ lb := by rintro rfl; rw [h2.fn] at a1; cases a1
    refine ⟨⟨fun b h3 h4 => (hk b (Nat.lt_of_lt_of_le h3 h2.next) h4).trans (h2.kp b h3 h4), Nat.le_trans h2.next (Nat.le_succ _), (h2.grows.trans k3.grows).trans (grows_set (by rw [a1']; simp)), (hk fb (free_lt k2.free h2.fn) hfb).trans h2.fn, .inr ⟨s2.next, [[.str n]], St.set_self, ?_, h2.next, rfl, by simp⟩⟩, fun b cs hb hne => ?_⟩
    · rw [St.set_ne2 (by omega)]; exact St.new_at rfl
    · have := hB b cs hb hne
      exact (hk b (free_lt k2.free this) hne).trans this
  · apply pQ_r
    · exact o_load1P a1 rfl
    apply pQ_r
    · exact o_bsl (rows := [[.str n]]) rfl
    apply pQ_r
    · exact o_app (xs := [[.str n]]) rfl rfl (by exact Bool.and_eq_true_iff.2 ⟨Nat.ble_eq_true_of_le (by simp; omega), Nat.ble_eq_true_of_le (by simp; omega)⟩) a4 a2 (.inr rfl)
    have hne : ab ≠ lb := by rintro rfl; rw [a1] at a2; cases a2
    have a1' : (s2.set ab (.own (rows.length + [[PV.str n]].length) 1)).heap lb = some (.box [.acc ab rows]) := by rw [St.set_ne2 hne.symm]; exact a1
    apply pQ_r
    · exact o_store1 a1' rfl rfl rfl
    have hk : ∀ b, b ≠ ab → b ≠ lb → ((s2.set ab (.own (rows.length + [[PV.str n]].length) 1)).set lb (.box [.acc ab (rows ++ [[.str n]])])).heap b = s2.heap b := fun b h1 h2 => by rw [St.set_ne2 h2, St.set_ne2 h1]
    have hfb : fb ≠ lb := by rintro rfl; rw [h2.fn] at a1; cases a1
    have hfa : fb ≠ ab := by rintro rfl; rw [h2.fn] at a2; cases a2
    refine ⟨⟨fun b h3 h4 => (hk b (by omega) h4).trans (h2.kp b h3 h4), h2.next, (h2.grows.trans (grows_set (by rw [a2]; simp))).trans (grows_set (by rw [a1']; simp)), (hk fb hfa hfb).trans h2.fn, .inr ⟨ab, rows ++ [[.str n]], St.set_self, ?_, a3, ?_, by simp; omega⟩⟩, fun b cs hb hne => ?_⟩
    · rw [St.set_ne2 hne, St.set_self]; simp
    · rw [List.all_append, a4]; rfl
    · have := hB b cs hb hne
      exact (hk b (by rintro rfl; rw [a2] at this; cases this) hne).trans this
theorem rng_us {e : Exp} (he : e.WF) (hl : (prV e).length ≤ 1000000) {s : St} (hf : Free s) {fb lb pb : Nat} (hfb : s.heap fb = some (.box [.fn 115 []])) (hlb : s.heap lb = some (.box [.nil])) (hpb : s.heap pb = some (.box e.row)) {K : St → Prop}
    (hK : ∀ s', Free s' → UsI s fb lb (prV e) s' → K s') : pRng Tryz.prog (.weak .top) (.fn 156 [.ptr pb 0]) (g114r16 (.weak .top) (.ptr fb 0) (.ptr lb 0)) K s := by
  have h0 : UsI s fb lb [] s := ⟨fun _ _ _ => rfl, Nat.le_refl _, Grows.refl s, hfb, .inl hlb⟩
  unfold pRng
  refine ⟨fun _ => trivial, 156, [.ptr pb 0], UsI s fb lb, BK lb, prV e, rfl, by kernel_rfl, fun pre x post s1 hx hI hf1 => ?_, fun E' L hr => ?_, fun s1 hI hf1 hG => hK s1 hf1 hI⟩
  · obtain ⟨e', rfl⟩ : ∃ e' : Exp, x = .agg e'.row := prV_mem (by rw [hx]; simp)
    refine us_round hf1 hI ?_
    have := congrArg List.length hx
    simp at this; omega
  · exact parts_sw (lb := lb) (I := UsI s fb lb) ⟨fun h a b c d => h.stable a c d, fun h hf => by
      rcases h.lst with h1 | ⟨_, _, h1, _⟩ <;> exact free_lt hf h1, hr⟩ he rfl hf h0 hpb
theorem parts0_sw {E : Env} {e : Exp} {s : St} (hf : Free s) : SW E Tryz.prog 134 [.agg e.row] s fun r s' => r = .fn 156 [.ptr s.next 0] ∧ s' = s.new (.box e.row) := by
  refine (g134_cd (.weak E) _ ?_).sw hf
  unfold g134
  apply pQ_r
  · exact o_boxA (by rw [Exp.row_eq]; rfl) rfl
  apply pQ_r
  · exact o_asgF
  exact fin_s (Q := fun r s' => r = .fn 156 [.ptr s.next 0] ∧ s' = s.new (.box e.row)) rfl ⟨rfl, rfl⟩
theorem told_sw {e : Exp} (he : e.WF) (hl : (prV e).length ≤ 1000000) {s : St} (hf : Free s) : SW .top Tryz.prog 114 [.agg e.row, .fn 115 []] s fun r s' => (∃ d rows, r = .acc d rows) ∧ Kp s s' [] := by
  obtain ⟨s4, hs4⟩ : ∃ s4, s4 = (((s.new (.box e.row)).new (.box [.fn 115 []])).new (.own 0 0)).new (.box [.nil]) := ⟨_, rfl⟩
  have k4 : Kp s s4 [] := by rw [hs4]; exact (((kp_new hf).trans (kp_new (free_new hf))).trans (kp_new (free_new (free_new hf)))).trans (kp_new (free_new (free_new (free_new hf))))
  have hn4 : s4.next = s.next + 4 := by rw [hs4]; rfl
  have hN : s4.heap s.next = some (.box e.row) := by rw [hs4]; exact (St.new_ne2 (n := s.next + 3) rfl (by omega)).trans ((St.new_ne2 (n := s.next + 2) rfl (by omega)).trans ((St.new_ne2 (n := s.next + 1) rfl (by omega)).trans (St.new_at rfl)))
  have hN1 : s4.heap (s.next + 1) = some (.box [.fn 115 []]) := by rw [hs4]; exact (St.new_ne2 (n := s.next + 3) rfl (by omega)).trans ((St.new_ne2 (n := s.next + 2) rfl (by omega)).trans (St.new_at rfl))
  have hN3 : s4.heap (s.next + 3) = some (.box [.nil]) := by rw [hs4]; exact St.new_at rfl
  refine (g114_cd (.weak .top) _ _ ?_).sw hf
  unfold g114
  apply pQ_r
  · exact o_boxA (by rw [Exp.row_eq]; rfl) rfl
  apply pQ_r
  · exact o_boxS (n := s.next + 1) rfl rfl
  apply pQ_r
  · exact o_own (n := s.next + 2) rfl
  apply pQ_r
  · exact o_box (n := s.next + 3) rfl
  rw [← hs4]
  apply pQ_r
  · exact o_loadAP hN e.row_len
  refine pC_w (parts0_sw (e := e) k4.free) fun v s5 _ hf5 hq => ?_
  obtain ⟨rfl, rfl⟩ := hq
  have k5 : Kp s4 (s4.new (.box e.row)) [] := kp_new k4.free
  refine rng_us he hl hf5 ((k5.keep _ (by omega) (by simp)).trans hN1) ((k5.keep _ (by omega) (by simp)).trans hN3) (St.new_at rfl) fun s6 hf6 hU => ?_
  have k6 : Kp s s6 [] := .of hf6 (by have := hU.next; have : (s4.new (.box e.row)).next = s4.next + 1 := rfl; omega) fun b hb => by
    rw [hU.kp b (by have : (s4.new (.box e.row)).next = s4.next + 1 := rfl; omega) (by omega), k5.keep b (by omega) (by simp)]; exact k4.keep b hb (by simp)
  have fin : ∀ {d rows s7}, Kp s s7 [] → (fun (r : PV) (s' : St) => (∃ d rows, r = .acc d rows) ∧ Kp s s' []) (.acc d rows) s7 := fun h => ⟨⟨_, _, rfl⟩, h⟩
  rcases hU.lst with a1 | ⟨ab, rows, a1, _⟩
  · apply pQ_r
    · exact o_load1P a1 rfl
    apply pQ_r
    · exact o_asgN rfl
    exact fin_s (Q := fun r s' => (∃ d rows, r = .acc d rows) ∧ Kp s s' []) rfl (fin (k6.trans (kp_new hf6)))
  · apply pQ_r
    · exact o_load1P a1 rfl
    apply pQ_r
    · exact o_asgA
    exact fin_s (Q := fun r s' => (∃ d rows, r = .acc d rows) ∧ Kp s s' []) rfl (fin k6)
theorem uses_sw {e : Exp} (he : e.WF) (hl : (prV e).length ≤ 1000000) {s : St} (hf : Free s) : SW .top Tryz.prog 97 [.agg e.row] s fun r s' => Kp s s' [] := by
  refine (g97_cd (.weak .top) _ ?_).sw hf
  have k2 : Kp s ((s.new (.box e.row)).new (.own 0 0)) [] := (kp_new hf).trans (kp_new (free_new hf))
  unfold g97
  apply pQ_r
  · exact o_boxA (by rw [Exp.row_eq]; rfl) rfl
  apply pQ_r
  · exact o_own (n := s.next + 1) rfl
  apply pQ_r
  · exact o_loadAP ((St.new_ne2 (n := s.next + 1) rfl (by omega)).trans (St.new_at rfl)) e.row_len
  refine pC_w (told_sw he hl k2.free) fun v s3 _ _ hq => ?_
  obtain ⟨⟨d, rows, rfl⟩, k3⟩ := hq
  apply pQ_r
  · exact o_asgA
  exact fin_s (Q := fun r s' => Kp s s' []) rfl (k2.trans k3)
end Go.Vi
namespace Go.Vi
open Go.Proofs
theorem pGu_w {E : Env} {f : FuncId} {vs : List PV} {s : St} {kl : PV → St → List Nat → List Nat → Prop} {Q : PV → St → Prop} (h : SW E Tryz.prog f vs s Q) (hk : ∀ v s', Grows s s' → Free s' → Q v s' → kl v s' [] []) : pGL (.bool false) false (fun k => pGU Tryz.prog (.weak E) f vs s k) kl s :=
  pGL_t (by simp [guardV]) (by unfold pGU; exact (callU_or Tryz.prog _).2 (.inr ⟨Q, h, hk⟩))
theorem outside_w {s : St} {cb mb : Nat} {M : EM} (hf : Free s) (h : CkS s cb mb M) (l : PV) : SW .top Tryz.prog 59 [.ptr cb 0, l] s fun r s' => r = .bool true ∧ s' = s := (outside_sc hf h l).sw ⟨rfl, rfl⟩
theorem say_w {s : St} {cb mb : Nat} {M : EM} (hf : Free s) (h : CkS s cb mb M) (a : Int) : SW .top Tryz.prog 60 [.ptr cb 0, .int .i64 a] s fun r s' => CkB s' cb mb a ∧ Kp s s' [cb] := by
  obtain ⟨s', h1, h2, h3⟩ := say_sc (E := .top) hf h a
  exact h1.sw ⟨h2, h3⟩
attribute [local irreducible] qAsg qPick qBox qBuild qBsl qLoad1 qLoadN qStore qNil qBin qUn qConv qSlS qSlL qFA qF1 qFN qIA qIS qEx qLenS qLenL qApp pQ pQL pGL pCall pCallL condP optP pEnd OpS Int.instDecidableEq Int.decEq instBEqOfDecidableEq qBslN qMin qIf qAs lookupQ updateQ deleteQ pC pCL pGU pDyn pRng
section
variable {cb mb : Nat} {M : EM}
theorem eq_head {x : Item} {w : ByteArray} (hx : x.names = [w]) (he : x.e.WF) (hpl : (prV x.e).length ≤ 1000000) {s : St} (hf : Free s) (hS : CkS s cb mb M) {Q : PV → St → Prop} {R : PV → St → St → Prop} (hR : ∀ s1, Free s1 → CkS s1 cb mb M → SW .top Tryz.prog 98 [.ptr cb 0, .agg x.e.row] s1 (R · s1 ·))
    (hk : ∀ v s1 s2, Kp s s1 [] → CkS s1 cb mb M → s1.heap s.next = some (.box x.row) → Free s2 → Grows s1 s2 → R v s1 s2 →
      (oBx [.bool false, .nil] fun d => oStore 2 v d fun _ => oNFL 2 (.ptr cb 0) fun c => oBin .neq 69 c .nptr fun c => cN c (s0 Q) (oFL 0 (.ptr s.next 0) fun c => oLenL c fun g => e6 (g62l54 (.weak .top) Q) (.ptr cb 0) (.ptr s.next 0) d c g (I 0))) s2) :
    g62 (.weak .top) Q (.ptr cb 0) (.agg x.row) s := by
  have hr0 : x.row[0]? = some (.lst [[.str w]]) := by rw [Item.row_eq, hx]; rfl
  have k1 : Kp s (s.new (.box x.row)) [] := kp_new hf
  have hb1 : (s.new (.box x.row)).heap s.next = some (.box x.row) := St.new_at rfl
  have hS1 := hS.kp hf k1
  unfold g62
  apply pQ_r
  · exact o_boxA (by rw [Item.row_eq, Exp.row_eq]; rfl) rfl
  apply pQ_r
  · exact o_faP
  apply pQ_r
  · exact o_load1P hb1 hr0
  generalize s.new (.box x.row) = s1 at k1 hb1 hS1 ⊢
  refine pC_w (outside_w k1.free hS1 _) fun v s2 _ _ hq => ?_
  obtain ⟨rfl, rfl⟩ := hq
  apply pQ_r
  · exact o_not
  refine gk_f ?_
  refine gq_f o_faP ?_
  refine gq_f (o_loadNP hb1 (by exact Item.cut x)) ?_
  refine pGu_w (uses_sw he hpl k1.free) fun v s3 _ _ k3 => ?_
  have k13 := k1.trans k3
  have hS3 := hS.kp hf k13
  have hb3 : s3.heap s.next = some (.box x.row) := (k3.keep _ (free_lt k1.free hb1) (by simp)).trans hb1
  refine pGu_w (outside_w k13.free hS3 _) fun v' s4 _ _ hq => ?_
  obtain ⟨rfl, rfl⟩ := hq
  refine gq_f o_not ?_
  apply pQ_r
  · exact o_pickF
  refine cf ?_
  apply pQ_r
  · exact o_faP
  apply pQ_r
  · exact o_loadNP hb3 (by exact Item.cut x)
  refine pC_w (hR _ k13.free hS3) fun v s5 hg5 hf5 hq => ?_
  exact hk v _ s5 k13 hS3 hb3 hf5 hg5 hq
theorem eq_ok {x : Item} {w : ByteArray} {c : Ck} (hM : ∀ n, (el M n).length ≤ 1000) (hx : x.names = [w]) (he : x.e.WF) (hpl : (prV x.e).length ≤ 1000000) (hc : CE M x.e c) {s : St} (hf : Free s) (hS : CkS s cb mb M) :
    SW .top Tryz.prog 62 [.ptr cb 0, .agg x.row] s fun r s' => match c.goes (el M w) with
      | true => Kp s s' []
      | false => CkB s' cb mb x.at' ∧ Kp s s' [cb] := by
  have hr0 : x.row[0]? = some (.lst [[.str w]]) := by rw [Item.row_eq, hx]; rfl
  have hr11 : x.row[11]? = some (.int .i64 x.at') := by rw [Item.row_eq, Exp.row_eq]; rfl
  have hlt := hS.lt hf
  have hlw := hM w
  have hcl := hc.len hM
  refine (g62_cd (.weak .top) _ _ ?_).sw hf
  have hQ1 : c.goes (el M w) = true → ∀ (r : PV) (s' : St), Kp s s' [] → (fun (r : PV) (s' : St) => match c.goes (el M w) with
      | true => Kp s s' []
      | false => CkB s' cb mb x.at' ∧ Kp s s' [cb]) r s' := fun h r s' hk => by simp only [h]; exact hk
  have hQ2 : c.goes (el M w) = false → ∀ (r : PV) (s' : St), CkB s' cb mb x.at' ∧ Kp s s' [cb] → (fun (r : PV) (s' : St) => match c.goes (el M w) with
      | true => Kp s s' []
      | false => CkB s' cb mb x.at' ∧ Kp s s' [cb]) r s' := fun h r s' hk => by simp only [h]; exact hk
  generalize (fun (r : PV) (s' : St) => match c.goes (el M w) with
      | true => Kp s s' []
      | false => CkB s' cb mb x.at' ∧ Kp s s' [cb]) = Q at hQ1 hQ2
  refine eq_head (R := fun v s1 s2 => CkV v c ∧ Kp s1 s2 []) hx he hpl hf hS (fun s1 h1 h2 => exp_ok hM hc s1 h1 h2) fun v s1 s2 k1 hS1 hb1 hf2 hg2 hq => ?_
  obtain ⟨hv, k2⟩ := hq
  have k12 := k1.trans k2
  have hS2 := hS.kp hf k12
  have hb2 : s2.heap s.next = some (.box x.row) := (k2.keep _ (free_lt k1.free hb1) (by simp)).trans hb1
  obtain ⟨l, rfl, hdl, hll, hls⟩ := hv.ex
  obtain ⟨s3, hs3⟩ : ∃ s3, s3 = (s2.new (.box [.bool false, .nil])).set s2.next (.box l) := ⟨_, rfl⟩
  have k3 : Kp s2 s3 [] := by rw [hs3]; exact kp_set (kp_new hf2) (Nat.le_refl _) (by rw [St.new_at rfl]; simp)
  have hN3 : s3.heap s2.next = some (.box l) := by rw [hs3]; exact St.set_self
  have k13 := k12.trans k3
  have hS3 := hS.kp hf k13
  have hb3 : s3.heap s.next = some (.box x.row) := (k3.keep _ (free_lt hf2 hb2) (by simp)).trans hb2
  have hc3 := hS3.box
  apply pQ_r
  · exact o_box rfl
  apply pQ_r
  · exact o_storeA (St.new_at rfl) hll hls rfl
  rw [← hs3]
  apply pQ_r
  · exact o_nilP
  apply pQ_r
  · exact o_faP
  apply pQ_r
  · exact o_load1P hc3 rfl
  apply pQ_r
  · exact o_bin (v := .bool false) (by kernel_rfl)
  refine cf ?_
  apply pQ_r
  · exact o_faP
  apply pQ_r
  · exact o_load1P hb3 hr0
  apply pQ_r
  · exact o_lenL rfl
  refine ⟨2, ?_⟩
  show g62l54b _ _ _ _ _ _ _ _ _ _
  unfold g62l54b
  apply pQ_r
  · exact o_bin (v := .bool true) (by kernel_rfl)
  refine ct ?_
  apply pQ_r
  · exact o_iaL (rows := [[.str w]]) (row := [.str w]) (Int.le_refl 0) rfl rfl
  apply pQ_r
  · exact o_load1E rfl
  apply pQ_r
  · exact o_asgS
  apply pQ_r
  · exact o_nilP
  apply pQ_r
  · exact o_faP
  apply pQ_r
  · exact o_load1P hc3 rfl
  apply pQ_r
  · exact o_lookS hS3.map
  apply pQ_r
  · exact o_asgL
  apply pQL_r
  · exact o_loadAP hN3 hll
  refine pCL_pc (goes_pc c (el M w) (by omega) (by omega)) (by
    show toArgs [.agg l, .lst (eRows (el M w))] 0 = _
    simp only [toArgs, PV.arg1, hdl, PV.data]; rfl) rfl rfl rfl ?_
  cases hg : c.goes (el M w) with
  | true =>
    simp only [place_bool, set0]
    apply pQL_r
    · exact o_not
    refine gk_f ?_
    refine gk_f ?_
    refine gq_f o_nilP ?_
    refine gq_f o_faP ?_
    refine gq_f (o_load1P hc3 rfl) ?_
    refine gq_f o_faP ?_
    refine gq_f (o_load1P hb3 hr0) ?_
    refine gq_f (o_iaL (rows := [[.str w]]) (row := [.str w]) (Int.le_refl 0) rfl rfl) ?_
    refine gq_f (o_load1E rfl) ?_
    refine gq_f (o_lookS hS3.map) ?_
    refine pGd_f (pCL_pc (same_pc (el M w) (el M w) (by omega) (by omega)) rfl rfl rfl rfl ?_)
    rw [sameE_self]
    simp only [place_bool, set0]
    refine gq_f o_not ?_
    apply pQL_r
    · exact o_pickF
    refine ⟨by simp [clashesB, clashInB, clashB, ids], ?_⟩
    refine cf ?_
    apply pQ_r
    · exact o_bin (v := .int .i64 1) (by kernel_rfl)
    show g62l54b _ _ _ _ _ _ _ _ _ _
    unfold g62l54b
    apply pQ_r
    · exact o_bin (v := .bool false) (by kernel_rfl)
    refine cf ?_
    exact fin_s rfl (hQ1 hg _ _ k13)
  | false =>
    simp only [place_bool, set0]
    apply pQL_r
    · exact o_not
    refine gs_t ?_
    refine gs_t ?_
    refine gs_t ?_
    refine gs_t ?_
    refine gs_t ?_
    refine gs_t ?_
    refine gs_t ?_
    refine gs_t ?_
    refine gs_t ?_
    refine gs_t ?_
    refine gs_t ?_
    refine gs_t ?_
    apply pQL_r
    · exact o_pickT
    refine ⟨by simp [clashesB, clashInB, clashB, ids], ?_⟩
    refine ct ?_
    apply pQ_r
    · exact o_faP
    apply pQ_r
    · exact o_load1P hb3 hr11
    refine pC_w (say_w k13.free hS3 x.at') fun v s4 _ _ hq => ?_
    exact fin_s rfl (hQ2 hg _ _ ⟨hq.1, (k13.mono (by simp)).trans hq.2⟩)
theorem eq_bad {x : Item} {w : ByteArray} {a : Int} (hx : x.names = [w]) (he : x.e.WF) (hpl : (prV x.e).length ≤ 1000000) (hR : ∀ s1, Free s1 → CkS s1 cb mb M → SW .top Tryz.prog 98 [.ptr cb 0, .agg x.e.row] s1 fun r s' => r = .agg [.bool true, .nil] ∧ CkB s' cb mb a ∧ Kp s1 s' [cb]) {s : St} (hf : Free s) (hS : CkS s cb mb M) :
    SW .top Tryz.prog 62 [.ptr cb 0, .agg x.row] s fun r s' => CkB s' cb mb a ∧ Kp s s' [cb] := by
  refine (g62_cd (.weak .top) _ _ ?_).sw hf
  refine eq_head (R := fun v s1 s2 => v = .agg [.bool true, .nil] ∧ CkB s2 cb mb a ∧ Kp s1 s2 [cb]) hx he hpl hf hS hR fun v s1 s2 k1 hS1 hb1 hf2 hg2 hq => ?_
  obtain ⟨rfl, hB, k2⟩ := hq
  obtain ⟨bb, e1, e2⟩ := hB
  have hcl := free_lt hf2 e1
  have hbl := free_lt hf2 e2
  have k12 := (k1.mono (ex' := [cb]) (by simp)).trans k2
  obtain ⟨s3, hs3⟩ : ∃ s3, s3 = (s2.new (.box [.bool false, .nil])).set s2.next (.box [.bool true, .nil]) := ⟨_, rfl⟩
  have k3 : Kp s2 s3 [] := by rw [hs3]; exact kp_set (kp_new hf2) (Nat.le_refl _) (by rw [St.new_at rfl]; simp)
  have e1' := (k3.keep cb hcl (by simp)).trans e1
  have e2' := (k3.keep bb hbl (by simp)).trans e2
  apply pQ_r
  · exact o_box rfl
  apply pQ_r
  · exact o_storeA (St.new_at rfl) rfl rfl rfl
  rw [← hs3]
  apply pQ_r
  · exact o_nilP
  apply pQ_r
  · exact o_faP
  apply pQ_r
  · exact o_load1P e1' rfl
  apply pQ_r
  · exact o_bin (v := .bool true) (by kernel_rfl)
  refine ct ?_
  exact fin_s (Q := fun r s' => CkB s' cb mb a ∧ Kp s s' [cb]) rfl ⟨⟨bb, e1', e2'⟩, k12.trans (k3.mono (by simp))⟩
end
end Go.Vi
namespace Go.Vi
open Go.Proofs
def EqOk (cb mb : Nat) (M : EM) (x : Item) : Prop := x.states = [] ∧ ∀ s, Free s → CkS s cb mb M → SW .top Tryz.prog 62 [.ptr cb 0, .agg x.row] s fun r s' => Kp s s' []
def EqBad (cb mb : Nat) (M : EM) (x : Item) (a : Int) : Prop := x.states = [] ∧ ∀ s, Free s → CkS s cb mb M → SW .top Tryz.prog 62 [.ptr cb 0, .agg x.row] s fun r s' => CkB s' cb mb a ∧ Kp s s' [cb]
attribute [local irreducible] qAsg qPick qBox qBuild qBsl qLoad1 qLoadN qStore qNil qBin qUn qConv qSlS qSlL qFA qF1 qFN qIA qIS qEx qLenS qLenL qApp pQ pQL pGL pCall pCallL condP optP pEnd OpS Int.instDecidableEq Int.decEq instBEqOfDecidableEq qBslN qMin qIf qAs lookupQ updateQ deleteQ pC pCL pGU pDyn pRng
section
variable {cb mb : Nat} {M : EM}
theorem kit_round {l : List Item} {i : Nat} {x : Item} (hxi : l[i]? = some x) (hl : l.length ≤ 100000) (hst : x.states = []) {s : St} (hf : Free s) (hS : CkS s cb mb M) {Q : PV → St → Prop} {W : F4} {R : St → St → Prop}
    (hR : ∀ s, Free s → CkS s cb mb M → SW .top Tryz.prog 62 [.ptr cb 0, .agg x.row] s fun r s' => R s s')
    (hk : ∀ s1 s2, Kp s s1 [] → Free s2 → R s1 s2 → g38j27 (.weak .top) Q W (.ptr cb 0) (.lst (l.map Item.row)) (I l.length) (I i) s2) :
    g38l2b (.weak .top) Q W (.ptr cb 0) (.lst (l.map Item.row)) (I l.length) (I i) s := by
  have hlt := (List.getElem?_eq_some_iff.1 hxi).1
  have h10 : x.row[10]? = some (.lst []) := by rw [Item.row_eq, Exp.row_eq, hst]; rfl
  obtain ⟨s1, hs1⟩ : ∃ s1, s1 = (s.new (.box zI)).set s.next (.box x.row) := ⟨_, rfl⟩
  have k1 : Kp s s1 [] := by rw [hs1]; exact kp_set (kp_new hf) (Nat.le_refl _) (by rw [St.new_at rfl]; simp)
  have hN : s1.heap s.next = some (.box x.row) := by rw [hs1]; exact St.set_self
  unfold g38l2b
  apply pQ_r
  · exact o_bin (lt_t (by omega))
  refine ct ?_
  apply pQ_r
  · exact o_iaL (by omega) (row := x.row) (by simp [hxi]) x.row_len
  apply pQ_r
  · exact o_loadAE x.row_len
  apply pQ_r
  · exact o_box rfl
  apply pQ_r
  · exact o_storeA (St.new_at rfl) x.row_len (by rw [Item.row_eq, Exp.row_eq]; rfl) rfl
  rw [← hs1]
  apply pQ_r
  · exact o_faP
  apply pQ_r
  · exact o_load1P hN h10
  apply pQ_r
  · exact o_lenL rfl
  refine ⟨1, ?_⟩
  show g38l61b _ _ _ _ _ _ _ _ _ _ _ _ _
  unfold g38l61b
  apply pQ_r
  · exact o_bin (v := .bool false) (by kernel_rfl)
  refine cf ?_
  unfold g38j20
  apply pQ_r
  · exact o_faP
  apply pQ_r
  · exact o_load1P hN h10
  apply pQ_r
  · exact o_lenL rfl
  apply pQ_r
  · exact o_bin (v := .bool true) (by kernel_rfl)
  refine ct ?_
  apply pQ_r
  · exact o_loadAP hN x.row_len
  refine pC_w (hR s1 k1.free (hS.kp hf k1)) fun v s2 _ hf2 hq => ?_
  exact hk s1 s2 k1 hf2 hq
theorem kit_loop {l : List Item} (hl : l.length ≤ 100000) {Q : PV → St → Prop} {b : Nat} (hb : b ≤ l.length) (hok : ∀ (j : Nat) (h : j < l.length), j < b → EqOk cb mb M l[j]) :
    ∀ (n i : Nat) (s : St), b - i = n → i ≤ b → Free s → CkS s cb mb M → (∀ s', Kp s s' [] → CkS s' cb mb M → g38l2 (.weak .top) Q (l.length - b + 1) (.ptr cb 0) (.lst (l.map Item.row)) (I l.length) (I b) s') →
      g38l2 (.weak .top) Q (l.length - i + 1) (.ptr cb 0) (.lst (l.map Item.row)) (I l.length) (I i) s
  | 0, i, s, hn, hi, hf, hS, hc => by
    have : i = b := by omega
    subst this
    exact hc s (.refl hf) hS
  | n + 1, i, s, hn, hi, hf, hS, hc => by
    have hlt : i < l.length := by omega
    obtain ⟨h1, h2⟩ := hok i hlt (by omega)
    rw [show l.length - i + 1 = (l.length - (i + 1) + 1) + 1 by omega]
    show g38l2b _ _ _ _ _ _ _ _
    refine kit_round (List.getElem?_eq_getElem hlt) hl h1 hf hS h2 fun s1 s2 k1 hf2 k2 => ?_
    have k12 := k1.trans k2
    have hS2 := hS.kp hf k12
    unfold g38j27
    apply pQ_r
    · exact o_nilP
    apply pQ_r
    · exact o_faP
    apply pQ_r
    · exact o_load1P hS2.box rfl
    apply pQ_r
    · exact o_bin (v := .bool false) (by kernel_rfl)
    refine cf ?_
    apply pQ_r
    · exact o_bin (v := .int .i64 (i + 1 : Nat)) (by
        show some (PV.int .i64 (IntKind.i64.wrap _)) = _
        rw [wrap64 (by omega) (by omega)]; simp)
    exact kit_loop hl hb hok n (i + 1) s2 (by omega) (by omega) hf2 hS2 fun s' k3 h3 => hc s' (k12.trans k3) h3
theorem kitems_ok {l : List Item} (hl : l.length ≤ 100000) (hok : ∀ (j : Nat) (h : j < l.length), EqOk cb mb M l[j]) {s : St} (hf : Free s) (hS : CkS s cb mb M) : SW .top Tryz.prog 38 [.ptr cb 0, .lst (l.map Item.row)] s fun r s' => Kp s s' [] := by
  refine (g38_cd (.weak .top) _ _ ?_).sw hf
  unfold g38
  apply pQ_r
  · exact o_lenL rfl
  rw [List.length_map]
  refine ⟨_, kit_loop hl (Nat.le_refl _) (fun j h _ => hok j h) l.length 0 s (by omega) (by omega) hf hS fun s' k1 h1 => ?_⟩
  rw [Nat.sub_self]
  show g38l2b _ _ _ _ _ _ _ _
  unfold g38l2b
  apply pQ_r
  · exact o_bin (lt_f (by omega))
  refine cf ?_
  exact fin_s (Q := fun r s' => Kp s s' []) rfl k1
theorem kitems_bad {l : List Item} (hl : l.length ≤ 100000) {b : Nat} (hb : b < l.length) {a : Int} (hok : ∀ (j : Nat) (h : j < l.length), j < b → EqOk cb mb M l[j]) (hbad : EqBad cb mb M l[b] a) {s : St} (hf : Free s) (hS : CkS s cb mb M) : SW .top Tryz.prog 38 [.ptr cb 0, .lst (l.map Item.row)] s fun r s' => CkB s' cb mb a ∧ Kp s s' [cb] := by
  refine (g38_cd (.weak .top) _ _ ?_).sw hf
  unfold g38
  apply pQ_r
  · exact o_lenL rfl
  rw [List.length_map]
  refine ⟨_, kit_loop hl (Nat.le_of_lt hb) hok b 0 s (by omega) (by omega) hf hS fun s' k1 h1 => ?_⟩
  show g38l2b _ _ _ _ _ _ _ _
  refine kit_round (List.getElem?_eq_getElem hb) hl hbad.1 k1.free h1 hbad.2 fun s1 s2 k2 hf2 hq => ?_
  obtain ⟨bb, e1, e2⟩ := hq.1
  unfold g38j27
  apply pQ_r
  · exact o_nilP
  apply pQ_r
  · exact o_faP
  apply pQ_r
  · exact o_load1P e1 rfl
  apply pQ_r
  · exact o_bin (v := .bool true) (by kernel_rfl)
  refine ct ?_
  exact fin_s (Q := fun r s' => CkB s' cb mb a ∧ Kp s s' [cb]) rfl ⟨⟨bb, e1, e2⟩, ((k1.trans k2).mono (by simp)).trans hq.2⟩
def LocOk (M : EM) (v : Var) : Prop := v.clock.length ≤ 1000 ∧ ∀ (i : Nat) (h : i < v.clock.length), sameE (el M v.clock[i].name) (v.clock.take i) = true
theorem klc_loop (hM : ∀ n, (el M n).length ≤ 1000) {l : List Var} {k : Nat} {v : Var} (hv : LocOk M v) {vb : Nat} {Q : PV → St → Prop} {A : F4} :
    ∀ (n i : Nat) (s : St), v.clock.length - i = n → i ≤ v.clock.length → Free s → CkS s cb mb M → s.heap vb = some (.box v.row) → vb ≠ cb → vb ≠ mb →
      (∀ s', Kp s s' [] → CkS s' cb mb M → g37j12 (.weak .top) Q A (.ptr cb 0) (.lst (l.map Var.row)) (I l.length) (I k) s') →
      g37l34 (.weak .top) Q A (n + 1) (.ptr cb 0) (.ptr vb 0) (.lst (l.map Var.row)) (I l.length) (I k) (.lst (eRows v.clock)) (I v.clock.length) (I i) s
  | 0, i, s, hn, hi, hf, hS, hvb, hvc, hvm, hc => by
    show g37l34b _ _ _ _ _ _ _ _ _ _ _ _ _
    unfold g37l34b
    apply pQ_r
    · exact o_bin (lt_f (by omega))
    refine cf ?_
    exact hc s (.refl hf) hS
  | n + 1, i, s, hn, hi, hf, hS, hvb, hvc, hvm, hc => by
    have hlt : i < v.clock.length := by omega
    have hsame := hv.2 i hlt
    have hvl := hv.1
    have hrow : (eRows v.clock)[(i : Int).toNat]? = some (v.clock[i]).row := by simp [eRows, hlt]
    generalize v.clock[i] = g at hrow hsame
    obtain ⟨s1, hs1⟩ : ∃ s1, s1 = (s.new (.box [.str ⟨#[]⟩, .bool false])).set s.next (.box g.row) := ⟨_, rfl⟩
    have k1 : Kp s s1 [] := by rw [hs1]; exact kp_set (kp_new hf) (Nat.le_refl _) (by rw [St.new_at rfl]; simp)
    have hN : s1.heap s.next = some (.box g.row) := by rw [hs1]; exact St.set_self
    have hS1 := hS.kp hf k1
    have hvb1 := (k1.keep vb (free_lt hf hvb) (by simp)).trans hvb
    have hcl := hS.lt hf
    have hgl := hM g.name
    have hpc := same_pc (el M g.name) (v.clock.take i) (by omega) (by simp; omega)
    rw [hsame] at hpc
    show g37l34b _ _ _ _ _ _ _ _ _ _ _ _ _
    unfold g37l34b
    apply pQ_r
    · exact o_bin (lt_t (by omega))
    refine ct ?_
    apply pQ_r
    · exact o_iaL (by omega) hrow rfl
    apply pQ_r
    · exact o_loadAE rfl
    apply pQ_r
    · exact o_box rfl
    apply pQ_r
    · exact o_asgI
    apply pQ_r
    · exact o_storeA (St.new_at rfl) rfl rfl rfl
    rw [← hs1]
    apply pQL_r
    · exact o_nilP
    apply pQL_r
    · exact o_faP
    apply pQL_r
    · exact o_load1P hS1.box rfl
    apply pQL_r
    · exact o_faP
    apply pQL_r
    · exact o_load1P hN rfl
    apply pQL_r
    · exact o_lookS hS1.map
    apply pQL_r
    · exact o_faP
    apply pQL_r
    · exact o_load1P hvb1 (v := .lst (eRows v.clock)) rfl
    apply pQL_r
    · exact o_slL (rows := eRows v.clock) (a := none) (c := some i) (r1 := [.int .i64 i]) (r2 := []) rfl rfl (by simp [takeB, natOf]) (by simp [eRows]; omega) (by simp) eRows_all
    rw [show ((eRows v.clock).drop ((none : Option Nat).getD 0)).take ((some i).getD (eRows v.clock).length - (none : Option Nat).getD 0) = eRows (v.clock.take i) by simp [eRows, List.map_take]]
    refine pCL_pc hpc rfl rfl rfl rfl ?_
    simp only [place_bool, set0]
    apply pQL_r
    · exact o_not
    refine gk_f ?_
    refine gq_f o_faP ?_
    refine gq_f (o_load1P hN rfl) ?_
    refine gq_f (o_bsl (rows := [[.str g.name]]) rfl) ?_
    refine pGd_f (pCL_s [cb, mb] (by simp) (fun _ _ _ => trivial) (WkL.refl _) (by simp [refsInL, refsIn]) (outside_sc (E := .top) k1.free.restrict hS1.restrict _) (hS1.fp k1.free) ?_)
    rw [merge_self k1.free]
    refine gq_f o_not ?_
    apply pQL_r
    · exact o_pickF
    refine ⟨?_, ?_⟩
    · simp [clashesB, clashInB, clashB, ids]
      exact ⟨by kernel_rfl, noBit (by kernel_rfl), by kernel_rfl, noBit (by kernel_rfl), noBit (by kernel_rfl)⟩
    refine cf ?_
    apply pQ_r
    · exact o_bin (v := .int .i64 (i + 1 : Nat)) (by
        show some (PV.int .i64 (IntKind.i64.wrap _)) = _
        rw [wrap64 (by omega) (by omega)]; simp)
    exact klc_loop hM hv n (i + 1) s1 (by omega) hlt k1.free hS1 hvb1 hvc hvm fun s' k2 h2 => hc s' (k1.trans k2) h2
theorem kloc_loop (hM : ∀ n, (el M n).length ≤ 1000) {l : List Var} (hl : l.length ≤ 100000) (hok : ∀ v ∈ l, LocOk M v) {Q : PV → St → Prop} :
    ∀ (n i : Nat) (s : St), l.length - i = n → i ≤ l.length → Free s → CkS s cb mb M → (∀ s', Kp s s' [] → Q (.tuple []) s') →
      g37l2 (.weak .top) Q (n + 1) (.ptr cb 0) (.lst (l.map Var.row)) (I l.length) (I i) s
  | 0, i, s, hn, hi, hf, hS, hc => by
    show g37l2b _ _ _ _ _ _ _ _
    unfold g37l2b
    apply pQ_r
    · exact o_bin (lt_f (by omega))
    refine cf ?_
    exact fin_s rfl (hc s (.refl hf))
  | n + 1, i, s, hn, hi, hf, hS, hc => by
    have hlt : i < l.length := by omega
    have hv := hok l[i] (List.getElem_mem hlt)
    have hrow : (l.map Var.row)[(i : Int).toNat]? = some (l[i]).row := by simp [hlt]
    generalize l[i] = v at hv hrow
    obtain ⟨s1, hs1⟩ : ∃ s1, s1 = (s.new (.box [.str ⟨#[]⟩, .int .i64 0, .int .i64 0, .nil, .int .i64 0])).set s.next (.box v.row) := ⟨_, rfl⟩
    have k1 : Kp s s1 [] := by rw [hs1]; exact kp_set (kp_new hf) (Nat.le_refl _) (by rw [St.new_at rfl]; simp)
    have hN : s1.heap s.next = some (.box v.row) := by rw [hs1]; exact St.set_self
    have hS1 := hS.kp hf k1
    have hcl := hS.lt hf
    show g37l2b _ _ _ _ _ _ _ _
    unfold g37l2b
    apply pQ_r
    · exact o_bin (lt_t (by omega))
    refine ct ?_
    apply pQ_r
    · exact o_iaL (by omega) hrow rfl
    apply pQ_r
    · exact o_loadAE rfl
    apply pQ_r
    · exact o_box rfl
    apply pQ_r
    · exact o_storeA (St.new_at rfl) rfl rfl rfl
    rw [← hs1]
    apply pQ_r
    · exact o_faP
    apply pQ_r
    · exact o_load1P hN (v := .lst (eRows v.clock)) rfl
    apply pQ_r
    · exact o_lenL rfl
    rw [List.length_map]
    refine ⟨_, klc_loop hM hv v.clock.length 0 s1 (by omega) (by omega) k1.free hS1 hN (by omega) (by omega) fun s2 k2 hS2 => ?_⟩
    unfold g37j12
    apply pQ_r
    · exact o_bin (v := .int .i64 (i + 1 : Nat)) (by
        show some (PV.int .i64 (IntKind.i64.wrap _)) = _
        rw [wrap64 (by omega) (by omega)]; simp)
    exact kloc_loop hM hl hok n (i + 1) s2 (by omega) hlt k2.free hS2 fun s' k3 => hc s' ((k1.trans k2).trans k3)
theorem klocals_ok (hM : ∀ n, (el M n).length ≤ 1000) {l : List Var} (hl : l.length ≤ 100000) (hok : ∀ v ∈ l, LocOk M v) {s : St} (hf : Free s) (hS : CkS s cb mb M) : SW .top Tryz.prog 37 [.ptr cb 0, .lst (l.map Var.row)] s fun r s' => Kp s s' [] := by
  refine (g37_cd (.weak .top) _ _ ?_).sw hf
  unfold g37
  apply pQ_r
  · exact o_lenL rfl
  rw [List.length_map]
  exact ⟨_, kloc_loop (Q := fun r s' => Kp s s' []) hM hl hok l.length 0 s (by omega) (by omega) hf hS fun s' k => k⟩
end
end Go.Vi
namespace Go.Vi
open Go.Proofs
def putE (M : EM) : List Var → EM
  | [] => M
  | v :: r => putE (eput v.name v.clock M) r
theorem putE_app : ∀ {a b : List Var} {M : EM}, putE M (a ++ b) = putE (putE M a) b
  | [], _, _ => rfl
  | v :: a, b, M => putE_app (a := a)
inductive Fnd (cb mb : Nat) (M : EM) (N : Node) : Option Int → Prop
  | ok : (∀ (j : Nat) (h : j < N.items.length), EqOk cb mb M N.items[j]) → Fnd cb mb M N none
  | bad (b : Nat) (hb : b < N.items.length) (a : Int) : (∀ (j : Nat) (h : j < N.items.length), j < b → EqOk cb mb M N.items[j]) → EqBad cb mb M N.items[b] a → Fnd cb mb M N (some a)
def ckR : Option Int → PV
  | none => .tuple [.int .i64 0, .int .i64 0]
  | some a => .tuple [.int .i64 a, .int .i64 27]
attribute [local irreducible] qAsg qPick qBox qBuild qBsl qLoad1 qLoadN qStore qNil qBin qUn qConv qSlS qSlL qFA qF1 qFN qIA qIS qEx qLenS qLenL qApp pQ pQL pGL pCall pCallL condP optP pEnd OpS Int.instDecidableEq Int.decEq instBEqOfDecidableEq qBslN qMin qIf qAs lookupQ updateQ deleteQ pC pCL pGU pDyn pRng
section
variable {cb mb : Nat}
theorem kput_loop {l : List Var} (hl : l.length ≤ 100000) (hcl : ∀ v ∈ l, v.clock.length ≤ 1000) {Q : PV → St → Prop} {A : F3} {B : F8} {d h i j k lv o : PV} :
    ∀ (n r : Nat) (s : St) (M : EM), l.length - r = n → r ≤ l.length → Free s → CkS s cb mb M →
      (∀ s', Free s' → CkS s' cb mb (putE M (l.drop r)) → Kp s s' [mb] → g20j122 (.weak .top) Q A B d (.ptr cb 0) h i j k lv o s') →
      g20l142 (.weak .top) Q A B (n + 1) d (.ptr cb 0) h i j k lv o (.lst (l.map Var.row)) (I l.length) (I r) s
  | 0, r, s, M, hn, hr, hf, hS, hc => by
    rw [List.drop_of_length_le (by omega)] at hc
    show g20l142b _ _ _ _ _ _ _ _ _ _ _ _ _ _ _ _ _
    unfold g20l142b
    apply pQ_r
    · exact o_bin (lt_f (by omega))
    refine cf ?_
    exact hc s hf hS (.refl hf)
  | n + 1, r, s, M, hn, hr, hf, hS, hc => by
    have hlt : r < l.length := by omega
    rw [List.drop_eq_getElem_cons hlt] at hc
    have hv := hcl l[r] (List.getElem_mem hlt)
    have hrow : (l.map Var.row)[(r : Int).toNat]? = some (l[r]).row := by simp [hlt]
    generalize l[r] = v at hv hrow hc
    obtain ⟨s1, hs1⟩ : ∃ s1, s1 = (s.new (.box [.str ⟨#[]⟩, .int .i64 0, .int .i64 0, .nil, .int .i64 0])).set s.next (.box v.row) := ⟨_, rfl⟩
    have k1 : Kp s s1 [] := by rw [hs1]; exact kp_set (kp_new hf) (Nat.le_refl _) (by rw [St.new_at rfl]; simp)
    have hN : s1.heap s.next = some (.box v.row) := by rw [hs1]; exact St.set_self
    have hS1 := hS.kp hf k1
    have hlt2 := hS.lt hf
    have hm0 : s1.heap mb ≠ none := by
      intro h
      have := hS1.map
      rw [h] at this; cases this
    obtain ⟨s2, hs2⟩ : ∃ s2, s2 = s1.set mb (.maps (ms (eput v.name v.clock M))) := ⟨_, rfl⟩
    have hf2 : Free s2 := by rw [hs2]; exact free_set k1.free hm0
    have k2 : Kp s1 s2 [mb] := ⟨hf2, by rw [hs2]; exact grows_set hm0, fun b h1 h2 => by rw [hs2, St.set_ne2 (by simpa using h2)]⟩
    have hS2 : CkS s2 cb mb (eput v.name v.clock M) := ⟨by rw [hs2, St.set_ne2 hS.ne]; exact hS1.box, by rw [hs2, St.set_self]; rfl⟩
    show g20l142b _ _ _ _ _ _ _ _ _ _ _ _ _ _ _ _ _
    unfold g20l142b
    apply pQ_r
    · exact o_bin (lt_t (by omega))
    refine ct ?_
    apply pQ_r
    · exact o_iaL (by omega) hrow rfl
    apply pQ_r
    · exact o_loadAE rfl
    apply pQ_r
    · exact o_box rfl
    apply pQ_r
    · exact o_storeA (St.new_at rfl) rfl rfl rfl
    rw [← hs1]
    apply pQL_r
    · exact o_nilP
    apply pQL_r
    · exact o_faP
    apply pQL_r
    · exact o_load1P hS1.box rfl
    apply pQL_r
    · exact o_faP
    apply pQL_r
    · exact o_load1P hN rfl
    apply pQL_r
    · exact o_faP
    apply pQL_r
    · exact o_load1P hN (v := .lst (eRows v.clock)) rfl
    refine pCL_pc (clone_pc v.clock (by omega)) rfl rfl rfl rfl ?_
    simp only [place_lst, set0]
    apply pQL_r
    · exact o_updS (l := v.clock) rfl hS1.map
    rw [← hs2]
    refine ⟨?_, ?_⟩
    · simp [clashesB, clashInB, clashB, ids]
      exact ⟨noBit (by kernel_rfl), noBit (by kernel_rfl), noBit (by kernel_rfl)⟩
    apply pQ_r
    · exact o_bin (v := .int .i64 (r + 1 : Nat)) (by
        show some (PV.int .i64 (IntKind.i64.wrap _)) = _
        rw [wrap64 (by omega) (by omega)]; simp)
    exact kput_loop hl hcl n (r + 1) s2 _ (by omega) hlt hf2 hS2 fun s' h1 h2 h3 => hc s' h1 h2 (((k1.mono (by simp)).trans k2).trans h3)
theorem klist_round {rows : List (List PV)} {nl : Nat} {l : List Var} {k : Nat} (hk : rows[k]? = some [.lst (l.map Var.row)]) (hlt : k < nl) (hnl : nl ≤ 1000) (hl : l.length ≤ 100000) (hcl : ∀ v ∈ l, v.clock.length ≤ 1000) {Q : PV → St → Prop} {A : F3} {B : F8} {d h i j : PV} {s : St} {M : EM} (hf : Free s) (hS : CkS s cb mb M)
    (hc : ∀ s', Free s' → CkS s' cb mb (putE M l) → Kp s s' [mb] → B d (.ptr cb 0) h i j (.lst rows) (I nl) (I (k + 1 : Nat)) s') :
    g20l108b (.weak .top) Q A B d (.ptr cb 0) h i j (.lst rows) (I nl) (I k) s := by
  unfold g20l108b
  apply pQ_r
  · exact o_bin (lt_t (by omega))
  refine ct ?_
  apply pQ_r
  · exact o_iaL (by omega) (row := [.lst (l.map Var.row)]) (by simpa using hk) rfl
  apply pQ_r
  · exact o_load1E rfl
  apply pQ_r
  · exact o_asgL
  apply pQ_r
  · exact o_lenL rfl
  rw [List.length_map]
  refine ⟨_, kput_loop hl hcl l.length 0 s M (by omega) (by omega) hf hS fun s' h1 h2 h3 => ?_⟩
  unfold g20j122
  apply pQ_r
  · exact o_bin (v := .int .i64 (k + 1 : Nat)) (by
      show some (PV.int .i64 (IntKind.i64.wrap _)) = _
      rw [wrap64 (by omega) (by omega)]; simp)
  exact hc s' h1 (by simpa using h2) h3
end
theorem check_sw {N : Node} (hl1 : N.ins.length ≤ 100000) (hl2 : N.outs.length ≤ 100000) (hl3 : N.locals.length ≤ 100000) (hl4 : N.items.length ≤ 100000) (hcl : ∀ v ∈ N.all, v.clock.length ≤ 1000) (hM : ∀ n, (el (putE [] N.all) n).length ≤ 1000) (hloc : ∀ v ∈ N.locals, LocOk (putE [] N.all) v) {o : Option Int} (hF : ∀ cb mb, Fnd cb mb (putE [] N.all) N o) {s : St} (hf : Free s) :
    SW .top Tryz.prog 20 [.agg [.lst [N.row]]] s fun r s' => r = ckR o ∧ Kp s s' [] := by
  have hr : N.row = [.str N.name, .lst (N.ins.map Var.row), .lst (N.outs.map Var.row), .lst (N.locals.map Var.row), .lst (N.items.map Item.row), .int .i64 N.at'] := N.rowc
  have e1 : ∀ v ∈ N.ins, v.clock.length ≤ 1000 := fun v hv => hcl v (by simp [Node.all, hv])
  have e2 : ∀ v ∈ N.outs, v.clock.length ≤ 1000 := fun v hv => hcl v (by simp [Node.all, hv])
  have e3 : ∀ v ∈ N.locals, v.clock.length ≤ 1000 := fun v hv => hcl v (by simp [Node.all, hv])
  obtain ⟨row, hrow⟩ : ∃ row, row = N.row := ⟨_, rfl⟩
  rw [← hrow] at hr ⊢
  obtain ⟨s3, hs3⟩ : ∃ s3, s3 = (((s.new (.box [.lst [row]])).new (.box zS)).set (s.next + 1) (.box row)).new (.map []) := ⟨_, rfl⟩
  obtain ⟨s4, hs4⟩ : ∃ s4, s4 = s3.new (.box [.map (s.next + 2), .nmap, .nptr]) := ⟨_, rfl⟩
  have hn3 : s3.next = s.next + 3 := by rw [hs3]; rfl
  have hf3 : Free s3 := by rw [hs3]; exact free_new (free_set (free_new (free_new hf)) (by rw [St.new_at (n := s.next + 1) rfl]; simp))
  have hf4 : Free s4 := by rw [hs4]; exact free_new hf3
  have k4 : Kp s3 s4 [] := by rw [hs4]; exact kp_new hf3
  have hN3 : s3.heap (s.next + 1) = some (.box row) := by rw [hs3]; exact (St.new_ne2 (n := s.next + 2) rfl (by omega)).trans St.set_self
  have hm3 : s3.heap (s.next + 2) = some (.map []) := by rw [hs3]; exact St.new_at rfl
  have hN4 := (k4.keep _ (by omega) (by simp)).trans hN3
  have hm4 := (k4.keep _ (by omega) (by simp)).trans hm3
  have hS4 : CkS s4 (s.next + 3) (s.next + 2) [] := ⟨by rw [hs4]; exact St.new_at hn3, by rw [hm4]; rfl⟩
  refine (g20_cd (.weak .top) _ ?_).sw hf
  have hQ : ∀ s', Kp s s' [] → (fun (r : PV) (s' : St) => r = ckR o ∧ Kp s s' []) (ckR o) s' := fun _ h => ⟨rfl, h⟩
  generalize (fun (r : PV) (s' : St) => r = ckR o ∧ Kp s s' []) = Q at hQ
  have k04 : Kp s s4 [] := .of hf4 (by have := k4.grows.next; omega) fun b hb => by
    rw [k4.keep b (by omega) (by simp), hs3]
    exact (St.new_ne2 (n := s.next + 2) rfl (by omega)).trans ((St.set_ne2 (by omega)).trans ((St.new_ne2 (n := s.next + 1) rfl (by omega)).trans (St.new_ne2 rfl (by omega))))
  unfold g20
  apply pQ_r
  · exact o_boxA rfl rfl
  apply pQ_r
  · exact o_faP
  apply pQ_r
  · exact o_load1P (St.new_at rfl) rfl
  apply pQ_r
  · exact o_lenL rfl
  refine ⟨2, ?_⟩
  show g20l10b _ _ _ _ _ _ _
  unfold g20l10b
  apply pQ_r
  · exact o_bin (v := .bool true) (by kernel_rfl)
  refine ct ?_
  apply pQ_r
  · exact o_iaL (rows := [row]) (row := row) (Int.le_refl 0) rfl (by rw [hr]; rfl)
  apply pQ_r
  · exact o_loadAE (by rw [hr]; rfl)
  apply pQ_r
  · exact o_box (n := s.next + 1) rfl
  apply pQ_r
  · exact o_storeA (St.new_at (n := s.next + 1) rfl) (by rw [hr]; rfl) (by rw [hr]; rfl) rfl
  apply pQ_r
  · exact o_map (n := s.next + 2) rfl
  rw [← hs3]
  apply pQ_r
  · exact o_build (l := [.map (s.next + 2), .nmap, .nptr]) rfl rfl
  apply pQ_r
  · exact o_boxA (n := s.next + 3) rfl hn3
  rw [← hs4]
  apply pQ_r
  · exact o_asgP
  rw [hr] at hN4
  apply pQ_r
  · exact o_faP
  apply pQ_r
  · exact o_load1P hN4 rfl
  apply pQ_r
  · exact o_faP
  apply pQ_r
  · exact o_load1P hN4 rfl
  apply pQ_r
  · exact o_faP
  apply pQ_r
  · exact o_load1P hN4 rfl
  apply pQ_r
  · exact o_bslN (rows := [[.lst (N.ins.map Var.row)], [.lst (N.outs.map Var.row)], [.lst (N.locals.map Var.row)]]) rfl
  apply pQ_r
  · exact o_lenL rfl
  refine ⟨4, ?_⟩
  show g20l108b _ _ _ _ _ _ _ _ _ _ _ _ _
  refine klist_round (nl := 3) (k := 0) (l := N.ins) rfl (by omega) (by omega) hl1 e1 hf4 hS4 fun s5 hf5 hS5 k5 => ?_
  show g20l108b _ _ _ _ _ _ _ _ _ _ _ _ _
  refine klist_round (nl := 3) (k := 1) (l := N.outs) rfl (by omega) (by omega) hl2 e2 hf5 hS5 fun s6 hf6 hS6 k6 => ?_
  show g20l108b _ _ _ _ _ _ _ _ _ _ _ _ _
  refine klist_round (nl := 3) (k := 2) (l := N.locals) rfl (by omega) (by omega) hl3 e3 hf6 hS6 fun s7 hf7 hS7 k7 => ?_
  rw [← putE_app, ← putE_app] at hS7
  have hM7 : putE [] (N.ins ++ N.outs ++ N.locals) = putE [] N.all := rfl
  rw [← List.append_assoc, hM7] at hS7
  have k57 : Kp s4 s7 [s.next + 2] := (k5.trans k6).trans k7
  have hn4 : s4.next = s.next + 4 := by rw [hs4]; show s3.next + 1 = _; omega
  have kEnd : ∀ s9, Free s9 → (∀ b, b < s7.next → b ≠ s.next + 3 → s9.heap b = s7.heap b) → s7.next ≤ s9.next → Kp s s9 [] := fun s9 h9 hk hn => .of h9 (by have := k57.grows.next; omega) fun b hb => by
    have := k57.grows.next
    rw [hk b (by omega) (by omega), k57.keep b (by omega) (by simp; omega), k04.keep b hb (by simp)]
  have hN7 := (k57.keep (s.next + 1) (by omega) (by simp)).trans hN4
  show g20l108b _ _ _ _ _ _ _ _ _ _ _ _ _
  unfold g20l108b
  apply pQ_r
  · exact o_bin (v := .bool false) (by kernel_rfl)
  refine cf ?_
  unfold g20j35
  apply pQ_r
  · exact o_faP
  apply pQ_r
  · exact o_load1P hN7 rfl
  refine pC_w (klocals_ok hM hl3 hloc hf7 hS7) fun v s8 _ hf8 k8 => ?_
  have hS8 := hS7.kp hf7 k8
  have hN8 := (k8.keep _ (free_lt hf7 hN7) (by simp)).trans hN7
  apply pQ_r
  · exact o_nilP
  apply pQ_r
  · exact o_faP
  apply pQ_r
  · exact o_load1P hS8.box rfl
  apply pQ_r
  · exact o_bin (v := .bool true) (by kernel_rfl)
  refine ct ?_
  apply pQ_r
  · exact o_faP
  apply pQ_r
  · exact o_load1P hN8 rfl
  cases hF (s.next + 3) (s.next + 2) with
  | ok h =>
    refine pC_w (kitems_ok hl4 h hf8 hS8) fun v s9 _ hf9 k9 => ?_
    have hS9 := hS8.kp hf8 k9
    unfold g20j42
    apply pQ_r
    · exact o_nilP
    apply pQ_r
    · exact o_faP
    apply pQ_r
    · exact o_load1P hS9.box rfl
    apply pQ_r
    · exact o_bin (v := .bool false) (by kernel_rfl)
    refine cf ?_
    apply pQ_r
    · exact o_bin (v := .int .i64 1) (by kernel_rfl)
    show g20l10b _ _ _ _ _ _ _
    unfold g20l10b
    apply pQ_r
    · exact o_bin (v := .bool false) (by kernel_rfl)
    refine cf ?_
    unfold g20j2
    have k79 := k8.trans k9
    exact fin_s rfl (hQ _ (kEnd _ hf9 (fun b h1 _ => k79.keep b h1 (by simp)) k79.grows.next))
  | bad b hb a h h' =>
    refine pC_w (kitems_bad hl4 hb h h' hf8 hS8) fun v s9 _ hf9 k9 => ?_
    obtain ⟨bb, q1, q2⟩ := k9.1
    unfold g20j42
    apply pQ_r
    · exact o_nilP
    apply pQ_r
    · exact o_faP
    apply pQ_r
    · exact o_load1P q1 rfl
    apply pQ_r
    · exact o_bin (v := .bool true) (by kernel_rfl)
    refine ct ?_
    apply pQ_r
    · exact o_nilP
    apply pQ_r
    · exact o_faP
    apply pQ_r
    · exact o_load1P q1 rfl
    apply pQ_r
    · exact o_nilP
    apply pQ_r
    · exact o_faP
    apply pQ_r
    · exact o_load1P q2 rfl
    apply pQ_r
    · exact o_asgI
    have k79 := (k8.mono (ex' := [s.next + 3]) (by simp)).trans k9.2
    exact fin_s rfl (hQ _ (kEnd _ hf9 (fun b h1 h2 => k79.keep b h1 (by simpa using h2)) k79.grows.next))
end Go.Vi
namespace Go.Vi
open Go.Proofs
theorem el_not {w : ByteArray} : ∀ {l : List Var} {M : EM}, (∀ v ∈ l, v.name ≠ w) → el (putE M l) w = el M w
  | [], _, _ => rfl
  | v :: r, M, h => by
    rw [putE, el_not fun u hu => h u (by simp [hu]), el_put, if_neg fun e => h v (by simp) e.symm]
theorem el_at : ∀ {l : List Var} {M : EM} {v : Var}, v ∈ l → (∀ u ∈ l, u.name = v.name → u.clock = v.clock) → el (putE M l) v.name = v.clock
  | [], _, _, h, _ => by simp at h
  | u :: r, M, v, h, hu => by
    by_cases hr : ∃ u' ∈ r, u'.name = v.name
    · obtain ⟨u', h1, h2⟩ := hr
      have h3 := hu u' (by simp [h1]) h2
      have := el_at (M := eput u.name u.clock M) h1 fun x hx he => by rw [h3]; exact hu x (by simp [hx]) (he.trans h2)
      rw [putE, ← h2, this, h3]
    · have hvu : v = u := by
        rcases List.mem_cons.1 h with h | h
        · exact h
        · exact absurd ⟨v, h, rfl⟩ hr
      subst hvu
      rw [putE, el_not fun x hx he => hr ⟨x, hx, he⟩, el_put, if_pos rfl]
theorem el_len {k : Nat} {w : ByteArray} : ∀ {l : List Var} {M : EM}, (∀ v ∈ l, v.clock.length ≤ k) → (∀ w, (el M w).length ≤ k) → (el (putE M l) w).length ≤ k
  | [], M, _, h => h w
  | v :: r, M, h, h' => by
    rw [putE]
    refine el_len (fun u hu => h u (by simp [hu])) fun w' => ?_
    rw [el_put]
    split
    · exact h v (by simp)
    · exact h' w'
section
variable {M : EM}
theorem ce_var {w : ByteArray} {x : Exp} (h : IsV w x) : CE M x (some (el M w)) := by
  obtain ⟨p, rfl⟩ := h
  exact .mk _ _ _ _ _ _ _ _ _ [] _ (by simp) rfl (fun i h => by simp at h) (by simp [rule])
theorem ce_num {x : Exp} (h : IsN x) : CE M x none := by
  obtain ⟨p, rfl⟩ := h
  exact .mk _ _ _ _ _ _ _ _ _ [] _ (by simp) rfl (fun i h => by simp at h) (by simp [rule, allC])
theorem ce_tru {x : Exp} (h : IsT x) : CE M x none := by
  obtain ⟨p, rfl⟩ := h
  exact .mk _ _ _ _ _ _ _ _ _ [] _ (by simp) rfl (fun i h => by simp at h) (by simp [rule, allC])
theorem ce_gt {w : ByteArray} {x : Exp} (h : IsG w x) : CE M x (some (el M w)) := by
  obtain ⟨y, z, p, hy, hz, rfl⟩ := h
  refine .mk _ _ _ _ _ _ _ _ _ [some (el M w), none] _ (by simp) rfl (fun i h h' => ?_) (by simp [rule, allC])
  match i, h with
  | 0, _ => exact ce_var hy
  | 1, _ => exact ce_num hz
theorem ce_wh {v w : ByteArray} {on : Bool} {x : Exp} (h : IsWh (IsV v) w on x) (hg : sameE (el M v) (el M w) = true) : CE M x (some (el M w ++ [⟨w, on⟩])) := by
  obtain ⟨y, p, hy, rfl⟩ := h
  refine .mk _ _ _ _ _ _ _ _ _ [some (el M v)] _ (by simp) rfl (fun i h h' => ?_) ?_
  · match i, h with
    | 0, _ => exact ce_var hy
  · have : (Ck.goes (some (el M v)) (el M w)) = true := hg
    cases on <;> simp [rule, this]
theorem wf_var {w : ByteArray} {x : Exp} (h : IsV w x) : x.WF := by
  obtain ⟨p, rfl⟩ := h
  exact .mk _ _ _ _ _ _ _ _ _ (by simp [arOk]) (by omega) (by omega) (by omega) (by omega) (by simp)
theorem wf_num {x : Exp} (h : IsN x) : x.WF := by
  obtain ⟨p, rfl⟩ := h
  exact .mk _ _ _ _ _ _ _ _ _ (by simp [arOk]) (by omega) (by omega) (by omega) (by omega) (by simp)
theorem wf_tru {x : Exp} (h : IsT x) : x.WF := by
  obtain ⟨p, rfl⟩ := h
  exact .mk _ _ _ _ _ _ _ _ _ (by simp [arOk]) (by omega) (by omega) (by omega) (by omega) (by simp)
theorem wf_gt {w : ByteArray} {x : Exp} (h : IsG w x) : x.WF := by
  obtain ⟨y, z, p, hy, hz, rfl⟩ := h
  exact .mk _ _ _ _ _ _ _ _ _ (by simp [arOk]) (by omega) (by omega) (by omega) (by omega) (by simp [wf_var hy, wf_num hz])
theorem wf_wh {v w : ByteArray} {on : Bool} {x : Exp} (h : IsWh (IsV v) w on x) : x.WF := by
  obtain ⟨y, p, hy, rfl⟩ := h
  exact .mk _ _ _ _ _ _ _ _ _ (by simp [arOk]) (by omega) (by omega) (by omega) (by omega) (by simp [wf_var hy])
theorem wf_ek {k : Ek} {x : Exp} (h : k.is x) : x.WF := by
  cases k with
  | var v => exact wf_var h
  | tru => exact wf_tru h
  | gt v => exact wf_gt h
  | wh v w on => exact wf_wh h
theorem pl_var {w : ByteArray} {x : Exp} (h : IsV w x) : (prV x).length = 1 := by
  obtain ⟨p, rfl⟩ := h; simp [prV, prVs]
theorem pl_ek {k : Ek} {x : Exp} (h : k.is x) : (prV x).length ≤ 1000000 := by
  cases k with
  | var v => rw [pl_var h]; omega
  | tru => obtain ⟨p, rfl⟩ := h; simp [prV, prVs]
  | gt v =>
    obtain ⟨y, z, p, hy, ⟨q, rfl⟩, rfl⟩ := h
    simp [prV, prVs, pl_var hy]
  | wh v w on =>
    obtain ⟨y, p, hy, rfl⟩ := h
    simp [prV, prVs, pl_var hy]
end
section
variable {F : Fm} {N : Node}
theorem fam_el (h : F.Vars N.all) (hn : F.n ≤ 9) {q : Nat} (hq : q < 2 * F.n + 2) : el (putE [] N.all) (key q) = F.clk ((q - 1) / 2) := by
  have hql : q < N.all.length := by rw [h.len]; exact hq
  rw [← h.name q hql, ← show F.clkK q = F.clk ((q - 1) / 2) from rfl, ← h.clk q hql]
  refine el_at (List.getElem_mem hql) fun u hu he => ?_
  obtain ⟨j, hj, rfl⟩ := List.getElem_of_mem hu
  have hjl := hj
  rw [h.len] at hjl
  rw [h.name j hj, h.name q hql] at he
  have := key_eq (j := j) (k := q) (by omega) (by omega)
  rw [he] at this
  have hjq : j = q := by simpa using this.symm
  subst hjq; rfl
theorem clk_len (k : Nat) : (F.clk k).length = k := by simp [Fm.clk]
theorem clk_take {i k : Nat} (h : i ≤ k) : (F.clk k).take i = F.clk i := by
  simp only [Fm.clk, ← List.map_take, List.take_range, Nat.min_eq_left h]
theorem clk_succ (k : Nat) : F.clk (k + 1) = F.clk k ++ [⟨cNm k, F.on k⟩] := by
  simp only [Fm.clk, List.range_succ, List.map_append]; rfl
theorem fam_hM (h : F.Vars N.all) (hn : F.n ≤ 9) (w : ByteArray) : (el (putE [] N.all) w).length ≤ 1000 := by
  refine el_len (fun v hv => ?_) (fun w => by show ([] : List Edge).length ≤ 1000; simp)
  obtain ⟨q, hq, rfl⟩ := List.getElem_of_mem hv
  have hql := hq
  rw [h.len] at hql
  rw [h.clk q hq]
  show (F.clk ((q - 1) / 2)).length ≤ 1000
  rw [clk_len]; omega
theorem fam_loc (h : F.Vars N.all) (hn : F.n ≤ 9) (hl : N.locals = N.all.drop 2) : ∀ v ∈ N.locals, LocOk (putE [] N.all) v := by
  intro v hv
  rw [hl] at hv
  obtain ⟨q, hq, rfl⟩ := List.getElem_of_mem hv
  have hql : q + 2 < N.all.length := by simp at hq; omega
  have hq2 := hql
  rw [h.len] at hq2
  have hc : (N.all.drop 2)[q].clock = F.clk ((q + 1) / 2) := by
    rw [List.getElem_drop, h.clk (2 + q) (by omega)]
    show F.clk ((2 + q - 1) / 2) = _
    rw [show 2 + q - 1 = q + 1 by omega]
  have hcl := clk_len (F := F) ((q + 1) / 2)
  unfold LocOk
  rw [hc]
  refine ⟨by omega, fun i hi => ?_⟩
  have hi2 : i < (q + 1) / 2 := by omega
  have hg : (F.clk ((q + 1) / 2))[i].name = key (2 * i + 2) := by
    rw [key_c]
    simp [Fm.clk, Fm.E]
  rw [hg, fam_el h hn (by omega), clk_take (by omega), show (2 * i + 2 - 1) / 2 = i by omega]
  exact sameE_self _
def Fm.wrong (F : Fm) : Bool := decide (0 < F.skip) && decide (F.skip < F.n)
theorem fam_src (h : F.Vars N.all) (hn : F.n ≤ 9) {i : Nat} (hi : i < F.n) : el (putE [] N.all) (key (F.src i)) = if i ≠ 0 ∧ (i : Int) = F.skip then [] else F.clk i := by
  unfold Fm.src
  by_cases h0 : i = 0
  · rw [if_pos (.inl h0), if_neg (by simp [h0]), fam_el h hn (by omega), h0]
  · by_cases h1 : (i : Int) = F.skip
    · rw [if_pos (.inr h1), if_pos ⟨h0, h1⟩, fam_el h hn (by omega)]; rfl
    · rw [if_neg (by simp [h0, h1]), if_neg (by simp [h1]), fam_el h hn (by omega), show (2 * i + 1 - 1) / 2 = i by omega]
theorem fam_ce (h : F.Vars N.all) (hn : F.n ≤ 9) {k : Nat} (hk : k < 2 * F.n) (hw : ¬ (k % 2 = 1 ∧ k / 2 ≠ 0 ∧ ((k / 2 : Nat) : Int) = F.skip)) {x : Exp} (hx : (F.ek k).is x) : ∃ c, CE (putE [] N.all) x c ∧ c.goes (el (putE [] N.all) (key (k + 2))) = true := by
  rw [fam_el h hn (by omega)]
  unfold Fm.ek at hx
  split at hx
  · exact ⟨none, ce_tru hx, rfl⟩
  split at hx
  · rename_i h0 h2
    refine ⟨_, ce_gt hx, ?_⟩
    rw [fam_el h hn (by omega)]
    show sameE (F.clk ((k + 1 - 1) / 2)) _ = true
    rw [show (k + 1 - 1) / 2 = (k + 2 - 1) / 2 by omega]
    exact sameE_self _
  · rename_i h0 h2
    have hc : el (putE [] N.all) (cNm (k / 2)) = F.clk (k / 2) := by
      rw [← key_c, fam_el h hn (by omega), show (2 * (k / 2) + 2 - 1) / 2 = k / 2 by omega]
    have hs := fam_src h hn (i := k / 2) (by omega)
    rw [if_neg (fun hh => hw ⟨by omega, hh⟩)] at hs
    refine ⟨_, ce_wh hx (by rw [hs, hc]; exact sameE_self _), ?_⟩
    rw [hc, ← clk_succ, show (k + 2 - 1) / 2 = k / 2 + 1 by omega]
    exact sameE_self _
theorem eqok_of {cb mb : Nat} {M : EM} (hM : ∀ n, (el M n).length ≤ 1000) {w : ByteArray} {y : Exp} {p : Int} {c : Ck} (hy : y.WF) (hp : (prV y).length ≤ 1000000) (hc : CE M y c) (hg : c.goes (el M w) = true) : EqOk cb mb M (.mk [w] y [] p) :=
  ⟨rfl, fun s hf hS => (eq_ok (x := .mk [w] y [] p) hM rfl hy hp hc hf hS).mono fun r s' h => by rw [hg] at h; exact h⟩
theorem fam_found (h : F.Vars N.all) (hn : F.n ≤ 9) (hi : Is2 F.its N.items) : ∃ o : Option Int, o.isSome = F.wrong ∧ ∀ cb mb, Fnd cb mb (putE [] N.all) N o := by
  have hM := fam_hM h hn
  have hil : N.items.length = 2 * F.n + 1 := by rw [hi.len, its_len]
  have good : ∀ (cb mb j : Nat) (hj : j < N.items.length), ¬ (j ≠ 0 ∧ (j - 1) % 2 = 1 ∧ (j - 1) / 2 ≠ 0 ∧ (((j - 1) / 2 : Nat) : Int) = F.skip) → EqOk cb mb (putE [] N.all) N.items[j] := by
    intro cb mb j hj hno
    obtain ⟨y, p, hy, he⟩ := hi.at j hj
    rw [he]
    cases j with
    | zero =>
      have hy : IsV bXX y := hy
      refine eqok_of hM (wf_var hy) (by rw [pl_var hy]; omega) (ce_var hy) ?_
      have e0 : el (putE [] N.all) bXX = F.clk 0 := fam_el h hn (q := 0) (by omega)
      have e1 : el (putE [] N.all) bYY = F.clk 0 := fam_el h hn (q := 1) (by omega)
      rw [e0]
      show sameE (F.clk 0) (el (putE [] N.all) bYY) = true
      rw [e1]
      exact sameE_self _
    | succ k =>
      have hk : k < 2 * F.n := by omega
      simp only [Fm.its, List.getElem_cons_succ, List.getElem_map, List.getElem_range, Fm.it] at hy ⊢
      obtain ⟨c, hc, hg⟩ := fam_ce h hn hk (fun hh => hno ⟨by omega, by simpa using hh⟩) hy
      exact eqok_of hM (wf_ek hy) (pl_ek hy) hc hg
  cases hw : F.wrong with
  | false =>
    refine ⟨none, rfl, fun cb mb => .ok fun j hj => good cb mb j hj fun hh => ?_⟩
    simp only [Fm.wrong, Bool.and_eq_false_iff, decide_eq_false_iff_not] at hw
    omega
  | true =>
    simp only [Fm.wrong, Bool.and_eq_true, decide_eq_true_eq] at hw
    obtain ⟨i, hi0⟩ : ∃ i : Nat, (i : Int) = F.skip := ⟨F.skip.toNat, by omega⟩
    have hb : 2 * i + 2 < N.items.length := by omega
    obtain ⟨y, p, hy, he⟩ := hi.at (2 * i + 2) hb
    simp only [Fm.its, List.getElem_cons_succ, List.getElem_map, List.getElem_range, Fm.it] at hy he
    have hy0 := hy
    unfold Fm.ek at hy
    rw [if_neg (by omega), if_neg (by omega), show (2 * i + 1) / 2 = i by omega] at hy
    have hs := fam_src h hn (i := i) (by omega)
    rw [if_pos ⟨by omega, hi0⟩] at hs
    have hc : el (putE [] N.all) (cNm i) = F.clk i := by
      rw [← key_c, fam_el h hn (by omega), show (2 * i + 2 - 1) / 2 = i by omega]
    obtain ⟨y2, p2, hy2, rfl⟩ := hy
    refine ⟨some p2, rfl, fun cb mb => .bad (2 * i + 2) hb p2 (fun j hj hjb => good cb mb j hj fun hh => ?_) ?_⟩
    · omega
    · rw [he]
      refine ⟨rfl, fun s hf hS => eq_bad (x := .mk [key (2 * i + 1 + 2)] (.mk 9 0 (cNm i) 0 0 (bif F.on i then 1 else 0) 0 [y2] p2) [] p) (w := key (2 * i + 1 + 2)) rfl (wf_ek hy0) (pl_ek hy0) (fun s1 h1 h2 => exp_bad hM (ce_var hy2) (by
        rw [hs, hc]
        show sameE [] (F.clk i) = false
        exact sameE_len (by rw [clk_len]; simp; omega)) h1 h2) hf hS⟩
theorem fam_check (hN : IsNd F.lcs F.its N) (hn : F.n ≤ 9) : ∃ o : Option Int, o.isSome = F.wrong ∧ ∀ {s : St}, Free s → SW .top Tryz.prog 20 [.agg [.lst [N.row]]] s fun r s' => r = ckR o := by
  obtain ⟨hv, h1, h2, hi, hl⟩ := nd_vars hN
  obtain ⟨o, ho, hF⟩ := fam_found hv hn hi
  have hA := hv.len
  refine ⟨o, ho, fun hf => SW.mono (check_sw (by omega) (by omega) (by rw [hl]; simp; omega) (by rw [hi.len, its_len]; omega) (fun v hvv => ?_) (fam_hM hv hn) (fam_loc hv hn hl) hF hf) fun r s' h => h.1⟩
  obtain ⟨q, hq, rfl⟩ := List.getElem_of_mem hvv
  rw [hv.clk q hq]
  show (F.clk ((q - 1) / 2)).length ≤ 1000
  rw [clk_len]; omega
end
end Go.Vi
namespace Go.Vi
open Go.Proofs
def kX : ByteArray := ⟨#[120]⟩
def kY : ByteArray := ⟨#[121]⟩
def kZ : ByteArray := ⟨#[122]⟩
def kC : ByteArray := ⟨#[99]⟩
def kV (x : ByteArray) (a : Int) : Exp := .mk 2 0 x 0 0 0 0 [] a
def eMg : Exp := .mk 10 0 kC 0 0 0 0 [kV kZ 74, .mk 9 0 kC 0 0 0 0 [.mk 1 0 ⟨#[]⟩ 2 0 0 0 [] 82] 77] 65
def eWh : Exp := .mk 9 0 kC 0 0 1 0 [kV kX 105] 100
def kN (e : Exp) : Node := ⟨⟨#[102]⟩, [⟨kX, 2, 0, [], 7⟩, ⟨kC, 1, 0, [], 14⟩], [⟨kY, 2, 0, [], 32⟩], [⟨kZ, 2, 0, [⟨kC, true⟩], 43⟩], [.mk [kY] eMg [] 61, .mk [kZ] e [] 96], 0⟩
def kTp : ByteArray := ⟨#[110, 111, 100, 101, 32, 102, 40, 120, 58, 32, 105, 56, 59, 32, 99, 58, 32, 98, 111, 111, 108, 41, 32, 114, 101, 116, 117, 114, 110, 115, 32, 40, 121, 58, 32, 105, 56, 41, 32, 118, 97, 114, 32, 122, 58, 32, 105, 56, 32, 119, 104, 101, 110, 32, 99, 59, 32, 108, 101, 116, 32, 121, 32, 61, 32, 109, 101, 114, 103, 101, 40, 99, 44, 32, 122, 44, 32, 119, 104, 101, 110, 40, 48, 105, 56, 44, 32, 110, 111, 116, 32, 99, 41, 41, 59, 32, 122, 32, 61, 32, 119, 104, 101, 110, 40, 120, 44, 32, 99, 41, 59, 32, 116, 101, 108]⟩
def kTq : ByteArray := ⟨#[110, 111, 100, 101, 32, 102, 40, 120, 58, 32, 105, 56, 59, 32, 99, 58, 32, 98, 111, 111, 108, 41, 32, 114, 101, 116, 117, 114, 110, 115, 32, 40, 121, 58, 32, 105, 56, 41, 32, 118, 97, 114, 32, 122, 58, 32, 105, 56, 32, 119, 104, 101, 110, 32, 99, 59, 32, 108, 101, 116, 32, 121, 32, 61, 32, 109, 101, 114, 103, 101, 40, 99, 44, 32, 122, 44, 32, 119, 104, 101, 110, 40, 48, 105, 56, 44, 32, 110, 111, 116, 32, 99, 41, 41, 59, 32, 122, 32, 61, 32, 120, 59, 32, 116, 101, 108]⟩
noncomputable def mdK (f : FuncId) : Bool := Nat.beq f 159 || Nat.beq f 147 || Nat.beq f 149
noncomputable def fzK (f : FuncId) : Bool := Nat.beq f 147 || Nat.beq f 149
noncomputable def mlK (f : FuncId) : Nat := bif Nat.beq f 149 then 2 else 0
def kLp : List PT := [⟨3, ⟨#[110, 111, 100, 101]⟩, 0, 0, 0, 0⟩, ⟨1, ⟨#[102]⟩, 0, 0, 0, 5⟩, ⟨4, ⟨#[40]⟩, 0, 0, 0, 6⟩, ⟨1, ⟨#[120]⟩, 0, 0, 0, 7⟩, ⟨4, ⟨#[58]⟩, 0, 0, 0, 8⟩, ⟨3, ⟨#[105, 56]⟩, 0, 0, 0, 10⟩, ⟨4, ⟨#[59]⟩, 0, 0, 0, 12⟩, ⟨1, ⟨#[99]⟩, 0, 0, 0, 14⟩, ⟨4, ⟨#[58]⟩, 0, 0, 0, 15⟩, ⟨3, ⟨#[98, 111, 111, 108]⟩, 0, 0, 0, 17⟩, ⟨4, ⟨#[41]⟩, 0, 0, 0, 21⟩, ⟨3, ⟨#[114, 101, 116, 117, 114, 110, 115]⟩, 0, 0, 0, 23⟩, ⟨4, ⟨#[40]⟩, 0, 0, 0, 31⟩, ⟨1, ⟨#[121]⟩, 0, 0, 0, 32⟩, ⟨4, ⟨#[58]⟩, 0, 0, 0, 33⟩, ⟨3, ⟨#[105, 56]⟩, 0, 0, 0, 35⟩, ⟨4, ⟨#[41]⟩, 0, 0, 0, 37⟩, ⟨3, ⟨#[118, 97, 114]⟩, 0, 0, 0, 39⟩, ⟨1, ⟨#[122]⟩, 0, 0, 0, 43⟩, ⟨4, ⟨#[58]⟩, 0, 0, 0, 44⟩, ⟨3, ⟨#[105, 56]⟩, 0, 0, 0, 46⟩, ⟨3, ⟨#[119, 104, 101, 110]⟩, 0, 0, 0, 49⟩, ⟨1, ⟨#[99]⟩, 0, 0, 0, 54⟩, ⟨4, ⟨#[59]⟩, 0, 0, 0, 55⟩, ⟨3, ⟨#[108, 101, 116]⟩, 0, 0, 0, 57⟩, ⟨1, ⟨#[121]⟩, 0, 0, 0, 61⟩, ⟨4, ⟨#[61]⟩, 0, 0, 0, 63⟩, ⟨3, ⟨#[109, 101, 114, 103, 101]⟩, 0, 0, 0, 65⟩, ⟨4, ⟨#[40]⟩, 0, 0, 0, 70⟩, ⟨1, ⟨#[99]⟩, 0, 0, 0, 71⟩, ⟨4, ⟨#[44]⟩, 0, 0, 0, 72⟩, ⟨1, ⟨#[122]⟩, 0, 0, 0, 74⟩, ⟨4, ⟨#[44]⟩, 0, 0, 0, 75⟩, ⟨3, ⟨#[119, 104, 101, 110]⟩, 0, 0, 0, 77⟩, ⟨4, ⟨#[40]⟩, 0, 0, 0, 81⟩, ⟨2, ⟨#[48, 105, 56]⟩, 0, 2, 0, 82⟩, ⟨4, ⟨#[44]⟩, 0, 0, 0, 85⟩, ⟨3, ⟨#[110, 111, 116]⟩, 0, 0, 0, 87⟩, ⟨1, ⟨#[99]⟩, 0, 0, 0, 91⟩, ⟨4, ⟨#[41]⟩, 0, 0, 0, 92⟩, ⟨4, ⟨#[41]⟩, 0, 0, 0, 93⟩, ⟨4, ⟨#[59]⟩, 0, 0, 0, 94⟩, ⟨1, ⟨#[122]⟩, 0, 0, 0, 96⟩, ⟨4, ⟨#[61]⟩, 0, 0, 0, 98⟩, ⟨3, ⟨#[119, 104, 101, 110]⟩, 0, 0, 0, 100⟩, ⟨4, ⟨#[40]⟩, 0, 0, 0, 104⟩, ⟨1, ⟨#[120]⟩, 0, 0, 0, 105⟩, ⟨4, ⟨#[44]⟩, 0, 0, 0, 106⟩, ⟨1, ⟨#[99]⟩, 0, 0, 0, 108⟩, ⟨4, ⟨#[41]⟩, 0, 0, 0, 109⟩, ⟨4, ⟨#[59]⟩, 0, 0, 0, 110⟩, ⟨3, ⟨#[116, 101, 108]⟩, 0, 0, 0, 112⟩, ⟨5, ⟨#[]⟩, 0, 0, 0, 115⟩]
def kLq : List PT := [⟨3, ⟨#[110, 111, 100, 101]⟩, 0, 0, 0, 0⟩, ⟨1, ⟨#[102]⟩, 0, 0, 0, 5⟩, ⟨4, ⟨#[40]⟩, 0, 0, 0, 6⟩, ⟨1, ⟨#[120]⟩, 0, 0, 0, 7⟩, ⟨4, ⟨#[58]⟩, 0, 0, 0, 8⟩, ⟨3, ⟨#[105, 56]⟩, 0, 0, 0, 10⟩, ⟨4, ⟨#[59]⟩, 0, 0, 0, 12⟩, ⟨1, ⟨#[99]⟩, 0, 0, 0, 14⟩, ⟨4, ⟨#[58]⟩, 0, 0, 0, 15⟩, ⟨3, ⟨#[98, 111, 111, 108]⟩, 0, 0, 0, 17⟩, ⟨4, ⟨#[41]⟩, 0, 0, 0, 21⟩, ⟨3, ⟨#[114, 101, 116, 117, 114, 110, 115]⟩, 0, 0, 0, 23⟩, ⟨4, ⟨#[40]⟩, 0, 0, 0, 31⟩, ⟨1, ⟨#[121]⟩, 0, 0, 0, 32⟩, ⟨4, ⟨#[58]⟩, 0, 0, 0, 33⟩, ⟨3, ⟨#[105, 56]⟩, 0, 0, 0, 35⟩, ⟨4, ⟨#[41]⟩, 0, 0, 0, 37⟩, ⟨3, ⟨#[118, 97, 114]⟩, 0, 0, 0, 39⟩, ⟨1, ⟨#[122]⟩, 0, 0, 0, 43⟩, ⟨4, ⟨#[58]⟩, 0, 0, 0, 44⟩, ⟨3, ⟨#[105, 56]⟩, 0, 0, 0, 46⟩, ⟨3, ⟨#[119, 104, 101, 110]⟩, 0, 0, 0, 49⟩, ⟨1, ⟨#[99]⟩, 0, 0, 0, 54⟩, ⟨4, ⟨#[59]⟩, 0, 0, 0, 55⟩, ⟨3, ⟨#[108, 101, 116]⟩, 0, 0, 0, 57⟩, ⟨1, ⟨#[121]⟩, 0, 0, 0, 61⟩, ⟨4, ⟨#[61]⟩, 0, 0, 0, 63⟩, ⟨3, ⟨#[109, 101, 114, 103, 101]⟩, 0, 0, 0, 65⟩, ⟨4, ⟨#[40]⟩, 0, 0, 0, 70⟩, ⟨1, ⟨#[99]⟩, 0, 0, 0, 71⟩, ⟨4, ⟨#[44]⟩, 0, 0, 0, 72⟩, ⟨1, ⟨#[122]⟩, 0, 0, 0, 74⟩, ⟨4, ⟨#[44]⟩, 0, 0, 0, 75⟩, ⟨3, ⟨#[119, 104, 101, 110]⟩, 0, 0, 0, 77⟩, ⟨4, ⟨#[40]⟩, 0, 0, 0, 81⟩, ⟨2, ⟨#[48, 105, 56]⟩, 0, 2, 0, 82⟩, ⟨4, ⟨#[44]⟩, 0, 0, 0, 85⟩, ⟨3, ⟨#[110, 111, 116]⟩, 0, 0, 0, 87⟩, ⟨1, ⟨#[99]⟩, 0, 0, 0, 91⟩, ⟨4, ⟨#[41]⟩, 0, 0, 0, 92⟩, ⟨4, ⟨#[41]⟩, 0, 0, 0, 93⟩, ⟨4, ⟨#[59]⟩, 0, 0, 0, 94⟩, ⟨1, ⟨#[122]⟩, 0, 0, 0, 96⟩, ⟨4, ⟨#[61]⟩, 0, 0, 0, 98⟩, ⟨1, ⟨#[120]⟩, 0, 0, 0, 100⟩, ⟨4, ⟨#[59]⟩, 0, 0, 0, 101⟩, ⟨3, ⟨#[116, 101, 108]⟩, 0, 0, 0, 103⟩, ⟨5, ⟨#[]⟩, 0, 0, 0, 106⟩]
noncomputable def orcK (t : ByteArray) (x : PV) (f : FuncId) (vs : List PV) : Option PV := bif Nat.beq f 106 then (match vs with
  | [.str s] => bif eqB s.data.toList t.data.toList then some (.tuple [x, .int .i64 0, .int .i64 0]) else none
  | _ => none) else none
noncomputable def saysT (t : ByteArray) (x : PV) : Bool := match bodyE Tryz.prog mdK fzK mlK 200 (evalE Tryz.prog mdK fzK mlK (fun _ _ => none) 200 60) 106 [.str t] ⟨.nil, .nil, 0⟩ with
  | .ok (.tuple [y, .int .i64 a, .int .i64 b], _) => (match y.data with
    | some d => eqV 20 d x && (eqI a 0 && eqI b 0)
    | none => false)
  | _ => false
noncomputable def saysN (f : FuncId) (vs : List PV) : Bool := match bodyE Tryz.prog mdK fzK mlK 200 (evalE Tryz.prog mdK fzK mlK (fun _ _ => none) 200 60) f vs ⟨.nil, .nil, 0⟩ with
  | .ok (.tuple [.int .i64 a, .int .i64 b], _) => eqI a 0 && eqI b 0
  | _ => false
noncomputable def saysP (t : ByteArray) (l : PV) (x : PV) : Bool := match bodyE Tryz.prog mdK fzK mlK 200 (evalE Tryz.prog mdK fzK mlK (orcK t l) 200 60) 83 [.str t] ⟨.nil, .nil, 0⟩ with
  | .ok (.tuple [.agg [y], .int .i64 a, .int .i64 b], _) => (match y.data with
    | some d => eqV 20 d x && (eqI a 0 && eqI b 0)
    | none => false)
  | _ => false
theorem init0 : (ES.mk .nil .nil 0).st = initSt [] := by
  show St.mk _ _ = St.mk _ _
  congr 1
theorem saysN_pc {f : FuncId} {vs : List PV} (h : saysN f vs = true) : PC Tryz.prog f vs [] (.tuple [.int .i64 0, .int .i64 0]) [] := by
  unfold saysN at h
  split at h
  · rename_i a b s1 hb
    obtain ⟨h1, h2⟩ := Go.Ab.and_true h
    have := sw_of_evalE (fun _ _ _ h => by cases h) hb (by rw [init0]; exact fun b _ => rfl)
    rw [init0] at this
    refine pc_of_sw (this.mono fun r s hq => hq.1) fun r s hr => ?_
    rw [hr, eqI_eq h1, eqI_eq h2]; rfl
  · cases h
theorem saysT_pc {t : ByteArray} {x : PV} (h : saysT t x = true) : PC Tryz.prog 106 [.str t] [] (.tuple [x, .int .i64 0, .int .i64 0]) [] ∧ x.data = some x := by
  unfold saysT at h
  split at h
  · rename_i y a b s1 hb
    split at h
    · rename_i d hd
      obtain ⟨h1, h2⟩ := Go.Ab.and_true h
      obtain ⟨h2, h3⟩ := Go.Ab.and_true h2
      have := sw_of_evalE (fun _ _ _ h => by cases h) hb (by rw [init0]; exact fun b _ => rfl)
      rw [init0] at this
      have hdd : d.data = some d := by cases y <;> simp [PV.data] at hd <;> subst hd <;> rfl
      have e1 : back1 y = some d := by
        cases y <;> first | exact hd | simp [PV.data] at hd
      rw [← eqV_eq h1]
      refine ⟨pc_of_sw (this.mono fun r s hq => hq.1) fun r s hr => ?_, hdd⟩
      rw [hr, eqI_eq h2, eqI_eq h3]
      show (match backs [y, .int .i64 0, .int .i64 0] with
        | some k => some (PV.tuple k)
        | none => none) = _
      simp only [backs, e1]
      rfl
    · cases h
  · cases h
theorem orcK_ok {t : ByteArray} {x : PV} (h : saysT t x = true) : OrcOk Tryz.prog (orcK t x) := by
  intro f vs v hv
  obtain ⟨h1, h2⟩ := saysT_pc h
  unfold orcK at hv
  cases hf : Nat.beq f 106 with
  | false => rw [hf] at hv; cases hv
  | true =>
    rw [hf] at hv
    simp only [cond_true] at hv
    split at hv
    · rename_i s
      cases hs : eqB s.data.toList t.data.toList with
      | false => rw [hs] at hv; cases hv
      | true =>
        rw [hs] at hv
        cases hv
        rw [eqB_eq, beq_iff_eq] at hs
        have : s = t := ByteArray.ext (Array.toList_inj.1 hs)
        subst this
        rw [Nat.eq_of_beq_eq_true hf]
        exact ⟨h1, rfl, fun _ => rfl⟩
    · cases hv
theorem saysP_pc {t : ByteArray} {l x : PV} (ht : saysT t l = true) (h : saysP t l x = true) : PC Tryz.prog 83 [.str t] [] (.tuple [.agg [x], .int .i64 0, .int .i64 0]) [] := by
  unfold saysP at h
  split at h
  · rename_i y a b s1 hb
    split at h
    · rename_i d hd
      obtain ⟨h1, h2⟩ := Go.Ab.and_true h
      obtain ⟨h2, h3⟩ := Go.Ab.and_true h2
      have := sw_of_evalE (orcK_ok ht) hb (by rw [init0]; exact fun b _ => rfl)
      rw [init0] at this
      refine pc_of_sw (this.mono fun r s hq => hq.1) fun r s hr => ?_
      have e1 : back1 (.agg [y]) = some (.agg [d]) := by
        show (match datas [y] with
          | some k => some (PV.agg k)
          | none => none) = _
        simp only [datas, hd]
      rw [hr, eqI_eq h2, eqI_eq h3, ← eqV_eq h1]
      show (match backs [.agg [y], .int .i64 0, .int .i64 0] with
        | some k => some (PV.tuple k)
        | none => none) = _
      simp only [backs, e1]
      rfl
    · cases h
  · cases h
end Go.Vi
