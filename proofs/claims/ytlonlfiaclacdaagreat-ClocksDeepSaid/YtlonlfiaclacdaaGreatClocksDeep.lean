/- The statement ClocksDeep is proved of every call, with no condition beyond the statement. -/
import Derived.Test.YtlonlfiaclacdaaGreatK3
import Derived.Test.YtlonlfiaclacdaaGreatRows
import Derived.WalkKit
import Derived.ProofKit
import Derived.OpenShut
import Derived.Deep.Slices
import Derived.Carry
import Derived.WideKeyArgs
set_option linter.all false
set_option maxRecDepth 100000
namespace Go.Vi
open Go Go.Proofs Go.RowKit Go.ChangeShapes Go.WideShapes
theorem laidOut : laidOutB Tryz.prog = true := by kernel_rfl
structure Nu (w w' : World) : Prop where
  os : w'.os = w.os
  output : w'.output = w.output
  same : ∀ B, B < w.heap.size → w'.heap[B]? = w.heap[B]?
theorem Nu.frame {w w' : World} (h : Nu w w') (may : MemPlace → Prop) : w.keptBut w' may := by
  refine ⟨h.os, h.output, fun i hi => ?_⟩
  rw [h.same i hi]
  split <;> simp_all
theorem Nu.at {w w' : World} (h : Nu w w') {p : MemPlace} (hp : p.block < w.heap.size) : w.sameAt w' p := by
  cases p with
  | cell b o => exact World.cell?_of_block (w := w) (h.same b hp)
  | map b => exact h.same b hp
theorem Nu.trod {H : Type} {enc : TypeId × Value → H} {P : Program} {t : TypeId} (hl : laidOutB P = true) (hr : P.readableRec t = true) (hrow : t < P.types.size) {w w' : World} {v : Value} {d : DataW H} {ps : List MemPlace}
    (h : DataW.Trod enc P w 0 (fun _ => true) true t v d ps) (ho : Nu w w') (hlt : ∀ x ∈ ps, x.block < w.heap.size) {sp : Nat → Bool} (hs : ∀ x ∈ ps, sp x.block = true) : DataW.Trod enc P w' 0 sp true t v d ps :=
  WideElems.Trod_stays hl hr hrow h (fun x hx => ho.at (hlt x hx)) hs
theorem post_of_nu {P : Program} {H : Type} {enc : TypeId × Value → H} {f : Func} {s : ChangeSpec} {apart fresh handsOn again : Bool} {W W' : World} {args : Array Value} {v : Value} {ds gs : List (DataW H)} {before pa pv : List MemPlace}
    (hW : DataW.Whole enc P f.params.toList s.vars apart W args.toList ds gs before)
    (hres : ∀ (b : Nat) (sp : Nat → Bool) (hd : Bool), DataW.TrodAll enc P W' b sp hd f.resultTypes.toList (v.resultList f.resultTypes.size) (s.fn H (ds ++ gs)).results [])
    (hargs : ∀ sp : Nat → Bool, (∀ p ∈ before, sp p.block = true) → DataW.TrodAll enc P W' 0 sp true f.params.toList args.toList (s.fn H (ds ++ gs)).args pa)
    (hvars : ∀ sp : Nat → Bool, (∀ p ∈ before, sp p.block = true) → DataW.TrodVars enc P W' sp s.vars (s.fn H (ds ++ gs)).vars pv)
    (hps : before = pa ++ pv) (ho : Nu W W')
    (hok : ∀ (j : Nat) (t : TypeId) (r : Value), f.resultTypes[j]? = some t → (v.resultList f.resultTypes.size)[j]? = some r → Value.okWide P W' .any 0 t r) :
    s.post enc P f apart fresh handsOn again W args v W' := by
  have hlt : ∀ p ∈ before, p.block < W.heap.size := fun p hp => by simpa using hW.lt p hp
  have hold : ∀ p ∈ before, (fun b => decide (b < W.heap.size)) p.block = true := fun p hp => by simpa using hlt p hp
  refine ⟨ds, gs, before, [], pa, pv, hW, hres _ _ _, hargs _ hold, hvars _ hold, World.keptBut_mono (fun p hp => ⟨hp, ?_⟩) (ho.frame (· ∈ before)), fun _ => ?_⟩
  · rw [hps, List.mem_append] at hp
    exact Or.inr hp
  · obtain ⟨_, _, _, _, _, hz, hn⟩ := hW
    refine ⟨hok, _, _, ([] ++ pa) ++ pv, ⟨[] ++ pa, pv, trodAll_append (hargs _ (fun _ _ => rfl)) (hres _ _ _), hvars _ (fun _ _ => rfl), rfl, ?_, ?_⟩, ?_⟩
    · intro b off hp
      have hb : MemPlace.cell b off ∈ before := by rw [hps]; simpa using hp
      rw [World.frozen?_of_block (w := W) (ho.same _ (hlt _ hb))]
      exact hz b off hb
    · intro ha
      have := hn ha
      rw [hps] at this
      simpa using this
    · intro p hp _
      rw [hps]
      simpa using hp
theorem choose_lt {α : Type} [Inhabited α] {n : Nat} {R : Nat → α → Prop} (h : ∀ i, i < n → ∃ x, R i x) : ∃ f : Nat → α, ∀ i, i < n → R i (f i) := by
  classical
  exact ⟨fun i => if hi : i < n then (h i hi).choose else default, fun i hi => by simp only [dif_pos hi]; exact (h i hi).choose_spec⟩
theorem open_bools {H : Type} {enc : TypeId × Value → H} {w : World} {v : Value} {d : DataW H} {ps : List MemPlace} (hv : ∃ ao m cap, v = .slice ao m cap) (h : DataW.Trod enc Tryz.prog w 0 (fun _ => true) true 37 v d ps) :
    ∃ (K : KK) (m : Nat) (f : Nat → Bool), FroK K w ∧ DR K (.lst ((List.range m).map fun i => [.bool (f i)])) v := by
  obtain ⟨ao, m, cap, rfl⟩ := hv
  obtain ⟨fuel, hf⟩ := h
  rcases Go.Deep.open_slice1 Tryz.underlying37 (by kernel_rfl) hf with ⟨hc, _⟩ | ⟨a, len, cap', m', n, V, D, Pl, hc, _, hl, hm, hm', _, hel⟩
  · simp [Value.cells] at hc
    obtain ⟨rfl, rfl, rfl⟩ := hc
    exact ⟨fun _ => none, 0, fun _ => false, (fun B ks h => by cases h), DR.none none 0 fun _ => rfl⟩
  · simp [Value.cells] at hc
    obtain ⟨rfl, rfl, rfl⟩ := hc
    rcases Nat.eq_zero_or_pos m with rfl | h0
    · exact ⟨fun _ => none, 0, fun _ => false, (fun B ks h => by cases h), DR.none (some a) cap fun h => by cases h⟩
    have hget : ∀ i, i < m → ∃ b : Bool, w.cell? (a.add i) = some (.bool b) := by
      intro i hi
      obtain ⟨h1, h2⟩ := hel i (by rw [hm']; simp; omega)
      obtain ⟨b, hb, _⟩ := DataW.trod_bool Tryz.underlying4 h2
      simp at hb
      exact ⟨b, by rw [h1, hb]⟩
    obtain ⟨f, hcl⟩ := choose_lt hget
    obtain ⟨b, o, s⟩ := a
    have h00 := hcl 0 h0
    rw [show (⟨b, o, s⟩ : Addr).add 0 = ⟨b, o, s⟩ by simp [Addr.add]] at h00
    unfold World.cell? at h00
    split at h00
    · rename_i vs ty fz hb
      have hs : s = none := by
        cases s with
        | none => rfl
        | some x => simp at h00
      subst hs
      have hv2 : ∀ i, i < m → vs[o + i]? = some (.bool (f i)) := by
        intro i hi
        have := hcl i hi
        rw [show (⟨b, o, none⟩ : Addr).add i = ⟨b, o + i, none⟩ by simp [Addr.add]] at this
        unfold World.cell? at this
        have hb' : w.heap[b]? = some (.cells vs ty fz) := hb
        simp only [hb'] at this
        simpa using this
      have hsz : o + m ≤ vs.size := by
        have := hv2 (m - 1) (by omega)
        have := (Array.getElem?_eq_some_iff.1 this).1
        omega
      have hlen : ((List.range m).map fun i => [PV.bool (f i)]).length = m := by simp
      have hrow : ∀ (i : Nat) (row : List PV), ((List.range m).map fun i => [PV.bool (f i)])[i]? = some row → i < m ∧ row = [.bool (f i)] := by
        intro i row hr
        rw [List.getElem?_map] at hr
        by_cases hi : i < m
        · rw [List.getElem?_range hi] at hr
          exact ⟨hi, by simpa using hr.symm⟩
        · rw [List.getElem?_eq_none (by simp; omega)] at hr
          cases hr
      refine ⟨fun B => if B = b then some vs.toList else none, m, f, fun B ks hk => ?_, ?_⟩
      · by_cases c : B = b
        · subst c
          have hk : (if B = B then some vs.toList else none) = some ks := hk
          rw [if_pos rfl] at hk; cases hk
          exact ⟨vs, ty, fz, hb, List.prefix_refl _⟩
        · have hk : (if B = b then some vs.toList else none) = some ks := hk
          rw [if_neg c] at hk; cases hk
      · have := DR.lst (K := fun B => if B = b then some vs.toList else none) ((List.range m).map fun i => [PV.bool (f i)]) b o cap 1 vs.toList (if_pos rfl) (by rw [hlen]; exact h0) (by rw [hlen]; exact hl) (by rw [hlen]; simpa using hsz) (fun i row hr => by rw [(hrow i row hr).2]; rfl) (fun i row hr => by
          obtain ⟨hi, rfl⟩ := hrow i row hr
          rw [Nat.mul_one, List.take_one, List.head?_drop, Array.getElem?_toList, hv2 i hi]
          exact .cons _ _ _ _ (.bool _) .nil)
        rw [hlen] at this
        exact this
    · cases h00
theorem deep_in (w : World) (n skip : Int) {K : KK} {m : Nat} {f : Nat → Bool} {v : Value} (hK : FroK K w) (hv : DR K (.lst ((List.range m).map fun i => [.bool (f i)])) v) : Calls Tryz.prog 7 #[.int .i64 n, .int .i64 skip, v] w fun e w' => e = .returned (.bool true) ∧ Nu w w' := by
  refine callsIn_wide.1 ((deep_pc n skip m f K w [] [.int .i64 n, .int .i64 skip, v] hK .nil (by simp) (.cons _ _ _ _ (.data _ _ (.int _ _)) (.cons _ _ _ _ (.data _ _ (.int _ _)) (.cons _ _ _ _ (.data _ _ hv) .nil)))).mono ?_)
  rintro e w' ⟨K', v, rfl, h⟩
  refine ⟨?_, h.os, h.output, fun B hB => h.same B hB (by simp)⟩
  rw [rr_bool h.val]
end Go.Vi
namespace Go.Proofs.YtlonlfiaclacdaaGreat.clocksDeep
open Go.ChangeShapes Go.WideShapes Go.ChangeAt Go.RowKit Go.ChangeMaps
theorem own : ownKnob Tryz.prog.godebug = none := by kernel_rfl
set_option maxRecDepth 100000 in
theorem lifted (os : Os) (started : os.Started) (H : Type) (enc : TypeId × Value → H) :
    ReturnsInHanded {} Tryz.checked os 7 .any (Rows.clocksDeepSpec.pre6 enc Tryz.prog Tryz.f7 Rows.clocksDeepRow.domain false) (Rows.clocksDeepSpec.post enc Tryz.prog Tryz.f7 false true false false) := by
  refine returnsInHanded_of_change (C := Tryz.checked) own started (by kernel_rfl) Tryz.func7
    (ChangeSpec.witness6 (enc := enc) (C := Tryz.checked) false ⟨#[], #[.int .i64 0, .int .i64 0, .slice none 0 0], []⟩ 8 (by kernel_rfl) (by kernel_rfl) (by kernel_rfl) (by kernel_rfl)) ?_
  intro W base args ds gs before hval0 hW hcnd _
  have hval : ∀ (j : Nat) t v, Tryz.f7.params[j]? = some t → args[j]? = some v → Value.okWide Tryz.prog W .any base t v := hval0
  have hW' := hW
  obtain ⟨p, q, hA0, hV, rfl, hfz, hnd⟩ := hW
  have hA : DataW.TrodAll enc Tryz.prog W 0 (fun _ => true) true Tryz.f7.params.toList args.toList ds p := hA0
  rw [Tryz.params7] at hA hval
  obtain ⟨v0, vs0, d0, ds0, p0, q0, hargs, rfl, rfl, h0, r0⟩ := trodAll_cons hA
  obtain ⟨v1, vs1, d1, ds1, p1, q1, rfl, rfl, rfl, h1, r1⟩ := trodAll_cons r0
  obtain ⟨v2, vs2, d2, ds2, p2, q2, rfl, rfl, rfl, h2, r2⟩ := trodAll_cons r1
  obtain ⟨rfl, rfl, rfl⟩ := trodAll_nil r2
  obtain rfl : args = #[v0, v1, v2] := by cases args; simp_all
  obtain ⟨rfl, rfl⟩ := trodVars_none hV
  obtain ⟨a0, rfl, rfl, rfl, w0⟩ := open_int Tryz.underlying3 (hval 0 3 v0 rfl rfl) h0
  obtain ⟨a1, rfl, rfl, rfl, w1⟩ := open_int Tryz.underlying3 (hval 1 3 v1 rfl rfl) h1
  obtain ⟨K, m, f, hK, hd⟩ := Go.Vi.open_bools (okWide_slice Tryz.underlying37 (hval 2 37 v2 rfl rfl)) h2
  clear hA0 hval0
  simp only [List.append_nil, List.nil_append] at hW'
  have hlt : ∀ x ∈ p2, x.block < W.heap.size := fun x hx => by simpa using hW'.lt x (by simpa using hx)
  refine (Go.Vi.deep_in W a0 a1 hK hd).mono ?_
  rintro _ W' ⟨rfl, hg⟩
  exact ⟨_, rfl, Go.Vi.post_of_nu (pa := p2) (pv := []) hW' (fun _ _ _ => (trodAll_cons_mk (shut_bool Tryz.underlying4 _) trodAll_mk0))
    (fun sp hsp => by
      have := trodAll_cons_mk (shut_int Tryz.underlying3 w0) (trodAll_cons_mk (shut_int Tryz.underlying3 w1) (trodAll_cons_mk (hg.trod Go.Vi.laidOut (by kernel_rfl) (of_decide_eq_true (by kernel_rfl)) h2 hlt (sp := sp) (fun x hx => hsp x (by simpa using hx))) trodAll_mk0))
      simp only [List.append_nil, List.nil_append] at this
      exact this) (fun _ _ => rfl) (by simp)
    hg (ok_one (by kernel_rfl) rfl (okWide_bool_mk Tryz.underlying4 _))⟩
theorem over : Rows.clocksDeepRow.holds Tryz.pinned (OpenSpec.ofChange Rows.clocksDeepSpec) :=
  OpenClaim.holds_of_wide 7 Tryz.f7 rfl rfl rfl rfl rfl rfl rfl ⟨rfl, rfl, rfl, rfl, rfl⟩ rfl rfl rfl rfl rfl (by kernel_rfl) Tryz.func7 (by kernel_rfl)
    (of_decide_eq_true (by kernel_rfl)) (by unfold Func.isWrapper; first | (rw [if_pos (by decide +kernel)]; kernel_rfl) | (rw [if_neg (by decide +kernel)]; exact ⟨rfl, rfl⟩))
    (fun os started H enc _ => lifted os started H enc)
theorem proved : Rows.ClocksDeepSaid :=
  over
end Go.Proofs.YtlonlfiaclacdaaGreat.clocksDeep
