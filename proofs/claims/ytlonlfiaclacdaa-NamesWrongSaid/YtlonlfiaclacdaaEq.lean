/-
  maps.Equal of a map and itself (own work): the contract over the translated code, in whatever order the entries come, and its answer for the evaluator.
-/
import Derived.Test.YtlonlfiaclacdaaProg
import Derived.Test.YtlonlfiaclacdaaAb25
import Derived.WalkKit
import Derived.Shelf.SlMaps.Equal
namespace Go.Proofs.YtlonlfiaclacdaaE
open Go.RowKit Go.Maps

theorem law9 : Keyed Try.prog 9 := string_keyed Try.underlying9

theorem frozen_one {w wr : World} {B n cnt : Nat} {H : Type} {D : DataW H} {left : Lit → Bool} {R : Value → Option (DataW H × List MemPlace)} (hg : w.grownBy wr none) (hs : wr.heap.size = w.heap.size + 1)
    (hrg : wr.ranges Try.prog 9 R B w.heap.size n D left cnt) (a : Addr) : wr.frozen? a = w.frozen? a := by
  obtain ⟨es, clock, since, seen, c0, hb, _, _, _, hr, _⟩ := hrg
  by_cases h1 : a.block < w.heap.size
  · simp only [World.frozen?, hg.block a.block h1 (by simp)]
  · have e0 : w.heap[a.block]? = none := by simp; omega
    by_cases h2 : a.block = w.heap.size
    · rw [h2] at e0; simp only [World.frozen?, h2, e0, hr]
    · have e1 : wr.heap[a.block]? = none := by simp; omega
      simp only [World.frozen?, e0, e1]

set_option maxHeartbeats 4000000 in
set_option maxRecDepth 100000 in
theorem same_map {H : Type} (B n : Nat) (D : DataW H) (w : World) (h : w.ownsMap Try.prog 9 (plainElem Try.prog 3) B n D) :
    Calls Try.prog 59 #[.map (some B), .map (some B)] w fun e w' => e = .returned (.bool true) ∧ w.grownBy w' none ∧ ∀ a, w'.frozen? a = w.frozen? a := by
  have hl := fun ty => h.len (t := 57) Try.underlying57 ty
  obtain ⟨es1, rfl, hap, hkeys⟩ := h.entries law9
  have hb := h.lt
  go_enter Try.func59, Try.ntmps59
  go_wp2_with (first
    | (at_range; refine wpList_range_own _ rfl _ 57 rfl 9 3 law9 Try.underlying57 (plainElem Try.prog 3) B n _ rfl h ?_; intro w0 hrg0 hg0 hs0)
    | go_in)
  go_frame
  go_loopw [16] (fun _ wr => ∃ (left : Lit → Bool) (cnt : Nat), wr.ranges Try.prog 9 (plainElem Try.prog 3) B w.heap.size n (.map es1) left cnt ∧ w.grownBy wr none ∧ wr.heap.size = w.heap.size + 1)
    (fun _ wr => wr.rangeLeft B w.heap.size)
  case atStart => exact ⟨_, _, hrg0, hg0, hs0⟩
  case round =>
    obtain ⟨left, cnt, hrg, hgw, hsz⟩ := hrel
    go_wp2_with (first
      | (at_next; refine wpList_next_ranges _ rfl _ rfl 9 law9 (plainElem Try.prog 3) id id (fun key _ _ => ⟨key, rfl⟩) (fun v _ _ => ⟨v, rfl⟩) B w.heap.size n _ _ _ rfl hrg ?_ ?_)
      | go_in)
    · intro _ hl0
      go_wp2
      go_ret
      exact ⟨rfl, hgw, frozen_one hgw hsz hrg⟩
    · intro x c kl yd yp w1 cnt1 hkey hlx hv hat hrg1 hlt hg1 hs1 hen
      have hgw1 : w.grownBy w1 none := hgw.andThen hg1 (fun j hj => by cases hj; exact Or.inl (Nat.le_refl _))
      have hh : Maps.has (DataW.map es1) kl = true := has_true_of_atKey hat
      obtain ⟨a, rfl, hz, hwf⟩ := plainElem_int_inv Try.underlying3 hv
      have hyd : yd = .lit (.int .i64 a) := congrArg Prod.fst hz
      have hown := hrg1.owns
      have hat0 := hat (.lit (.int .i64 0))
      clear hat
      go_wp2_with (first
        | (at_lookup; refine wpList_lookup_own_ok _ rfl _ _ 57 rfl 9 3 law9 Try.underlying57 (plainElem Try.prog 3) (Try.zeroValue3 _) (.lit (.int .i64 0)) [] (plainElem_int Try.underlying3 (by decide)) B n _ rfl hown _ kl rfl hkey ?_; intro v2 ps2 hv2; rw [hh]; (obtain ⟨a2, rfl, hz2, _⟩ := plainElem_int_inv Try.underlying3 hv2); (have ha2 : a2 = a := by (have e := congrArg Prod.fst hz2; rw [hat0, hyd] at e; simpa using e.symm)); subst ha2; go_frame)
        | go_in)
      go_roundw
      case rel => exact ⟨_, cnt1, hrg1, hgw1, by omega⟩
      case measure => rw [hrg1.left_eq, hrg.left_eq]; exact hlt

/-! ### The answer for the evaluator -/
open Go.Ab

def sameStr (n a : Nat) : AV → Bool
  | .str n' a' => Nat.beq n n' && Nat.beq a a'
  | _ => false

/-- Entries whose keys are strings, no two alike, and whose elements are integers. -/
def goodE : List (AV × AV) → Bool
  | [] => true
  | (.str n a, .int .i64 v) :: r => Nat.ble n 1000 && ((Lit.int .i64 v).wf && (r.all (fun p => !(sameStr n a p.1)) && goodE r))
  | _ :: _ => false

def nodupN : List Nat → Bool
  | [] => true
  | b :: r => !(r.contains b) && nodupN r

def goodMap (es : List (AV × AV)) (g : MG) : Bool := Nat.ble es.length 1000 && (goodE es && (g.bs.all (fun b => Nat.blt b g.clk) && nodupN g.bs))

theorem nodup_of : ∀ l, nodupN l = true → l.Nodup
  | [], _ => List.nodup_nil
  | b :: r, h => by
    simp only [nodupN, Bool.and_eq_true, Bool.not_eq_true'] at h
    refine List.nodup_cons.2 ⟨fun hm => ?_, nodup_of r h.2⟩
    have := h.1
    simp at this
    exact this hm

theorem entry_good {m : Inj} : ∀ {es : List (AV × AV)} {l : List MapEntry}, ERel m es l → goodE es = true →
    (l.map (·.key)).Nodup ∧ ∀ x ∈ l, ∃ (s : ByteArray) (v : Int), x.key = .string s ∧ s.size ≤ 1000 ∧ x.val = .int .i64 v ∧ (Lit.int .i64 v).wf = true ∧ ∃ n a y, (AV.str n a, y) ∈ es ∧ s.size = n ∧ encB s.data.toList = a
  | [], [], _, _ => ⟨List.nodup_nil, fun x hx => by cases hx⟩
  | (k, y) :: es, e :: l, ⟨h1, h2, h3⟩, h => by
    unfold goodE at h
    split at h
    · rename_i heq; cases heq
    · rename_i n a v r heq
      cases heq
      simp only [Bool.and_eq_true] at h
      obtain ⟨hn, hw, hall, hr⟩ := h
      obtain ⟨g1, g2⟩ := entry_good h3 hr
      obtain ⟨ek, ev, eb⟩ := e
      cases h1 with
      | str s _ _ hs hc =>
        cases h2
        refine ⟨List.nodup_cons.2 ⟨fun hm => ?_, g1⟩, ?_⟩
        · obtain ⟨x, hx, hkx⟩ := List.mem_map.1 hm
          obtain ⟨s', v', q1, q2, q3, q4, n', a', y', q5, q6, q7⟩ := g2 x hx
          have hkk : x.key = Value.string s := hkx
          rw [q1] at hkk
          cases hkk
          have := List.all_eq_true.1 hall _ q5
          subst q6 q7 hs hc
          simp [sameStr] at this
        · intro x hx
          rcases List.mem_cons.1 hx with rfl | hx
          · exact ⟨s, v, rfl, by have := Nat.le_of_ble_eq_true hn; omega, rfl, hw, n, a, _, List.mem_cons_self .., hs, hc⟩
          · obtain ⟨s', v', q1, q2, q3, q4, n', a', y', q5, q6, q7⟩ := g2 x hx
            exact ⟨s', v', q1, q2, q3, q4, n', a', y', List.mem_cons_of_mem _ q5, q6, q7⟩
    · cases h
  | [], _ :: _, h, _ => h.elim
  | (_, _) :: _, [], h, _ => h.elim

theorem fit_of {H : Type} {m : Inj} {es : List (AV × AV)} {g : MG} {ents : Array MapEntry} {clock : Nat} (he : ERel m es ents.toList) (hg : GRel g ents.toList clock) (h : goodMap es g = true) :
    Go.WideElems.Fit (H := H) Try.prog 9 (plainElem Try.prog 3) ents clock := by
  unfold goodMap at h
  simp only [Bool.and_eq_true] at h
  obtain ⟨hl, hgd, hlt, hnd⟩ := h
  obtain ⟨g1, g2⟩ := entry_good he hgd
  have hsz : ents.size = es.length := by rw [he.length, Array.length_toList]
  refine ⟨by have := Nat.le_of_ble_eq_true hl; rw [hsz]; show es.length ≤ 2 ^ 63 - 1; omega, ⟨fun x hx => ?_, by rw [hg.1]; exact nodup_of _ hnd, g1⟩, fun x hx => ?_⟩
  · have hb : x.born ∈ g.bs := by rw [← hg.1]; exact List.mem_map.2 ⟨x, hx, rfl⟩
    have := List.all_eq_true.1 hlt _ hb
    rw [hg.2]
    simpa [Nat.blt_eq] using this
  · obtain ⟨s, v, q1, q2, q3, q4, _⟩ := g2 x hx
    refine ⟨(.string s.data.toList, .lit (.int .i64 v)), ?_⟩
    unfold Go.WideElems.rd
    rw [q1, q3, Go.WideMaps.keyOf_string_mk Try.underlying9 (by show s.size ≤ 2 ^ 63 - 1; omega), plainElem_int Try.underlying3 q4]
    rfl

def eqSame (args : List AV) : Option (M AV) := match args with
  | [.map r, .map r'] => bif Nat.beq r r' then some (do
      let p ← Go.Ab.look r getMapGO
      bif goodMap p.1 p.2 then pure (.bool true) else failM) else none
  | _ => none

theorem eqSame_ok (args : List AV) (x : M AV) (h : eqSame args = some x) (s : St) (v : AV) (s' : St) (hx : x.run s = .ok v s') (m : Inj) (w : World) (cargs : List Value) (hr : Rel m s.heap.get w) (ha : VRs m args cargs) :
    CallsIn Fence.wide 0 Try.prog 59 cargs.toArray w (Back m w s' v) := by
  unfold eqSame at h
  split at h
  · rename_i r r'
    cases hb : Nat.beq r r' with
    | false => rw [hb] at h; cases h
    | true =>
      rw [hb] at h
      have e := Nat.eq_of_beq_eq_true hb
      subst e
      simp only [cond_true, Option.some.injEq] at h
      subst h
      obtain ⟨p, s1, h1, h2⟩ := bind_ok hx
      obtain ⟨o, g1, g2, g3, g4⟩ := look_ok h1
      cases hgm : goodMap p.1 p.2 with
      | false => rw [hgm] at h2; exact (fail_ok h2).elim
      | true =>
        rw [hgm] at h2
        obtain ⟨rfl, rfl⟩ := pure_ok h2
        cases ha with
        | cons _ cv _ cl hv hl =>
          cases hl with
          | cons _ cv2 _ cl2 hv2 hl2 =>
            cases hl2
            cases hv with
            | map _ B t' e' hmm =>
              cases hv2 with
              | map _ B2 t2 e2 hmm2 =>
                rw [hmm] at hmm2
                cases hmm2
                cases o with
                | row r' => simp [getMapGO] at g2
                | loop L => simp [getMapGO] at g2
                | iter i => simp [getMapGO] at g2
                | map es0 g0 =>
                  simp only [getMapGO, Option.some.injEq] at g2; subst g2
                  obtain ⟨_, ho⟩ := hr.obj _ _ g1
                  obtain ⟨ents, clock, hw', he, hg⟩ := ho B t' e' hmm
                  have hfit := fit_of (H := Unit) he hg hgm
                  have hc := same_map B ents.size _ w ⟨ents, clock, hw', hfit, Nat.le_refl _, rfl⟩
                  refine ((callsIn_wide (n := 0)).2 hc).mono ?_
                  rintro e w' ⟨rfl, hgr, hfz⟩
                  have same : ∀ B, B < w.heap.size → w'.heap[B]? = w.heap[B]? := fun B hB => hgr.block B hB (by simp)
                  refine ⟨m, .bool true, rfl, ⟨Inj.le_refl m, hgr.size, fun b u B t e hb => .inl ⟨b, u, t, e, hb⟩, fun B hB _ => same B hB, hgr.os, hgr.output, hfz⟩, ?_, .bool _⟩
                  rw [g3]
                  exact ⟨fun b o hb => (hr.obj b o hb).mono (Inj.le_refl m) (fun _ => rfl) fun u B t e hm => same B (hr.lt _ _ _ _ _ hm), hr.dom, hr.apart, fun b u B t e hm => Nat.lt_of_lt_of_le (hr.lt _ _ _ _ _ hm) hgr.size⟩
  · cases h

noncomputable def nats : Nats Try.prog := ⟨[((nat_lit 59), eqSame)], fun f g args x hm hg s v s' hx m w cargs hr ha _ => by
  cases hm with
  | head => exact eqSame_ok args x hg s v s' hx m w cargs hr ha
  | tail _ h => cases h⟩
end Go.Proofs.YtlonlfiaclacdaaE
