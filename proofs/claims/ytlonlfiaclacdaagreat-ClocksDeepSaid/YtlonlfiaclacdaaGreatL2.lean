/- Part of the proof of ClocksDeep (own work). -/
import Derived.Test.YtlonlfiaclacdaaGreatE2
import Derived.Test.YtlonlfiaclacdaaGreatF2
import Derived.Test.YtlonlfiaclacdaaGreatL1
set_option linter.all false
set_option maxRecDepth 100000
namespace Go.Vi
open Go Go.RowKit Go.Proofs
def intPs (l : List Int) : List PV := l.map (.int .i64)
theorem bit_in (i : Int) (h : 0 ≤ i) (w : World) : Calls Tryz.prog 153 #[.int .i64 0, .int .i64 i] w fun en w' => en = .returned (.int .i64 0) ∧ w' = w := by
  go_enter Tryz.func153, Tryz.ntmps153
  go_wp2
  go_ret
  exact ⟨rfl, rfl⟩
theorem bit_pc (i : Int) (h : 0 ≤ i) : PC Tryz.prog 153 [.int .i64 0, .int .i64 i] [] (.int .i64 0) [] := by
  intro K w Bs cargs hK hC hnd hA
  cases hC
  cases hA with
  | cons _ v _ l1 h1 h2 =>
  cases h2 with
  | cons _ v2 _ l2 h3 h4 =>
  cases h4
  cases h1 with
  | data _ _ h1 =>
  cases h3 with
  | data _ _ h3 =>
  rw [dr_int h1, dr_int h3]
  refine (callsIn_wide.2 (bit_in i h w)).mono ?_
  rintro e w' ⟨rfl, rfl⟩
  exact ⟨K, _, rfl, ⟨Kle.refl K, hK, fun B ks hk _ => hk, .nil, Nat.le_refl _, fun _ _ _ => rfl, rfl, rfl, fun _ _ => rfl, .one _ _ (.data _ _ (.int _ _))⟩⟩
def orcB (f : FuncId) (vs : List PV) : Option PV := bif Nat.beq f 153 then (match vs with
  | [.int .i64 (.ofNat 0), .int .i64 (.ofNat _)] => some (.int .i64 0)
  | _ => none) else none
theorem orcB_ok : OrcOk Tryz.prog orcB := by
  intro f vs v h
  unfold orcB at h
  cases hf : Nat.beq f 153 with
  | false => rw [hf] at h; cases h
  | true =>
    rw [hf] at h
    simp only [cond_true] at h
    split at h
    · cases h
      rw [Nat.eq_of_beq_eq_true hf]
      exact ⟨bit_pc _ (Int.natCast_nonneg _), rfl, fun _ => rfl⟩
    · cases h
def mlB (f : FuncId) : Nat := bif Nat.beq f 126 then 2 else 0
noncomputable def evalT (P : Program) (n : Nat) (f : FuncId) (l : List Int) : Option (List PV) := numsE P mlB orcB 70 n f (intPs l)
theorem pc_of_eval {n : Nat} {f : FuncId} {l : List Int} {r : List PV} (h : evalT Tryz.prog n f l = some r) (hb : back0 (.tuple r) = some (.tuple r) := by rfl) : PC Tryz.prog f (intPs l) [] (.tuple r) [] :=
  pc_of_sw (numsE_sw orcB_ok h) fun r' _ hr => by rw [hr]; exact hb
end Go.Vi
