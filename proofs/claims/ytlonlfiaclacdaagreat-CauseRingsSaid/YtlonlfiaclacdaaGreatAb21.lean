/-
  CODE FOR THE KERNEL (own work): the evaluator's code in continuation style over frames that are functions, and that it is the evaluator's.
-/
import Derived.Test.YtlonlfiaclacdaaGreatAb20
namespace Go.Ab
section
variable (P : Program) (e : Task → St → R AV)

/-- One operation, on its operands' values. -/
noncomputable abbrev kop (op : Op) (vs : List AV) (k : Kv) (s : St) : R AV :=
  match op with
  | .move _ => (match vs with | [x] => k x s | _ => .fail)
  | .assign _ => (match vs with | [x] => k x s | _ => .fail)
  | .pick _ _ _ => (match vs with | [c, a, b] => kPick c a b k s | _ => .fail)
  | .alloc t => (match zeroO P t with | some z => kAlloc z.cells k s | none => .fail)
  | .box _ _ => (match vs with | [x] => x.onCells fun l => kAlloc l k s | _ => .fail)
  | .build t parts => kBuildT P t (zipParts parts.toList vs) k s
  | .buildSlice t len parts => kBuildSlT P t len (zipParts parts.toList vs) k s
  | .load t _ => (match vs with | [a] => kLoad P t a k s | _ => .fail)
  | .store t _ _ => (match vs with | [a, x] => kStoreT P t a x k s | _ => .fail)
  | .nilCheck _ => (match vs with | [x] => kNilCheck x k s | _ => .fail)
  | .binOp b t _ _ _ => (match vs with
    | [x, y] => (match b with
      | .add => (match P.underlying t with
        | some .string => kAddS P t x y k s
        | _ => kAdd P t x y k s)
      | .sub => kSub P t x y k s
      | .mul => kMul P t x y k s
      | .lss => kLss P t x y k s
      | .leq => kLeq P t x y k s
      | .gtr => kGtr P t x y k s
      | .geq => kGeq P t x y k s
      | .eql => kEql P t x y k s
      | .neq => kNeq P t x y k s
      | b => kO (binA P b t x y) k s)
    | _ => .fail)
  | .unOp u _ _ => (match vs with
    | [x] => (match u with
      | .not => kNot x k s
      | u => kO (unA u x) k s)
    | _ => .fail)
  | .convert src dst _ => (match vs with | [x] => kO (convertA P src dst x) k s | _ => .fail)
  | .makeInterface t _ => (match vs with | [x] => kMkIface P t x k s | _ => .fail)
  | .makeFunc fn first _ => (match fn with
    | .yield _ => .fail
    | _ => k (.func fn (lTake first.size vs) (lDrop first.size vs)) s)
  | .makeMap _ none => kNew (.map []) (fun r s => k (.map r) s) s
  | .makeSlice t _ _ => (match vs with | [l, c] => kM (makeSliceA P t l c) k s | _ => .fail)
  | .slice t _ lo hi mx => (match vs with
    | x :: r => (match lo with
      | some _ => (match r with
        | a :: r => (match hi with
          | some _ => (match r with
            | b :: r => (match mx with
              | some _ => (match r with
                | c :: _ => kSliceG P t x (some a) (some b) (some c) k s
                | [] => .fail)
              | none => (match P.underlying t with
                | some .string => kSliceS x (some a) (some b) k s
                | _ => kSliceG P t x (some a) (some b) none k s))
            | [] => .fail)
          | none => (match mx with
            | some _ => (match r with
              | c :: _ => kSliceG P t x (some a) none (some c) k s
              | [] => .fail)
            | none => (match P.underlying t with
              | some .string => kSliceS x (some a) none k s
              | _ => kSliceG P t x (some a) none none k s)))
        | [] => .fail)
      | none => (match hi with
        | some _ => (match r with
          | b :: r => (match mx with
            | some _ => (match r with
              | c :: _ => kSliceG P t x none (some b) (some c) k s
              | [] => .fail)
            | none => (match P.underlying t with
              | some .string => kSliceS x none (some b) k s
              | _ => kSliceG P t x none (some b) none k s))
          | [] => .fail)
        | none => (match mx with
          | some _ => (match r with
            | c :: _ => kSliceG P t x none none (some c) k s
            | [] => .fail)
          | none => kSliceG P t x none none none k s)))
    | [] => .fail)
  | .fieldAddr t _ f => (match vs with | [x] => kFieldAddr P t x f k s | _ => .fail)
  | .field t _ f => (match vs with | [x] => kField P t x f k s | _ => .fail)
  | .indexAddr t _ _ => (match vs with | [x, i] => kIndexAddr P t x i k s | _ => .fail)
  | .index t _ _ => (match vs with | [x, i] => kIndex P t x i k s | _ => .fail)
  | .lookup t _ _ ok => (match vs with | [m, key] => kLookup P t m key ok k s | _ => .fail)
  | .mapUpdate t _ _ _ => (match vs with | [m, key, x] => kMapUpd P t m key x k s | _ => .fail)
  | .typeAssert _ _ asserted ok => (match vs with | [x] => kO (assertA P asserted ok x) k s | _ => .fail)
  | .extract _ ix => (match vs with | [x] => kExt ix x k s | _ => .fail)
  | .call c => kCallOp P e c vs k s
  | _ => .fail

theorem kop_eq (ev : Task → M AV) (op : Op) (vs : List AV) (k : Kv) (s : St) : kop P (fun t => (ev t).run) op vs k s = bindRun (opV P ev op vs).run k s := by
  unfold kop opV
  cases op with
  | move x => rcases vs with _ | ⟨x, _ | ⟨y, r⟩⟩ <;> rfl
  | assign x => rcases vs with _ | ⟨x, _ | ⟨y, r⟩⟩ <;> rfl
  | pick c a b => rcases vs with _ | ⟨x, _ | ⟨y, _ | ⟨z, _ | ⟨u, r⟩⟩⟩⟩ <;> first | rfl | exact (kPick_eq _ _ _ k s).trans (kO_eq _ _ _)
  | alloc t =>
    simp only
    cases zeroO P t with
    | none => rfl
    | some z => exact kAlloc_eq _ k s
  | box t x => rcases vs with _ | ⟨x, _ | ⟨y, r⟩⟩ <;> first | rfl | exact (AV.onCells_eq _ _).trans (kAlloc_eq _ k s)
  | build t parts => exact (kBuildT_eq P _ _ k s).trans (kO_eq _ _ _)
  | buildSlice t len parts => exact kBuildSlT_eq P _ _ _ k s
  | load t a => rcases vs with _ | ⟨x, _ | ⟨y, r⟩⟩ <;> first | rfl | exact kLoad_eq P _ _ k s
  | store t a x => rcases vs with _ | ⟨x, _ | ⟨y, _ | ⟨z, r⟩⟩⟩ <;> first | rfl | exact kStoreT_eq P _ _ _ k s
  | nilCheck x => rcases vs with _ | ⟨x, _ | ⟨y, r⟩⟩ <;> first | rfl | exact (kNilCheck_eq _ k s).trans (kO_eq _ _ _)
  | binOp b t x y t' =>
    rcases vs with _ | ⟨x, _ | ⟨y, _ | ⟨z, r⟩⟩⟩ <;> try rfl
    simp only
    cases b <;> first
      | exact kO_eq _ _ _
      | exact (kSub_eq P t x y k s).trans (kO_eq _ _ _)
      | exact (kMul_eq P t x y k s).trans (kO_eq _ _ _)
      | exact (kLss_eq P t x y k s).trans (kO_eq _ _ _)
      | exact (kLeq_eq P t x y k s).trans (kO_eq _ _ _)
      | exact (kGtr_eq P t x y k s).trans (kO_eq _ _ _)
      | exact (kGeq_eq P t x y k s).trans (kO_eq _ _ _)
      | exact (kEql_eq P t x y k s).trans (kO_eq _ _ _)
      | exact (kNeq_eq P t x y k s).trans (kO_eq _ _ _)
      | (simp only; split <;> first | exact (kAddS_eq P t x y k s).trans (kO_eq _ _ _) | exact (kAdd_eq P t x y k s).trans (kO_eq _ _ _))
  | unOp u t x =>
    rcases vs with _ | ⟨x, _ | ⟨y, r⟩⟩ <;> try rfl
    simp only
    cases u <;> first | exact kO_eq _ _ _ | exact (kNot_eq _ k s).trans (kO_eq _ _ _)
  | convert a b x => rcases vs with _ | ⟨x, _ | ⟨y, r⟩⟩ <;> first | rfl | exact kO_eq _ _ _
  | makeInterface t x => rcases vs with _ | ⟨x, _ | ⟨y, r⟩⟩ <;> first | rfl | exact (kMkIface_eq P _ _ k s).trans (kO_eq _ _ _)
  | makeFunc fn first captured => cases fn <;> first | rfl | (simp only [lTake_eq, lDrop_eq]; rfl)
  | makeMap t r =>
    cases r with
    | none => exact (kNew_eq _ _ s).trans (bindRun_assoc (newRun (.map [])) (fun r => pureRun (AV.map r)) k s).symm
    | some r => rfl
  | makeSlice t l c => rcases vs with _ | ⟨x, _ | ⟨y, _ | ⟨z, r⟩⟩⟩ <;> rfl
  | fieldAddr t x f => rcases vs with _ | ⟨x, _ | ⟨y, r⟩⟩ <;> first | rfl | exact (kFieldAddr_eq P _ _ _ k s).trans (kO_eq _ _ _)
  | field t x f => rcases vs with _ | ⟨x, _ | ⟨y, r⟩⟩ <;> first | rfl | exact (kField_eq P _ _ _ k s).trans (kO_eq _ _ _)
  | indexAddr t x i => rcases vs with _ | ⟨x, _ | ⟨y, _ | ⟨z, r⟩⟩⟩ <;> first | rfl | exact (kIndexAddr_eq P _ _ _ k s).trans (kO_eq _ _ _)
  | index t x i => rcases vs with _ | ⟨x, _ | ⟨y, _ | ⟨z, r⟩⟩⟩ <;> first | rfl | exact (kIndex_eq P _ _ _ k s).trans (kO_eq _ _ _)
  | lookup t m key ok => rcases vs with _ | ⟨x, _ | ⟨y, _ | ⟨z, r⟩⟩⟩ <;> first | rfl | exact kLookup_eq P _ _ _ _ k s
  | mapUpdate t m key x =>
    rcases vs with _ | ⟨m, _ | ⟨key, _ | ⟨x, _ | ⟨u, r⟩⟩⟩⟩ <;> first | rfl | (cases m <;> rfl) | skip
    refine (kMapUpd_eq P t m key x k s).trans ?_
    cases m <;> rfl
  | typeAssert x t a ok => rcases vs with _ | ⟨x, _ | ⟨y, r⟩⟩ <;> first | rfl | exact kO_eq _ _ _
  | extract t ix => rcases vs with _ | ⟨x, _ | ⟨y, r⟩⟩ <;> first | rfl | exact (kExt_eq _ _ k s).trans (kO_eq _ _ _)
  | call c => exact kCallOp_eq P ev c vs k s
  | slice t x lo hi mx =>
    rcases vs with _ | ⟨x, r⟩
    · rfl
    simp only
    have hN : ∀ (v : AV) (X : Option Nat → R AV), optN (some v) X = (match v.nat with | some n => X (some n) | none => .fail) := fun v X => AV.onNat_eq v _ _
    have hS : ∀ lo hi, P.underlying t = some .string → kSliceS x lo hi k s = kSliceG P t x lo hi none k s := fun lo hi h => kSliceS_eq P t h x lo hi k s
    have e3 : ∀ lo hi, (match P.underlying t with | some .string => kSliceS x lo hi k s | _ => kSliceG P t x lo hi none k s) = kSliceG P t x lo hi none k s := by
      intro lo hi
      cases hu : P.underlying t with
      | none => rfl
      | some d => cases d <;> first | rfl | exact hS lo hi hu
    cases lo with
    | some lo =>
      rcases r with _ | ⟨a, r⟩
      · rfl
      cases hi with
      | some hi =>
        rcases r with _ | ⟨b, r⟩
        · simp only [takeOpt]; cases a.nat <;> rfl
        cases mx with
        | some mx =>
          rcases r with _ | ⟨c, r⟩
          · simp only [takeOpt]; cases a.nat <;> first | rfl | (simp only; cases b.nat <;> rfl)
          simp only [kSliceG, hN, takeOpt]
          cases a.nat <;> first | rfl | (simp only; cases b.nat <;> first | rfl | (simp only; cases c.nat <;> first | rfl | exact kO_eq _ _ _))
        | none =>
          simp only [e3]
          simp only [kSliceG, hN, takeOpt]
          cases a.nat <;> first | rfl | (simp only; cases b.nat <;> first | rfl | exact kO_eq _ _ _)
      | none =>
        cases mx with
        | some mx =>
          rcases r with _ | ⟨c, r⟩
          · simp only [takeOpt]; cases a.nat <;> rfl
          simp only [kSliceG, hN, takeOpt]
          cases a.nat <;> first | rfl | (simp only; cases c.nat <;> first | rfl | exact kO_eq _ _ _)
        | none =>
          simp only [e3]
          simp only [kSliceG, hN, takeOpt]
          cases a.nat <;> first | rfl | exact kO_eq _ _ _
    | none =>
      cases hi with
      | some hi =>
        rcases r with _ | ⟨b, r⟩
        · rfl
        cases mx with
        | some mx =>
          rcases r with _ | ⟨c, r⟩
          · simp only [takeOpt]; cases b.nat <;> rfl
          simp only [kSliceG, hN, takeOpt]
          cases b.nat <;> first | rfl | (simp only; cases c.nat <;> first | rfl | exact kO_eq _ _ _)
        | none =>
          simp only [e3]
          simp only [kSliceG, hN, takeOpt]
          cases b.nat <;> first | rfl | exact kO_eq _ _ _
      | none =>
        cases mx with
        | some mx =>
          rcases r with _ | ⟨c, r⟩
          · rfl
          simp only [kSliceG, hN, takeOpt]
          cases c.nat <;> first | rfl | exact kO_eq _ _ _
        | none => exact kO_eq _ _ _
  | _ => rfl

end
end Go.Ab
