/-
  OPERATIONS FOR THE KERNEL, ONE BY ONE (own work).
-/
import Derived.Test.YtlonlfiaclacdaaGreatAb18
namespace Go.Ab
section
variable (P : Program)

noncomputable def kO (o : Option AV) (k : Kv) (s : St) : R AV := onO o .fail fun v => k v s
theorem kO_eq (o : Option AV) (k : Kv) (s : St) : kO o k s = bindRun (ofO o).run k s := by cases o <;> rfl
/-- What has no form of its own. -/
noncomputable def kM (x : M AV) (k : Kv) (s : St) : R AV := bindRun x.run k s

/-! integers -/
theorem wrap64 (c : Nat) (h : Nat.ble c 9223372036854775807 = true) : IntKind.wrap .i64 (Int.ofNat c) = Int.ofNat c := by
  have h' := Nat.le_of_ble_eq_true h
  show (if (true && decide ((c : Int) % (2 ^ 64 : Int) ≥ (2 ^ 63 : Int))) = true then (c : Int) % (2 ^ 64 : Int) - (2 ^ 64 : Int) else (c : Int) % (2 ^ 64 : Int)) = (c : Int)
  have e : (c : Int) % (2 ^ 64 : Int) = c := by omega
  rw [e, if_neg]
  simp
  omega

noncomputable def kAdd (t : TypeId) (x y : AV) (k : Kv) (s : St) : R AV :=
  x.on64 (kO (binA P .add t x y) k s) fun a => y.on64 (kO (binA P .add t x y) k s) fun b => force (Nat.add a b) fun c =>
    ifb (Nat.ble c 9223372036854775807) (k (.int .i64 (.ofNat c)) s) (kO (binA P .add t x y) k s)
theorem kAdd_eq (t : TypeId) (x y : AV) (k : Kv) (s : St) : kAdd P t x y k s = kO (binA P .add t x y) k s := by
  rcases x.on64_cases with ⟨a, rfl⟩ | h
  · rcases y.on64_cases with ⟨b, rfl⟩ | h
    · show (force (a + b) fun c => ifb (Nat.ble c 9223372036854775807) (k (.int .i64 (.ofNat c)) s) _) = _
      rw [force_eq, ifb_eq]
      cases hb : Nat.ble (a + b) 9223372036854775807 with
      | false => rfl
      | true =>
        have : binA P .add t (.int .i64 (.ofNat a)) (.int .i64 (.ofNat b)) = some (.int .i64 (.ofNat (a + b))) := by
          show some (AV.int .i64 (IntKind.wrap .i64 (Int.ofNat (a + b)))) = _
          rw [wrap64 _ hb]
        rw [this]; rfl
    · exact h _ _
  · exact h _ _

noncomputable def kSub (t : TypeId) (x y : AV) (k : Kv) (s : St) : R AV :=
  x.on64 (kO (binA P .sub t x y) k s) fun a => y.on64 (kO (binA P .sub t x y) k s) fun b => ifb (Nat.ble b a) (force (Nat.sub a b) fun c =>
    ifb (Nat.ble c 9223372036854775807) (k (.int .i64 (.ofNat c)) s) (kO (binA P .sub t x y) k s)) (kO (binA P .sub t x y) k s)
theorem kSub_eq (t : TypeId) (x y : AV) (k : Kv) (s : St) : kSub P t x y k s = kO (binA P .sub t x y) k s := by
  rcases x.on64_cases with ⟨a, rfl⟩ | h
  · rcases y.on64_cases with ⟨b, rfl⟩ | h
    · show ifb (Nat.ble b a) (force (a - b) fun c => ifb (Nat.ble c 9223372036854775807) (k (.int .i64 (.ofNat c)) s) _) _ = _
      rw [force_eq, ifb_eq, ifb_eq]
      cases ha : Nat.ble b a with
      | false => rfl
      | true =>
        cases hb : Nat.ble (a - b) 9223372036854775807 with
        | false => rfl
        | true =>
          have : binA P .sub t (.int .i64 (.ofNat a)) (.int .i64 (.ofNat b)) = some (.int .i64 (.ofNat (a - b))) := by
            show some (AV.int .i64 (IntKind.wrap .i64 (Int.ofNat a - Int.ofNat b))) = _
            have e : Int.ofNat a - Int.ofNat b = Int.ofNat (a - b) := by
              have := Nat.le_of_ble_eq_true ha
              show (a : Int) - (b : Int) = ((a - b : Nat) : Int)
              omega
            rw [e, wrap64 _ hb]
          rw [this]; rfl
    · exact h _ _
  · exact h _ _

noncomputable def kMul (t : TypeId) (x y : AV) (k : Kv) (s : St) : R AV :=
  x.on64 (kO (binA P .mul t x y) k s) fun a => y.on64 (kO (binA P .mul t x y) k s) fun b => force (Nat.mul a b) fun c =>
    ifb (Nat.ble c 9223372036854775807) (k (.int .i64 (.ofNat c)) s) (kO (binA P .mul t x y) k s)
theorem kMul_eq (t : TypeId) (x y : AV) (k : Kv) (s : St) : kMul P t x y k s = kO (binA P .mul t x y) k s := by
  rcases x.on64_cases with ⟨a, rfl⟩ | h
  · rcases y.on64_cases with ⟨b, rfl⟩ | h
    · show (force (a * b) fun c => ifb (Nat.ble c 9223372036854775807) (k (.int .i64 (.ofNat c)) s) _) = _
      rw [force_eq, ifb_eq]
      cases hb : Nat.ble (a * b) 9223372036854775807 with
      | false => rfl
      | true =>
        have : binA P .mul t (.int .i64 (.ofNat a)) (.int .i64 (.ofNat b)) = some (.int .i64 (.ofNat (a * b))) := by
          show some (AV.int .i64 (IntKind.wrap .i64 (Int.ofNat (a * b)))) = _
          rw [wrap64 _ hb]
        rw [this]; rfl
    · exact h _ _
  · exact h _ _

theorem dec_lt (a b : Nat) : decide (Int.ofNat a < Int.ofNat b) = Nat.ble (Nat.succ a) b := by
  rw [Bool.eq_iff_iff, decide_eq_true_iff, Nat.ble_eq]
  show (a : Int) < (b : Int) ↔ _
  omega
theorem dec_le (a b : Nat) : decide (Int.ofNat a ≤ Int.ofNat b) = Nat.ble a b := by
  rw [Bool.eq_iff_iff, decide_eq_true_iff, Nat.ble_eq]
  show (a : Int) ≤ (b : Int) ↔ _
  omega
theorem dec_eq (a b : Nat) : (Int.ofNat a == Int.ofNat b) = Nat.beq a b := by
  rw [Bool.eq_iff_iff, beq_iff_eq, Nat.beq_eq]
  show (a : Int) = (b : Int) ↔ _
  omega

theorem binA_cmp (op : BinOp) (t : TypeId) (kd : IntKind) (a b : Nat) (r : Bool) (h : cmpInt op (Int.ofNat a) (Int.ofNat b) = some r) :
    binA P op t (.int kd (.ofNat a)) (.int kd (.ofNat b)) = some (.bool r) := by
  cases op <;> first | (simp [cmpInt] at h; done) | simp only [binA, if_true, intOp, h]

noncomputable def kCmp (op : BinOp) (t : TypeId) (f : Nat → Nat → Bool) (x y : AV) (k : Kv) (s : St) : R AV :=
  x.onNN y (kO (binA P op t x y) k s) fun a b => k (.bool (f a b)) s
theorem kCmp_eq (op : BinOp) (t : TypeId) (f : Nat → Nat → Bool) (hf : ∀ a b, cmpInt op (Int.ofNat a) (Int.ofNat b) = some (f a b)) (x y : AV) (k : Kv) (s : St) :
    kCmp P op t f x y k s = kO (binA P op t x y) k s := by
  rcases x.onNN_cases y with ⟨kd, a, b, rfl, rfl, h⟩ | h
  · exact (h _ _).trans (by rw [binA_cmp P op t kd a b _ (hf a b)]; rfl)
  · exact h _ _

noncomputable def kLss (t : TypeId) (x y : AV) (k : Kv) (s : St) : R AV := x.onNN y (kO (binA P .lss t x y) k s) fun a b => k (.bool (Nat.ble (Nat.succ a) b)) s
noncomputable def kLeq (t : TypeId) (x y : AV) (k : Kv) (s : St) : R AV := x.onNN y (kO (binA P .leq t x y) k s) fun a b => k (.bool (Nat.ble a b)) s
noncomputable def kGtr (t : TypeId) (x y : AV) (k : Kv) (s : St) : R AV := x.onNN y (kO (binA P .gtr t x y) k s) fun a b => k (.bool (Nat.ble (Nat.succ b) a)) s
noncomputable def kGeq (t : TypeId) (x y : AV) (k : Kv) (s : St) : R AV := x.onNN y (kO (binA P .geq t x y) k s) fun a b => k (.bool (Nat.ble b a)) s
theorem kLss_eq (t : TypeId) (x y : AV) (k : Kv) (s : St) : kLss P t x y k s = kO (binA P .lss t x y) k s :=
  kCmp_eq P .lss t (fun a b => Nat.ble (Nat.succ a) b) (fun a b => congrArg some (dec_lt a b)) x y k s
theorem kLeq_eq (t : TypeId) (x y : AV) (k : Kv) (s : St) : kLeq P t x y k s = kO (binA P .leq t x y) k s :=
  kCmp_eq P .leq t (fun a b => Nat.ble a b) (fun a b => congrArg some (dec_le a b)) x y k s
theorem kGtr_eq (t : TypeId) (x y : AV) (k : Kv) (s : St) : kGtr P t x y k s = kO (binA P .gtr t x y) k s :=
  kCmp_eq P .gtr t (fun a b => Nat.ble (Nat.succ b) a) (fun a b => congrArg some (dec_lt b a)) x y k s
theorem kGeq_eq (t : TypeId) (x y : AV) (k : Kv) (s : St) : kGeq P t x y k s = kO (binA P .geq t x y) k s :=
  kCmp_eq P .geq t (fun a b => Nat.ble b a) (fun a b => congrArg some (dec_le b a)) x y k s

/-! equality -/
noncomputable def kEql (t : TypeId) (x y : AV) (k : Kv) (s : St) : R AV :=
  x.onStr (x.onNN y (kO (binA P .eql t x y) k s) fun a b => k (.bool (Nat.beq a b)) s) fun n a => y.onStr (kO (binA P .eql t x y) k s) fun m b =>
    k (.bool (ifb (Nat.beq n m) (Nat.beq a b) false)) s
noncomputable def kNeq (t : TypeId) (x y : AV) (k : Kv) (s : St) : R AV :=
  x.onStr (x.onNN y (kO (binA P .neq t x y) k s) fun a b => k (.bool (ifb (Nat.beq a b) false true)) s) fun n a => y.onStr (kO (binA P .neq t x y) k s) fun m b =>
    k (.bool (ifb (ifb (Nat.beq n m) (Nat.beq a b) false) false true)) s

theorem ifb_and (a b : Bool) : ifb a b false = (a && b) := by cases a <;> rfl
theorem ifb_not (a : Bool) : ifb a false true = !a := by cases a <;> rfl

theorem AV.onStr_cases (x : AV) : (∃ n a, x = .str n a) ∨ ∀ (d : R AV) k, x.onStr d k = d := by
  cases x with
  | str n a => exact .inl ⟨n, a, rfl⟩
  | _ => exact .inr fun _ _ => rfl

theorem kEql_eq (t : TypeId) (x y : AV) (k : Kv) (s : St) : kEql P t x y k s = kO (binA P .eql t x y) k s := by
  rcases x.onStr_cases with ⟨n, a, rfl⟩ | h
  · rcases y.onStr_cases with ⟨m, b, rfl⟩ | h
    · show k (.bool (ifb (Nat.beq n m) (Nat.beq a b) false)) s = k (.bool (Nat.beq n m && Nat.beq a b)) s
      rw [ifb_and]
    · exact h _ _
  · exact (h _ _).trans (kCmp_eq P .eql t (fun a b => Nat.beq a b) (fun a b => congrArg some (dec_eq a b)) x y k s)
theorem kNeq_eq (t : TypeId) (x y : AV) (k : Kv) (s : St) : kNeq P t x y k s = kO (binA P .neq t x y) k s := by
  rcases x.onStr_cases with ⟨n, a, rfl⟩ | h
  · rcases y.onStr_cases with ⟨m, b, rfl⟩ | h
    · show k (.bool (ifb (ifb (Nat.beq n m) (Nat.beq a b) false) false true)) s = k (.bool !(Nat.beq n m && Nat.beq a b)) s
      rw [ifb_and, ifb_not]
    · exact h _ _
  · refine (h _ _).trans (kCmp_eq P .neq t (fun a b => ifb (Nat.beq a b) false true) (fun a b => ?_) x y k s)
    rw [ifb_not, ← dec_eq]; rfl

/-! strings -/
noncomputable def kAddS (t : TypeId) (x y : AV) (k : Kv) (s : St) : R AV :=
  x.onStr (kO (binA P .add t x y) k s) fun n a => y.onStr (kO (binA P .add t x y) k s) fun m b => force (Nat.add n m) fun l =>
    ifb (Nat.ble l 140737488355328) (force (Nat.add a (Nat.shiftLeft b (Nat.mul 8 n))) fun c => k (.str l c) s) .fail
theorem kAddS_eq (t : TypeId) (x y : AV) (k : Kv) (s : St) : kAddS P t x y k s = kO (binA P .add t x y) k s := by
  rcases x.onStr_cases with ⟨n, a, rfl⟩ | h
  · rcases y.onStr_cases with ⟨m, b, rfl⟩ | h
    · show (force (n + m) fun l => ifb (Nat.ble l 140737488355328) (force (a + b <<< (8 * n)) fun c => k (.str l c) s) .fail) =
        kO (bif Nat.ble (n + m) 140737488355328 then some (.str (n + m) (a + b <<< (8 * n))) else none) k s
      rw [force_eq, force_eq, ifb_eq]
      cases Nat.ble (n + m) 140737488355328 <;> rfl
    · exact h _ _
  · exact h _ _

noncomputable def kIdxS (x i : AV) (k : Kv) (s : St) : R AV :=
  i.onNat .fail fun i => x.onStr .fail fun len code => ifb (Nat.ble (Nat.succ i) len) (force (Nat.mod (Nat.shiftRight code (Nat.mul 8 i)) 256) fun c => k (.int .u8 (.ofNat c)) s) .fail
theorem kIdxS_eq (t : TypeId) (ht : P.underlying t = some .string) (x i : AV) (k : Kv) (s : St) : kIdxS x i k s = kO (indexA P t x i) k s := by
  unfold kIdxS indexA
  rw [AV.onNat_eq, ht]
  cases i.nat with
  | none => rfl
  | some i =>
    rcases x.onStr_cases with ⟨n, a, rfl⟩ | h
    · show ifb (Nat.blt i n) (force _ _) _ = kO (bif Nat.blt i n then _ else none) k s
      rw [force_eq, ifb_eq]
      cases Nat.blt i n <;> rfl
    · refine (h _ _).trans ?_
      cases x with
      | str n a => have := h (.ok undefA st0) (fun _ _ => .fail); simp [AV.onStr] at this
      | _ => rfl

noncomputable def optN (o : Option AV) (k : Option Nat → R AV) : R AV := onO o (k none) fun v => v.onNat .fail fun n => k (some n)

noncomputable def kSliceS (x : AV) (lo hi : Option AV) (k : Kv) (s : St) : R AV :=
  optN lo fun lo => optN hi fun hi => x.onStr .fail fun len code => onO (some (onO hi len id)) .fail fun h => onO (some (onO lo 0 id)) .fail fun l =>
    ifb (Nat.ble h len) (ifb (Nat.ble l h) (force (Nat.sub h l) fun n => force (Nat.mod (Nat.shiftRight code (Nat.mul 8 l)) (Nat.shiftLeft 1 (Nat.mul 8 n))) fun c => k (.str n c) s) .fail) .fail

noncomputable def kSliceG (t : TypeId) (x : AV) (lo hi mx : Option AV) (k : Kv) (s : St) : R AV :=
  optN lo fun lo => optN hi fun hi => optN mx fun mx => kO (sliceA P t x lo hi mx) k s

theorem kSliceS_eq (t : TypeId) (ht : P.underlying t = some .string) (x : AV) (lo hi : Option AV) (k : Kv) (s : St) :
    kSliceS x lo hi k s = kSliceG P t x lo hi none k s := by
  unfold kSliceS kSliceG
  congr 1; funext lo
  congr 1; funext hi
  show _ = kO (sliceA P t x lo hi none) k s
  unfold sliceA
  rw [ht]
  rcases x.onStr_cases with ⟨n, a, rfl⟩ | h
  · show ifb (Nat.ble (onO hi n id) n) (ifb (Nat.ble (onO lo 0 id) (onO hi n id)) (force _ fun n => force _ fun c => k (.str n c) s) .fail) .fail =
      kO (bif Nat.ble (hi.getD n) n && Nat.ble (lo.getD 0) (hi.getD n) then some (.str (hi.getD n - lo.getD 0) ((a >>> (8 * lo.getD 0)) % 1 <<< (8 * (hi.getD n - lo.getD 0)))) else none) k s
    have e1 : onO hi n id = hi.getD n := by cases hi <;> rfl
    have e2 : onO lo 0 id = lo.getD 0 := by cases lo <;> rfl
    rw [force_eq, force_eq, ifb_eq, ifb_eq, e1, e2]
    cases Nat.ble (hi.getD n) n <;> cases Nat.ble (lo.getD 0) (hi.getD n) <;> rfl
  · rw [h]
    cases x with
    | str n a => have := h (.ok undefA st0) (fun _ _ => .fail); simp [AV.onStr] at this
    | _ => rfl

noncomputable def kLenS (x : AV) (k : Kv) (s : St) : R AV := x.onStr .fail fun n _ => k (.int .i64 (.ofNat n)) s
noncomputable def kLenL (x : AV) (k : Kv) (s : St) : R AV := x.onSl .fail (k (.int .i64 (.ofNat 0)) s) fun _ _ _ n _ => k (.int .i64 (.ofNat n)) s
noncomputable def kLenM (x : AV) (k : Kv) (s : St) : R AV := x.onMap .fail (k (.int .i64 (.ofNat 0)) s) fun r => kLook r (fun o s => o.onMap .fail fun es => k (.int .i64 (.ofNat (lLen es))) s) s

noncomputable abbrev kLen (t : TypeId) (x : AV) (k : Kv) (s : St) : R AV := match P.underlying t with
  | some .string => kLenS x k s
  | some (.slice _) => kLenL x k s
  | some (.map _ _) => kLenM x k s
  | _ => .fail
theorem bindRun_assoc {α β γ : Type} (x : St → R α) (f : α → St → R β) (g : β → St → R γ) (s : St) : bindRun (bindRun x f) g s = bindRun x (fun a => bindRun (f a) g) s := by
  unfold bindRun; cases x s <;> rfl
theorem bindRun_pure {α β : Type} (a : α) (g : α → St → R β) (s : St) : bindRun (pureRun a) g s = g a s := rfl

theorem kLen_eq (t : TypeId) (x : AV) (k : Kv) (s : St) : kLen P t x k s = bindRun (lenA P t x).run k s := by
  unfold kLen lenA
  cases P.underlying t with
  | none => rfl
  | some d =>
    cases d with
    | string => cases x <;> rfl
    | slice e => cases x <;> rfl
    | map a b =>
      cases x with
      | map r =>
        show kLook r (fun o s => o.onMap .fail fun es => k (.int .i64 (.ofNat (lLen es))) s) s = bindRun (bindRun (lookRun r getMapO) fun es => pureRun (AV.int .i64 (Int.ofNat es.length))) k s
        rw [bindRun_assoc, ← kLook_eq]
        congr 1; funext o s'
        cases o with
        | map es => show k (.int .i64 (.ofNat (lLen es))) s' = _; rw [lLen_eq]; rfl
        | _ => rfl
      | _ => rfl
    | _ => rfl

/-! memory -/
theorem AV.onPtr_cases (x : AV) : (∃ b v o, x = .ptr b v o) ∨ ((∀ (d : R AV) k, x.onPtr d k = d) ∧ ∀ b v o, x ≠ .ptr b v o) := by
  cases x with
  | ptr b v o => exact .inl ⟨b, v, o, rfl⟩
  | _ => exact .inr ⟨fun _ _ => rfl, fun _ _ _ h => by cases h⟩

noncomputable def kLoad1 (x : AV) (k : Kv) (s : St) : R AV := x.onPtr .fail fun b v o => kReadOne b v o k s
noncomputable def kLoadN (n : Nat) (x : AV) (k : Kv) (s : St) : R AV := x.onPtr .fail fun b v o => kRead b v o n (fun l s => k (.agg l) s) s
noncomputable abbrev kLoad (t : TypeId) (x : AV) (k : Kv) (s : St) : R AV := match isAggO P t with
  | some true => (match szOf P t with
    | some n => kLoadN n x k s
    | none => .fail)
  | some false => kLoad1 x k s
  | none => .fail
theorem kLoad_eq (t : TypeId) (x : AV) (k : Kv) (s : St) : kLoad P t x k s = bindRun (loadA P t x).run k s := by
  unfold kLoad
  rcases x.onPtr_cases with ⟨b, v, o, rfl⟩ | ⟨h, hn⟩
  · unfold loadA
    cases isAggO P t with
    | none => rfl
    | some a =>
      cases a with
      | false => exact kReadOne_eq b v o k s
      | true =>
        cases szOf P t with
        | none => rfl
        | some n => exact (kRead_eq b v o n _ s).trans (bindRun_assoc (readCells b v o n).run (fun l => pureRun (AV.agg l)) k s).symm
  · have e : loadA P t x = failM := by cases x <;> first | rfl | exact absurd rfl (hn _ _ _)
    rw [e]
    cases isAggO P t with
    | none => rfl
    | some a =>
      cases a with
      | false => exact h _ _
      | true => cases szOf P t <;> first | rfl | exact h _ _

noncomputable def kStore (n : Nat) (x y : AV) (k : Kv) (s : St) : R AV :=
  x.onPtr .fail fun b v o => y.onCells fun l => ifb (Nat.beq (lLen l) n) (kWrite b v o l (k undefA) s) .fail
noncomputable abbrev kStoreT (t : TypeId) (x y : AV) (k : Kv) (s : St) : R AV := match szOf P t with
  | some n => kStore n x y k s
  | none => .fail
theorem kStoreT_eq (t : TypeId) (x y : AV) (k : Kv) (s : St) : kStoreT P t x y k s = bindRun (storeA P t x y).run k s := by
  unfold kStoreT
  rcases x.onPtr_cases with ⟨b, v, o, rfl⟩ | ⟨h, hn⟩
  · unfold storeA
    cases szOf P t with
    | none => rfl
    | some n =>
      show (y.onCells fun l => ifb (Nat.beq (lLen l) n) (kWrite b v o l (k undefA) s) .fail) = bindRun (M.run (bif Nat.beq y.cells.length n then _ else failM)) k s
      rw [AV.onCells_eq, lLen_eq, ifb_eq]
      cases Nat.beq y.cells.length n with
      | false => rfl
      | true => exact (kWrite_eq b v o _ _ s).trans (bindRun_assoc (writeCells b v o y.cells).run (fun _ => pureRun undefA) k s).symm
  · have e : storeA P t x y = failM := by cases x <;> first | rfl | exact absurd rfl (hn _ _ _)
    rw [e]
    cases szOf P t with
    | none => rfl
    | some n => exact h _ _

noncomputable def kRowOf (cells : List AV) : Obj := .row ⟨lLen cells, lFill cells 0 .nil, 0, 1, 18446744073709551616, 0⟩
theorem kRowOf_eq (cells : List AV) : kRowOf cells = mkRow cells := by unfold kRowOf mkRow; rw [lLen_eq, lFill_eq]; rfl
noncomputable def kAlloc (cells : List AV) (k : Kv) (s : St) : R AV := kNew (kRowOf cells) (fun b s => k (.ptr b 0 0) s) s
theorem kAlloc_eq (cells : List AV) (k : Kv) (s : St) : kAlloc cells k s = bindRun (bindRun (newRow cells).run fun b => pureRun (AV.ptr b 0 0)) k s := by
  unfold kAlloc
  rw [kNew_eq, kRowOf_eq, bindRun_assoc]; rfl

/-! building -/
noncomputable def lFillP (parts : List (Option (Nat × Nat) × AV)) : List AV → (List AV → R AV) → R AV :=
  @List.rec (Option (Nat × Nat) × AV) (fun _ => List AV → (List AV → R AV) → R AV) (fun l k => k l)
    (fun p _ ih l k => @Prod.rec (Option (Nat × Nat)) AV (fun _ => R AV) (fun pl v => onO pl .fail fun os => @Prod.rec Nat Nat (fun _ => R AV) (fun off size => v.onCells fun xs =>
      ifb (Nat.beq (lLen xs) size) (ifb (Nat.ble (Nat.add off (lLen xs)) (lLen l)) (ih (lApp (lApp (lTake off l) xs) (lDrop (Nat.add off (lLen xs)) l)) k) .fail) .fail) os) p) parts

abbrev placed (place : Nat → Option (Nat × Nat)) : List (Nat × AV) → List (Option (Nat × Nat) × AV)
  | [] => []
  | (i, v) :: r => (place i, v) :: placed place r

theorem lFillP_eq (place : Nat → Option (Nat × Nat)) : ∀ (parts : List (Nat × AV)) (l : List AV) (k : List AV → R AV), lFillP (placed place parts) l k = onO (fillA place l parts) .fail k
  | [], l, k => rfl
  | (i, v) :: r, l, k => by
    show (onO (place i) .fail fun os => @Prod.rec Nat Nat (fun _ => R AV) (fun off size => v.onCells fun xs => ifb (Nat.beq (lLen xs) size) (ifb (Nat.ble (Nat.add off (lLen xs)) (lLen l))
      (lFillP (placed place r) (lApp (lApp (lTake off l) xs) (lDrop (Nat.add off (lLen xs)) l)) k) .fail) .fail) os) = _
    unfold fillA
    cases place i with
    | none => rfl
    | some os =>
      obtain ⟨off, size⟩ := os
      have e : ∀ Y : R AV, (v.onCells fun xs => ifb (Nat.beq (lLen xs) size) (ifb (Nat.ble (Nat.add off (lLen xs)) (lLen l)) (lFillP (placed place r) (lApp (lApp (lTake off l) xs) (lDrop (Nat.add off (lLen xs)) l)) k) .fail) .fail) = Y →
        (onO (some (off, size)) (R.fail : R AV) fun os => @Prod.rec Nat Nat (fun _ => R AV) (fun off size => v.onCells fun xs => ifb (Nat.beq (lLen xs) size) (ifb (Nat.ble (Nat.add off (lLen xs)) (lLen l)) (lFillP (placed place r) (lApp (lApp (lTake off l) xs) (lDrop (Nat.add off (lLen xs)) l)) k) .fail) .fail) os) = Y := fun _ h => h
      refine e _ ?_
      rw [AV.onCells_eq]
      simp only [lFillP_eq place r, lLen_eq, lApp_eq, lTake_eq, lDrop_eq, ifb_eq]
      show _ = onO (bif Nat.beq v.cells.length size && Nat.ble (off + v.cells.length) l.length then fillA place (setRange l off v.cells) r else none) .fail k
      cases Nat.beq v.cells.length size <;> cases Nat.ble (off + v.cells.length) l.length <;> rfl

noncomputable def kBuild (base : List AV) (parts : List (Option (Nat × Nat) × AV)) (k : Kv) (s : St) : R AV := lFillP parts base fun l => k (.agg l) s
noncomputable abbrev kBuildT (t : TypeId) (parts : List (Nat × AV)) (k : Kv) (s : St) : R AV := match zeroO P t with
  | some z => (match P.underlying t with
    | some (.struct fields) => (match allSized P fields.toList with
      | true => kBuild z.cells (placed (fieldPlaceA P fields) parts) k s
      | false => .fail)
    | _ => kO (buildA P t parts) k s)
  | none => .fail
theorem kBuildT_eq (t : TypeId) (parts : List (Nat × AV)) (k : Kv) (s : St) : kBuildT P t parts k s = kO (buildA P t parts) k s := by
  unfold kBuildT
  cases hz : zeroO P t with
  | none => unfold buildA; rw [hz]; rfl
  | some z =>
    cases hu : P.underlying t with
    | none => rfl
    | some d =>
      cases d with
      | struct fields =>
        unfold buildA
        rw [hz, hu]
        show (match allSized P fields.toList with | true => _ | false => _) = kO (bif allSized P fields.toList then _ else none) k s
        cases allSized P fields.toList with
        | false => rfl
        | true =>
          show lFillP _ z.cells _ = _
          rw [lFillP_eq]
          show _ = kO (match fillA (fieldPlaceA P fields) z.cells parts with | some l => some (.agg l) | none => none) k s
          cases fillA (fieldPlaceA P fields) z.cells parts <;> rfl
      | _ => rfl

noncomputable def kBuildSl (base : List AV) (len : Nat) (parts : List (Option (Nat × Nat) × AV)) (k : Kv) (s : St) : R AV :=
  lFillP parts base fun l => kNew (kRowOf l) (fun b s => k (.slice b 0 0 len (some len)) s) s
noncomputable abbrev kBuildSlT (t : TypeId) (len : Nat) (parts : List (Nat × AV)) (k : Kv) (s : St) : R AV := match sliceElem P t with
  | some e => (match szOf P e with
    | some size => (match Nat.ble (len * size) 16777216 with
      | true => (match (bif Nat.beq (len * size) 0 then some [] else zeroCells P e size) with
        | some z => kBuildSl (genCells (len * size) z) len (placed (fun i => some (i * size, size)) parts) k s
        | none => .fail)
      | false => .fail)
    | none => .fail)
  | none => .fail
theorem kBuildSlT_eq (t : TypeId) (len : Nat) (parts : List (Nat × AV)) (k : Kv) (s : St) : kBuildSlT P t len parts k s = bindRun (buildSliceA P t len parts).run k s := by
  unfold kBuildSlT buildSliceA
  cases sliceElem P t with
  | none => rfl
  | some e =>
    simp only
    cases szOf P e with
    | none => rfl
    | some size =>
      simp only
      cases Nat.ble (len * size) 16777216 with
      | false => rfl
      | true =>
        simp only [cond_true]
        cases (bif Nat.beq (len * size) 0 then some [] else zeroCells P e size) with
        | none => rfl
        | some z =>
          simp only
          show lFillP _ _ _ = _
          rw [lFillP_eq]
          cases fillA (fun i => some (i * size, size)) (genCells (len * size) z) parts with
          | none => rfl
          | some l =>
            show kNew (kRowOf l) (fun b s => k (.slice b 0 0 len (some len)) s) s = bindRun (bindRun (newRow l).run fun b => pureRun (AV.slice b 0 0 len (some len))) k s
            rw [kNew_eq, kRowOf_eq, bindRun_assoc]; rfl

end
end Go.Ab
