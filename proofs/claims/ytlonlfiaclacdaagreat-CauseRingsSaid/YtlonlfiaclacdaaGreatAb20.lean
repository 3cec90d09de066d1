/-
  OPERATIONS FOR THE KERNEL, ONE BY ONE, THE REST (own work).
-/
import Derived.Test.YtlonlfiaclacdaaGreatAb19
namespace Go.Ab
section
variable (P : Program)

noncomputable def kPick (c x y : AV) (k : Kv) (s : St) : R AV := c.onBool .fail fun b => ifb b (k x s) (k y s)
theorem kPick_eq (c x y : AV) (k : Kv) (s : St) : kPick c x y k s = kO (pickA c x y) k s := by
  cases c with
  | bool b => cases b <;> rfl
  | _ => rfl

noncomputable def kNilCheck (x : AV) (k : Kv) (s : St) : R AV := x.onPtr (kO (nilCheckA x) k s) fun _ _ _ => k x s
theorem kNilCheck_eq (x : AV) (k : Kv) (s : St) : kNilCheck x k s = kO (nilCheckA x) k s := by cases x <;> rfl

noncomputable def kNot (x : AV) (k : Kv) (s : St) : R AV := x.onBool .fail fun b => k (.bool (ifb b false true)) s
theorem kNot_eq (x : AV) (k : Kv) (s : St) : kNot x k s = kO (unA .not x) k s := by
  cases x with
  | bool b => cases b <;> rfl
  | _ => rfl

noncomputable def kFA (off : Nat) (x : AV) (k : Kv) (s : St) : R AV := x.onPtr .fail fun b v o => force (Nat.add o off) fun o => k (.ptr b v o) s
noncomputable abbrev kFieldAddr (t : TypeId) (x : AV) (f : Nat) (k : Kv) (s : St) : R AV := match fieldO P t f with
  | some fd => (match szOf P fd.type with
    | some (_ + 1) => kFA fd.offset x k s
    | _ => .fail)
  | none => .fail
theorem kFieldAddr_eq (t : TypeId) (x : AV) (f : Nat) (k : Kv) (s : St) : kFieldAddr P t x f k s = kO (fieldAddrA P t x f) k s := by
  unfold kFieldAddr fieldAddrA
  cases fieldO P t f with
  | none => rfl
  | some fd =>
    simp only
    cases szOf P fd.type with
    | none => rfl
    | some n =>
      cases n with
      | zero => rfl
      | succ n =>
        cases x with
        | ptr b v o => show (force (o + fd.offset) fun o => k (.ptr b v o) s) = _; rw [force_eq]; rfl
        | _ => rfl

noncomputable def kPart1 (off : Nat) (x : AV) (k : Kv) (s : St) : R AV := x.onAgg .fail fun l => lNth l .fail (fun v => k v s) off
noncomputable def kPartN (off n : Nat) (x : AV) (k : Kv) (s : St) : R AV := x.onAgg .fail fun l => k (.agg (lTake n (lDrop off l))) s
noncomputable abbrev kField (t : TypeId) (x : AV) (f : Nat) (k : Kv) (s : St) : R AV := match fieldO P t f with
  | some fd => (match isAggO P fd.type with
    | some true => (match szOf P fd.type with
      | some n => kPartN fd.offset n x k s
      | none => .fail)
    | some false => kPart1 fd.offset x k s
    | none => .fail)
  | none => .fail
theorem kField_eq (t : TypeId) (x : AV) (f : Nat) (k : Kv) (s : St) : kField P t x f k s = kO (fieldA P t x f) k s := by
  unfold kField fieldA
  cases fieldO P t f with
  | none => rfl
  | some fd =>
    simp only
    cases x with
    | agg l =>
      simp only [partA]
      cases isAggO P fd.type with
      | none => rfl
      | some b =>
        cases b with
        | false => show lNth l .fail (fun v => k v s) fd.offset = kO l[fd.offset]? k s; rw [lNth_eq]; cases l[fd.offset]? <;> rfl
        | true =>
          simp only
          cases szOf P fd.type with
          | none => rfl
          | some n => show k (.agg (lTake n (lDrop fd.offset l))) s = _; rw [lTake_eq, lDrop_eq]; rfl
    | _ =>
      cases isAggO P fd.type with
      | none => rfl
      | some b =>
        cases b with
        | false => rfl
        | true => simp only; cases szOf P fd.type <;> rfl

noncomputable def kIA (size : Nat) (x i : AV) (k : Kv) (s : St) : R AV :=
  i.onNat .fail fun i => x.onSl .fail .fail fun b v o len _ => ifb (Nat.ble (Nat.succ i) len) (force (Nat.add o (Nat.mul i size)) fun o => k (.ptr b v o) s) .fail
noncomputable abbrev kIndexAddr (t : TypeId) (x i : AV) (k : Kv) (s : St) : R AV := match P.underlying t with
  | some (.slice e) => (match szOf P e with
    | some size => kIA size x i k s
    | none => .fail)
  | _ => kO (indexAddrA P t x i) k s
theorem kIndexAddr_eq (t : TypeId) (x i : AV) (k : Kv) (s : St) : kIndexAddr P t x i k s = kO (indexAddrA P t x i) k s := by
  unfold kIndexAddr
  cases hu : P.underlying t with
  | none => rfl
  | some d =>
    cases d with
    | slice e =>
      unfold indexAddrA kIA
      simp only [AV.onNat_eq, hu]
      cases hi : i.nat with
      | none => simp only; cases szOf P e <;> rfl
      | some i =>
        cases x with
        | slice b v o len cap =>
          simp only
          cases szOf P e with
          | none => rfl
          | some size =>
            show ifb (Nat.blt i len) (force (o + i * size) fun o => k (.ptr b v o) s) .fail = kO (bif Nat.blt i len then _ else none) k s
            rw [force_eq, ifb_eq]
            cases Nat.blt i len <;> rfl
        | _ => simp only; cases szOf P e <;> rfl
    | _ => rfl

noncomputable abbrev kIndex (t : TypeId) (x i : AV) (k : Kv) (s : St) : R AV := match P.underlying t with
  | some .string => kIdxS x i k s
  | _ => kO (indexA P t x i) k s
theorem kIndex_eq (t : TypeId) (x i : AV) (k : Kv) (s : St) : kIndex P t x i k s = kO (indexA P t x i) k s := by
  unfold kIndex
  cases hu : P.underlying t with
  | none => rfl
  | some d =>
    cases d with
    | string => exact kIdxS_eq P t hu x i k s
    | _ => rfl

noncomputable def kExt (ix : Nat) (x : AV) (k : Kv) (s : St) : R AV := x.onTup .fail fun l => lNth l .fail (fun v => k v s) ix
theorem kExt_eq (ix : Nat) (x : AV) (k : Kv) (s : St) : kExt ix x k s = kO (extractA ix x) k s := by
  cases x with
  | tuple l => show lNth l .fail (fun v => k v s) ix = kO l[ix]? k s; rw [lNth_eq]; cases l[ix]? <;> rfl
  | _ => rfl

noncomputable abbrev kMkIface (t : TypeId) (x : AV) (k : Kv) (s : St) : R AV := match mkIfaceA P t .nilptr with
  | some _ => k (.iface t x) s
  | none => .fail
theorem kMkIface_eq (t : TypeId) (x : AV) (k : Kv) (s : St) : kMkIface P t x k s = kO (mkIfaceA P t x) k s := by
  unfold kMkIface mkIfaceA
  cases P.underlying t with
  | none => rfl
  | some d => cases d <;> rfl

/-! maps -/
noncomputable def kFindS (n a : Nat) (kn : R AV) (ks : AV → R AV) (es : List (AV × AV)) : R AV :=
  @List.rec (AV × AV) (fun _ => R AV) kn (fun p _ ih => @Prod.rec AV AV (fun _ => R AV) (fun k' v => k'.onStr .fail fun n' a' => ifb (ifb (Nat.beq n n') (Nat.beq a a') false) (ks v) ih) p) es
theorem kFindS_eq (n a : Nat) (kn : R AV) (ks : AV → R AV) : ∀ es, kFindS n a kn ks es = match findA (some .string) (.str n a) es with
    | some (some v) => ks v
    | some none => kn
    | none => .fail
  | [] => rfl
  | (k', v) :: r => by
    show (k'.onStr .fail fun n' a' => ifb (ifb (Nat.beq n n') (Nat.beq a a') false) (ks v) (kFindS n a kn ks r)) = _
    rcases k'.onStr_cases with ⟨n', a', rfl⟩ | h
    · show ifb (ifb (Nat.beq n n') (Nat.beq a a') false) (ks v) (kFindS n a kn ks r) = _
      have e : findA (some .string) (.str n a) ((.str n' a', v) :: r) = (match some (Nat.beq n n' && Nat.beq a a') with
        | some true => some (some v)
        | some false => findA (some .string) (.str n a) r
        | none => none) := rfl
      rw [ifb_and, ifb_eq, kFindS_eq n a kn ks r, e]
      cases Nat.beq n n' && Nat.beq a a' <;> rfl
    · rw [h]
      cases k' with
      | str n a => have := h (.ok undefA st0) (fun _ _ => .fail); simp [AV.onStr] at this
      | _ => rfl

noncomputable def kLookS (z : AV) (ok : Bool) (m key : AV) (k : Kv) (s : St) : R AV :=
  key.onStr .fail fun n a => m.onMap .fail (k (ifb ok (.tuple [z, .bool false]) z) s) fun r => kLook r (fun o s => o.onMap .fail
    (kFindS n a (k (ifb ok (.tuple [z, .bool false]) z) s) fun v => k (ifb ok (.tuple [v, .bool true]) v) s)) s
noncomputable abbrev kLookup (t : TypeId) (m key : AV) (ok : Bool) (k : Kv) (s : St) : R AV := match mapElem P t with
  | some (kt, e) => (match P.underlying kt with
    | some .string => (match zeroO P e with
      | some z => kLookS z ok m key k s
      | none => .fail)
    | _ => kM (lookupA P t m key ok) k s)
  | none => .fail
theorem kLookup_eq (t : TypeId) (m key : AV) (ok : Bool) (k : Kv) (s : St) : kLookup P t m key ok k s = bindRun (lookupA P t m key ok).run k s := by
  unfold kLookup
  cases hm : mapElem P t with
  | none => unfold lookupA; rw [hm]; rfl
  | some p =>
    obtain ⟨kt, e⟩ := p
    simp only
    cases hu : P.underlying kt with
    | none => rfl
    | some d =>
      cases d with
      | string =>
        unfold lookupA
        simp only [hm, hu]
        rcases key.onStr_cases with ⟨n, a, rfl⟩ | h
        · have hk : keyOf (some .string) (.str n a) = true := rfl
          rw [hk]
          simp only [cond_true]
          cases zeroO P e with
          | none => rfl
          | some z =>
            cases m with
            | nilmap => show k (ifb ok _ z) s = _; cases ok <;> rfl
            | map r =>
              show kLook r (fun o s => o.onMap .fail (kFindS n a (k (ifb ok (.tuple [z, .bool false]) z) s) fun v => k (ifb ok (.tuple [v, .bool true]) v) s)) s =
                bindRun (bindRun (lookRun r fun o => match getMapO o with
                  | some es => findA (some .string) (.str n a) es
                  | none => none) fun r => M.run (match r with
                    | some v => pure (if ok then .tuple [v, .bool true] else v)
                    | none => pure (if ok then .tuple [z, .bool false] else z))) k s
              rw [bindRun_assoc, ← kLook_eq]
              congr 1; funext o s'
              cases o with
              | map es =>
                refine (kFindS_eq n a (k (ifb ok (.tuple [z, .bool false]) z) s') (fun v => k (ifb ok (.tuple [v, .bool true]) v) s') es).trans ?_
                simp only [getMapO]
                cases findA (some .string) (.str n a) es with
                | none => rfl
                | some r => cases r <;> cases ok <;> rfl
              | _ => rfl
            | _ => rfl
        · have hk : keyOf (some .string) key = false := by
            cases key with
            | str n a => have := h (.ok undefA st0) (fun _ _ => .fail); simp [AV.onStr] at this
            | _ => rfl
          rw [hk]
          cases zeroO P e with
          | none => rfl
          | some z => exact h _ _
      | _ => rfl

noncomputable def lPutS (n a : Nat) (x : AV) (es : List (AV × AV)) : (List (AV × AV) → R AV) → R AV :=
  @List.rec (AV × AV) (fun _ => (List (AV × AV) → R AV) → R AV) (fun k => k [(.str n a, x)]) (fun p r ih k => @Prod.rec AV AV (fun _ => R AV) (fun k' v => k'.onStr .fail fun n' a' =>
    ifb (ifb (Nat.beq n n') (Nat.beq a a') false) (k ((.str n a, x) :: r)) (ih fun l => k ((k', v) :: l))) p) es
theorem lPutS_eq (n a : Nat) (x : AV) : ∀ es k, lPutS n a x es k = onO (putA (some .string) (.str n a) x es) .fail k
  | [], k => rfl
  | (k', v) :: r, k => by
    show (k'.onStr .fail fun n' a' => ifb (ifb (Nat.beq n n') (Nat.beq a a') false) (k ((.str n a, x) :: r)) (lPutS n a x r fun l => k ((k', v) :: l))) = _
    rcases k'.onStr_cases with ⟨n', a', rfl⟩ | h
    · show ifb (ifb (Nat.beq n n') (Nat.beq a a') false) _ (lPutS n a x r _) = _
      have e : putA (some .string) (.str n a) x ((.str n' a', v) :: r) = (match some (Nat.beq n n' && Nat.beq a a') with
        | some true => some ((.str n a, x) :: r)
        | some false => match putA (some .string) (.str n a) x r with
          | some r' => some ((.str n' a', v) :: r')
          | none => none
        | none => none) := rfl
      rw [ifb_and, ifb_eq, lPutS_eq n a x r, e]
      cases Nat.beq n n' && Nat.beq a a' with
      | true => rfl
      | false => simp only [cond_false]; cases putA (some .string) (.str n a) x r <;> rfl
    · rw [h]
      cases k' with
      | str n a => have := h (.ok undefA st0) (fun _ _ => .fail); simp [AV.onStr] at this
      | _ => rfl

noncomputable def kPutS (m key x : AV) (k : Kv) (s : St) : R AV :=
  m.onMap .fail .fail fun r => key.onStr .fail fun n a => kSee r (fun o => o.onMap .fail fun es => lPutS n a x es fun es => kUpd r (.map es) (k undefA) s) s

def mapUpdA (t : TypeId) (m key x : AV) : M AV := match m with
  | .map r => (match mapElem P t with
      | some (kt, _) => bif keyOf (P.underlying kt) key then do
          upd r (updMapO (putA (P.underlying kt) key x))
          pure undefA
        else failM
      | none => failM)
  | _ => failM

noncomputable abbrev kMapUpd (t : TypeId) (m key x : AV) (k : Kv) (s : St) : R AV := match mapElem P t with
  | some (kt, _) => (match P.underlying kt with
    | some .string => kPutS m key x k s
    | _ => kM (mapUpdA P t m key x) k s)
  | none => .fail
theorem kMapUpd_eq (t : TypeId) (m key x : AV) (k : Kv) (s : St) : kMapUpd P t m key x k s = bindRun (mapUpdA P t m key x).run k s := by
  unfold kMapUpd
  cases hm : mapElem P t with
  | none => unfold mapUpdA; cases m <;> simp only [hm] <;> rfl
  | some p =>
    obtain ⟨kt, e⟩ := p
    simp only
    cases hu : P.underlying kt with
    | none => rfl
    | some d =>
      cases d with
      | string =>
        unfold mapUpdA
        simp only [hm, hu]
        cases m with
        | map r =>
          rcases key.onStr_cases with ⟨n, a, rfl⟩ | h
          · show kSee r (fun o => o.onMap .fail fun es => lPutS n a x es fun es => kUpd r (.map es) (k undefA) s) s =
              bindRun (bindRun (updRun r (updMapO (putA (some .string) (.str n a) x))) fun _ => pureRun undefA) k s
            rw [bindRun_assoc, ← kUpd_eq]
            congr 1; funext o
            cases o with
            | map es =>
              show lPutS n a x es _ = _
              rw [lPutS_eq]
              simp only [updMapO]
              cases putA (some .string) (.str n a) x es <;> rfl
            | _ => rfl
          · have hk : keyOf (some .string) key = false := by
              cases key with
              | str n a => have := h (.ok undefA st0) (fun _ _ => .fail); simp [AV.onStr] at this
              | _ => rfl
            simp only [hk]
            exact h _ _
        | _ => rfl
      | _ => rfl

/-! append -/
noncomputable def kSizeFits (n bytes : Nat) : Bool := ifb (Nat.ble (Nat.mul n bytes) 140737488355328) (Nat.ble n 140737488355328) false
theorem kSizeFits_eq (n bytes : Nat) : kSizeFits n bytes = sizeFits n bytes := ifb_and _ _

noncomputable def kGrownRow (size : Nat) (cells : List AV) : Obj := .row ⟨lLen cells, lFill cells 0 .nil, 0, 1, 18446744073709551616, size⟩
theorem kGrownRow_eq (size : Nat) (cells : List AV) : kGrownRow size cells = grownRow size cells := by unfold kGrownRow grownRow; rw [lLen_eq, lFill_eq]; rfl

noncomputable def kGrow (v st size : Nat) (news : List AV) (k : Nat → Obj → R AV) (o : Obj) : R AV :=
  o.onRow .fail fun n cells cur nv low esz => ifb (kFits n cur nv low v st) (ifb (Nat.beq esz size) (ifb (lScalar news) (force (Nat.add st (lLen news)) fun n' => force (Nat.succ nv) fun nv' =>
    force (ifb (Nat.ble low st) low st) fun low' => k nv (.row ⟨n', lFill news st cells, nv, nv', low', esz⟩)) .fail) .fail) .fail
theorem kGrow_eq (v st size : Nat) (news : List AV) (k : Nat → Obj → R AV) (o : Obj) : kGrow v st size news k o = onO (growRow v st size news o) .fail fun p => k p.1 p.2 := by
  cases o with
  | row r =>
    show ifb (kFits r.n r.cur r.nv r.low v st) (ifb (Nat.beq r.esz size) (ifb (lScalar news) (force (st + lLen news) fun n' => force (r.nv + 1) fun nv' => force (ifb (Nat.ble r.low st) r.low st) fun low' =>
      k r.nv (.row ⟨n', lFill news st r.cells, r.nv, nv', low', r.esz⟩)) .fail) .fail) .fail = _
    simp only [kFits_eq, lLen_eq, lScalar_eq, lFill_eq, force_eq, min_ifb, growRow]
    simp only [ifb_eq]
    cases r.fits v st <;> cases Nat.beq r.esz size <;> cases news.all AV.scalar <;> rfl
  | _ => rfl

noncomputable def kAppTo (size bytes : Nat) (x : AV) (n : Nat) (news : List AV) (k : Kv) (s : St) : R AV :=
  x.onSl .fail (ifb (kSizeFits n bytes) (kNew (kGrownRow size news) (fun b s => k (.slice b 0 0 n none) s) s) .fail) fun b v o len cap => force (Nat.add len n) fun l => ifb (kSizeFits l bytes)
    (onO cap (ifb (Nat.beq o 0) (kSee b (kGrow v (Nat.mul len size) size news fun v' ob => kUpd b ob (fun s => k (.slice b v' 0 l none) s) s) s) .fail) fun c =>
      ifb (Nat.ble l c) (kWrite b v (Nat.add o (Nat.mul len size)) news (fun s => k (.slice b v o l (some c)) s) s)
        (kRead b v o (Nat.mul len size) (fun old s => kNew (kGrownRow size (lApp old news)) (fun b' s => k (.slice b' 0 0 l none) s) s) s)) .fail

theorem kAppTo_eq (size bytes : Nat) (x : AV) (n : Nat) (news : List AV) (k : Kv) (s : St) : kAppTo size bytes x n news k s = bindRun (appendTo size bytes x n news).run k s := by
  cases x with
  | nilslice =>
    show ifb (kSizeFits n bytes) _ _ = _
    rw [kSizeFits_eq, ifb_eq]
    unfold appendTo
    simp only
    cases sizeFits n bytes with
    | false => rfl
    | true =>
      show kNew (kGrownRow size news) (fun b s => k (.slice b 0 0 n none) s) s = bindRun (bindRun (newRun (grownRow size news)) fun b => pureRun (AV.slice b 0 0 n none)) k s
      rw [bindRun_assoc, kNew_eq, kGrownRow_eq]; rfl
  | slice b v o len cap =>
    unfold kAppTo
    simp only [AV.onSl, force_eq, kSizeFits_eq]
    rw [ifb_eq]
    show (bif sizeFits (len + n) bytes then _ else R.fail) = _
    unfold appendTo
    simp only
    cases sizeFits (len + n) bytes with
    | false => rfl
    | true =>
      simp only [cond_true]
      cases cap with
      | none =>
        show ifb (Nat.beq o 0) _ _ = _
        rw [ifb_eq]
        simp only
        cases Nat.beq o 0 with
        | false => rfl
        | true =>
          show kSee b (kGrow v (len * size) size news fun v' ob => kUpd b ob (fun s => k (.slice b v' 0 (len + n) none) s) s) s =
            bindRun (bindRun (updRun b (growRow v (len * size) size news)) fun v' => pureRun (AV.slice b v' 0 (len + n) none)) k s
          rw [bindRun_assoc, ← kUpd_eq]
          congr 1; funext ob
          rw [kGrow_eq]; rfl
      | some c =>
        show ifb (Nat.ble (len + n) c) _ _ = _
        rw [ifb_eq]
        simp only
        cases Nat.ble (len + n) c with
        | true =>
          exact (kWrite_eq b v (o + len * size) news (fun s => k (.slice b v o (len + n) (some c)) s) s).trans
            (bindRun_assoc (writeCells b v (o + len * size) news).run (fun _ => pureRun (AV.slice b v o (len + n) (some c))) k s).symm
        | false =>
          show kRead b v o (len * size) (fun old s => kNew (kGrownRow size (lApp old news)) (fun b' s => k (.slice b' 0 0 (len + n) none) s) s) s =
            bindRun (bindRun (readCells b v o (len * size)).run fun old => bindRun (newRun (grownRow size (old ++ news))) fun b' => pureRun (AV.slice b' 0 0 (len + n) none)) k s
          rw [bindRun_assoc, kRead_eq]
          congr 1; funext old s'
          rw [bindRun_assoc, kNew_eq, kGrownRow_eq, lApp_eq]; rfl
  | _ => rfl

noncomputable def kKeep (x : AV) (k : Kv) (s : St) : R AV := x.onSl .fail (k x s) fun _ _ _ _ _ => k x s
theorem kKeep_eq (x : AV) (k : Kv) (s : St) : kKeep x k s = kO (keepA x) k s := by cases x <;> rfl

noncomputable def kApp (size bytes : Nat) (x y : AV) (k : Kv) (s : St) : R AV :=
  y.onSl .fail (kKeep x k s) fun b v o len _ => @Nat.rec (fun _ => R AV) (kKeep x k s) (fun n _ => kRead b v o (Nat.mul (Nat.succ n) size) (fun news s => kAppTo size bytes x (Nat.succ n) news k s) s) len
noncomputable abbrev kAppend (t : TypeId) (x y : AV) (k : Kv) (s : St) : R AV := match sliceElem P t with
  | some e => (match szOf P e with
    | some (size + 1) => (match bytesOf P e with
      | some bytes => (match zeroO P e with
        | some z => (match Nat.beq z.cells.length (size + 1) with
          | true => kApp (size + 1) bytes x y k s
          | false => .fail)
        | none => .fail)
      | none => .fail)
    | _ => .fail)
  | none => .fail
theorem kAppend_eq (t : TypeId) (x y : AV) (k : Kv) (s : St) : kAppend P t x y k s = bindRun (appendA P t x y).run k s := by
  unfold kAppend appendA
  cases sliceElem P t with
  | none => rfl
  | some e =>
    simp only
    cases szOf P e with
    | none => rfl
    | some n =>
      cases n with
      | zero => rfl
      | succ size =>
        simp only
        cases bytesOf P e with
        | none => rfl
        | some bytes =>
          simp only
          cases zeroO P e with
          | none => rfl
          | some z =>
            simp only
            cases Nat.beq z.cells.length (size + 1) with
            | false => rfl
            | true =>
              simp only [cond_true]
              cases y with
              | nilslice => exact (kKeep_eq x k s).trans (kO_eq _ _ _)
              | slice b v o len cap =>
                cases len with
                | zero => exact (kKeep_eq x k s).trans (kO_eq _ _ _)
                | succ n =>
                  show kRead b v o ((n + 1) * (size + 1)) (fun news s => kAppTo (size + 1) bytes x (n + 1) news k s) s =
                    bindRun (bindRun (readCells b v o ((n + 1) * (size + 1))).run fun news => (appendTo (size + 1) bytes x (n + 1) news).run) k s
                  rw [bindRun_assoc, kRead_eq]
                  congr 1; funext news s'
                  exact kAppTo_eq _ _ _ _ _ _ _
              | _ => rfl

/-! calls -/
variable (e : Task → St → R AV)
def enterR (f : FuncId) (args : List AV) : St → R AV := match P.funcs[f]? with
  | some fn => match fn.body with
    | some _ => bif fn.name == "runtime.NumGoroutine" then failRun else e (.call f args)
    | none => (externA fn.name args).run
  | none => failRun
def callValR (f : AV) (args : List AV) : St → R AV := match f with
  | .func (.func f) first captured => enterR P e f (first ++ args ++ captured)
  | .func (.yield l) [] [] => e (.round l args)
  | _ => failRun
def invokeR (recv : AV) (name : String) (args : List AV) : St → R AV := match recv with
  | .iface t v => match methodA P t name with
    | some (f, true, some _) => enterR P e f (v :: args)
    | some (f, false, none) => enterR P e f (v :: args)
    | some (f, false, some el) => bindRun (loadA P el v).run fun x => enterR P e f (x :: args)
    | _ => failRun
  | _ => failRun

theorem enterR_eq (ev : Task → M AV) (f : FuncId) (args : List AV) : (enterA P ev f args).run = enterR P (fun t => (ev t).run) f args := by
  unfold enterA enterR
  cases P.funcs[f]? with
  | none => rfl
  | some fn =>
    simp only
    cases fn.body with
    | none => rfl
    | some c => simp only; cases fn.name == "runtime.NumGoroutine" <;> rfl

theorem callValR_eq (ev : Task → M AV) (f : AV) (args : List AV) : (callVal P ev f args).run = callValR P (fun t => (ev t).run) f args := by
  cases f with
  | func fn first captured =>
    cases fn with
    | func g => exact enterR_eq _ _ _ _
    | yield l =>
      cases first with
      | nil => cases captured <;> rfl
      | cons a r => rfl
    | _ => rfl
  | _ => rfl

theorem invokeR_eq (ev : Task → M AV) (r : AV) (name : String) (args : List AV) : (invokeA P ev r name args).run = invokeR P (fun t => (ev t).run) r name args := by
  unfold invokeA invokeR
  cases r with
  | iface t v =>
    simp only
    cases methodA P t name with
    | none => rfl
    | some p =>
      obtain ⟨f, b, o⟩ := p
      cases b with
      | true =>
        cases o with
        | none => rfl
        | some el => exact enterR_eq _ _ _ _
      | false =>
        cases o with
        | none => exact enterR_eq _ _ _ _
        | some el =>
          show bindRun (loadA P el v).run (fun x => (enterA P ev f (x :: args)).run) = bindRun (loadA P el v).run fun x => enterR P (fun t => (ev t).run) f (x :: args)
          congr 1; funext x
          exact enterR_eq _ _ _ _
  | _ => rfl

noncomputable def kBind (x : St → R AV) (k : Kv) (s : St) : R AV := @R.rec AV (fun _ => R AV) .fail k (x s)
theorem kBind_eq (x : St → R AV) (k : Kv) (s : St) : kBind x k s = bindRun x k s := by
  unfold kBind bindRun; cases x s <;> rfl

def enters (g : FuncId) : Bool := match P.funcs[g]? with
  | some fn => match fn.body with
    | some _ => !(fn.name == "runtime.NumGoroutine")
    | none => false
  | none => false
theorem enterR_of (g : FuncId) (h : enters P g = true) (args : List AV) : enterR P e g args = e (.call g args) := by
  unfold enters at h
  unfold enterR
  cases hf : P.funcs[g]? with
  | none => rw [hf] at h; simp at h
  | some fn =>
    rw [hf] at h
    simp only at h ⊢
    cases hb : fn.body with
    | none => rw [hb] at h; simp at h
    | some c =>
      rw [hb] at h
      simp only at h ⊢
      cases hn : fn.name == "runtime.NumGoroutine" with
      | true => rw [hn] at h; simp at h
      | false => rfl

noncomputable abbrev kBuiltin (b : Builtin) (argTypes : Array TypeId) (vs : List AV) (k : Kv) (s : St) : R AV := match b, vs with
  | .len, [v] => (match argTypes[0]? with
    | some t => kLen P t v k s
    | none => .fail)
  | .append, [x, y] => (match argTypes.toList with
    | [t, t'] => (match P.underlying t' with
      | some (.slice _) => kAppend P t x y k s
      | _ => .fail)
    | _ => .fail)
  | b, vs => kM (builtinA P b argTypes vs) k s

theorem kBuiltin_eq (b : Builtin) (argTypes : Array TypeId) (vs : List AV) (k : Kv) (s : St) : kBuiltin P b argTypes vs k s = bindRun (builtinA P b argTypes vs).run k s := by
  unfold kBuiltin
  split
  · unfold builtinA
    simp only
    cases argTypes[0]? with
    | none => rfl
    | some t => exact kLen_eq P t _ k s
  · unfold builtinA
    simp only
    generalize argTypes.toList = l
    rcases l with _ | ⟨t, _ | ⟨t', _ | ⟨_, _⟩⟩⟩ <;> try rfl
    simp only
    cases P.underlying t' with
    | none => rfl
    | some d => cases d <;> first | rfl | exact kAppend_eq P _ _ _ k s
  · rfl

noncomputable abbrev kCallOp (c : Call) (vs : List AV) (k : Kv) (s : St) : R AV := match c.callee with
  | .value (.func g) => (match vs with
    | .func (.func g') [] [] :: args => (match Nat.beq g g' && enters P g with
      | true => kBind (e (.call g args)) k s
      | false => kBind (callValR P e (.func (.func g') [] []) args) k s)
    | f :: args => kBind (callValR P e f args) k s
    | [] => .fail)
  | .value _ => (match vs with
    | f :: args => kBind (callValR P e f args) k s
    | [] => .fail)
  | .invoke _ name => (match vs with
    | r :: args => kBind (invokeR P e r name args) k s
    | [] => .fail)
  | .builtin b => kBuiltin P b c.argTypes vs k s

theorem kCallOp_eq (ev : Task → M AV) (c : Call) (vs : List AV) (k : Kv) (s : St) : kCallOp P (fun t => (ev t).run) c vs k s = bindRun (callA P ev c vs).run k s := by
  unfold kCallOp callA
  cases c.callee with
  | value f =>
    cases f with
    | func g =>
      simp only
      split
      · rename_i g' args
        split
        · rename_i h
          rw [Bool.and_eq_true] at h
          have hg : g = g' := Nat.eq_of_beq_eq_true h.1
          subst hg
          simp only [callValR_eq, callValR]
          rw [enterR_of P _ g h.2, List.nil_append, List.append_nil]
          exact kBind_eq _ _ _
        · simp only [callValR_eq]; exact kBind_eq _ _ _
      · simp only [callValR_eq]; exact kBind_eq _ _ _
      · rfl
    | _ =>
      simp only
      split
      · simp only [callValR_eq]; exact kBind_eq _ _ _
      · rfl
  | invoke r name =>
    simp only
    split
    · simp only [invokeR_eq]; exact kBind_eq _ _ _
    · rfl
  | builtin b => exact kBuiltin_eq P b _ _ k s

end
end Go.Ab
