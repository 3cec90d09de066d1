/-
  Items of every length; node (own work).
-/
import Derived.Test.YtlonlfiaclacdaaPaQ
namespace Go.Pa
open Go Go.RowKit Go.Proofs

theorem all_items (k : Nat) : CItem k ∧ CItems k := by
  induction k using Nat.strongRecOn with
  | ind k ih =>
    have h1 : CItem k := item_in fun j hj => state_in (ih j hj).2
    refine ⟨h1, items_in fun j hj => ?_⟩
    rcases (by omega : j = k ∨ j < k) with rfl | hlt
    · exact h1
    · exact (ih j hlt).1
theorem items_any {S : Src} {w : World} {x : St} (hP : PS S w x) : Calls Try.prog 56 #[.pointer (some ⟨S.pb, 0, none⟩)] w (Ret S w x fun v w' x' => ItemsV (x'.e = 0) (w.heap.size ≤ ·) w' v) :=
  (all_items (S.len - x.at')).2 S w x hP (Nat.le_refl _)

theorem ItemsV.form {E : Prop} {B : Nat → Prop} {w : World} {v : Value} (h : ItemsV E B w v) : ∃ a m c, v = .slice a m c := by
  obtain ⟨a, m, c, _⟩ := h
  exact ⟨a, m, c, rfl⟩
theorem ItemsV.set {E : Prop} {B : Nat → Prop} {w : World} {v : Value} (h : ItemsV E B w v) {p : Addr} (hp : ∀ z, B z → z ≠ p.block) (u : Value) : ItemsV E B (w.setCell p u) v :=
  h.frame fun z hz _ => Below.heap_setCell _ _ _ _ (hp z hz)

/-- A node. -/
inductive NodeV (E : Prop) (B : Nat → Prop) (w : World) : Value → Prop
  | mk (s : ByteArray) (a1 a2 a3 a4 : Option Addr) (n1 n2 n3 n4 c1 c2 c3 c4 : Nat) (n : Int) (h : ItemsV E B w (.slice a4 n4 c4)) : NodeV E B w (.agg #[.string s, .slice a1 n1 c1, .slice a2 n2 c2, .slice a3 n3 c3, .slice a4 n4 c4, .int .i64 n])

set_option maxHeartbeats 32000000 in
set_option maxRecDepth 100000 in
theorem node_in : ∀ {S : Src} {w : World} {x : St}, PS S w x → Calls Try.prog 41 #[.pointer (some ⟨S.pb, 0, none⟩)] w (Ret S w x fun v w' x' => NodeV (x'.e = 0) (w.heap.size ≤ ·) w' v ∧ Prog x x') := by
  intro S w x hP
  have hpl := hP.plt
  have htl := hP.tlt
  have hf4 := field86_4
  go_enter Try.func41, Try.ntmps41
  go_wp2_with (fail)
  refine (tok_ex (hP.alloc _)).mono ?_
  rintro e w0 ⟨⟨t0, rfl⟩, h0, k0⟩
  obtain ⟨K, SS, N, TK, TL, AT⟩ := t0
  dsimp only [Tk.val]
  have hr0 := k0.block (alloc_self w _) (by omega)
  have R0 : Aside _ := Rec.new (x1 := x) ⟨h0, ((KB.refl S w).alloc _).trans k0, Nat.le_refl _, id⟩ hr0 #[.string ⟨#[]⟩, .slice none 0 0, .slice none 0 0, .slice none 0 0, .slice none 0 0, .int .i64 AT]
  have hle0 : x.at' ≤ x.at' := Nat.le_refl _
  have hs0 := lt_of_block hr0
  clear hr0 k0
  go_wp2_with (fail)
  refine (take_in R0.out.g.ps _).mono ?_
  rintro _ w1 @⟨_, _, x1, g1, rfl, hpr1⟩
  have hle1 : x.at' ≤ x1.at' := Nat.le_trans hle0 g1.le
  have R1 : Aside _ := R0.out.step g1 hpl
  obtain ⟨hc1, hf1⟩ := row_cells R1.out.a
  have hl1 := lt_of_block R1.out.a
  go_wp2_with (fail)
  refine (name_in R1.out.g.ps).mono ?_
  rintro _ w2 @⟨_, _, x2, g2, ⟨nm2, rfl⟩, _⟩
  have hle2 : x.at' ≤ x2.at' := Nat.le_trans hle1 g2.le
  have R2 : Aside _ := R1.out.step g2 hpl
  obtain ⟨hc2, hf2⟩ := row_cells R2.out.a
  have hl2 := lt_of_block R2.out.a
  try clear hc1 hf1
  have R2 : Aside _ := R2.out.set hpl htl 0 (.string nm2) #[.string nm2, .slice none 0 0, .slice none 0 0, .slice none 0 0, .slice none 0 0, .int .i64 AT] rfl
  go_wp2_with (fail)
  refine (take_in R2.out.g.ps _).mono ?_
  rintro _ w3 @⟨_, _, x3, g3, rfl, _⟩
  have hle3 : x.at' ≤ x3.at' := Nat.le_trans hle2 g3.le
  have R3 : Aside _ := R2.out.step g3 hpl
  obtain ⟨hc3, hf3⟩ := row_cells R3.out.a
  have hl3 := lt_of_block R3.out.a
  try clear hc2 hf2
  go_wp2_with (fail)
  refine (is_ex R3.out.g.ps _).mono ?_
  rintro _ w4 @⟨_, _, x4, g4, hx4, hbb⟩
  have hle4 : x.at' ≤ x4.at' := Nat.le_trans hle3 g4.le
  have R4 : Aside _ := R3.out.step g4 hpl
  obtain ⟨hc4, hf4⟩ := row_cells R4.out.a
  have hl4 := lt_of_block R4.out.a
  try clear hc3 hf3
  obtain ⟨b4, rfl⟩ : ∃ b, _ = Value.bool b := by rcases hbb with ⟨hb, _⟩ | hb <;> exact ⟨_, hb⟩
  clear hbb hx4
  cases b4
  ·
    go_wp2_with (fail)
    refine (decls_in R4.out.g.ps).mono ?_
    rintro _ w5 @⟨_, _, x5, g5, ⟨a5, n5, c5⟩⟩
    have hle5 : x.at' ≤ x5.at' := Nat.le_trans hle4 g5.le
    have R5 : Aside _ := R4.out.step g5 hpl
    obtain ⟨hc5, hf5⟩ := row_cells R5.out.a
    have hl5 := lt_of_block R5.out.a
    try clear hc4 hf4
    have R5 : Aside _ := R5.out.set hpl htl 1 (.slice a5 n5 c5) #[.string nm2, .slice a5 n5 c5, .slice none 0 0, .slice none 0 0, .slice none 0 0, .int .i64 AT] rfl
    go_wp2_with (fail)
    refine (take_in R5.out.g.ps _).mono ?_
    rintro _ w6 @⟨_, _, x6, g6, rfl, _⟩
    have hle6 : x.at' ≤ x6.at' := Nat.le_trans hle5 g6.le
    have R6 : Aside _ := R5.out.step g6 hpl
    obtain ⟨hc6, hf6⟩ := row_cells R6.out.a
    have hl6 := lt_of_block R6.out.a
    try clear hc5 hf5
    go_wp2_with (fail)
    refine (take_in R6.out.g.ps _).mono ?_
    rintro _ w7 @⟨_, _, x7, g7, rfl, _⟩
    have hle7 : x.at' ≤ x7.at' := Nat.le_trans hle6 g7.le
    have R7 : Aside _ := R6.out.step g7 hpl
    obtain ⟨hc7, hf7⟩ := row_cells R7.out.a
    have hl7 := lt_of_block R7.out.a
    try clear hc6 hf6
    go_wp2_with (fail)
    refine (take_in R7.out.g.ps _).mono ?_
    rintro _ w8 @⟨_, _, x8, g8, rfl, _⟩
    have hle8 : x.at' ≤ x8.at' := Nat.le_trans hle7 g8.le
    have R8 : Aside _ := R7.out.step g8 hpl
    obtain ⟨hc8, hf8⟩ := row_cells R8.out.a
    have hl8 := lt_of_block R8.out.a
    try clear hc7 hf7
    go_wp2_with (fail)
    refine (decls_in R8.out.g.ps).mono ?_
    rintro _ w9 @⟨_, _, x9, g9, ⟨a9, n9, c9⟩⟩
    have hle9 : x.at' ≤ x9.at' := Nat.le_trans hle8 g9.le
    have R9 : Aside _ := R8.out.step g9 hpl
    obtain ⟨hc9, hf9⟩ := row_cells R9.out.a
    have hl9 := lt_of_block R9.out.a
    try clear hc8 hf8
    have R9 : Aside _ := R9.out.set hpl htl 2 (.slice a9 n9 c9) #[.string nm2, .slice a5 n5 c5, .slice a9 n9 c9, .slice none 0 0, .slice none 0 0, .int .i64 AT] rfl
    go_wp2_with (fail)
    refine (take_in R9.out.g.ps _).mono ?_
    rintro _ w10 @⟨_, _, x10, g10, rfl, _⟩
    have hle10 : x.at' ≤ x10.at' := Nat.le_trans hle9 g10.le
    have R10 : Aside _ := R9.out.step g10 hpl
    obtain ⟨hc10, hf10⟩ := row_cells R10.out.a
    have hl10 := lt_of_block R10.out.a
    try clear hc9 hf9
    go_wp2_with (fail)
    refine (maybe_in R10.out.g.ps _).mono ?_
    rintro _ w11 @⟨_, _, x11, g11, hbb⟩
    have hle11 : x.at' ≤ x11.at' := Nat.le_trans hle10 g11.le
    have R11 : Aside _ := R10.out.step g11 hpl
    obtain ⟨hc11, hf11⟩ := row_cells R11.out.a
    have hl11 := lt_of_block R11.out.a
    try clear hc10 hf10
    obtain ⟨b11, rfl⟩ : ∃ b, _ = Value.bool b := by rcases hbb with ⟨hb, _⟩ | ⟨hb, _⟩ <;> exact ⟨_, hb⟩
    clear hbb
    cases b11
    ·
      go_wp2_with (fail)
      refine (take_in R11.out.g.ps _).mono ?_
      rintro _ w12 @⟨_, _, x12, g12, rfl, _⟩
      have hle12 : x.at' ≤ x12.at' := Nat.le_trans hle11 g12.le
      have R12 : Aside _ := R11.out.step g12 hpl
      obtain ⟨hc12, hf12⟩ := row_cells R12.out.a
      have hl12 := lt_of_block R12.out.a
      try clear hc11 hf11
      go_wp2_with (fail)
      refine (items_any R12.out.g.ps).mono ?_
      rintro _ w13 @⟨_, _, x13, g13, hiv⟩
      have hle13 : x.at' ≤ x13.at' := Nat.le_trans hle12 g13.le
      have R13 : Aside _ := R12.out.step g13 hpl
      obtain ⟨hc13, hf13⟩ := row_cells R13.out.a
      have hl13 := lt_of_block R13.out.a
      try clear hc12 hf12
      obtain ⟨ai, mi, ci, hiv0⟩ : ∃ a m c, _ = Value.slice a m c := hiv.form
      subst hiv0
      have hbi : w.heap.size ≤ w12.heap.size := R12.out.g.kb.size
      have hbr : w0.heap.size < w12.heap.size := lt_of_block R12.out.a
      have V13 : Aside _ := hiv.frame (w' := w13.setCell ⟨w0.heap.size, 4, none⟩ (.slice ai mi ci)) fun z hz _ => Below.heap_setCell _ _ _ _ (by show z ≠ w0.heap.size; (try simp at hz); omega)
      have R13 : Aside _ := R13.out.set hpl htl 4 (.slice ai mi ci) #[.string nm2, .slice a5 n5 c5, .slice a9 n9 c9, .slice none 0 0, .slice ai mi ci, .int .i64 AT] rfl
      clear hiv
      go_wp2_with (fail)
      refine (take_in R13.out.g.ps _).mono ?_
      rintro _ w14 @⟨_, _, x14, g14, rfl, _⟩
      have hle14 : x.at' ≤ x14.at' := Nat.le_trans hle13 g14.le
      have R14 : Aside _ := R13.out.step g14 hpl
      obtain ⟨hc14, hf14⟩ := row_cells R14.out.a
      have hl14 := lt_of_block R14.out.a
      try clear hc13 hf13
      have V14 : Aside _ := V13.out.frame fun z hz hl => g14.kb.same z hl (by (try simp at hz); omega)
      obtain ⟨hrc, hrf⟩ := row_cells R14.out.r0
      have hrl := lt_of_block R14.out.r0
      have R14 : Aside _ := R14.out.res hpl htl 0 (.string nm2) #[.string nm2, .slice none 0 0, .slice none 0 0, .slice none 0 0, .slice none 0 0, .int .i64 0] rfl
      have V14 : Aside _ := V14.out.set (p := ⟨w.heap.size, 0, none⟩) (fun z hz => by show z ≠ w.heap.size; (try simp at hz); omega) (.string nm2)
      have R14 : Aside _ := R14.out.res hpl htl 1 (.slice a5 n5 c5) #[.string nm2, .slice a5 n5 c5, .slice none 0 0, .slice none 0 0, .slice none 0 0, .int .i64 0] rfl
      have V14 : Aside _ := V14.out.set (p := ⟨w.heap.size, 1, none⟩) (fun z hz => by show z ≠ w.heap.size; (try simp at hz); omega) (.slice a5 n5 c5)
      have R14 : Aside _ := R14.out.res hpl htl 2 (.slice a9 n9 c9) #[.string nm2, .slice a5 n5 c5, .slice a9 n9 c9, .slice none 0 0, .slice none 0 0, .int .i64 0] rfl
      have V14 : Aside _ := V14.out.set (p := ⟨w.heap.size, 2, none⟩) (fun z hz => by show z ≠ w.heap.size; (try simp at hz); omega) (.slice a9 n9 c9)
      have R14 : Aside _ := R14.out.res hpl htl 3 (.slice none 0 0) #[.string nm2, .slice a5 n5 c5, .slice a9 n9 c9, .slice none 0 0, .slice none 0 0, .int .i64 0] rfl
      have V14 : Aside _ := V14.out.set (p := ⟨w.heap.size, 3, none⟩) (fun z hz => by show z ≠ w.heap.size; (try simp at hz); omega) (.slice none 0 0)
      have R14 : Aside _ := R14.out.res hpl htl 4 (.slice ai mi ci) #[.string nm2, .slice a5 n5 c5, .slice a9 n9 c9, .slice none 0 0, .slice ai mi ci, .int .i64 0] rfl
      have V14 : Aside _ := V14.out.set (p := ⟨w.heap.size, 4, none⟩) (fun z hz => by show z ≠ w.heap.size; (try simp at hz); omega) (.slice ai mi ci)
      have R14 : Aside _ := R14.out.res hpl htl 5 (.int .i64 AT) #[.string nm2, .slice a5 n5 c5, .slice a9 n9 c9, .slice none 0 0, .slice ai mi ci, .int .i64 AT] rfl
      have V14 : Aside _ := V14.out.set (p := ⟨w.heap.size, 5, none⟩) (fun z hz => by show z ≠ w.heap.size; (try simp at hz); omega) (.int .i64 AT)
      have hpg : Aside (Prog x x14) := fun h => Nat.lt_of_lt_of_le (hpr1 (er0 g2 (er0 g3 (er0 g4 (er0 g5 (er0 g6 (er0 g7 (er0 g8 (er0 g9 (er0 g10 (er0 g11 (er0 g12 (er0 g13 (er0 g14 h)))))))))))))) (Nat.le_trans g2.le (Nat.le_trans g3.le (Nat.le_trans g4.le (Nat.le_trans g5.le (Nat.le_trans g6.le (Nat.le_trans g7.le (Nat.le_trans g8.le (Nat.le_trans g9.le (Nat.le_trans g10.le (Nat.le_trans g11.le (Nat.le_trans g12.le (Nat.le_trans g13.le (g14.le)))))))))))))
      have VF : Aside _ := V14.out.mono (E' := x14.e = 0) (B' := (w.heap.size ≤ ·)) (fun z hz => by show w.heap.size ≤ z; (try simp at hz); omega) (fun h => er0 g14 h)
      go_wp2
      refine bodyPost_ret (results_cell_row rfl _ _ w.heap.size 40 _ _ _ (by rfl) R14.out.r0 Try.underlying40 rfl (by kernel_rfl)) rfl ?_
      exact .mk R14.out.g ⟨.mk _ _ _ _ _ _ _ _ _ _ _ _ _ _ VF.out, hpg.out⟩
    ·
      go_wp2_with (fail)
      refine (locals_in R11.out.g.ps).mono ?_
      rintro _ w12 @⟨_, _, x12, g12, ⟨a12, n12, c12⟩⟩
      have hle12 : x.at' ≤ x12.at' := Nat.le_trans hle11 g12.le
      have R12 : Aside _ := R11.out.step g12 hpl
      obtain ⟨hc12, hf12⟩ := row_cells R12.out.a
      have hl12 := lt_of_block R12.out.a
      try clear hc11 hf11
      have R12 : Aside _ := R12.out.set hpl htl 3 (.slice a12 n12 c12) #[.string nm2, .slice a5 n5 c5, .slice a9 n9 c9, .slice a12 n12 c12, .slice none 0 0, .int .i64 AT] rfl
      go_wp2_with (fail)
      refine (take_in R12.out.g.ps _).mono ?_
      rintro _ w13 @⟨_, _, x13, g13, rfl, _⟩
      have hle13 : x.at' ≤ x13.at' := Nat.le_trans hle12 g13.le
      have R13 : Aside _ := R12.out.step g13 hpl
      obtain ⟨hc13, hf13⟩ := row_cells R13.out.a
      have hl13 := lt_of_block R13.out.a
      try clear hc12 hf12
      go_wp2_with (fail)
      refine (items_any R13.out.g.ps).mono ?_
      rintro _ w14 @⟨_, _, x14, g14, hiv⟩
      have hle14 : x.at' ≤ x14.at' := Nat.le_trans hle13 g14.le
      have R14 : Aside _ := R13.out.step g14 hpl
      obtain ⟨hc14, hf14⟩ := row_cells R14.out.a
      have hl14 := lt_of_block R14.out.a
      try clear hc13 hf13
      obtain ⟨ai, mi, ci, hiv0⟩ : ∃ a m c, _ = Value.slice a m c := hiv.form
      subst hiv0
      have hbi : w.heap.size ≤ w13.heap.size := R13.out.g.kb.size
      have hbr : w0.heap.size < w13.heap.size := lt_of_block R13.out.a
      have V14 : Aside _ := hiv.frame (w' := w14.setCell ⟨w0.heap.size, 4, none⟩ (.slice ai mi ci)) fun z hz _ => Below.heap_setCell _ _ _ _ (by show z ≠ w0.heap.size; (try simp at hz); omega)
      have R14 : Aside _ := R14.out.set hpl htl 4 (.slice ai mi ci) #[.string nm2, .slice a5 n5 c5, .slice a9 n9 c9, .slice a12 n12 c12, .slice ai mi ci, .int .i64 AT] rfl
      clear hiv
      go_wp2_with (fail)
      refine (take_in R14.out.g.ps _).mono ?_
      rintro _ w15 @⟨_, _, x15, g15, rfl, _⟩
      have hle15 : x.at' ≤ x15.at' := Nat.le_trans hle14 g15.le
      have R15 : Aside _ := R14.out.step g15 hpl
      obtain ⟨hc15, hf15⟩ := row_cells R15.out.a
      have hl15 := lt_of_block R15.out.a
      try clear hc14 hf14
      have V15 : Aside _ := V14.out.frame fun z hz hl => g15.kb.same z hl (by (try simp at hz); omega)
      obtain ⟨hrc, hrf⟩ := row_cells R15.out.r0
      have hrl := lt_of_block R15.out.r0
      have R15 : Aside _ := R15.out.res hpl htl 0 (.string nm2) #[.string nm2, .slice none 0 0, .slice none 0 0, .slice none 0 0, .slice none 0 0, .int .i64 0] rfl
      have V15 : Aside _ := V15.out.set (p := ⟨w.heap.size, 0, none⟩) (fun z hz => by show z ≠ w.heap.size; (try simp at hz); omega) (.string nm2)
      have R15 : Aside _ := R15.out.res hpl htl 1 (.slice a5 n5 c5) #[.string nm2, .slice a5 n5 c5, .slice none 0 0, .slice none 0 0, .slice none 0 0, .int .i64 0] rfl
      have V15 : Aside _ := V15.out.set (p := ⟨w.heap.size, 1, none⟩) (fun z hz => by show z ≠ w.heap.size; (try simp at hz); omega) (.slice a5 n5 c5)
      have R15 : Aside _ := R15.out.res hpl htl 2 (.slice a9 n9 c9) #[.string nm2, .slice a5 n5 c5, .slice a9 n9 c9, .slice none 0 0, .slice none 0 0, .int .i64 0] rfl
      have V15 : Aside _ := V15.out.set (p := ⟨w.heap.size, 2, none⟩) (fun z hz => by show z ≠ w.heap.size; (try simp at hz); omega) (.slice a9 n9 c9)
      have R15 : Aside _ := R15.out.res hpl htl 3 (.slice a12 n12 c12) #[.string nm2, .slice a5 n5 c5, .slice a9 n9 c9, .slice a12 n12 c12, .slice none 0 0, .int .i64 0] rfl
      have V15 : Aside _ := V15.out.set (p := ⟨w.heap.size, 3, none⟩) (fun z hz => by show z ≠ w.heap.size; (try simp at hz); omega) (.slice a12 n12 c12)
      have R15 : Aside _ := R15.out.res hpl htl 4 (.slice ai mi ci) #[.string nm2, .slice a5 n5 c5, .slice a9 n9 c9, .slice a12 n12 c12, .slice ai mi ci, .int .i64 0] rfl
      have V15 : Aside _ := V15.out.set (p := ⟨w.heap.size, 4, none⟩) (fun z hz => by show z ≠ w.heap.size; (try simp at hz); omega) (.slice ai mi ci)
      have R15 : Aside _ := R15.out.res hpl htl 5 (.int .i64 AT) #[.string nm2, .slice a5 n5 c5, .slice a9 n9 c9, .slice a12 n12 c12, .slice ai mi ci, .int .i64 AT] rfl
      have V15 : Aside _ := V15.out.set (p := ⟨w.heap.size, 5, none⟩) (fun z hz => by show z ≠ w.heap.size; (try simp at hz); omega) (.int .i64 AT)
      have hpg : Aside (Prog x x15) := fun h => Nat.lt_of_lt_of_le (hpr1 (er0 g2 (er0 g3 (er0 g4 (er0 g5 (er0 g6 (er0 g7 (er0 g8 (er0 g9 (er0 g10 (er0 g11 (er0 g12 (er0 g13 (er0 g14 (er0 g15 h))))))))))))))) (Nat.le_trans g2.le (Nat.le_trans g3.le (Nat.le_trans g4.le (Nat.le_trans g5.le (Nat.le_trans g6.le (Nat.le_trans g7.le (Nat.le_trans g8.le (Nat.le_trans g9.le (Nat.le_trans g10.le (Nat.le_trans g11.le (Nat.le_trans g12.le (Nat.le_trans g13.le (Nat.le_trans g14.le (g15.le))))))))))))))
      have VF : Aside _ := V15.out.mono (E' := x15.e = 0) (B' := (w.heap.size ≤ ·)) (fun z hz => by show w.heap.size ≤ z; (try simp at hz); omega) (fun h => er0 g15 h)
      go_wp2
      refine bodyPost_ret (results_cell_row rfl _ _ w.heap.size 40 _ _ _ (by rfl) R15.out.r0 Try.underlying40 rfl (by kernel_rfl)) rfl ?_
      exact .mk R15.out.g ⟨.mk _ _ _ _ _ _ _ _ _ _ _ _ _ _ VF.out, hpg.out⟩
  ·
    go_wp2_with (fail)
    refine (take_in R4.out.g.ps _).mono ?_
    rintro _ w5 @⟨_, _, x5, g5, rfl, _⟩
    have hle5 : x.at' ≤ x5.at' := Nat.le_trans hle4 g5.le
    have R5 : Aside _ := R4.out.step g5 hpl
    obtain ⟨hc5, hf5⟩ := row_cells R5.out.a
    have hl5 := lt_of_block R5.out.a
    try clear hc4 hf4
    go_wp2_with (fail)
    refine (take_in R5.out.g.ps _).mono ?_
    rintro _ w6 @⟨_, _, x6, g6, rfl, _⟩
    have hle6 : x.at' ≤ x6.at' := Nat.le_trans hle5 g6.le
    have R6 : Aside _ := R5.out.step g6 hpl
    obtain ⟨hc6, hf6⟩ := row_cells R6.out.a
    have hl6 := lt_of_block R6.out.a
    try clear hc5 hf5
    go_wp2_with (fail)
    refine (take_in R6.out.g.ps _).mono ?_
    rintro _ w7 @⟨_, _, x7, g7, rfl, _⟩
    have hle7 : x.at' ≤ x7.at' := Nat.le_trans hle6 g7.le
    have R7 : Aside _ := R6.out.step g7 hpl
    obtain ⟨hc7, hf7⟩ := row_cells R7.out.a
    have hl7 := lt_of_block R7.out.a
    try clear hc6 hf6
    go_wp2_with (fail)
    refine (decls_in R7.out.g.ps).mono ?_
    rintro _ w8 @⟨_, _, x8, g8, ⟨a8, n8, c8⟩⟩
    have hle8 : x.at' ≤ x8.at' := Nat.le_trans hle7 g8.le
    have R8 : Aside _ := R7.out.step g8 hpl
    obtain ⟨hc8, hf8⟩ := row_cells R8.out.a
    have hl8 := lt_of_block R8.out.a
    try clear hc7 hf7
    have R8 : Aside _ := R8.out.set hpl htl 2 (.slice a8 n8 c8) #[.string nm2, .slice none 0 0, .slice a8 n8 c8, .slice none 0 0, .slice none 0 0, .int .i64 AT] rfl
    go_wp2_with (fail)
    refine (take_in R8.out.g.ps _).mono ?_
    rintro _ w9 @⟨_, _, x9, g9, rfl, _⟩
    have hle9 : x.at' ≤ x9.at' := Nat.le_trans hle8 g9.le
    have R9 : Aside _ := R8.out.step g9 hpl
    obtain ⟨hc9, hf9⟩ := row_cells R9.out.a
    have hl9 := lt_of_block R9.out.a
    try clear hc8 hf8
    go_wp2_with (fail)
    refine (maybe_in R9.out.g.ps _).mono ?_
    rintro _ w10 @⟨_, _, x10, g10, hbb⟩
    have hle10 : x.at' ≤ x10.at' := Nat.le_trans hle9 g10.le
    have R10 : Aside _ := R9.out.step g10 hpl
    obtain ⟨hc10, hf10⟩ := row_cells R10.out.a
    have hl10 := lt_of_block R10.out.a
    try clear hc9 hf9
    obtain ⟨b10, rfl⟩ : ∃ b, _ = Value.bool b := by rcases hbb with ⟨hb, _⟩ | ⟨hb, _⟩ <;> exact ⟨_, hb⟩
    clear hbb
    cases b10
    ·
      go_wp2_with (fail)
      refine (take_in R10.out.g.ps _).mono ?_
      rintro _ w11 @⟨_, _, x11, g11, rfl, _⟩
      have hle11 : x.at' ≤ x11.at' := Nat.le_trans hle10 g11.le
      have R11 : Aside _ := R10.out.step g11 hpl
      obtain ⟨hc11, hf11⟩ := row_cells R11.out.a
      have hl11 := lt_of_block R11.out.a
      try clear hc10 hf10
      go_wp2_with (fail)
      refine (items_any R11.out.g.ps).mono ?_
      rintro _ w12 @⟨_, _, x12, g12, hiv⟩
      have hle12 : x.at' ≤ x12.at' := Nat.le_trans hle11 g12.le
      have R12 : Aside _ := R11.out.step g12 hpl
      obtain ⟨hc12, hf12⟩ := row_cells R12.out.a
      have hl12 := lt_of_block R12.out.a
      try clear hc11 hf11
      obtain ⟨ai, mi, ci, hiv0⟩ : ∃ a m c, _ = Value.slice a m c := hiv.form
      subst hiv0
      have hbi : w.heap.size ≤ w11.heap.size := R11.out.g.kb.size
      have hbr : w0.heap.size < w11.heap.size := lt_of_block R11.out.a
      have V12 : Aside _ := hiv.frame (w' := w12.setCell ⟨w0.heap.size, 4, none⟩ (.slice ai mi ci)) fun z hz _ => Below.heap_setCell _ _ _ _ (by show z ≠ w0.heap.size; (try simp at hz); omega)
      have R12 : Aside _ := R12.out.set hpl htl 4 (.slice ai mi ci) #[.string nm2, .slice none 0 0, .slice a8 n8 c8, .slice none 0 0, .slice ai mi ci, .int .i64 AT] rfl
      clear hiv
      go_wp2_with (fail)
      refine (take_in R12.out.g.ps _).mono ?_
      rintro _ w13 @⟨_, _, x13, g13, rfl, _⟩
      have hle13 : x.at' ≤ x13.at' := Nat.le_trans hle12 g13.le
      have R13 : Aside _ := R12.out.step g13 hpl
      obtain ⟨hc13, hf13⟩ := row_cells R13.out.a
      have hl13 := lt_of_block R13.out.a
      try clear hc12 hf12
      have V13 : Aside _ := V12.out.frame fun z hz hl => g13.kb.same z hl (by (try simp at hz); omega)
      obtain ⟨hrc, hrf⟩ := row_cells R13.out.r0
      have hrl := lt_of_block R13.out.r0
      have R13 : Aside _ := R13.out.res hpl htl 0 (.string nm2) #[.string nm2, .slice none 0 0, .slice none 0 0, .slice none 0 0, .slice none 0 0, .int .i64 0] rfl
      have V13 : Aside _ := V13.out.set (p := ⟨w.heap.size, 0, none⟩) (fun z hz => by show z ≠ w.heap.size; (try simp at hz); omega) (.string nm2)
      have R13 : Aside _ := R13.out.res hpl htl 1 (.slice none 0 0) #[.string nm2, .slice none 0 0, .slice none 0 0, .slice none 0 0, .slice none 0 0, .int .i64 0] rfl
      have V13 : Aside _ := V13.out.set (p := ⟨w.heap.size, 1, none⟩) (fun z hz => by show z ≠ w.heap.size; (try simp at hz); omega) (.slice none 0 0)
      have R13 : Aside _ := R13.out.res hpl htl 2 (.slice a8 n8 c8) #[.string nm2, .slice none 0 0, .slice a8 n8 c8, .slice none 0 0, .slice none 0 0, .int .i64 0] rfl
      have V13 : Aside _ := V13.out.set (p := ⟨w.heap.size, 2, none⟩) (fun z hz => by show z ≠ w.heap.size; (try simp at hz); omega) (.slice a8 n8 c8)
      have R13 : Aside _ := R13.out.res hpl htl 3 (.slice none 0 0) #[.string nm2, .slice none 0 0, .slice a8 n8 c8, .slice none 0 0, .slice none 0 0, .int .i64 0] rfl
      have V13 : Aside _ := V13.out.set (p := ⟨w.heap.size, 3, none⟩) (fun z hz => by show z ≠ w.heap.size; (try simp at hz); omega) (.slice none 0 0)
      have R13 : Aside _ := R13.out.res hpl htl 4 (.slice ai mi ci) #[.string nm2, .slice none 0 0, .slice a8 n8 c8, .slice none 0 0, .slice ai mi ci, .int .i64 0] rfl
      have V13 : Aside _ := V13.out.set (p := ⟨w.heap.size, 4, none⟩) (fun z hz => by show z ≠ w.heap.size; (try simp at hz); omega) (.slice ai mi ci)
      have R13 : Aside _ := R13.out.res hpl htl 5 (.int .i64 AT) #[.string nm2, .slice none 0 0, .slice a8 n8 c8, .slice none 0 0, .slice ai mi ci, .int .i64 AT] rfl
      have V13 : Aside _ := V13.out.set (p := ⟨w.heap.size, 5, none⟩) (fun z hz => by show z ≠ w.heap.size; (try simp at hz); omega) (.int .i64 AT)
      have hpg : Aside (Prog x x13) := fun h => Nat.lt_of_lt_of_le (hpr1 (er0 g2 (er0 g3 (er0 g4 (er0 g5 (er0 g6 (er0 g7 (er0 g8 (er0 g9 (er0 g10 (er0 g11 (er0 g12 (er0 g13 h))))))))))))) (Nat.le_trans g2.le (Nat.le_trans g3.le (Nat.le_trans g4.le (Nat.le_trans g5.le (Nat.le_trans g6.le (Nat.le_trans g7.le (Nat.le_trans g8.le (Nat.le_trans g9.le (Nat.le_trans g10.le (Nat.le_trans g11.le (Nat.le_trans g12.le (g13.le))))))))))))
      have VF : Aside _ := V13.out.mono (E' := x13.e = 0) (B' := (w.heap.size ≤ ·)) (fun z hz => by show w.heap.size ≤ z; (try simp at hz); omega) (fun h => er0 g13 h)
      go_wp2
      refine bodyPost_ret (results_cell_row rfl _ _ w.heap.size 40 _ _ _ (by rfl) R13.out.r0 Try.underlying40 rfl (by kernel_rfl)) rfl ?_
      exact .mk R13.out.g ⟨.mk _ _ _ _ _ _ _ _ _ _ _ _ _ _ VF.out, hpg.out⟩
    ·
      go_wp2_with (fail)
      refine (locals_in R10.out.g.ps).mono ?_
      rintro _ w11 @⟨_, _, x11, g11, ⟨a11, n11, c11⟩⟩
      have hle11 : x.at' ≤ x11.at' := Nat.le_trans hle10 g11.le
      have R11 : Aside _ := R10.out.step g11 hpl
      obtain ⟨hc11, hf11⟩ := row_cells R11.out.a
      have hl11 := lt_of_block R11.out.a
      try clear hc10 hf10
      have R11 : Aside _ := R11.out.set hpl htl 3 (.slice a11 n11 c11) #[.string nm2, .slice none 0 0, .slice a8 n8 c8, .slice a11 n11 c11, .slice none 0 0, .int .i64 AT] rfl
      go_wp2_with (fail)
      refine (take_in R11.out.g.ps _).mono ?_
      rintro _ w12 @⟨_, _, x12, g12, rfl, _⟩
      have hle12 : x.at' ≤ x12.at' := Nat.le_trans hle11 g12.le
      have R12 : Aside _ := R11.out.step g12 hpl
      obtain ⟨hc12, hf12⟩ := row_cells R12.out.a
      have hl12 := lt_of_block R12.out.a
      try clear hc11 hf11
      go_wp2_with (fail)
      refine (items_any R12.out.g.ps).mono ?_
      rintro _ w13 @⟨_, _, x13, g13, hiv⟩
      have hle13 : x.at' ≤ x13.at' := Nat.le_trans hle12 g13.le
      have R13 : Aside _ := R12.out.step g13 hpl
      obtain ⟨hc13, hf13⟩ := row_cells R13.out.a
      have hl13 := lt_of_block R13.out.a
      try clear hc12 hf12
      obtain ⟨ai, mi, ci, hiv0⟩ : ∃ a m c, _ = Value.slice a m c := hiv.form
      subst hiv0
      have hbi : w.heap.size ≤ w12.heap.size := R12.out.g.kb.size
      have hbr : w0.heap.size < w12.heap.size := lt_of_block R12.out.a
      have V13 : Aside _ := hiv.frame (w' := w13.setCell ⟨w0.heap.size, 4, none⟩ (.slice ai mi ci)) fun z hz _ => Below.heap_setCell _ _ _ _ (by show z ≠ w0.heap.size; (try simp at hz); omega)
      have R13 : Aside _ := R13.out.set hpl htl 4 (.slice ai mi ci) #[.string nm2, .slice none 0 0, .slice a8 n8 c8, .slice a11 n11 c11, .slice ai mi ci, .int .i64 AT] rfl
      clear hiv
      go_wp2_with (fail)
      refine (take_in R13.out.g.ps _).mono ?_
      rintro _ w14 @⟨_, _, x14, g14, rfl, _⟩
      have hle14 : x.at' ≤ x14.at' := Nat.le_trans hle13 g14.le
      have R14 : Aside _ := R13.out.step g14 hpl
      obtain ⟨hc14, hf14⟩ := row_cells R14.out.a
      have hl14 := lt_of_block R14.out.a
      try clear hc13 hf13
      have V14 : Aside _ := V13.out.frame fun z hz hl => g14.kb.same z hl (by (try simp at hz); omega)
      obtain ⟨hrc, hrf⟩ := row_cells R14.out.r0
      have hrl := lt_of_block R14.out.r0
      have R14 : Aside _ := R14.out.res hpl htl 0 (.string nm2) #[.string nm2, .slice none 0 0, .slice none 0 0, .slice none 0 0, .slice none 0 0, .int .i64 0] rfl
      have V14 : Aside _ := V14.out.set (p := ⟨w.heap.size, 0, none⟩) (fun z hz => by show z ≠ w.heap.size; (try simp at hz); omega) (.string nm2)
      have R14 : Aside _ := R14.out.res hpl htl 1 (.slice none 0 0) #[.string nm2, .slice none 0 0, .slice none 0 0, .slice none 0 0, .slice none 0 0, .int .i64 0] rfl
      have V14 : Aside _ := V14.out.set (p := ⟨w.heap.size, 1, none⟩) (fun z hz => by show z ≠ w.heap.size; (try simp at hz); omega) (.slice none 0 0)
      have R14 : Aside _ := R14.out.res hpl htl 2 (.slice a8 n8 c8) #[.string nm2, .slice none 0 0, .slice a8 n8 c8, .slice none 0 0, .slice none 0 0, .int .i64 0] rfl
      have V14 : Aside _ := V14.out.set (p := ⟨w.heap.size, 2, none⟩) (fun z hz => by show z ≠ w.heap.size; (try simp at hz); omega) (.slice a8 n8 c8)
      have R14 : Aside _ := R14.out.res hpl htl 3 (.slice a11 n11 c11) #[.string nm2, .slice none 0 0, .slice a8 n8 c8, .slice a11 n11 c11, .slice none 0 0, .int .i64 0] rfl
      have V14 : Aside _ := V14.out.set (p := ⟨w.heap.size, 3, none⟩) (fun z hz => by show z ≠ w.heap.size; (try simp at hz); omega) (.slice a11 n11 c11)
      have R14 : Aside _ := R14.out.res hpl htl 4 (.slice ai mi ci) #[.string nm2, .slice none 0 0, .slice a8 n8 c8, .slice a11 n11 c11, .slice ai mi ci, .int .i64 0] rfl
      have V14 : Aside _ := V14.out.set (p := ⟨w.heap.size, 4, none⟩) (fun z hz => by show z ≠ w.heap.size; (try simp at hz); omega) (.slice ai mi ci)
      have R14 : Aside _ := R14.out.res hpl htl 5 (.int .i64 AT) #[.string nm2, .slice none 0 0, .slice a8 n8 c8, .slice a11 n11 c11, .slice ai mi ci, .int .i64 AT] rfl
      have V14 : Aside _ := V14.out.set (p := ⟨w.heap.size, 5, none⟩) (fun z hz => by show z ≠ w.heap.size; (try simp at hz); omega) (.int .i64 AT)
      have hpg : Aside (Prog x x14) := fun h => Nat.lt_of_lt_of_le (hpr1 (er0 g2 (er0 g3 (er0 g4 (er0 g5 (er0 g6 (er0 g7 (er0 g8 (er0 g9 (er0 g10 (er0 g11 (er0 g12 (er0 g13 (er0 g14 h)))))))))))))) (Nat.le_trans g2.le (Nat.le_trans g3.le (Nat.le_trans g4.le (Nat.le_trans g5.le (Nat.le_trans g6.le (Nat.le_trans g7.le (Nat.le_trans g8.le (Nat.le_trans g9.le (Nat.le_trans g10.le (Nat.le_trans g11.le (Nat.le_trans g12.le (Nat.le_trans g13.le (g14.le)))))))))))))
      have VF : Aside _ := V14.out.mono (E' := x14.e = 0) (B' := (w.heap.size ≤ ·)) (fun z hz => by show w.heap.size ≤ z; (try simp at hz); omega) (fun h => er0 g14 h)
      go_wp2
      refine bodyPost_ret (results_cell_row rfl _ _ w.heap.size 40 _ _ _ (by rfl) R14.out.r0 Try.underlying40 rfl (by kernel_rfl)) rfl ?_
      exact .mk R14.out.g ⟨.mk _ _ _ _ _ _ _ _ _ _ _ _ _ _ VF.out, hpg.out⟩
end Go.Pa
