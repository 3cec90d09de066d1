/-
  word: rep, cast, tick, map (own work).
-/
import Derived.Test.YtlonlfiaclacdaaPaF
import Derived.Deep.RegionLaw
namespace Go.Pa
open Go Go.RowKit Go.Proofs

set_option maxHeartbeats 16000000 in
set_option maxRecDepth 100000 in
theorem word_rep {k : Nat} (he : ∀ j, j < k → CExp 80 j) (hl : ∀ j, j < k → CKids j) (S : Src) (w : World) (x : St) (hP : PS S w x) (hx0 : x.e = 0) (h5 : (S.t x.at').k ≠ 5) (hk : S.len - x.at' ≤ k) (hs : (S.t x.at').s.toList = [114, 101, 112]) :
    Calls Try.prog 95 #[.pointer (some ⟨S.pb, 0, none⟩), (S.t x.at').val] w (Ret S w x fun v w' x' => ExpP (w.heap.size ≤ ·) w' x x' v) := by
  have hpl := hP.plt
  have htl := hP.tlt
  have hxl := hP.lt
  have hn := next_lt hxl h5
  have hkk : S.len - (x.at' + 1) < k := by omega
  have HE : Hid _ := he
  have HL : Hid _ := hl
  have hcap := S.hlen
  have hpl1 : S.pb < w.heap.size + 1 := by omega
  have hpl2 : S.pb < w.heap.size + 1 + 1 := by omega
  have c1 := hP.c1
  have f1 := hP.fz 1
  have g0 : Go1 S w x (w.setCell ⟨S.pb, 1, none⟩ (.int .i64 ((x.at' : Int) + 1))) { x with at' := x.at' + 1 } := by
    have hp := hP.set1 hn
    rw [show ((x.at' + 1 : Nat) : Int) = (x.at' : Int) + 1 by omega] at hp
    exact ⟨hp, (KB.refl S w).setCell (.inr rfl) _, by simp, by simp⟩
  clear he hl h5
  generalize S.t x.at' = T at *
  obtain ⟨K, SS, N, TK, TL, AT⟩ := T
  dsimp only at hs
  dsimp only [Tk.val]
  have I0 : Aside _ := WdK.three g0 (by simp) ⟨K, SS, N, TK, TL, AT⟩ ⟨0, 0, ⟨#[]⟩, 0, 0, 0, 0, none, 0, 0, AT⟩ rfl (fun _ => Nat.le_refl _)
  have hle0 : x.at' + 1 ≤ ({ x with at' := x.at' + 1 } : St).at' := Nat.le_refl _
  clear g0
  go_enter Try.func95, Try.ntmps95
  go_wp2_with (fail)
  refine (take_in I0.out.i.g.ps _).mono ?_
  rintro _ w1 @⟨_, _, x1, g1, rfl, _⟩
  have hle1 := Nat.le_trans hle0 g1.le
  obtain ⟨hxc1, hxf1⟩ := row_cells (I0.out.kb g1 hpl).i.a
  have hxl1 := lt_of_block (I0.out.kb g1 hpl).i.a
  simp only [ER.row] at hxc1
  obtain ⟨htc1, htf1⟩ := row_cells (I0.out.kb g1 hpl).i.t
  have htl1 := lt_of_block (I0.out.kb g1 hpl).i.t
  simp only [Tk.row] at htc1
  have I1 : Aside _ := I0.out.kb g1 hpl
  have I1 : Aside _ := I1.out.set hpl htl 0 (.int .i64 17) ⟨17, 0, ⟨#[]⟩, 0, 0, 0, 0, none, 0, 0, AT⟩ rfl rfl
  go_wp2_with (fail)
  refine (HE.out (S.len - (x.at' + 1)) hkk S _ _ I1.out.i.g.ps (Nat.sub_le_sub_left hle1 _)).mono ?_
  rintro _ w2 @⟨_, _, x2, g2, ⟨p2, t2, hE2, hpr2⟩⟩
  have hle2 := Nat.le_trans hle1 g2.le
  obtain ⟨hxc2, hxf2⟩ := row_cells (I1.out.kb g2 hpl).i.a
  have hxl2 := lt_of_block (I1.out.kb g2 hpl).i.a
  simp only [ER.row] at hxc2
  obtain ⟨htc2, htf2⟩ := row_cells (I1.out.kb g2 hpl).i.t
  have htl2 := lt_of_block (I1.out.kb g2 hpl).i.t
  simp only [Tk.row] at htc2
  try clear hxc1 hxf1
  try clear htc1 htf1
  have I2 : Aside _ := I1.out.one g2 hpl htl hE2 hpr2 ⟨17, 0, ⟨#[]⟩, 0, 0, 0, 0, some ⟨w2.heap.size, 0, none⟩, 1, 1, AT⟩ rfl rfl
  clear hE2 hpr2
  simp only [ER.row]
  go_wp2_with (fail)
  refine (take_in I2.out.i.g.ps _).mono ?_
  rintro _ w3 @⟨_, _, x3, g3, rfl, _⟩
  have hle3 := Nat.le_trans hle2 g3.le
  obtain ⟨hxc3, hxf3⟩ := row_cells (I2.out.kb g3 hpl).i.a
  have hxl3 := lt_of_block (I2.out.kb g3 hpl).i.a
  simp only [ER.row] at hxc3
  obtain ⟨htc3, htf3⟩ := row_cells (I2.out.kb g3 hpl).i.t
  have htl3 := lt_of_block (I2.out.kb g3 hpl).i.t
  simp only [Tk.row] at htc3
  try clear hxc2 hxf2
  try clear htc2 htf2
  have I3 : Aside _ := I2.out.kb g3 hpl
  go_wp2_with (fail)
  refine (size_in I3.out.i.g.ps).mono ?_
  rintro _ w4 @⟨_, _, x4, g4, ⟨n4, rfl⟩, _⟩
  have hle4 := Nat.le_trans hle3 g4.le
  obtain ⟨hxc4, hxf4⟩ := row_cells (I3.out.kb g4 hpl).i.a
  have hxl4 := lt_of_block (I3.out.kb g4 hpl).i.a
  simp only [ER.row] at hxc4
  obtain ⟨htc4, htf4⟩ := row_cells (I3.out.kb g4 hpl).i.t
  have htl4 := lt_of_block (I3.out.kb g4 hpl).i.t
  simp only [Tk.row] at htc4
  try clear hxc3 hxf3
  try clear htc3 htf3
  have I4 : Aside _ := I3.out.kb g4 hpl
  have I4 : Aside _ := I4.out.set hpl htl 5 (.int .i64 n4) ⟨17, 0, ⟨#[]⟩, 0, 0, n4, 0, some ⟨w2.heap.size, 0, none⟩, 1, 1, AT⟩ rfl rfl
  go_wp2_with (fail)
  refine (take_in I4.out.i.g.ps _).mono ?_
  rintro _ w5 @⟨_, _, x5, g5, rfl, _⟩
  have hle5 := Nat.le_trans hle4 g5.le
  obtain ⟨hxc5, hxf5⟩ := row_cells (I4.out.kb g5 hpl).i.a
  have hxl5 := lt_of_block (I4.out.kb g5 hpl).i.a
  simp only [ER.row] at hxc5
  obtain ⟨htc5, htf5⟩ := row_cells (I4.out.kb g5 hpl).i.t
  have htl5 := lt_of_block (I4.out.kb g5 hpl).i.t
  simp only [Tk.row] at htc5
  try clear hxc4 hxf4
  try clear htc4 htf4
  have I5 : Aside _ := I4.out.kb g5 hpl
  obtain ⟨hrc, hrf⟩ := row_cells I5.out.i.r
  have hrl := lt_of_block I5.out.i.r
  simp only [zrow] at hrc
  have E : Aside _ := I5.out.fin hpl htl
  go_wp2
  exact ret_exp (p := ⟨17, 0, ⟨#[]⟩, 0, 0, n4, 0, some ⟨w2.heap.size, 0, none⟩, 1, 1, AT⟩) (r := w.heap.size + 1) rfl (by rfl) E.out.1 rfl (.mk E.out.2.1 E.out.2.2)

set_option maxHeartbeats 16000000 in
set_option maxRecDepth 100000 in
theorem word_cast {k : Nat} (he : ∀ j, j < k → CExp 80 j) (hl : ∀ j, j < k → CKids j) (S : Src) (w : World) (x : St) (hP : PS S w x) (hx0 : x.e = 0) (h5 : (S.t x.at').k ≠ 5) (hk : S.len - x.at' ≤ k) (hs : (S.t x.at').s.toList = [99, 97, 115, 116]) :
    Calls Try.prog 95 #[.pointer (some ⟨S.pb, 0, none⟩), (S.t x.at').val] w (Ret S w x fun v w' x' => ExpP (w.heap.size ≤ ·) w' x x' v) := by
  have hpl := hP.plt
  have htl := hP.tlt
  have hxl := hP.lt
  have hn := next_lt hxl h5
  have hkk : S.len - (x.at' + 1) < k := by omega
  have HE : Hid _ := he
  have HL : Hid _ := hl
  have hcap := S.hlen
  have hpl1 : S.pb < w.heap.size + 1 := by omega
  have hpl2 : S.pb < w.heap.size + 1 + 1 := by omega
  have c1 := hP.c1
  have f1 := hP.fz 1
  have g0 : Go1 S w x (w.setCell ⟨S.pb, 1, none⟩ (.int .i64 ((x.at' : Int) + 1))) { x with at' := x.at' + 1 } := by
    have hp := hP.set1 hn
    rw [show ((x.at' + 1 : Nat) : Int) = (x.at' : Int) + 1 by omega] at hp
    exact ⟨hp, (KB.refl S w).setCell (.inr rfl) _, by simp, by simp⟩
  clear he hl h5
  generalize S.t x.at' = T at *
  obtain ⟨K, SS, N, TK, TL, AT⟩ := T
  dsimp only at hs
  dsimp only [Tk.val]
  have I0 : Aside _ := WdK.three g0 (by simp) ⟨K, SS, N, TK, TL, AT⟩ ⟨0, 0, ⟨#[]⟩, 0, 0, 0, 0, none, 0, 0, AT⟩ rfl (fun _ => Nat.le_refl _)
  have hle0 : x.at' + 1 ≤ ({ x with at' := x.at' + 1 } : St).at' := Nat.le_refl _
  clear g0
  go_enter Try.func95, Try.ntmps95
  go_wp2_with (fail)
  refine (take_in I0.out.i.g.ps _).mono ?_
  rintro _ w1 @⟨_, _, x1, g1, rfl, _⟩
  have hle1 := Nat.le_trans hle0 g1.le
  obtain ⟨hxc1, hxf1⟩ := row_cells (I0.out.kb g1 hpl).i.a
  have hxl1 := lt_of_block (I0.out.kb g1 hpl).i.a
  simp only [ER.row] at hxc1
  obtain ⟨htc1, htf1⟩ := row_cells (I0.out.kb g1 hpl).i.t
  have htl1 := lt_of_block (I0.out.kb g1 hpl).i.t
  simp only [Tk.row] at htc1
  have I1 : Aside _ := I0.out.kb g1 hpl
  have I1 : Aside _ := I1.out.set hpl htl 0 (.int .i64 11) ⟨11, 0, ⟨#[]⟩, 0, 0, 0, 0, none, 0, 0, AT⟩ rfl rfl
  go_wp2_with (fail)
  refine (kind_in I1.out.i.g.ps).mono ?_
  rintro _ w2 @⟨_, _, x2, g2, ⟨n2, rfl⟩, _⟩
  have hle2 := Nat.le_trans hle1 g2.le
  obtain ⟨hxc2, hxf2⟩ := row_cells (I1.out.kb g2 hpl).i.a
  have hxl2 := lt_of_block (I1.out.kb g2 hpl).i.a
  simp only [ER.row] at hxc2
  obtain ⟨htc2, htf2⟩ := row_cells (I1.out.kb g2 hpl).i.t
  have htl2 := lt_of_block (I1.out.kb g2 hpl).i.t
  simp only [Tk.row] at htc2
  try clear hxc1 hxf1
  try clear htc1 htf1
  have I2 : Aside _ := I1.out.kb g2 hpl
  have I2 : Aside _ := I2.out.set hpl htl 3 (.int .i64 n2) ⟨11, 0, ⟨#[]⟩, n2, 0, 0, 0, none, 0, 0, AT⟩ rfl rfl
  have I2 : Aside _ := I2.out.set hpl htl 4 (.int .i64 0) ⟨11, 0, ⟨#[]⟩, n2, 0, 0, 0, none, 0, 0, AT⟩ rfl rfl
  go_wp2_with (fail)
  refine (take_in I2.out.i.g.ps _).mono ?_
  rintro _ w3 @⟨_, _, x3, g3, rfl, _⟩
  have hle3 := Nat.le_trans hle2 g3.le
  obtain ⟨hxc3, hxf3⟩ := row_cells (I2.out.kb g3 hpl).i.a
  have hxl3 := lt_of_block (I2.out.kb g3 hpl).i.a
  simp only [ER.row] at hxc3
  obtain ⟨htc3, htf3⟩ := row_cells (I2.out.kb g3 hpl).i.t
  have htl3 := lt_of_block (I2.out.kb g3 hpl).i.t
  simp only [Tk.row] at htc3
  try clear hxc2 hxf2
  try clear htc2 htf2
  have I3 : Aside _ := I2.out.kb g3 hpl
  go_wp2_with (fail)
  refine (HE.out (S.len - (x.at' + 1)) hkk S _ _ I3.out.i.g.ps (Nat.sub_le_sub_left hle3 _)).mono ?_
  rintro _ w4 @⟨_, _, x4, g4, ⟨p4, t4, hE4, hpr4⟩⟩
  have hle4 := Nat.le_trans hle3 g4.le
  obtain ⟨hxc4, hxf4⟩ := row_cells (I3.out.kb g4 hpl).i.a
  have hxl4 := lt_of_block (I3.out.kb g4 hpl).i.a
  simp only [ER.row] at hxc4
  obtain ⟨htc4, htf4⟩ := row_cells (I3.out.kb g4 hpl).i.t
  have htl4 := lt_of_block (I3.out.kb g4 hpl).i.t
  simp only [Tk.row] at htc4
  try clear hxc3 hxf3
  try clear htc3 htf3
  have I4 : Aside _ := I3.out.one g4 hpl htl hE4 hpr4 ⟨11, 0, ⟨#[]⟩, n2, 0, 0, 0, some ⟨w4.heap.size, 0, none⟩, 1, 1, AT⟩ rfl rfl
  clear hE4 hpr4
  simp only [ER.row]
  go_wp2_with (fail)
  refine (take_in I4.out.i.g.ps _).mono ?_
  rintro _ w5 @⟨_, _, x5, g5, rfl, _⟩
  have hle5 := Nat.le_trans hle4 g5.le
  obtain ⟨hxc5, hxf5⟩ := row_cells (I4.out.kb g5 hpl).i.a
  have hxl5 := lt_of_block (I4.out.kb g5 hpl).i.a
  simp only [ER.row] at hxc5
  obtain ⟨htc5, htf5⟩ := row_cells (I4.out.kb g5 hpl).i.t
  have htl5 := lt_of_block (I4.out.kb g5 hpl).i.t
  simp only [Tk.row] at htc5
  try clear hxc4 hxf4
  try clear htc4 htf4
  have I5 : Aside _ := I4.out.kb g5 hpl
  obtain ⟨hrc, hrf⟩ := row_cells I5.out.i.r
  have hrl := lt_of_block I5.out.i.r
  simp only [zrow] at hrc
  have E : Aside _ := I5.out.fin hpl htl
  go_wp2
  exact ret_exp (p := ⟨11, 0, ⟨#[]⟩, n2, 0, 0, 0, some ⟨w4.heap.size, 0, none⟩, 1, 1, AT⟩) (r := w.heap.size + 1) rfl (by rfl) E.out.1 rfl (.mk E.out.2.1 E.out.2.2)

set_option maxHeartbeats 16000000 in
set_option maxRecDepth 100000 in
theorem word_tick {k : Nat} (he : ∀ j, j < k → CExp 80 j) (hl : ∀ j, j < k → CKids j) (S : Src) (w : World) (x : St) (hP : PS S w x) (hx0 : x.e = 0) (h5 : (S.t x.at').k ≠ 5) (hk : S.len - x.at' ≤ k) (hs : (S.t x.at').s.toList = [116, 105, 99, 107]) :
    Calls Try.prog 95 #[.pointer (some ⟨S.pb, 0, none⟩), (S.t x.at').val] w (Ret S w x fun v w' x' => ExpP (w.heap.size ≤ ·) w' x x' v) := by
  have hpl := hP.plt
  have htl := hP.tlt
  have hxl := hP.lt
  have hn := next_lt hxl h5
  have hkk : S.len - (x.at' + 1) < k := by omega
  have HE : Hid _ := he
  have HL : Hid _ := hl
  have hcap := S.hlen
  have hpl1 : S.pb < w.heap.size + 1 := by omega
  have hpl2 : S.pb < w.heap.size + 1 + 1 := by omega
  have c1 := hP.c1
  have f1 := hP.fz 1
  have g0 : Go1 S w x (w.setCell ⟨S.pb, 1, none⟩ (.int .i64 ((x.at' : Int) + 1))) { x with at' := x.at' + 1 } := by
    have hp := hP.set1 hn
    rw [show ((x.at' + 1 : Nat) : Int) = (x.at' : Int) + 1 by omega] at hp
    exact ⟨hp, (KB.refl S w).setCell (.inr rfl) _, by simp, by simp⟩
  clear he hl h5
  generalize S.t x.at' = T at *
  obtain ⟨K, SS, N, TK, TL, AT⟩ := T
  dsimp only at hs
  dsimp only [Tk.val]
  have I0 : Aside _ := WdK.three g0 (by simp) ⟨K, SS, N, TK, TL, AT⟩ ⟨0, 0, ⟨#[]⟩, 0, 0, 0, 0, none, 0, 0, AT⟩ rfl (fun _ => Nat.le_refl _)
  have hle0 : x.at' + 1 ≤ ({ x with at' := x.at' + 1 } : St).at' := Nat.le_refl _
  clear g0
  go_enter Try.func95, Try.ntmps95
  go_wp2_with (fail)
  refine (take_in I0.out.i.g.ps _).mono ?_
  rintro _ w1 @⟨_, _, x1, g1, rfl, _⟩
  have hle1 := Nat.le_trans hle0 g1.le
  obtain ⟨hxc1, hxf1⟩ := row_cells (I0.out.kb g1 hpl).i.a
  have hxl1 := lt_of_block (I0.out.kb g1 hpl).i.a
  simp only [ER.row] at hxc1
  obtain ⟨htc1, htf1⟩ := row_cells (I0.out.kb g1 hpl).i.t
  have htl1 := lt_of_block (I0.out.kb g1 hpl).i.t
  simp only [Tk.row] at htc1
  have I1 : Aside _ := I0.out.kb g1 hpl
  have I1 : Aside _ := I1.out.set hpl htl 0 (.int .i64 12) ⟨12, 0, ⟨#[]⟩, 0, 0, 0, 0, none, 0, 0, AT⟩ rfl rfl
  go_wp2_with (fail)
  refine (size_in I1.out.i.g.ps).mono ?_
  rintro _ w2 @⟨_, _, x2, g2, ⟨n2, rfl⟩, _⟩
  have hle2 := Nat.le_trans hle1 g2.le
  obtain ⟨hxc2, hxf2⟩ := row_cells (I1.out.kb g2 hpl).i.a
  have hxl2 := lt_of_block (I1.out.kb g2 hpl).i.a
  simp only [ER.row] at hxc2
  obtain ⟨htc2, htf2⟩ := row_cells (I1.out.kb g2 hpl).i.t
  have htl2 := lt_of_block (I1.out.kb g2 hpl).i.t
  simp only [Tk.row] at htc2
  try clear hxc1 hxf1
  try clear htc1 htf1
  have I2 : Aside _ := I1.out.kb g2 hpl
  have I2 : Aside _ := I2.out.set hpl htl 5 (.int .i64 n2) ⟨12, 0, ⟨#[]⟩, 0, 0, n2, 0, none, 0, 0, AT⟩ rfl rfl
  go_wp2_with (fail)
  refine (take_in I2.out.i.g.ps _).mono ?_
  rintro _ w3 @⟨_, _, x3, g3, rfl, _⟩
  have hle3 := Nat.le_trans hle2 g3.le
  obtain ⟨hxc3, hxf3⟩ := row_cells (I2.out.kb g3 hpl).i.a
  have hxl3 := lt_of_block (I2.out.kb g3 hpl).i.a
  simp only [ER.row] at hxc3
  obtain ⟨htc3, htf3⟩ := row_cells (I2.out.kb g3 hpl).i.t
  have htl3 := lt_of_block (I2.out.kb g3 hpl).i.t
  simp only [Tk.row] at htc3
  try clear hxc2 hxf2
  try clear htc2 htf2
  have I3 : Aside _ := I2.out.kb g3 hpl
  go_wp2_with (fail)
  refine (size_in I3.out.i.g.ps).mono ?_
  rintro _ w4 @⟨_, _, x4, g4, ⟨n4, rfl⟩, _⟩
  have hle4 := Nat.le_trans hle3 g4.le
  obtain ⟨hxc4, hxf4⟩ := row_cells (I3.out.kb g4 hpl).i.a
  have hxl4 := lt_of_block (I3.out.kb g4 hpl).i.a
  simp only [ER.row] at hxc4
  obtain ⟨htc4, htf4⟩ := row_cells (I3.out.kb g4 hpl).i.t
  have htl4 := lt_of_block (I3.out.kb g4 hpl).i.t
  simp only [Tk.row] at htc4
  try clear hxc3 hxf3
  try clear htc3 htf3
  have I4 : Aside _ := I3.out.kb g4 hpl
  have I4 : Aside _ := I4.out.set hpl htl 6 (.int .i64 n4) ⟨12, 0, ⟨#[]⟩, 0, 0, n2, n4, none, 0, 0, AT⟩ rfl rfl
  go_wp2_with (fail)
  refine (take_in I4.out.i.g.ps _).mono ?_
  rintro _ w5 @⟨_, _, x5, g5, rfl, _⟩
  have hle5 := Nat.le_trans hle4 g5.le
  obtain ⟨hxc5, hxf5⟩ := row_cells (I4.out.kb g5 hpl).i.a
  have hxl5 := lt_of_block (I4.out.kb g5 hpl).i.a
  simp only [ER.row] at hxc5
  obtain ⟨htc5, htf5⟩ := row_cells (I4.out.kb g5 hpl).i.t
  have htl5 := lt_of_block (I4.out.kb g5 hpl).i.t
  simp only [Tk.row] at htc5
  try clear hxc4 hxf4
  try clear htc4 htf4
  have I5 : Aside _ := I4.out.kb g5 hpl
  obtain ⟨hrc, hrf⟩ := row_cells I5.out.i.r
  have hrl := lt_of_block I5.out.i.r
  simp only [zrow] at hrc
  have E : Aside _ := I5.out.fin hpl htl
  go_wp2
  exact ret_exp (p := ⟨12, 0, ⟨#[]⟩, 0, 0, n2, n4, none, 0, 0, AT⟩) (r := w.heap.size + 1) rfl (by rfl) E.out.1 rfl (.mk E.out.2.1 E.out.2.2)

set_option maxHeartbeats 16000000 in
set_option maxRecDepth 100000 in
theorem word_map {k : Nat} (he : ∀ j, j < k → CExp 80 j) (hl : ∀ j, j < k → CKids j) (S : Src) (w : World) (x : St) (hP : PS S w x) (hx0 : x.e = 0) (h5 : (S.t x.at').k ≠ 5) (hk : S.len - x.at' ≤ k) (hs : (S.t x.at').s.toList = [109, 97, 112]) :
    Calls Try.prog 95 #[.pointer (some ⟨S.pb, 0, none⟩), (S.t x.at').val] w (Ret S w x fun v w' x' => ExpP (w.heap.size ≤ ·) w' x x' v) := by
  have hpl := hP.plt
  have htl := hP.tlt
  have hxl := hP.lt
  have hn := next_lt hxl h5
  have hkk : S.len - (x.at' + 1) < k := by omega
  have HE : Hid _ := he
  have HL : Hid _ := hl
  have hcap := S.hlen
  have hpl1 : S.pb < w.heap.size + 1 := by omega
  have hpl2 : S.pb < w.heap.size + 1 + 1 := by omega
  have c1 := hP.c1
  have f1 := hP.fz 1
  have g0 : Go1 S w x (w.setCell ⟨S.pb, 1, none⟩ (.int .i64 ((x.at' : Int) + 1))) { x with at' := x.at' + 1 } := by
    have hp := hP.set1 hn
    rw [show ((x.at' + 1 : Nat) : Int) = (x.at' : Int) + 1 by omega] at hp
    exact ⟨hp, (KB.refl S w).setCell (.inr rfl) _, by simp, by simp⟩
  clear he hl h5
  generalize S.t x.at' = T at *
  obtain ⟨K, SS, N, TK, TL, AT⟩ := T
  dsimp only at hs
  dsimp only [Tk.val]
  have I0 : Aside _ := WdK.three g0 (by simp) ⟨K, SS, N, TK, TL, AT⟩ ⟨0, 0, ⟨#[]⟩, 0, 0, 0, 0, none, 0, 0, AT⟩ rfl (fun _ => Nat.le_refl _)
  have hle0 : x.at' + 1 ≤ ({ x with at' := x.at' + 1 } : St).at' := Nat.le_refl _
  clear g0
  go_enter Try.func95, Try.ntmps95
  go_wp2_with (fail)
  refine (take_in I0.out.i.g.ps _).mono ?_
  rintro _ w1 @⟨_, _, x1, g1, rfl, _⟩
  have hle1 := Nat.le_trans hle0 g1.le
  obtain ⟨hxc1, hxf1⟩ := row_cells (I0.out.kb g1 hpl).i.a
  have hxl1 := lt_of_block (I0.out.kb g1 hpl).i.a
  simp only [ER.row] at hxc1
  obtain ⟨htc1, htf1⟩ := row_cells (I0.out.kb g1 hpl).i.t
  have htl1 := lt_of_block (I0.out.kb g1 hpl).i.t
  simp only [Tk.row] at htc1
  have I1 : Aside _ := I0.out.kb g1 hpl
  have I1 : Aside _ := I1.out.set hpl htl 0 (.int .i64 18) ⟨18, 0, ⟨#[]⟩, 0, 0, 0, 0, none, 0, 0, AT⟩ rfl rfl
  go_wp2_with (fail)
  refine (name_in I1.out.i.g.ps).mono ?_
  rintro _ w2 @⟨_, _, x2, g2, ⟨nm2, rfl⟩, _⟩
  have hle2 := Nat.le_trans hle1 g2.le
  obtain ⟨hxc2, hxf2⟩ := row_cells (I1.out.kb g2 hpl).i.a
  have hxl2 := lt_of_block (I1.out.kb g2 hpl).i.a
  simp only [ER.row] at hxc2
  obtain ⟨htc2, htf2⟩ := row_cells (I1.out.kb g2 hpl).i.t
  have htl2 := lt_of_block (I1.out.kb g2 hpl).i.t
  simp only [Tk.row] at htc2
  try clear hxc1 hxf1
  try clear htc1 htf1
  have I2 : Aside _ := I1.out.kb g2 hpl
  have I2 : Aside _ := I2.out.set hpl htl 2 (.string nm2) ⟨18, 0, nm2, 0, 0, 0, 0, none, 0, 0, AT⟩ rfl rfl
  go_wp2_with (fail)
  refine (take_in I2.out.i.g.ps _).mono ?_
  rintro _ w3 @⟨_, _, x3, g3, rfl, _⟩
  have hle3 := Nat.le_trans hle2 g3.le
  obtain ⟨hxc3, hxf3⟩ := row_cells (I2.out.kb g3 hpl).i.a
  have hxl3 := lt_of_block (I2.out.kb g3 hpl).i.a
  simp only [ER.row] at hxc3
  obtain ⟨htc3, htf3⟩ := row_cells (I2.out.kb g3 hpl).i.t
  have htl3 := lt_of_block (I2.out.kb g3 hpl).i.t
  simp only [Tk.row] at htc3
  try clear hxc2 hxf2
  try clear htc2 htf2
  have I3 : Aside _ := I2.out.kb g3 hpl
  go_wp2_with (fail)
  refine (HL.out (S.len - (x.at' + 1)) hkk S _ _ I3.out.i.g.ps (Nat.sub_le_sub_left hle3 _)).mono ?_
  rintro _ w4 @⟨_, _, x4, g4, ⟨m4, ps4, ts4, hK4, hm4, hc4⟩⟩
  obtain ⟨a4, cp4, rfl⟩ := own_form hK4.own
  have hle4 := Nat.le_trans hle3 g4.le
  obtain ⟨hxc4, hxf4⟩ := row_cells (I3.out.kb g4 hpl).i.a
  have hxl4 := lt_of_block (I3.out.kb g4 hpl).i.a
  simp only [ER.row] at hxc4
  obtain ⟨htc4, htf4⟩ := row_cells (I3.out.kb g4 hpl).i.t
  have htl4 := lt_of_block (I3.out.kb g4 hpl).i.t
  simp only [Tk.row] at htc4
  try clear hxc3 hxf3
  try clear htc3 htf3
  have I4 : Aside _ := I3.out.list g4 hpl htl hK4 hc4 ⟨18, 0, nm2, 0, 0, 0, 0, a4, m4, cp4, AT⟩ rfl rfl
  go_wp2_with (fail)
  refine (take_in I4.out.i.g.ps _).mono ?_
  rintro _ w5 @⟨_, _, x5, g5, rfl, _⟩
  have hle5 := Nat.le_trans hle4 g5.le
  obtain ⟨hxc5, hxf5⟩ := row_cells (I4.out.kb g5 hpl).i.a
  have hxl5 := lt_of_block (I4.out.kb g5 hpl).i.a
  simp only [ER.row] at hxc5
  obtain ⟨htc5, htf5⟩ := row_cells (I4.out.kb g5 hpl).i.t
  have htl5 := lt_of_block (I4.out.kb g5 hpl).i.t
  simp only [Tk.row] at htc5
  try clear hxc4 hxf4
  try clear htc4 htf4
  have I5 : Aside _ := I4.out.kb g5 hpl
  obtain ⟨hrc, hrf⟩ := row_cells I5.out.i.r
  have hrl := lt_of_block I5.out.i.r
  simp only [zrow] at hrc
  have E : Aside _ := I5.out.fin hpl htl
  go_wp2
  exact ret_exp (p := ⟨18, 0, nm2, 0, 0, 0, 0, a4, m4, cp4, AT⟩) (r := w.heap.size + 1) rfl (by rfl) E.out.1 rfl (.mk E.out.2.1 E.out.2.2)
end Go.Pa

namespace Go.Pa
open Go Go.RowKit Go.Proofs

/-- The expression p, set aside in the block b. -/
structure Wx (S : Src) (w : World) (rb tb xb : Nat) (wr : World) (b : Nat) (p : ER) (t : Tree) : Prop where
  hb : w.heap.size ≤ b
  ne : b ≠ xb
  blk : wr.heap[b]? = some (.cells p.row 45 (0, 0))
  e : IsExp (fun z => w.heap.size ≤ z ∧ z ≠ rb ∧ z ≠ tb ∧ z ≠ xb) wr p t
section
variable {S : Src} {w : World} {rb tb xb : Nat} {wr w2 : World} {x2 xc : St} {b : Nat} {p : ER} {t : Tree}
theorem Wx.kb (h : Wx S w rb tb xb wr b p t) (g : Go1 S wr xc w2 x2) (hpl : S.pb < w.heap.size) : Wx S w rb tb xb w2 b p t :=
  ⟨h.hb, h.ne, g.kb.block h.blk (by have := h.hb; omega), h.e.kb g.kb fun z hz => by omega⟩
theorem Wx.alloc (h : Wx S w rb tb xb wr b p t) (o : Obj) : Wx S w rb tb xb (wr.alloc o) b p t := ⟨h.hb, h.ne, (Below.heap_alloc _ _ _ (lt_of_block h.blk)).trans h.blk, h.e.alloc o⟩
theorem Wx.drew (h : Wx S w rb tb xb wr b p t) : Wx S w rb tb xb wr.drew b p t := ⟨h.hb, h.ne, h.blk, h.e.drew⟩
theorem Wx.set (h : Wx S w rb tb xb wr b p t) (j : Nat) (u : Value) : Wx S w rb tb xb (wr.setCell ⟨xb, j, none⟩ u) b p t := ⟨h.hb, h.ne, (Below.heap_setCell _ _ _ _ h.ne).trans h.blk, h.e.setCell (a := ⟨xb, j, none⟩) (fun z hz => hz.2.2.2) u⟩
/-- It has been read, and is set aside. -/
theorem Wx.new {x : St} {tk : Tk} {q : ER} {c : Nat} (h : WdK S w x rb tb xb wr xc tk q c) (g : Go1 S wr xc w2 x2) (hE : IsExp (wr.heap.size ≤ ·) w2 p t) : Wx S w rb tb xb (w2.alloc (.cells p.row 45)) w2.heap.size p t := by
  have h1 := lt_of_block h.i.r
  have h2 := lt_of_block h.i.t
  have h3 := lt_of_block h.i.a
  have h4 := h.i.g.kb.size
  have h5 := g.kb.size
  exact ⟨by omega, by omega, alloc_self w2 _, (hE.alloc _).mono fun b hb => by refine ⟨?_, ?_, ?_, ?_⟩ <;> omega⟩
end

theorem alloc_os (w : World) (o : Obj) : (w.alloc o).os = w.os := rfl
theorem alloc_output (w : World) (o : Obj) : (w.alloc o).output = w.output := rfl
theorem setCell_os (w : World) (p : Addr) (v : Value) : (w.setCell p v).os = w.os := rfl
theorem setCell_output (w : World) (p : Addr) (v : Value) : (w.setCell p v).output = w.output := rfl
theorem put9_os (w : World) (b : Nat) (q : ER) : (put9 w b q).os = w.os := by simp only [put9, setCell_os]
theorem put9_output (w : World) (b : Nat) (q : ER) : (put9 w b q).output = w.output := by simp only [put9, setCell_output]
/-- The end, ahead of a new block. -/
theorem WdK.finA {S : Src} {w : World} {x : St} {rb tb xb : Nat} {wr : World} {xc : St} {tk : Tk} {q : ER} {c : Nat} {o : Obj} (h : WdK S w x rb tb xb (wr.alloc o) xc tk q c) (hrb : rb < wr.heap.size) (hpl : S.pb < w.heap.size) (htl : S.tb < w.heap.size) :
    ((put9 wr rb q).alloc o).heap[rb]? = some (.cells q.row 45 (0, 0)) ∧ Go1 S w x ((put9 wr rb q).alloc o) xc ∧ ExpP (w.heap.size ≤ ·) ((put9 wr rb q).alloc o) x xc (.agg q.row) := by
  have hrr : wr.heap[rb]? = some (.cells zrow 45 (0, 0)) := by rw [← Below.heap_alloc wr o rb hrb]; exact h.i.r
  have h1 := h.i.hr
  have hz := h.i.g.kb.size
  simp at hz
  obtain ⟨t, ht, hct⟩ := h.k.exp
  refine ⟨(Below.heap_alloc _ _ _ (by simpa using hrb)).trans (put9_self hrr rfl q), ⟨?_, ⟨by rw [alloc_os, put9_os, ← alloc_os wr o]; exact h.i.g.kb.os, by rw [alloc_output, put9_output, ← alloc_output wr o]; exact h.i.g.kb.output, by simpa using hz, fun k hk hn => (put9_alloc wr rb q o (by omega) (by simp; omega)).trans (h.i.g.kb.same k hk hn)⟩, h.i.g.le, h.i.g.er⟩, .mk q t ?_ fun e => by have := h.c e; omega⟩
  · exact h.i.g.ps.of_same (put9_alloc wr rb q o (by omega) (by simp; omega)) (put9_alloc wr rb q o (by omega) (by simp; omega))
  · exact (ht.frame fun b hb hl => put9_alloc wr rb q o hb.2.1 hl).mono fun b hb => hb.1

section
variable {S : Src} {w : World} {x : St} {rb tb xb : Nat} {wr w2 : World} {xc x2 : St} {tk : Tk} {q : ER}
/-- What has just been read. -/
theorem WdK.fresh {c : Nat} (h : WdK S w x rb tb xb wr xc tk q c) (g : Go1 S wr xc w2 x2) {p : ER} {t : Tree} (hE : IsExp (wr.heap.size ≤ ·) w2 p t) (j : Nat) (u : Value) (o : Obj) :
    IsExp (fun z => w.heap.size ≤ z ∧ z ≠ rb ∧ z ≠ tb ∧ z ≠ xb) ((w2.setCell ⟨xb, j, none⟩ u).alloc o) p t := by
  have h1 := lt_of_block h.i.r
  have h2 := lt_of_block h.i.t
  have h3 := lt_of_block h.i.a
  have h4 := h.i.g.kb.size
  exact ((hE.setCell (a := ⟨xb, j, none⟩) (fun z hz => by show z ≠ xb; omega) u).alloc o).mono fun z hz => by refine ⟨?_, ?_, ?_, ?_⟩ <;> omega
theorem WdK.size2 {c : Nat} (h : WdK S w x rb tb xb wr xc tk q c) (g : Go1 S wr xc w2 x2) : w.heap.size ≤ w2.heap.size ∧ w2.heap.size ≠ rb ∧ w2.heap.size ≠ tb ∧ w2.heap.size ≠ xb := by
  have h1 := lt_of_block h.i.r
  have h2 := lt_of_block h.i.t
  have h3 := lt_of_block h.i.a
  have h4 := h.i.g.kb.size
  have h5 := g.kb.size
  refine ⟨?_, ?_, ?_, ?_⟩ <;> omega
/-- The second of two kids has been read. -/
theorem WdK.two (h : WdK S w x rb tb xb wr xc tk q 0) {b : Nat} {p : ER} {t : Tree} (X : Wx S w rb tb xb wr b p t) (g : Go1 S wr xc w2 x2) (hpl : S.pb < w.heap.size) (htl : S.tb < w.heap.size) {p2 : ER} {t2 : Tree} (hE : IsExp (wr.heap.size ≤ ·) w2 p2 t2)
    (hc : x2.e = 0 → x.at' + 1 + (t.cnt + t2.cnt) ≤ x2.at') (q' : ER) (hq : q.row.setIfInBounds 7 (.slice (some ⟨w2.heap.size, 0, none⟩) 2 2) = q'.row) (hk : q'.ks = .slice (some ⟨w2.heap.size, 0, none⟩) 2 2) :
    WdK S w x rb tb xb ((w2.setCell ⟨xb, 7, none⟩ (.slice (some ⟨w2.heap.size, 0, none⟩) 2 2)).alloc (.cells (p.row ++ p2.row) 45)) x2 tk q' (t.cnt + t2.cnt) :=
  ⟨((h.i.kb g hpl).set hpl htl 7 _ q' hq).alloc _, by
    rw [hk]
    exact KV.two (((X.kb g hpl).set 7 _).alloc _).e (h.fresh g hE _ _ _) (alloc_at (by simp)) (h.size2 g), hc⟩
def rows3 (p q r : ER) : Array Value := #[Value.int .i64 p.f, .int .i64 p.s, .string p.nm, .int .i64 p.tk, .int .i64 p.tl, .int .i64 p.n, .int .i64 p.m, .slice p.ka p.kl p.kc, .int .i64 p.at', Value.int .i64 q.f, .int .i64 q.s, .string q.nm, .int .i64 q.tk, .int .i64 q.tl, .int .i64 q.n, .int .i64 q.m, .slice q.ka q.kl q.kc, .int .i64 q.at', Value.int .i64 r.f, .int .i64 r.s, .string r.nm, .int .i64 r.tk, .int .i64 r.tl, .int .i64 r.n, .int .i64 r.m, .slice r.ka r.kl r.kc, .int .i64 r.at']
theorem rows3_eq (p q r : ER) : rows3 p q r = p.row ++ q.row ++ r.row := by
  simp only [rows3, ER.row, List.append_toArray, List.cons_append, List.nil_append]
/-- The third of three. -/
theorem WdK.thr (h : WdK S w x rb tb xb wr xc tk q 0) {b b1 : Nat} {p p1 : ER} {t t1 : Tree} (X : Wx S w rb tb xb wr b p t) (X1 : Wx S w rb tb xb wr b1 p1 t1) (g : Go1 S wr xc w2 x2) (hpl : S.pb < w.heap.size) (htl : S.tb < w.heap.size) {p2 : ER} {t2 : Tree} (hE : IsExp (wr.heap.size ≤ ·) w2 p2 t2)
    (hc : x2.e = 0 → x.at' + 1 + (t.cnt + t1.cnt + t2.cnt) ≤ x2.at') (q' : ER) (hq : q.row.setIfInBounds 7 (.slice (some ⟨w2.heap.size, 0, none⟩) 3 3) = q'.row) (hk : q'.ks = .slice (some ⟨w2.heap.size, 0, none⟩) 3 3) :
    WdK S w x rb tb xb ((w2.setCell ⟨xb, 7, none⟩ (.slice (some ⟨w2.heap.size, 0, none⟩) 3 3)).alloc (.cells (rows3 p p1 p2) 45)) x2 tk q' (t.cnt + t1.cnt + t2.cnt) :=
  ⟨((h.i.kb g hpl).set hpl htl 7 _ q' hq).alloc _, by
    rw [hk]
    rw [rows3_eq]
    exact KV.three (((X.kb g hpl).set 7 _).alloc _).e (((X1.kb g hpl).set 7 _).alloc _).e (h.fresh g hE _ _ _) (alloc_at (by simp)) (h.size2 g), hc⟩
end

/-- word's three blocks, before anything is read. -/
theorem WdI.three {S : Src} {w w1 : World} {x x1 : St} (g : Go1 S w x w1 x1) (hn : w1.heap.size = w.heap.size) (tk : Tk) (q : ER) :
    WdI S w x (w.heap.size + 1) w.heap.size (w.heap.size + 2) (((w1.alloc (.cells tk.row 86)).alloc (.cells zrow 45)).alloc (.cells q.row 45)) x1 tk q :=
  ⟨⟨((g.ps.alloc _).alloc _).alloc _, ((g.kb.alloc _).alloc _).alloc _, g.le, g.er⟩, by omega, by omega, by omega, by omega, by omega,
    (Below.heap_alloc _ _ _ (by simp; omega)).trans (alloc_at (by simp [hn])), (Below.heap_alloc _ _ _ (by simp; omega)).trans ((Below.heap_alloc _ _ _ (by simp; omega)).trans (alloc_at hn)), alloc_at (by simp; omega)⟩
end Go.Pa
