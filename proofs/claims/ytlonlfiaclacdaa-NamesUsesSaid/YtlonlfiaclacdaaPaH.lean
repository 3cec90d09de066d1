/-
  word: merge, fold (own work).
-/
import Derived.Test.YtlonlfiaclacdaaPaG
import Derived.Deep.RegionLaw
namespace Go.Pa
open Go Go.RowKit Go.Proofs

set_option maxHeartbeats 16000000 in
set_option maxRecDepth 100000 in
theorem word_merge {k : Nat} (he : ∀ j, j < k → CExp 80 j) (hl : ∀ j, j < k → CKids j) (S : Src) (w : World) (x : St) (hP : PS S w x) (hx0 : x.e = 0) (h5 : (S.t x.at').k ≠ 5) (hk : S.len - x.at' ≤ k) (hs : (S.t x.at').s.toList = [109, 101, 114, 103, 101]) :
    Calls Try.prog 95 #[.pointer (some ⟨S.pb, 0, none⟩), (S.t x.at').val] w (Ret S w x fun v w' x' => ExpP (w.heap.size ≤ ·) w' x x' v) := by
  have hpl := hP.plt
  have htl := hP.tlt
  have hxl := hP.lt
  have hn := next_lt hxl h5
  have hkk : S.len - (x.at' + 1) < k := by omega
  have HE : Hid _ := he
  have HL : Hid _ := hl
  have hcap := S.hlen
  have hpl1 : S.pb < w.heap.size + 1 := by omega
  have hpl2 : S.pb < w.heap.size + 1 + 1 := by omega
  have c1 := hP.c1
  have f1 := hP.fz 1
  have g0 : Go1 S w x (w.setCell ⟨S.pb, 1, none⟩ (.int .i64 ((x.at' : Int) + 1))) { x with at' := x.at' + 1 } := by
    have hp := hP.set1 hn
    rw [show ((x.at' + 1 : Nat) : Int) = (x.at' : Int) + 1 by omega] at hp
    exact ⟨hp, (KB.refl S w).setCell (.inr rfl) _, by simp, by simp⟩
  clear he hl h5
  generalize S.t x.at' = T at *
  obtain ⟨K, SS, N, TK, TL, AT⟩ := T
  dsimp only at hs
  dsimp only [Tk.val]
  have I0 : Aside _ := WdK.three g0 (by simp) ⟨K, SS, N, TK, TL, AT⟩ ⟨0, 0, ⟨#[]⟩, 0, 0, 0, 0, none, 0, 0, AT⟩ rfl (fun _ => Nat.le_refl _)
  have hle0 : x.at' + 1 ≤ ({ x with at' := x.at' + 1 } : St).at' := Nat.le_refl _
  clear g0
  go_enter Try.func95, Try.ntmps95
  go_wp2_with (fail)
  refine (take_in I0.out.i.g.ps _).mono ?_
  rintro _ w1 @⟨_, _, x1, g1, rfl, _⟩
  have hle1 := Nat.le_trans hle0 g1.le
  obtain ⟨hxc1, hxf1⟩ := row_cells (I0.out.kb g1 hpl).i.a
  have hxl1 := lt_of_block (I0.out.kb g1 hpl).i.a
  simp only [ER.row] at hxc1
  obtain ⟨htc1, htf1⟩ := row_cells (I0.out.kb g1 hpl).i.t
  have htl1 := lt_of_block (I0.out.kb g1 hpl).i.t
  simp only [Tk.row] at htc1
  have I1 : Aside _ := I0.out.kb g1 hpl
  have I1 : Aside _ := I1.out.set hpl htl 0 (.int .i64 10) ⟨10, 0, ⟨#[]⟩, 0, 0, 0, 0, none, 0, 0, AT⟩ rfl rfl
  go_wp2_with (fail)
  refine (name_in I1.out.i.g.ps).mono ?_
  rintro _ w2 @⟨_, _, x2, g2, ⟨nm2, rfl⟩, _⟩
  have hle2 := Nat.le_trans hle1 g2.le
  obtain ⟨hxc2, hxf2⟩ := row_cells (I1.out.kb g2 hpl).i.a
  have hxl2 := lt_of_block (I1.out.kb g2 hpl).i.a
  simp only [ER.row] at hxc2
  obtain ⟨htc2, htf2⟩ := row_cells (I1.out.kb g2 hpl).i.t
  have htl2 := lt_of_block (I1.out.kb g2 hpl).i.t
  simp only [Tk.row] at htc2
  try clear hxc1 hxf1
  try clear htc1 htf1
  have I2 : Aside _ := I1.out.kb g2 hpl
  have I2 : Aside _ := I2.out.set hpl htl 2 (.string nm2) ⟨10, 0, nm2, 0, 0, 0, 0, none, 0, 0, AT⟩ rfl rfl
  go_wp2_with (fail)
  refine (take_in I2.out.i.g.ps _).mono ?_
  rintro _ w3 @⟨_, _, x3, g3, rfl, _⟩
  have hle3 := Nat.le_trans hle2 g3.le
  obtain ⟨hxc3, hxf3⟩ := row_cells (I2.out.kb g3 hpl).i.a
  have hxl3 := lt_of_block (I2.out.kb g3 hpl).i.a
  simp only [ER.row] at hxc3
  obtain ⟨htc3, htf3⟩ := row_cells (I2.out.kb g3 hpl).i.t
  have htl3 := lt_of_block (I2.out.kb g3 hpl).i.t
  simp only [Tk.row] at htc3
  try clear hxc2 hxf2
  try clear htc2 htf2
  have I3 : Aside _ := I2.out.kb g3 hpl
  go_wp2_with (fail)
  refine (HE.out (S.len - (x.at' + 1)) hkk S _ _ I3.out.i.g.ps (Nat.sub_le_sub_left hle3 _)).mono ?_
  rintro _ w4 @⟨_, _, x4, g4, ⟨p4, t4, hE4, hpr4⟩⟩
  have hle4 := Nat.le_trans hle3 g4.le
  obtain ⟨hxc4, hxf4⟩ := row_cells (I3.out.kb g4 hpl).i.a
  have hxl4 := lt_of_block (I3.out.kb g4 hpl).i.a
  simp only [ER.row] at hxc4
  obtain ⟨htc4, htf4⟩ := row_cells (I3.out.kb g4 hpl).i.t
  have htl4 := lt_of_block (I3.out.kb g4 hpl).i.t
  simp only [Tk.row] at htc4
  try clear hxc3 hxf3
  try clear htc3 htf3
  have I4 : Aside _ := (I3.out.kb g4 hpl).alloc (.cells p4.row 45)
  have X4 : Aside _ := Wx.new I3.out g4 hE4
  have HC4 : Aside (x4.e = 0 → x.at' + 1 + t4.cnt ≤ x4.at') := fun h => by have := hpr4 h; have := hle3; omega
  clear hE4 hpr4
  simp only [ER.row]
  go_wp2_with (fail)
  refine (take_in I4.out.i.g.ps _).mono ?_
  rintro _ w5 @⟨_, _, x5, g5, rfl, _⟩
  have hle5 := Nat.le_trans hle4 g5.le
  obtain ⟨hxc5, hxf5⟩ := row_cells (I4.out.kb g5 hpl).i.a
  have hxl5 := lt_of_block (I4.out.kb g5 hpl).i.a
  simp only [ER.row] at hxc5
  obtain ⟨htc5, htf5⟩ := row_cells (I4.out.kb g5 hpl).i.t
  have htl5 := lt_of_block (I4.out.kb g5 hpl).i.t
  simp only [Tk.row] at htc5
  try clear hxc4 hxf4
  try clear htc4 htf4
  have I5 : Aside _ := I4.out.kb g5 hpl
  have X4 : Aside _ := X4.out.kb g5 hpl
  have HC5 : Aside (x5.e = 0 → x.at' + 1 + t4.cnt ≤ x5.at') := fun h => Nat.le_trans (HC4.out (er0 g5 h)) g5.le
  obtain ⟨hv4_5, hvf4_5⟩ := row_cells X4.out.blk
  have hvl4_5 := lt_of_block X4.out.blk
  simp only [ER.row] at hv4_5
  go_wp2
  go_region_with (go_at_call 80; refine (HE.out (S.len - (x.at' + 1)) hkk S _ _ I5.out.drew.i.g.ps (Nat.sub_le_sub_left hle5 _)).mono ?_; rintro _ w6 @⟨_, _, x6, g6, ⟨p6, t6, hE6, hpr6⟩⟩; have hxr := row_cells (I5.out.drew.kb g6 hpl).i.a; have hxl6 := lt_of_block (I5.out.drew.kb g6 hpl).i.a; have hy4 := row_cells (X4.out.drew.kb g6 hpl).blk; have hyl4 := lt_of_block (X4.out.drew.kb g6 hpl).blk; simp only [ER.row] at hy4 hxr ⊢; obtain ⟨hxc6, hxf6⟩ := hxr; obtain ⟨hyc4, hyf4⟩ := hy4)
  all_goals
    have hle6 : x.at' + 1 ≤ x6.at' := Nat.le_trans hle5 g6.le
    have hcc : x6.e = 0 → x.at' + 1 + (t4.cnt + t6.cnt) ≤ x6.at' := fun h => by have := hpr6 h; have := HC5.out (er0 g6 h); omega
    have I6 : Aside _ := I5.out.drew.two X4.out.drew g6 hpl htl hE6 hcc ⟨10, 0, nm2, 0, 0, 0, 0, some ⟨w6.heap.size, 0, none⟩, 2, 2, AT⟩ rfl rfl
    clear hE6 hpr6 hcc
    go_wp2_with (fail)
    refine (take_in I6.out.i.g.ps _).mono ?_
    rintro _ w7 @⟨_, _, x7, g7, rfl, _⟩
    have hle7 := Nat.le_trans hle6 g7.le
    obtain ⟨hxc7, hxf7⟩ := row_cells (I6.out.kb g7 hpl).i.a
    have hxl7 := lt_of_block (I6.out.kb g7 hpl).i.a
    simp only [ER.row] at hxc7
    obtain ⟨htc7, htf7⟩ := row_cells (I6.out.kb g7 hpl).i.t
    have htl7 := lt_of_block (I6.out.kb g7 hpl).i.t
    simp only [Tk.row] at htc7
    try clear hxc6 hxf6
    try clear htc6 htf6
    have I7 : Aside _ := I6.out.kb g7 hpl
    obtain ⟨hrc, hrf⟩ := row_cells I7.out.i.r
    have hrl := lt_of_block I7.out.i.r
    simp only [zrow] at hrc
    have E : Aside _ := I7.out.fin hpl htl
    go_wp2
    exact ret_exp (p := ⟨10, 0, nm2, 0, 0, 0, 0, some ⟨w6.heap.size, 0, none⟩, 2, 2, AT⟩) (r := w.heap.size + 1) rfl (by rfl) E.out.1 rfl (.mk E.out.2.1 E.out.2.2)

set_option maxHeartbeats 16000000 in
set_option maxRecDepth 100000 in
theorem word_fold {k : Nat} (he : ∀ j, j < k → CExp 80 j) (hl : ∀ j, j < k → CKids j) (S : Src) (w : World) (x : St) (hP : PS S w x) (hx0 : x.e = 0) (h5 : (S.t x.at').k ≠ 5) (hk : S.len - x.at' ≤ k) (hs : (S.t x.at').s.toList = [102, 111, 108, 100]) :
    Calls Try.prog 95 #[.pointer (some ⟨S.pb, 0, none⟩), (S.t x.at').val] w (Ret S w x fun v w' x' => ExpP (w.heap.size ≤ ·) w' x x' v) := by
  have hpl := hP.plt
  have htl := hP.tlt
  have hxl := hP.lt
  have hn := next_lt hxl h5
  have hkk : S.len - (x.at' + 1) < k := by omega
  have HE : Hid _ := he
  have HL : Hid _ := hl
  have hcap := S.hlen
  have hpl1 : S.pb < w.heap.size + 1 := by omega
  have hpl2 : S.pb < w.heap.size + 1 + 1 := by omega
  have c1 := hP.c1
  have f1 := hP.fz 1
  have g0 : Go1 S w x (w.setCell ⟨S.pb, 1, none⟩ (.int .i64 ((x.at' : Int) + 1))) { x with at' := x.at' + 1 } := by
    have hp := hP.set1 hn
    rw [show ((x.at' + 1 : Nat) : Int) = (x.at' : Int) + 1 by omega] at hp
    exact ⟨hp, (KB.refl S w).setCell (.inr rfl) _, by simp, by simp⟩
  clear he hl h5
  generalize S.t x.at' = T at *
  obtain ⟨K, SS, N, TK, TL, AT⟩ := T
  dsimp only at hs
  dsimp only [Tk.val]
  have I0 : Aside _ := WdK.three g0 (by simp) ⟨K, SS, N, TK, TL, AT⟩ ⟨0, 0, ⟨#[]⟩, 0, 0, 0, 0, none, 0, 0, AT⟩ rfl (fun _ => Nat.le_refl _)
  have hle0 : x.at' + 1 ≤ ({ x with at' := x.at' + 1 } : St).at' := Nat.le_refl _
  clear g0
  go_enter Try.func95, Try.ntmps95
  go_wp2_with (fail)
  refine (take_in I0.out.i.g.ps _).mono ?_
  rintro _ w1 @⟨_, _, x1, g1, rfl, _⟩
  have hle1 := Nat.le_trans hle0 g1.le
  obtain ⟨hxc1, hxf1⟩ := row_cells (I0.out.kb g1 hpl).i.a
  have hxl1 := lt_of_block (I0.out.kb g1 hpl).i.a
  simp only [ER.row] at hxc1
  obtain ⟨htc1, htf1⟩ := row_cells (I0.out.kb g1 hpl).i.t
  have htl1 := lt_of_block (I0.out.kb g1 hpl).i.t
  simp only [Tk.row] at htc1
  have I1 : Aside _ := I0.out.kb g1 hpl
  have I1 : Aside _ := I1.out.set hpl htl 0 (.int .i64 19) ⟨19, 0, ⟨#[]⟩, 0, 0, 0, 0, none, 0, 0, AT⟩ rfl rfl
  go_wp2_with (fail)
  refine (name_in I1.out.i.g.ps).mono ?_
  rintro _ w2 @⟨_, _, x2, g2, ⟨nm2, rfl⟩, _⟩
  have hle2 := Nat.le_trans hle1 g2.le
  obtain ⟨hxc2, hxf2⟩ := row_cells (I1.out.kb g2 hpl).i.a
  have hxl2 := lt_of_block (I1.out.kb g2 hpl).i.a
  simp only [ER.row] at hxc2
  obtain ⟨htc2, htf2⟩ := row_cells (I1.out.kb g2 hpl).i.t
  have htl2 := lt_of_block (I1.out.kb g2 hpl).i.t
  simp only [Tk.row] at htc2
  try clear hxc1 hxf1
  try clear htc1 htf1
  have I2 : Aside _ := I1.out.kb g2 hpl
  have I2 : Aside _ := I2.out.set hpl htl 2 (.string nm2) ⟨19, 0, nm2, 0, 0, 0, 0, none, 0, 0, AT⟩ rfl rfl
  go_wp2_with (fail)
  refine (take_in I2.out.i.g.ps _).mono ?_
  rintro _ w3 @⟨_, _, x3, g3, rfl, _⟩
  have hle3 := Nat.le_trans hle2 g3.le
  obtain ⟨hxc3, hxf3⟩ := row_cells (I2.out.kb g3 hpl).i.a
  have hxl3 := lt_of_block (I2.out.kb g3 hpl).i.a
  simp only [ER.row] at hxc3
  obtain ⟨htc3, htf3⟩ := row_cells (I2.out.kb g3 hpl).i.t
  have htl3 := lt_of_block (I2.out.kb g3 hpl).i.t
  simp only [Tk.row] at htc3
  try clear hxc2 hxf2
  try clear htc2 htf2
  have I3 : Aside _ := I2.out.kb g3 hpl
  go_wp2_with (fail)
  refine (HE.out (S.len - (x.at' + 1)) hkk S _ _ I3.out.i.g.ps (Nat.sub_le_sub_left hle3 _)).mono ?_
  rintro _ w4 @⟨_, _, x4, g4, ⟨p4, t4, hE4, hpr4⟩⟩
  have hle4 := Nat.le_trans hle3 g4.le
  obtain ⟨hxc4, hxf4⟩ := row_cells (I3.out.kb g4 hpl).i.a
  have hxl4 := lt_of_block (I3.out.kb g4 hpl).i.a
  simp only [ER.row] at hxc4
  obtain ⟨htc4, htf4⟩ := row_cells (I3.out.kb g4 hpl).i.t
  have htl4 := lt_of_block (I3.out.kb g4 hpl).i.t
  simp only [Tk.row] at htc4
  try clear hxc3 hxf3
  try clear htc3 htf3
  have I4 : Aside _ := (I3.out.kb g4 hpl).alloc (.cells p4.row 45)
  have X4 : Aside _ := Wx.new I3.out g4 hE4
  have HC4 : Aside (x4.e = 0 → x.at' + 1 + t4.cnt ≤ x4.at') := fun h => by have := hpr4 h; have := hle3; omega
  clear hE4 hpr4
  simp only [ER.row]
  go_wp2_with (fail)
  refine (take_in I4.out.i.g.ps _).mono ?_
  rintro _ w5 @⟨_, _, x5, g5, rfl, _⟩
  have hle5 := Nat.le_trans hle4 g5.le
  obtain ⟨hxc5, hxf5⟩ := row_cells (I4.out.kb g5 hpl).i.a
  have hxl5 := lt_of_block (I4.out.kb g5 hpl).i.a
  simp only [ER.row] at hxc5
  obtain ⟨htc5, htf5⟩ := row_cells (I4.out.kb g5 hpl).i.t
  have htl5 := lt_of_block (I4.out.kb g5 hpl).i.t
  simp only [Tk.row] at htc5
  try clear hxc4 hxf4
  try clear htc4 htf4
  have I5 : Aside _ := I4.out.kb g5 hpl
  have X4 : Aside _ := X4.out.kb g5 hpl
  have HC5 : Aside (x5.e = 0 → x.at' + 1 + t4.cnt ≤ x5.at') := fun h => Nat.le_trans (HC4.out (er0 g5 h)) g5.le
  obtain ⟨hv4_5, hvf4_5⟩ := row_cells X4.out.blk
  have hvl4_5 := lt_of_block X4.out.blk
  simp only [ER.row] at hv4_5
  go_wp2
  go_region_with (go_at_call 80; refine (HE.out (S.len - (x.at' + 1)) hkk S _ _ I5.out.drew.i.g.ps (Nat.sub_le_sub_left hle5 _)).mono ?_; rintro _ w6 @⟨_, _, x6, g6, ⟨p6, t6, hE6, hpr6⟩⟩; have hxr := row_cells (I5.out.drew.kb g6 hpl).i.a; have hxl6 := lt_of_block (I5.out.drew.kb g6 hpl).i.a; have hy4 := row_cells (X4.out.drew.kb g6 hpl).blk; have hyl4 := lt_of_block (X4.out.drew.kb g6 hpl).blk; simp only [ER.row] at hy4 hxr ⊢; obtain ⟨hxc6, hxf6⟩ := hxr; obtain ⟨hyc4, hyf4⟩ := hy4)
  all_goals
    have hle6 : x.at' + 1 ≤ x6.at' := Nat.le_trans hle5 g6.le
    have hcc : x6.e = 0 → x.at' + 1 + (t4.cnt + t6.cnt) ≤ x6.at' := fun h => by have := hpr6 h; have := HC5.out (er0 g6 h); omega
    have I6 : Aside _ := I5.out.drew.two X4.out.drew g6 hpl htl hE6 hcc ⟨19, 0, nm2, 0, 0, 0, 0, some ⟨w6.heap.size, 0, none⟩, 2, 2, AT⟩ rfl rfl
    clear hE6 hpr6 hcc
    go_wp2_with (fail)
    refine (take_in I6.out.i.g.ps _).mono ?_
    rintro _ w7 @⟨_, _, x7, g7, rfl, _⟩
    have hle7 := Nat.le_trans hle6 g7.le
    obtain ⟨hxc7, hxf7⟩ := row_cells (I6.out.kb g7 hpl).i.a
    have hxl7 := lt_of_block (I6.out.kb g7 hpl).i.a
    simp only [ER.row] at hxc7
    obtain ⟨htc7, htf7⟩ := row_cells (I6.out.kb g7 hpl).i.t
    have htl7 := lt_of_block (I6.out.kb g7 hpl).i.t
    simp only [Tk.row] at htc7
    try clear hxc6 hxf6
    try clear htc6 htf6
    have I7 : Aside _ := I6.out.kb g7 hpl
    obtain ⟨hrc, hrf⟩ := row_cells I7.out.i.r
    have hrl := lt_of_block I7.out.i.r
    simp only [zrow] at hrc
    have E : Aside _ := I7.out.fin hpl htl
    go_wp2
    exact ret_exp (p := ⟨19, 0, nm2, 0, 0, 0, 0, some ⟨w6.heap.size, 0, none⟩, 2, 2, AT⟩) (r := w.heap.size + 1) rfl (by rfl) E.out.1 rfl (.mk E.out.2.1 E.out.2.2)
end Go.Pa
