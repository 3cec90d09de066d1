/-
  The lexer: letter, digit, key (own work).
-/
import Derived.Test.YtlonlfiaclacdaaPaC
namespace Go.Pa
open Go Go.RowKit Go.Proofs

def letterB (c : Int) : Bool := decide (c ≥ 97) && decide (c ≤ 122) || decide (c ≥ 65) && decide (c ≤ 90) || c == 95
def digitB (c : Int) : Bool := decide (c ≥ 48) && decide (c ≤ 57)

set_option maxHeartbeats 4000000 in
set_option maxRecDepth 100000 in
theorem letter_in (c : Int) : Same1 45 #[.int .u8 c] (.bool (letterB c)) := by
  intro w
  go_enter Try.func45, Try.ntmps45
  go_wp2
  all_goals (go_ret; refine ⟨congrArg (fun b => Ending.returned (Value.bool b)) ?_, rfl⟩; rw [Bool.eq_iff_iff]; simp [letterB]; try omega)

set_option maxHeartbeats 4000000 in
set_option maxRecDepth 100000 in
theorem digit_in (c : Int) : Same1 46 #[.int .u8 c] (.bool (digitB c)) := by
  intro w
  go_enter Try.func46, Try.ntmps46
  go_wp2
  all_goals (go_ret; refine ⟨congrArg (fun b => Ending.returned (Value.bool b)) ?_, rfl⟩; rw [Bool.eq_iff_iff]; simp [digitB]; try omega)

set_option maxHeartbeats 4000000 in
set_option maxRecDepth 100000 in
theorem key_in (w : World) (s : ByteArray) : Calls Try.prog 47 #[.string s] w fun e w' => (∃ b, e = .returned (.bool b)) ∧ Nu w w' := by
  go_enter Try.func47, Try.ntmps47
  go_wp2_with (fail)
  refine (Kind_in w s).mono ?_
  rintro _ w1 ⟨⟨_, rfl, n, rfl, hn⟩, hk⟩
  go_wp2
  all_goals (go_ret; exact ⟨⟨_, rfl⟩, hk⟩)
end Go.Pa

namespace Go.Pa
open Go Go.RowKit Go.Proofs

/-- What number hands back. -/
inductive NumR (w : World) : Ending → World → Prop
  | mk (n : Int) (b : Bool) : NumR w (.returned (.tuple #[.int .i64 n, .bool b])) w

set_option maxHeartbeats 32000000 in
set_option maxRecDepth 100000 in
theorem number_at (w : World) (d : ByteArray) (kind : Int) (hkind : kind = 0 ∨ kind = 1 ∨ kind = 2 ∨ kind = 3 ∨ kind = 4 ∨ kind = 5 ∨ kind = 6 ∨ kind = 7 ∨ kind = 8 ∨ kind = 9) (hd : d.size ≤ 8000) : Calls Try.prog 49 #[.string d, .int .i64 kind] w (NumR w) := by
  obtain ⟨wd, hwd, hW⟩ := Width_ex kind
  obtain ⟨sg, hS⟩ := Signed_ex kind
  have HS : Hid _ := hS
  have HW : Hid _ := hW
  have HP : Hid (∀ n : Int, ∃ m : Int, Same1 64 #[.int .i64 kind, .int .i64 n] (.int .i64 m)) := fun n => Wrap_ex kind n
  clear hW hS
  rcases hkind with rfl | rfl | rfl | rfl | rfl | rfl | rfl | rfl | rfl | rfl
  all_goals
    go_enter Try.func49, Try.ntmps49
    go_wp2
    any_goals (go_ret2; exact .mk _ _)
  all_goals
    go_loopg [4, 5, 6, 7, 8, 36, 54, 70] d.size (fun kx s4 s5 s6 s7 s8 s36 s54 s70 wr => ∃ (n : Int) (k : Nat), s6 = .int .i64 n ∧ s7 = .int .i64 (k : Int) ∧ k ≤ d.size ∧ d.size - k ≤ kx ∧ wr = w)
    case atStart => exact ⟨0, 0, rfl, rfl, by omega, by omega, rfl⟩
    case round =>
      obtain ⟨n, k, rfl, rfl, hk, hkx, rfl⟩ := hrel
      rcases Nat.lt_or_ge k d.size with hlt | hge
      · have hlt' : (k : Int) < d.size := by omega
        go_wp2
        all_goals first
          | (go_ret2; exact .mk _ _)
          | (go_roundg (d.size - (k + 1))
             case measure => omega
             case rel => exact ⟨_, k + 1, rfl, by go_num, by omega, by omega, rfl⟩)
      · have hge' : ¬ (k : Int) < d.size := by omega
        go_wp2_with (fail)
        all_goals first
          | (go_ret2; exact .mk _ _)
          | skip
        all_goals
          refine (HW.out _).mono ?_
          rintro _ wq ⟨rfl, rfl⟩
          go_wp2
          go_loopg [10, 11] wd (fun kx s10 s11 wz => ∃ (t : Int) (j : Nat), s10 = .int .i64 t ∧ s11 = .int .i64 (j : Int) ∧ j ≤ wd ∧ wd - j ≤ kx ∧ wz = wq)
          case atStart => exact ⟨1, 0, rfl, rfl, by omega, by omega, rfl⟩
          case round =>
            obtain ⟨t, j, rfl, rfl, hj, hjx, rfl⟩ := hrel
            rcases Nat.lt_or_ge j wd with hjl | hjl
            · have hjl' : (j : Int) < wd := by omega
              go_wp2
              go_roundg (wd - (j + 1))
              case measure => omega
              case rel => exact ⟨_, j + 1, rfl, by go_num, by omega, by omega, rfl⟩
            · have hjl' : ¬ (j : Int) < wd := by omega
              go_wp2_with (fail)
              refine (HS.out _).mono ?_
              rintro _ _ ⟨rfl, rfl⟩
              cases sg
              · go_wp2
                go_ret2
                exact .mk _ _
              · go_wp2_with (fail)
                all_goals first
                  | (go_ret2; exact .mk _ _)
                  | (obtain ⟨m, hm⟩ := HP.out n
                     refine (hm _).mono ?_
                     rintro _ _ ⟨rfl, rfl⟩
                     go_wp2
                     go_ret2
                     exact .mk _ _)
theorem number_in (w : World) (d : ByteArray) (kind : Nat) (hkind : kind ≤ 9) (hd : d.size ≤ 8000) : Calls Try.prog 49 #[.string d, .int .i64 (kind : Int)] w (NumR w) := number_at w d kind (by omega) hd
end Go.Pa

namespace Go.Pa
open Go Go.RowKit Go.Proofs

/-- A piece of a string. -/
theorem slice_str (s : ByteArray) (a b : Nat) {y : Int} (hy : y = (b : Int)) (h1 : a ≤ b) (h2 : b ≤ s.size) (W : World) :
    (Instr.slice 9 (.string s) (some (.int .i64 (a : Int))) (some (.int .i64 y)) none).run Try.prog W = .ok (.string (s.extract a b)) W := by
  subst hy
  have := run_slice_string (P := Try.prog) W 9 s .i64 .i64 (a : Int) (b : Int) Try.underlying9 (by omega) (by omega) (by omega)
  simpa using this

/-- What sign hands back. -/
inductive SignR (w : World) (m : Nat) : Ending → World → Prop
  | mk (n : Nat) (h : n ≤ m) : SignR w m (.returned (.int .i64 n)) w

set_option maxHeartbeats 16000000 in
set_option maxRecDepth 100000 in
theorem sign_in (w : World) (s : ByteArray) (i : Nat) (hi : i < s.size) (hs : s.size ≤ 8000) : Calls Try.prog 50 #[.string s, .int .i64 (i : Int)] w (SignR w (s.size - i)) := by
  have hi' : (i : Int) < s.size := by omega
  have h0 : SignR w (s.size - i) (.returned (.int .i64 0)) w := .mk 0 (by omega)
  have h1 : SignR w (s.size - i) (.returned (.int .i64 1)) w := .mk 1 (by omega)
  by_cases h2 : i + 2 ≤ s.size
  · have h2' : (i : Int) + 2 ≤ s.size := by omega
    have h22 : SignR w (s.size - i) (.returned (.int .i64 2)) w := .mk 2 (by omega)
    have hsl := fun W => slice_str s i (i + 2) (y := (i : Int) + 2) (by omega) (by omega) h2 W
    go_enter Try.func50, Try.ntmps50
    go_wp2
    all_goals (go_ret; first | exact h0 | exact h1 | exact h22)
  · have h2' : ¬ (i : Int) + 2 ≤ s.size := by omega
    go_enter Try.func50, Try.ntmps50
    go_wp2
    all_goals (go_ret; first | exact h0 | exact h1)
end Go.Pa
