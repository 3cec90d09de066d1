/-
  The lexer: Tokens (own work).
-/
import Derived.Test.YtlonlfiaclacdaaPaS
import Derived.Test.YtlonlfiaclacdaaPaU
namespace Go.Pa
open Go Go.RowKit Go.Proofs

theorem info86 : (Try.prog.info? 86).map (fun i => (i.zero, i.size, i.bytes)) = some (some (.agg #[.int .i64 0, .string ⟨#[]⟩, .int .i64 0, .int .i64 0, .int .i64 0, .int .i64 0]), 6, 56) := by kernel_rfl
theorem results_tmp3 {fn : Func} {t u v : Tmp} (h : fn.results = #[.tmp t, .tmp u, .tmp v]) (tmps : Array Value) (P : Program) (w : World) :
    (results fn tmps).run P w = .ok (.tuple #[tmps.getD t undef, tmps.getD u undef, tmps.getD v undef]) w := by
  simp [results, h]

/-- The cells of n tokens. -/
def tkRows (ts : Nat → Tk) : Nat → List Value
  | 0 => []
  | n + 1 => tkRows ts n ++ (ts n).row.toList
theorem tkRows_length (ts : Nat → Tk) (n : Nat) : (tkRows ts n).length = n * 6 := by
  induction n with
  | zero => rfl
  | succ n ih => rw [tkRows, List.length_append, ih, Nat.succ_mul]; rfl
theorem tkRows_congr {ts us : Nat → Tk} {n : Nat} (h : ∀ i, i < n → ts i = us i) : tkRows ts n = tkRows us n := by
  induction n with
  | zero => rfl
  | succ n ih => rw [tkRows, tkRows, ih fun i hi => h i (by omega), h n (by omega)]
theorem tkRows_get (ts : Nat → Tk) {n i j : Nat} (hi : i < n) (hj : j < 6) : (tkRows ts n)[i * 6 + j]? = (ts i).row[j]? := by
  induction n with
  | zero => omega
  | succ n ih =>
    rw [tkRows]
    rcases Nat.lt_or_ge i n with h | h
    · rw [List.getElem?_append_left (by rw [tkRows_length]; omega), ih h]
    · obtain rfl : i = n := by omega
      rw [List.getElem?_append_right (by rw [tkRows_length]; omega), tkRows_length, Nat.add_sub_cancel_left, Array.getElem?_toList]
theorem tkRows_push (ts : Nat → Tk) (t : Tk) (n : Nat) : tkRows (fun i => if i = n then t else ts i) (n + 1) = tkRows ts n ++ t.row.toList := by
  rw [tkRows, tkRows_congr (us := ts) fun i hi => if_neg (by omega), if_pos rfl]

/-- What Tokens hands back. -/
inductive ToksR (w : World) : Ending → World → Prop
  | bad (a : Option Addr) (n c : Nat) (at' e : Int) (he : e ≠ 0) {w' : World} (k : Nu w w') : ToksR w (.returned (.tuple #[.slice a n c, .int .i64 at', .int .i64 e])) w'
  | good (g n cap : Nat) (ts : Nat → Tk) (hg : w.heap.size ≤ g) (h0 : 0 < n) (h1 : n ≤ 20000) (hl : (ts (n - 1)).k = 5) {w' : World} (k : Nu w w') (hc : ∀ i, i < n → ∀ j, j < 6 → w'.cell? ⟨g, i * 6 + j, none⟩ = (ts i).row[j]?) (hlt : g < w'.heap.size) :
    ToksR w (.returned (.tuple #[.slice (some ⟨g, 0, none⟩) n cap, .int .i64 0, .int .i64 0])) w'

/-- The list of tokens that is built. -/
structure TL (w : World) (wr : World) (v : Value) (n : Nat) (ts : Nat → Tk) : Prop where
  k : Nu w wr
  own : wr.ownsRow w.heap.size 86 6 v n (tkRows ts n)
section
variable {w wr w2 : World} {v : Value} {n : Nat} {ts : Nat → Tk}
theorem TL.nu (h : TL w wr v n ts) (k : Nu wr w2) : TL w w2 v n ts := ⟨h.k.trans k, own_frame h.own fun b hb => k.same b (h.own.lt b hb).2⟩
theorem TL.set (h : TL w wr v n ts) {p : Addr} (hp : w.heap.size ≤ p.block) (hn : ∀ b, v.ownBlock = some b → b ≠ p.block) (u : Value) : TL w (wr.setCell p u) v n ts := ⟨h.k.setCell hp u, own_frame h.own fun b hb => Below.heap_setCell _ _ _ _ (hn b hb)⟩
theorem TL.put6 (h : TL w wr v n ts) {b : Nat} (hp : w.heap.size ≤ b) (hn : ∀ z, v.ownBlock = some z → z ≠ b) (t : Tk) : TL w (put6 wr b t) v n ts :=
  (((((h.set (p := ⟨b, 0, none⟩) hp hn _).set (p := ⟨b, 1, none⟩) hp hn _).set (p := ⟨b, 2, none⟩) hp hn _).set (p := ⟨b, 3, none⟩) hp hn _).set (p := ⟨b, 4, none⟩) hp hn _).set (p := ⟨b, 5, none⟩) hp hn _
theorem TL.alloc (h : TL w wr v n ts) (o : Obj) : TL w (wr.alloc o) v n ts := h.nu ((Nu.refl wr).alloc o)
theorem TL.push (h : TL w wr v n ts) (t : Tk) {g cap : Nat} (hown : w2.ownsRow w.heap.size 86 6 (.slice (some ⟨g, 0, none⟩) (n + 1) cap) (n + 1) (tkRows ts n ++ t.row.toList)) (hgr : wr.grownBy w2 v.ownBlock) : TL w w2 (.slice (some ⟨g, 0, none⟩) (n + 1) cap) (n + 1) (fun i => if i = n then t else ts i) :=
  ⟨⟨hgr.os.trans h.k.os, hgr.output.trans h.k.output, Nat.le_trans h.k.size hgr.size, fun k hk => (hgr.block k (Nat.lt_of_lt_of_le hk h.k.size) fun e => by have := (h.own.lt k e.symm).1; omega).trans (h.k.same k hk)⟩, by rw [tkRows_push]; exact hown⟩
theorem TL.done {g cap : Nat} (h : TL w wr (.slice (some ⟨g, 0, none⟩) n cap) n ts) (h0 : 0 < n) (h1 : n ≤ 20000) (hl : (ts (n - 1)).k = 5) : ToksR w (.returned (.tuple #[.slice (some ⟨g, 0, none⟩) n cap, .int .i64 0, .int .i64 0])) wr := by
  refine .good g n cap ts (h.own.lt g rfl).1 h0 h1 hl h.k (fun i hi j hj => ?_) (h.own.lt g rfl).2
  have hs : (ts i).row.size = 6 := rfl
  have := h.own.cells (g := g) rfl (i * 6 + j) ((ts i).row.toList[j]'(by rw [Array.length_toList, hs]; exact hj)) (by rw [tkRows_get ts hi hj]; simp)
  rw [show (⟨g, i * 6 + j, none⟩ : Addr) = (⟨g, 0, none⟩ : Addr).add (i * 6 + j) by unfold Addr.add; simp, this]
  simp
end
theorem put6_any {w : World} {b : Nat} {u : Tk} (h : w.heap[b]? = some (.cells (Tk.row u) 86 (0, 0))) (t : Tk) : (put6 w b t).heap[b]? = some (.cells (Tk.row t) 86 (0, 0)) := by
  have H := heap_setCell_self (o := 5) (heap_setCell_self (o := 4) (heap_setCell_self (o := 3) (heap_setCell_self (o := 2) (heap_setCell_self (o := 1) (heap_setCell_self (o := 0) h (.int .i64 t.k)) (.string t.s)) (.int .i64 t.n)) (.int .i64 t.tk)) (.int .i64 t.tl)) (.int .i64 t.at')
  simpa [Tk.row] using H
theorem tk_one (t : Tk) : ∀ u ∈ t.row.toList, u.oneCell' = true := by
  intro u hu
  simp [Tk.row] at hu
  rcases hu with rfl | rfl | rfl | rfl | rfl | rfl <;> rfl

set_option maxHeartbeats 32000000 in
set_option maxRecDepth 100000 in
theorem Tokens_in (w : World) (s : ByteArray) (hs : s.size ≤ 8000) : Calls Try.prog 27 #[.string s] w (ToksR w) := by
  obtain ⟨i0, hi, hz0, hz1, hz2⟩ := info_parts info86
  have hs' : ¬ (65536 : Int) < s.size := by omega
  have A0 : Aside (TL w w (.slice none 0 0) 0 (fun _ => ⟨0, ⟨#[]⟩, 0, 0, 0, 0⟩)) := ⟨Nu.refl w, World.ownsRow_nil w _ 86 6⟩
  go_enter Try.func27, Try.ntmps27
  go_wp2
  go_loopg [2, 3, 4, 5, 6, 7, 8, 9] (s.size + 1) (fun kx s2 s3 s4 s5 s6 s7 s8 s9 wr => ∃ (q n cp : Nat) (a0 : Option Addr) (ts : Nat → Tk), s6 = .int .i64 (q : Int) ∧ s5 = .slice a0 n cp ∧ q ≤ s.size ∧ n ≤ 20000 ∧ s.size + 1 - q ≤ kx ∧ Aside (TL w wr (.slice a0 n cp) n ts))
  case atStart => exact ⟨0, 0, 0, none, _, rfl, rfl, by omega, by omega, by omega, A0⟩
  case round =>
    clear A0
    obtain ⟨q0, n, cp, a0, ts, rfl, rfl, hq0, hn, hkx, A⟩ := hrel
    go_wp2
    go_loopg [6] s.size (fun kx s6 wz => ∃ q : Nat, s6 = .int .i64 (q : Int) ∧ q0 ≤ q ∧ q ≤ s.size ∧ s.size - q ≤ kx ∧ wz = wr)
    case atStart => exact ⟨q0, rfl, by omega, by omega, by omega, rfl⟩
    case round =>
      obtain ⟨q, rfl, hq1, hq2, hqx, rfl⟩ := hrel
      rcases Nat.lt_or_ge q s.size with hlt | hge
      · have hlt' : (q : Int) < s.size := by omega
        by_cases h32 : ((s[q]'hlt).toNat : Int) = 32
        · go_wp2
          go_roundg (s.size - (q + 1))
          case measure => omega
          case rel => exact ⟨q + 1, by go_num, by omega, by omega, by omega, rfl⟩
        by_cases h9 : ((s[q]'hlt).toNat : Int) = 9
        · go_wp2
          go_roundg (s.size - (q + 1))
          case measure => omega
          case rel => exact ⟨q + 1, by go_num, by omega, by omega, by omega, rfl⟩
        by_cases h10 : ((s[q]'hlt).toNat : Int) = 10
        · go_wp2
          go_roundg (s.size - (q + 1))
          case measure => omega
          case rel => exact ⟨q + 1, by go_num, by omega, by omega, by omega, rfl⟩
        by_cases h13 : ((s[q]'hlt).toNat : Int) = 13
        · go_wp2
          go_roundg (s.size - (q + 1))
          case measure => omega
          case rel => exact ⟨q + 1, by go_num, by omega, by omega, by omega, rfl⟩
        by_cases h45 : ((s[q]'hlt).toNat : Int) = 45
        · rcases Nat.lt_or_ge (q + 1) s.size with hl2 | hl2
          · have hl2' : (q : Int) + 1 < s.size := by omega
            by_cases h46 : ((s[q + 1]'hl2).toNat : Int) = 45
            · go_wp2
              go_loopg [6] s.size (fun kx s6 wz => ∃ r : Nat, s6 = .int .i64 (r : Int) ∧ q ≤ r ∧ r ≤ s.size ∧ s.size - r ≤ kx ∧ wz = wr)
              case atStart => exact ⟨q, rfl, by omega, by omega, by omega, rfl⟩
              case round =>
                obtain ⟨r, rfl, hr1, hr2, hrx, rfl⟩ := hrel
                rcases Nat.lt_or_ge r s.size with hrl | hrl
                · have hrl' : (r : Int) < s.size := by omega
                  by_cases hr10 : ((s[r]'hrl).toNat : Int) = 10
                  · have hqr : q < r := by
                      rcases Nat.lt_or_ge q r with h | h
                      · exact h
                      · obtain rfl : q = r := by omega
                        exact absurd (h45.symm.trans hr10) (by decide)
                    go_wp2
                    go_roundg (s.size - r)
                    case measure => omega
                    case rel => exact ⟨r, rfl, by omega, by omega, by omega, rfl⟩
                  · go_wp2
                    go_roundg (s.size - (r + 1))
                    case measure => omega
                    case rel => exact ⟨r + 1, by go_num, by omega, by omega, by omega, rfl⟩
                · have hrl' : ¬ (r : Int) < s.size := by omega
                  go_wp2
                  go_roundg (s.size - r)
                  case measure => omega
                  case rel => exact ⟨r, rfl, by omega, by omega, by omega, rfl⟩
            · go_wp2_with (fail)
              refine (token_in _ s q hlt hs).mono ?_
              rintro e0 w2 hT
              cases hT with
              | bad t e he hk =>
                obtain ⟨K, SS, N, TK, TM, AT⟩ := t
                dsimp only [Tk.val]
                have A2 : Aside _ := (A.out.alloc _).nu hk
                go_wp2
                refine bodyPost_ret (results_tmp3 rfl _ _ _) rfl ?_
                exact .bad _ _ _ _ _ he (A2.out.alloc _).k
              | good t h5 h1 h2 hk =>
                obtain ⟨K, SS, N, TK, TM, AT⟩ := t
                dsimp only at h5 h1 h2
                dsimp only [Tk.val]
                have B0 : w2.heap[wr.heap.size]? = some (.cells (Tk.row ⟨5, ⟨#[]⟩, 0, 0, 0, q⟩) 86 (0, 0)) := nu_block hk (alloc_self wr _)
                obtain ⟨hc0, hf0⟩ := row_cells B0
                simp only [Tk.row] at hc0
                have hl0 := lt_of_block B0
                have A2 : Aside (TL w ((((((w2.setCell ⟨wr.heap.size, 0, none⟩ (.int .i64 K)).setCell ⟨wr.heap.size, 1, none⟩ (.string SS)).setCell ⟨wr.heap.size, 2, none⟩ (.int .i64 N)).setCell ⟨wr.heap.size, 3, none⟩ (.int .i64 TK)).setCell ⟨wr.heap.size, 4, none⟩ (.int .i64 TM)).setCell ⟨wr.heap.size, 5, none⟩ (.int .i64 AT)) (.slice a0 n cp) n ts) := ((A.out.alloc _).nu hk).put6 (b := wr.heap.size) A.out.k.size (fun z hz => by have := (A.out.own.lt z hz).2; omega) ⟨K, SS, N, TK, TM, AT⟩
                have HB : Aside ((World.heap ((((((w2.setCell ⟨wr.heap.size, 0, none⟩ (.int .i64 K)).setCell ⟨wr.heap.size, 1, none⟩ (.string SS)).setCell ⟨wr.heap.size, 2, none⟩ (.int .i64 N)).setCell ⟨wr.heap.size, 3, none⟩ (.int .i64 TK)).setCell ⟨wr.heap.size, 4, none⟩ (.int .i64 TM)).setCell ⟨wr.heap.size, 5, none⟩ (.int .i64 AT)))[wr.heap.size]? = some (.cells #[.int .i64 K, .string SS, .int .i64 N, .int .i64 TK, .int .i64 TM, .int .i64 AT] 86 (0, 0))) := put6_any B0 ⟨K, SS, N, TK, TM, AT⟩
                clear hk B0
                by_cases hn2 : n < 20000
                · have hn2' : ¬ (n : Int) ≥ 20000 := by omega
                  have hlb : w.heap.size ≤ w2.heap.size := by have := A2.out.k.size; simpa using this
                  have A3 : Aside _ := (A2.out.alloc (.cells #[.int .i64 K, .string SS, .int .i64 N, .int .i64 TK, .int .i64 TM, .int .i64 AT] 86)).alloc (.cells #[.int .i64 K, .string SS, .int .i64 N, .int .i64 TK, .int .i64 TM, .int .i64 AT] 86)
                  have HB2 : Aside ((World.heap (World.alloc (World.alloc ((((((w2.setCell ⟨wr.heap.size, 0, none⟩ (.int .i64 K)).setCell ⟨wr.heap.size, 1, none⟩ (.string SS)).setCell ⟨wr.heap.size, 2, none⟩ (.int .i64 N)).setCell ⟨wr.heap.size, 3, none⟩ (.int .i64 TK)).setCell ⟨wr.heap.size, 4, none⟩ (.int .i64 TM)).setCell ⟨wr.heap.size, 5, none⟩ (.int .i64 AT)) (.cells #[.int .i64 K, .string SS, .int .i64 N, .int .i64 TK, .int .i64 TM, .int .i64 AT] 86)) (.cells #[.int .i64 K, .string SS, .int .i64 N, .int .i64 TK, .int .i64 TM, .int .i64 AT] 86)))[wr.heap.size]? = some (.cells #[.int .i64 K, .string SS, .int .i64 N, .int .i64 TK, .int .i64 TM, .int .i64 AT] 86 (0, 0))) := (Below.heap_alloc (World.alloc ((((((w2.setCell ⟨wr.heap.size, 0, none⟩ (.int .i64 K)).setCell ⟨wr.heap.size, 1, none⟩ (.string SS)).setCell ⟨wr.heap.size, 2, none⟩ (.int .i64 N)).setCell ⟨wr.heap.size, 3, none⟩ (.int .i64 TK)).setCell ⟨wr.heap.size, 4, none⟩ (.int .i64 TM)).setCell ⟨wr.heap.size, 5, none⟩ (.int .i64 AT)) (.cells #[.int .i64 K, .string SS, .int .i64 N, .int .i64 TK, .int .i64 TM, .int .i64 AT] 86)) (.cells #[.int .i64 K, .string SS, .int .i64 N, .int .i64 TK, .int .i64 TM, .int .i64 AT] 86) wr.heap.size (by simp; omega)).trans ((Below.heap_alloc ((((((w2.setCell ⟨wr.heap.size, 0, none⟩ (.int .i64 K)).setCell ⟨wr.heap.size, 1, none⟩ (.string SS)).setCell ⟨wr.heap.size, 2, none⟩ (.int .i64 N)).setCell ⟨wr.heap.size, 3, none⟩ (.int .i64 TK)).setCell ⟨wr.heap.size, 4, none⟩ (.int .i64 TM)).setCell ⟨wr.heap.size, 5, none⟩ (.int .i64 AT)) (.cells #[.int .i64 K, .string SS, .int .i64 N, .int .i64 TK, .int .i64 TM, .int .i64 AT] 86) wr.heap.size (by simp; omega)).trans HB.out)
                  have HS2 : wr.heap.size < (World.heap (World.alloc (World.alloc ((((((w2.setCell ⟨wr.heap.size, 0, none⟩ (.int .i64 K)).setCell ⟨wr.heap.size, 1, none⟩ (.string SS)).setCell ⟨wr.heap.size, 2, none⟩ (.int .i64 N)).setCell ⟨wr.heap.size, 3, none⟩ (.int .i64 TK)).setCell ⟨wr.heap.size, 4, none⟩ (.int .i64 TM)).setCell ⟨wr.heap.size, 5, none⟩ (.int .i64 AT)) (.cells #[.int .i64 K, .string SS, .int .i64 N, .int .i64 TK, .int .i64 TM, .int .i64 AT] 86)) (.cells #[.int .i64 K, .string SS, .int .i64 N, .int .i64 TK, .int .i64 TM, .int .i64 AT] 86))).size := lt_of_block HB2.out
                  have HS3 : Aside _ := HS2
                  clear HS2
                  have HO : Aside (∀ GW, (World.alloc (World.alloc ((((((w2.setCell ⟨wr.heap.size, 0, none⟩ (.int .i64 K)).setCell ⟨wr.heap.size, 1, none⟩ (.string SS)).setCell ⟨wr.heap.size, 2, none⟩ (.int .i64 N)).setCell ⟨wr.heap.size, 3, none⟩ (.int .i64 TK)).setCell ⟨wr.heap.size, 4, none⟩ (.int .i64 TM)).setCell ⟨wr.heap.size, 5, none⟩ (.int .i64 AT)) (.cells #[.int .i64 K, .string SS, .int .i64 N, .int .i64 TK, .int .i64 TM, .int .i64 AT] 86)) (.cells #[.int .i64 K, .string SS, .int .i64 N, .int .i64 TK, .int .i64 TM, .int .i64 AT] 86)) = GW → GW.ownsRow w.heap.size 86 6 (.slice a0 n cp) n (tkRows ts n)) := fun GW h => h ▸ A3.out.own
                  have HC : Aside (∀ GW, (World.alloc (World.alloc ((((((w2.setCell ⟨wr.heap.size, 0, none⟩ (.int .i64 K)).setCell ⟨wr.heap.size, 1, none⟩ (.string SS)).setCell ⟨wr.heap.size, 2, none⟩ (.int .i64 N)).setCell ⟨wr.heap.size, 3, none⟩ (.int .i64 TK)).setCell ⟨wr.heap.size, 4, none⟩ (.int .i64 TM)).setCell ⟨wr.heap.size, 5, none⟩ (.int .i64 AT)) (.cells #[.int .i64 K, .string SS, .int .i64 N, .int .i64 TK, .int .i64 TM, .int .i64 AT] 86)) (.cells #[.int .i64 K, .string SS, .int .i64 N, .int .i64 TK, .int .i64 TM, .int .i64 AT] 86)) = GW → ∀ j u, (Tk.row ⟨K, SS, N, TK, TM, AT⟩)[j]? = some u → GW.cell? ⟨w2.heap.size + 1, j, none⟩ = some u) := fun GW h j u hj => by
                    subst h
                    rw [cell_of_row _ _ _ _ _ _ (alloc_at (n := w2.heap.size + 1) (by simp))]
                    exact hj
                  have HZ : Aside (∀ GW, (World.alloc (World.alloc ((((((w2.setCell ⟨wr.heap.size, 0, none⟩ (.int .i64 K)).setCell ⟨wr.heap.size, 1, none⟩ (.string SS)).setCell ⟨wr.heap.size, 2, none⟩ (.int .i64 N)).setCell ⟨wr.heap.size, 3, none⟩ (.int .i64 TK)).setCell ⟨wr.heap.size, 4, none⟩ (.int .i64 TM)).setCell ⟨wr.heap.size, 5, none⟩ (.int .i64 AT)) (.cells #[.int .i64 K, .string SS, .int .i64 N, .int .i64 TK, .int .i64 TM, .int .i64 AT] 86)) (.cells #[.int .i64 K, .string SS, .int .i64 N, .int .i64 TK, .int .i64 TM, .int .i64 AT] 86)) = GW → w.heap.size ≤ GW.heap.size) := fun GW h => h ▸ A3.out.k.size
                  go_wp2_with (first | (at_builtin; generalize hGW : World.alloc (World.alloc _ _) _ = GW; refine wpList_append_lies GW rfl _ _ 69 rfl w.heap.size 86 i0 _ 6 56 Try.underlying69 hi hz0 hz1 hz2 rfl (by decide) _ n (tkRows ts n) rfl (HO.out GW hGW) ⟨w2.heap.size + 1, 0, none⟩ 1 1 (Tk.row ⟨K, SS, N, TK, TM, AT⟩).toList rfl rfl ?c1 (tk_one ⟨K, SS, N, TK, TM, AT⟩) (by decide) ?c2 ?c3 ?c4 _ rfl ?_))
                  case c1 => exact HC.out GW hGW
                  case c2 => unfold maxLen; omega
                  case c3 => omega
                  case c4 => exact HZ.out GW hGW
                  intro gk cap w4 hown hgrow hat hlt4
                  subst hGW
                  have B7 : w4.heap[wr.heap.size]? = some (.cells #[.int .i64 K, .string SS, .int .i64 N, .int .i64 TK, .int .i64 TM, .int .i64 AT] 86 (0, 0)) := (hgrow.block _ HS3.out (fun e => by have := (A.out.own.lt _ e.symm).2; omega)).trans HB2.out
                  obtain ⟨hc7, hf7⟩ := row_cells B7
                  have hl7 := lt_of_block B7
                  have A5 : Aside _ := A3.out.push ⟨K, SS, N, TK, TM, AT⟩ hown hgrow
                  clear hown hgrow hat B7 hc0 hf0 HO HC HZ HB HB2 HS3 A2 A3
                  go_wp2
                  go_roundg (s.size + 1 - (q + SS.size))
                  case measure => omega
                  case rel => exact ⟨q + SS.size, n + 1, cap, _, _, by go_num, rfl, by omega, by omega, by omega, A5⟩
                · have hn2' : (n : Int) ≥ 20000 := by omega
                  go_wp2
                  refine bodyPost_ret (results_tmp3 rfl _ _ _) rfl ?_
                  exact .bad _ _ _ _ _ (by decide) (A2.out.alloc _).k
          · have hl2' : ¬ (q : Int) + 1 < s.size := by omega
            go_wp2_with (fail)
            refine (token_in _ s q hlt hs).mono ?_
            rintro e0 w2 hT
            cases hT with
            | bad t e he hk =>
              obtain ⟨K, SS, N, TK, TM, AT⟩ := t
              dsimp only [Tk.val]
              have A2 : Aside _ := (A.out.alloc _).nu hk
              go_wp2
              refine bodyPost_ret (results_tmp3 rfl _ _ _) rfl ?_
              exact .bad _ _ _ _ _ he (A2.out.alloc _).k
            | good t h5 h1 h2 hk =>
              obtain ⟨K, SS, N, TK, TM, AT⟩ := t
              dsimp only at h5 h1 h2
              dsimp only [Tk.val]
              have B0 : w2.heap[wr.heap.size]? = some (.cells (Tk.row ⟨5, ⟨#[]⟩, 0, 0, 0, q⟩) 86 (0, 0)) := nu_block hk (alloc_self wr _)
              obtain ⟨hc0, hf0⟩ := row_cells B0
              simp only [Tk.row] at hc0
              have hl0 := lt_of_block B0
              have A2 : Aside (TL w ((((((w2.setCell ⟨wr.heap.size, 0, none⟩ (.int .i64 K)).setCell ⟨wr.heap.size, 1, none⟩ (.string SS)).setCell ⟨wr.heap.size, 2, none⟩ (.int .i64 N)).setCell ⟨wr.heap.size, 3, none⟩ (.int .i64 TK)).setCell ⟨wr.heap.size, 4, none⟩ (.int .i64 TM)).setCell ⟨wr.heap.size, 5, none⟩ (.int .i64 AT)) (.slice a0 n cp) n ts) := ((A.out.alloc _).nu hk).put6 (b := wr.heap.size) A.out.k.size (fun z hz => by have := (A.out.own.lt z hz).2; omega) ⟨K, SS, N, TK, TM, AT⟩
              have HB : Aside ((World.heap ((((((w2.setCell ⟨wr.heap.size, 0, none⟩ (.int .i64 K)).setCell ⟨wr.heap.size, 1, none⟩ (.string SS)).setCell ⟨wr.heap.size, 2, none⟩ (.int .i64 N)).setCell ⟨wr.heap.size, 3, none⟩ (.int .i64 TK)).setCell ⟨wr.heap.size, 4, none⟩ (.int .i64 TM)).setCell ⟨wr.heap.size, 5, none⟩ (.int .i64 AT)))[wr.heap.size]? = some (.cells #[.int .i64 K, .string SS, .int .i64 N, .int .i64 TK, .int .i64 TM, .int .i64 AT] 86 (0, 0))) := put6_any B0 ⟨K, SS, N, TK, TM, AT⟩
              clear hk B0
              by_cases hn2 : n < 20000
              · have hn2' : ¬ (n : Int) ≥ 20000 := by omega
                have hlb : w.heap.size ≤ w2.heap.size := by have := A2.out.k.size; simpa using this
                have A3 : Aside _ := (A2.out.alloc (.cells #[.int .i64 K, .string SS, .int .i64 N, .int .i64 TK, .int .i64 TM, .int .i64 AT] 86)).alloc (.cells #[.int .i64 K, .string SS, .int .i64 N, .int .i64 TK, .int .i64 TM, .int .i64 AT] 86)
                have HB2 : Aside ((World.heap (World.alloc (World.alloc ((((((w2.setCell ⟨wr.heap.size, 0, none⟩ (.int .i64 K)).setCell ⟨wr.heap.size, 1, none⟩ (.string SS)).setCell ⟨wr.heap.size, 2, none⟩ (.int .i64 N)).setCell ⟨wr.heap.size, 3, none⟩ (.int .i64 TK)).setCell ⟨wr.heap.size, 4, none⟩ (.int .i64 TM)).setCell ⟨wr.heap.size, 5, none⟩ (.int .i64 AT)) (.cells #[.int .i64 K, .string SS, .int .i64 N, .int .i64 TK, .int .i64 TM, .int .i64 AT] 86)) (.cells #[.int .i64 K, .string SS, .int .i64 N, .int .i64 TK, .int .i64 TM, .int .i64 AT] 86)))[wr.heap.size]? = some (.cells #[.int .i64 K, .string SS, .int .i64 N, .int .i64 TK, .int .i64 TM, .int .i64 AT] 86 (0, 0))) := (Below.heap_alloc (World.alloc ((((((w2.setCell ⟨wr.heap.size, 0, none⟩ (.int .i64 K)).setCell ⟨wr.heap.size, 1, none⟩ (.string SS)).setCell ⟨wr.heap.size, 2, none⟩ (.int .i64 N)).setCell ⟨wr.heap.size, 3, none⟩ (.int .i64 TK)).setCell ⟨wr.heap.size, 4, none⟩ (.int .i64 TM)).setCell ⟨wr.heap.size, 5, none⟩ (.int .i64 AT)) (.cells #[.int .i64 K, .string SS, .int .i64 N, .int .i64 TK, .int .i64 TM, .int .i64 AT] 86)) (.cells #[.int .i64 K, .string SS, .int .i64 N, .int .i64 TK, .int .i64 TM, .int .i64 AT] 86) wr.heap.size (by simp; omega)).trans ((Below.heap_alloc ((((((w2.setCell ⟨wr.heap.size, 0, none⟩ (.int .i64 K)).setCell ⟨wr.heap.size, 1, none⟩ (.string SS)).setCell ⟨wr.heap.size, 2, none⟩ (.int .i64 N)).setCell ⟨wr.heap.size, 3, none⟩ (.int .i64 TK)).setCell ⟨wr.heap.size, 4, none⟩ (.int .i64 TM)).setCell ⟨wr.heap.size, 5, none⟩ (.int .i64 AT)) (.cells #[.int .i64 K, .string SS, .int .i64 N, .int .i64 TK, .int .i64 TM, .int .i64 AT] 86) wr.heap.size (by simp; omega)).trans HB.out)
                have HS2 : wr.heap.size < (World.heap (World.alloc (World.alloc ((((((w2.setCell ⟨wr.heap.size, 0, none⟩ (.int .i64 K)).setCell ⟨wr.heap.size, 1, none⟩ (.string SS)).setCell ⟨wr.heap.size, 2, none⟩ (.int .i64 N)).setCell ⟨wr.heap.size, 3, none⟩ (.int .i64 TK)).setCell ⟨wr.heap.size, 4, none⟩ (.int .i64 TM)).setCell ⟨wr.heap.size, 5, none⟩ (.int .i64 AT)) (.cells #[.int .i64 K, .string SS, .int .i64 N, .int .i64 TK, .int .i64 TM, .int .i64 AT] 86)) (.cells #[.int .i64 K, .string SS, .int .i64 N, .int .i64 TK, .int .i64 TM, .int .i64 AT] 86))).size := lt_of_block HB2.out
                have HS3 : Aside _ := HS2
                clear HS2
                have HO : Aside (∀ GW, (World.alloc (World.alloc ((((((w2.setCell ⟨wr.heap.size, 0, none⟩ (.int .i64 K)).setCell ⟨wr.heap.size, 1, none⟩ (.string SS)).setCell ⟨wr.heap.size, 2, none⟩ (.int .i64 N)).setCell ⟨wr.heap.size, 3, none⟩ (.int .i64 TK)).setCell ⟨wr.heap.size, 4, none⟩ (.int .i64 TM)).setCell ⟨wr.heap.size, 5, none⟩ (.int .i64 AT)) (.cells #[.int .i64 K, .string SS, .int .i64 N, .int .i64 TK, .int .i64 TM, .int .i64 AT] 86)) (.cells #[.int .i64 K, .string SS, .int .i64 N, .int .i64 TK, .int .i64 TM, .int .i64 AT] 86)) = GW → GW.ownsRow w.heap.size 86 6 (.slice a0 n cp) n (tkRows ts n)) := fun GW h => h ▸ A3.out.own
                have HC : Aside (∀ GW, (World.alloc (World.alloc ((((((w2.setCell ⟨wr.heap.size, 0, none⟩ (.int .i64 K)).setCell ⟨wr.heap.size, 1, none⟩ (.string SS)).setCell ⟨wr.heap.size, 2, none⟩ (.int .i64 N)).setCell ⟨wr.heap.size, 3, none⟩ (.int .i64 TK)).setCell ⟨wr.heap.size, 4, none⟩ (.int .i64 TM)).setCell ⟨wr.heap.size, 5, none⟩ (.int .i64 AT)) (.cells #[.int .i64 K, .string SS, .int .i64 N, .int .i64 TK, .int .i64 TM, .int .i64 AT] 86)) (.cells #[.int .i64 K, .string SS, .int .i64 N, .int .i64 TK, .int .i64 TM, .int .i64 AT] 86)) = GW → ∀ j u, (Tk.row ⟨K, SS, N, TK, TM, AT⟩)[j]? = some u → GW.cell? ⟨w2.heap.size + 1, j, none⟩ = some u) := fun GW h j u hj => by
                  subst h
                  rw [cell_of_row _ _ _ _ _ _ (alloc_at (n := w2.heap.size + 1) (by simp))]
                  exact hj
                have HZ : Aside (∀ GW, (World.alloc (World.alloc ((((((w2.setCell ⟨wr.heap.size, 0, none⟩ (.int .i64 K)).setCell ⟨wr.heap.size, 1, none⟩ (.string SS)).setCell ⟨wr.heap.size, 2, none⟩ (.int .i64 N)).setCell ⟨wr.heap.size, 3, none⟩ (.int .i64 TK)).setCell ⟨wr.heap.size, 4, none⟩ (.int .i64 TM)).setCell ⟨wr.heap.size, 5, none⟩ (.int .i64 AT)) (.cells #[.int .i64 K, .string SS, .int .i64 N, .int .i64 TK, .int .i64 TM, .int .i64 AT] 86)) (.cells #[.int .i64 K, .string SS, .int .i64 N, .int .i64 TK, .int .i64 TM, .int .i64 AT] 86)) = GW → w.heap.size ≤ GW.heap.size) := fun GW h => h ▸ A3.out.k.size
                go_wp2_with (first | (at_builtin; generalize hGW : World.alloc (World.alloc _ _) _ = GW; refine wpList_append_lies GW rfl _ _ 69 rfl w.heap.size 86 i0 _ 6 56 Try.underlying69 hi hz0 hz1 hz2 rfl (by decide) _ n (tkRows ts n) rfl (HO.out GW hGW) ⟨w2.heap.size + 1, 0, none⟩ 1 1 (Tk.row ⟨K, SS, N, TK, TM, AT⟩).toList rfl rfl ?c1 (tk_one ⟨K, SS, N, TK, TM, AT⟩) (by decide) ?c2 ?c3 ?c4 _ rfl ?_))
                case c1 => exact HC.out GW hGW
                case c2 => unfold maxLen; omega
                case c3 => omega
                case c4 => exact HZ.out GW hGW
                intro gk cap w4 hown hgrow hat hlt4
                subst hGW
                have B7 : w4.heap[wr.heap.size]? = some (.cells #[.int .i64 K, .string SS, .int .i64 N, .int .i64 TK, .int .i64 TM, .int .i64 AT] 86 (0, 0)) := (hgrow.block _ HS3.out (fun e => by have := (A.out.own.lt _ e.symm).2; omega)).trans HB2.out
                obtain ⟨hc7, hf7⟩ := row_cells B7
                have hl7 := lt_of_block B7
                have A5 : Aside _ := A3.out.push ⟨K, SS, N, TK, TM, AT⟩ hown hgrow
                clear hown hgrow hat B7 hc0 hf0 HO HC HZ HB HB2 HS3 A2 A3
                go_wp2
                go_roundg (s.size + 1 - (q + SS.size))
                case measure => omega
                case rel => exact ⟨q + SS.size, n + 1, cap, _, _, by go_num, rfl, by omega, by omega, by omega, A5⟩
              · have hn2' : (n : Int) ≥ 20000 := by omega
                go_wp2
                refine bodyPost_ret (results_tmp3 rfl _ _ _) rfl ?_
                exact .bad _ _ _ _ _ (by decide) (A2.out.alloc _).k
        · have e32 : (((s[q]'hlt).toNat : Int) == 32) = false := by simpa using h32
          have e9 : (((s[q]'hlt).toNat : Int) == 9) = false := by simpa using h9
          have e10 : (((s[q]'hlt).toNat : Int) == 10) = false := by simpa using h10
          have e13 : (((s[q]'hlt).toNat : Int) == 13) = false := by simpa using h13
          have e45 : (((s[q]'hlt).toNat : Int) == 45) = false := by simpa using h45
          go_wp2_with (fail)
          refine (token_in _ s q hlt hs).mono ?_
          rintro e0 w2 hT
          cases hT with
          | bad t e he hk =>
            obtain ⟨K, SS, N, TK, TM, AT⟩ := t
            dsimp only [Tk.val]
            have A2 : Aside _ := (A.out.alloc _).nu hk
            go_wp2
            refine bodyPost_ret (results_tmp3 rfl _ _ _) rfl ?_
            exact .bad _ _ _ _ _ he (A2.out.alloc _).k
          | good t h5 h1 h2 hk =>
            obtain ⟨K, SS, N, TK, TM, AT⟩ := t
            dsimp only at h5 h1 h2
            dsimp only [Tk.val]
            have B0 : w2.heap[wr.heap.size]? = some (.cells (Tk.row ⟨5, ⟨#[]⟩, 0, 0, 0, q⟩) 86 (0, 0)) := nu_block hk (alloc_self wr _)
            obtain ⟨hc0, hf0⟩ := row_cells B0
            simp only [Tk.row] at hc0
            have hl0 := lt_of_block B0
            have A2 : Aside (TL w ((((((w2.setCell ⟨wr.heap.size, 0, none⟩ (.int .i64 K)).setCell ⟨wr.heap.size, 1, none⟩ (.string SS)).setCell ⟨wr.heap.size, 2, none⟩ (.int .i64 N)).setCell ⟨wr.heap.size, 3, none⟩ (.int .i64 TK)).setCell ⟨wr.heap.size, 4, none⟩ (.int .i64 TM)).setCell ⟨wr.heap.size, 5, none⟩ (.int .i64 AT)) (.slice a0 n cp) n ts) := ((A.out.alloc _).nu hk).put6 (b := wr.heap.size) A.out.k.size (fun z hz => by have := (A.out.own.lt z hz).2; omega) ⟨K, SS, N, TK, TM, AT⟩
            have HB : Aside ((World.heap ((((((w2.setCell ⟨wr.heap.size, 0, none⟩ (.int .i64 K)).setCell ⟨wr.heap.size, 1, none⟩ (.string SS)).setCell ⟨wr.heap.size, 2, none⟩ (.int .i64 N)).setCell ⟨wr.heap.size, 3, none⟩ (.int .i64 TK)).setCell ⟨wr.heap.size, 4, none⟩ (.int .i64 TM)).setCell ⟨wr.heap.size, 5, none⟩ (.int .i64 AT)))[wr.heap.size]? = some (.cells #[.int .i64 K, .string SS, .int .i64 N, .int .i64 TK, .int .i64 TM, .int .i64 AT] 86 (0, 0))) := put6_any B0 ⟨K, SS, N, TK, TM, AT⟩
            clear hk B0
            by_cases hn2 : n < 20000
            · have hn2' : ¬ (n : Int) ≥ 20000 := by omega
              have hlb : w.heap.size ≤ w2.heap.size := by have := A2.out.k.size; simpa using this
              have A3 : Aside _ := (A2.out.alloc (.cells #[.int .i64 K, .string SS, .int .i64 N, .int .i64 TK, .int .i64 TM, .int .i64 AT] 86)).alloc (.cells #[.int .i64 K, .string SS, .int .i64 N, .int .i64 TK, .int .i64 TM, .int .i64 AT] 86)
              have HB2 : Aside ((World.heap (World.alloc (World.alloc ((((((w2.setCell ⟨wr.heap.size, 0, none⟩ (.int .i64 K)).setCell ⟨wr.heap.size, 1, none⟩ (.string SS)).setCell ⟨wr.heap.size, 2, none⟩ (.int .i64 N)).setCell ⟨wr.heap.size, 3, none⟩ (.int .i64 TK)).setCell ⟨wr.heap.size, 4, none⟩ (.int .i64 TM)).setCell ⟨wr.heap.size, 5, none⟩ (.int .i64 AT)) (.cells #[.int .i64 K, .string SS, .int .i64 N, .int .i64 TK, .int .i64 TM, .int .i64 AT] 86)) (.cells #[.int .i64 K, .string SS, .int .i64 N, .int .i64 TK, .int .i64 TM, .int .i64 AT] 86)))[wr.heap.size]? = some (.cells #[.int .i64 K, .string SS, .int .i64 N, .int .i64 TK, .int .i64 TM, .int .i64 AT] 86 (0, 0))) := (Below.heap_alloc (World.alloc ((((((w2.setCell ⟨wr.heap.size, 0, none⟩ (.int .i64 K)).setCell ⟨wr.heap.size, 1, none⟩ (.string SS)).setCell ⟨wr.heap.size, 2, none⟩ (.int .i64 N)).setCell ⟨wr.heap.size, 3, none⟩ (.int .i64 TK)).setCell ⟨wr.heap.size, 4, none⟩ (.int .i64 TM)).setCell ⟨wr.heap.size, 5, none⟩ (.int .i64 AT)) (.cells #[.int .i64 K, .string SS, .int .i64 N, .int .i64 TK, .int .i64 TM, .int .i64 AT] 86)) (.cells #[.int .i64 K, .string SS, .int .i64 N, .int .i64 TK, .int .i64 TM, .int .i64 AT] 86) wr.heap.size (by simp; omega)).trans ((Below.heap_alloc ((((((w2.setCell ⟨wr.heap.size, 0, none⟩ (.int .i64 K)).setCell ⟨wr.heap.size, 1, none⟩ (.string SS)).setCell ⟨wr.heap.size, 2, none⟩ (.int .i64 N)).setCell ⟨wr.heap.size, 3, none⟩ (.int .i64 TK)).setCell ⟨wr.heap.size, 4, none⟩ (.int .i64 TM)).setCell ⟨wr.heap.size, 5, none⟩ (.int .i64 AT)) (.cells #[.int .i64 K, .string SS, .int .i64 N, .int .i64 TK, .int .i64 TM, .int .i64 AT] 86) wr.heap.size (by simp; omega)).trans HB.out)
              have HS2 : wr.heap.size < (World.heap (World.alloc (World.alloc ((((((w2.setCell ⟨wr.heap.size, 0, none⟩ (.int .i64 K)).setCell ⟨wr.heap.size, 1, none⟩ (.string SS)).setCell ⟨wr.heap.size, 2, none⟩ (.int .i64 N)).setCell ⟨wr.heap.size, 3, none⟩ (.int .i64 TK)).setCell ⟨wr.heap.size, 4, none⟩ (.int .i64 TM)).setCell ⟨wr.heap.size, 5, none⟩ (.int .i64 AT)) (.cells #[.int .i64 K, .string SS, .int .i64 N, .int .i64 TK, .int .i64 TM, .int .i64 AT] 86)) (.cells #[.int .i64 K, .string SS, .int .i64 N, .int .i64 TK, .int .i64 TM, .int .i64 AT] 86))).size := lt_of_block HB2.out
              have HS3 : Aside _ := HS2
              clear HS2
              have HO : Aside (∀ GW, (World.alloc (World.alloc ((((((w2.setCell ⟨wr.heap.size, 0, none⟩ (.int .i64 K)).setCell ⟨wr.heap.size, 1, none⟩ (.string SS)).setCell ⟨wr.heap.size, 2, none⟩ (.int .i64 N)).setCell ⟨wr.heap.size, 3, none⟩ (.int .i64 TK)).setCell ⟨wr.heap.size, 4, none⟩ (.int .i64 TM)).setCell ⟨wr.heap.size, 5, none⟩ (.int .i64 AT)) (.cells #[.int .i64 K, .string SS, .int .i64 N, .int .i64 TK, .int .i64 TM, .int .i64 AT] 86)) (.cells #[.int .i64 K, .string SS, .int .i64 N, .int .i64 TK, .int .i64 TM, .int .i64 AT] 86)) = GW → GW.ownsRow w.heap.size 86 6 (.slice a0 n cp) n (tkRows ts n)) := fun GW h => h ▸ A3.out.own
              have HC : Aside (∀ GW, (World.alloc (World.alloc ((((((w2.setCell ⟨wr.heap.size, 0, none⟩ (.int .i64 K)).setCell ⟨wr.heap.size, 1, none⟩ (.string SS)).setCell ⟨wr.heap.size, 2, none⟩ (.int .i64 N)).setCell ⟨wr.heap.size, 3, none⟩ (.int .i64 TK)).setCell ⟨wr.heap.size, 4, none⟩ (.int .i64 TM)).setCell ⟨wr.heap.size, 5, none⟩ (.int .i64 AT)) (.cells #[.int .i64 K, .string SS, .int .i64 N, .int .i64 TK, .int .i64 TM, .int .i64 AT] 86)) (.cells #[.int .i64 K, .string SS, .int .i64 N, .int .i64 TK, .int .i64 TM, .int .i64 AT] 86)) = GW → ∀ j u, (Tk.row ⟨K, SS, N, TK, TM, AT⟩)[j]? = some u → GW.cell? ⟨w2.heap.size + 1, j, none⟩ = some u) := fun GW h j u hj => by
                subst h
                rw [cell_of_row _ _ _ _ _ _ (alloc_at (n := w2.heap.size + 1) (by simp))]
                exact hj
              have HZ : Aside (∀ GW, (World.alloc (World.alloc ((((((w2.setCell ⟨wr.heap.size, 0, none⟩ (.int .i64 K)).setCell ⟨wr.heap.size, 1, none⟩ (.string SS)).setCell ⟨wr.heap.size, 2, none⟩ (.int .i64 N)).setCell ⟨wr.heap.size, 3, none⟩ (.int .i64 TK)).setCell ⟨wr.heap.size, 4, none⟩ (.int .i64 TM)).setCell ⟨wr.heap.size, 5, none⟩ (.int .i64 AT)) (.cells #[.int .i64 K, .string SS, .int .i64 N, .int .i64 TK, .int .i64 TM, .int .i64 AT] 86)) (.cells #[.int .i64 K, .string SS, .int .i64 N, .int .i64 TK, .int .i64 TM, .int .i64 AT] 86)) = GW → w.heap.size ≤ GW.heap.size) := fun GW h => h ▸ A3.out.k.size
              go_wp2_with (first | (at_builtin; generalize hGW : World.alloc (World.alloc _ _) _ = GW; refine wpList_append_lies GW rfl _ _ 69 rfl w.heap.size 86 i0 _ 6 56 Try.underlying69 hi hz0 hz1 hz2 rfl (by decide) _ n (tkRows ts n) rfl (HO.out GW hGW) ⟨w2.heap.size + 1, 0, none⟩ 1 1 (Tk.row ⟨K, SS, N, TK, TM, AT⟩).toList rfl rfl ?c1 (tk_one ⟨K, SS, N, TK, TM, AT⟩) (by decide) ?c2 ?c3 ?c4 _ rfl ?_))
              case c1 => exact HC.out GW hGW
              case c2 => unfold maxLen; omega
              case c3 => omega
              case c4 => exact HZ.out GW hGW
              intro gk cap w4 hown hgrow hat hlt4
              subst hGW
              have B7 : w4.heap[wr.heap.size]? = some (.cells #[.int .i64 K, .string SS, .int .i64 N, .int .i64 TK, .int .i64 TM, .int .i64 AT] 86 (0, 0)) := (hgrow.block _ HS3.out (fun e => by have := (A.out.own.lt _ e.symm).2; omega)).trans HB2.out
              obtain ⟨hc7, hf7⟩ := row_cells B7
              have hl7 := lt_of_block B7
              have A5 : Aside _ := A3.out.push ⟨K, SS, N, TK, TM, AT⟩ hown hgrow
              clear hown hgrow hat B7 hc0 hf0 HO HC HZ HB HB2 HS3 A2 A3
              go_wp2
              go_roundg (s.size + 1 - (q + SS.size))
              case measure => omega
              case rel => exact ⟨q + SS.size, n + 1, cap, _, _, by go_num, rfl, by omega, by omega, by omega, A5⟩
            · have hn2' : (n : Int) ≥ 20000 := by omega
              go_wp2
              refine bodyPost_ret (results_tmp3 rfl _ _ _) rfl ?_
              exact .bad _ _ _ _ _ (by decide) (A2.out.alloc _).k
      · have hge' : ¬ (q : Int) < s.size := by omega
        by_cases hn2 : n < 20000
        · have hn2' : ¬ (n : Int) ≥ 20000 := by omega
          have hlb : w.heap.size ≤ wr.heap.size := A.out.k.size
          have HO : Aside _ := ((A.out.alloc (.cells (Tk.row ⟨5, ⟨#[]⟩, 0, 0, 0, q⟩) 86)).alloc (.cells (Tk.row ⟨5, ⟨#[]⟩, 0, 0, 0, q⟩) 86)).own
          go_wp2_with (first | (at_builtin; refine wpList_append_lies _ rfl _ _ 69 rfl w.heap.size 86 i0 _ 6 56 Try.underlying69 hi hz0 hz1 hz2 rfl (by decide) _ n (tkRows ts n) rfl (HO.out) ⟨wr.heap.size + 1, 0, none⟩ 1 1 (Tk.row ⟨5, ⟨#[]⟩, 0, 0, 0, q⟩).toList rfl rfl ?c1 (tk_one ⟨5, ⟨#[]⟩, 0, 0, 0, q⟩) (by decide) ?c2 ?c3 ?c4 (wr.heap.size + 1 + 1) ?c5 ?_))
          case c1 => (intro j u h; simpa [Tk.row] using h)
          case c2 => unfold maxLen; omega
          case c3 => omega
          case c4 => (try simp); omega
          intro gk cap w4 hown hgrow hat hlt4
          have B7 : w4.heap[wr.heap.size]? = some (.cells (Tk.row ⟨5, ⟨#[]⟩, 0, 0, 0, q⟩) 86 (0, 0)) := (hgrow.block _ (by simp; omega) (fun e => by have := (A.out.own.lt _ e.symm).2; omega)).trans ((Below.heap_alloc _ _ _ (by simp)).trans (alloc_self wr _))
          obtain ⟨hc7, hf7⟩ := row_cells B7
          have hl7 := lt_of_block B7
          simp only [Tk.row] at hc7
          have A5 : Aside _ := (((A.out.alloc (.cells (Tk.row ⟨5, ⟨#[]⟩, 0, 0, 0, q⟩) 86)).alloc (.cells (Tk.row ⟨5, ⟨#[]⟩, 0, 0, 0, q⟩) 86)).push ⟨5, ⟨#[]⟩, 0, 0, 0, q⟩ hown hgrow).done (by omega) (by omega) (by simp)
          clear hown hgrow hat B7
          go_wp2
          refine bodyPost_ret (results_tmp3 rfl _ _ _) rfl ?_
          exact A5.out
        · have hn2' : (n : Int) ≥ 20000 := by omega
          go_wp2
          refine bodyPost_ret (results_tmp3 rfl _ _ _) rfl ?_
          exact .bad _ _ _ _ _ (by decide) (A.out.alloc _).k
end Go.Pa
