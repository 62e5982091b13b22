/- Walks of package bucket. -/
import Derived.Test.YtjidjbjbngbhpaaRows
import Derived.Test.YtjidjbjbngbhpaaPair
import Derived.Outline
import Derived.LoopTactic
set_option linter.unusedVariables false
set_option linter.unusedSimpArgs false
namespace Go.Proofs.Ytjidjbjbngbhpaa
open Go.RowKit Go.Proofs.YtjidjbjbngbhpaaW.PrintWords Go.Proofs.Ytjidjbjbngbhpaa.K

/-! Sends -/
def SendsOk (p n r : Int) : Prop := 2 ≤ n ∧ n ≤ 16 ∧ 0 ≤ p ∧ p < n ∧ 0 ≤ r ∧ r ≤ 2 * n - 3
set_option maxHeartbeats 400000 in
theorem sends_lo (p n r : Int) (w : World) (h : SendsOk p n r) (hr : r < n - 1) :
    Calls Try.prog 21 #[.int .i64 p, .int .i64 n, .int .i64 r] w fun e w' => e = .returned (.tuple #[.int .i64 ((p - r + n) % n), .bool true, .int .i64 0]) ∧ w = w' := by
  obtain ⟨h1, h2, h3, h4, h5, h6⟩ := h
  go_enter Try.func21, Try.ntmps21
  go_wp2
  go_ret3
  exact ⟨rfl, rfl⟩
set_option maxHeartbeats 400000 in
theorem sends_hi (p n r : Int) (w : World) (h : SendsOk p n r) (hr : ¬ r < n - 1) :
    Calls Try.prog 21 #[.int .i64 p, .int .i64 n, .int .i64 r] w fun e w' => e = .returned (.tuple #[.int .i64 ((p + 1 - (r - (n - 1)) + n) % n), .bool false, .int .i64 0]) ∧ w = w' := by
  obtain ⟨h1, h2, h3, h4, h5, h6⟩ := h
  go_enter Try.func21, Try.ntmps21
  go_wp2
  go_ret3
  exact ⟨rfl, rfl⟩
set_option maxHeartbeats 400000 in
theorem sends_bad (p n r : Int) (w : World) (hp : -1000000 ≤ p ∧ p ≤ 1000000) (hr : -1000000 ≤ r ∧ r ≤ 1000000) (h : ¬ SendsOk p n r) :
    Calls Try.prog 21 #[.int .i64 p, .int .i64 n, .int .i64 r] w fun e w' => e = .returned (.tuple #[.int .i64 0, .bool false, .int .i64 1]) ∧ w = w' := by
  have HH := Lib.hid h; clear h
  by_cases h1 : n < 2
  · go_enter Try.func21, Try.ntmps21
    go_wp2
    go_ret3
    exact ⟨rfl, rfl⟩
  by_cases h2 : 16 < n
  · go_enter Try.func21, Try.ntmps21
    go_wp2
    go_ret3
    exact ⟨rfl, rfl⟩
  by_cases h3 : p < 0
  · go_enter Try.func21, Try.ntmps21
    go_wp2
    go_ret3
    exact ⟨rfl, rfl⟩
  by_cases h4 : n ≤ p
  · go_enter Try.func21, Try.ntmps21
    go_wp2
    go_ret3
    exact ⟨rfl, rfl⟩
  by_cases h5 : r < 0
  · go_enter Try.func21, Try.ntmps21
    go_wp2
    go_ret3
    exact ⟨rfl, rfl⟩
  by_cases h6 : 2 * n - 3 < r
  · go_enter Try.func21, Try.ntmps21
    go_wp2
    go_ret3
    exact ⟨rfl, rfl⟩
  exact absurd ⟨by omega, by omega, by omega, by omega, by omega, by omega⟩ HH.out

/-! Chunks -/
def cstart (long n i : Nat) : Nat := i * (long / n) + min i (long % n)
def chunkL (long n : Nat) : Nat → List (Int × Int)
  | 0 => []
  | k + 1 => chunkL long n k ++ [(((cstart long n k : Nat) : Int), ((cstart long n (k + 1) : Nat) : Int))]
theorem chunkL_len (long n : Nat) : ∀ k, (chunkL long n k).length = k
  | 0 => rfl
  | k + 1 => by simp [chunkL, chunkL_len long n k]
theorem cstart_succ (long n i : Nat) : cstart long n (i + 1) = cstart long n i + long / n + if i < long % n then 1 else 0 := by
  unfold cstart
  rw [Nat.add_mul]
  split <;> omega
theorem cstart_le (long n i : Nat) (hi : i ≤ n) : cstart long n i ≤ long := by
  unfold cstart
  have h1 := Nat.div_add_mod long n
  have h2 : i * (long / n) ≤ n * (long / n) := Nat.mul_le_mul_right _ hi
  omega
def Pairs (w : World) (l : List (Int × Int)) (e : Ending) (w' : World) : Prop := ∃ A c, e = .returned (.tuple #[.slice A l.length c, .int .i64 0]) ∧ w'.ownsRow w.heap.size 63 2 (.slice A l.length c) l.length (pairs l) ∧ Below w.heap.size w w'
set_option maxHeartbeats 1000000 in
theorem chunks_ok (long n : Nat) (w : World) (h1 : long ≤ 400) (h2 : 1 ≤ n) (h3 : n ≤ 16) :
    Calls Try.prog 16 #[.int .i64 long, .int .i64 n] w (Pairs w (chunkL long n n)) := by
  go_enter Try.func16, Try.ntmps16
  go_wp2
  go_loopw [6, 7, 25] (fun s a i wr => ∃ (k : Nat) (A : Option Addr) (c : Nat), k ≤ n ∧ i = .int .i64 k ∧ a = .int .i64 (cstart long n k : Nat) ∧ s = .slice A k c ∧ Aside0 (wr.ownsRow w.heap.size 63 2 (.slice A k c) k (pairs (chunkL long n k)) ∧ Below w.heap.size w wr)) (fun _ _ i _ => n - (intOf i).toNat)
  case atStart => exact ⟨0, none, 0, Nat.zero_le _, rfl, by simp [cstart], rfl, ⟨own_nil _ _ _ _, Below.refl _ _⟩⟩
  case round =>
    obtain ⟨k, A, c, hk, rfl, rfl, rfl, HK⟩ := hrel
    by_cases hlt : k < n
    · have hb := cstart_le long n k (by omega)
      have hs := cstart_succ long n k
      have q0 : 0 ≤ (long : Int) / (n : Int) := Int.ediv_nonneg (by omega) (by omega)
      have q1 : (long : Int) / (n : Int) ≤ 400 := by rw [← Int.natCast_ediv]; have := Nat.div_le_self long n; omega
      have HM : Aside0 ((long : Int) % (n : Int) = ((long % n : Nat) : Int)) := ⟨(Int.natCast_emod _ _).symm⟩
      have HQ : Aside0 ((long : Int) / (n : Int) = ((long / n : Nat) : Int)) := ⟨(Int.natCast_ediv _ _).symm⟩
      have HS : Aside0 (cstart long n (k + 1) = cstart long n k + long / n + if k < long % n then 1 else 0) := ⟨hs⟩
      clear hs
      by_cases hlm : (k : Int) < (long : Int) % n
      · have HE : Aside0 ((cstart long n k : Int) + (long : Int) / n + 1 = ((cstart long n (k + 1) : Nat) : Int)) := ⟨by rw [HM.out] at hlm; rw [HS.out, HQ.out, if_pos (by omega)]; omega⟩
        go_wp2_with (at_builtin; refine app_pair w.heap.size rfl (.tmp 40) (.tmp 44) 49 63 rfl Try.underlying49 (by kernel_rfl) _ (chunkL long n k) _ _ k rfl rfl HK.out.1 HK.out.2 HK.out.2.size (by omega) ?_; intro A1 c1 w2 hown hB1; have HO := Lib.hid hown; clear hown)
        go_roundw
        case rel => exact ⟨k + 1, A1, c1, by omega, by go_num, by rw [HE.out], rfl, ⟨by have := HO.out; rw [HE.out] at this; exact this, hB1⟩⟩
        case measure => simp [intOf]; omega
      · have HE : Aside0 ((cstart long n k : Int) + (long : Int) / n = ((cstart long n (k + 1) : Nat) : Int)) := ⟨by rw [HM.out] at hlm; rw [HS.out, HQ.out, if_neg (by omega)]; omega⟩
        go_wp2_with (at_builtin; refine app_pair w.heap.size rfl (.tmp 40) (.tmp 44) 49 63 rfl Try.underlying49 (by kernel_rfl) _ (chunkL long n k) _ _ k rfl rfl HK.out.1 HK.out.2 HK.out.2.size (by omega) ?_; intro A1 c1 w2 hown hB1; have HO := Lib.hid hown; clear hown)
        go_roundw
        case rel => exact ⟨k + 1, A1, c1, by omega, by go_num, by rw [HE.out], rfl, ⟨by have := HO.out; rw [HE.out] at this; exact this, hB1⟩⟩
        case measure => simp [intOf]; omega
    · obtain rfl : k = n := by omega
      go_wp2
      go_ret2
      exact ⟨A, c, by rw [chunkL_len]; rfl, by rw [chunkL_len]; exact HK.out.1, HK.out.2⟩
set_option maxHeartbeats 400000 in
theorem chunks_bad (long n : Int) (w : World) (h : long < 0 ∨ 400 < long ∨ n < 1 ∨ 16 < n) :
    Calls Try.prog 16 #[.int .i64 long, .int .i64 n] w fun e w' => e = .returned (.tuple #[.slice none 0 0, .int .i64 1]) ∧ w = w' := by
  have HH := Lib.hid h; clear h
  by_cases h1 : long < 0
  · go_enter Try.func16, Try.ntmps16
    go_wp2
    go_ret2
    exact ⟨rfl, rfl⟩
  by_cases h2 : 400 < long
  · go_enter Try.func16, Try.ntmps16
    go_wp2
    go_ret2
    exact ⟨rfl, rfl⟩
  by_cases h3 : n < 1
  · go_enter Try.func16, Try.ntmps16
    go_wp2
    go_ret2
    exact ⟨rfl, rfl⟩
  by_cases h4 : 16 < n
  · go_enter Try.func16, Try.ntmps16
    go_wp2
    go_ret2
    exact ⟨rfl, rfl⟩
  exact absurd HH.out (by omega)
end Go.Proofs.Ytjidjbjbngbhpaa
