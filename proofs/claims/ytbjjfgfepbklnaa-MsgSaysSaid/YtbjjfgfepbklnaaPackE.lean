/- Numbers in bytes, as numbers: what is written is read back; the reference's bytes are the program's. -/
import Derived.Test.YtbjjfgfepbklnaaPackD
set_option linter.unusedVariables false
set_option linter.unusedSimpArgs false
namespace Go.Proofs.Ytbjjfgfepbklnaa
open Go.RowKit Go.Proofs.YtbjjfgfepbklnaaW.PrintWords Go.Proofs.Ytbjjfgfepbklnaa.K

theorem numStep_nat (v x : Nat) (hv : v < 72057594037927936) (hx : x < 256) : numStep (v : Int) (x : Int) = ((v * 256 + x : Nat) : Int) := by
  unfold numStep
  have e1 : ((v : Int) * 256 % 18446744073709551616) = ((v * 256 : Nat) : Int) := by omega
  have e2 : ((x : Int) % 18446744073709551616) = (x : Int) := by omega
  rw [e1, e2, u64_or_nat _ _ (by omega) (by omega), nat_join 8 (v * 256) x (by omega) (by omega)]
theorem byte_nat (v m : Nat) : ((v : Int) / 2 ^ m % 256) = ((v / 2 ^ m % 256 : Nat) : Int) := by
  simp
theorem numU_bes (v n : Nat) (hn : n ≤ 8) : ∀ k, k ≤ n → numU 0 (bes (v : Int) n k) = ((v / 2 ^ (8 * (n - k)) % 2 ^ (8 * k) : Nat) : Int)
  | 0, _ => by simp [bes, numU, Nat.mod_one]
  | k + 1, hk => by
    have ih := numU_bes v n hn k (by omega)
    have e : numU 0 (bes (v : Int) n (k + 1)) = numStep (numU 0 (bes (v : Int) n k)) ((v : Int) / 2 ^ (8 * (n - 1 - k)) % 256) := by
      simp [bes, numU, List.foldl_append]
    rw [e, ih, byte_nat]
    have hpos : 0 < 2 ^ (8 * k) := Nat.two_pow_pos _
    have hlt : v / 2 ^ (8 * (n - k)) % 2 ^ (8 * k) < 2 ^ (8 * k) := Nat.mod_lt _ hpos
    have hle : 2 ^ (8 * k) ≤ 2 ^ 56 := Nat.pow_le_pow_right (by decide) (by omega)
    rw [numStep_nat _ _ (by omega) (Nat.mod_lt _ (by decide))]
    congr 1
    have e2 : v / 2 ^ (8 * (n - k)) = v / 2 ^ (8 * (n - 1 - k)) / 256 := by
      rw [Nat.div_div_eq_div_mul, show 8 * (n - k) = 8 * (n - 1 - k) + 8 by omega, Nat.pow_add]
    have e3 : n - (k + 1) = n - 1 - k := by omega
    rw [e2, e3, show 8 * (k + 1) = 8 + 8 * k by omega, Nat.pow_add, Nat.mod_mul, show (2 : Nat) ^ 8 = 256 from rfl]
    generalize v / 2 ^ (8 * (n - 1 - k)) = y
    generalize y / 256 % 2 ^ (8 * k) = z
    omega
theorem numU_all (v n : Nat) (hn : n ≤ 8) : numU 0 (bes (v : Int) n n) = ((v % 2 ^ (8 * n) : Nat) : Int) := by
  rw [numU_bes v n hn n (Nat.le_refl _), Nat.sub_self, Nat.mul_zero, Nat.pow_zero, Nat.div_one]
theorem and_mask (v : Nat) (h : v < 4294967296) : bits .and .u32 (v : Int) 65535 = ((v % 65536 : Nat) : Int) := by
  have := u32_and_nat v 65535 h (by decide)
  rw [show (65535 : Nat) = 2 ^ 16 - 1 from rfl, Nat.and_two_pow_sub_one_eq_mod] at this
  exact this
theorem and_mask64 (v : Nat) (h : v < 18446744073709551616) : bits .and .u64 (v : Int) 4294967295 = ((v % 4294967296 : Nat) : Int) := by
  have := u64_and_nat v 4294967295 h (by decide)
  rw [show (4294967295 : Nat) = 2 ^ 32 - 1 from rfl, Nat.and_two_pow_sub_one_eq_mod] at this
  exact this
theorem w64' {i : Int} (h0 : -9223372036854775808 ≤ i) (h1 : i ≤ 9223372036854775807) : wrap64 i = i := by
  unfold wrap64; omega
theorem be4_eq (v : Nat) (h : v < 4294967296) : be4 (v : Int) = bes (v : Int) 4 4 := by
  have e : (bits .and .u32 (v : Int) 65535) = ((v % 65536 : Nat) : Int) := and_mask v h
  have p0 : (2 : Int) ^ (8 * (4 - 1 - 0)) = 16777216 := by decide
  have p1 : (2 : Int) ^ (8 * (4 - 1 - 1)) = 65536 := by decide
  have p2 : (2 : Int) ^ (8 * (4 - 1 - 2)) = 256 := by decide
  have p3 : (2 : Int) ^ (8 * (4 - 1 - 3)) = 1 := by decide
  unfold be4
  rw [e, w64' (by omega) (by omega)]
  simp only [bes, List.nil_append, List.cons_append, List.cons.injEq, and_true]
  rw [p0, p1, p2, p3]
  omega
theorem be8_eq (v : Nat) (h : v < 18446744073709551616) : be8 (v : Int) = bes (v : Int) 8 8 := by
  have e : (bits .and .u64 (v : Int) 4294967295) = ((v % 4294967296 : Nat) : Int) := and_mask64 v h
  have e1 : ((v : Int) / 4294967296) = ((v / 4294967296 : Nat) : Int) := by omega
  have e2 : (((v % 4294967296 : Nat) : Int) % 4294967296) = ((v % 4294967296 : Nat) : Int) := by omega
  have p0 : (2 : Int) ^ (8 * (8 - 1 - 0)) = 72057594037927936 := by decide
  have p1 : (2 : Int) ^ (8 * (8 - 1 - 1)) = 281474976710656 := by decide
  have p2 : (2 : Int) ^ (8 * (8 - 1 - 2)) = 1099511627776 := by decide
  have p3 : (2 : Int) ^ (8 * (8 - 1 - 3)) = 4294967296 := by decide
  have p4 : (2 : Int) ^ (8 * (8 - 1 - 4)) = 16777216 := by decide
  have p5 : (2 : Int) ^ (8 * (8 - 1 - 5)) = 65536 := by decide
  have p6 : (2 : Int) ^ (8 * (8 - 1 - 6)) = 256 := by decide
  have p7 : (2 : Int) ^ (8 * (8 - 1 - 7)) = 1 := by decide
  unfold be8
  rw [e, e1, e2, be4_eq _ (by omega), be4_eq _ (by omega)]
  simp only [bes, List.nil_append, List.cons_append, List.cons.injEq, and_true]
  rw [p0, p1, p2, p3, p4, p5, p6, p7]
  omega
theorem be2_eq (v : Int) : [v / 256 % 256, v % 256] = bes (v % 18446744073709551616) 2 2 := by
  have q2 : (2 : Int) ^ (8 * (2 - 1 - 0)) = 256 := by decide
  have q3 : (2 : Int) ^ (8 * (2 - 1 - 1)) = 1 := by decide
  simp only [bes, List.nil_append, List.cons_append, List.cons.injEq, and_true]
  rw [q2, q3]
  omega
end Go.Proofs.Ytbjjfgfepbklnaa
