/- Sums of bytes over natural numbers: a bit's step is linear and one to one; what follows for bursts and for exclusive sums. No program. -/
import Derived.KernelRfl
namespace Go.Proofs.Ytbjjfgfepbklnaa.M

def P32 : Nat := 3988292384
def T32 : Nat := 4294967296
def st (c : Nat) : Nat := (c / 2) ^^^ (if c % 2 = 1 then P32 else 0)
def stN : Nat → Nat → Nat
  | 0, c => c
  | n + 1, c => st (stN n c)
def by1 (c x : Nat) : Nat := stN 8 (c ^^^ x)
def run (c : Nat) (xs : List Nat) : Nat := xs.foldl by1 c
def full : Nat := 4294967295
def more (c : Nat) (xs : List Nat) : Nat := full ^^^ run (full ^^^ c) xs

theorem xor_lt {a b : Nat} (ha : a < 4294967296) (hb : b < 4294967296) : a ^^^ b < 4294967296 := Nat.xor_lt_two_pow (n := 32) ha hb
theorem xor_mod2 (a b : Nat) : (a ^^^ b) % 2 = (a % 2 + b % 2) % 2 := by
  have h := Nat.testBit_xor a b 0
  simp only [Nat.testBit_zero] at h
  have ha := Nat.mod_two_eq_zero_or_one a
  have hb := Nat.mod_two_eq_zero_or_one b
  have hc := Nat.mod_two_eq_zero_or_one (a ^^^ b)
  rcases ha with ha | ha <;> rcases hb with hb | hb <;> rcases hc with hc | hc <;> simp [ha, hb, hc] at h ⊢
theorem xor_4 (a b c d : Nat) : (a ^^^ b) ^^^ (c ^^^ d) = (a ^^^ c) ^^^ (b ^^^ d) := by
  rw [Nat.xor_assoc, ← Nat.xor_assoc b, Nat.xor_comm b c, Nat.xor_assoc, Nat.xor_assoc]
theorem st_xor (a b : Nat) : st (a ^^^ b) = st a ^^^ st b := by
  unfold st
  rw [xor_4, Nat.xor_div_two, xor_mod2]
  have ha := Nat.mod_two_eq_zero_or_one a
  have hb := Nat.mod_two_eq_zero_or_one b
  rcases ha with ha | ha <;> rcases hb with hb | hb <;> simp [ha, hb]
theorem st_zero : st 0 = 0 := by decide
theorem st_lt {c : Nat} (h : c < 4294967296) : st c < 4294967296 := by
  unfold st
  refine xor_lt (by omega) ?_
  split <;> decide
theorem stN_xor : ∀ (n a b : Nat), stN n (a ^^^ b) = stN n a ^^^ stN n b
  | 0, _, _ => rfl
  | n + 1, a, b => by rw [stN, stN_xor n, st_xor]; rfl
theorem stN_zero : ∀ n, stN n 0 = 0
  | 0 => rfl
  | n + 1 => by rw [stN, stN_zero n, st_zero]
theorem stN_lt {c : Nat} (h : c < 4294967296) : ∀ n, stN n c < 4294967296
  | 0 => h
  | n + 1 => st_lt (stN_lt h n)
theorem stN_add (c : Nat) (m : Nat) : ∀ n, stN (m + n) c = stN n (stN m c)
  | 0 => rfl
  | n + 1 => by rw [← Nat.add_assoc, stN, stN_add c m n]; rfl
theorem top_bit (a : Nat) (h : a < 2147483648) (b : Bool) : (a ^^^ (if b = true then P32 else 0)) / 2147483648 = if b = true then 1 else 0 := by
  have e : ∀ x y : Nat, (x ^^^ y) / 2147483648 = (x / 2147483648) ^^^ (y / 2147483648) := fun x y => by
    have := Nat.xor_div_two_pow (a := x) (b := y) (n := 31)
    simpa using this
  rw [e, Nat.div_eq_of_lt h]
  cases b <;> decide
theorem xor_cancel {a b c : Nat} (h : a ^^^ c = b ^^^ c) : a = b := by
  have := congrArg (· ^^^ c) h
  simpa [Nat.xor_assoc] using this
theorem xor_zero {a b : Nat} (h : a ^^^ b = 0) : a = b := xor_cancel (c := b) (by rw [h, Nat.xor_self])
theorem xor_cancelL {a b c : Nat} (h : c ^^^ a = c ^^^ b) : a = b := xor_cancel (c := c) (by rw [Nat.xor_comm a, Nat.xor_comm b]; exact h)
theorem st_inj {a b : Nat} (ha : a < 4294967296) (hb : b < 4294967296) (h : st a = st b) : a = b := by
  have ta := top_bit (a / 2) (by omega) (decide (a % 2 = 1))
  have tb := top_bit (b / 2) (by omega) (decide (b % 2 = 1))
  simp only [decide_eq_true_eq] at ta tb
  unfold st at h
  rw [h, tb] at ta
  have hm : (a % 2 = 1) ↔ (b % 2 = 1) := by
    by_cases h1 : a % 2 = 1 <;> by_cases h2 : b % 2 = 1 <;> simp [h1, h2] at ta ⊢
  simp only [hm] at h
  have hd := xor_cancel h
  omega
theorem stN_inj {a b : Nat} (ha : a < 4294967296) (hb : b < 4294967296) : ∀ n, stN n a = stN n b → a = b
  | 0, h => h
  | n + 1, h => stN_inj ha hb n (st_inj (stN_lt ha n) (stN_lt hb n) h)
theorem by1_lt {c x : Nat} (hc : c < 4294967296) (hx : x < 256) : by1 c x < 4294967296 := stN_lt (xor_lt hc (by omega)) 8
theorem run_lt : ∀ (xs : List Nat) {c : Nat}, c < 4294967296 → (∀ x ∈ xs, x < 256) → run c xs < 4294967296
  | [], _, h, _ => h
  | x :: r, c, h, hx => run_lt r (by1_lt h (hx x (by simp))) (fun y hy => hx y (by simp [hy]))
theorem run_append (c : Nat) (xs ys : List Nat) : run c (xs ++ ys) = run (run c xs) ys := by simp [run]
theorem run_inj : ∀ (xs : List Nat) {a b : Nat}, a < 4294967296 → b < 4294967296 → (∀ x ∈ xs, x < 256) → run a xs = run b xs → a = b
  | [], _, _, _, _, _, h => h
  | x :: r, a, b, ha, hb, hx, h => by
    have hx0 := hx x (by simp)
    have h2 : by1 a x = by1 b x := run_inj r (by1_lt ha hx0) (by1_lt hb hx0) (fun y hy => hx y (by simp [hy])) h
    exact xor_cancel (stN_inj (xor_lt ha (by omega)) (xor_lt hb (by omega)) 8 h2)
theorem by1_xor (a b x y : Nat) : by1 (a ^^^ b) (x ^^^ y) = by1 a x ^^^ by1 b y := by unfold by1; rw [xor_4, stN_xor]
/-- What was summed of lists of one length, exclusive or'd. -/
theorem run_xor : ∀ (xs ys : List Nat) (a b : Nat), xs.length = ys.length → run (a ^^^ b) (List.zipWith (· ^^^ ·) xs ys) = run a xs ^^^ run b ys
  | [], [], _, _, _ => rfl
  | x :: r, y :: s, a, b, h => by
    have := run_xor r s (by1 a x) (by1 b y) (by simpa using h)
    simp only [List.zipWith_cons_cons, run, List.foldl_cons] at this ⊢
    rw [by1_xor]; exact this
theorem more_lt (c : Nat) (xs : List Nat) (h : c < 4294967296) (hx : ∀ x ∈ xs, x < 256) : more c xs < 4294967296 := xor_lt (by decide) (run_lt xs (xor_lt (by decide) h) hx)
/-- Exclusive or'd: three of one length. -/
theorem more_lines (a b c : List Nat) (h1 : b.length = a.length) (h2 : c.length = a.length) :
    more 0 (List.zipWith (· ^^^ ·) (List.zipWith (· ^^^ ·) a b) c) = (more 0 a ^^^ more 0 b) ^^^ more 0 c := by
  unfold more
  rw [Nat.xor_zero]
  have e : full = (full ^^^ full) ^^^ full := by decide
  have h3 := run_xor (List.zipWith (· ^^^ ·) a b) c (full ^^^ full) full (by simp; omega)
  rw [run_xor a b full full (by omega), ← e] at h3
  rw [h3]
  generalize run full a = x
  generalize run full b = y
  generalize run full c = z
  rw [xor_4 full x full y, xor_4 (full ^^^ full) (x ^^^ y) full z, ← e]
/-- More, in parts. -/
theorem more_append (c : Nat) (xs ys : List Nat) : more (more c xs) ys = more c (xs ++ ys) := by
  unfold more
  rw [run_append, ← Nat.xor_assoc full full, Nat.xor_self, Nat.zero_xor]

/-! bursts -/
theorem st_two (x : Nat) : st (x * 2) = x := by
  unfold st
  rw [Nat.mul_div_cancel _ (by decide), Nat.mul_mod_left]
  simp
theorem stN_pow (x : Nat) : ∀ n, stN n (x * 2 ^ n) = x
  | 0 => by simp [stN]
  | n + 1 => by
    have e : ∀ n c, stN (n + 1) c = stN n (st c) := fun n c => by
      have := stN_add c 1 n
      rw [Nat.add_comm] at this
      exact this
    rw [e, Nat.pow_succ, ← Nat.mul_assoc, st_two, stN_pow x n]
theorem by1_at (m y d : Nat) : by1 (stN m y) d = stN (m + 8) (y ^^^ d * 2 ^ m) := by
  unfold by1
  rw [stN_add, stN_xor m, stN_pow]
theorem run4 (d0 d1 d2 d3 : Nat) : run 0 [d0, d1, d2, d3] = stN 32 (((d0 ^^^ d1 * 2 ^ 8) ^^^ d2 * 2 ^ 16) ^^^ d3 * 2 ^ 24) := by
  have e0 : by1 0 d0 = stN 8 d0 := by unfold by1; rw [Nat.zero_xor]
  simp only [run, List.foldl_cons, List.foldl_nil]
  rw [e0, by1_at 8, by1_at 16, by1_at 24]
theorem run4_zero {d0 d1 d2 d3 : Nat} (h0 : d0 < 256) (h1 : d1 < 256) (h2 : d2 < 256) (h3 : d3 < 256) (h : run 0 [d0, d1, d2, d3] = 0) : d0 = 0 ∧ d1 = 0 ∧ d2 = 0 ∧ d3 = 0 := by
  rw [run4, ← stN_zero 32] at h
  have l1 : d0 ^^^ d1 * 2 ^ 8 < 2 ^ 16 := Nat.xor_lt_two_pow (by omega) (by omega)
  have l2 : (d0 ^^^ d1 * 2 ^ 8) ^^^ d2 * 2 ^ 16 < 2 ^ 24 := Nat.xor_lt_two_pow (by omega) (by omega)
  have l3 : ((d0 ^^^ d1 * 2 ^ 8) ^^^ d2 * 2 ^ 16) ^^^ d3 * 2 ^ 24 < 2 ^ 32 := Nat.xor_lt_two_pow (by omega) (by omega)
  have hz := stN_inj (by simpa using l3) (by decide) 32 h
  have x3 := xor_zero hz
  have z3 : d3 = 0 := by omega
  rw [x3, z3, Nat.zero_mul] at l2
  rw [z3, Nat.zero_mul] at x3
  have x2 := xor_zero x3
  have z2 : d2 = 0 := by omega
  rw [z2, Nat.zero_mul] at x2
  have x1 := xor_zero x2
  omega
theorem xor_split {a b c : Nat} (h : a ^^^ b = c) : b = a ^^^ c := by
  rw [← h, ← Nat.xor_assoc, Nat.xor_self, Nat.zero_xor]
/-- A change within four bytes side by side changes the sum. -/
theorem burst (c : Nat) (p s : List Nat) (x0 x1 x2 x3 y0 y1 y2 y3 : Nat) (hc : c < 4294967296) (hp : ∀ x ∈ p, x < 256) (hs : ∀ x ∈ s, x < 256)
    (hx0 : x0 < 256) (hx1 : x1 < 256) (hx2 : x2 < 256) (hx3 : x3 < 256) (hy0 : y0 < 256) (hy1 : y1 < 256) (hy2 : y2 < 256) (hy3 : y3 < 256)
    (h : more c (p ++ [x0, x1, x2, x3] ++ s) = more c (p ++ [y0, y1, y2, y3] ++ s)) : x0 = y0 ∧ x1 = y1 ∧ x2 = y2 ∧ x3 = y3 := by
  unfold more at h
  have h2 := xor_cancelL h
  simp only [run_append] at h2
  have hr := run_lt p (c := full ^^^ c) (xor_lt (by decide) hc) hp
  generalize run (full ^^^ c) p = r at h2 hr
  have l4 : ∀ a b d e : Nat, a < 256 → b < 256 → d < 256 → e < 256 → ∀ x ∈ [a, b, d, e], x < 256 := by
    intro a b d e h1 h2 h3 h4 x hx
    simp only [List.mem_cons, List.not_mem_nil, or_false] at hx
    omega
  have h3 := run_inj s (run_lt _ hr (l4 _ _ _ _ hx0 hx1 hx2 hx3)) (run_lt _ hr (l4 _ _ _ _ hy0 hy1 hy2 hy3)) hs h2
  have h4 := run_xor [x0, x1, x2, x3] [y0, y1, y2, y3] r r rfl
  rw [h3, Nat.xor_self, Nat.xor_self] at h4
  simp only [List.zipWith_cons_cons, List.zipWith_nil_left] at h4
  obtain ⟨a, b, d, e⟩ := run4_zero (Nat.xor_lt_two_pow (n := 8) hx0 hy0) (Nat.xor_lt_two_pow (n := 8) hx1 hy1) (Nat.xor_lt_two_pow (n := 8) hx2 hy2) (Nat.xor_lt_two_pow (n := 8) hx3 hy3) h4
  exact ⟨xor_zero a, xor_zero b, xor_zero d, xor_zero e⟩
end Go.Proofs.Ytbjjfgfepbklnaa.M
