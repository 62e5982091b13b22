/- The walk of CrcBursts. -/
import Derived.Test.YtmmgmhjoibipcaaC
import Derived.Test.YtmmgmhjoibipcaaK
set_option linter.unusedVariables false
set_option linter.unusedSimpArgs false
namespace Go.Proofs.Ytmmgmhjoibipcaa
open Go.RowKit Go.Proofs.YtmmgmhjoibipcaaW.PrintWords

theorem eq4_0 (n : Nat) (b1 b2 b3 : Int) (w : World) : (binOp .eql 30 (.agg #[.int .u8 (Int.ofNat (n + 1)), .int .u8 b1, .int .u8 b2, .int .u8 b3]) (.agg #[.int .u8 0, .int .u8 0, .int .u8 0, .int .u8 0])).run Try.prog w = .ok (.bool false) w := by kernel_rfl
theorem eq4_1 (n : Nat) (b2 b3 : Int) (w : World) : (binOp .eql 30 (.agg #[.int .u8 0, .int .u8 (Int.ofNat (n + 1)), .int .u8 b2, .int .u8 b3]) (.agg #[.int .u8 0, .int .u8 0, .int .u8 0, .int .u8 0])).run Try.prog w = .ok (.bool false) w := by kernel_rfl
theorem eq4_2 (n : Nat) (b3 : Int) (w : World) : (binOp .eql 30 (.agg #[.int .u8 0, .int .u8 0, .int .u8 (Int.ofNat (n + 1)), .int .u8 b3]) (.agg #[.int .u8 0, .int .u8 0, .int .u8 0, .int .u8 0])).run Try.prog w = .ok (.bool false) w := by kernel_rfl
theorem eq4_3 (n : Nat) (w : World) : (binOp .eql 30 (.agg #[.int .u8 0, .int .u8 0, .int .u8 0, .int .u8 (Int.ofNat (n + 1))]) (.agg #[.int .u8 0, .int .u8 0, .int .u8 0, .int .u8 0])).run Try.prog w = .ok (.bool false) w := by kernel_rfl
theorem eq4_4 (w : World) : (binOp .eql 30 (.agg #[.int .u8 0, .int .u8 0, .int .u8 0, .int .u8 0]) (.agg #[.int .u8 0, .int .u8 0, .int .u8 0, .int .u8 0])).run Try.prog w = .ok (.bool true) w := by kernel_rfl
theorem eq4 (b0 b1 b2 b3 : Int) (h0 : 0 ≤ b0) (h1 : 0 ≤ b1) (h2 : 0 ≤ b2) (h3 : 0 ≤ b3) : ∃ r : Bool, (∀ w : World, (binOp .eql 30 (.agg #[.int .u8 b0, .int .u8 b1, .int .u8 b2, .int .u8 b3]) (.agg #[.int .u8 0, .int .u8 0, .int .u8 0, .int .u8 0])).run Try.prog w = .ok (.bool r) w) ∧ (r = false → ¬ (b0 = 0 ∧ b1 = 0 ∧ b2 = 0 ∧ b3 = 0)) := by
  have key : ∀ b : Int, 0 ≤ b → b = 0 ∨ ∃ n : Nat, b = Int.ofNat (n + 1) := fun b hb => by
    rcases Int.eq_ofNat_of_zero_le hb with ⟨m, rfl⟩
    cases m with
    | zero => exact .inl rfl
    | succ m => exact .inr ⟨m, rfl⟩
  rcases key b0 h0 with rfl | ⟨n, rfl⟩
  · rcases key b1 h1 with rfl | ⟨n, rfl⟩
    · rcases key b2 h2 with rfl | ⟨n, rfl⟩
      · rcases key b3 h3 with rfl | ⟨n, rfl⟩
        · exact ⟨true, eq4_4, fun h => by cases h⟩
        · exact ⟨false, eq4_3 n, fun _ h => by have := h.2.2.2; simp at this; omega⟩
      · exact ⟨false, eq4_2 n b3, fun _ h => by have := h.2.2.1; simp at this; omega⟩
    · exact ⟨false, eq4_1 n b2 b3, fun _ h => by have := h.2.1; simp at this; omega⟩
  · exact ⟨false, eq4_0 n b1 b2 b3, fun _ h => by have := h.1; simp at this; omega⟩

/-! what is changed -/
def bN (X : List Nat) (a : Nat) (ds : Nat → Nat) : Nat → List Nat
  | 0 => X
  | k + 1 => (bN X a ds k).set (a + k) ((bN X a ds k).getD (a + k) 0 ^^^ ds k)
def bI (xs : List Int) (a : Nat) (ds : Nat → Int) : Nat → List Int
  | 0 => xs
  | k + 1 => (bI xs a ds k).set (a + k) (bits .xor .u8 ((bI xs a ds k).getD (a + k) 0) (ds k))
theorem bI_len (xs : List Int) (a : Nat) (ds : Nat → Int) : ∀ k, (bI xs a ds k).length = xs.length
  | 0 => rfl
  | k + 1 => by rw [bI, List.length_set, bI_len xs a ds k]
theorem bN_len (xs : List Nat) (a : Nat) (ds : Nat → Nat) : ∀ k, (bN xs a ds k).length = xs.length
  | 0 => rfl
  | k + 1 => by rw [bN, List.length_set, bN_len xs a ds k]
theorem getD_lt {X : List Nat} (h : ∀ x ∈ X, x < 256) (i : Nat) : X.getD i 0 < 256 := by
  rw [List.getD_eq_getElem?_getD]
  by_cases hi : i < X.length
  · rw [List.getElem?_eq_getElem hi]; exact h _ (List.getElem_mem _)
  · rw [List.getElem?_eq_none (by omega)]; decide
theorem bN_lt (X : List Nat) (a : Nat) (ds : Nat → Nat) (h : ∀ x ∈ X, x < 256) (hd : ∀ i, ds i < 256) : ∀ k, ∀ x ∈ bN X a ds k, x < 256
  | 0 => h
  | k + 1 => by
    intro x hx
    rw [bN] at hx
    rcases List.mem_or_eq_of_mem_set hx with hx | rfl
    · exact bN_lt X a ds h hd k x hx
    · exact Nat.xor_lt_two_pow (n := 8) (getD_lt (bN_lt X a ds h hd k) _) (hd k)
theorem bI_nat (X : List Nat) (a : Nat) (ds : Nat → Nat) (h : ∀ x ∈ X, x < 256) (hd : ∀ i, ds i < 256) : ∀ k, bI (X.map fun (x : Nat) => (x : Int)) a (fun i => (ds i : Int)) k = (bN X a ds k).map fun (x : Nat) => (x : Int)
  | 0 => rfl
  | k + 1 => by
    rw [bI, bN, bI_nat X a ds h hd k, List.map_set]
    congr 1
    have e : ((bN X a ds k).map fun (x : Nat) => (x : Int)).getD (a + k) 0 = (((bN X a ds k).getD (a + k) 0 : Nat) : Int) := by
      simp only [List.getD_eq_getElem?_getD, List.getElem?_map]
      cases (bN X a ds k)[a + k]? <;> rfl
    rw [e]
    exact u8_xor_nat _ _ (getD_lt (bN_lt X a ds h hd k) _) (hd k)
theorem split4 (Z : List Nat) (a : Nat) (h : a + 4 ≤ Z.length) : Z = Z.take a ++ [Z.getD a 0, Z.getD (a + 1) 0, Z.getD (a + 2) 0, Z.getD (a + 3) 0] ++ Z.drop (a + 4) := by
  have g : ∀ i (hi : i < Z.length), Z.getD i 0 = Z[i] := fun i hi => by simp [List.getD_eq_getElem?_getD, hi]
  conv => lhs; rw [← List.take_append_drop a Z]
  rw [List.append_assoc]
  congr 1
  rw [List.drop_eq_getElem_cons (show a < Z.length by omega), List.drop_eq_getElem_cons (show a + 1 < Z.length by omega), List.drop_eq_getElem_cons (show a + 1 + 1 < Z.length by omega), List.drop_eq_getElem_cons (show a + 1 + 1 + 1 < Z.length by omega)]
  rw [g a (by omega), g (a + 1) (by omega), g (a + 2) (by omega), g (a + 3) (by omega)]
  rfl
theorem getD_set (Z : List Nat) (i j v : Nat) (hi : i < Z.length) : (Z.set i v).getD j 0 = if i = j then v else Z.getD j 0 := by
  simp only [List.getD_eq_getElem?_getD, List.getElem?_set]
  split
  · rename_i h; subst h; simp
  · rfl
theorem bN_unlike (X : List Nat) (a : Nat) (ds : Nat → Nat) (h : ∀ x ∈ X, x < 256) (hd : ∀ i, ds i < 256) (ha : a + 4 ≤ X.length) (hn : ¬ (ds 0 = 0 ∧ ds 1 = 0 ∧ ds 2 = 0 ∧ ds 3 = 0)) : M.more 0 (bN X a ds 4) ≠ M.more 0 X := by
  intro e
  have hl := bN_len X a ds
  have hlt := bN_lt X a ds h hd 4
  have t : (bN X a ds 4).take a = X.take a := by
    simp only [bN]
    rw [List.take_set_of_le (by omega), List.take_set_of_le (by omega), List.take_set_of_le (by omega), List.take_set_of_le (by omega)]
  have d : (bN X a ds 4).drop (a + 4) = X.drop (a + 4) := by
    simp only [bN]
    rw [List.drop_set_of_lt (by omega), List.drop_set_of_lt (by omega), List.drop_set_of_lt (by omega), List.drop_set_of_lt (by omega)]
  have l0 : a + 0 < (bN X a ds 0).length := by rw [hl]; omega
  have l1 : a + 1 < (bN X a ds 1).length := by rw [hl]; omega
  have l2 : a + 2 < (bN X a ds 2).length := by rw [hl]; omega
  have l3 : a + 3 < (bN X a ds 3).length := by rw [hl]; omega
  have s : ∀ k j, a + k < (bN X a ds k).length → (bN X a ds (k + 1)).getD j 0 = if a + k = j then (bN X a ds k).getD (a + k) 0 ^^^ ds k else (bN X a ds k).getD j 0 := fun k j hk => by rw [bN]; exact getD_set _ _ _ _ hk
  have g0 : (bN X a ds 4).getD a 0 = X.getD a 0 ^^^ ds 0 := by
    rw [s 3 _ l3, if_neg (by omega), s 2 _ l2, if_neg (by omega), s 1 _ l1, if_neg (by omega), s 0 _ l0, if_pos (by omega)]; rfl
  have g1 : (bN X a ds 4).getD (a + 1) 0 = X.getD (a + 1) 0 ^^^ ds 1 := by
    rw [s 3 _ l3, if_neg (by omega), s 2 _ l2, if_neg (by omega), s 1 _ l1, if_pos (by omega), s 0 _ l0, if_neg (by omega)]; rfl
  have g2 : (bN X a ds 4).getD (a + 2) 0 = X.getD (a + 2) 0 ^^^ ds 2 := by
    rw [s 3 _ l3, if_neg (by omega), s 2 _ l2, if_pos (by omega), s 1 _ l1, if_neg (by omega), s 0 _ l0, if_neg (by omega)]; rfl
  have g3 : (bN X a ds 4).getD (a + 3) 0 = X.getD (a + 3) 0 ^^^ ds 3 := by
    rw [s 3 _ l3, if_pos (by omega), s 2 _ l2, if_neg (by omega), s 1 _ l1, if_neg (by omega), s 0 _ l0, if_neg (by omega)]; rfl
  rw [split4 (bN X a ds 4) a (by rw [hl]; omega), t, d, g0, g1, g2, g3] at e
  conv at e => rhs; rw [split4 X a ha]
  have x := fun i => getD_lt h i
  have y := fun i j => Nat.xor_lt_two_pow (n := 8) (x i) (hd j)
  obtain ⟨e0, e1, e2, e3⟩ := M.burst 0 _ _ _ _ _ _ _ _ _ _ (by decide) (fun q hq => h q (List.mem_of_mem_take hq)) (fun q hq => h q (List.mem_of_mem_drop hq)) (y _ _) (y _ _) (y _ _) (y _ _) (x _) (x _) (x _) (x _) e
  have z : ∀ p q : Nat, p ^^^ q = p → q = 0 := fun p q hh => by
    have := M.xor_split hh
    rw [Nat.xor_self] at this
    exact this
  exact hn ⟨z _ _ e0, z _ _ e1, z _ _ e2, z _ _ e3⟩
theorem bI_unlike (xs : List Int) (a : Nat) (b0 b1 b2 b3 : Int) (h : ∀ x ∈ xs, (Lit.int .u8 x).wf = true) (hb : (0 ≤ b0 ∧ b0 < 256) ∧ (0 ≤ b1 ∧ b1 < 256) ∧ (0 ≤ b2 ∧ b2 < 256) ∧ (0 ≤ b3 ∧ b3 < 256)) (ha : a + 4 ≤ xs.length) (hn : ¬ (b0 = 0 ∧ b1 = 0 ∧ b2 = 0 ∧ b3 = 0)) :
    (moreI 0 (bI xs a (fun i => [b0, b1, b2, b3].getD i 0) 4) != moreI 0 xs) = true := by
  obtain ⟨X, rfl, hX⟩ := to_nats xs h
  obtain ⟨c0, rfl⟩ := Int.eq_ofNat_of_zero_le hb.1.1
  obtain ⟨c1, rfl⟩ := Int.eq_ofNat_of_zero_le hb.2.1.1
  obtain ⟨c2, rfl⟩ := Int.eq_ofNat_of_zero_le hb.2.2.1.1
  obtain ⟨c3, rfl⟩ := Int.eq_ofNat_of_zero_le hb.2.2.2.1
  have hd : ∀ i, [c0, c1, c2, c3].getD i 0 < 256 := getD_lt (fun x hx => by
    simp only [List.mem_cons, List.not_mem_nil, or_false] at hx
    omega)
  have e : (fun i => [(c0 : Int), c1, c2, c3].getD i 0) = fun i => (([c0, c1, c2, c3].getD i 0 : Nat) : Int) := by
    funext i
    match i with
    | 0 => rfl
    | 1 => rfl
    | 2 => rfl
    | 3 => rfl
    | n + 4 => rfl
  have m := fun xs hx => moreI_nat 0 xs (by decide) hx
  simp only [Int.natCast_zero] at m
  rw [e, bI_nat X a _ hX hd 4, m _ (bN_lt X a _ hX hd 4), m X hX]
  have := bN_unlike X a (fun i => [c0, c1, c2, c3].getD i 0) hX hd (by simpa using ha) (fun hh => hn (by
    obtain ⟨p, q, r, s⟩ := hh
    simp only [List.getD_cons_zero, List.getD_cons_succ] at p q r s
    subst p q r s
    exact ⟨rfl, rfl, rfl, rfl⟩))
  simp only [bne_iff_ne, ne_eq, Int.natCast_inj]
  exact this

def bsOf (b0 b1 b2 b3 : Int) (i : Nat) : Int := [b0, b1, b2, b3].getD i 0
theorem below_box {W w1 : World} {o : Obj} (h : Below (W.alloc o).heap.size (W.alloc o) w1) : Below W.heap.size W w1 := below_then ((Below.refl _ _).alloc (Nat.le_refl _) o) (by simp) h
set_option maxHeartbeats 1000000 in
theorem bursts_walk (W : World) (A : Option Addr) (n c : Nat) (xs : List Int) (h : ReadsInt W .u8 A n xs) (hw : ∀ x ∈ xs, (Lit.int .u8 x).wf = true) (hc : n ≤ c) (hs : n * 1 ≤ 140737488351232)
    (at_ : Int) (wat : (Lit.int .i64 at_).wf = true) (b0 b1 b2 b3 : Int) (hbb : (0 ≤ b0 ∧ b0 < 256) ∧ (0 ≤ b1 ∧ b1 < 256) ∧ (0 ≤ b2 ∧ b2 < 256) ∧ (0 ≤ b3 ∧ b3 < 256)) :
    Calls Try.prog 6 #[.slice A n c, .int .i64 at_, .agg #[.int .u8 b0, .int .u8 b1, .int .u8 b2, .int .u8 b3]] W fun e w' => e = .returned (.bool true) ∧ Below W.heap.size W w' := by
  have H : ∀ w1, Below W.heap.size W w1 → ReadsInt w1 .u8 A n xs := fun w1 hb => h.below hb
  have hxl := Lib.hid h.1
  clear h
  obtain ⟨r, hrun, hr⟩ := eq4 b0 b1 b2 b3 hbb.1.1 hbb.2.1.1 hbb.2.2.1.1 hbb.2.2.2.1
  have hr2 := Lib.hid hr; clear hr
  by_cases h6 : 600 < n
  · go_enter Try.func6, Try.ntmps6
    go_wp2_with (go_at_call 8; refine (awake_walk _).mono ?_; rintro e w1 ⟨rfl, hb⟩)
    go_ret
    exact ⟨rfl, below_box hb⟩
  by_cases h7 : at_ < 0
  · go_enter Try.func6, Try.ntmps6
    go_wp2_with (go_at_call 8; refine (awake_walk _).mono ?_; rintro e w1 ⟨rfl, hb⟩)
    go_ret
    exact ⟨rfl, below_box hb⟩
  by_cases h8 : (n : Int) - 4 < at_
  · go_enter Try.func6, Try.ntmps6
    go_wp2_with (go_at_call 8; refine (awake_walk _).mono ?_; rintro e w1 ⟨rfl, hb⟩)
    go_ret
    exact ⟨rfl, below_box hb⟩
  have h0 : 0 ≤ at_ := by omega
  have hbs : Aside0 (((0 ≤ b0 ∧ b0 < 256) ∧ (0 ≤ b1 ∧ b1 < 256) ∧ (0 ≤ b2 ∧ b2 < 256) ∧ (0 ≤ b3 ∧ b3 < 256)) ∧ ∀ x ∈ xs, (Lit.int .u8 x).wf = true) := ⟨hbb, hw⟩
  clear hbb hw wat
  obtain ⟨a, rfl⟩ := Int.eq_ofNat_of_zero_le h0
  cases r with
  | true =>
    go_enter Try.func6, Try.ntmps6
    go_wp2_with (go_at_call 8; refine (awake_walk _).mono ?_; rintro e w1 ⟨rfl, hb⟩; have c0 : w1.cell? ⟨W.heap.size, 0, none⟩ = some (.int .u8 b0) := pw_cell_below hb (by simp); have c1 : w1.cell? ⟨W.heap.size, 1, none⟩ = some (.int .u8 b1) := pw_cell_below hb (by simp); have c2 : w1.cell? ⟨W.heap.size, 2, none⟩ = some (.int .u8 b2) := pw_cell_below hb (by simp); have c3 : w1.cell? ⟨W.heap.size, 3, none⟩ = some (.int .u8 b3) := pw_cell_below hb (by simp))
    go_ret
    exact ⟨rfl, below_box hb⟩
  | false =>
    have hne := Lib.hid (hr2.out rfl)
    clear hr2
    go_enter Try.func6, Try.ntmps6
    go_wp2_with (first | (go_at_call 8; refine (awake_walk _).mono ?_; rintro e w1 ⟨rfl, hb⟩; have c0 : w1.cell? ⟨W.heap.size, 0, none⟩ = some (.int .u8 b0) := pw_cell_below hb (by simp); have c1 : w1.cell? ⟨W.heap.size, 1, none⟩ = some (.int .u8 b1) := pw_cell_below hb (by simp); have c2 : w1.cell? ⟨W.heap.size, 2, none⟩ = some (.int .u8 b2) := pw_cell_below hb (by simp); have c3 : w1.cell? ⟨W.heap.size, 3, none⟩ = some (.int .u8 b3) := pw_cell_below hb (by simp)) | (at_builtin; refine print_append_row (w0 := w1) w1.heap.size rfl (.tmp 30) (.tmp 31) 25 5 .u8 1 rfl Try.underlying25 (by kernel_rfl) (by decide) _ [] xs _ _ _ rfl rfl (own_lit _ _ 5 .u8 [] (Nat.le_refl _) (by decide)) ((H _ (below_box hb)).below ((Below.refl _ _).alloc (Nat.le_refl _) _)) ((Below.refl _ _).alloc (Nat.le_refl _) _) (by simp) (by simp; omega) ?_; intro v1 w2 hown hB1 _ _; have HO := Lib.hid hown; clear hown))
    have hbw := below_box hb
    have cb := Lib.hid (show ∀ k, k < 4 → w1.cell? ⟨W.heap.size, k, none⟩ = some (.int .u8 (bsOf b0 b1 b2 b3 k)) from fun k hk => by
      match k, hk with
      | 0, _ => exact c0
      | 1, _ => exact c1
      | 2, _ => exact c2
      | 3, _ => exact c3)
    have HO2 : w2.ownsRow w1.heap.size 5 1 v1 n (nums .u8 xs) := by have := HO.out; simpa [hxl.out] using this
    clear HO c0 c1 c2 c3 hrun
    obtain ⟨g, cap, rfl, hgb, hgl⟩ := HO2.form (by omega)
    have HO3 := Lib.hid HO2; clear HO2
    go_loopw [8] (fun i wr => ∃ k : Nat, k ≤ 4 ∧ i = .int .i64 k ∧ Aside0 (wr.ownsRow w1.heap.size 5 1 (.slice (some ⟨g, 0, none⟩) n cap) n (nums .u8 (bI xs a (bsOf b0 b1 b2 b3) k)) ∧ Below w1.heap.size w1 wr)) (fun i _ => 4 - (intOf i).toNat)
    case atStart => exact ⟨0, by omega, rfl, ⟨HO3.out, hB1⟩⟩
    case round =>
      obtain ⟨k, hk, rfl, HK⟩ := hrel
      by_cases hlt : k < 4
      · have cbk := pw_cell_below HK.out.2 (cb.out k hlt)
        obtain ⟨f1, f2⟩ := own_at HK.out.1 ((a + k : Nat) : Int) (by omega) (by omega)
        simp only [Int.toNat_natCast] at f1 f2
        have q1 : (a : Int) + k < n := by omega
        have q2 : (0 : Int) ≤ (a : Int) + k := by omega
        have q3 : ((a : Int) + k).toNat = a + k := by omega
        have q4 : IntKind.i64.wrap ((a : Int) + k) = (a : Int) + k := IntWalk.i64_in _ (by omega)
        go_wp2
        go_still_tail 15, (by kernel_rfl)
        change wpList _ _ _ _ _ wr.drew
        go_wp2
        clear q1 q2 q3 q4
        go_roundw
        case rel =>
          obtain ⟨s1, s2⟩ := own_store HK.out.1 ((a + k : Nat) : Int) (bits .xor .u8 ((bI xs a (bsOf b0 b1 b2 b3) k).getD (a + k) 0) (bsOf b0 b1 b2 b3 k))
          simp only [Int.toNat_natCast] at s1 s2
          have s3 := below_drew (pw_below_grown HK.out.2 (some g) HK.out.2.size s2 (fun q hq => by cases hq; exact hgb))
          have e : rd (bI xs a (bsOf b0 b1 b2 b3) k) ((a : Int) + k) = (bI xs a (bsOf b0 b1 b2 b3) k).getD (a + k) 0 := by
            unfold rd; rw [show ((a : Int) + k).toNat = a + k by omega]
          rw [e]
          exact ⟨k + 1, by omega, by go_num, ⟨pw_own_below s1 (below_drew (Below.refl _ _)), s3⟩⟩
        case measure => simp [intOf]; omega
      · obtain rfl : k = 4 := by omega
        obtain ⟨A4, c4, e4, R4⟩ := own_reads HK.out.1
        cases e4
        have HT : Aside0 ((moreI 0 (bI xs a (bsOf b0 b1 b2 b3) 4) != moreI 0 xs) = true) := ⟨bI_unlike xs a b0 b1 b2 b3 hbs.out.2 hbs.out.1 (by rw [hxl.out]; omega) hne.out⟩
        have HR : Aside0 (ReadsInt wr .u8 (some ⟨g, 0, none⟩) n (bI xs a (bsOf b0 b1 b2 b3) 4) ∧ ReadsInt wr .u8 A n xs) := ⟨R4, (H _ hbw).below HK.out.2⟩
        clear R4 H
        go_wp2_with (first | (go_at_call 9; (with_reducible refine (of_walk _ _ _ _ _ HR.out.1).mono ?_); rintro e w' ⟨rfl, rfl⟩) | (go_at_call 9; (with_reducible refine (of_walk _ _ _ _ _ HR.out.2).mono ?_); rintro e w' ⟨rfl, rfl⟩))
        go_ret
        exact ⟨by have h := HT.out; simpa using h, below_then hbw hbw.size HK.out.2⟩
end Go.Proofs.Ytmmgmhjoibipcaa
namespace Go.Proofs.Ytmmgmhjoibipcaa
open Go.RowKit Go.Proofs.YtmmgmhjoibipcaaW.PrintWords
theorem bursts_row (W : World) (A : Option Addr) (n c : Nat) (xs : List Int) (h : ReadsInt W .u8 A n xs) (hw : ∀ x ∈ xs, (Lit.int .u8 x).wf = true) (hc : n ≤ c) (hs : n * 1 ≤ 140737488351232)
    (at_ : Int) (wat : (Lit.int .i64 at_).wf = true) (v : Value) (o : ∃ zs : List Int, v = .agg (nums .u8 zs).toArray ∧ zs.length = 4 ∧ ∀ y ∈ zs, (Lit.int .u8 y).wf = true) :
    Calls Try.prog 6 #[.slice A n c, .int .i64 at_, v] W fun e w' => e = .returned (.bool true) ∧ Below W.heap.size W w' := by
  obtain ⟨zs, rfl, hl, hz⟩ := o
  match zs, hl with
  | [b0, b1, b2, b3], _ =>
    have r : ∀ y ∈ [b0, b1, b2, b3], 0 ≤ y ∧ y < 256 := fun y hy => by
      have := hz y hy
      simp [Lit.wf, IntKind.min, IntKind.max, IntKind.signed, IntKind.bits] at this
      omega
    exact bursts_walk W A n c xs h hw hc hs at_ wat b0 b1 b2 b3 ⟨r _ (by simp), r _ (by simp), r _ (by simp), r _ (by simp)⟩
end Go.Proofs.Ytmmgmhjoibipcaa
