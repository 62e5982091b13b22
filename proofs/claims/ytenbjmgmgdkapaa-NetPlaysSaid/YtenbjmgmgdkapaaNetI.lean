/- The walk of net's awake. -/
import Derived.Test.YtenbjmgmgdkapaaNetH
import Derived.Lib.SlBytesConst
set_option linter.unusedVariables false
set_option linter.unusedSimpArgs false
namespace Go.Proofs.Ytenbjmgmgdkapaa
open Go.RowKit Go.Proofs.YtenbjmgmgdkapaaW.PrintWords Go.Proofs.Ytenbjmgmgdkapaa.K

theorem str_of {w : World} {A : Option Addr} {n c : Nat} {xs : List Int} (h : ReadsInt w .u8 A n xs) : (convert 28 9 (.slice A n c)).run Try.prog w = .ok (.string (strOfNums xs)) w :=
  string_of_reads Try.underlying28 Try.underlying5 Try.underlying9 h
theorem NetS.len {w : World} {base r mb : Nat} {room : Int} {m : Nat} {f : Nat → Nat → Bool} {L : List Pk} (h : NetS w base r mb room m f L) : Calls Try.prog 12 #[.pointer (some ⟨r, 0, none⟩)] w fun e w' => e = .returned (.int .i64 L.length) ∧ w = w' := by
  obtain ⟨A, c, hc, _⟩ := h.cl
  exact len_walk w r room A L.length c mb hc
theorem ac_str : strOfNums [97, 99] = ⟨#[97, 99]⟩ := by decide
set_option maxRecDepth 100000 in
set_option maxHeartbeats 4000000 in
theorem awake_walk (W : World) : Calls Try.prog 8 #[] W fun e w' => e = .returned (.bool true) ∧ Below W.heap.size W w' := by
  have C1 := Lib.hid (new_ok 4 W (by decide) (by decide))
  have S0 := Lib.hid (net_made W W.heap.size 4 (Nat.le_refl _))
  have B0 : ∀ o o' : Obj, Below W.heap.size W ((W.alloc o).alloc o') := fun o o' => alloc_back2 o o'
  have HB0 := Lib.hid B0; clear B0
  have kc := fun (w : World) (C : Array Value) (n c : Nat) => Go.Lib.run_convert_bytes_const (P := Try.prog) w 28 5 C n c Try.underlying28 Try.underlying5
  go_enter Try.func8, Try.ntmps8
  go_wp2_with fail
  refine C1.out.mono ?_
  rintro e w0 ⟨rfl, hw0⟩
  have S1 := Lib.hid (show NetS w0 W.heap.size (W.heap.size + 1) W.heap.size 4 0 (fun _ _ => false) [] by rw [hw0]; exact S0.out)
  have B1 := Lib.hid (show Below W.heap.size W w0 by rw [hw0]; exact HB0.out _ _)
  clear hw0
  go_wp2_with fail
  have hal2 := Lib.hid (show Below w0.heap.size w0 (w0.alloc (.cells #[.int .u8 97, .int .u8 98] 5 (2, 3))) from alloc_back _)
  have HR := Lib.hid (show ReadsInt (w0.alloc (.cells #[.int .u8 97, .int .u8 98] 5 (2, 3))) .u8 (some ⟨w0.heap.size, 0, none⟩) 2 [97, 98] from reads_lit w0 .u8 [97, 98] 5 (2, 3) 2 rfl (by decide))
  refine (send_ok W.heap.size (W.heap.size + 1) W.heap.size 4 0 (fun _ _ => false) [] 1 2 (some ⟨w0.heap.size, 0, none⟩) 2 2 [97, 98] _ (by decide) (by decide) (by decide) (S1.out.below hal2.out) HR.out (fun h => by cases h) rfl (by decide) (by decide)).mono ?_
  rintro e w1 ⟨A1, c1, rfl, hS2, hB2⟩
  have S2 := Lib.hid hS2
  have B2 := Lib.hid (hB2 W (B1.out.alloc B1.out.size _))
  clear hS2 hB2 HR hal2 S1 B1
  go_wp2_with fail
  refine (spoil_ok W.heap.size (W.heap.size + 1) W.heap.size 4 0 (fun _ _ => false) _ 0 1 1 ⟨1, 2, A1, c1, [97, 98], false⟩ w1 S2.out rfl (by simp) (by simp) (by simp) (by simp) rfl).mono ?_
  rintro e w2 ⟨rfl, hS3, hB3⟩
  have S3 := Lib.hid (show NetS w2 W.heap.size (W.heap.size + 1) W.heap.size 4 0 (fun _ _ => false) [⟨1, 2, A1, c1, [97, 99], true⟩] from by simpa [Pk.spoil, (by decide : bits .xor .u8 98 1 = 99)] using hS3)
  have B3 := Lib.hid (hB3 W B2.out)
  clear hS3 hB3 S2 B2
  go_wp2_with fail
  refine (spoil_no W.heap.size (W.heap.size + 1) W.heap.size 4 0 (fun _ _ => false) _ 0 0 1 ⟨1, 2, A1, c1, [97, 99], true⟩ w2 S3.out rfl (by simp) (by simp) (by simp) (by simp) rfl).mono ?_
  rintro e w' ⟨rfl, rfl⟩
  go_wp2_with fail
  refine (at_ok W.heap.size (W.heap.size + 1) W.heap.size 4 0 (fun _ _ => false) _ 0 ⟨1, 2, A1, c1, [97, 99], true⟩ w2 S3.out rfl (by simp) (by simp)).mono ?_
  rintro e w4 ⟨A4, c4, rfl, hr4, hb4⟩
  have S4 := Lib.hid (S3.out.below hb4)
  have B4 := Lib.hid (below_then B3.out B3.out.size hb4)
  have HR4 := Lib.hid hr4
  clear hr4 hb4 S3 B3
  have kx : (convert 28 9 (.slice A4 2 c4)).run Try.prog (w4.alloc (.cells #[.int .i64 1, .int .i64 2, .slice A4 2 c4] 30)) = .ok (.string ⟨#[97, 99]⟩) (w4.alloc (.cells #[.int .i64 1, .int .i64 2, .slice A4 2 c4] 30)) := by
    rw [← ac_str]; exact str_of (HR4.out.below (alloc_back _))
  go_wp2_with fail
  refine ((S4.out.below (alloc_back _)).len).mono ?_
  rintro e w' ⟨rfl, rfl⟩
  go_wp2_with fail
  go_ret
  exact ⟨rfl, B4.out.alloc B4.out.size _⟩
end Go.Proofs.Ytenbjmgmgdkapaa
