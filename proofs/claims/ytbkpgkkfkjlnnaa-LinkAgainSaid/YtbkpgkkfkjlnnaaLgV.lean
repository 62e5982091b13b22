/- LinkAgain: one link behind W, and the walk. -/
import Derived.Test.YtbkpgkkfkjlnnaaLgU
import Derived.Test.YtbkpgkkfkjlnnaaLinkF
set_option linter.unusedVariables false
set_option linter.unusedSimpArgs false
namespace Go.Proofs.Ytbkpgkkfkjlnnaa.G
open Go.RowKit Go.Proofs.YtbkpgkkfkjlnnaaW.PrintWords Go.Proofs.YtbkpgkkfkjlnnaaW.PrintLast Go.Proofs.Ytbkpgkkfkjlnnaa.K Go.Proofs.Ytbkpgkkfkjlnnaa.Row Go.Proofs.Ytbkpgkkfkjlnnaa

theorem and7 (v : Int) : bits .and .i64 v 7 = v % 8 := by
  have h1 : (BitVec.ofInt 64 v &&& BitVec.ofInt 64 7).toNat = (v % 18446744073709551616).toNat % 8 := by
    rw [BitVec.toNat_and, BitVec.toNat_ofInt, BitVec.toNat_ofInt]
    exact Nat.and_two_pow_sub_one_eq_mod _ 3
  have h2 : bits .and .i64 v 7 = IntKind.i64.wrap ((BitVec.ofInt 64 v &&& BitVec.ofInt 64 7).toNat : Int) := rfl
  rw [h2, h1, IntKind.wrap_i64]
  omega
/-- A link that was made behind W. -/
structure L1 (W w : World) (b : Nat) (x : LSt) : Prop where
  ex : ∃ S, LkG w S b x ∧ ∀ k, S k → W.heap.size ≤ k
  B : Below W.heap.size W w
theorem L1.below {W w w' : World} {b : Nat} {x : LSt} (h : L1 W w b x) (hb : Below w.heap.size w w') : L1 W w' b x := by
  obtain ⟨S, hG, hS⟩ := h.ex
  exact ⟨⟨S, hG.below hb, hS⟩, below_then h.B h.B.size hb⟩
theorem L1.step {W w w' : World} {b : Nat} {y : LSt} {S S' : Nat → Prop} (h : Below W.heap.size W w) (hS : ∀ k, S k → W.heap.size ≤ k) (hG : LkG w' S' b y) (hs : Stp w w' S S') : L1 W w' b y :=
  ⟨⟨S', hG, fun k hk => (hs.inc k hk).elim (hS k) (fun h' => Nat.le_trans h.size h')⟩, hs.chg.on h h.size hS⟩
theorem L1.made {W w : World} (own peer view : Int) (h : Below W.heap.size W w) : L1 W (w.alloc (.cells (lkC own peer view 0 (.slice none 0 0) 0 0 1 (.slice none 0 0)) 61)) w.heap.size ⟨own, peer, view, 0, 0, 0, 1, [], []⟩ :=
  ⟨⟨_, lk_made w own peer view, fun k hk => by rw [hk]; exact h.size⟩, h.alloc h.size _⟩
section
variable {W w : World} {b : Nat} {x : LSt} (h : L1 W w b x)
include h
theorem L1.push (k f t v s : Int) (A B : Option Addr) (n c m d : Nat) (xs : List Int) (ys : List (Int × Int)) (hr : ReadsInt w .i64 A n xs) (hwd : WidesAt w B m ys) (hA : A = none → c = 0) (hBn : B = none → m = 0 ∧ d = 0) (hn : n ≤ 500) (hm : m ≤ 500) (ho1 : 0 ≤ x.own ∧ x.own < 16) (hp1 : 0 ≤ x.peer ∧ x.peer < 16) (hk : 2 ≤ k ∧ k ≤ 20) (hl : x.out.length < 1024) (hps : 0 ≤ x.pushed ∧ x.pushed < 4294967295) :
    Calls Try.prog 10 #[.pointer (some ⟨b, 0, none⟩), .agg (msC k f t v s (.slice A n c) (.slice B m d))] w fun e w' => ∃ y : Hd, e = .returned (.int .i64 0) ∧ y.dt = ⟨k, x.own, x.peer, x.view, x.pushed + 1, xs, ys⟩ ∧ L1 W w' b ⟨x.own, x.peer, x.view, x.now, x.pushed + 1, x.told, x.next, x.out ++ [⟨y, false, 0⟩], x.held⟩ := by
  obtain ⟨S, hG, hS⟩ := h.ex
  refine (push_ok w S b x k f t v s A B n c m d xs ys hG hr hwd hA hBn hn hm ho1 hp1 hk hl hps).mono ?_
  rintro e w' ⟨y, S', he, hy, hG', hs⟩
  exact ⟨y, he, hy, L1.step h.B hS hG' hs⟩
/-- The row that a Tick told. -/
structure Told (w w' : World) (A : Option Addr) (k c : Nat) (M : List Hd) (L : List Dt) : Prop where
  o : w'.ownsRow w.heap.size 32 7 (.slice A k c) k (hdC M)
  om : M.length = k
  ob : ∀ h ∈ M, HdIn w' (fun b => w.heap.size ≤ b) h
  e : M.map Hd.dt = L
theorem L1.tick (t : Int) (hL : x.out.length ≤ 100000) (hn : 0 ≤ x.now ∧ x.now ≤ 9223372036854775807) (ht : -9223372036854775808 ≤ t ∧ t ≤ 9223372036854775807) (hat : ∀ p ∈ x.out, 0 ≤ p.at_ ∧ p.at_ ≤ x.now) (hxs : ∀ p ∈ x.out, p.m.xs.length ≤ 500 ∧ p.m.ys.length ≤ 500)
    (nw : Int) (hnw : nw = if x.now < t then t else x.now) (m : Nat) (hm : m = min x.out.length 32) :
    Calls Try.prog 11 #[.pointer (some ⟨b, 0, none⟩), .int .i64 t] w fun e w' => ∃ A k c M, e = .returned (.slice A k c) ∧ L1 W w' b ⟨x.own, x.peer, x.view, nw, x.pushed, toldL nw x.told m x.out, x.next, tickL nw m x.out, x.held⟩ ∧ Told w w' A k c M ((dueL nw m x.out).map (fun p => p.m.dt)) := by
  obtain ⟨S, hG, hS⟩ := h.ex
  refine (tick_any w S b x t hG hL hn ht hat hxs nw hnw m hm).mono ?_
  rintro e w' ⟨A, k, c, M, he, hT⟩
  exact ⟨A, k, c, M, he, L1.step h.B hS hT.G ⟨hT.C, fun k hk => .inl hk⟩, hT.o, hT.om, hT.ob, hT.e⟩
theorem L1.ack (f t v q : Int) (c : Nat) (o : Obj) (ho : o = .cells (nums .i64 [q]).toArray 2) (hto : 0 ≤ x.told ∧ x.told < 4294967296) (hq : 0 ≤ q ∧ q ≤ x.told) (hss : ∀ p ∈ x.out, 0 ≤ p.m.s ∧ p.m.s < 4294967296) (hl : x.out.length ≤ 100000) (hf : f = x.peer) (ht : t = x.own) (hv : v = x.view) :
    Calls Try.prog 13 #[.pointer (some ⟨b, 0, none⟩), .agg (msC 1 f t v 0 (.slice (some ⟨w.heap.size, 0, none⟩) 1 c) (.slice none 0 0))] (w.alloc o) fun e w' => e = .returned (.tuple #[.slice none 0 0, .slice none 0 0, .int .i64 0]) ∧ L1 W w' b { x with out := x.out.filter (nak q) } := by
  obtain ⟨S, hG, hS⟩ := h.ex
  have hb := alloc_back (W := w) o
  have h' := h.below hb
  subst ho
  refine (get_ack_ok _ S b x 1 f t v 0 (some ⟨w.heap.size, 0, none⟩) none 1 c 0 0 (hG.below hb) ⟨w.heap.size, 0, none⟩ q (reads_lit w .i64 [q] 2 (0, 0) 1 rfl (by decide)) (fun hs => by have := hG.inn _ hs; simp at this) hto hq hss hl hf ht hv rfl rfl rfl rfl rfl).mono ?_
  rintro e w' ⟨he, hG', hs⟩
  exact ⟨he, L1.step h'.B hS hG' hs⟩
end
/-- A message of a told row, with its one number. -/
theorem Told.at_ {w w' : World} {A : Option Addr} {k c : Nat} {M : List Hd} {L : List Dt} (h : Told w w' A k c M L) {i : Nat} {s z : Int} {r : Dt} (hr : L[i]? = some r) (h1 : r.s = s) (h2 : r.xs = [z]) :
    ∃ g a c', A = some ⟨g, 0, none⟩ ∧ w'.cell? ⟨g, i * 7 + 4, none⟩ = some (.int .u32 s) ∧ w'.cell? ⟨g, i * 7 + 5, none⟩ = some (.slice (some ⟨a, 0, none⟩) 1 c') ∧ w'.cell? ⟨a, 0, none⟩ = some (.int .i64 z) := by
  rw [← h.e, List.getElem?_map] at hr
  obtain ⟨y, hy, rfl⟩ := Option.map_eq_some_iff.1 hr
  obtain ⟨g, hg, -, -, -, -, c4, c5, -⟩ := row7 h.o hy
  have hN := (h.ob y (List.mem_of_getElem? hy)).n
  have e1 : y.xs = [z] := h2
  obtain ⟨a, cap, e, _, _⟩ := hN.1.form (by rw [e1]; simp)
  have hz := hN.1.cells (g := a) (by rw [e]; rfl) 0 (.int .i64 z) (by rw [e1]; rfl)
  have e2 : y.s = s := h1
  have e3 : y.nv = .slice (some ⟨a, 0, none⟩) 1 cap := by rw [e, e1]; rfl
  exact ⟨g, a, cap, hg, by rw [c4, e2], by rw [c5, e3], by rw [Go.Proofs.YtbkpgkkfkjlnnaaW.PrintWords.add_plain] at hz; exact hz⟩
end Go.Proofs.Ytbkpgkkfkjlnnaa.G
