/- Links of any messages: answer. -/
import Derived.Test.YtbkpgkkfkjlnnaaLgG
import Derived.StillTailTactics
set_option linter.unusedVariables false
set_option linter.unusedSimpArgs false
namespace Go.Proofs.Ytbkpgkkfkjlnnaa.G
open Go.RowKit Go.Proofs.YtbkpgkkfkjlnnaaW.PrintWords Go.Proofs.YtbkpgkkfkjlnnaaW.PrintLast Go.Proofs.Ytbkpgkkfkjlnnaa.K Go.Proofs.Ytbkpgkkfkjlnnaa.Row Go.Proofs.Ytbkpgkkfkjlnnaa

/-- A row of messages, all of it in the blocks T. -/
structure Rws (w : World) (T : Nat → Prop) (A : Option Addr) (c : Nat) (L : List Hd) : Prop where
  o : Own w T 32 7 (.slice A L.length c) L.length (hdC L)
  b : ∀ h ∈ L, HdIn w T h
theorem Rws.chg {w w' : World} {T U : Nat → Prop} {A : Option Addr} {c : Nat} {L : List Hd} (h : Rws w T A c L) (hc : Chg U w w') (hn : ∀ b, T b → ¬ U b) : Rws w' T A c L := ⟨h.o.chg hc hn, fun x hx => (h.b x hx).chg hc hn⟩
theorem Rws.below {w w' : World} {T : Nat → Prop} {A : Option Addr} {c : Nat} {L : List Hd} (h : Rws w T A c L) (hb : Below w.heap.size w w') : Rws w' T A c L := h.chg (U := fun _ => False) (Chg.ofBelow hb) (fun _ _ h => h)
theorem Rws.mono {w : World} {T U : Nat → Prop} {A : Option Addr} {c : Nat} {L : List Hd} (h : Rws w T A c L) (hT : ∀ b, T b → U b) : Rws w U A c L := ⟨h.o.mono hT, fun x hx => (h.b x hx).mono hT⟩
theorem nil_own (w : World) (T : Nat → Prop) (e : TypeId) (size : Nat) : Own w T e size (.slice none 0 0) 0 [] := ⟨⟨by simp, .inl ⟨rfl, rfl⟩⟩, fun b hb => by simp [Value.ownBlock] at hb⟩
/-- The acknowledgement. -/
def ansD (x : LSt) : Dt := ⟨1, x.own, x.peer, x.view, 0, [x.next - 1], []⟩
theorem lit1_own (W : World) (base : Nat) (e : TypeId) (size : Nat) (cs : List Value) (hl : cs.length = size) (hb : base ≤ W.heap.size) : (W.alloc (.cells cs.toArray e)).ownsRow base e size (.slice (some ⟨W.heap.size, 0, none⟩) 1 1) 1 cs :=
  ⟨by omega, .inr ⟨W.heap.size, 1, cs.toArray, rfl, hb, heap_alloc_new _ _, Nat.le_refl _, by simp [maxLen], by simp [hl], by simp [← hl]⟩⟩
theorem answer_fin (w : World) (x : LSt) : Rws ((w.alloc (.cells #[.int .i64 (x.next - 1)] 2)).alloc (.cells #[.int .i64 1, .int .i64 x.own, .int .i64 x.peer, .int .u32 x.view, .int .u32 0, .slice (some ⟨w.heap.size, 0, none⟩) 1 1, .slice none 0 0] 32)).drew (fun b => w.heap.size ≤ b) (some ⟨w.heap.size + 1, 0, none⟩) 1 [⟨1, x.own, x.peer, x.view, 0, some ⟨w.heap.size, 0, none⟩, 1, [x.next - 1], none, 0, []⟩] ∧ [(⟨1, x.own, x.peer, x.view, 0, some ⟨w.heap.size, 0, none⟩, 1, [x.next - 1], none, 0, []⟩ : Hd)].map Hd.dt = [ansD x] ∧ Below w.heap.size w ((w.alloc (.cells #[.int .i64 (x.next - 1)] 2)).alloc (.cells #[.int .i64 1, .int .i64 x.own, .int .i64 x.peer, .int .u32 x.view, .int .u32 0, .slice (some ⟨w.heap.size, 0, none⟩) 1 1, .slice none 0 0] 32)).drew := by
  refine ⟨⟨?_, fun h hh => ?_⟩, rfl, below_drew (alloc_back2 _ _)⟩
  · have h1 := lit1_own (w.alloc (.cells #[.int .i64 (x.next - 1)] 2)) w.heap.size 32 7 [.int .i64 1, .int .i64 x.own, .int .i64 x.peer, .int .u32 x.view, .int .u32 0, .slice (some ⟨w.heap.size, 0, none⟩) 1 1, .slice none 0 0] rfl (by simp)
    simp only [World.size_alloc] at h1
    exact ⟨own_base_le h1 (Nat.zero_le _), fun b hb => own_base h1 b hb⟩
  · obtain rfl := List.mem_singleton.1 hh
    refine ⟨?_, nil_own _ _ _ _⟩
    have h1 := (lit1_own w w.heap.size 2 1 [.int .i64 (x.next - 1)] rfl (Nat.le_refl _)).alloc (.cells #[.int .i64 1, .int .i64 x.own, .int .i64 x.peer, .int .u32 x.view, .int .u32 0, .slice (some ⟨w.heap.size, 0, none⟩) 1 1, .slice none 0 0] 32)
    exact ⟨own_base_le h1 (Nat.zero_le _), fun b hb => own_base h1 b hb⟩
set_option maxRecDepth 100000 in
set_option maxHeartbeats 2000000 in
theorem answer_walk (w : World) (S : Nat → Prop) (r : Nat) (x : LSt) (h : LkG w S r x) (hn : 1 ≤ x.next ∧ x.next < 4294967296) :
    Calls Try.prog 30 #[.pointer (some ⟨r, 0, none⟩)] w fun e w' => ∃ A c L, e = .returned (.slice A 1 c) ∧ Rws w' (fun b => w.heap.size ≤ b) A c L ∧ L.map Hd.dt = [ansD x] ∧ Below w.heap.size w w' := by
  obtain ⟨A, c, B, d, h1, h2, h3⟩ := h.cl
  obtain ⟨c0, c1, c2, c3, c4, c5, c6, c7, c8⟩ := lkC_cells h1
  have ew : IntKind.i64.wrap x.next = x.next := by rw [IntKind.wrap_i64]; omega
  have ew2 : IntKind.i64.wrap (x.next - 1) = x.next - 1 := by rw [IntKind.wrap_i64]; omega
  have k0 := pw_cell_below (below_drew (Below.refl w.heap.size w)) c0
  have HF := Lib.hid (answer_fin w x)
  clear h1 h2 h3 c3 c4 c5 c6 c8 h hn
  go_enter Try.func30, Try.ntmps30
  go_wp2_with fail
  first | (go_region_held3 (fun w' => w'.cell? ⟨r, 0, none⟩ = some (.int .i64 x.own) ∧ w'.cell? ⟨r, 1, none⟩ = some (.int .i64 x.peer) ∧ w'.cell? ⟨r, 2, none⟩ = some (.int .u32 x.view) ∧ w'.cell? ⟨r, 7, none⟩ = some (.int .u32 x.next))
    (first | with_reducible exact ⟨c0, c1, c2, c7⟩ | exact HK.out _ | exact HK2.out _ _ | go_keep) (fail)) | fail "held"
  go_wp2_with fail
  go_ret
  exact ⟨_, 1, [_], rfl, HF.out.1, HF.out.2.1, HF.out.2.2⟩
end Go.Proofs.Ytbkpgkkfkjlnnaa.G
