/- Links as plain data: what Push, Tick, Get do, whatever the message. -/
import Derived.Test.YtbkpgkkfkjlnnaaLgT
set_option linter.unusedVariables false
set_option linter.unusedSimpArgs false
namespace Go.Proofs.Ytbkpgkkfkjlnnaa.G
open Go.RowKit Go.Proofs.YtbkpgkkfkjlnnaaW.PrintWords Go.Proofs.YtbkpgkkfkjlnnaaW.PrintLast Go.Proofs.Ytbkpgkkfkjlnnaa.K Go.Proofs.Ytbkpgkkfkjlnnaa.Row Go.Proofs.Ytbkpgkkfkjlnnaa

/-- What waits: a message, whether it was sent, when. -/
structure Pd where
  m : Dt
  sent : Bool
  at_ : Int
def Sn.pd (p : Sn) : Pd := ⟨p.m.dt, p.sent, p.at_⟩
/-- A link as plain data. -/
structure DS where
  own : Int
  peer : Int
  view : Int
  now : Int
  pushed : Int
  told : Int
  next : Int
  out : List Pd
  held : List Dt
def LSt.ds (x : LSt) : DS := ⟨x.own, x.peer, x.view, x.now, x.pushed, x.told, x.next, x.out.map Sn.pd, x.held.map Hd.dt⟩
def dueD (now : Int) (p : Pd) : Bool := !(p.sent && decide (now - p.at_ < 8))
def tick1D (now : Int) (p : Pd) : Pd := if dueD now p = true then ⟨p.m, true, now⟩ else p
def tickD (now : Int) (i : Nat) (L : List Pd) : List Pd := (L.take i).map (tick1D now) ++ L.drop i
def dueDL (now : Int) (i : Nat) (L : List Pd) : List Pd := (L.take i).filter (dueD now)
def told1D (now : Int) (t : Int) (p : Pd) : Int := if dueD now p = true then max t p.m.s else t
def toldD (now : Int) (t : Int) (i : Nat) (L : List Pd) : Int := (L.take i).foldl (told1D now) t
theorem due_pd (now : Int) (p : Sn) : dueD now p.pd = due now p := rfl
theorem tick_pd (now : Int) (i : Nat) (L : List Sn) : (tickL now i L).map Sn.pd = tickD now i (L.map Sn.pd) := by
  unfold tickL tickD
  rw [List.map_append, List.map_map, ← List.map_take, ← List.map_drop, List.map_map]
  congr 1
  apply List.map_congr_left
  intro p _
  show (tick1 now p).pd = tick1D now p.pd
  unfold tick1 tick1D
  by_cases h : due now p = true
  · rw [if_pos h, if_pos (show dueD now p.pd = true from h)]; rfl
  · rw [if_neg h, if_neg (show ¬ dueD now p.pd = true from h)]
theorem due_pdL (now : Int) (i : Nat) (L : List Sn) : (dueL now i L).map Sn.pd = dueDL now i (L.map Sn.pd) := by
  unfold dueL dueDL
  rw [← List.map_take, List.filter_map]
  rfl
theorem told_pd (now t : Int) (i : Nat) (L : List Sn) : toldL now t i L = toldD now t i (L.map Sn.pd) := by
  unfold toldL toldD
  rw [← List.map_take, List.foldl_map]
  rfl
def rdyD : Nat → Int → List Dt → List Dt → List Dt × Int × List Dt
  | 0, nx, held, out => (out, nx, held)
  | m + 1, nx, held, out => match held[held.findIdx (fun h => h.s == nx)]? with
    | some x => rdyD m (nx + 1) (held.eraseIdx (held.findIdx (fun h => h.s == nx))) (out ++ [x])
    | none => (out, nx, held)
theorem erase_map {α β : Type} (f : α → β) (L : List α) (i : Nat) : (L.eraseIdx i).map f = (L.map f).eraseIdx i := by
  induction L generalizing i with
  | nil => simp
  | cons a l ih => cases i with
    | zero => simp
    | succ i => simp [ih]
theorem rdy_dt (m : Nat) (nx : Int) (held out : List Hd) : rdyD m nx (held.map Hd.dt) (out.map Hd.dt) = ((rdy m nx held out).1.map Hd.dt, (rdy m nx held out).2.1, (rdy m nx held out).2.2.map Hd.dt) := by
  induction m generalizing nx held out with
  | zero => rfl
  | succ m ih =>
    have e : (held.map Hd.dt).findIdx (fun h => h.s == nx) = held.findIdx (fun h => h.s == nx) := by
      rw [List.findIdx_map]; rfl
    simp only [rdyD, rdy, e, List.getElem?_map]
    cases held[held.findIdx (fun h => h.s == nx)]? with
    | none => rfl
    | some x =>
      simp only [Option.map_some]
      rw [← ih, List.map_append, erase_map]
      rfl
def hasD (L : List Dt) (q : Int) : Bool := L.any (fun h => h.s == q)
theorem has_fIx (L : List Hd) (q : Int) : (0 ≤ fIx L q) ↔ hasD (L.map Hd.dt) q = true := by
  unfold fIx hasD
  rw [List.any_map]
  by_cases h : L.findIdx (fun h => h.s == q) < L.length
  · rw [if_pos h]
    constructor
    · intro _
      rw [List.any_eq_true]
      exact ⟨_, List.getElem_mem h, List.findIdx_getElem (w := h)⟩
    · intro _; omega
  · rw [if_neg h]
    constructor
    · intro h'; omega
    · intro h'
      exfalso
      apply h
      rw [List.any_eq_true] at h'
      obtain ⟨x, hx, hq⟩ := h'
      exact List.findIdx_lt_length_of_exists ⟨x, hx, hq⟩
def ansDS (d : DS) : Dt := ⟨1, d.own, d.peer, d.view, 0, [d.next - 1], []⟩
def nakD (q : Int) (p : Pd) : Bool := !(decide (p.m.s ≤ q))
theorem nak_pd (q : Int) (p : Sn) : nak q p = nakD q p.pd := rfl
/-- Push. -/
def dPush (d : DS) (m : Dt) : Int × DS :=
  if m.k = 1 ∨ ¬ (1 ≤ m.k ∧ m.k ≤ 20) then (1, d) else (0, { d with pushed := d.pushed + 1, out := d.out ++ [⟨⟨m.k, d.own, d.peer, d.view, d.pushed + 1, m.xs, m.ys⟩, false, 0⟩] })
/-- Tick. -/
def nowD (d : DS) (t : Int) : Int := if d.now < t then t else d.now
def dTick (d : DS) (t : Int) : List Dt × DS :=
  ((dueDL (nowD d t) (min d.out.length 32) d.out).map Pd.m, { d with now := nowD d t, told := toldD (nowD d t) d.told (min d.out.length 32) d.out, out := tickD (nowD d t) (min d.out.length 32) d.out })
/-- Get. -/
def dGet (d : DS) (m : Dt) : (List Dt × List Dt × Int) × DS :=
  if ¬ (m.f = d.peer ∧ m.t = d.own) then (([], [], 1), d)
  else if ¬ m.v = d.view then (([], [], 8), d)
  else if m.k = 1 then (if cfB m.s d.told m.xs m.ys.length = true then (([], [], 0), { d with out := d.out.filter (nakD (m.xs.getD 0 0)) }) else (([], [], 3), d))
  else if m.s = 0 then (([], [], 3), d)
  else if m.s < d.next ∨ hasD d.held m.s = true then (([], [ansDS d], 8), d)
  else if 32 ≤ m.s - d.next then (([], [], 6), d)
  else ((( (rdyD (d.held.length + 1) d.next (d.held ++ [m]) []).1, [ansDS { d with next := (rdyD (d.held.length + 1) d.next (d.held ++ [m]) []).2.1 }], 0)), { d with next := (rdyD (d.held.length + 1) d.next (d.held ++ [m]) []).2.1, held := (rdyD (d.held.length + 1) d.next (d.held ++ [m]) []).2.2 })
/-- What holds of a link behind N calls. -/
structure Inv (d : DS) (N : Nat) : Prop where
  own : 0 ≤ d.own ∧ d.own < 16
  peer : 0 ≤ d.peer ∧ d.peer < 16
  now : 0 ≤ d.now ∧ d.now ≤ 9223372036854775807
  pushed : 0 ≤ d.pushed ∧ d.pushed ≤ N
  told : 0 ≤ d.told ∧ d.told ≤ d.pushed
  next : 1 ≤ d.next ∧ d.next + d.held.length ≤ N + 1
  len : d.out.length ≤ N
  out : ∀ p ∈ d.out, (1 ≤ p.m.s ∧ p.m.s ≤ d.pushed) ∧ (0 ≤ p.at_ ∧ p.at_ ≤ d.now) ∧ p.m.xs.length ≤ 500 ∧ p.m.ys.length ≤ 500
  inc : d.out.Pairwise (fun p q => p.m.s < q.m.s)
theorem Inv.more {d : DS} {N M : Nat} (h : Inv d N) (hm : N ≤ M) : Inv d M := by
  have := h.pushed; have := h.next; have := h.len
  exact ⟨h.own, h.peer, h.now, ⟨by omega, by omega⟩, h.told, ⟨by omega, by omega⟩, by omega, h.out, h.inc⟩
theorem inv_new {own peer view : Int} (h1 : 0 ≤ own ∧ own < 16) (h2 : 0 ≤ peer ∧ peer < 16) : Inv (⟨own, peer, view, 0, 0, 0, 1, [], []⟩ : LSt).ds 0 :=
  ⟨h1, h2, ⟨Int.le_refl _, by simp [LSt.ds]⟩, ⟨Int.le_refl _, Int.le_refl _⟩, ⟨Int.le_refl _, Int.le_refl _⟩, ⟨Int.le_refl _, by simp [LSt.ds]⟩, Nat.le_refl _, fun p hp => (by cases hp), List.Pairwise.nil⟩
theorem Inv.push {d : DS} {N : Nat} (h : Inv d N) (m : Dt) (hx : m.xs.length ≤ 500) (hy : m.ys.length ≤ 500) : Inv (dPush d m).2 (N + 1) := by
  unfold dPush
  have h1 := h.pushed; have h2 := h.told; have h3 := h.next; have h4 := h.len; have h5 := h.now
  by_cases hk : m.k = 1 ∨ ¬ (1 ≤ m.k ∧ m.k ≤ 20)
  · rw [if_pos hk]; exact h.more (by omega)
  · rw [if_neg hk]
    refine ⟨h.own, h.peer, h.now, ⟨by dsimp only; omega, by dsimp only; omega⟩, ⟨h2.1, by dsimp only; omega⟩, ⟨h3.1, by dsimp only; omega⟩, by simp; omega, fun p hp => ?_, ?_⟩
    · rcases List.mem_append.1 hp with hp | hp
      · have := h.out p hp
        exact ⟨⟨this.1.1, by dsimp only; omega⟩, this.2⟩
      · obtain rfl := List.mem_singleton.1 hp
        exact ⟨⟨by dsimp only; omega, Int.le_refl _⟩, ⟨Int.le_refl _, h5.1⟩, hx, hy⟩
    · dsimp only
      rw [List.pairwise_append]
      refine ⟨h.inc, List.pairwise_singleton _ _, fun p hp q hq => ?_⟩
      obtain rfl := List.mem_singleton.1 hq
      have := (h.out p hp).1
      dsimp only; omega
theorem tick1_m (now : Int) (p : Pd) : (tick1D now p).m = p.m := by unfold tick1D; split <;> rfl
theorem tickD_m (now : Int) (i : Nat) (L : List Pd) : (tickD now i L).map Pd.m = L.map Pd.m := by
  unfold tickD
  rw [List.map_append, List.map_map]
  conv => rhs; rw [← List.take_append_drop i L, List.map_append]
  congr 1
  apply List.map_congr_left
  intro p _
  exact tick1_m now p
theorem tickD_mem {now : Int} {i : Nat} {L : List Pd} {p : Pd} (h : p ∈ tickD now i L) : ∃ q ∈ L, p.m = q.m ∧ (p.at_ = q.at_ ∨ p.at_ = now) := by
  unfold tickD at h
  rcases List.mem_append.1 h with h | h
  · obtain ⟨q, hq, rfl⟩ := List.mem_map.1 h
    refine ⟨q, List.mem_of_mem_take hq, tick1_m now q, ?_⟩
    unfold tick1D; split
    · exact .inr rfl
    · exact .inl rfl
  · exact ⟨p, List.mem_of_mem_drop h, rfl, .inl rfl⟩
theorem toldD_le (now t : Int) (i : Nat) (L : List Pd) (B : Int) (ht : t ≤ B) (h : ∀ p ∈ L, p.m.s ≤ B) : t ≤ toldD now t i L ∧ toldD now t i L ≤ B := by
  unfold toldD
  have key : ∀ (l : List Pd) (u : Int), u ≤ B → (∀ p ∈ l, p.m.s ≤ B) → u ≤ l.foldl (told1D now) u ∧ l.foldl (told1D now) u ≤ B := by
    intro l
    induction l with
    | nil => intro u hu _; exact ⟨Int.le_refl _, hu⟩
    | cons x l ih =>
      intro u hu hl
      rw [List.foldl_cons]
      have hx := hl x (List.mem_cons_self ..)
      have h1 : u ≤ told1D now u x ∧ told1D now u x ≤ B := by unfold told1D; split <;> omega
      have := ih (told1D now u x) h1.2 (fun p hp => hl p (List.mem_cons_of_mem _ hp))
      exact ⟨by omega, this.2⟩
  exact key _ t ht (fun p hp => h p (List.mem_of_mem_take hp))
theorem pair_map {L L' : List Pd} (h : L.Pairwise (fun p q => p.m.s < q.m.s)) (he : L'.map Pd.m = L.map Pd.m) : L'.Pairwise (fun p q => p.m.s < q.m.s) := by
  have h1 : (L.map Pd.m).Pairwise (fun p q => p.s < q.s) := (List.pairwise_map (R := fun (p q : Dt) => p.s < q.s)).2 h
  rw [← he] at h1
  exact (List.pairwise_map (R := fun (p q : Dt) => p.s < q.s)).1 h1
theorem Inv.tick {d : DS} {N : Nat} (h : Inv d N) (t : Int) (ht : t ≤ 9223372036854775807) : Inv (dTick d t).2 (N + 1) := by
  have h1 := h.pushed; have h2 := h.told; have h3 := h.next; have h4 := h.len; have h5 := h.now
  have hn : d.now ≤ nowD d t ∧ nowD d t ≤ 9223372036854775807 := by unfold nowD; split <;> omega
  have hto := toldD_le (nowD d t) d.told (min d.out.length 32) d.out d.pushed h2.2 (fun p hp => (h.out p hp).1.2)
  have hl : (tickD (nowD d t) (min d.out.length 32) d.out).length = d.out.length := by
    have := congrArg List.length (tickD_m (nowD d t) (min d.out.length 32) d.out)
    simpa using this
  unfold dTick
  refine ⟨h.own, h.peer, ⟨by dsimp only; omega, hn.2⟩, ⟨h1.1, by dsimp only; omega⟩, ⟨by dsimp only; omega, hto.2⟩, ⟨h3.1, by dsimp only; omega⟩, by dsimp only; rw [hl]; omega, fun p hp => ?_, pair_map h.inc (tickD_m _ _ _)⟩
  obtain ⟨q, hq, e1, e2⟩ := tickD_mem hp
  have := h.out q hq
  rw [e1]
  refine ⟨this.1, ?_, this.2.2⟩
  dsimp only
  rcases e2 with e2 | e2 <;> rw [e2] <;> omega
theorem rdyD_next (m : Nat) (nx : Int) (held out : List Dt) : nx ≤ (rdyD m nx held out).2.1 ∧ (rdyD m nx held out).2.1 + (rdyD m nx held out).2.2.length ≤ nx + held.length := by
  induction m generalizing nx held out with
  | zero => exact ⟨Int.le_refl _, Int.le_refl _⟩
  | succ m ih =>
    simp only [rdyD]
    split
    · rename_i x hx
      have hlt := (List.getElem?_eq_some_iff.1 hx).1
      have := ih (nx + 1) (held.eraseIdx (held.findIdx (fun h => h.s == nx))) (out ++ [x])
      rw [List.length_eraseIdx_of_lt hlt] at this
      omega
    · exact ⟨Int.le_refl _, Int.le_refl _⟩
theorem Inv.get {d : DS} {N : Nat} (h : Inv d N) (m : Dt) : Inv (dGet d m).2 (N + 1) := by
  unfold dGet
  have h1 := h.pushed; have h2 := h.told; have h3 := h.next; have h4 := h.len; have h5 := h.now
  repeat' split
  all_goals first
    | exact h.more (by omega)
    | skip
  · refine ⟨h.own, h.peer, h.now, ⟨h1.1, by dsimp only; omega⟩, h2, ⟨h3.1, by dsimp only; omega⟩, by have := List.length_filter_le (nakD (m.xs.getD 0 0)) d.out; dsimp only; omega, fun p hp => h.out p (List.mem_filter.1 hp).1, h.inc.filter _⟩
  · have := rdyD_next (d.held.length + 1) d.next (d.held ++ [m]) []
    rw [List.length_append, List.length_singleton] at this
    exact ⟨h.own, h.peer, h.now, ⟨h1.1, by dsimp only; omega⟩, h2, ⟨by dsimp only; omega, by dsimp only; omega⟩, by dsimp only; omega, h.out, h.inc⟩
/-- A told row of messages, by what it says. -/
def RowR (w w' : World) (S : Nat → Prop) (V : Value) (D : List Dt) : Prop := ∃ A c L, V = .slice A D.length c ∧ Rws w' (fun b => S b ∨ w.heap.size ≤ b) A c L ∧ L.map Hd.dt = D
theorem rowR_nil (w w' : World) (S : Nat → Prop) : RowR w w' S (.slice none 0 0) [] := ⟨none, 0, [], rfl, ⟨nil_own _ _ _ _, fun h hh => by cases hh⟩, rfl⟩
/-- A told row that lies apart from the link's. -/
def RowF (w w' : World) (S : Nat → Prop) (V : Value) (D : List Dt) : Prop := ∃ A c L, V = .slice A D.length c ∧ Rws w' (fun b => w.heap.size ≤ b ∧ ¬ S b) A c L ∧ L.map Hd.dt = D
theorem rowF_nil (w w' : World) (S : Nat → Prop) : RowF w w' S (.slice none 0 0) [] := ⟨none, 0, [], rfl, ⟨nil_own _ _ _ _, fun h hh => by cases hh⟩, rfl⟩
theorem RowF.row {w w' : World} {S : Nat → Prop} {V : Value} {D : List Dt} (h : RowF w w' S V D) : RowR w w' S V D := by
  obtain ⟨A, c, L, h0, h1, h2⟩ := h
  exact ⟨A, c, L, h0, h1.mono (fun b hb => .inr hb.1), h2⟩
theorem ans_row {w w' : World} {x : LSt} {V : Value} {S : Nat → Prop} (h : Ans w w' x V) (hS : ∀ b, S b → b < w.heap.size) : RowF w w' S V [ansDS x.ds] := by
  obtain ⟨A, c, L, rfl, h1, h2⟩ := h
  exact ⟨A, c, L, rfl, h1.mono (fun b hb => ⟨hb, fun hs => by have := hS b hs; omega⟩), h2⟩
theorem ansF_row {w w' : World} {x : LSt} {V : Value} {S : Nat → Prop} (h : AnsF w w' S x V) : RowF w w' S V [ansDS x.ds] := h
def PushR (w w' : World) (S : Nat → Prop) (r : Nat) (x : LSt) (m : Dt) (e : Ending) : Prop :=
  ∃ S' x', e = .returned (.int .i64 (dPush x.ds m).1) ∧ x'.ds = (dPush x.ds m).2 ∧ LkG w' S' r x' ∧ Stp w w' S S'
def TickR (w w' : World) (S : Nat → Prop) (r : Nat) (x : LSt) (t : Int) (e : Ending) : Prop :=
  ∃ S' x' V, e = .returned V ∧ RowF w w' S' V (dTick x.ds t).1 ∧ x'.ds = (dTick x.ds t).2 ∧ LkG w' S' r x' ∧ Stp w w' S S'
def GetR (w w' : World) (S : Nat → Prop) (r : Nat) (x : LSt) (m : Dt) (e : Ending) : Prop :=
  ∃ S' x' V1 V2, e = .returned (.tuple #[V1, V2, .int .i64 (dGet x.ds m).1.2.2]) ∧ RowR w w' S' V1 (dGet x.ds m).1.1 ∧ RowF w w' S' V2 (dGet x.ds m).1.2.1 ∧ x'.ds = (dGet x.ds m).2 ∧ LkG w' S' r x' ∧ Stp w w' S S'
section
variable (w : World) (S : Nat → Prop) (r : Nat) (x : LSt) (k f t v s : Int) (A B : Option Addr) (n c m d : Nat) (xs : List Int) (ys : List (Int × Int))
theorem push_any (h : LkG w S r x) {N : Nat} (hi : Inv x.ds N) (hN : N ≤ 1000) (hr : ReadsInt w .i64 A n xs) (hwd : WidesAt w B m ys) (hA : A = none → c = 0) (hBn : B = none → m = 0 ∧ d = 0) (hn : n ≤ 500) (hm : m ≤ 500) :
    Calls Try.prog 10 #[.pointer (some ⟨r, 0, none⟩), .agg (msC k f t v s (.slice A n c) (.slice B m d))] w fun e w' => PushR w w' S r x ⟨k, f, t, v, s, xs, ys⟩ e := by
  have hl : x.out.length ≤ N := by have := hi.len; simpa [LSt.ds] using this
  have hp := hi.pushed
  by_cases h1 : k = 1
  · refine (push_one w S r x k f t v s A B n c m d xs ys h hr hwd hA hBn hn hm hi.own hi.peer h1).mono ?_
    rintro e w' ⟨rfl, hG, hs⟩
    exact ⟨S, x, by unfold dPush; rw [if_pos (.inl h1)], by unfold dPush; rw [if_pos (.inl h1)], hG, hs⟩
  by_cases h2 : 1 ≤ k ∧ k ≤ 20
  · refine (push_ok w S r x k f t v s A B n c m d xs ys h hr hwd hA hBn hn hm hi.own hi.peer (by omega) (by omega) ⟨hp.1, by have := hp.2; simp only [LSt.ds] at this; omega⟩).mono ?_
    rintro e w' ⟨y, S', rfl, hy, hG, hs⟩
    have hno : ¬ (k = 1 ∨ ¬ (1 ≤ k ∧ k ≤ 20)) := by omega
    refine ⟨S', _, by unfold dPush; rw [if_neg hno], ?_, hG, hs⟩
    unfold dPush; rw [if_neg hno]
    simp only [LSt.ds, List.map_append, List.map_cons, List.map_nil, Sn.pd, hy]
  · refine (push_kind w S r x k f t v s A B n c m d xs ys h hr hwd hA hBn hn hm hi.own hi.peer h2).mono ?_
    rintro e w' ⟨rfl, hG, hs⟩
    exact ⟨S, x, by unfold dPush; rw [if_pos (.inr h2)], by unfold dPush; rw [if_pos (.inr h2)], hG, hs⟩
theorem tick_all (h : LkG w S r x) {N : Nat} (hi : Inv x.ds N) (hN : N ≤ 1000) (q : Int) (hq : -9223372036854775808 ≤ q ∧ q ≤ 9223372036854775807) :
    Calls Try.prog 11 #[.pointer (some ⟨r, 0, none⟩), .int .i64 q] w fun e w' => TickR w w' S r x q e := by
  have hl : x.out.length ≤ N := by have := hi.len; simpa [LSt.ds] using this
  have ho : ∀ p ∈ x.out, (0 ≤ p.at_ ∧ p.at_ ≤ x.now) ∧ p.m.xs.length ≤ 500 ∧ p.m.ys.length ≤ 500 := fun p hp => (hi.out p.pd (List.mem_map_of_mem hp)).2
  refine (tick_any w S r x q h (by omega) hi.now hq (fun p hp => (ho p hp).1) (fun p hp => (ho p hp).2) (nowD x.ds q) rfl _ rfl).mono ?_
  rintro e w' ⟨A, k, c, M, rfl, hT⟩
  have hlen : (min x.out.length 32) = min x.ds.out.length 32 := by simp [LSt.ds]
  have hd : M.map Hd.dt = (dTick x.ds q).1 := by
    rw [hT.e, hlen]
    unfold dTick
    dsimp only
    rw [show x.ds.out = x.out.map Sn.pd from rfl, ← due_pdL, List.map_map]
    simp [LSt.ds, Sn.pd, Function.comp]
  have hk : k = (dTick x.ds q).1.length := by rw [← hd, List.length_map]; exact hT.om.symm
  subst hk
  have hML : (dTick x.ds q).1.length = M.length := hT.om.symm
  refine ⟨S, _, _, rfl, ⟨A, c, M, rfl, ⟨?_, fun h hh => (hT.ob h hh).mono (fun b hb => ⟨hb, fun hs => by have := hT.lt b hs; omega⟩)⟩, hd⟩, ?_, hT.G, ⟨hT.C, fun b hb => .inl hb⟩⟩
  · have := (Own.fresh hT.o).mono (T := fun b => w.heap.size ≤ b ∧ ¬ S b) (fun b hb => ⟨hb.1, fun hs => by have := hT.lt b hs; omega⟩)
    rw [hML] at this; exact this
  · unfold dTick
    simp only [LSt.ds, tick_pd, told_pd, hlen]
theorem get_any (h : LkG w S r x) {N : Nat} (hi : Inv x.ds N) (hN : N ≤ 800) (hr : ReadsInt w .i64 A n xs) (hwd : WidesAt w B m ys) (hA : A = none → c = 0) (hBn : B = none → m = 0 ∧ d = 0) (hn : n ≤ 500) (hm : m ≤ 500) (hs : 0 ≤ s ∧ s < 4294967296) (hAS : ∀ ad, A = some ad → n = 1 → ¬ S ad.block) :
    Calls Try.prog 13 #[.pointer (some ⟨r, 0, none⟩), .agg (msC k f t v s (.slice A n c) (.slice B m d))] w fun e w' => GetR w w' S r x ⟨k, f, t, v, s, xs, ys⟩ e := by
  have hl : x.out.length ≤ N := by have := hi.len; simpa [LSt.ds] using this
  have hpu : 0 ≤ x.pushed ∧ x.pushed ≤ N := hi.pushed
  have hto : 0 ≤ x.told ∧ x.told ≤ x.pushed := hi.told
  have hnx : 1 ≤ x.next ∧ x.next + x.held.length ≤ N + 1 := by have := hi.next; simpa [LSt.ds] using this
  have hno : ∀ (V1 V2 : List Dt) (E : Int), dGet x.ds ⟨k, f, t, v, s, xs, ys⟩ = (([], [], E), x.ds) → ∀ w', Below w.heap.size w w' → GetR w w' S r x ⟨k, f, t, v, s, xs, ys⟩ (.returned (.tuple #[.slice none 0 0, .slice none 0 0, .int .i64 E])) := by
    intro _ _ E hE w' hb
    unfold GetR
    rw [hE]
    exact ⟨S, x, _, _, rfl, rowR_nil _ _ _, rowF_nil _ _ _, rfl, h.below hb, Stp.ofBelow hb⟩
  by_cases h1 : ¬ (f = x.peer ∧ t = x.own)
  · refine (get_arg w S r x k f t v s A B n c m d h h1).mono ?_
    rintro e w' ⟨rfl, hb⟩
    exact hno [] [] 1 (by unfold dGet; rw [if_pos (show ¬ (f = x.ds.peer ∧ t = x.ds.own) from h1)]) w' hb
  obtain ⟨hf, ht⟩ := Classical.not_not.1 h1
  have g1 : ¬ ¬ (f = x.ds.peer ∧ t = x.ds.own) := fun h => h ⟨hf, ht⟩
  by_cases h2 : ¬ v = x.view
  · refine (get_old w S r x k f t v s A B n c m d h hf ht h2).mono ?_
    rintro e w' ⟨rfl, hb⟩
    exact hno [] [] 8 (by unfold dGet; rw [if_neg g1, if_pos (show ¬ v = x.ds.view from h2)]) w' hb
  have h2 := Classical.not_not.1 h2
  have g2 : ¬ ¬ v = x.ds.view := fun h => h h2
  by_cases h3 : k = 1
  · by_cases h4 : cfB s x.told xs m = true
    · have h4' := h4
      unfold cfB at h4'
      simp only [Bool.and_eq_true, beq_iff_eq, decide_eq_true_eq] at h4'
      obtain ⟨e1, e2, e3, e4, e5⟩ := h4'
      have hn1 : n = 1 := by rw [← hr.1]; exact e3
      subst hn1
      obtain ⟨q, rfl⟩ : ∃ q, xs = [q] := by match xs, e3 with | [q], _ => exact ⟨q, rfl⟩
      have e4' : 0 ≤ q := e4
      have e5' : q ≤ x.told := e5
      match A, hr with
      | none, hr => exact absurd hr.2.2 (by simp [ReadsInt] at *)
      | some ad, hr =>
        refine (get_ack_ok w S r x k f t v s (some ad) B 1 c m d h ad q hr (hAS ad rfl rfl) ⟨by omega, by omega⟩ ⟨e4', e5'⟩ (fun p hp => ?_) (by omega) hf ht h2 h3 e1 e2 rfl rfl).mono ?_
        · have := (hi.out p.pd (List.mem_map_of_mem hp)).1
          have h6 : 1 ≤ p.m.s ∧ p.m.s ≤ x.pushed := this
          omega
        · rintro e w' ⟨rfl, hG, hs'⟩
          have hE : dGet x.ds ⟨k, f, t, v, s, [q], ys⟩ = (([], [], 0), { x.ds with out := x.ds.out.filter (nakD q) }) := by
            unfold dGet
            have g5 : cfB s x.ds.told [q] ys.length = true := by rw [hwd.1]; exact h4
            rw [if_neg g1, if_neg g2, if_pos h3, if_pos g5]; rfl
          unfold GetR
          rw [hE]
          refine ⟨S, _, _, _, rfl, rowR_nil _ _ _, rowF_nil _ _ _, ?_, hG, hs'⟩
          simp only [LSt.ds, List.filter_map]
          congr 1
    · have h4' : cfB s x.told xs m = false := by simpa using h4
      refine (get_ack_no w S r x k f t v s A B n c m d h xs hr ⟨by omega, by omega⟩ hf ht h2 h3 h4').mono ?_
      rintro e w' ⟨rfl, hb⟩
      refine hno [] [] 3 ?_ w' hb
      have g5 : ¬ cfB s x.ds.told xs ys.length = true := by rw [hwd.1]; exact h4
      unfold dGet; rw [if_neg g1, if_neg g2, if_pos h3, if_neg g5]
  by_cases h4 : s = 0
  · refine (get_zero w S r x k f t v s A B n c m d h hf ht h2 h3 h4).mono ?_
    rintro e w' ⟨rfl, hb⟩
    exact hno [] [] 3 (by unfold dGet; rw [if_neg g1, if_neg g2, if_neg h3, if_pos h4]) w' hb
  have hans : ∀ w' V, dGet x.ds ⟨k, f, t, v, s, xs, ys⟩ = (([], [ansDS x.ds], 8), x.ds) → Ans w w' x V → Below w.heap.size w w' → GetR w w' S r x ⟨k, f, t, v, s, xs, ys⟩ (.returned (.tuple #[.slice none 0 0, V, .int .i64 8])) := by
    intro w' V hE ha hb
    unfold GetR
    rw [hE]
    exact ⟨S, x, _, _, rfl, rowR_nil _ _ _, ans_row ha h.inn, rfl, h.below hb, Stp.ofBelow hb⟩
  by_cases h5 : s < x.next
  · refine (get_low w S r x k f t v s A B n c m d h ⟨by omega, by omega⟩ hf ht h2 h3 h4 h5).mono ?_
    rintro e w' ⟨V, rfl, ha, hb⟩
    exact hans w' V (by unfold dGet; rw [if_neg g1, if_neg g2, if_neg h3, if_neg h4, if_pos (.inl h5)]) ha hb
  by_cases h6 : 0 ≤ fIx x.held s
  · refine (get_seen w S r x k f t v s A B n c m d h (by omega) ⟨by omega, by omega⟩ hf ht h2 h3 h4 h5 h6).mono ?_
    rintro e w' ⟨V, rfl, ha, hb⟩
    exact hans w' V (by unfold dGet; rw [if_neg g1, if_neg g2, if_neg h3, if_neg h4, if_pos (.inr ((has_fIx _ _).1 h6))]) ha hb
  have g6 : ¬ (s < x.ds.next ∨ hasD x.ds.held s = true) := fun h => h.elim h5 (fun h => h6 ((has_fIx _ _).2 h))
  by_cases h7 : 32 ≤ s - x.next
  · refine (get_far w S r x k f t v s A B n c m d h (by omega) ⟨by omega, by omega⟩ hs hf ht h2 h3 h4 h5 h6 h7).mono ?_
    rintro e w' ⟨rfl, hb⟩
    exact hno [] [] 6 (by unfold dGet; rw [if_neg g1, if_neg g2, if_neg h3, if_neg h4, if_neg g6, if_pos (show 32 ≤ s - x.ds.next from h7)]) w' hb
  · refine (get_take w S r x k f t v s A B n c m d xs ys h (by omega) ⟨by omega, by omega⟩ (by omega) hs hr hwd (by omega) (by omega) hA hBn hf ht h2 h3 h4 h5 h6 h7).mono ?_
    rintro e w' ⟨y, R, A5, c5, V, S', hy, hR, rfl, ho, ha, hG, hst⟩
    have hE : rdyD (x.ds.held.length + 1) x.ds.next (x.ds.held ++ [⟨k, f, t, v, s, xs, ys⟩]) [] = (R.1.map Hd.dt, R.2.1, R.2.2.map Hd.dt) := by
      have e1 := rdy_dt (x.held.length + 1) x.next (x.held ++ [y]) []
      rw [← hR] at e1
      rw [← e1, List.map_append, List.map_cons, List.map_nil, hy, ← hf, ← ht, ← h2]
      simp [LSt.ds]
    have hD : dGet x.ds ⟨k, f, t, v, s, xs, ys⟩ = ((R.1.map Hd.dt, [ansDS { x.ds with next := R.2.1 }], 0), { x.ds with next := R.2.1, held := R.2.2.map Hd.dt }) := by
      unfold dGet
      rw [if_neg g1, if_neg g2, if_neg h3, if_neg h4, if_neg g6, if_neg (show ¬ 32 ≤ s - x.ds.next from h7), hE]
    unfold GetR
    rw [hD]
    exact ⟨S', _, _, V, by rw [List.length_map], ⟨A5, c5, R.1, rfl, ho, rfl⟩, ansF_row ha, rfl, hG, hst⟩
end
end Go.Proofs.Ytbkpgkkfkjlnnaa.G
