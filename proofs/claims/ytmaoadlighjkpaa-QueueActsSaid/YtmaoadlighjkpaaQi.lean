/- The document's own answer (winnowerref01.Has, winnowerref03.Put), and a queue beside a list that the law keeps. -/
import Derived.Test.YtmaoadlighjkpaaQf
import Derived.Test.YtmaoadlighjkpaaCc
import Derived.Test.YtmaoadlighjkpaaPQueueActsx1
namespace Go.Proofs.Ytmaoadlighjkpaa.Qu
open Go.RowKit Go.Proofs.YtmaoadlighjkpaaW.PrintWords Go.Proofs.YtmaoadlighjkpaaW.PrintLast Go.Proofs.YtmaoadlighjkpaaW.PrintMore
open Go.Proofs.Ytmaoadlighjkpaa.PQueueActs
open Go.Proofs.Ytmaoadlighjkpaa.Base Go.Proofs.Ytmaoadlighjkpaa.Map Go.Proofs.Ytmaoadlighjkpaa.Ca Go.Maps
set_option linter.unusedVariables false

theorem hasR_loop (l : List Int) (x : Int) (hmax : l.length ≤ 9223372036854775807) (d : Nat) : ∀ (k i : Nat), i + d = l.length → d < k →
    winnowerref01_Has.l0 k l x i = some (decide (x ∈ l.drop i)) := by
  induction d with
  | zero =>
    intro k i hi hk
    obtain ⟨k, rfl⟩ : ∃ n, k = n + 1 := ⟨k - 1, by omega⟩
    simp only [winnowerref01_Has.l0]
    rw [if_neg (by omega), List.drop_eq_nil_of_le (by omega)]
    simp
  | succ d ih =>
    intro k i hi hk
    obtain ⟨k, rfl⟩ : ∃ n, k = n + 1 := ⟨k - 1, by omega⟩
    simp only [winnowerref01_Has.l0]
    have h1 : i < l.length := by omega
    rw [if_pos (by omega), if_pos (by omega)]
    have hw : wrap64 ((i : Int) + 1) = ((i + 1 : Nat) : Int) := by unfold wrap64; omega
    rw [hw, List.drop_eq_getElem_cons h1, ih k (i + 1) (by omega) (by omega)]
    have e1 : rd l i = l[i] := by simp [rd, h1]
    rw [e1]
    by_cases h : l[i] = x
    · rw [if_pos h]; simp [h]
    · rw [if_neg h]; simp only [List.mem_cons, Ne.symm h, false_or]
theorem hasR_f (l : List Int) (x : Int) (hmax : l.length ≤ 9223372036854775807) (k : Nat) (hk : l.length < k) : winnowerref01_Has.f k l x = some (decide (x ∈ l)) := by
  have := hasR_loop l x hmax l.length k 0 (by omega) hk
  rw [Int.natCast_zero] at this
  unfold winnowerref01_Has.f
  rw [this, List.drop_zero]
theorem hasR_any (u : Value) (l : List Int) (x : Int) (w : World) (hu : RdV w u l) :
    Calls Try.prog 37 #[u, .int .i64 x] w fun e w' => e = .returned (.bool (decide (x ∈ l))) ∧ Below w.heap.size w w' := by
  obtain ⟨A, c, rfl, hc, hr⟩ := hu
  exact (winnowerref01_Has.calls (l.length + 1) A c l x _ w hr.out hc (hasR_f l x hr.max _ (by omega))).mono fun e w' ⟨h1, h2⟩ => ⟨h1, h2.below⟩

theorem putR_loop (l ns : List Int) (hn : ns.length ≤ 1000) (d : Nat) : ∀ (k i : Nat) (o : List Int), i + d = ns.length → o.length + d ≤ 1100000 → d + o.length + d < k → l.length ≤ o.length →
    winnowerref03_Put.l0 k l ns o i = some (putL o (ns.drop i), ((putL o (ns.drop i)).length : Int) - l.length) := by
  induction d with
  | zero =>
    intro k i o hi ho hk hl
    obtain ⟨k, rfl⟩ : ∃ n, k = n + 1 := ⟨k - 1, by omega⟩
    simp only [winnowerref03_Put.l0]
    rw [if_neg (by omega), List.drop_eq_nil_of_le (by omega)]
    have : wrap64 ((o.length : Int) - l.length) = (o.length : Int) - l.length := by unfold wrap64; omega
    rw [this]; simp [putL]
  | succ d ih =>
    intro k i o hi ho hk hl
    obtain ⟨k, rfl⟩ : ∃ n, k = n + 1 := ⟨k - 1, by omega⟩
    simp only [winnowerref03_Put.l0]
    have h1 : i < ns.length := by omega
    rw [if_pos (by omega), if_pos (by omega)]
    have hw : wrap64 ((i : Int) + 1) = ((i + 1 : Nat) : Int) := by unfold wrap64; omega
    rw [hw, List.drop_eq_getElem_cons h1]
    have e1 : rd ns i = ns[i] := by simp [rd, h1]
    rw [e1]
    have e2 : putL o (ns[i] :: ns.drop (i + 1)) = putL (put1 o ns[i]) (ns.drop (i + 1)) := rfl
    rw [e2]
    have hpl := put1_len o ns[i]
    have hs := ih k (i + 1) (put1 o ns[i]) (by omega) (by omega) (by omega) (by omega)
    rw [hasR_f o ns[i] (by omega) k (by omega)]
    simp only [Option.bind_some, decide_eq_true_eq]
    generalize ns[i] = x at *
    unfold put1 at hs ⊢
    by_cases c1 : x ≥ 0
    · rw [if_pos c1]
      by_cases c2 : x ≤ 1048575
      · rw [if_pos c2]
        by_cases c3 : x ∈ o
        · rw [if_pos c3]; rw [if_neg (fun h => h.2.2 c3)] at hs ⊢; exact hs
        · rw [if_neg c3, if_pos (by omega)]; rw [if_pos ⟨c1, by omega, c3⟩] at hs ⊢; exact hs
      · rw [if_neg c2]; rw [if_neg (fun h => by omega)] at hs ⊢; exact hs
    · rw [if_neg c1]; rw [if_neg (fun h => by omega)] at hs ⊢; exact hs
theorem putR_any (u v : Value) (l ns : List Int) (w : World) (hu : RdV w u l) (hv : RdV w v ns) (hl : l.length ≤ 1048576) (hn : ns.length ≤ 1000) :
    Calls Try.prog 34 #[u, v] w fun e w' => ∃ v0, e = .returned (.tuple #[v0, .int .i64 ((putL l ns).length - l.length : Int)]) ∧ OwI w' w.heap.size v0 (putL l ns) ∧ Below w.heap.size w w' := by
  obtain ⟨A, c, rfl, hc, hr⟩ := hu
  obtain ⟨A', c', rfl, hc', hr'⟩ := hv
  have hf : winnowerref03_Put.f (l.length + 2 * ns.length + 2) l ns = some (putL l ns, ((putL l ns).length : Int) - l.length) := by
    unfold winnowerref03_Put.f
    rw [if_pos (by simp; omega)]
    have := putR_loop l ns hn ns.length (l.length + 2 * ns.length + 2) 0 l (by omega) (by omega) (by omega) (Nat.le_refl _)
    rw [Int.natCast_zero, List.drop_zero] at this
    exact this
  exact (winnowerref03_Put.calls _ A c l A' c' ns _ _ w hr.out hc hr'.out hc' hf).mono fun e w' ⟨v0, h1, h2, h3⟩ => ⟨v0, h1, ⟨h2⟩, h3⟩

/-- A queue that the call has made since w0, and beside it a value that reads as m whatever the queue does. -/
structure QL (w0 w : World) (g : Nat) (l : List Int) (v : Value) (m : List Int) : Prop where
  mk :: (out : ∃ F, QAt w F g l ∧ (∀ k, F k → w0.heap.size ≤ k ∧ k < w.heap.size) ∧ Below w0.heap.size w0 w ∧ ∀ W, Chg F w W → RdV W v m)
section
variable {w0 w w1 : World} {g : Nat} {l m : List Int} {v : Value}
theorem QL.st (h : QL w0 w g l v m) : QSt w0 w g l := by obtain ⟨F, h1, h2, h3, _⟩ := h; exact ⟨F, h1, h2, h3⟩
theorem QL.bel (h : QL w0 w g l v m) : Below w0.heap.size w0 w := h.st.bel
theorem QL.rd (h : QL w0 w g l v m) : RdV w v m := by obtain ⟨F, h1, h2, h3, h4⟩ := h; exact h4 w (Chg.refl F w)
theorem QL.below (h : QL w0 w g l v m) (hb : Below w.heap.size w w1) : QL w0 w1 g l v m := by
  obtain ⟨F, h1, h2, h3, h4⟩ := h
  exact ⟨F, h1.below hb, fun k hk => ⟨(h2 k hk).1, Nat.lt_of_lt_of_le (h2 k hk).2 hb.size⟩, below_then h3 h3.size hb, fun W hC => h4 W ((Chg.of_below hb F).then_ hC (fun k hk => .inl hk))⟩
@[simp] theorem QL.alloc (h : QL w0 w g l v m) (o : Obj) : QL w0 (w.alloc o) g l v m := h.below (below_alloc (Below.refl _ _) o)
@[simp] theorem QL.drew (h : QL w0 w g l v m) : QL w0 w.drew g l v m := h.below (below_drew (Below.refl _ _))
@[simp] theorem QL.drewN (h : QL w0 w g l v m) (n : Nat) : QL w0 (w.drewN n) g l v m := h.below (pw_below_drewN (Below.refl _ _) n)
/-- another value beside it, made by the call since -/
theorem QL.own {v2 : Value} {m2 : List Int} (h : QL w0 w g l v m) (hb : Below w.heap.size w w1) (ho : OwI w1 w.heap.size v2 m2) : QL w0 w1 g l v2 m2 := by
  obtain ⟨F, h1, h2, h3, h4⟩ := h
  exact ⟨F, h1.below hb, fun k hk => ⟨(h2 k hk).1, Nat.lt_of_lt_of_le (h2 k hk).2 hb.size⟩, below_then h3 h3.size hb, st_own ho (fun k hk => (h2 k hk).2)⟩
/-- another value that reads whenever the first does -/
theorem QL.also {v2 : Value} {m2 : List Int} (h : QL w0 w g l v m) (ho : ∀ W, RdV W v m → RdV W v2 m2) : QL w0 w g l v2 m2 := by
  obtain ⟨F, h1, h2, h3, h4⟩ := h
  exact ⟨F, h1, h2, h3, fun W hC => ho W (h4 W hC)⟩
theorem QL.first (h : QSt w0 w g l) : QL w0 w g l (.slice none 0 0) [] := by
  obtain ⟨F, h1, h2, h3⟩ := h
  exact ⟨F, h1, h2, h3, fun W _ => RdV.nil W⟩
theorem QL.ext_ {F : Nat → Prop} {l' : List Int} (h1 : QAt w1 (ext F w w1) g l') (hC : Chg F w w1) (h2 : ∀ k, F k → w0.heap.size ≤ k ∧ k < w.heap.size) (h3 : Below w0.heap.size w0 w) (h4 : ∀ W, Chg F w W → RdV W v m) : QL w0 w1 g l' v m :=
  ⟨_, h1, fun k hk => hk.elim (fun h => ⟨(h2 k h).1, Nat.lt_of_lt_of_le (h2 k h).2 hC.size⟩) (fun h => ⟨Nat.le_trans h3.size h.1, h.2⟩), h3.trans (hC.below h3.size (fun k hk => (h2 k hk).1)), fun W hW => h4 W (hC.then_ hW (fun k hk => hk.imp id (·.1)))⟩
end
theorem next_none_ql (w0 w : World) (g : Nat) (v : Value) (m : List Int) (h : QL w0 w g [] v m) : Calls Try.prog 32 #[.pointer (some ⟨g, 0, none⟩)] w fun e w' => e = .returned (.tuple #[.int .i64 0, .bool false]) ∧ QL w0 w' g [] v m := by
  have h' := h
  obtain ⟨F, h1, _⟩ := h
  exact (next_none g F w h1).mono fun e w' ⟨h1, h2⟩ => ⟨h1, h'.below h2⟩
theorem next_some_ql (w0 w : World) (g : Nat) (x : Int) (l : List Int) (v : Value) (m : List Int) (h : QL w0 w g (x :: l) v m) : Calls Try.prog 32 #[.pointer (some ⟨g, 0, none⟩)] w fun e w' => e = .returned (.tuple #[.int .i64 x, .bool true]) ∧ QL w0 w' g l v m := by
  obtain ⟨F, h1, h2, h3, h4⟩ := h
  exact (next_some g F x l w h1).mono fun e w' ⟨r1, r2, r3⟩ => ⟨r1, QL.ext_ r2 r3 h2 h3 h4⟩
theorem put_ql (w0 w : World) (g : Nat) (l : List Int) (v : Value) (m : List Int) (u : Value) (xs : List Int) (h : QL w0 w g l v m) (hu : RdV w0 u xs) (hw : ∀ x ∈ xs, (Lit.int .i64 x).wf = true) (hl : xs.length ≤ 1000) :
    Calls Try.prog 31 #[.pointer (some ⟨g, 0, none⟩), u] w fun e w' => e = .returned (.int .i64 ((putL l xs).length - l.length : Int)) ∧ QL w0 w' g (putL l xs) v m := by
  obtain ⟨F, h1, h2, h3, h4⟩ := h
  exact (put_any g F l xs _ _ h1 (st_in hu h3 (fun k hk => (h2 k hk).1)) hw (by omega)).mono fun e w' ⟨r1, r2, r3⟩ => ⟨r1, QL.ext_ r2 r3 h2 h3 h4⟩
theorem len_ql (w0 w : World) (g : Nat) (l : List Int) (v : Value) (m : List Int) (h : QL w0 w g l v m) : Calls Try.prog 33 #[.pointer (some ⟨g, 0, none⟩)] w fun e w' => e = .returned (.int .i64 (l.length : Int)) ∧ QL w0 w' g l v m := by
  have h' := h
  obtain ⟨F, ⟨FL, mb, f, hL, _⟩, _⟩ := h
  exact (len_any g FL _ l w hL.toW).mono fun e w' ⟨h1, h2⟩ => ⟨h1, h'.below h2⟩
theorem list_ql (w0 w : World) (g : Nat) (l : List Int) (v : Value) (m : List Int) (h : QL w0 w g l v m) : Calls Try.prog 35 #[.pointer (some ⟨g, 0, none⟩)] w fun e w' => ∃ u, e = .returned u ∧ RdV w' u l ∧ QL w0 w' g l v m := by
  have h' := h
  have hl := h.st.len_le
  obtain ⟨F, ⟨FL, mb, f, hL, _⟩, _⟩ := h
  exact (list_any g FL _ l w hL.toW (by omega)).mono fun e w' ⟨u, h1, h2, h3⟩ => ⟨u, h1, h2.toV, h'.below h3⟩
/-- what the law looks at behind each act -/
theorem same_ql (w0 w : World) (g : Nat) (l : List Int) (u v : Value) (k m : List Int) (h : QL w0 w g l v m) (hu : RdV w u k) : Calls Try.prog 24 #[u, v] w fun e w' => e = .returned (.bool (k == m)) ∧ QL w0 w' g l v m :=
  (same_any u v k m w hu h.rd).mono fun e w' ⟨h1, h2⟩ => ⟨h1, h.below h2⟩
theorem hasR_ql (w0 w : World) (g : Nat) (l : List Int) (v : Value) (m : List Int) (x : Int) (h : QL w0 w g l v m) : Calls Try.prog 37 #[v, .int .i64 x] w fun e w' => e = .returned (.bool (decide (x ∈ m))) ∧ QL w0 w' g l v m :=
  (hasR_any v m x w h.rd).mono fun e w' ⟨h1, h2⟩ => ⟨h1, h.below h2⟩
theorem putR_ql (w0 w : World) (g : Nat) (l : List Int) (v : Value) (m : List Int) (u : Value) (xs : List Int) (h : QL w0 w g l v m) (hu : RdV w0 u xs) (hm : m.length ≤ 1048576) (hl : xs.length ≤ 1000) :
    Calls Try.prog 34 #[v, u] w fun e w' => ∃ v2, e = .returned (.tuple #[v2, .int .i64 ((putL m xs).length - m.length : Int)]) ∧ QL w0 w' g l v2 (putL m xs) :=
  (putR_any v u m xs w h.rd (hu.below h.bel) hm hl).mono fun e w' ⟨v2, h1, h2, h3⟩ => ⟨v2, h1, h.own h3 h2⟩
end Go.Proofs.Ytmaoadlighjkpaa.Qu
