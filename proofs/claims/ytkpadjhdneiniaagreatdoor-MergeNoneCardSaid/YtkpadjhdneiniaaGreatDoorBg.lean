/- Bf, Bg, Bh -/
import Derived.Test.YtkpadjhdneiniaaGreatDoorBe
/- Bf: AutoSingle: its walk. -/
section
namespace Go.Proofs.YtkpadjhdneiniaaGreatDoor.Am
set_option linter.unusedVariables false
open Go.RowKit Go.Proofs.YtkpadjhdneiniaaGreatDoorW.PrintWords Go.Proofs.YtkpadjhdneiniaaGreatDoorW.PrintLast Go.Proofs.YtkpadjhdneiniaaGreatDoorW.PrintMore Go.Maps
open Go.Proofs.YtkpadjhdneiniaaGreatDoor.Base Go.Proofs.YtkpadjhdneiniaaGreatDoor.Map Go.Proofs.YtkpadjhdneiniaaGreatDoor.Sl Go.Proofs.YtkpadjhdneiniaaGreatDoor.Ow Go.Proofs.YtkpadjhdneiniaaGreatDoor.Se Go.Proofs.YtkpadjhdneiniaaGreatDoor.Gr Go.Proofs.YtkpadjhdneiniaaGreatDoor.Rf Go.Proofs.YtkpadjhdneiniaaGreatDoor.Tx Go.Proofs.YtkpadjhdneiniaaGreatDoor.Au



/-- a state has a type -/
theorem types_pos {T : List ByteArray} {E : List GE} {o : Int} {n : Nat} {S : List (List Int)} (hI : StI n E o S) (hn : n ≤ T.length) {s : List Int} (hs : s ∈ S) {S' : List ByteArray} (h : TypS T s S') : 0 < S'.length := by
  obtain ⟨h1, h2⟩ := hI.sm s hs
  obtain ⟨x, r, rfl⟩ : ∃ x r, s = x :: r := by
    cases s with
    | nil => exact absurd rfl h2
    | cons x r => exact ⟨x, r, rfl⟩
  have hx := h1.2 x (by simp)
  have hm : typeG T x ∈ S' := (h.mem _).2 (by
    unfold typL
    exact List.mem_map.2 ⟨x, List.mem_filter.2 ⟨by simp, by simp; omega⟩, rfl⟩)
  exact List.length_pos_of_mem hm
end Go.Proofs.YtkpadjhdneiniaaGreatDoor.Am
end

/- Bg: A row of bools; AutoEnds: its walk. -/
section
namespace Go.Proofs.YtkpadjhdneiniaaGreatDoor.Am
set_option linter.unusedVariables false
open Go.RowKit Go.Proofs.YtkpadjhdneiniaaGreatDoorW.PrintWords Go.Proofs.YtkpadjhdneiniaaGreatDoorW.PrintLast Go.Proofs.YtkpadjhdneiniaaGreatDoorW.PrintMore Go.Maps
open Go.Proofs.YtkpadjhdneiniaaGreatDoor.Base Go.Proofs.YtkpadjhdneiniaaGreatDoor.Map Go.Proofs.YtkpadjhdneiniaaGreatDoor.Sl Go.Proofs.YtkpadjhdneiniaaGreatDoor.Ow Go.Proofs.YtkpadjhdneiniaaGreatDoor.Se Go.Proofs.YtkpadjhdneiniaaGreatDoor.Gr Go.Proofs.YtkpadjhdneiniaaGreatDoor.Rf Go.Proofs.YtkpadjhdneiniaaGreatDoor.Tx Go.Proofs.YtkpadjhdneiniaaGreatDoor.Au




/-- a row of n bools -/
def RowB (w : World) (b n : Nat) (f : Nat → Bool) : Prop := ∃ cur, w.heap[b]? = some (.cells cur 4 (0, 0)) ∧ cur.size = n ∧ ∀ k, k < n → cur[k]? = some (.bool (f k))
theorem RowB.blk {w w1 : World} {b n : Nat} {f : Nat → Bool} (h : RowB w b n f) (hb : w1.heap[b]? = w.heap[b]?) : RowB w1 b n f := by
  obtain ⟨cur, h1, h2, h3⟩ := h
  exact ⟨cur, hb.trans h1, h2, h3⟩
theorem RowB.lt {w : World} {b n : Nat} {f : Nat → Bool} (h : RowB w b n f) : b < w.heap.size := by obtain ⟨cur, h1, _⟩ := h; exact blk_lt h1
theorem RowB.below {w w1 : World} {b n : Nat} {f : Nat → Bool} (h : RowB w b n f) (hb : Below w.heap.size w w1) : RowB w1 b n f := h.blk (hb.block b h.lt)
theorem RowB.cell {w : World} {b n : Nat} {f : Nat → Bool} (h : RowB w b n f) {k : Nat} (hk : k < n) : w.cell? ⟨b, k, none⟩ = some (.bool (f k)) := by
  obtain ⟨cur, h1, h2, h3⟩ := h
  exact blk_cellD h1 k _ (h3 k hk)
theorem RowB.free {w : World} {b n : Nat} {f : Nat → Bool} (h : RowB w b n f) (k : Nat) : w.frozen? ⟨b, k, none⟩ = false := by
  obtain ⟨cur, h1, _⟩ := h
  exact blk_frozen h1 k
theorem RowB.set {w : World} {b n : Nat} {f : Nat → Bool} (h : RowB w b n f) (k : Nat) (q : Bool) : RowB (w.setCell ⟨b, k, none⟩ (.bool q)) b n (fun j => if j = k then q else f j) := by
  obtain ⟨cur, h1, h2, h3⟩ := h
  refine ⟨cur.setIfInBounds k (.bool q), blk_set h1 k _, by simp [h2], fun j hj => ?_⟩
  rw [Array.getElem?_setIfInBounds]
  by_cases e : k = j
  · subst e; rw [if_pos rfl, if_pos (by omega)]; simp
  · rw [if_neg e]
    show cur[j]? = some (Value.bool (if j = k then q else f j))
    rw [if_neg (fun h : j = k => e h.symm)]; exact h3 j hj
theorem RowB.far {w : World} {b n : Nat} {f : Nat → Bool} (h : RowB w b n f) {p : Addr} (hp : b ≠ p.block) (u : Value) : RowB (w.setCell p u) b n f := h.blk (Below.heap_setCell w p u b hp)
theorem info4 : (Tryz.prog.info? 4).map (fun i => (i.zero, i.size, i.bytes)) = some (some (.bool false), 1, 1) := by kernel_rfl
theorem mk_row (n : Nat) (hn : n ≤ 1000000) : ∀ W : World, (Instr.makeSlice 41 (.int .i64 (n : Int)) (.int .i64 (n : Int))).run Tryz.prog W = .ok (.slice (some ⟨W.heap.size, 0, none⟩) n n) (W.alloc (.cells (madeCells #[.bool false] n) 4)) :=
  fun W => run_make_row' 41 4 (.bool false) 1 Tryz.underlying41 info4 rfl .i64 .i64 n (by omega) (by omega) W
theorem row_made (W : World) (n : Nat) : RowB (W.alloc (.cells (madeCells #[.bool false] n) 4)) W.heap.size n (fun _ => false) :=
  ⟨_, heap_alloc_new _ _, by simp [size_madeCells], fun k hk => by simp [madeCells, hk, Nat.mod_one]⟩
/-- word[:i] -/
theorem cut_front {w : World} {A : Option Addr} {n c : Nat} {l : List Int} (h : RdV w (.slice A n c) l) {i : Nat} (hi : i ≤ n) :
    (∀ W : World, (Instr.slice 26 (.slice A n c) none (some (.int .i64 (i : Int))) none).run Tryz.prog W = .ok (.slice A i c) W) ∧ RdV w (.slice A i c) (l.take i) := by
  obtain ⟨A', c', e, hc, hr⟩ := h
  cases e
  obtain ⟨i0, hi0, -⟩ := i3
  refine ⟨fun W => by have := cut_to 26 3 .i64 Tryz.underlying26 hi0 A l.length c (i : Int) (by omega) (by omega) hc W; simpa using this, ⟨A, c, by rw [List.length_take, Nat.min_eq_left hi], by rw [List.length_take, Nat.min_eq_left hi]; omega, ⟨Kd.C_take hr.out hi⟩⟩⟩
/-- nowhere after i rounds -/
def Nw (E : List GE) (o : Int) (l : List Int) (i : Nat) (b : Bool) : Prop := b = true → ledG E o (l.take (i - 1)) = []
/-- who is met after i states -/
def Met (E : List GE) (S : List (List Int)) (f : Nat → Bool) (i : Nat) : Prop := f 0 = true ∧ ∀ j, j < i → ∀ x ∈ fieldsG E (S.getD j []), f (S.idxOf (nextG E x (S.getD j []))) = true
theorem met_at {n : Nat} {E : List GE} {o : Int} {S : List (List Int)} {f : Nat → Bool} {i : Nat} (hR : RightG n E) (h0 : 0 ≤ o) (h1 : o < n) (hS : statesG E n o = S) (h : Met E S f i) (hi : i < S.length) : f i = true := by
  by_cases hz : i = 0
  · rw [hz]; exact h.1
  · have hd : S.Nodup := by rw [← hS]; exact (states_inv hR h0 h1).nodup
    have hS' : stT E o (2 ^ n) = S := hS
    obtain ⟨j, s, x, hj, hs, hx, hk, -⟩ := stT_from hR h0 h1 (2 ^ n) i (by omega) (by rw [hS']; exact hi)
    rw [hS'] at hs hk
    have e1 : S.getD j [] = s := by rw [List.getD_eq_getElem?_getD, hs]; rfl
    have e2 : S.idxOf (nextG E x s) = i := by
      rw [List.getElem?_eq_getElem hi] at hk
      injection hk with hk
      rw [← hk]; exact hd.idxOf_getElem i hi
    have := h.2 j hj x (by rw [e1]; exact hx)
    rw [e1, e2] at this; exact this
/-- a step from a state by one of its fields -/
theorem step_at {n : Nat} {E : List GE} {o : Int} {S : List (List Int)} (hR : RightG n E) (h0 : 0 ≤ o) (h1 : o < n) (hS : statesG E n o = S) {i : Nat} (hi : i < S.length) {x : Int} (hx : x ∈ fieldsG E (S.getD i [])) :
    (stepG E S (i : Int) x).getD (-1) = ((S.idxOf (nextG E x (S.getD i [])) : Nat) : Int) ∧ S.idxOf (nextG E x (S.getD i [])) < S.length := by
  refine ⟨?_, List.idxOf_lt_length_of_mem ?_⟩
  · unfold stepG
    rw [if_pos ⟨by omega, by omega, by simpa using hx⟩, Int.toNat_natCast]; rfl
  · have := states_next hR h0 h1 (s := S.getD i []) (by rw [hS]; exact getD_mem hi) hx
    rw [hS] at this; exact this
theorem own_far {w w' : World} {base rb : Nat} {v : Value} {l : List Int} (h : OwI w base v l) (hr : rb < base) (hC : Chg (fun b => b = rb) w w') : RdV w' v l :=
  ((OwF.of_own h (F := fun k => base ≤ k) (fun k h _ => h)).chg hC (fun k hk e => by omega)).toV
theorem fldG_nat {E : List GE} {S : List (List Int)} {i : Nat} (hi : i < S.length) : fldG E S (i : Int) = fieldsG E (S.getD i []) := by
  unfold fldG
  rw [if_pos ⟨by omega, by omega⟩, atG_nat hi]
theorem led_more {E : List GE} {o : Int} {l : List Int} {i : Nat} (h : ledG E o (l.take (i - 1)) = []) : ledG E o (l.take i) = [] := by
  refine ledG_stop (i := i - 1) ?_
  rw [List.take_take, Nat.min_eq_left (Nat.sub_le _ _)]; exact h
/-- nowhere: no types -/
theorem types_zero {T : List ByteArray} {E : List GE} {o : Int} {n : Nat} {S : List (List Int)} (hR : RightG n E) (h0 : 0 ≤ o) (h1 : o < n) (hS : statesG E n o = S) (hn : n ≤ T.length) {l : List Int} {S' : List ByteArray} (h : TypS T (ledG E o l) S') : S'.length = 0 ↔ ledG E o l = [] := by
  have hI : StI n E o S := by rw [← hS]; exact states_inv hR h0 h1
  rcases run_cases hR h0 h1 hS l with ⟨h2, k, h3, h4, h5⟩ | ⟨h2, h3⟩
  · have := types_pos hI hn (s := ledG E o l) (by rw [← h5]; exact getD_mem h4) h
    exact ⟨fun e => by omega, fun e => absurd e h2⟩
  · exact ⟨fun _ => h2, fun _ => by have := h.len; rw [h2] at this; simpa using this⟩
end Go.Proofs.YtkpadjhdneiniaaGreatDoor.Am
end

/- Bh: AutoStates: its walk. -/
section
namespace Go.Proofs.YtkpadjhdneiniaaGreatDoor.Am
set_option linter.unusedVariables false
open Go.RowKit Go.Proofs.YtkpadjhdneiniaaGreatDoorW.PrintWords Go.Proofs.YtkpadjhdneiniaaGreatDoorW.PrintLast Go.Proofs.YtkpadjhdneiniaaGreatDoorW.PrintMore Go.Maps
open Go.Proofs.YtkpadjhdneiniaaGreatDoor.Base Go.Proofs.YtkpadjhdneiniaaGreatDoor.Map Go.Proofs.YtkpadjhdneiniaaGreatDoor.Sl Go.Proofs.YtkpadjhdneiniaaGreatDoor.Ow Go.Proofs.YtkpadjhdneiniaaGreatDoor.Se Go.Proofs.YtkpadjhdneiniaaGreatDoor.Gr Go.Proofs.YtkpadjhdneiniaaGreatDoor.Rf Go.Proofs.YtkpadjhdneiniaaGreatDoor.Tx Go.Proofs.YtkpadjhdneiniaaGreatDoor.Au



theorem single_bool (T : List ByteArray) (S : List (List Int)) : ∃ B : Bool, B = true ↔ SingleG T S := by
  by_cases h : SingleG T S
  · exact ⟨true, by simp [h]⟩
  · exact ⟨false, by simp [h]⟩
end Go.Proofs.YtkpadjhdneiniaaGreatDoor.Am
end
