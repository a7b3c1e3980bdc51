/- graph.Len, Type, Types. -/
import Derived.Test.YtkpadjhdneiniaaDoorTa
namespace Go.Proofs.YtkpadjhdneiniaaDoor.Tx
set_option linter.unusedVariables false
open Go.RowKit Go.Proofs.YtkpadjhdneiniaaDoorW.PrintWords Go.Proofs.YtkpadjhdneiniaaDoorW.PrintLast Go.Proofs.YtkpadjhdneiniaaDoorW.PrintMore
open Go.Proofs.YtkpadjhdneiniaaDoor.Base Go.Proofs.YtkpadjhdneiniaaDoor.Map Go.Proofs.YtkpadjhdneiniaaDoor.Sl Go.Proofs.YtkpadjhdneiniaaDoor.Ow Go.Proofs.YtkpadjhdneiniaaDoor.Se Go.Proofs.YtkpadjhdneiniaaDoor.Gr Go.Sort

/-! plain -/
/-- an object's type -/
def typeG (T : List ByteArray) (x : Int) : ByteArray := if 0 ≤ x ∧ x < T.length then T.getD x.toNat ByteArray.empty else ByteArray.empty
/-- the types of objects, in turn -/
def typL (T : List ByteArray) (os : List Int) : List ByteArray := (os.filter fun (o : Int) => decide (0 ≤ o ∧ o < T.length)).map (typeG T)
theorem typL_more {T : List ByteArray} {os : List Int} {i : Nat} (hi : i < os.length) {o : Int} (ho : os.getD i 0 = o) (h : 0 ≤ o ∧ o < T.length) : typL T (os.take (i + 1)) = typL T (os.take i) ++ [typeG T o] := by
  unfold typL
  rw [Rf.take_get os i hi, List.filter_append, List.map_append, ho]
  congr 1
  rw [List.filter_cons_of_pos (by exact decide_eq_true h)]; rfl
theorem typL_skip {T : List ByteArray} {os : List Int} {i : Nat} (hi : i < os.length) {o : Int} (ho : os.getD i 0 = o) (h : ¬ (0 ≤ o ∧ o < T.length)) : typL T (os.take (i + 1)) = typL T (os.take i) := by
  unfold typL
  rw [Rf.take_get os i hi, List.filter_append, List.map_append, ho]
  rw [List.filter_cons_of_neg (by simpa using h)]; simp
theorem typL_len (T : List ByteArray) (os : List Int) : (typL T os).length ≤ os.length := by
  unfold typL; rw [List.length_map]; exact List.length_filter_le _ _
theorem map_toL (S : List ByteArray) : (S.map toL).map ofL = S := by rw [List.map_map]; exact List.map_id _
/-- the types of objects: rising, each once -/
structure TypS (T : List ByteArray) (os : List Int) (S : List ByteArray) : Prop where
  srt : (S.map toL).Pairwise (· < ·)
  mem : ∀ x, x ∈ S ↔ x ∈ typL T os
  len : S.length ≤ os.length
theorem TypS.ext {T : List ByteArray} {os : List Int} {S S' : List ByteArray} (h : TypS T os S) (h' : TypS T os S') : S = S' := by
  have e : S.map toL = S'.map toL := pw_ext (fun a => List.lt_irrefl a) (fun a b c h1 h2 => List.lt_trans h1 h2) h.srt h'.srt fun x => by
    rw [List.mem_map, List.mem_map]
    constructor
    · rintro ⟨a, h1, h2⟩; exact ⟨a, (h'.mem a).2 ((h.mem a).1 h1), h2⟩
    · rintro ⟨a, h1, h2⟩; exact ⟨a, (h.mem a).2 ((h'.mem a).1 h1), h2⟩
  have e2 := congrArg (List.map ofL) e
  rwa [map_toL, map_toL] at e2
theorem TypS.of_sort (T : List ByteArray) (os : List Int) : TypS T os ((Lib.compact (((((typL T os).map toL).mergeSort fun x y => decide (x ≤ y)).map ofL).map toL)).map ofL) := by
  rw [map_ofL]
  obtain ⟨h1, h2⟩ := compact_of (· < ·) (((typL T os).map toL).mergeSort fun x y => decide (x ≤ y)) (fun a b c h1 h2 => List.lt_trans h1 h2) (by
    refine (List.pairwise_mergeSort (le := fun x y : List UInt8 => decide (x ≤ y)) (fun a b c h1 h2 => ?_) (fun a b => ?_) _).imp fun {a b} h => ?_
    · simp only [decide_eq_true_eq] at h1 h2 ⊢; exact List.le_trans h1 h2
    · simp only [Bool.or_eq_true, decide_eq_true_eq]; exact List.le_total a b
    · simp only [decide_eq_true_eq] at h
      rcases List.le_iff_lt_or_eq.1 h with h | h
      · exact .inr h
      · exact .inl h)
  refine ⟨by rw [map_ofL]; exact h1, fun x => ?_, by
    have h3 := compact_len_le (((typL T os).map toL).mergeSort fun x y => decide (x ≤ y))
    rw [List.length_mergeSort, List.length_map] at h3
    rw [List.length_map]
    exact Nat.le_trans h3 (typL_len T os)⟩
  rw [List.mem_map]
  constructor
  · rintro ⟨l, hl, rfl⟩
    have := (List.mergeSort_perm _ _).mem_iff.1 ((h2 l).1 hl)
    obtain ⟨b, hb, rfl⟩ := List.mem_map.1 this
    exact (show ofL (toL b) = b from toL_inj rfl) ▸ hb
  · intro hx
    exact ⟨toL x, (h2 _).2 ((List.mergeSort_perm _ _).mem_iff.2 (List.mem_map.2 ⟨x, hx, rfl⟩)), toL_inj rfl⟩

/-! the walks -/
theorem GA_types {w : World} {p : Nat} {T : List ByteArray} {E : List GE} (h : GA w p T E) : ∃ A c, w.cell? ⟨p, 0, none⟩ = some (.slice A T.length c) ∧ RdT w A T := by
  obtain ⟨lab, h⟩ := h
  obtain ⟨A, c, v1, v2, hb, hr⟩ := GX.typesV h
  exact ⟨A, c, Rf.blk_cellD hb 0 _ rfl, ⟨hr⟩⟩
theorem len_any (p : Nat) (T : List ByteArray) (E : List GE) (w : World) (h : GA w p T E) :
    Calls Tryd.prog 30 #[.pointer (some ⟨p, 0, none⟩)] w fun e w' => e = .returned (.int .i64 (T.length : Int)) ∧ w = w' := by
  obtain ⟨A, c, h0, hr⟩ := GA_types h
  obtain ⟨n, hn⟩ : ∃ n, T.length = n := ⟨_, rfl⟩
  rw [hn] at h0 ⊢
  go_enter Tryd.func30, Tryd.ntmps30
  go_wp2
  go_ret
  exact ⟨rfl, rfl⟩
theorem type_any (p : Nat) (T : List ByteArray) (E : List GE) (x : Int) (w : World) (h : GA w p T E) (hl : T.length ≤ 1000000) :
    Calls Tryd.prog 31 #[.pointer (some ⟨p, 0, none⟩), .int .i64 x] w fun e w' => e = .returned (.string (typeG T x)) ∧ w = w' := by
  obtain ⟨A, c, h0, hr⟩ := GA_types h
  have HA := Aside0.mk (thereA h x)
  obtain ⟨n, hn⟩ : ∃ n, T.length = n := ⟨_, rfl⟩
  by_cases hx : 0 ≤ x ∧ x < T.length
  · obtain ⟨m, rfl⟩ := Int.eq_ofNat_of_zero_le hx.1
    obtain ⟨ad, rfl, e0⟩ := hr.at_ m (by omega)
    have et : typeG T (m : Int) = T.getD m ByteArray.empty := by unfold typeG; rw [if_pos hx]; simp
    rw [et]
    have hd := decide_eq_true hx
    rw [hd] at HA
    rw [hn] at h0
    have i0 : 0 ≤ (m : Int) := by omega
    have i1 : (m : Int) < (n : Int) := by omega
    obtain ⟨y, hy⟩ : ∃ y, T.getD m ByteArray.empty = y := ⟨_, rfl⟩
    rw [hy] at e0 ⊢
    clear hd et hr hy
    replace i0 := eq_true i0
    replace i1 := eq_true i1
    go_enter Tryd.func31, Tryd.ntmps31
    go_wp2_with fail
    refine HA.out.mono ?_
    rintro e w' ⟨rfl, rfl⟩
    go_wp2_with fail
    go_ret
    exact ⟨rfl, rfl⟩
  · have et : typeG T x = ByteArray.empty := by unfold typeG; rw [if_neg hx]
    rw [et]
    have hd := decide_eq_false hx
    rw [hd] at HA
    clear hd et hr
    go_enter Tryd.func31, Tryd.ntmps31
    go_wp2_with fail
    refine HA.out.mono ?_
    rintro e w' ⟨rfl, rfl⟩
    go_wp2_with fail
    go_ret
    exact ⟨rfl, rfl⟩
end Go.Proofs.YtkpadjhdneiniaaDoor.Tx
