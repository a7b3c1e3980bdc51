/- Ta, Tb, Tc, Td -/
import Derived.Test.YtkpadjhdneiniaaGreatDoorZa
/- Ta: Slices of texts that a call owns or reads: append, cuts, slices.Sort and Compact. -/
section
namespace Go.Proofs.YtkpadjhdneiniaaGreatDoor.Tx
set_option linter.unusedVariables false
open Go.RowKit Go.Proofs.YtkpadjhdneiniaaGreatDoorW.PrintWords Go.Proofs.YtkpadjhdneiniaaGreatDoorW.PrintLast Go.Proofs.YtkpadjhdneiniaaGreatDoorW.PrintMore
open Go.Proofs.YtkpadjhdneiniaaGreatDoor.Base Go.Proofs.YtkpadjhdneiniaaGreatDoor.Map Go.Proofs.YtkpadjhdneiniaaGreatDoor.Sl Go.Proofs.YtkpadjhdneiniaaGreatDoor.Ow Go.Proofs.YtkpadjhdneiniaaGreatDoor.Se Go.Proofs.YtkpadjhdneiniaaGreatDoor.Gr Go.Sort

/-- a value that reads as texts -/
structure RdS (w : World) (v : Value) (l : List ByteArray) : Prop where mk :: (out : ∃ A c, v = .slice A l.length c ∧ l.length ≤ c ∧ RdT w A l)
/-- the call's own slice of texts, its block one of F -/
structure OwS (w : World) (F : Nat → Prop) (v : Value) (l : List ByteArray) : Prop where mk :: (out : Kd.R Kd.string 9 w 0 F v l)
theorem info9 : (Tryz.prog.info? 9).map (fun i => (i.zero, i.size, i.bytes)) = some (some (.string ⟨#[]⟩), 1, 16) := by kernel_rfl
theorem i9 : ∃ i, Tryz.prog.info? 9 = some i ∧ i.size = 1 := by
  obtain ⟨i0, hi, hzz⟩ := Option.map_eq_some_iff.1 info9
  simp only [Prod.mk.injEq] at hzz
  exact ⟨i0, hi, hzz.2.1⟩
section
variable {w w1 : World} {F F' : Nat → Prop} {v : Value} {l : List ByteArray}
theorem RdS.below (h : RdS w v l) (hb : Below w.heap.size w w1) : RdS w1 v l := by
  obtain ⟨A, c, h1, h2, h3⟩ := h
  exact ⟨A, c, h1, h2, h3.below hb⟩
theorem OwS.toV (h : OwS w F v l) : RdS w v l := by
  obtain ⟨A, c, h1, h2, h3⟩ := Kd.R_reads h.out
  exact ⟨A, c, h1, h2, ⟨h3⟩⟩
theorem OwS.mono (h : OwS w F v l) (hF : ∀ k, F k → F' k) : OwS w F' v l := ⟨Kd.R_mono h.out hF⟩
theorem OwS.below (h : OwS w F v l) (hb : Below w.heap.size w w1) : OwS w1 F v l := ⟨Kd.R_below h.out hb⟩
theorem OwS.chg {G : Nat → Prop} (h : OwS w F v l) (hC : Chg G w w1) (hd : ∀ k, F k → ¬ G k) : OwS w1 F v l := ⟨Kd.R_step h.out (fun k hk hlt => hC.block k hlt (hd k hk))⟩
theorem OwS.bound (h : OwS w F v l) : OwS w (fun k => F k ∧ k < w.heap.size) v l := ⟨Kd.R_mono (Kd.R_bound h.out) (fun k hk => ⟨hk.1, hk.2.2.1⟩)⟩
theorem OwS.nil (w : World) (F : Nat → Prop) : OwS w F (.slice none 0 0) [] := ⟨Kd.R_nil _ _ _ _ _⟩
theorem RdS.max (h : RdS w v l) : l.length ≤ 9223372036854775807 := by
  obtain ⟨A, c, _, _, h3⟩ := h
  exact h3.out.2.1
theorem OwS.max (h : OwS w F v l) : l.length ≤ 9223372036854775807 := h.toV.max
theorem RdS.nil (w : World) : RdS w (.slice none 0 0) [] := (OwS.nil w (fun _ => True)).toV
theorem OwS.form (h : OwS w F v l) : (v = .slice none 0 0 ∧ l = []) ∨ ∃ g cap cur, v = .slice (some ⟨g, 0, none⟩) l.length cap ∧ F g ∧ w.heap[g]? = some (.cells cur 9 (0, 0)) ∧ l.length ≤ cap ∧ cap ≤ maxLen ∧ cur.size = cap ∧ cur.toList.take l.length = l.map Value.string := by
  have ho := Kd.own_of_R h.out
  rcases ho.2 with ⟨h1, h0⟩ | ⟨g, cap, cur, hv, _, hg, h1, h2, h3, h4⟩
  · exact .inl ⟨h1, List.eq_nil_of_length_eq_zero h0⟩
  · exact .inr ⟨g, cap, cur, hv, h.out.1 g (by rw [hv]; rfl), hg, h1, h2, by omega, by rw [Nat.mul_one] at h4; exact h4⟩
theorem OwS.of_block {g cap : Nat} {cur : Array Value} (hF : F g) (hg : w.heap[g]? = some (.cells cur 9 (0, 0))) (h1 : l.length ≤ cap) (h2 : cap ≤ maxLen) (h3 : cur.size = cap) (h4 : cur.toList.take l.length = l.map Value.string) : OwS w F (.slice (some ⟨g, 0, none⟩) l.length cap) l :=
  ⟨Kd.R_of_own ⟨by simp [encs], .inr ⟨g, cap, cur, rfl, Nat.zero_le _, hg, h1, h2, by omega, by rw [Nat.mul_one]; exact h4⟩⟩ (fun k hk => by cases hk; exact hF)⟩
theorem RdS.lit {g : Nat} {cur : Array Value} (h : w.heap[g]? = some (.cells cur 9 (0, 0))) (hc : cur.toList = l.map Value.string) (hl : l.length ≤ 1000000) : RdS w (.slice (some ⟨g, 0, none⟩) l.length l.length) l :=
  ⟨_, _, rfl, Nat.le_refl _, Rf.rdT_lit h hc hl⟩
end
/-! append(v, ys...) -/
section
variable {ops : Array Oper} {rest : List Oper} {o : Oper} {a : Act} {Q : Exit → Act → World → Prop}
theorem appS {W : World} {G : Nat → Prop} (hgd : o.guard = none) (s x : Operand)
    (ho : o.op = .call { callee := .builtin .append, args := #[s, x], argTypes := #[22, 22] })
    (v u : Value) (xs ys : List ByteArray) (hs : a.eval s = v) (hx : a.eval x = u)
    (HO : OwS W G v xs) (HR : RdS W u ys) (hl : (xs.length + ys.length) * 16 ≤ 140737488355328)
    (h : ∀ v1 w1, OwS w1 (ext G W w1) v1 (xs ++ ys) → Chg G W w1 → wpList Tryz.prog ops Q rest (a.put o.dst v1) w1) :
    wpList Tryz.prog ops Q (o :: rest) a W := by
  obtain ⟨A, c, hu, _, HR⟩ := HR
  exact Kd.R_append_row Value.string ByteArray.empty (h1 := fun _ => rfl) (w0 := W) 0 hgd s x 22 9 (.string ⟨#[]⟩) 16 ho Tryz.underlying22 info9 rfl (by decide) v xs ys A _ c (fun k => G k ∨ W.heap.size ≤ k) hs (hx.trans hu) (fun _ hk => .inr hk) (Kd.R_mono HO.out (fun k hk => .inl hk)) HR.out (Below.refl _ _) (Nat.zero_le _) hl
    (fun v1 w1 ho hb hg hat => h v1 w1 ⟨Kd.R_mono (Kd.R_bound ho) (fun k hk => hk.1.elim .inl (fun h => .inr ⟨h, hk.2.2.1⟩))⟩ (Chg.of_grown hg (fun k hk => HO.out.1 k hk)))
end
/-! cuts -/
theorem cutS_from (A : Option Addr) (c : Nat) (l : List ByteArray) (j : Int) (h0 : 0 ≤ j) (hm : j ≤ l.length) (hc : l.length ≤ c) :
    ∃ (A' : Option Addr) (c' : Nat), (∀ W : World, (Instr.slice 22 (.slice A l.length c) (some (.int .i64 j)) none none).run Tryz.prog W = .ok (.slice A' (l.drop j.toNat).length c') W) ∧
      (∀ w : World, RdT w A l → RdS w (.slice A' (l.drop j.toNat).length c') (l.drop j.toNat)) := by
  obtain ⟨i0, hi, hs⟩ := i9
  obtain ⟨A', h1, h2, h3⟩ := print_drop_of (P := Tryz.prog) Value.string ByteArray.empty 22 9 .i64 Tryz.underlying22 hi hs A c l j h0 hm hc
  exact ⟨A', _, h1, fun w h => ⟨_, _, rfl, h3, ⟨Kd.C_of_reads (h1 := fun _ => rfl) (h2 w (Kd.reads_of_C h.out))⟩⟩⟩
theorem cutS_to (A : Option Addr) (c : Nat) (l : List ByteArray) (j : Int) (h0 : 0 ≤ j) (hm : j ≤ l.length) (hc : l.length ≤ c) :
    (∀ W : World, (Instr.slice 22 (.slice A l.length c) none (some (.int .i64 j)) none).run Tryz.prog W = .ok (.slice A (l.take j.toNat).length c) W) ∧
      (∀ w : World, RdT w A l → RdS w (.slice A (l.take j.toNat).length c) (l.take j.toNat)) := by
  obtain ⟨i0, hi, hs⟩ := i9
  obtain ⟨h1, h2, h3⟩ := print_take_of (P := Tryz.prog) Value.string ByteArray.empty 22 9 .i64 Tryz.underlying22 hi hs A c l j h0 hm hc
  exact ⟨h1, fun w h => ⟨_, _, rfl, h3, ⟨Kd.C_of_reads (h1 := fun _ => rfl) (h2 w (Kd.reads_of_C h.out))⟩⟩⟩
/-! Sort, Compact -/
abbrev toL (b : ByteArray) : List UInt8 := b.data.toList
def ofL (l : List UInt8) : ByteArray := ⟨l.toArray⟩
theorem toL_inj {a b : ByteArray} (h : toL a = toL b) : a = b := by
  cases a; cases b; simp only [toL] at h
  congr 1; exact Array.toList_inj.1 h
theorem map_ofL (L : List (List UInt8)) : (L.map ofL).map toL = L := by rw [List.map_map]; exact List.map_id _
theorem enc_map (L : List (List UInt8)) : (L.map ofL).map Value.string = L.map encStr := by rw [List.map_map]; rfl
theorem sortS_own (v : Value) (l : List ByteArray) (F : Nat → Prop) (w : World) (h : OwS w F v l) (hl : l.length ≤ 1000000000) :
    Calls Tryz.prog 90 #[v] w fun e w' => e = .returned (.tuple #[]) ∧ OwS w' F v (((l.map toL).mergeSort fun x y => decide (x ≤ y)).map ofL) ∧ Chg F w w' := by
  rcases h.form with ⟨rfl, rfl⟩ | ⟨g, cap, cur, rfl, hFg, hg, h1, h2, h3, h4⟩
  · refine (Tryz.slices_Sort_string_none none 0 w).mono ?_
    rintro e w' ⟨rfl, rfl⟩
    exact ⟨rfl, by rw [List.map_nil, List.mergeSort_nil]; exact OwS.nil _ _, Chg.refl _ _⟩
  · have hH : Holds encStr w g 0 (l.map toL).toArray := by
      intro j hj
      have hj' : j < l.length := by simpa using hj
      refine ⟨?_, blk_frozen hg _⟩
      rw [Nat.zero_add, blk_cell hg, ← Array.getElem?_toList]
      have e1 := congrArg (·[j]?) h4
      simp only [List.getElem?_take, hj', if_true] at e1
      rw [e1]
      simp [hj']
    have hlen : l.length = (l.map toL).length := by simp
    have hs := Tryz.slices_Sort_string g 0 cap (l.map toL) w hH (blk_lt hg) (by simp; omega)
    rw [← hlen] at hs
    refine hs.mono ?_
    rintro e w' ⟨rfl, n, os, rfl⟩
    obtain ⟨c1, c2⟩ := sorted_chg encStr (n := n) (os := os) (d := ((l.map toL).mergeSort fun x y => decide (x ≤ y)).toArray) hFg hg
    obtain ⟨L, hL⟩ : ∃ L, ((l.map toL).mergeSort fun x y => decide (x ≤ y)) = L := ⟨_, rfl⟩
    have hLl : L.length = l.length := by rw [← hL, List.length_mergeSort]; simp
    rw [hL] at c1 c2 ⊢
    refine ⟨rfl, ?_, c1⟩
    have hO := OwS.of_block (l := L.map ofL) (F := F) (cap := cap) hFg c2 (by simp; omega) h2 (by rw [put_size]; exact h3) (by
      have := put_take encStr L.toArray cur (by simp; omega)
      rw [enc_map]
      simpa using this)
    rw [List.length_map, hLl] at hO
    exact hO
theorem compactS_own (v : Value) (l : List ByteArray) (F : Nat → Prop) (w : World) (h : OwS w F v l) :
    Calls Tryz.prog 91 #[v] w fun e w' => ∃ v', e = .returned v' ∧ OwS w' F v' ((Lib.compact (l.map toL)).map ofL) ∧ Chg F w w' := by
  rcases h.form with ⟨rfl, rfl⟩ | ⟨g, cap, cur, rfl, hFg, hg, h1, h2, h3, h4⟩
  · refine (Tryz.slices_Compact_string_empty none 0 w).mono ?_
    rintro e w' ⟨rfl, rfl⟩
    exact ⟨_, rfl, OwS.nil _ _, Chg.refl _ _⟩
  · have hst : Lib.strsOf (fun j => l.getD j ByteArray.empty) l.length = l.map toL := by
      unfold Lib.strsOf
      apply List.ext_getElem?
      intro j
      rw [List.getElem?_map, List.getElem?_map]
      by_cases hj : j < l.length
      · rw [List.getElem?_range hj, List.getElem?_eq_getElem hj]
        simp [List.getD_eq_getElem?_getD, List.getElem?_eq_getElem hj]
      · rw [List.getElem?_eq_none (by simp; omega), List.getElem?_eq_none (by omega)]; rfl
    have hc := Tryz.slices_Compact_string_cells g 0 l.length cap (fun j => l.getD j ByteArray.empty) w h.max h1 (fun j hj => by
      rw [Nat.zero_add, blk_cell hg, ← Array.getElem?_toList]
      have e1 := congrArg (·[j]?) h4
      simp only [List.getElem?_take, hj, if_true] at e1
      rw [e1]
      simp [hj]) (fun j hj => blk_frozen hg _)
    rw [hst] at hc
    refine hc.mono ?_
    rintro e w' ⟨rfl, q, rfl⟩
    have hcl := compact_len_le (l.map toL)
    rw [List.length_map] at hcl
    obtain ⟨L, hL⟩ : ∃ L, Lib.compact (l.map toL) = L := ⟨_, rfl⟩
    rw [hL] at hcl ⊢
    have hg1 : (w.drewN q).heap[g]? = some (.cells cur 9 (0, 0)) := (pw_below_drewN (Below.refl w.heap.size w) q).block g (blk_lt hg) |>.trans hg
    obtain ⟨c1, k1, k2, k3⟩ := setCells_row ((L ++ List.replicate (l.length - L.length) []).map encStr) 0 (w.drewN q) cur hg1 (by simp; omega)
    refine ⟨_, rfl, ?_, ((Chg.refl F w).andBelow (pw_below_drewN (Below.refl _ _) q)).then_ (chg_setCells _ hFg _ _) (fun _ h => .inl h)⟩
    have hO := OwS.of_block (l := L.map ofL) (F := F) (cap := cap) hFg k1 (by simp; omega) h2 (by omega) (by
      rw [enc_map, k3, List.take_zero, List.nil_append, List.map_append, List.append_assoc, List.take_append_of_le_length (by simp), List.take_of_length_le (by simp)])
    rw [List.length_map] at hO
    exact hO
end Go.Proofs.YtkpadjhdneiniaaGreatDoor.Tx
end

/- Tb: graph.Len, Type, Types. -/
section
namespace Go.Proofs.YtkpadjhdneiniaaGreatDoor.Tx
set_option linter.unusedVariables false
open Go.RowKit Go.Proofs.YtkpadjhdneiniaaGreatDoorW.PrintWords Go.Proofs.YtkpadjhdneiniaaGreatDoorW.PrintLast Go.Proofs.YtkpadjhdneiniaaGreatDoorW.PrintMore
open Go.Proofs.YtkpadjhdneiniaaGreatDoor.Base Go.Proofs.YtkpadjhdneiniaaGreatDoor.Map Go.Proofs.YtkpadjhdneiniaaGreatDoor.Sl Go.Proofs.YtkpadjhdneiniaaGreatDoor.Ow Go.Proofs.YtkpadjhdneiniaaGreatDoor.Se Go.Proofs.YtkpadjhdneiniaaGreatDoor.Gr Go.Sort

/-! plain -/
/-- an object's type -/
def typeG (T : List ByteArray) (x : Int) : ByteArray := if 0 ≤ x ∧ x < T.length then T.getD x.toNat ByteArray.empty else ByteArray.empty
/-- the types of objects, in turn -/
def typL (T : List ByteArray) (os : List Int) : List ByteArray := (os.filter fun (o : Int) => decide (0 ≤ o ∧ o < T.length)).map (typeG T)
theorem typL_more {T : List ByteArray} {os : List Int} {i : Nat} (hi : i < os.length) {o : Int} (ho : os.getD i 0 = o) (h : 0 ≤ o ∧ o < T.length) : typL T (os.take (i + 1)) = typL T (os.take i) ++ [typeG T o] := by
  unfold typL
  rw [Rf.take_get os i hi, List.filter_append, List.map_append, ho]
  congr 1
  rw [List.filter_cons_of_pos (by exact decide_eq_true h)]; rfl
theorem typL_skip {T : List ByteArray} {os : List Int} {i : Nat} (hi : i < os.length) {o : Int} (ho : os.getD i 0 = o) (h : ¬ (0 ≤ o ∧ o < T.length)) : typL T (os.take (i + 1)) = typL T (os.take i) := by
  unfold typL
  rw [Rf.take_get os i hi, List.filter_append, List.map_append, ho]
  rw [List.filter_cons_of_neg (by simpa using h)]; simp
theorem typL_len (T : List ByteArray) (os : List Int) : (typL T os).length ≤ os.length := by
  unfold typL; rw [List.length_map]; exact List.length_filter_le _ _
theorem map_toL (S : List ByteArray) : (S.map toL).map ofL = S := by rw [List.map_map]; exact List.map_id _
/-- the types of objects: rising, each once -/
structure TypS (T : List ByteArray) (os : List Int) (S : List ByteArray) : Prop where
  srt : (S.map toL).Pairwise (· < ·)
  mem : ∀ x, x ∈ S ↔ x ∈ typL T os
  len : S.length ≤ os.length
theorem TypS.ext {T : List ByteArray} {os : List Int} {S S' : List ByteArray} (h : TypS T os S) (h' : TypS T os S') : S = S' := by
  have e : S.map toL = S'.map toL := pw_ext (fun a => List.lt_irrefl a) (fun a b c h1 h2 => List.lt_trans h1 h2) h.srt h'.srt fun x => by
    rw [List.mem_map, List.mem_map]
    constructor
    · rintro ⟨a, h1, h2⟩; exact ⟨a, (h'.mem a).2 ((h.mem a).1 h1), h2⟩
    · rintro ⟨a, h1, h2⟩; exact ⟨a, (h.mem a).2 ((h'.mem a).1 h1), h2⟩
  have e2 := congrArg (List.map ofL) e
  rwa [map_toL, map_toL] at e2
theorem TypS.of_sort (T : List ByteArray) (os : List Int) : TypS T os ((Lib.compact (((((typL T os).map toL).mergeSort fun x y => decide (x ≤ y)).map ofL).map toL)).map ofL) := by
  rw [map_ofL]
  obtain ⟨h1, h2⟩ := compact_of (· < ·) (((typL T os).map toL).mergeSort fun x y => decide (x ≤ y)) (fun a b c h1 h2 => List.lt_trans h1 h2) (by
    refine (List.pairwise_mergeSort (le := fun x y : List UInt8 => decide (x ≤ y)) (fun a b c h1 h2 => ?_) (fun a b => ?_) _).imp fun {a b} h => ?_
    · simp only [decide_eq_true_eq] at h1 h2 ⊢; exact List.le_trans h1 h2
    · simp only [Bool.or_eq_true, decide_eq_true_eq]; exact List.le_total a b
    · simp only [decide_eq_true_eq] at h
      rcases List.le_iff_lt_or_eq.1 h with h | h
      · exact .inr h
      · exact .inl h)
  refine ⟨by rw [map_ofL]; exact h1, fun x => ?_, by
    have h3 := compact_len_le (((typL T os).map toL).mergeSort fun x y => decide (x ≤ y))
    rw [List.length_mergeSort, List.length_map] at h3
    rw [List.length_map]
    exact Nat.le_trans h3 (typL_len T os)⟩
  rw [List.mem_map]
  constructor
  · rintro ⟨l, hl, rfl⟩
    have := (List.mergeSort_perm _ _).mem_iff.1 ((h2 l).1 hl)
    obtain ⟨b, hb, rfl⟩ := List.mem_map.1 this
    exact (show ofL (toL b) = b from toL_inj rfl) ▸ hb
  · intro hx
    exact ⟨toL x, (h2 _).2 ((List.mergeSort_perm _ _).mem_iff.2 (List.mem_map.2 ⟨x, hx, rfl⟩)), toL_inj rfl⟩

/-! the walks -/
theorem GA_types {w : World} {p : Nat} {T : List ByteArray} {E : List GE} (h : GA w p T E) : ∃ A c, w.cell? ⟨p, 0, none⟩ = some (.slice A T.length c) ∧ RdT w A T := by
  obtain ⟨lab, h⟩ := h
  obtain ⟨A, c, v1, v2, hb, hr⟩ := GX.typesV h
  exact ⟨A, c, Rf.blk_cellD hb 0 _ rfl, ⟨hr⟩⟩
theorem len_any (p : Nat) (T : List ByteArray) (E : List GE) (w : World) (h : GA w p T E) :
    Calls Tryz.prog 62 #[.pointer (some ⟨p, 0, none⟩)] w fun e w' => e = .returned (.int .i64 (T.length : Int)) ∧ w = w' := by
  obtain ⟨A, c, h0, hr⟩ := GA_types h
  obtain ⟨n, hn⟩ : ∃ n, T.length = n := ⟨_, rfl⟩
  rw [hn] at h0 ⊢
  go_enter Tryz.func62, Tryz.ntmps62
  go_wp2
  go_ret
  exact ⟨rfl, rfl⟩
theorem type_any (p : Nat) (T : List ByteArray) (E : List GE) (x : Int) (w : World) (h : GA w p T E) (hl : T.length ≤ 1000000) :
    Calls Tryz.prog 79 #[.pointer (some ⟨p, 0, none⟩), .int .i64 x] w fun e w' => e = .returned (.string (typeG T x)) ∧ w = w' := by
  obtain ⟨A, c, h0, hr⟩ := GA_types h
  have HA := Aside0.mk (thereA h x)
  obtain ⟨n, hn⟩ : ∃ n, T.length = n := ⟨_, rfl⟩
  by_cases hx : 0 ≤ x ∧ x < T.length
  · obtain ⟨m, rfl⟩ := Int.eq_ofNat_of_zero_le hx.1
    obtain ⟨ad, rfl, e0⟩ := hr.at_ m (by omega)
    have et : typeG T (m : Int) = T.getD m ByteArray.empty := by unfold typeG; rw [if_pos hx]; simp
    rw [et]
    have hd := decide_eq_true hx
    rw [hd] at HA
    rw [hn] at h0
    have i0 : 0 ≤ (m : Int) := by omega
    have i1 : (m : Int) < (n : Int) := by omega
    obtain ⟨y, hy⟩ : ∃ y, T.getD m ByteArray.empty = y := ⟨_, rfl⟩
    rw [hy] at e0 ⊢
    clear hd et hr hy
    replace i0 := eq_true i0
    replace i1 := eq_true i1
    go_enter Tryz.func79, Tryz.ntmps79
    go_wp2_with fail
    refine HA.out.mono ?_
    rintro e w' ⟨rfl, rfl⟩
    go_wp2_with fail
    go_ret
    exact ⟨rfl, rfl⟩
  · have et : typeG T x = ByteArray.empty := by unfold typeG; rw [if_neg hx]
    rw [et]
    have hd := decide_eq_false hx
    rw [hd] at HA
    clear hd et hr
    go_enter Tryz.func79, Tryz.ntmps79
    go_wp2_with fail
    refine HA.out.mono ?_
    rintro e w' ⟨rfl, rfl⟩
    go_wp2_with fail
    go_ret
    exact ⟨rfl, rfl⟩
end Go.Proofs.YtkpadjhdneiniaaGreatDoor.Tx
end

/- Tc: graph.Types; the document's Texts. -/
section
namespace Go.Proofs.YtkpadjhdneiniaaGreatDoor.Tx
set_option linter.unusedVariables false
open Go.RowKit Go.Proofs.YtkpadjhdneiniaaGreatDoorW.PrintWords Go.Proofs.YtkpadjhdneiniaaGreatDoorW.PrintLast Go.Proofs.YtkpadjhdneiniaaGreatDoorW.PrintMore
open Go.Proofs.YtkpadjhdneiniaaGreatDoor.Base Go.Proofs.YtkpadjhdneiniaaGreatDoor.Map Go.Proofs.YtkpadjhdneiniaaGreatDoor.Sl Go.Proofs.YtkpadjhdneiniaaGreatDoor.Ow Go.Proofs.YtkpadjhdneiniaaGreatDoor.Se Go.Proofs.YtkpadjhdneiniaaGreatDoor.Gr

theorem chg_own {w wr w2 : World} {G : Nat → Prop} (hB : Below w.heap.size w wr) (hG : ∀ k, G k → w.heap.size ≤ k) (hC : Chg G wr w2) : Below w.heap.size w w2 :=
  ((Chg.of_below hB (fun _ => False)).then_ hC (fun k hk => .inr (hG k hk))).below (Nat.le_refl _) (fun k hk => hk.elim)
theorem ext_own {w wr w2 : World} {G : Nat → Prop} (hB : Below w.heap.size w wr) (hG : ∀ k, G k → w.heap.size ≤ k) : ∀ k, ext G wr w2 k → w.heap.size ≤ k :=
  fun k hk => hk.elim (hG k) (fun h => by have h1 := h.1; have h2 := hB.size; omega)
set_option maxHeartbeats 8000000 in
set_option maxRecDepth 100000 in
theorem types_any (p : Nat) (T : List ByteArray) (E : List GE) (u : Value) (os : List Int) (w : World) (h : GA w p T E) (hu : RdV w u os) (hl : T.length ≤ 1000000 ∧ os.length ≤ 1000000) :
    Calls Tryz.prog 69 #[.pointer (some ⟨p, 0, none⟩), u] w fun e w' => ∃ v S, e = .returned v ∧ RdS w' v S ∧ TypS T os S ∧ Below w.heap.size w w' := by
  have H := Aside0.mk h
  have HU := Aside0.mk hu
  obtain ⟨A, c, rfl, hc, hr⟩ := hu
  have HR := Aside0.mk hr
  have Hl := Aside0.mk hl
  obtain ⟨n, hn⟩ : ∃ n, os.length = n := ⟨_, rfl⟩
  have Hn := Aside0.mk hn
  rw [hn]
  clear h hr hl hc hn
  go_enter Tryz.func69, Tryz.ntmps69
  go_wp2_with fail
  go_loopw [5, 10] (fun V I wr => ∃ (i : Nat) (G : Nat → Prop), I = .int .i64 (i : Int) ∧ i ≤ n ∧ Aside0 (OwS wr G V (typL T (os.take i))) ∧ Aside0 (∀ k, G k → w.heap.size ≤ k) ∧ Aside0 (Below w.heap.size w wr)) (fun _ I _ => n - (intOf I).toNat)
  case atStart => exact ⟨0, fun _ => False, rfl, Nat.zero_le _, ⟨by rw [List.take_zero]; exact OwS.nil _ _⟩, ⟨fun k hk => hk.elim⟩, ⟨Below.refl _ _⟩⟩
  case round =>
    obtain ⟨i, G, rfl, hi, HO, HGb, HB⟩ := hrel
    by_cases hin : i < n
    · have hnb : decide ((i : Int) < (n : Int)) = true := decide_eq_true (by omega)
      have hnc : decide (i < n) = true := decide_eq_true hin
      have hil : i < os.length := by rw [Hn.out]; exact hin
      obtain ⟨ad, rfl, hx⟩ := (HR.out.below HB.out).at_ (i : Int) (by omega) (by omega)
      have hx : wr.cell? (ad.add i) = some (.int .i64 (os.getD i 0)) := by simpa [rd] using hx
      obtain ⟨x, hxx⟩ : ∃ x, os.getD i 0 = x := ⟨_, rfl⟩
      rw [hxx] at hx
      have i0 : 0 ≤ (i : Int) := by omega
      have i1 : (i : Int) < (n : Int) := by omega
      have i2 : (i : Int) ≤ 1000000 := by have := Hl.out.2; omega
      have Hin := Aside0.mk (And.intro hin (And.intro hil hxx))
      have hG := H.out.below HB.out
      have HTh := Aside0.mk (thereA hG x)
      obtain ⟨AT, cT, t0, hrT⟩ := GA_types hG
      have hlen := typL_len T (os.take i)
      have Hlen := Aside0.mk (show (typL T (os.take i)).length ≤ 1000000 by
        have h2 := List.length_take_le i os
        have := Hl.out.2
        omega)
      clear hin hi hil hxx hlen
      replace i0 := eq_true i0
      replace i1 := eq_true i1
      by_cases hv : 0 ≤ x ∧ x < T.length
      · obtain ⟨m, rfl⟩ := Int.eq_ofNat_of_zero_le hv.1
        obtain ⟨adT, rfl, et⟩ := hrT.at_ m (by omega)
        have ety : typeG T (m : Int) = T.getD m ByteArray.empty := by unfold typeG; rw [if_pos hv]; simp
        have Hst := Aside0.mk (typL_more Hin.out.2.1 Hin.out.2.2 hv)
        obtain ⟨y, hy⟩ : ∃ y, T.getD m ByteArray.empty = y := ⟨_, rfl⟩
        rw [ety, hy] at Hst
        rw [hy] at et
        obtain ⟨nT, hnT⟩ : ∃ n, T.length = n := ⟨_, rfl⟩
        have hd := decide_eq_true hv
        rw [hd] at HTh
        rw [hnT] at t0 hv
        have m0 : 0 ≤ (m : Int) := by omega
        have m1 : (m : Int) < (nT : Int) := by omega
        clear hv hd ety hy hnT hrT hG
        replace m0 := eq_true m0
        replace m1 := eq_true m1
        have hal : Below wr.heap.size wr (wr.alloc (.cells #[.string y] 9)) := below_alloc (Below.refl _ _) _
        have HO3 := Aside0.mk (HO.out.below hal)
        have HRd : Aside0 (RdS (wr.alloc (.cells #[.string y] 9)) (.slice (some ⟨wr.heap.size, 0, none⟩) 1 1) [y]) := ⟨RdS.lit (l := [y]) (heap_alloc_new _ _) rfl (by simp)⟩
        have HB3 := Aside0.mk (bel_trans HB.out hal)
        clear hal
        go_wp2_with fail
        refine HTh.out.mono ?_
        rintro e w' ⟨rfl, rfl⟩
        go_wp2_with (first | (at_builtin; refine appS (G := G) rfl (.tmp 17) (.tmp 25) rfl _ _ (typL T (os.take i)) [y] rfl rfl HO3.out HRd.out (by have := Hlen.out; simp; omega) ?_; intro v1 w3 ho1 hc1) | go_in)
        have HB2 := Aside0.mk (chg_own HB3.out HGb.out hc1)
        have HG2 := Aside0.mk (ext_own (w2 := w3) HB3.out HGb.out)
        have HO2 := Aside0.mk ho1
        clear ho1 hc1
        go_roundw
        case rel => exact ⟨i + 1, _, by go_num, Hin.out.1, ⟨by rw [Hst.out]; exact HO2.out⟩, HG2, HB2⟩
        case measure => have := Hin.out.1; simp [intOf]; omega
      · have Hst := Aside0.mk (typL_skip Hin.out.2.1 Hin.out.2.2 hv)
        have hd := decide_eq_false hv
        rw [hd] at HTh
        clear hv hd hrT hG
        go_wp2_with fail
        refine HTh.out.mono ?_
        rintro e w' ⟨rfl, rfl⟩
        go_wp2_with fail
        go_roundw
        case rel => exact ⟨i + 1, G, by go_num, Hin.out.1, ⟨by rw [Hst.out]; exact HO.out⟩, HGb, HB⟩
        case measure => have := Hin.out.1; simp [intOf]; omega
    · have hnb : decide ((i : Int) < (n : Int)) = false := decide_eq_false (by omega)
      have hnc : decide (i < n) = false := decide_eq_false hin
      obtain rfl : i = n := by omega
      have ht : os.take i = os := List.take_of_length_le (by rw [Hn.out]; exact Nat.le_refl _)
      rw [ht] at HO
      have Hlen := Aside0.mk (Nat.le_trans (typL_len T os) Hl.out.2)
      clear hin hi ht
      go_wp2_with fail
      refine (sortS_own _ _ G _ HO.out (by have := Hlen.out; omega)).mono ?_
      rintro e w2 ⟨rfl, r1, r2⟩
      have HO2 := Aside0.mk r1
      have HB2 := Aside0.mk (chg_own HB.out HGb.out r2)
      clear r1 r2
      go_wp2_with fail
      refine (compactS_own _ _ G _ HO2.out).mono ?_
      rintro e w3 ⟨v3, rfl, r1, r2⟩
      have HO3 := Aside0.mk r1
      have HB3 := Aside0.mk (chg_own HB2.out HGb.out r2)
      clear r1 r2
      go_wp2_with fail
      go_ret
      exact ⟨_, _, rfl, HO3.out.toV, TypS.of_sort T os, HB3.out⟩
set_option maxHeartbeats 4000000 in
set_option maxRecDepth 100000 in
theorem texts_same (u v : Value) (S : List ByteArray) (w : World) (hu : RdS w u S) (hv : RdS w v S) (hl : S.length ≤ 1000000) :
    Calls Tryz.prog 22 #[u, v] w fun e w' => e = .returned (.bool true) ∧ Below w.heap.size w w' := by
  obtain ⟨A, c, rfl, hc, hr⟩ := hu
  obtain ⟨A2, c2, rfl, hc2, hr2⟩ := hv
  have HR := Aside0.mk (And.intro hr hr2)
  have Hl := Aside0.mk hl
  obtain ⟨n, hn⟩ : ∃ n, S.length = n := ⟨_, rfl⟩
  have Hn := Aside0.mk hn
  rw [hn]
  clear hr hr2 hl hc hc2 hn
  go_enter Tryz.func22, Tryz.ntmps22
  go_wp2_with fail
  go_loopw [5] (fun I wr => ∃ i : Nat, I = .int .i64 (i : Int) ∧ i ≤ n ∧ Aside0 (Below w.heap.size w wr)) (fun I _ => n - (intOf I).toNat)
  case atStart => exact ⟨0, rfl, Nat.zero_le _, ⟨Below.refl _ _⟩⟩
  case round =>
    obtain ⟨i, rfl, hi, HB⟩ := hrel
    by_cases hin : i < n
    · have hnb : decide ((i : Int) < (n : Int)) = true := decide_eq_true (by omega)
      have hnc : decide (i < n) = true := decide_eq_true hin
      have hil : i < S.length := by rw [Hn.out]; exact hin
      obtain ⟨ad, rfl, e1⟩ := (HR.out.1.below HB.out).at_ i hil
      obtain ⟨ad2, rfl, e2⟩ := (HR.out.2.below HB.out).at_ i hil
      obtain ⟨x, hxx⟩ : ∃ x, S.getD i ByteArray.empty = x := ⟨_, rfl⟩
      rw [hxx] at e1 e2
      have i0 : 0 ≤ (i : Int) := by omega
      have i1 : (i : Int) < (n : Int) := by omega
      have i2 : (i : Int) ≤ 1000000 := by have := Hl.out; have := Hn.out; omega
      have Hin := Aside0.mk hin
      clear hin hi hil hxx
      replace i0 := eq_true i0
      replace i1 := eq_true i1
      go_wp2_with fail
      go_region
      go_wp2_with fail
      go_roundw
      case rel => exact ⟨i + 1, by go_num, Hin.out, ⟨below_drew HB.out⟩⟩
      case measure => have := Hin.out; simp [intOf]; omega
    · have hnb : decide ((i : Int) < (n : Int)) = false := decide_eq_false (by omega)
      have hnc : decide (i < n) = false := decide_eq_false hin
      obtain rfl : i = n := by omega
      clear hin hi
      go_wp2_with fail
      go_ret
      exact ⟨rfl, HB.out⟩
end Go.Proofs.YtkpadjhdneiniaaGreatDoor.Tx
end

/- Td: The document's Types. -/
section
namespace Go.Proofs.YtkpadjhdneiniaaGreatDoor.Tx
set_option linter.unusedVariables false
open Go.RowKit Go.Proofs.YtkpadjhdneiniaaGreatDoorW.PrintWords Go.Proofs.YtkpadjhdneiniaaGreatDoorW.PrintLast Go.Proofs.YtkpadjhdneiniaaGreatDoorW.PrintMore
open Go.Proofs.YtkpadjhdneiniaaGreatDoor.Base Go.Proofs.YtkpadjhdneiniaaGreatDoor.Map Go.Proofs.YtkpadjhdneiniaaGreatDoor.Sl Go.Proofs.YtkpadjhdneiniaaGreatDoor.Ow Go.Proofs.YtkpadjhdneiniaaGreatDoor.Se Go.Proofs.YtkpadjhdneiniaaGreatDoor.Gr

/-! plain -/
/-- how many at the head are below t -/
def bS (S : List ByteArray) (t : ByteArray) : Nat := (S.takeWhile fun s => decide (toL s < toL t)).length
theorem bS_le (S : List ByteArray) (t : ByteArray) : bS S t ≤ S.length := by
  unfold bS
  induction S with
  | nil => simp
  | cons a S ih =>
    rw [List.takeWhile_cons]
    split
    · simp only [List.length_cons]; omega
    · simp
theorem bS_lt : ∀ (S : List ByteArray) (t : ByteArray) (j : Nat), j < S.length → (j < bS S t → toL (S.getD j ByteArray.empty) < toL t) ∧ (j = bS S t → ¬ toL (S.getD j ByteArray.empty) < toL t)
  | [], t, j, h => by simp at h
  | a :: S, t, j, h => by
    unfold bS
    rw [List.takeWhile_cons]
    by_cases ha : toL a < toL t
    · simp only [ha, decide_true, if_true, List.length_cons]
      cases j with
      | zero => exact ⟨fun _ => by simpa using ha, fun e => by omega⟩
      | succ j =>
        have ih := bS_lt S t j (by simp at h; omega)
        simp only [List.getD_cons_succ]
        exact ⟨fun e => ih.1 (by unfold bS; omega), fun e => ih.2 (by unfold bS; omega)⟩
    · simp only [ha, decide_false, Bool.false_eq_true, if_false, List.length_nil]
      exact ⟨fun e => by omega, fun e => by subst e; simpa using ha⟩
theorem take_lt (S : List ByteArray) (t : ByteArray) : ∀ x ∈ S.take (bS S t), toL x < toL t := by
  intro x hx
  obtain ⟨j, hj, rfl⟩ := List.getElem_of_mem hx
  have hb := bS_le S t
  rw [List.length_take] at hj
  have := (bS_lt S t j (by omega)).1 (by omega)
  rw [List.getD_eq_getElem?_getD, List.getElem?_eq_getElem (by omega)] at this
  rw [List.getElem_take]; exact this
/-- put t in -/
def putS (S : List ByteArray) (t : ByteArray) : List ByteArray := S.take (bS S t) ++ [t] ++ S.drop (bS S t)
theorem putS_mem {S : List ByteArray} {t x : ByteArray} : x ∈ putS S t ↔ x ∈ S ∨ x = t := by
  unfold putS
  conv => rhs; rw [← List.take_append_drop (bS S t) S]
  simp only [List.mem_append, List.mem_singleton]
  constructor
  · rintro ((h | h) | h)
    · exact .inl (.inl h)
    · exact .inr h
    · exact .inl (.inr h)
  · rintro ((h | h) | h)
    · exact .inl (.inl h)
    · exact .inr h
    · exact .inl (.inr h)
theorem putS_srt {S : List ByteArray} {t : ByteArray} (hs : (S.map toL).Pairwise (· < ·)) (hn : ∀ h : bS S t < S.length, S[bS S t] ≠ t) : ((putS S t).map toL).Pairwise (· < ·) := by
  have hp : S.Pairwise fun a b => toL a < toL b := List.pairwise_map.1 hs
  refine List.pairwise_map.2 ?_
  have hd : ∀ x ∈ S.drop (bS S t), toL t < toL x := by
    intro x hx
    by_cases hb : bS S t < S.length
    · rw [List.drop_eq_getElem_cons hb] at hx
      have h1 : toL t < toL S[bS S t] := by
        have h2 := (bS_lt S t _ hb).2 rfl
        rw [List.getD_eq_getElem?_getD, List.getElem?_eq_getElem hb] at h2
        rcases List.le_iff_lt_or_eq.1 (List.not_lt.1 h2) with h3 | h3
        · exact h3
        · exact absurd (toL_inj h3).symm (hn hb)
      rcases List.mem_cons.1 hx with rfl | hx
      · exact h1
      · have hpd : (S.drop (bS S t)).Pairwise fun a b => toL a < toL b := List.Pairwise.drop hp
        rw [List.drop_eq_getElem_cons hb] at hpd
        exact List.lt_trans h1 ((List.pairwise_cons.1 hpd).1 x hx)
    · rw [List.drop_eq_nil_of_le (by omega)] at hx; cases hx
  unfold putS
  rw [List.append_assoc]
  refine List.pairwise_append.2 ⟨List.Pairwise.take hp, ?_, fun a ha b hb => ?_⟩
  · exact List.pairwise_cons.2 ⟨hd, List.Pairwise.drop hp⟩
  · rcases List.mem_cons.1 hb with rfl | hb
    · exact take_lt S _ a ha
    · exact List.lt_trans (take_lt S t a ha) (hd b hb)
theorem TypS.nil (T : List ByteArray) : TypS T [] [] := ⟨List.Pairwise.nil, fun x => by simp [typL], Nat.le_refl _⟩
theorem putS_len (S : List ByteArray) (t : ByteArray) : (putS S t).length = S.length + 1 := by
  have hb := bS_le S t
  unfold putS
  simp only [List.length_append, List.length_take, List.length_drop, List.length_singleton]
  omega
section
variable {T : List ByteArray} {os : List Int} {S : List ByteArray} {i : Nat} {o : Int}
theorem take_len1 (hi : i < os.length) : (os.take (i + 1)).length = (os.take i).length + 1 := by rw [List.length_take, List.length_take]; omega
theorem TypS.skip (h : TypS T (os.take i) S) (hi : i < os.length) (ho : os.getD i 0 = o) (hv : ¬ (0 ≤ o ∧ o < T.length)) : TypS T (os.take (i + 1)) S :=
  ⟨h.srt, fun x => by rw [typL_skip hi ho hv]; exact h.mem x, by rw [take_len1 hi]; exact Nat.le_succ_of_le h.len⟩
theorem TypS.old (h : TypS T (os.take i) S) (hi : i < os.length) (ho : os.getD i 0 = o) (hv : 0 ≤ o ∧ o < T.length) (hb : bS S (typeG T o) < S.length) (he : S[bS S (typeG T o)] = typeG T o) : TypS T (os.take (i + 1)) S :=
  ⟨h.srt, fun x => by
    rw [typL_more hi ho hv, List.mem_append, List.mem_singleton, ← h.mem x]
    exact ⟨.inl, fun h => h.elim id (fun e => e ▸ he ▸ List.getElem_mem hb)⟩, by rw [take_len1 hi]; exact Nat.le_succ_of_le h.len⟩
theorem TypS.more (h : TypS T (os.take i) S) (hi : i < os.length) (ho : os.getD i 0 = o) (hv : 0 ≤ o ∧ o < T.length) (hn : ∀ h : bS S (typeG T o) < S.length, S[bS S (typeG T o)] ≠ typeG T o) : TypS T (os.take (i + 1)) (putS S (typeG T o)) :=
  ⟨putS_srt h.srt hn, fun x => by rw [typL_more hi ho hv, List.mem_append, List.mem_singleton, putS_mem, h.mem x], by
    rw [take_len1 hi, putS_len]
    exact Nat.succ_le_succ h.len⟩
theorem TypS.old2 (h : TypS T (os.take i) S) (hi : i < os.length) (ho : os.getD i 0 = o) (hv : 0 ≤ o ∧ o < T.length) {t : ByteArray} (ht : typeG T o = t) {b : Nat} (hb : bS S t = b) : b < S.length → S.getD b ByteArray.empty = t → TypS T (os.take (i + 1)) S := fun h1 h2 => by
  subst ht; subst hb
  rw [List.getD_eq_getElem?_getD, List.getElem?_eq_getElem h1] at h2
  exact h.old hi ho hv h1 h2
theorem TypS.more2 (h : TypS T (os.take i) S) (hi : i < os.length) (ho : os.getD i 0 = o) (hv : 0 ≤ o ∧ o < T.length) {t : ByteArray} (ht : typeG T o = t) {b : Nat} (hb : bS S t = b) : (b < S.length → S.getD b ByteArray.empty ≠ t) → TypS T (os.take (i + 1)) (S.take b ++ [t] ++ S.drop b) := fun h2 => by
  subst ht; subst hb
  exact h.more hi ho hv (fun h1 e => h2 h1 (by rw [List.getD_eq_getElem?_getD, List.getElem?_eq_getElem h1]; exact e))
end

theorem less_eq : ∀ (x y : List UInt8), Op.bytesLess x y = decide (x < y)
  | [], [] => by simp [Op.bytesLess]
  | _ :: _, [] => by simp [Op.bytesLess]
  | [], _ :: _ => by simp [Op.bytesLess]
  | a :: x, b :: y => by
    have ih := less_eq x y
    unfold Op.bytesLess
    rw [ih, Bool.eq_iff_iff]
    simp only [Bool.or_eq_true, Bool.and_eq_true, decide_eq_true_eq, beq_iff_eq, List.cons_lt_cons_iff]
theorem less_true {s t : ByteArray} (h : toL s < toL t) : Op.bytesLess s.toList t.toList = true := by
  rw [less_eq, ByteArray.toList_eq, ByteArray.toList_eq]; exact decide_eq_true h
theorem less_false {s t : ByteArray} (h : ¬ toL s < toL t) : Op.bytesLess s.toList t.toList = false := by
  rw [less_eq, ByteArray.toList_eq, ByteArray.toList_eq]; exact decide_eq_false h
theorem eq_true' {s t : ByteArray} (h : s = t) : (s.toList == t.toList) = true := by subst h; simp
theorem eq_false' {s t : ByteArray} (h : s ≠ t) : (s.toList == t.toList) = false := by
  rw [ByteArray.toList_eq, ByteArray.toList_eq]
  simp only [beq_eq_false_iff_ne, ne_eq]
  exact fun e => h (toL_inj e)

/-! the walk -/
set_option maxHeartbeats 16000000 in
set_option maxRecDepth 100000 in
theorem rtypes_any (A A2 : Option Addr) (c n2 c2 : Nat) (T : List ByteArray) (u : Value) (os : List Int) (w : World) (hT : RdT w A T) (hu : RdV w u os) (hl : T.length ≤ 1000000 ∧ os.length ≤ 1000000) :
    Calls Tryz.prog 24 #[.agg #[.slice A T.length c, .slice A2 n2 c2], u] w fun e w' => ∃ v S, e = .returned v ∧ RdS w' v S ∧ TypS T os S ∧ Below w.heap.size w w' := by
  have hal : Below w.heap.size w (w.alloc (.cells #[.slice A T.length c, .slice A2 n2 c2] 25)) := below_alloc (Below.refl _ _) _
  have Hb : Aside0 ((w.alloc (.cells #[.slice A T.length c, .slice A2 n2 c2] 25)).heap[w.heap.size]? = some (.cells #[.slice A T.length c, .slice A2 n2 c2] 25 (0, 0))) := ⟨heap_alloc_new _ _⟩
  have HT := Aside0.mk (hT.below hal)
  have HU := Aside0.mk (hu.below hal)
  have Hl := Aside0.mk hl
  have Hal := Aside0.mk hal
  obtain ⟨A3, c3, rfl, hc3, hr3⟩ := hu
  obtain ⟨nT, hnT⟩ : ∃ n, T.length = n := ⟨_, rfl⟩
  obtain ⟨n3, hn3⟩ : ∃ n, os.length = n := ⟨_, rfl⟩
  have Hn := Aside0.mk (And.intro hnT hn3)
  obtain ⟨W, hW⟩ : ∃ W, w.alloc (.cells #[.slice A T.length c, .slice A2 n2 c2] 25) = W := ⟨_, rfl⟩
  rw [hW] at Hb HT HU Hal
  rw [hnT] at hW Hb ⊢
  rw [hn3]
  clear hal hT hl hc3 hr3 hnT hn3
  go_enter Tryz.func24, Tryz.ntmps24
  go_wp2_with fail
  obtain ⟨g, hg⟩ : ∃ g, w.heap.size = g := ⟨_, rfl⟩
  have Hg := Aside0.mk hg
  rw [hg] at Hb
  simp only [hg]
  clear hW hg
  go_loopw [5, 6] (fun V I wr => ∃ (i : Nat) (S : List ByteArray), I = .int .i64 (i : Int) ∧ i ≤ n3 ∧ Aside0 (RdS wr V S) ∧ Aside0 (TypS T (os.take i) S) ∧ Aside0 (Below W.heap.size W wr)) (fun _ I _ => n3 - (intOf I).toNat)
  case atStart => exact ⟨0, [], rfl, Nat.zero_le _, ⟨RdS.nil W⟩, ⟨by rw [List.take_zero]; exact TypS.nil T⟩, ⟨Below.refl _ _⟩⟩
  case round =>
    obtain ⟨i, S, rfl, hi, HV, HS, HB⟩ := hrel
    have hb := Ow.blk_below Hb.out HB.out
    have g0 : wr.cell? ⟨g, 0, none⟩ = some (.slice A nT c) := Rf.blk_cellD hb 0 _ rfl
    have Hbr := Aside0.mk hb
    clear hb
    by_cases hin : i < n3
    · have hnb : decide ((i : Int) < (n3 : Int)) = true := decide_eq_true (by omega)
      have hnc : decide (i < n3) = true := decide_eq_true hin
      have hil : i < os.length := by rw [Hn.out.2]; exact hin
      obtain ⟨A4, c4, e4, _, hr4⟩ := HU.out.below HB.out
      injection e4 with e4a e4b e4c
      obtain ⟨ad, had, hx⟩ := hr4.at_ (i : Int) (by omega) (by omega)
      have had2 := e4a.trans had
      clear e4a e4b e4c hr4 had
      subst had2
      have hx : wr.cell? (ad.add i) = some (.int .i64 (os.getD i 0)) := by simpa [rd] using hx
      obtain ⟨x, hxx⟩ : ∃ x, os.getD i 0 = x := ⟨_, rfl⟩
      rw [hxx] at hx
      have i0 : 0 ≤ (i : Int) := by omega
      have i1 : (i : Int) < (n3 : Int) := by omega
      have i2 : (i : Int) ≤ 1000000 := by have := Hl.out; have := Hn.out.2; omega
      have Hin := Aside0.mk (And.intro hin (And.intro hil hxx))
      clear hin hi hil hxx
      replace i0 := eq_true i0
      replace i1 := eq_true i1
      by_cases hv : 0 ≤ x ∧ x < (T.length : Int)
      · obtain ⟨m, rfl⟩ := Int.eq_ofNat_of_zero_le hv.1
        obtain ⟨adT, rfl, et⟩ := (HT.out.below HB.out).at_ m (by omega)
        have ety : typeG T (m : Int) = T.getD m ByteArray.empty := by unfold typeG; rw [if_pos hv]; simp
        obtain ⟨t, ht⟩ : ∃ t, T.getD m ByteArray.empty = t := ⟨_, rfl⟩
        obtain ⟨b, hb⟩ : ∃ b, bS S t = b := ⟨_, rfl⟩
        have Hol := Aside0.mk (HS.out.old2 Hin.out.2.1 Hin.out.2.2 hv (ety.trans ht) hb)
        have Hmo := Aside0.mk (HS.out.more2 Hin.out.2.1 Hin.out.2.2 hv (ety.trans ht) hb)
        have Hbb := Aside0.mk hb
        clear hb
        rw [ht] at et
        rw [Hn.out.1] at hv
        have m0 : 0 ≤ (m : Int) := by omega
        have m1 : (m : Int) < (nT : Int) := by omega
        have q0 : decide ((m : Int) < 0) = false := decide_eq_false (by omega)
        have q1 : decide ((m : Int) ≥ (nT : Int)) = false := decide_eq_false (by omega)
        have q2 : ¬ (m : Int) < 0 := by omega
        have q3 : ¬ (nT : Int) ≤ (m : Int) := by omega
        clear hv ety ht
        replace m0 := eq_true m0
        replace m1 := eq_true m1
        go_wp2_with fail
        go_region
        go_wp2_with fail
        go_region
        obtain ⟨AS, cS, rfl, hcS, hrS⟩ := HV.out
        have hdr : Below wr.heap.size wr wr.drew.drew := below_drew (below_drew (Below.refl _ _))
        have HrS := Aside0.mk (hrS.below hdr)
        have HBd := Aside0.mk (bel_trans HB.out hdr)
        have hb := Hbb.out
        have hbl := bS_le S t
        have hblt := bS_lt S t
        have HcS := Aside0.mk (And.intro hcS (And.intro (cutS_from AS cS S (b : Int) (by omega) (by rw [← hb]; omega) hcS) (cutS_to AS cS S (b : Int) (by omega) (by rw [← hb]; omega) hcS)))
        have HSl := Aside0.mk (show S.length ≤ 1000000 by have h1 := HS.out.len; have h2 := List.length_take_le i os; have := Hl.out.2; omega)
        rw [hb] at hbl hblt
        obtain ⟨mS, hmS⟩ : ∃ m, S.length = m := ⟨_, rfl⟩
        have HmS := Aside0.mk (And.intro hmS (And.intro hbl hblt))
        rw [hmS]
        clear hrS hcS hb hbl hblt hmS HV HS g0 et hx
        generalize wr.drew.drew = wx at *
        clear hdr
        go_wp2_with fail
        go_loopw [8] (fun K wz => ∃ k : Nat, K = .int .i64 (k : Int) ∧ k ≤ b ∧ Aside0 (Below wx.heap.size wx wz)) (fun K _ => b - (intOf K).toNat)
        case atStart => exact ⟨0, rfl, Nat.zero_le _, ⟨Below.refl _ _⟩⟩
        case round =>
          obtain ⟨k, rfl, hk, HBk⟩ := hrel
          by_cases hkm : k < mS
          · have hnb : decide ((k : Int) < (mS : Int)) = true := decide_eq_true (by omega)
            have hnc : decide (k < mS) = true := decide_eq_true hkm
            have hkl : k < S.length := by rw [HmS.out.1]; exact hkm
            obtain ⟨adS, rfl, es⟩ := (HrS.out.below HBk.out).at_ k hkl
            have hlt := HmS.out.2.2 k hkl
            obtain ⟨s, hss⟩ : ∃ s, S.getD k ByteArray.empty = s := ⟨_, rfl⟩
            rw [hss] at es hlt
            have k0 : 0 ≤ (k : Int) := by omega
            have k1 : (k : Int) < (mS : Int) := by omega
            have k2 : (k : Int) ≤ 1000000 := by have := HSl.out; have := HmS.out.1; omega
            replace k0 := eq_true k0
            replace k1 := eq_true k1
            by_cases hkb : k < b
            · have h1 := less_true (hlt.1 hkb)
              have Hkb := Aside0.mk hkb
              clear hk hkm hkl hlt hss hkb
              go_wp2_with fail
              go_roundw
              case rel => exact ⟨k + 1, by go_num, Hkb.out, HBk⟩
              case measure => have := Hkb.out; simp [intOf]; omega
            · obtain rfl : k = b := by omega
              have h1 := less_false (hlt.2 rfl)
              by_cases hst : s = t
              · have h2 := eq_true' hst
                have Hol2 := Aside0.mk (Hol.out hkl (hss.trans hst))
                have HVr := Aside0.mk (show RdS wr (.slice (some adS) S.length cS) S from ⟨_, _, rfl, HcS.out.1, HrS.out.below HBk.out⟩)
                rw [HmS.out.1] at HVr
                clear hk hkm hkl hlt hss hkb hst
                go_wp2_with fail
                go_roundw
                case rel => exact ⟨i + 1, S, by go_num, Hin.out.1, HVr, Hol2, ⟨bel_trans HBd.out HBk.out⟩⟩
                case measure => have := Hin.out.1; simp [intOf]; omega
              · have h2 := eq_false' hst
                have HNE := Aside0.mk (fun (_ : k < S.length) (e : S.getD k ByteArray.empty = t) => hst (hss.symm.trans e))
                clear hk hkm hkl hlt hss hkb hst
                have HE := Aside0.mk (fun (w4 : World) (v : Value) (G : Nat → Prop) (h : OwS w4 G v (S.take k ++ [t] ++ S.drop k)) => h.toV)
                obtain ⟨hc, ⟨A', c', cutF, cutFR⟩, ⟨cutT, cutTR⟩⟩ := HcS.out
                rw [Int.toNat_natCast] at cutF cutFR cutT cutTR
                obtain ⟨mt, hmt⟩ : ∃ m, (S.take k).length = m := ⟨_, rfl⟩
                obtain ⟨md, hmd⟩ : ∃ m, (S.drop k).length = m := ⟨_, rfl⟩
                rw [hmt] at cutT cutTR
                rw [hmd] at cutF cutFR
                rw [HmS.out.1] at cutT cutF
                have Hld := Aside0.mk (show (S.take k).length + (S.drop k).length ≤ 1000000 by have := HSl.out; rw [List.length_take, List.length_drop]; omega)
                have HcR := Aside0.mk (And.intro cutFR cutTR)
                clear hc cutFR cutTR hmt hmd
                have b0 : 0 ≤ (k : Int) := by omega
                have b1 : (k : Int) ≤ (mS : Int) := by have := HmS.out.2.1; have := HmS.out.1; omega
                replace b0 := eq_true b0
                replace b1 := eq_true b1
                have HrT := Aside0.mk (HcR.out.2 wr (HrS.out.below HBk.out))
                have HO0 := Aside0.mk (OwS.nil wr (fun _ => False))
                have HWr := Aside0.mk (bel_trans HBd.out HBk.out)
                go_wp2_with (first
                  | (at_builtin; refine appS (G := fun _ => False) rfl (.tmp 65) (.tmp 68) rfl _ _ [] (S.take k) rfl rfl HO0.out HrT.out (by have := Hld.out; simp at this ⊢; omega) ?_; intro v1 wa ho1 hc1; have HBa := Aside0.mk (chg_own (w := W) HWr.out (G := fun _ => False) (fun k h => h.elim) hc1); have HBa0 := Aside0.mk (chg_own (w := wr) (Below.refl _ _) (G := fun _ => False) (fun k h => h.elim) hc1); have HO1 := Aside0.mk (ho1.below (below_alloc (Below.refl wa.heap.size wa) (.cells #[.string t] 9))); have Ht1 : Aside0 (RdS (wa.alloc (.cells #[.string t] 9)) (.slice (some ⟨wa.heap.size, 0, none⟩) 1 1) [t]) := ⟨RdS.lit (l := [t]) (heap_alloc_new _ _) rfl (by simp)⟩; have HG1 := Aside0.mk (ext_own (w := wr) (w2 := wa) (Below.refl _ _) (G := fun _ => False) (fun k h => h.elim)); clear ho1 hc1)
                  | (at_builtin; refine appS rfl (.tmp 70) (.tmp 72) rfl _ _ ([] ++ S.take k) [t] rfl rfl HO1.out Ht1.out (by have := Hld.out; simp at this ⊢; omega) ?_; intro v2 wb ho2 hc2; have HBb0 := Aside0.mk (chg_own (w := wr) (bel_trans HBa0.out (below_alloc (Below.refl wa.heap.size wa) (.cells #[.string t] 9))) HG1.out hc2); have HG2 := Aside0.mk (ext_own (w := wr) (w2 := wb) (bel_trans HBa0.out (below_alloc (Below.refl wa.heap.size wa) (.cells #[.string t] 9))) HG1.out); have HO2 := Aside0.mk ho2; have HrD := Aside0.mk (HcR.out.1 wb (HrS.out.below (bel_trans HBk.out HBb0.out))); clear ho2 hc2)
                  | (at_builtin; refine appS rfl (.tmp 74) (.tmp 77) rfl _ _ ([] ++ S.take k ++ [t]) (S.drop k) rfl rfl HO2.out HrD.out (by have := Hld.out; simp at this ⊢; omega) ?_; intro v3 wc ho3 hc3; have HBc0 := Aside0.mk (chg_own (w := wr) HBb0.out HG2.out hc3); have HV3 := Aside0.mk (HE.out wc v3 _ ho3); clear ho3 hc3)
                  | go_in)
                go_roundw
                case rel => exact ⟨i + 1, _, by go_num, Hin.out.1, HV3, ⟨Hmo.out HNE.out⟩, ⟨bel_trans HWr.out HBc0.out⟩⟩
                case measure => have := Hin.out.1; simp [intOf]; omega
          · have hnb : decide ((k : Int) < (mS : Int)) = false := decide_eq_false (by omega)
            have hnc : decide (k < mS) = false := decide_eq_false hkm
            have hkb2 : k = b := by have := HmS.out.2.1; have := HmS.out.1; omega
            subst hkb2
            have HNE := Aside0.mk (fun (h : k < S.length) (_ : S.getD k ByteArray.empty = t) => hkm (by rw [← HmS.out.1]; exact h))
            clear hk hkm
            have HE := Aside0.mk (fun (w4 : World) (v : Value) (G : Nat → Prop) (h : OwS w4 G v (S.take k ++ [t] ++ S.drop k)) => h.toV)
            obtain ⟨hc, ⟨A', c', cutF, cutFR⟩, ⟨cutT, cutTR⟩⟩ := HcS.out
            rw [Int.toNat_natCast] at cutF cutFR cutT cutTR
            obtain ⟨mt, hmt⟩ : ∃ m, (S.take k).length = m := ⟨_, rfl⟩
            obtain ⟨md, hmd⟩ : ∃ m, (S.drop k).length = m := ⟨_, rfl⟩
            rw [hmt] at cutT cutTR
            rw [hmd] at cutF cutFR
            rw [HmS.out.1] at cutT cutF
            have Hld := Aside0.mk (show (S.take k).length + (S.drop k).length ≤ 1000000 by have := HSl.out; rw [List.length_take, List.length_drop]; omega)
            have HcR := Aside0.mk (And.intro cutFR cutTR)
            clear hc cutFR cutTR hmt hmd
            have b0 : 0 ≤ (k : Int) := by omega
            have b1 : (k : Int) ≤ (mS : Int) := by have := HmS.out.2.1; have := HmS.out.1; omega
            replace b0 := eq_true b0
            replace b1 := eq_true b1
            have HrT := Aside0.mk (HcR.out.2 wr (HrS.out.below HBk.out))
            have HO0 := Aside0.mk (OwS.nil wr (fun _ => False))
            have HWr := Aside0.mk (bel_trans HBd.out HBk.out)
            go_wp2_with (first
              | (at_builtin; refine appS (G := fun _ => False) rfl (.tmp 65) (.tmp 68) rfl _ _ [] (S.take k) rfl rfl HO0.out HrT.out (by have := Hld.out; simp at this ⊢; omega) ?_; intro v1 wa ho1 hc1; have HBa := Aside0.mk (chg_own (w := W) HWr.out (G := fun _ => False) (fun k h => h.elim) hc1); have HBa0 := Aside0.mk (chg_own (w := wr) (Below.refl _ _) (G := fun _ => False) (fun k h => h.elim) hc1); have HO1 := Aside0.mk (ho1.below (below_alloc (Below.refl wa.heap.size wa) (.cells #[.string t] 9))); have Ht1 : Aside0 (RdS (wa.alloc (.cells #[.string t] 9)) (.slice (some ⟨wa.heap.size, 0, none⟩) 1 1) [t]) := ⟨RdS.lit (l := [t]) (heap_alloc_new _ _) rfl (by simp)⟩; have HG1 := Aside0.mk (ext_own (w := wr) (w2 := wa) (Below.refl _ _) (G := fun _ => False) (fun k h => h.elim)); clear ho1 hc1)
              | (at_builtin; refine appS rfl (.tmp 70) (.tmp 72) rfl _ _ ([] ++ S.take k) [t] rfl rfl HO1.out Ht1.out (by have := Hld.out; simp at this ⊢; omega) ?_; intro v2 wb ho2 hc2; have HBb0 := Aside0.mk (chg_own (w := wr) (bel_trans HBa0.out (below_alloc (Below.refl wa.heap.size wa) (.cells #[.string t] 9))) HG1.out hc2); have HG2 := Aside0.mk (ext_own (w := wr) (w2 := wb) (bel_trans HBa0.out (below_alloc (Below.refl wa.heap.size wa) (.cells #[.string t] 9))) HG1.out); have HO2 := Aside0.mk ho2; have HrD := Aside0.mk (HcR.out.1 wb (HrS.out.below (bel_trans HBk.out HBb0.out))); clear ho2 hc2)
              | (at_builtin; refine appS rfl (.tmp 74) (.tmp 77) rfl _ _ ([] ++ S.take k ++ [t]) (S.drop k) rfl rfl HO2.out HrD.out (by have := Hld.out; simp at this ⊢; omega) ?_; intro v3 wc ho3 hc3; have HBc0 := Aside0.mk (chg_own (w := wr) HBb0.out HG2.out hc3); have HV3 := Aside0.mk (HE.out wc v3 _ ho3); clear ho3 hc3)
              | go_in)
            go_roundw
            case rel => exact ⟨i + 1, _, by go_num, Hin.out.1, HV3, ⟨Hmo.out HNE.out⟩, ⟨bel_trans HWr.out HBc0.out⟩⟩
            case measure => have := Hin.out.1; simp [intOf]; omega
      · have HS2 := Aside0.mk (HS.out.skip Hin.out.2.1 Hin.out.2.2 hv)
        rw [Hn.out.1] at hv
        have hor : x < 0 ∨ (0 ≤ x ∧ (nT : Int) ≤ x) := by omega
        clear hv
        rcases hor with x0 | ⟨x0, x1⟩
        · have q0 : decide (x < 0) = true := decide_eq_true x0
          go_wp2_with fail
          go_region
          go_wp2_with fail
          go_roundw
          case rel => exact ⟨i + 1, _, by go_num, Hin.out.1, ⟨HV.out.below (below_drew (Below.refl _ _))⟩, HS2, ⟨below_drew HB.out⟩⟩
          case measure => have := Hin.out.1; simp [intOf]; omega
        · have q0 : decide (x < 0) = false := decide_eq_false (by omega)
          have q1 : decide (x ≥ (nT : Int)) = true := decide_eq_true (by omega)
          have q2 : ¬ x < 0 := by omega
          go_wp2_with fail
          go_region
          go_wp2_with fail
          go_roundw
          case rel => exact ⟨i + 1, _, by go_num, Hin.out.1, ⟨HV.out.below (below_drew (Below.refl _ _))⟩, HS2, ⟨below_drew HB.out⟩⟩
          case measure => have := Hin.out.1; simp [intOf]; omega
    · have hnb : decide ((i : Int) < (n3 : Int)) = false := decide_eq_false (by omega)
      have hnc : decide (i < n3) = false := decide_eq_false hin
      obtain rfl : i = n3 := by omega
      have ht : os.take i = os := List.take_of_length_le (by rw [Hn.out.2]; exact Nat.le_refl _)
      rw [ht] at HS
      clear hin hi ht
      go_wp2_with fail
      go_ret
      exact ⟨_, _, rfl, HV.out, HS.out, bel_trans Hal.out HB.out⟩
end Go.Proofs.YtkpadjhdneiniaaGreatDoor.Tx
end
