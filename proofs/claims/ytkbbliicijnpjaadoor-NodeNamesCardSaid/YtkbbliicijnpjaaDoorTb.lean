/- texts: Join, a context's text. -/
import Derived.Test.YtkbbliicijnpjaaDoorTa
namespace Go.Proofs.YtkbbliicijnpjaaDoor.Tx
open Go.RowKit Go.Proofs.YtkbbliicijnpjaaDoorW.PrintWords Go.Proofs.YtkbbliicijnpjaaDoorW.PrintLast Go.Proofs.YtkbbliicijnpjaaDoorW.PrintMore
open Go.Proofs.YtkbbliicijnpjaaDoor.Base Go.Proofs.YtkbbliicijnpjaaDoor.Ca
set_option linter.unusedVariables false

theorem msr {S n : Nat} {v : Int} (h : v = ((n + 1 : Nat) : Int)) (hn : n < S) : S - (intOf (.int .i64 v)).toNat < S - (intOf (.int .i64 (n : Int))).toNat := by
  subst h
  simp only [intOf, Int.toNat_natCast]
  omega
def joinB (ts : List ByteArray) (sep : ByteArray) : ByteArray := ⟨(Lib.join (ts.map (·.data.toList)) sep.data.toList).toArray⟩
theorem OwS.form {w : World} {base : Nat} {v : Value} {l : List ByteArray} (h : OwS w base v l) : (v = .slice none 0 0 ∧ l = []) ∨ ∃ g c, v = .slice (some ⟨g, 0, none⟩) l.length c ∧ l.length ≤ c ∧ g < w.heap.size ∧ ∀ (j : Nat) x, l[j]? = some x → w.cell? ⟨g, 0 + j, none⟩ = some (.string x) := by
  obtain ⟨A, c, hv, hc, hC⟩ := Kd.R_reads h.out
  obtain ⟨_, inner, ho, _⟩ := h.out
  rcases ho.2 with ⟨h1, h2⟩ | ⟨g, cap, cur, h1, hg, hh, _⟩
  · rw [hv] at h1
    simp only [Value.slice.injEq] at h1
    exact .inl ⟨by rw [hv, h1.1, h1.2.1, h1.2.2], List.eq_nil_of_length_eq_zero h1.2.1⟩
  · rw [hv] at h1
    simp only [Value.slice.injEq] at h1
    obtain ⟨rfl, _, _⟩ := h1
    refine .inr ⟨g, c, hv, hc, blk_lt hh, fun j x hx => ?_⟩
    have hj : j < l.length := (List.getElem?_eq_some_iff.1 hx).1
    obtain ⟨ad, e, hcell⟩ := Kd.at_string hC (j : Int) (by omega) (by omega)
    cases e
    rw [Int.toNat_natCast] at hcell
    have e1 : rdOf ByteArray.empty l (j : Int) = x := by simp [rdOf, List.getD, hx]
    rw [e1] at hcell
    have e2 : (⟨g, 0, none⟩ : Addr).add j = ⟨g, 0 + j, none⟩ := by
      unfold Addr.add
      split
      · rename_i h7; subst h7; rfl
      · rfl
    rw [← e2]
    exact hcell
theorem lens_le (xs : List (List UInt8)) (m : Nat) (h : ∀ x ∈ xs, x.length ≤ m) : Lib.lens xs ≤ m * xs.length := by
  induction xs with
  | nil => simp [Lib.lens]
  | cons y r ih =>
    have h1 := ih (fun x hx => h x (List.mem_cons_of_mem _ hx))
    have h2 := h y List.mem_cons_self
    simp only [Lib.lens, List.map_cons, List.sum_cons, List.length_cons, Nat.mul_succ] at h1 ⊢
    omega
theorem join_len (ts : List ByteArray) (sep : ByteArray) (m : Nat) (h : ∀ x ∈ ts, x.size ≤ m) : (Lib.join (ts.map (·.data.toList)) sep.data.toList).length ≤ (m + sep.size) * ts.length := by
  cases ts with
  | nil => simp [Lib.join_nil]
  | cons y r =>
    have h1 := lens_le (r.map (·.data.toList)) m (fun x hx => by
      obtain ⟨z, hz, rfl⟩ := List.mem_map.1 hx
      rw [← Lib.size_eq]
      exact h z (List.mem_cons_of_mem _ hz))
    have h2 := h y List.mem_cons_self
    rw [List.map_cons, Lib.join_cons, List.length_append, Lib.joinTail_length, ← Lib.size_eq, ← Lib.size_eq]
    rw [List.length_map] at h1 ⊢
    rw [List.length_cons, Nat.add_mul, Nat.mul_succ, Nat.mul_succ]
    omega
theorem joinB_size (ts : List ByteArray) (sep : ByteArray) (m : Nat) (h : ∀ x ∈ ts, x.size ≤ m) : (joinB ts sep).size ≤ (m + sep.size) * ts.length := by
  have := join_len ts sep m h
  rw [Lib.size_eq]
  show (Lib.join (ts.map (·.data.toList)) sep.data.toList).toArray.toList.length ≤ _
  rw [List.toList_toArray]
  exact this
theorem join_any (v : Value) (ts : List ByteArray) (sep : ByteArray) (w : World) (base : Nat) (h : OwS w base v ts) (m : Nat) (hx : ∀ x ∈ ts, x.size ≤ m) (hm : m ≤ 100000) (hl : ts.length ≤ 1000) (hs : sep.size ≤ 10) :
    Calls Tryd.prog 49 #[v, .string sep] w fun e w' => e = .returned (.string (joinB ts sep)) ∧ Below w.heap.size w w' := by
  rcases h.form with ⟨rfl, rfl⟩ | ⟨g, c, rfl, hc, hg, hcell⟩
  · exact (Tryd.strings_Join_none none 0 sep w).mono fun e w' ⟨h1, h2⟩ => ⟨h1, by rw [h2]; exact Below.refl _ _⟩
  · have hj := join_len ts sep m hx
    have h3 : (m + sep.size) * ts.length ≤ 100010 * 1000 := Nat.mul_le_mul (by omega) hl
    exact Tryd.strings_Join g 0 c ts sep w hcell hg (by omega) hc (by omega)

/-- a context's text -/
def textS (l : List Int) : ByteArray := ({ data := #[91] } : ByteArray) ++ joinB (l.map itoaS) { data := #[32] } ++ ({ data := #[93] } : ByteArray)
theorem map_snoc (l : List Int) (i : Nat) (h : i < l.length) : (l.take (i + 1)).map itoaS = (l.take i).map itoaS ++ [itoaS (rd l (i : Int))] := by
  rw [List.take_succ_eq_append_getElem h, List.map_append]
  congr 2
  simp [rd, List.getD, List.getElem?_eq_getElem h]
theorem rd_mem (l : List Int) (i : Nat) (h : i < l.length) : rd l (i : Int) ∈ l := by
  have e : rd l (i : Int) = l[i] := by simp [rd, List.getD, List.getElem?_eq_getElem h]
  rw [e]
  exact List.getElem_mem h

set_option maxHeartbeats 4000000 in
set_option maxRecDepth 100000 in
theorem text_any (u : Value) (l : List Int) (w : World) (hu : RdV w u l) (hP : P10 w) (hw : ∀ x ∈ l, (Lit.int .i64 x).wf = true) (hl : l.length ≤ 100) :
    Calls Tryd.prog 20 #[u] w fun e w' => e = .returned (.string (textS l)) ∧ Below w.heap.size w w' := by
  obtain ⟨A, c, rfl, hc, hr⟩ := hu
  obtain ⟨t, ht⟩ : ∃ t, textS l = t := ⟨_, rfl⟩
  rw [ht]
  have Ht := Aside0.mk ht
  have HR := Aside0.mk hr
  have HP := Aside0.mk hP
  have Hw := Aside0.mk hw
  have Hl := Aside0.mk hl
  have Hc := Aside0.mk hc
  clear ht hr hP hw hl hc
  go_enter Tryd.func20, Tryd.ntmps20
  go_wp2_with fail
  go_loopw [3, 5, 8] (fun T _ C wr => ∃ i : Nat, C = .int .i64 (i : Int) ∧ i ≤ l.length ∧ Aside0 (OwS wr w.heap.size T ((l.take i).map itoaS)) ∧ Aside0 (Below w.heap.size w wr)) (fun _ _ C _ => l.length - (intOf C).toNat)
  case atStart => exact ⟨0, rfl, Nat.zero_le _, ⟨OwS.nil _ _⟩, ⟨Below.refl _ _⟩⟩
  case round =>
    obtain ⟨i, rfl, hi, hT, hB⟩ := hrel
    by_cases hin : i < l.length
    · have hnb : decide ((i : Int) < (l.length : Int)) = true := decide_eq_true (by omega)
      have hnc : decide (i < l.length) = true := decide_eq_true hin
      obtain ⟨ad, rfl, hx⟩ := (HR.out.below hB.out).at_ (i : Int) (by omega) (by omega)
      rw [Int.toNat_natCast] at hx
      have i0 : 0 ≤ (i : Int) := by omega
      have i1 : (i : Int) < (l.length : Int) := by omega
      have hsn := map_snoc l i hin
      have Hwx := Aside0.mk (Hw.out _ (rd_mem l i hin))
      obtain ⟨x, hxx⟩ : ∃ x, rd l (i : Int) = x := ⟨_, rfl⟩
      rw [hxx] at hx hsn Hwx
      obtain ⟨tx, htx⟩ : ∃ tx, itoaS x = tx := ⟨_, rfl⟩
      have Htx := Aside0.mk htx
      rw [htx] at hsn
      have Hsn := Aside0.mk hsn
      have hw : Aside0 (wrap64 ((i : Int) + 1) = ((i + 1 : Nat) : Int)) := ⟨by have := Hl.out; unfold wrap64; omega⟩
      have Hin := Aside0.mk hin
      clear hin hi hsn hxx htx
      replace i0 := eq_true i0
      replace i1 := eq_true i1
      go_wp2_with fail
      refine (itoa_any x _ (HP.out.below hB.out) Hwx.out).mono ?_
      rintro e w1 ⟨rfl, hb1⟩
      rw [Htx.out]
      have HB1 := Aside0.mk (bel_trans hB.out hb1)
      have HT1 := Aside0.mk (hT.out.below hb1)
      have HB2 := Aside0.mk (below_alloc HB1.out (.cells #[.string tx] 9))
      have HT2 := Aside0.mk (HT1.out.below (below_alloc (Below.refl _ _) (.cells #[.string tx] 9)))
      have HX2 : Aside0 ((w1.alloc (.cells #[.string tx] 9)).cell? ⟨w1.heap.size, 0, none⟩ = some (.string tx)) := ⟨blk_cell (heap_alloc_new _ _) 0⟩
      clear hb1
      go_wp2_with (first | (at_builtin; refine appS (wb := w) rfl (.tmp 12) (.tmp 15) rfl u3 w1.heap.size 1 ((l.take i).map itoaS) tx rfl rfl HT2.out HX2.out HB2.out (by have := Hl.out; have := Hin.out; rw [List.length_map, List.length_take]; omega) ?_; intro v1 w2 hT3 hB3))
      go_roundw
      case rel => exact ⟨i + 1, by rw [hw.out], Hin.out, ⟨by rw [Hsn.out]; exact hT3⟩, ⟨hB3⟩⟩
      case measure => exact msr hw.out Hin.out
    · have hnb : decide ((i : Int) < (l.length : Int)) = false := decide_eq_false (by omega)
      have hnc : decide (i < l.length) = false := decide_eq_false hin
      obtain rfl : i = l.length := by omega
      rw [List.take_length] at hT
      have hsm : ∀ x ∈ l.map itoaS, x.size ≤ 21 := fun x hx => by
        obtain ⟨z, hz, rfl⟩ := List.mem_map.1 hx
        exact itoaS_le (Hw.out z hz)
      have Hsm := Aside0.mk hsm
      have hjs := joinB_size (l.map itoaS) { data := #[32] } 21 hsm
      have Hjs := Aside0.mk hjs
      clear hin hi hsm hjs
      go_wp2_with fail
      refine (join_any u3 (l.map itoaS) _ _ w.heap.size hT.out 21 Hsm.out (by decide) (by rw [List.length_map]; have := Hl.out; omega) (by decide)).mono ?_
      rintro e w1 ⟨rfl, hb1⟩
      obtain ⟨J, hJ⟩ : ∃ J, joinB (l.map itoaS) { data := #[32] } = J := ⟨_, rfl⟩
      rw [hJ]
      have hJz : J.size ≤ 3000 := by
        have h1 := Hjs.out
        rw [hJ, List.length_map] at h1
        have h2 : (21 + ({ data := #[32] } : ByteArray).size) * l.length ≤ 22 * 100 := Nat.mul_le_mul (Nat.le_refl _) Hl.out
        omega
      have n1 : ¬ (9223372036854775807 < 1 + J.size) := by omega
      have n2 : ¬ (9223372036854775807 < 1 + J.size + 1) := by omega
      have n3 : ¬ (9223372036854775807 < (({ data := #[91] } : ByteArray) ++ J).size + 1) := by
        have e : (({ data := #[91] } : ByteArray) ++ J).size = 1 + J.size := by rw [ByteArray.size_append]; rfl
        omega
      have HJ := Aside0.mk hJ
      clear hJ hJz
      go_wp2_with fail
      go_ret
      exact ⟨by rw [← Ht.out, textS, HJ.out]; rfl, bel_trans hB.out hb1⟩
end Go.Proofs.YtkbbliicijnpjaaDoor.Tx
