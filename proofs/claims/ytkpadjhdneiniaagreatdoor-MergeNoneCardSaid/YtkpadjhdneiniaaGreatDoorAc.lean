/- Texts of numbers: Itoa, Join, a list's text; it tells the list. -/
import Derived.Test.YtkpadjhdneiniaaGreatDoorTa
import Derived.Test.YtkpadjhdneiniaaGreatDoorTe
import Derived.Test.YtkpadjhdneiniaaGreatDoorGg
import Derived.Test.YtkpadjhdneiniaaGreatDoorKl
import Derived.Lib.ItoaLen
import Derived.Lib.SmallJoins
namespace Go.Proofs.YtkpadjhdneiniaaGreatDoor.Tx
set_option linter.unusedVariables false
open Go.RowKit Go.Proofs.YtkpadjhdneiniaaGreatDoorW.PrintWords Go.Proofs.YtkpadjhdneiniaaGreatDoorW.PrintLast Go.Proofs.YtkpadjhdneiniaaGreatDoorW.PrintMore Go.Maps
open Go.Proofs.YtkpadjhdneiniaaGreatDoor.Base Go.Proofs.YtkpadjhdneiniaaGreatDoor.Map Go.Proofs.YtkpadjhdneiniaaGreatDoor.Sl Go.Proofs.YtkpadjhdneiniaaGreatDoor.Ow Go.Proofs.YtkpadjhdneiniaaGreatDoor.Se Go.Proofs.YtkpadjhdneiniaaGreatDoor.Gr Go.Proofs.YtkpadjhdneiniaaGreatDoor.Rf Go.Proofs.YtkpadjhdneiniaaGreatDoor.Ky

/-- the powers of ten lie where start-up laid them -/
structure P10 (w : World) : Prop where mk :: (out : Lib.TabIs Tryz.prog w "internal/strconv.uint64pow10" .u64 Lib.pow10Tab)
theorem g10 : Tryz.prog.globalNamed "internal/strconv.uint64pow10" = some 1 := by kernel_rfl
theorem P10.below {w w1 : World} (h : P10 w) (hb : Below w.heap.size w w1) : P10 w1 := ⟨Go.Joins.tab_stays g10 h.out hb (Nat.le_refl _)⟩
def bytesB (l : List UInt8) : ByteArray := ⟨l.toArray⟩
def itoaS (n : Int) : ByteArray := bytesB (Lib.itoa n)
theorem wf64 {n : Int} (h : ok64 n) : -9223372036854775808 ≤ n ∧ n ≤ 9223372036854775807 := by
  have e : IntKind.i64.min = -9223372036854775808 := by decide
  have h2 : IntKind.i64.min ≤ n ∧ n ≤ 9223372036854775807 := by simpa [ok64, Lit.wf] using h
  rw [e] at h2
  exact h2
theorem itoaS_le {n : Int} (h : ok64 n) : (itoaS n).size ≤ 21 := by
  have := Lib.itoa_length_le n (wf64 h).1 (wf64 h).2
  show (Lib.itoa n).toArray.size ≤ 21
  simpa using this
theorem grow_below (w : World) (k : Nat) (os : Array Obj) : Below w.heap.size w (Sort.grow (w.drewN k) os) :=
  ⟨rfl, rfl, rfl, by show w.heap.size ≤ (w.heap ++ os).size; rw [Array.size_append]; omega, fun j hj => by
    show (w.heap ++ os)[j]? = w.heap[j]?
    rw [Array.getElem?_append_left hj]⟩
theorem itoa_any (n : Int) (w : World) (h : P10 w) (hw : ok64 n) : Calls Tryz.prog 106 #[.int .i64 n] w fun e w' => e = .returned (.string (itoaS n)) ∧ Below w.heap.size w w' :=
  (Tryz.strconv_Itoa n (wf64 hw).1 (wf64 hw).2 w h.out).mono fun e w' ⟨h1, k, os, h2⟩ => ⟨h1, by rw [h2]; exact grow_below w k os⟩
theorem bytes_app (a b : List UInt8) : bytesB a ++ bytesB b = bytesB (a ++ b) := by
  apply ByteArray.ext
  rw [ByteArray.data_append]
  simp [bytesB]
def joinB (ts : List ByteArray) (sep : ByteArray) : ByteArray := ⟨(Lib.join (ts.map (·.data.toList)) sep.data.toList).toArray⟩
theorem lens_le (xs : List (List UInt8)) (m : Nat) (h : ∀ x ∈ xs, x.length ≤ m) : Lib.lens xs ≤ m * xs.length := by
  induction xs with
  | nil => simp [Lib.lens]
  | cons y r ih =>
    have h1 := ih (fun x hx => h x (List.mem_cons_of_mem _ hx))
    have h2 := h y List.mem_cons_self
    simp only [Lib.lens, List.map_cons, List.sum_cons, List.length_cons, Nat.mul_succ] at h1 ⊢
    omega
theorem join_len (ts : List ByteArray) (sep : ByteArray) (m : Nat) (h : ∀ x ∈ ts, x.size ≤ m) : (Lib.join (ts.map (·.data.toList)) sep.data.toList).length ≤ (m + sep.size) * ts.length := by
  cases ts with
  | nil => simp [Lib.join_nil]
  | cons y r =>
    have h1 := lens_le (r.map (·.data.toList)) m (fun x hx => by
      obtain ⟨z, hz, rfl⟩ := List.mem_map.1 hx
      rw [← Lib.size_eq]
      exact h z (List.mem_cons_of_mem _ hz))
    have h2 := h y List.mem_cons_self
    rw [List.map_cons, Lib.join_cons, List.length_append, Lib.joinTail_length, ← Lib.size_eq, ← Lib.size_eq]
    rw [List.length_map] at h1 ⊢
    rw [List.length_cons, Nat.add_mul, Nat.mul_succ, Nat.mul_succ]
    omega
theorem joinB_size (ts : List ByteArray) (sep : ByteArray) (m : Nat) (h : ∀ x ∈ ts, x.size ≤ m) : (joinB ts sep).size ≤ (m + sep.size) * ts.length := by
  have := join_len ts sep m h
  rw [Lib.size_eq]
  show (Lib.join (ts.map (·.data.toList)) sep.data.toList).toArray.toList.length ≤ _
  rw [List.toList_toArray]
  exact this
theorem msr {S n : Nat} {v : Int} (h : v = ((n + 1 : Nat) : Int)) (hn : n < S) : S - (intOf (.int .i64 v)).toNat < S - (intOf (.int .i64 (n : Int))).toNat := by
  subst h
  simp only [intOf, Int.toNat_natCast]
  omega
theorem join_any (v : Value) (ts : List ByteArray) (sep : ByteArray) (w : World) (F : Nat → Prop) (h : OwS w F v ts) (m : Nat) (hx : ∀ x ∈ ts, x.size ≤ m) (hm : m ≤ 100000) (hl : ts.length ≤ 1000) (hs : sep.size ≤ 10) :
    Calls Tryz.prog 107 #[v, .string sep] w fun e w' => e = .returned (.string (joinB ts sep)) ∧ Below w.heap.size w w' := by
  rcases h.form with ⟨rfl, rfl⟩ | ⟨g, cap, cur, rfl, -, hg, hc, hcm, hcs, hct⟩
  · exact (Tryz.strings_Join_none none 0 sep w).mono fun e w' ⟨h1, h2⟩ => ⟨h1, by rw [h2]; exact Below.refl _ _⟩
  · have hj := join_len ts sep m hx
    have h3 : (m + sep.size) * ts.length ≤ 100010 * 1000 := Nat.mul_le_mul (by omega) hl
    have hmx := h.max
    exact Tryz.strings_Join g 0 cap ts sep w (fun j x hj => by
      have hjl := (List.getElem?_eq_some_iff.1 hj).1
      rw [Nat.zero_add]
      refine blk_cellD hg j _ ?_
      have h7 := congrArg (fun l => l[j]?) hct
      simp only [List.getElem?_take, if_pos hjl] at h7
      rw [← Array.getElem?_toList, h7, List.getElem?_map, hj]; rfl) (blk_lt hg) (by omega) hc (by omega)
/-- a context's text -/
def textS (l : List Int) : ByteArray := ({ data := #[91] } : ByteArray) ++ joinB (l.map itoaS) { data := #[32] } ++ ({ data := #[93] } : ByteArray)
theorem map_snoc (l : List Int) (i : Nat) (h : i < l.length) : (l.take (i + 1)).map itoaS = (l.take i).map itoaS ++ [itoaS (rd l (i : Int))] := by
  rw [List.take_succ_eq_append_getElem h, List.map_append]
  congr 2
  simp [rd, List.getD, List.getElem?_eq_getElem h]
theorem rd_mem (l : List Int) (i : Nat) (h : i < l.length) : rd l (i : Int) ∈ l := by
  have e : rd l (i : Int) = l[i] := by simp [rd, List.getD, List.getElem?_eq_getElem h]
  rw [e]
  exact List.getElem_mem h

set_option maxHeartbeats 4000000 in
set_option maxRecDepth 100000 in
theorem text_any (u : Value) (l : List Int) (w : World) (hu : RdV w u l) (hP : P10 w) (hw : ∀ x ∈ l, (Lit.int .i64 x).wf = true) (hl : l.length ≤ 100) :
    Calls Tryz.prog 85 #[u] w fun e w' => e = .returned (.string (textS l)) ∧ Below w.heap.size w w' := by
  obtain ⟨A, c, rfl, hc, hr⟩ := hu
  obtain ⟨t, ht⟩ : ∃ t, textS l = t := ⟨_, rfl⟩
  rw [ht]
  have Ht := Aside0.mk ht
  have HR := Aside0.mk hr
  have HP := Aside0.mk hP
  have Hw := Aside0.mk hw
  have Hl := Aside0.mk hl
  have Hc := Aside0.mk hc
  clear ht hr hP hw hl hc
  go_enter Tryz.func85, Tryz.ntmps85
  go_wp2_with fail
  go_loopw [3, 5, 8] (fun T _ C wr => ∃ (i : Nat) (F : Nat → Prop), C = .int .i64 (i : Int) ∧ i ≤ l.length ∧ Aside0 (OwS wr F T ((l.take i).map itoaS)) ∧ Aside0 (∀ k, F k → w.heap.size ≤ k) ∧ Aside0 (Below w.heap.size w wr)) (fun _ _ C _ => l.length - (intOf C).toNat)
  case atStart => exact ⟨0, fun _ => False, rfl, Nat.zero_le _, ⟨OwS.nil _ _⟩, ⟨fun k hk => hk.elim⟩, ⟨Below.refl _ _⟩⟩
  case round =>
    obtain ⟨i, F, rfl, hi, hT, hF, hB⟩ := hrel
    by_cases hin : i < l.length
    · have hnb : decide ((i : Int) < (l.length : Int)) = true := decide_eq_true (by omega)
      have hnc : decide (i < l.length) = true := decide_eq_true hin
      obtain ⟨ad, rfl, hx⟩ := (HR.out.below hB.out).at_ (i : Int) (by omega) (by omega)
      rw [Int.toNat_natCast] at hx
      have i0 : 0 ≤ (i : Int) := by omega
      have i1 : (i : Int) < (l.length : Int) := by omega
      have hsn := map_snoc l i hin
      have Hwx := Aside0.mk (Hw.out _ (rd_mem l i hin))
      obtain ⟨x, hxx⟩ : ∃ x, rd l (i : Int) = x := ⟨_, rfl⟩
      rw [hxx] at hx hsn Hwx
      obtain ⟨tx, htx⟩ : ∃ tx, itoaS x = tx := ⟨_, rfl⟩
      have Htx := Aside0.mk htx
      rw [htx] at hsn
      have Hsn := Aside0.mk hsn
      have hw : Aside0 (wrap64 ((i : Int) + 1) = ((i + 1 : Nat) : Int)) := ⟨by have := Hl.out; unfold wrap64; omega⟩
      have Hin := Aside0.mk hin
      clear hin hi hsn hxx htx
      replace i0 := eq_true i0
      replace i1 := eq_true i1
      go_wp2_with fail
      refine (itoa_any x _ (HP.out.below hB.out) Hwx.out).mono ?_
      rintro e w1 ⟨rfl, hb1⟩
      rw [Htx.out]
      have HB1 := Aside0.mk (bel_trans hB.out hb1)
      have HT1 := Aside0.mk (hT.out.below hb1)
      have HB2 := Aside0.mk (below_alloc HB1.out (.cells #[.string tx] 9))
      have HT2 := Aside0.mk (HT1.out.below (below_alloc (Below.refl _ _) (.cells #[.string tx] 9)))
      have HX2 : Aside0 (RdS (w1.alloc (.cells #[.string tx] 9)) (.slice (some ⟨w1.heap.size, 0, none⟩) 1 1) [tx]) := ⟨RdS.lit (l := [tx]) (heap_alloc_new _ _) rfl (by simp)⟩
      clear hb1
      go_wp2_with (first | (at_builtin; refine appS (G := F) rfl (.tmp 12) (.tmp 15) rfl u3 (.slice (some ⟨w1.heap.size, 0, none⟩) 1 1) ((l.take i).map itoaS) [tx] (by rfl) (by rfl) HT2.out HX2.out (by have := Hl.out; have := Hin.out; have e1 : [tx].length = 1 := rfl; rw [List.length_map, List.length_take]; omega) ?_; intro v1 w2 hT3 hC3))
      have HB3 := Aside0.mk (chg_own HB2.out hF.out hC3)
      have HF3 := Aside0.mk (ext_own (w2 := w2) HB2.out hF.out)
      go_roundw
      case rel => exact ⟨i + 1, _, by rw [hw.out], Hin.out, ⟨by rw [Hsn.out]; exact hT3⟩, HF3, HB3⟩
      case measure => exact msr hw.out Hin.out
    · have hnb : decide ((i : Int) < (l.length : Int)) = false := decide_eq_false (by omega)
      have hnc : decide (i < l.length) = false := decide_eq_false hin
      obtain rfl : i = l.length := by omega
      rw [List.take_length] at hT
      have hsm : ∀ x ∈ l.map itoaS, x.size ≤ 21 := fun x hx => by
        obtain ⟨z, hz, rfl⟩ := List.mem_map.1 hx
        exact itoaS_le (Hw.out z hz)
      have Hsm := Aside0.mk hsm
      have hjs := joinB_size (l.map itoaS) { data := #[32] } 21 hsm
      have Hjs := Aside0.mk hjs
      clear hin hi hsm hjs
      go_wp2_with fail
      refine (join_any u3 (l.map itoaS) _ _ F hT.out 21 Hsm.out (by decide) (by rw [List.length_map]; have := Hl.out; omega) (by decide)).mono ?_
      rintro e w1 ⟨rfl, hb1⟩
      obtain ⟨J, hJ⟩ : ∃ J, joinB (l.map itoaS) { data := #[32] } = J := ⟨_, rfl⟩
      rw [hJ]
      have hJz : J.size ≤ 3000 := by
        have h1 := Hjs.out
        rw [hJ, List.length_map] at h1
        have h2 : (21 + ({ data := #[32] } : ByteArray).size) * l.length ≤ 22 * 100 := Nat.mul_le_mul (Nat.le_refl _) Hl.out
        omega
      have n1 : ¬ (9223372036854775807 < 1 + J.size) := by omega
      have n2 : ¬ (9223372036854775807 < 1 + J.size + 1) := by omega
      have n3 : ¬ (9223372036854775807 < (({ data := #[91] } : ByteArray) ++ J).size + 1) := by
        have e : (({ data := #[91] } : ByteArray) ++ J).size = 1 + J.size := by rw [ByteArray.size_append]; rfl
        omega
      have HJ := Aside0.mk hJ
      clear hJ hJz
      go_wp2_with fail
      go_ret
      exact ⟨by rw [← Ht.out, textS, HJ.out]; rfl, bel_trans hB.out hb1⟩
/-! the text tells the list -/
theorem textS_bytes (l : List Int) : textS l = bytesB ([91] ++ Lib.join (l.map Lib.itoa) [32] ++ [93]) := by
  unfold textS joinB
  have e1 : ({ data := #[91] } : ByteArray) = bytesB [91] := rfl
  have e2 : ({ data := #[93] } : ByteArray) = bytesB [93] := rfl
  have e3 : (l.map itoaS).map (fun x => x.data.toList) = l.map Lib.itoa := by rw [List.map_map]; rfl
  rw [e1, e2, e3]
  show bytesB [91] ++ bytesB (Lib.join (l.map Lib.itoa) [32]) ++ bytesB [93] = _
  rw [bytes_app, bytes_app]
theorem join2 (x y : List UInt8) (r : List (List UInt8)) : Lib.join (x :: y :: r) [32] = x ++ 32 :: Lib.join (y :: r) [32] := by
  rw [Lib.join_cons, Lib.join_cons]
  simp [Lib.joinTail]
theorem itoa_ne (n : Int) : Lib.itoa n ≠ [] := by
  unfold Lib.itoa
  split
  · simp
  · exact dec_ne _
theorem join_inj : ∀ {a b : List Int}, Lib.join (a.map Lib.itoa) [32] = Lib.join (b.map Lib.itoa) [32] → a = b
  | [], [], _ => rfl
  | [], [y], h => by
    simp only [List.map_nil, List.map_cons, Lib.join_nil, Lib.join_one] at h
    exact absurd h.symm (itoa_ne y)
  | [], y :: z :: r, h => by
    simp only [List.map_nil, List.map_cons, Lib.join_nil] at h
    rw [join2] at h
    exact absurd h.symm (by simp)
  | [x], [], h => by
    simp only [List.map_nil, List.map_cons, Lib.join_nil, Lib.join_one] at h
    exact absurd h (itoa_ne x)
  | x :: z :: r, [], h => by
    simp only [List.map_nil, List.map_cons, Lib.join_nil] at h
    rw [join2] at h
    exact absurd h (by simp)
  | [x], [y], h => by
    simp only [List.map_nil, List.map_cons, Lib.join_one] at h
    rw [itoa_inj h]
  | [x], y :: z :: r, h => by
    simp only [List.map_nil, List.map_cons, Lib.join_one] at h
    rw [join2] at h
    exact absurd (by rw [h]; simp) (no32 x)
  | x :: z :: r, [y], h => by
    simp only [List.map_nil, List.map_cons, Lib.join_one] at h
    rw [join2] at h
    exact absurd (by rw [← h]; simp) (no32 y)
  | x :: z :: r, y :: z' :: r', h => by
    simp only [List.map_cons] at h
    rw [join2, join2] at h
    obtain ⟨h1, h2⟩ := cut_inj (no32 x) (no32 y) h
    have := join_inj (a := z :: r) (b := z' :: r') h2
    rw [itoa_inj h1, this]
theorem textS_inj {a b : List Int} (h : textS a = textS b) : a = b := by
  rw [textS_bytes, textS_bytes] at h
  have h2 := congrArg (fun b : ByteArray => b.data.toList) h
  simp only [bytesB] at h2
  have h3 := List.append_inj_left' h2 rfl
  exact join_inj (List.cons.inj h3).2
theorem textS_size (l : List Int) (h : ∀ x ∈ l, ok64 x) (hl : l.length ≤ 100) : (textS l).size ≤ 3000 := by
  have hsm : ∀ x ∈ l.map itoaS, x.size ≤ 21 := fun x hx => by
    obtain ⟨z, hz, rfl⟩ := List.mem_map.1 hx
    exact itoaS_le (h z hz)
  have hjs := joinB_size (l.map itoaS) { data := #[32] } 21 hsm
  rw [List.length_map] at hjs
  have h2 : (21 + ({ data := #[32] } : ByteArray).size) * l.length ≤ 22 * 100 := Nat.mul_le_mul (Nat.le_refl _) hl
  unfold textS
  rw [ByteArray.size_append, ByteArray.size_append]
  have e1 : ({ data := #[91] } : ByteArray).size = 1 := rfl
  have e2 : ({ data := #[93] } : ByteArray).size = 1 := rfl
  omega
end Go.Proofs.YtkpadjhdneiniaaGreatDoor.Tx
