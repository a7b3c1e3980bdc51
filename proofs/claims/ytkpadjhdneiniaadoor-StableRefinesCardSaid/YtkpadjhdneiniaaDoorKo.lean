/- stable.key: a class and marks, as a text. -/
import Derived.Test.YtkpadjhdneiniaaDoorKa
import Derived.Test.YtkpadjhdneiniaaDoorKl
import Derived.Lib.ItoaLen
import Derived.Lib.SmallJoins
namespace Go.Proofs.YtkpadjhdneiniaaDoor.Sb
set_option linter.unusedVariables false
open Go.RowKit Go.Proofs.YtkpadjhdneiniaaDoorW.PrintWords Go.Proofs.YtkpadjhdneiniaaDoorW.PrintLast Go.Proofs.YtkpadjhdneiniaaDoorW.PrintMore Go.Maps
open Go.Proofs.YtkpadjhdneiniaaDoor.Base Go.Proofs.YtkpadjhdneiniaaDoor.Map Go.Proofs.YtkpadjhdneiniaaDoor.Sl Go.Proofs.YtkpadjhdneiniaaDoor.Ow Go.Proofs.YtkpadjhdneiniaaDoor.Se Go.Proofs.YtkpadjhdneiniaaDoor.Gr Go.Proofs.YtkpadjhdneiniaaDoor.Rf Go.Proofs.YtkpadjhdneiniaaDoor.Tx Go.Proofs.YtkpadjhdneiniaaDoor.St Go.Proofs.YtkpadjhdneiniaaDoor.Ky Go.Proofs.YtkpadjhdneiniaaDoor.Bu

/-- the powers of ten lie where start-up laid them -/
structure P10 (w : World) : Prop where mk :: (out : Lib.TabIs Tryd.prog w "internal/strconv.uint64pow10" .u64 Lib.pow10Tab)
theorem g10 : Tryd.prog.globalNamed "internal/strconv.uint64pow10" = some 1 := by kernel_rfl
theorem P10.below {w w1 : World} (h : P10 w) (hb : Below w.heap.size w w1) : P10 w1 := ⟨Go.Joins.tab_stays g10 h.out hb (Nat.le_refl _)⟩
def bytesB (l : List UInt8) : ByteArray := ⟨l.toArray⟩
def itoaS (n : Int) : ByteArray := bytesB (Lib.itoa n)
theorem wf64 {n : Int} (h : ok64 n) : -9223372036854775808 ≤ n ∧ n ≤ 9223372036854775807 := by
  have e : IntKind.i64.min = -9223372036854775808 := by decide
  have h2 : IntKind.i64.min ≤ n ∧ n ≤ 9223372036854775807 := by simpa [ok64, Lit.wf] using h
  rw [e] at h2
  exact h2
theorem itoaS_le {n : Int} (h : ok64 n) : (itoaS n).size ≤ 21 := by
  have := Lib.itoa_length_le n (wf64 h).1 (wf64 h).2
  show (Lib.itoa n).toArray.size ≤ 21
  simpa using this
theorem grow_below (w : World) (k : Nat) (os : Array Obj) : Below w.heap.size w (Sort.grow (w.drewN k) os) :=
  ⟨rfl, rfl, rfl, by show w.heap.size ≤ (w.heap ++ os).size; rw [Array.size_append]; omega, fun j hj => by
    show (w.heap ++ os)[j]? = w.heap[j]?
    rw [Array.getElem?_append_left hj]⟩
theorem itoa_any (n : Int) (w : World) (h : P10 w) (hw : ok64 n) : Calls Tryd.prog 56 #[.int .i64 n] w fun e w' => e = .returned (.string (itoaS n)) ∧ Below w.heap.size w w' :=
  (Tryd.strconv_Itoa n (wf64 hw).1 (wf64 hw).2 w h.out).mono fun e w' ⟨h1, k, os, h2⟩ => ⟨h1, by rw [h2]; exact grow_below w k os⟩
/-- one mark's text -/
def markB (m : Int × Int) : ByteArray := (({ data := #[32] } : ByteArray) ++ itoaS m.1 ++ { data := #[58] }) ++ itoaS m.2
theorem bytes_app (a b : List UInt8) : bytesB a ++ bytesB b = bytesB (a ++ b) := by
  apply ByteArray.ext
  rw [ByteArray.data_append]
  simp [bytesB]
theorem markB_eq (m : Int × Int) : markB m = bytesB (markL m) := by
  unfold markB markL itoaS
  have e1 : ({ data := #[32] } : ByteArray) = bytesB [32] := rfl
  have e2 : ({ data := #[58] } : ByteArray) = bytesB [58] := rfl
  rw [e1, e2, bytes_app, bytes_app, bytes_app]
theorem cells_bytes (l : List UInt8) : Lib.strCells (bytesB l) = Lib.byteCells l := rfl
theorem byteCells_app (a b : List UInt8) : Lib.byteCells a ++ Lib.byteCells b = Lib.byteCells (a ++ b) := by simp [Lib.byteCells]
theorem markL_len {m : Int × Int} (h : ok64 m.1 ∧ ok64 m.2) : (markL m).length ≤ 44 := by
  have h1 := Lib.itoa_length_le m.1 (wf64 h.1).1 (wf64 h.1).2
  have h2 := Lib.itoa_length_le m.2 (wf64 h.2).1 (wf64 h.2).2
  unfold markL
  simp only [List.length_append, List.length_singleton]
  omega
theorem tailL_len {l : List (Int × Int)} (h : ∀ m ∈ l, ok64 m.1 ∧ ok64 m.2) : (tailL l).length ≤ 44 * l.length := by
  induction l with
  | nil => simp [tailL]
  | cons m l ih =>
    have e : tailL (m :: l) = markL m ++ tailL l := rfl
    have h1 := markL_len (h m (by simp))
    have h2 := ih fun x hx => h x (by simp [hx])
    rw [e, List.length_append, List.length_cons]; omega
theorem keyL_len {c : Int} {l : List (Int × Int)} (hc : ok64 c) (h : ∀ m ∈ l, ok64 m.1 ∧ ok64 m.2) : (keyL c l).length ≤ 44 * l.length + 21 := by
  have h1 := Lib.itoa_length_le c (wf64 hc).1 (wf64 hc).2
  have h2 := tailL_len h
  unfold keyL
  rw [List.length_append]; omega
theorem kept_cell {w w' : World} {b g : Nat} {cur : Array Value} {t : Nat} (h : Lib.OthersKept 5 (some b) w w') (hb : w.heap[g]? = some (.cells cur t (0, 0))) (hn : g ≠ b) (ht : t ≠ 5) : w'.heap[g]? = some (.cells cur t (0, 0)) :=
  h g _ hb (fun e => hn (Option.some.inj e)) (fun c fz e => ht (by injection e))
theorem size44 (a b : ByteArray) (ha : a.size ≤ 21) (hb : b.size ≤ 21) : (9223372036854775807 < 1 + a.size) = False ∧ (9223372036854775807 < 1 + a.size + 1) = False ∧ (9223372036854775807 < 1 + a.size + 1 + b.size) = False := ⟨by simp; omega, by simp; omega, by simp; omega⟩
theorem key_more (c : Int) (l : List (Int × Int)) {i : Nat} (hi : i < l.length) : keyL c (l.take (i + 1)) = keyL c (l.take i) ++ markL (l.getD i (0, 0)) := by
  rw [List.take_succ_eq_append_getElem hi, keyL_snoc, List.getD_eq_getElem?_getD, List.getElem?_eq_getElem hi]; rfl
theorem builderAt_below {B b : Nat} {p : Value} {bs : List Value} {w w' : World} (h : Lib.BuilderAt 88 5 B b p bs w) (hb : Below w.heap.size w w') : Lib.BuilderAt 88 5 B b p bs w' := by
  obtain ⟨h1, v, h2, h3, h4⟩ := h
  refine ⟨h1, v, Ow.blk_below h2 hb, ⟨h3.1, ?_⟩, h4⟩
  rcases h3.2 with h5 | ⟨g, cap, cur, e1, e2, e3, e4⟩
  · exact .inl h5
  · exact .inr ⟨g, cap, cur, e1, e2, Ow.blk_below e3 hb, e4⟩
theorem isBuilder_below {B b : Nat} {bs : List Value} {w w' : World} (h : Lib.IsBuilder 88 5 B b bs w) (hb : Below w.heap.size w w') : Lib.IsBuilder 88 5 B b bs w' := h.elim (fun h => .inl (builderAt_below h hb)) (fun h => .inr (builderAt_below h hb))
set_option maxHeartbeats 8000000 in
set_option maxRecDepth 100000 in
theorem key_any (c : Int) (u : Value) (l : List (Int × Int)) (w : World) (hP : P10 w) (hu : RdP w u l) (hc : ok64 c) (hm : ∀ m ∈ l, ok64 m.1 ∧ ok64 m.2) (hl : l.length ≤ 1000000) :
    Calls Tryd.prog 40 #[.int .i64 c, u] w fun e w' => e = .returned (.string (bytesB (keyL c l))) ∧ Below w.heap.size w w' := by
  have HP := Aside0.mk hP
  have HU := Aside0.mk hu
  have Hok := Aside0.mk (And.intro hc (And.intro hm hl))
  obtain ⟨A, cp, rfl, hcp, hr⟩ := hu
  have HR := Aside0.mk hr
  obtain ⟨n, hn⟩ : ∃ n, l.length = n := ⟨_, rfl⟩
  have Hn := Aside0.mk hn
  rw [hn] at HU ⊢
  clear hP hc hm hl hcp hr hn
  go_enter Tryd.func40, Tryd.ntmps40
  go_wp2_with fail
  obtain ⟨b, hb⟩ : ∃ b, w.heap.size = b := ⟨_, rfl⟩
  obtain ⟨w0, hw0⟩ : ∃ w0, w.alloc (.cells #[.pointer none, .slice none 0 0] 88) = w0 := ⟨_, rfl⟩
  have HB0 := Aside0.mk (show Below b w w0 by rw [← hw0, ← hb]; exact below_alloc (Below.refl _ _) _)
  have HS0 := Aside0.mk (show w0.heap.size = b + 1 by rw [← hw0, ← hb]; simp)
  have HBu : Aside0 (Lib.IsBuilder 88 5 b b (Lib.byteCells []) w0) := ⟨by
    refine .inl ⟨Nat.le_refl _, .slice none 0 0, by rw [← hw0, ← hb]; exact heap_alloc_new _ _, ?_, by simp [Value.ownBlock]⟩
    exact World.ownsRow_nil ..⟩
  have HB1 := Aside0.mk (itoa_any c w0 (HP.out.below (by rw [← hw0]; exact below_alloc (Below.refl _ _) _)) Hok.out.1)
  have HPx := Aside0.mk (show P10 w0 from HP.out.below (by rw [← hw0]; exact below_alloc (Below.refl _ _) _))
  rw [hw0]
  have Hb := Aside0.mk hb
  simp only [hb]
  clear hb hw0
  refine HB1.out.mono ?_
  rintro e w1 ⟨rfl, r1⟩
  have hsz := itoaS_le Hok.out.1
  have HW1 := Aside0.mk (write_any b b (Lib.byteCells []) (itoaS c) w1 (isBuilder_below HBu.out r1) (by simp [Lib.byteCells]; omega) (by have := HS0.out; have := r1.size; omega))
  have HB2 := Aside0.mk (r1)
  clear hsz r1 HB1
  go_wp2_with fail
  refine HW1.out.mono ?_
  rintro e w2 ⟨rfl, r1, r2, r3⟩
  clear r3
  rw [show Lib.byteCells [] ++ Lib.strCells (itoaS c) = Lib.byteCells (keyL c []) by unfold itoaS; rw [cells_bytes, byteCells_app]; simp [keyL, tailL]] at r1
  have HBd := Aside0.mk r1
  have HB3 := Aside0.mk (show Below b w w2 from HB0.out.trans ((HB2.out.mono (by have := HS0.out; omega)).trans r2))
  clear r1 r2 HW1
  go_wp2_with fail
  go_loopw [13] (fun I wr => ∃ i : Nat, I = .int .i64 (i : Int) ∧ i ≤ n ∧ Aside0 (Lib.BuilderAt 88 5 b b (.pointer (some ⟨b, 0, none⟩)) (Lib.byteCells (keyL c (l.take i))) wr) ∧ Aside0 (Below b w wr)) (fun I _ => n - (intOf I).toNat)
  case atStart => exact ⟨0, rfl, Nat.zero_le _, by rw [List.take_zero]; exact HBd, HB3⟩
  case round =>
    obtain ⟨i, rfl, hi, HD, HB⟩ := hrel
    by_cases hin : i < n
    · have hnb : decide ((i : Int) < (n : Int)) = true := decide_eq_true (by omega)
      have hnc : decide (i < n) = true := decide_eq_true hin
      have hil : i < l.length := by rw [Hn.out]; exact hin
      have hbw : Below w.heap.size w wr := by rw [Hb.out]; exact HB.out
      obtain ⟨ad, rfl, e0, e1⟩ := C_atP (Kd.C_below HR.out hbw) i hil
      have hmm := Hok.out.2.1 _ (show l.getD i (0, 0) ∈ l by rw [List.getD_eq_getElem?_getD, List.getElem?_eq_getElem hil]; exact List.getElem_mem hil)
      have hst := key_more c l hil
      obtain ⟨⟨x, y⟩, hxy⟩ : ∃ m, l.getD i (0, 0) = m := ⟨_, rfl⟩
      rw [hxy] at e0 e1 hmm hst
      simp only at e0 e1
      have i0 : 0 ≤ (i : Int) := by omega
      have i1 : (i : Int) < (n : Int) := by omega
      have i2 : (i : Int) ≤ 1000000 := by have := Hok.out.2.2; have := Hn.out; omega
      have Hin := Aside0.mk (And.intro hin (And.intro hmm hst))
      have Hbw := Aside0.mk hbw
      clear hin hi hil hmm hst hxy hbw
      replace i0 := eq_true i0
      replace i1 := eq_true i1
      go_wp2_with fail
      clear e0 e1 i0 i1
      obtain ⟨wA, hA⟩ : ∃ wA, wr.alloc (.cells #[.int .i64 x, .int .i64 y] 42) = wA := ⟨_, rfl⟩
      have HAb := Aside0.mk (show Below wr.heap.size wr wA by rw [← hA]; exact below_alloc (Below.refl _ _) _)
      have Hg := Aside0.mk (show wA.heap[wr.heap.size]? = some (.cells #[.int .i64 x, .int .i64 y] 42 (0, 0)) by rw [← hA]; exact heap_alloc_new _ _)
      obtain ⟨g, hg⟩ : ∃ g, wr.heap.size = g := ⟨_, rfl⟩
      rw [hA]
      have HDb := Aside0.mk (builderAt_below HD.out HAb.out)
      have HBA := Aside0.mk (HB.out.trans (HAb.out.mono (by have := HD.out.lt; have := HB.out.size; have := Hb.out; omega)))
      have HPA := Aside0.mk (HP.out.below (by rw [Hb.out]; exact HBA.out))
      have Hgb := Aside0.mk (show b < g by rw [← hg]; exact HD.out.lt)
      simp only [hg]
      rw [hg] at Hg
      have c0 : wA.cell? ⟨g, 0, none⟩ = some (.int .i64 x) := blk_cellD Hg.out 0 _ rfl
      have c1 : wA.cell? ⟨g, 1, none⟩ = some (.int .i64 y) := blk_cellD Hg.out 1 _ rfl
      clear hA hg
      have HBr := Below.refl wA.heap.size wA
      have hz := size44 (itoaS x) (itoaS y) (itoaS_le Hin.out.2.1.1) (itoaS_le Hin.out.2.1.2)
      obtain ⟨z1, z2, z3⟩ := hz
      have HW := Aside0.mk (fun (W : World) (hb : Below wA.heap.size wA W) => write_any b b (Lib.byteCells (keyL c (l.take i))) (({ data := #[32] } : ByteArray) ++ itoaS x ++ { data := #[58] } ++ itoaS y) W (.inr (builderAt_below HDb.out hb)) (by
        have h1 := keyL_len (c := c) (l := l.take i) Hok.out.1 (fun m hm => Hok.out.2.1 m (List.mem_of_mem_take hm))
        have h2 := markL_len (m := (x, y)) Hin.out.2.1
        have h3 : (({ data := #[32] } : ByteArray) ++ itoaS x ++ { data := #[58] } ++ itoaS y).size = (markL (x, y)).length := by
          have e : (({ data := #[32] } : ByteArray) ++ itoaS x ++ { data := #[58] } ++ itoaS y) = markB (x, y) := rfl
          rw [e, markB_eq]; simp [bytesB, ByteArray.size]
        have h4 := Hok.out.2.2
        have h5 : (l.take i).length ≤ l.length := by rw [List.length_take]; omega
        have h6 : (Lib.byteCells (keyL c (l.take i))).length = (keyL c (l.take i)).length := by simp [Lib.byteCells]
        omega) (by have := hb.size; have := HDb.out.lt; omega))
      have HI := Aside0.mk (fun (W : World) (z : Int) (hz : z = x ∨ z = y) (hb : Below wA.heap.size wA W) => itoa_any z W (HPA.out.below hb) (hz.elim (fun e => e ▸ Hin.out.2.1.1) (fun e => e ▸ Hin.out.2.1.2)))
      go_region_held3 (fun w' => w'.cell? ⟨g, 0, none⟩ = some (.int .i64 x) ∧ w'.cell? ⟨g, 1, none⟩ = some (.int .i64 y)) (first | (exact ⟨bel_cell HB1 c0, bel_cell HB1 c1⟩) | (exact ⟨blk_cellD (kept_cell r3 (Ow.blk_below Hg.out HB1) (by have := Hgb.out; omega) (by decide)) 0 _ rfl, blk_cellD (kept_cell r3 (Ow.blk_below Hg.out HB1) (by have := Hgb.out; omega) (by decide)) 1 _ rfl⟩) | go_keep)
        (first
          | (go_at_call 56; (with_reducible refine (HI.out _ _ (by simp) (by simp [*])).mono ?_); rintro e w3 ⟨rfl, B8⟩; have HB1 := bel_trans (wb := wA) (by simp [*]) B8)
          | (go_at_call 55; (with_reducible refine (HW.out _ HB1).mono ?_); rintro e w5 ⟨rfl, r1, r2, r3⟩) | fail)
      have e1 : Lib.byteCells (keyL c (l.take i)) ++ Lib.strCells (({ data := #[32] } : ByteArray) ++ itoaS x ++ { data := #[58] } ++ itoaS y) = Lib.byteCells (keyL c (l.take (i + 1))) := by
        have e : (({ data := #[32] } : ByteArray) ++ itoaS x ++ { data := #[58] } ++ itoaS y) = markB (x, y) := rfl
        rw [e, markB_eq, cells_bytes, byteCells_app, Hin.out.2.2]
      rw [e1] at r1
      have HD5 := Aside0.mk r1
      have HB5 := Aside0.mk (show Below b w w5 from HBA.out.trans ((HB1.mono (by have := HDb.out.lt; omega)).trans r2))
      clear e1 r1 r2 r3 HB1 c0 c1 z1 z2 z3 HBr
      go_wp2_with fail
      go_roundw
      case rel => exact ⟨i + 1, by go_num, Hin.out.1, HD5, HB5⟩
      case measure => have := Hin.out.1; simp [intOf]; omega
    · have hnb : decide ((i : Int) < (n : Int)) = false := decide_eq_false (by omega)
      have hnc : decide (i < n) = false := decide_eq_false hin
      obtain rfl : i = n := by omega
      have ht : l.take i = l := List.take_of_length_le (by rw [Hn.out]; exact Nat.le_refl _)
      rw [ht] at HD
      have HX := Aside0.mk (Tryd.Builder_String_any b b (keyL c l) wr (.inr HD.out) (by have := HB.out.size; have := Hb.out; omega))
      clear hin hi ht
      go_wp2_with fail
      refine HX.out.mono ?_
      rintro e w3 ⟨rfl, r1⟩
      have HB4 := Aside0.mk (HB.out.trans r1)
      clear r1
      go_wp2_with fail
      go_ret
      exact ⟨rfl, by rw [Hb.out]; exact HB4.out⟩
end Go.Proofs.YtkpadjhdneiniaaDoor.Sb
