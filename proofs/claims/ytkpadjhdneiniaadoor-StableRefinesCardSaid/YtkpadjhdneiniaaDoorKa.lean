/- Ka, Kb, Kc, Kd, Ke, Kf, Kg, Kh, Ki, Kj, Kk -/
import Derived.Test.YtkpadjhdneiniaaDoorTb
import Derived.Test.YtkpadjhdneiniaaDoorTe
import Derived.Test.YtkpadjhdneiniaaDoorGg
import Derived.Test.YtkpadjhdneiniaaDoorSt
import Derived.Shelf.Strings.Builder1
import Derived.Lib.OthersKept
/- Ka: Rows of pairs; slices.Equal of numbers and of pairs. -/
section
namespace Go.Proofs.YtkpadjhdneiniaaDoor.Sb
set_option linter.unusedVariables false
open Go.RowKit Go.Proofs.YtkpadjhdneiniaaDoorW.PrintWords Go.Proofs.YtkpadjhdneiniaaDoorW.PrintLast Go.Proofs.YtkpadjhdneiniaaDoorW.PrintMore Go.Maps
open Go.Proofs.YtkpadjhdneiniaaDoor.Base Go.Proofs.YtkpadjhdneiniaaDoor.Map Go.Proofs.YtkpadjhdneiniaaDoor.Sl Go.Proofs.YtkpadjhdneiniaaDoor.Ow Go.Proofs.YtkpadjhdneiniaaDoor.Se Go.Proofs.YtkpadjhdneiniaaDoor.Gr Go.Proofs.YtkpadjhdneiniaaDoor.Rf Go.Proofs.YtkpadjhdneiniaaDoor.Tx

def pairC (e : Int × Int) : List Value := [.int .i64 e.1, .int .i64 e.2]
def kP : Kd (Int × Int) where
  sz := 2
  E := []
  K := fun _ e cs => cs = pairC e
  M := fun _ _ _ e cs => cs = pairC e
  K_len := fun h => by rw [h]; rfl
  K_one := fun h u hu => by rw [h] at hu; simp only [pairC, List.mem_cons, List.not_mem_nil, or_false] at hu; rcases hu with rfl | rfl <;> rfl
  K_below := fun _ h => h
  K_of_M := fun h => h
  M_mono := fun _ h => h
  M_bound := fun h => h
  M_move := fun _ h => h
  M_lower := fun _ h => h
structure RdP (w : World) (v : Value) (l : List (Int × Int)) : Prop where mk :: (out : ∃ A c, v = .slice A l.length c ∧ l.length ≤ c ∧ kP.C w A l.length l)
structure OwP (w : World) (F : Nat → Prop) (v : Value) (l : List (Int × Int)) : Prop where mk :: (out : Kd.R kP 42 w 0 F v l)
theorem info42 : (Tryd.prog.info? 42).map (fun i => (i.zero, i.size, i.bytes)) = some (some (.agg #[.int .i64 0, .int .i64 0]), 2, 16) := by kernel_rfl
section
variable {w w1 : World} {F F' : Nat → Prop} {v : Value} {l : List (Int × Int)}
theorem RdP.below (h : RdP w v l) (hb : Below w.heap.size w w1) : RdP w1 v l := by
  obtain ⟨A, c, h1, h2, h3⟩ := h
  exact ⟨A, c, h1, h2, Kd.C_below h3 hb⟩
theorem OwP.toV (h : OwP w F v l) : RdP w v l := by
  obtain ⟨A, c, h1, h2, h3⟩ := Kd.R_reads h.out
  exact ⟨A, c, h1, h2, h3⟩
theorem OwP.mono (h : OwP w F v l) (hF : ∀ k, F k → F' k) : OwP w F' v l := ⟨Kd.R_mono h.out hF⟩
theorem OwP.below (h : OwP w F v l) (hb : Below w.heap.size w w1) : OwP w1 F v l := ⟨Kd.R_below h.out hb⟩
theorem OwP.chg {G : Nat → Prop} (h : OwP w F v l) (hC : Chg G w w1) (hd : ∀ k, F k → ¬ G k) : OwP w1 F v l := ⟨Kd.R_step h.out (fun k hk hlt => hC.block k hlt (hd k hk))⟩
theorem OwP.nil (w : World) (F : Nat → Prop) : OwP w F (.slice none 0 0) [] := ⟨Kd.R_nil _ _ _ _ _⟩
theorem RdP.max (h : RdP w v l) : l.length ≤ 9223372036854775807 := by
  obtain ⟨A, c, _, _, h3⟩ := h
  exact h3.2.1
theorem C_atP {A : Option Addr} (h : kP.C w A l.length l) (i : Nat) (hi : i < l.length) :
    ∃ ad, A = some ad ∧ w.cell? (ad.add (i * 2)) = some (.int .i64 (l.getD i (0, 0)).1) ∧ w.cell? ⟨(ad.add (i * 2)).block, (ad.add (i * 2)).off + 1, none⟩ = some (.int .i64 (l.getD i (0, 0)).2) := by
  obtain ⟨ad, c, hA, _, hk, hc⟩ := Kd.C_get h (0, 0) (i : Int) (by omega) (by omega)
  rw [Int.toNat_natCast] at hk hc
  have hk' : c = pairC (l.getD i (0, 0)) := hk
  subst hk'
  have e : ∀ j, j ≠ 0 → ad.add (i * 2 + j) = ⟨(ad.add (i * 2)).block, (ad.add (i * 2)).off + j, none⟩ := fun j hj => by
    unfold Addr.add
    rw [if_neg (by omega)]
    split
    · simp
    · simp; omega
  refine ⟨ad, hA, hc 0 _ rfl, ?_⟩
  rw [← e 1 (by omega)]; exact hc 1 _ rfl
theorem RdP.lit {g : Nat} {x : Int × Int} (h : w.heap[g]? = some (.cells #[.int .i64 x.1, .int .i64 x.2] 42 (0, 0))) : RdP w (.slice (some ⟨g, 0, none⟩) 1 1) [x] := by
  refine ⟨_, _, rfl, Nat.le_refl _, rfl, by simp, fun hn => ⟨_, rfl, fun j p hj => ⟨pairC p, rfl, rfl, fun i u hu => ?_⟩⟩⟩
  obtain ⟨rfl, rfl⟩ : j = 0 ∧ p = x := by
    cases j with
    | zero => simp at hj; exact ⟨rfl, hj.symm⟩
    | succ i => simp at hj
  rw [add_zero_off]
  refine blk_cellD h _ _ ?_
  show _[0 * 2 + i]? = _
  rw [Nat.zero_mul, Nat.zero_add, ← Array.getElem?_toList]
  exact hu
end
section
variable {ops : Array Oper} {rest : List Oper} {o : Oper} {a : Act} {Q : Exit → Act → World → Prop}
theorem appP {W : World} {G : Nat → Prop} (hgd : o.guard = none) (s x : Operand)
    (ho : o.op = .call { callee := .builtin .append, args := #[s, x], argTypes := #[38, 38] })
    (v u : Value) (xs ys : List (Int × Int)) (hs : a.eval s = v) (hx : a.eval x = u)
    (HO : OwP W G v xs) (HR : RdP W u ys) (hl : (xs.length + ys.length) * 16 ≤ 140737488355328)
    (h : ∀ v1 w1, OwP w1 (ext G W w1) v1 (xs ++ ys) → Chg G W w1 → wpList Tryd.prog ops Q rest (a.put o.dst v1) w1) :
    wpList Tryd.prog ops Q (o :: rest) a W := by
  obtain ⟨A, c, hu, _, HR⟩ := HR
  exact Kd.R_append_rows kP (w0 := W) 0 hgd s x 38 42 (.agg #[.int .i64 0, .int .i64 0]) 16 ho Tryd.underlying38 info42 rfl (by decide) (by decide) v xs ys A _ c (fun k => G k ∨ W.heap.size ≤ k) (fun _ => False) hs (hx.trans hu) (Kd.R_mono HO.out (fun k hk => .inl hk)) HR (fun _ _ hk => hk) (fun _ hk => hk.elim) (fun _ hk => .inr hk) (Below.refl _ _) (Nat.zero_le _) hl
    (fun v1 w1 ho hb hg hat => h v1 w1 ⟨Kd.R_mono (Kd.R_bound ho) (fun k hk => hk.1.elim .inl (fun h => .inr ⟨h, hk.2.2.1⟩))⟩ (Chg.of_grown hg (fun k hk => HO.out.1 k hk)))
end
end Go.Proofs.YtkpadjhdneiniaaDoor.Sb
end

/- Kb: merge.Right; slices.Equal of numbers. -/
section
namespace Go.Proofs.YtkpadjhdneiniaaDoor.Sb
set_option linter.unusedVariables false
open Go.RowKit Go.Proofs.YtkpadjhdneiniaaDoorW.PrintWords Go.Proofs.YtkpadjhdneiniaaDoorW.PrintLast Go.Proofs.YtkpadjhdneiniaaDoorW.PrintMore Go.Maps
open Go.Proofs.YtkpadjhdneiniaaDoor.Base Go.Proofs.YtkpadjhdneiniaaDoor.Map Go.Proofs.YtkpadjhdneiniaaDoor.Sl Go.Proofs.YtkpadjhdneiniaaDoor.Ow Go.Proofs.YtkpadjhdneiniaaDoor.Se Go.Proofs.YtkpadjhdneiniaaDoor.Gr Go.Proofs.YtkpadjhdneiniaaDoor.Rf Go.Proofs.YtkpadjhdneiniaaDoor.Tx Go.Proofs.YtkpadjhdneiniaaDoor.St

theorem Tx_eq {s t : ByteArray} (h : s = t) : (s.toList == t.toList) = true := by subst h; simp
theorem Tx_ne {s t : ByteArray} (h : ¬ s = t) : (s.toList == t.toList) = false := by
  rw [ByteArray.toList_eq, ByteArray.toList_eq]
  simp only [beq_eq_false_iff_ne, ne_eq]
  exact fun e => h (toL_inj e)
/-- is an object's class right? -/
def OkM (T : List ByteArray) (tm : List Int) (i : Nat) : Prop := 0 ≤ cl tm i ∧ cl tm i ≤ (i : Int) ∧ tm.getD (cl tm i).toNat 0 = cl tm i ∧ typeG T (cl tm i) = typeG T (i : Int)
def RightM (T : List ByteArray) (tm : List Int) : Prop := tm.length = T.length ∧ ∀ i, i < tm.length → OkM T tm i
open Classical in
noncomputable instance (T : List ByteArray) (tm : List Int) : Decidable (RightM T tm) := Classical.propDecidable _
theorem RightM.hd {T : List ByteArray} {tm : List Int} (h : RightM T tm) : Hd T.length tm := ⟨h.1, fun i hi => by
  obtain ⟨h0, h1, h2, _⟩ := h.2 i (by rw [h.1]; exact hi)
  obtain ⟨k, hk⟩ := Int.eq_ofNat_of_zero_le h0
  refine ⟨k, hk, by omega, ?_⟩
  rw [hk] at h2
  exact h2⟩
set_option maxHeartbeats 8000000 in
set_option maxRecDepth 100000 in
theorem mright_any (p : Nat) (T : List ByteArray) (E : List GE) (u : Value) (tm : List Int) (w : World) (hG : GA w p T E) (hu : RdV w u tm) (hl : T.length ≤ 1000000) :
    Calls Tryd.prog 14 #[.pointer (some ⟨p, 0, none⟩), u] w fun e w' => e = .returned (.bool (decide (RightM T tm))) ∧ Below w.heap.size w w' := by
  have HG := Aside0.mk hG
  have HU := Aside0.mk hu
  have Hl := Aside0.mk hl
  obtain ⟨A, c, rfl, hc, hr⟩ := hu
  have HR := Aside0.mk hr
  obtain ⟨B, hB⟩ : ∃ B, decide (RightM T tm) = B := ⟨_, rfl⟩
  rw [hB]
  have HB := Aside0.mk hB
  have HLn := Aside0.mk (len_any p T E w hG)
  obtain ⟨n, hn⟩ : ∃ n, tm.length = n := ⟨_, rfl⟩
  obtain ⟨nT, hnT⟩ : ∃ n, T.length = n := ⟨_, rfl⟩
  have Hn := Aside0.mk (And.intro hn hnT)
  rw [hn]
  rw [hnT] at HLn
  have hmx := hr.max
  rw [hn] at hmx
  clear hG hl hc hr hB hn hnT
  by_cases hne : n = nT
  case neg =>
    have q1 : ((n : Int) != (nT : Int)) = true := by simp; omega
    have q2 : ((n : Int) == (nT : Int)) = false := by simp; omega
    have q3 : ¬ (n : Int) = (nT : Int) := by omega
    have hBf : B = false := by rw [← HB.out]; exact decide_eq_false (fun h => hne (by rw [← Hn.out.1, ← Hn.out.2]; exact h.1))
    have HBf := Aside0.mk hBf
    clear hne hBf
    go_enter Tryd.func14, Tryd.ntmps14
    go_wp2_with fail
    refine HLn.out.mono ?_
    rintro e w' ⟨rfl, rfl⟩
    go_wp2_with fail
    go_ret
    rw [HBf.out]
    exact ⟨rfl, Below.refl _ _⟩
  subst hne
  have q1 : ((n : Int) != (n : Int)) = false := by simp
  go_enter Tryd.func14, Tryd.ntmps14
  go_wp2_with fail
  refine HLn.out.mono ?_
  rintro e w' ⟨rfl, rfl⟩
  go_wp2_with fail
  go_loopw [18] (fun I wr => ∃ i : Nat, I = .int .i64 (i : Int) ∧ i ≤ n ∧ Aside0 (∀ j, j < i → OkM T tm j) ∧ Aside0 (Below w.heap.size w wr)) (fun I _ => n - (intOf I).toNat)
  case atStart => exact ⟨0, rfl, Nat.zero_le _, ⟨fun j h => absurd h (by omega)⟩, ⟨Below.refl _ _⟩⟩
  case round =>
    obtain ⟨i, rfl, hi, HO, HBl⟩ := hrel
    by_cases hin : i < n
    · have hnb : decide ((i : Int) < (n : Int)) = true := decide_eq_true (by omega)
      have hnc : decide (i < n) = true := decide_eq_true hin
      have hil : i < tm.length := by rw [Hn.out.1]; exact hin
      obtain ⟨ad, rfl, hx⟩ := (HR.out.below HBl.out).at_ (i : Int) (by omega) (by omega)
      have hx : wr.cell? (ad.add i) = some (.int .i64 (tm.getD i 0)) := by simpa [rd] using hx
      obtain ⟨x, hxx⟩ : ∃ x, tm.getD i 0 = x := ⟨_, rfl⟩
      rw [hxx] at hx
      have i0 : 0 ≤ (i : Int) := by omega
      have i1 : (i : Int) < (n : Int) := by omega
      have i2 : (i : Int) ≤ 1000000 := by have := Hl.out; have := Hn.out.2; omega
      have Hin := Aside0.mk (And.intro hin (And.intro hil hxx))
      have hbad : ¬ OkM T tm i → B = false := fun h => by rw [← HB.out]; exact decide_eq_false (fun hR => h (hR.2 i hil))
      have Hbad := Aside0.mk hbad
      clear hin hi hil hbad
      replace i0 := eq_true i0
      replace i1 := eq_true i1
      by_cases x0 : 0 ≤ x ∧ x ≤ (i : Int)
      · obtain ⟨m, rfl⟩ := Int.eq_ofNat_of_zero_le x0.1
        have hml : m < tm.length := by have := Hin.out.2.1; omega
        obtain ⟨ad2, had2, hy⟩ := (HR.out.below HBl.out).at_ (m : Int) (by omega) (by omega)
        cases had2
        have hy : wr.cell? (ad.add m) = some (.int .i64 (tm.getD m 0)) := by simpa [rd] using hy
        obtain ⟨y, hyy⟩ : ∃ y, tm.getD m 0 = y := ⟨_, rfl⟩
        rw [hyy] at hy
        have m0 : 0 ≤ (m : Int) := by omega
        have m1 : (m : Int) < (n : Int) := by have := Hin.out.1; omega
        have r1 : ¬ (m : Int) < 0 := by omega
        have r2 : ¬ (i : Int) < (m : Int) := by omega
        have r3 : decide ((m : Int) > (i : Int)) = false := decide_eq_false (by omega)
        replace m0 := eq_true m0
        replace m1 := eq_true m1
        by_cases hym : y = (m : Int)
        · subst hym
          have hym' : ((m : Int) != (m : Int)) = false := by simp
          have HT1 := Aside0.mk (type_any p T E (m : Int) wr (HG.out.below HBl.out) Hl.out)
          have HT2 := Aside0.mk (type_any p T E (i : Int) wr (HG.out.below HBl.out) Hl.out)
          have Hm := Aside0.mk (And.intro x0 hyy)
          clear x0 hyy hml
          go_wp2_with fail
          refine HT1.out.mono ?_
          rintro e w' ⟨rfl, rfl⟩
          go_wp2_with fail
          refine HT2.out.mono ?_
          rintro e w' ⟨rfl, rfl⟩
          by_cases hty : typeG T (m : Int) = typeG T (i : Int)
          · have hok : OkM T tm i := by
              unfold OkM cl
              rw [hxx]
              exact ⟨Hm.out.1.1, Hm.out.1.2, Hm.out.2, hty⟩
            have HO2 := Aside0.mk (fun (j : Nat) (hj : j < i + 1) => (show OkM T tm j by
              by_cases e : j = i
              · rw [e]; exact hok
              · exact HO.out j (by omega)))
            have he := Tx_eq hty
            clear hok
            go_wp2_with fail
            go_roundw
            case rel => exact ⟨i + 1, by go_num, Hin.out.1, HO2, HBl⟩
            case measure => have := Hin.out.1; simp [intOf]; omega
          · have hBf := Hbad.out (fun h => hty (by have := h.2.2.2; unfold cl at this; rw [hxx] at this; exact this))
            have he := Tx_ne hty
            have HBf := Aside0.mk hBf
            clear hBf
            go_wp2_with fail
            go_ret
            rw [HBf.out]
            exact ⟨rfl, HBl.out⟩
        · have hBf := Hbad.out (fun h => hym (by have := h.2.2.1; unfold cl at this; rw [hxx] at this; rw [← hyy]; simpa using this))
          have hym' : (y != (m : Int)) = true := by simpa using hym
          have HBf := Aside0.mk hBf
          clear hBf x0 hyy hml
          go_wp2_with fail
          go_ret
          rw [HBf.out]
          exact ⟨rfl, HBl.out⟩
      · have hBf := Hbad.out (fun h => x0 ⟨by have := h.1; unfold cl at this; rw [hxx] at this; exact this, by have := h.2.1; unfold cl at this; rw [hxx] at this; exact this⟩)
        have HBf := Aside0.mk hBf
        have hor : x < 0 ∨ (0 ≤ x ∧ (i : Int) < x) := by omega
        clear hBf x0
        rcases hor with h1 | ⟨h1, h2⟩
        · go_wp2_with fail
          go_ret
          rw [HBf.out]
          exact ⟨rfl, HBl.out⟩
        · have r1 : ¬ x < 0 := by omega
          have r3 : decide (x > (i : Int)) = true := decide_eq_true (by omega)
          go_wp2_with fail
          go_ret
          rw [HBf.out]
          exact ⟨rfl, HBl.out⟩
    · have hnb : decide ((i : Int) < (n : Int)) = false := decide_eq_false (by omega)
      have hnc : decide (i < n) = false := decide_eq_false hin
      obtain rfl : i = n := by omega
      have hBt : B = true := by rw [← HB.out]; exact decide_eq_true ⟨by rw [Hn.out.1, Hn.out.2], fun j hj => HO.out j (by rw [← Hn.out.1]; exact hj)⟩
      have HBt := Aside0.mk hBt
      clear hin hi hBt
      go_wp2_with fail
      go_ret
      rw [HBt.out]
      exact ⟨rfl, HBl.out⟩
end Go.Proofs.YtkpadjhdneiniaaDoor.Sb
end

/- Kc: slices.Equal of numbers, of pairs. -/
section
namespace Go.Proofs.YtkpadjhdneiniaaDoor.Sb
set_option linter.unusedVariables false
set_option linter.unusedSimpArgs false
open Go.RowKit Go.Proofs.YtkpadjhdneiniaaDoorW.PrintWords Go.Proofs.YtkpadjhdneiniaaDoorW.PrintLast Go.Proofs.YtkpadjhdneiniaaDoorW.PrintMore Go.Maps
open Go.Proofs.YtkpadjhdneiniaaDoor.Base Go.Proofs.YtkpadjhdneiniaaDoor.Map Go.Proofs.YtkpadjhdneiniaaDoor.Sl Go.Proofs.YtkpadjhdneiniaaDoor.Ow Go.Proofs.YtkpadjhdneiniaaDoor.Se Go.Proofs.YtkpadjhdneiniaaDoor.Gr Go.Proofs.YtkpadjhdneiniaaDoor.Rf Go.Proofs.YtkpadjhdneiniaaDoor.Tx Go.Proofs.YtkpadjhdneiniaaDoor.St

theorem take_eq_snoc {α : Type} {a b : List α} {i : Nat} (d : α) (h : a.take i = b.take i) (ha : i < a.length) (hb : i < b.length) (hx : a.getD i d = b.getD i d) : a.take (i + 1) = b.take (i + 1) := by
  rw [List.take_succ_eq_append_getElem ha, List.take_succ_eq_append_getElem hb, h]
  rw [List.getD_eq_getElem?_getD, List.getD_eq_getElem?_getD, List.getElem?_eq_getElem ha, List.getElem?_eq_getElem hb] at hx
  simp only [Option.getD_some] at hx
  rw [hx]
theorem eqg42 : Tryd.prog.eqGuardType Tryd.prog.depth 42 = false := by kernel_rfl
set_option maxRecDepth 100000 in
theorem eq42 (x1 x2 y1 y2 : Int) (W : World) : (Op.equalIn 10000 42 (.agg #[.int .i64 x1, .int .i64 x2]) (.agg #[.int .i64 y1, .int .i64 y2])).run Tryd.prog W = .ok (x1 == y1 && x2 == y2) W := by
  obtain ⟨i0, hi, hs⟩ := i3
  have hA := run_equalIn_array (P := Tryd.prog) W 9999 #[.int .i64 x1, .int .i64 x2] #[.int .i64 y1, .int .i64 y2] Tryd.underlying42 hi
  rw [cells3] at hA
  refine hA.trans ?_
  have p0 : ∀ (a b : Int), (part 3 #[.int .i64 a, .int .i64 b] (0 * 1)).run Tryd.prog W = .ok (.int .i64 a) W := fun a b => by go_simp
  have p1 : ∀ (a b : Int), (part 3 #[.int .i64 a, .int .i64 b] (1 * 1)).run Tryd.prog W = .ok (.int .i64 b) W := fun a b => by go_simp
  have r2 : List.range 2 = [0, 1] := rfl
  rw [r2]
  have q1 := run_equalIn_int (P := Tryd.prog) W 9998 3 .i64 .i64 x1 y1 Tryd.underlying3
  have q2 := run_equalIn_int (P := Tryd.prog) W 9998 3 .i64 .i64 x2 y2 Tryd.underlying3
  simp only [Op.eqItems, Sem.run_bind, p0, p1, q1, q2, Result.andThen_ok]
  have p2 : ∀ (a b : Int), (part 3 #[.int .i64 a, .int .i64 b] 1).run Tryd.prog W = .ok (.int .i64 b) W := p1
  by_cases h1 : x1 = y1
  · by_cases h2 : x2 = y2
    · subst h1; subst h2; simp [p2, q2]
    · subst h1; simp [h2, p2, q2]
  · simp [h1]

set_option maxHeartbeats 8000000 in
set_option maxRecDepth 100000 in
theorem eqI_any (u v : Value) (a b : List Int) (w : World) (hu : RdV w u a) (hv : RdV w v b) (hl : a.length ≤ 1000000) :
    Calls Tryd.prog 41 #[u, v] w fun e w' => e = .returned (.bool (decide (a = b))) ∧ Below w.heap.size w w' := by
  obtain ⟨A, c, rfl, hc, hr⟩ := hu
  obtain ⟨A', c', rfl, hc', hr'⟩ := hv
  have HR := Aside0.mk (And.intro hr hr')
  have Hl := Aside0.mk hl
  obtain ⟨B, hB⟩ : ∃ B, decide (a = b) = B := ⟨_, rfl⟩
  rw [hB]
  have HB := Aside0.mk hB
  obtain ⟨n, hn⟩ : ∃ n, a.length = n := ⟨_, rfl⟩
  obtain ⟨m, hm⟩ : ∃ n, b.length = n := ⟨_, rfl⟩
  have Hn := Aside0.mk (And.intro hn hm)
  rw [hn, hm]
  clear hr hr' hc hc' hl hB hn hm
  by_cases hne : n = m
  case neg =>
    have q1 : ((n : Int) != (m : Int)) = true := by simp; omega
    have q2 : ((n : Int) == (m : Int)) = false := by simp; omega
    have q3 : ¬ (n : Int) = (m : Int) := by omega
    have hBf : B = false := by rw [← HB.out]; exact decide_eq_false (fun h => hne (by rw [← Hn.out.1, ← Hn.out.2, h]))
    have HBf := Aside0.mk hBf
    clear hne hBf
    go_enter Tryd.func41, Tryd.ntmps41
    go_wp2_with fail
    go_ret
    rw [HBf.out]
    exact ⟨rfl, Below.refl _ _⟩
  subst hne
  have q1 : ((n : Int) != (n : Int)) = false := by simp
  go_enter Tryd.func41, Tryd.ntmps41
  go_wp2_with fail
  go_loopw [13] (fun I wr => ∃ i : Nat, I = .int .i64 (i : Int) ∧ i ≤ n ∧ Aside0 (a.take i = b.take i) ∧ Aside0 (Below w.heap.size w wr)) (fun I _ => n - (intOf I).toNat)
  case atStart => exact ⟨0, rfl, Nat.zero_le _, ⟨rfl⟩, ⟨Below.refl _ _⟩⟩
  case round =>
    obtain ⟨i, rfl, hi, HE, HBl⟩ := hrel
    by_cases hin : i < n
    · have hnb : decide ((i : Int) < (n : Int)) = true := decide_eq_true (by omega)
      have hnc : decide (i < n) = true := decide_eq_true hin
      have hia : i < a.length := by rw [Hn.out.1]; exact hin
      have hib : i < b.length := by rw [Hn.out.2]; exact hin
      obtain ⟨ad, rfl, e1⟩ := (HR.out.1.below HBl.out).at_ (i : Int) (by omega) (by omega)
      have e1 : wr.cell? (ad.add i) = some (.int .i64 (a.getD i 0)) := by simpa [rd] using e1
      obtain ⟨ad2, rfl, e2⟩ := (HR.out.2.below HBl.out).at_ (i : Int) (by omega) (by omega)
      have e2 : wr.cell? (ad2.add i) = some (.int .i64 (b.getD i 0)) := by simpa [rd] using e2
      obtain ⟨x, hxx⟩ : ∃ x, a.getD i 0 = x := ⟨_, rfl⟩
      obtain ⟨y, hyy⟩ : ∃ y, b.getD i 0 = y := ⟨_, rfl⟩
      rw [hxx] at e1
      rw [hyy] at e2
      have i0 : 0 ≤ (i : Int) := by omega
      have i1 : (i : Int) < (n : Int) := by omega
      have i2 : (i : Int) ≤ 1000000 := by have := Hl.out; have := Hn.out.1; omega
      have Hin := Aside0.mk (And.intro hin (And.intro hia hib))
      have HBw := Aside0.mk (below_drew HBl.out)
      clear hin hi hia hib
      replace i0 := eq_true i0
      replace i1 := eq_true i1
      by_cases hxy : x = y
      · subst hxy
        have Hst := Aside0.mk (take_eq_snoc 0 HE.out Hin.out.2.1 Hin.out.2.2 (hxx.trans hyy.symm))
        clear hxx hyy
        go_wp2_with fail
        go_region
        go_wp2_with fail
        go_roundw
        case rel => exact ⟨i + 1, by go_num, Hin.out.1, Hst, HBw⟩
        case measure => have := Hin.out.1; simp [intOf]; omega
      · have hBf : B = false := by rw [← HB.out]; exact decide_eq_false (fun h => hxy (by rw [← hxx, ← hyy, h]))
        have HBf := Aside0.mk hBf
        have h1 : (x != y) = true := by simpa using hxy
        clear hBf hxx hyy
        go_wp2_with fail
        go_region
        go_wp2_with fail
        go_ret
        rw [HBf.out]
        exact ⟨rfl, HBw.out⟩
    · have hnb : decide ((i : Int) < (n : Int)) = false := decide_eq_false (by omega)
      have hnc : decide (i < n) = false := decide_eq_false hin
      obtain rfl : i = n := by omega
      have hBt : B = true := by
        rw [← HB.out]
        have h := HE.out
        rw [List.take_of_length_le (by rw [Hn.out.1]; exact Nat.le_refl _), List.take_of_length_le (by rw [Hn.out.2]; exact Nat.le_refl _)] at h
        exact decide_eq_true h
      have HBt := Aside0.mk hBt
      clear hin hi hBt
      go_wp2_with fail
      go_ret
      rw [HBt.out]
      exact ⟨rfl, HBl.out⟩

set_option maxHeartbeats 8000000 in
set_option maxRecDepth 100000 in
theorem eqP_any (u v : Value) (a b : List (Int × Int)) (w : World) (hu : RdP w u a) (hv : RdP w v b) (hl : a.length ≤ 1000000) :
    Calls Tryd.prog 28 #[u, v] w fun e w' => e = .returned (.bool (decide (a = b))) ∧ Below w.heap.size w w' := by
  obtain ⟨A, c, rfl, hc, hr⟩ := hu
  obtain ⟨A', c', rfl, hc', hr'⟩ := hv
  have HR := Aside0.mk (And.intro hr hr')
  have Hl := Aside0.mk hl
  obtain ⟨B, hB⟩ : ∃ B, decide (a = b) = B := ⟨_, rfl⟩
  rw [hB]
  have HB := Aside0.mk hB
  obtain ⟨n, hn⟩ : ∃ n, a.length = n := ⟨_, rfl⟩
  obtain ⟨m, hm⟩ : ∃ n, b.length = n := ⟨_, rfl⟩
  have Hn := Aside0.mk (And.intro hn hm)
  rw [hn, hm]
  clear hr hr' hc hc' hl hB hn hm
  by_cases hne : n = m
  case neg =>
    have q1 : ((n : Int) != (m : Int)) = true := by simp; omega
    have q2 : ((n : Int) == (m : Int)) = false := by simp; omega
    have q3 : ¬ (n : Int) = (m : Int) := by omega
    have hBf : B = false := by rw [← HB.out]; exact decide_eq_false (fun h => hne (by rw [← Hn.out.1, ← Hn.out.2, h]))
    have HBf := Aside0.mk hBf
    clear hne hBf
    go_enter Tryd.func28, Tryd.ntmps28
    go_wp2_with fail
    go_ret
    rw [HBf.out]
    exact ⟨rfl, Below.refl _ _⟩
  subst hne
  have q1 : ((n : Int) != (n : Int)) = false := by simp
  go_enter Tryd.func28, Tryd.ntmps28
  go_wp2_with fail
  go_loopw [13] (fun I wr => ∃ i : Nat, I = .int .i64 (i : Int) ∧ i ≤ n ∧ Aside0 (a.take i = b.take i) ∧ Aside0 (Below w.heap.size w wr)) (fun I _ => n - (intOf I).toNat)
  case atStart => exact ⟨0, rfl, Nat.zero_le _, ⟨rfl⟩, ⟨Below.refl _ _⟩⟩
  case round =>
    obtain ⟨i, rfl, hi, HE, HBl⟩ := hrel
    by_cases hin : i < n
    · have hnb : decide ((i : Int) < (n : Int)) = true := decide_eq_true (by omega)
      have hnc : decide (i < n) = true := decide_eq_true hin
      have hia : i < a.length := by rw [Hn.out.1]; exact hin
      have hib : i < b.length := by rw [Hn.out.2]; exact hin
      obtain ⟨ad, rfl, e1, e1'⟩ := C_atP (Kd.C_below HR.out.1 HBl.out) i hia
      obtain ⟨ad2, rfl, e2, e2'⟩ := C_atP (Kd.C_below HR.out.2 HBl.out) i hib
      obtain ⟨x, hxx⟩ : ∃ x, a.getD i (0, 0) = x := ⟨_, rfl⟩
      obtain ⟨y, hyy⟩ : ∃ y, b.getD i (0, 0) = y := ⟨_, rfl⟩
      rw [hxx] at e1 e1'
      rw [hyy] at e2 e2'
      obtain ⟨x1, x2⟩ := x
      obtain ⟨y1, y2⟩ := y
      have i0 : 0 ≤ (i : Int) := by omega
      have i1 : (i : Int) < (n : Int) := by omega
      have i2 : (i : Int) ≤ 1000000 := by have := Hl.out; have := Hn.out.1; omega
      have Hin := Aside0.mk (And.intro hin (And.intro hia hib))
      have HBw := Aside0.mk (below_drew HBl.out)
      clear hin hi hia hib
      replace i0 := eq_true i0
      replace i1 := eq_true i1
      by_cases hxy : (x1, x2) = (y1, y2)
      · have hx1 : x1 = y1 := congrArg Prod.fst hxy
        have hx2 : x2 = y2 := congrArg Prod.snd hxy
        subst hx1
        subst hx2
        have hq := fun W => (eq42 x1 x2 x1 x2 W).trans (by simp : _ = Result.ok true W)
        have hg := eqg42
        have Hst := Aside0.mk (take_eq_snoc (0, 0) HE.out Hin.out.2.1 Hin.out.2.2 (hxx.trans hyy.symm))
        clear hxx hyy
        go_wp2_with fail
        go_region
        go_wp2_with fail
        go_roundw
        case rel => exact ⟨i + 1, by go_num, Hin.out.1, Hst, HBw⟩
        case measure => have := Hin.out.1; simp [intOf]; omega
      · have hBf : B = false := by rw [← HB.out]; exact decide_eq_false (fun h => hxy (by rw [← hxx, ← hyy, h]))
        have HBf := Aside0.mk hBf
        have h1 : (x1 == y1 && x2 == y2) = false := by
          by_cases e1 : x1 = y1
          · have e2 : ¬ x2 = y2 := fun e => hxy (by rw [e1, e])
            simp [e2]
          · simp [e1]
        have hq := fun W => (eq42 x1 x2 y1 y2 W).trans (by rw [h1])
        have hg := eqg42
        clear hBf hxx hyy
        go_wp2_with fail
        go_region
        go_wp2_with fail
        go_ret
        rw [HBf.out]
        exact ⟨rfl, HBw.out⟩
    · have hnb : decide ((i : Int) < (n : Int)) = false := decide_eq_false (by omega)
      have hnc : decide (i < n) = false := decide_eq_false hin
      obtain rfl : i = n := by omega
      have hBt : B = true := by
        rw [← HB.out]
        have h := HE.out
        rw [List.take_of_length_le (by rw [Hn.out.1]; exact Nat.le_refl _), List.take_of_length_le (by rw [Hn.out.2]; exact Nat.le_refl _)] at h
        exact decide_eq_true h
      have HBt := Aside0.mk hBt
      clear hin hi hBt
      go_wp2_with fail
      go_ret
      rw [HBt.out]
      exact ⟨rfl, HBl.out⟩
end Go.Proofs.YtkpadjhdneiniaaDoor.Sb
end

/- Kd: stable.marks. -/
section
namespace Go.Proofs.YtkpadjhdneiniaaDoor.Sb
set_option linter.unusedVariables false
open Go.RowKit Go.Proofs.YtkpadjhdneiniaaDoorW.PrintWords Go.Proofs.YtkpadjhdneiniaaDoorW.PrintLast Go.Proofs.YtkpadjhdneiniaaDoorW.PrintMore Go.Maps
open Go.Proofs.YtkpadjhdneiniaaDoor.Base Go.Proofs.YtkpadjhdneiniaaDoor.Map Go.Proofs.YtkpadjhdneiniaaDoor.Sl Go.Proofs.YtkpadjhdneiniaaDoor.Ow Go.Proofs.YtkpadjhdneiniaaDoor.Se Go.Proofs.YtkpadjhdneiniaaDoor.Gr Go.Proofs.YtkpadjhdneiniaaDoor.Rf Go.Proofs.YtkpadjhdneiniaaDoor.Tx Go.Proofs.YtkpadjhdneiniaaDoor.St

theorem chg_own {w wr w2 : World} {G : Nat → Prop} (hB : Below w.heap.size w wr) (hG : ∀ k, G k → w.heap.size ≤ k) (hC : Chg G wr w2) : Below w.heap.size w w2 :=
  ((Chg.of_below hB (fun _ => False)).then_ hC (fun k hk => .inr (hG k hk))).below (Nat.le_refl _) (fun k hk => hk.elim)
theorem ext_own {w wr w2 : World} {G : Nat → Prop} (hB : Below w.heap.size w wr) (hG : ∀ k, G k → w.heap.size ≤ k) : ∀ k, ext G wr w2 k → w.heap.size ≤ k :=
  fun k hk => hk.elim (hG k) (fun h => by have h1 := h.1; have h2 := hB.size; omega)
theorem getD_memI {l : List Int} {i : Nat} (h : i < l.length) : l.getD i 0 ∈ l := by
  rw [List.getD_eq_getElem?_getD, List.getElem?_eq_getElem h]; exact List.getElem_mem h
theorem compact_srt (l : List Int) : Lib.compact (sortL l) = srtL l := compact_sort l
theorem len_fields (E : List GE) (os : List Int) : (fieldsG E os).length ≤ E.length := fieldsT_len E os
theorem len_srtL (l : List Int) : (srtL l).length ≤ l.length := by
  have h : ∀ l ns : List Int, (Sl.insL l ns).length ≤ l.length + ns.length := fun l ns => by
    induction ns generalizing l with
    | nil => simp [Sl.insL]
    | cons n ns ih =>
      have h1 : Sl.insL l (n :: ns) = Sl.insL (ins l n) ns := rfl
      have h2 := ins_len_le l n
      have h3 := ih (ins l n)
      rw [h1, List.length_cons]
      omega
  have := h [] l
  simpa [srtL] using this
/-- the marks of the first i fields -/
def marksT (E : List GE) (tm : List Int) (o : Int) (i : Nat) : List (Int × Int) := ((fieldsG E [o]).take i).flatMap fun f => (clsG E tm f o).map fun c => (f, c)
theorem marksT_all (E : List GE) (tm : List Int) (o : Int) : marksT E tm o (fieldsG E [o]).length = marksG E tm o := by unfold marksT marksG; rw [List.take_length]
theorem marksT_more (E : List GE) (tm : List Int) (o : Int) {i : Nat} (hi : i < (fieldsG E [o]).length) {f : Int} (hf : (fieldsG E [o]).getD i 0 = f) : marksT E tm o (i + 1) = marksT E tm o i ++ (clsG E tm f o).map fun c => (f, c) := by
  unfold marksT
  rw [Rf.take_get _ i hi, hf, List.flatMap_append]
  simp
theorem cls_len (E : List GE) (tm : List Int) (f o : Int) : (clsG E tm f o).length ≤ E.length := by
  unfold clsG
  refine Nat.le_trans (len_srtL _) ?_
  rw [List.length_map]; exact next_len E f [o]
theorem marksT_len (E : List GE) (tm : List Int) (o : Int) (i : Nat) : (marksT E tm o i).length ≤ E.length * E.length := by
  unfold marksT
  have h : ∀ l : List Int, (l.flatMap fun f => (clsG E tm f o).map fun c => (f, c)).length ≤ l.length * E.length := fun l => by
    induction l with
    | nil => simp
    | cons a l ih =>
      rw [List.flatMap_cons, List.length_append, List.length_map, List.length_cons, Nat.succ_mul]
      have := cls_len E tm a o
      omega
  refine Nat.le_trans (h _) (Nat.mul_le_mul_right _ ?_)
  have h2 : ((fieldsG E [o]).take i).length ≤ (fieldsG E [o]).length := by rw [List.length_take]; omega
  exact Nat.le_trans h2 (len_fields E [o])
end Go.Proofs.YtkpadjhdneiniaaDoor.Sb
end

/- Ke: stable.marks: its walk. -/
section
namespace Go.Proofs.YtkpadjhdneiniaaDoor.Sb
set_option linter.unusedVariables false
open Go.RowKit Go.Proofs.YtkpadjhdneiniaaDoorW.PrintWords Go.Proofs.YtkpadjhdneiniaaDoorW.PrintLast Go.Proofs.YtkpadjhdneiniaaDoorW.PrintMore Go.Maps
open Go.Proofs.YtkpadjhdneiniaaDoor.Base Go.Proofs.YtkpadjhdneiniaaDoor.Map Go.Proofs.YtkpadjhdneiniaaDoor.Sl Go.Proofs.YtkpadjhdneiniaaDoor.Ow Go.Proofs.YtkpadjhdneiniaaDoor.Se Go.Proofs.YtkpadjhdneiniaaDoor.Gr Go.Proofs.YtkpadjhdneiniaaDoor.Rf Go.Proofs.YtkpadjhdneiniaaDoor.Tx Go.Proofs.YtkpadjhdneiniaaDoor.St

set_option maxHeartbeats 16000000 in
set_option maxRecDepth 100000 in
theorem marks_any (p : Nat) (T : List ByteArray) (E : List GE) (o : Int) (u : Value) (tm : List Int) (w : World) (hG : GA w p T E) (hT : TZ w) (hu : RdV w u tm) (hR : RightG T.length E) (hok : ∀ a f z, (a, f, z) ∈ E → ok64 f) (hoa : ∀ a f z, (a, f, z) ∈ E → ok64 a) (ho : ok64 o)
    (hn : tm.length = T.length) (hl : T.length ≤ 1000 ∧ E.length ≤ 1000) :
    Calls Tryd.prog 29 #[.pointer (some ⟨p, 0, none⟩), .int .i64 o, u] w fun e w' => ∃ v, e = .returned v ∧ RdP w' v (marksG E tm o) ∧ Below w.heap.size w w' := by
  have HG := Aside0.mk hG
  have HT := Aside0.mk hT
  have HU := Aside0.mk hu
  have Hok := Aside0.mk (And.intro hok (And.intro hoa (And.intro ho hR)))
  have Hl := Aside0.mk (And.intro hn hl)
  obtain ⟨A, c, rfl, hc, hr⟩ := hu
  have HR := Aside0.mk hr
  obtain ⟨n, hnn⟩ : ∃ n, tm.length = n := ⟨_, rfl⟩
  have Hn := Aside0.mk hnn
  have hEE : E.length * E.length ≤ 1000000 := Nat.mul_le_mul hl.2 hl.2
  have HEE := Aside0.mk hEE
  rw [hnn] at HU ⊢
  clear hG hT hok hoa ho hn hl hc hr hR hnn hEE
  go_enter Tryd.func29, Tryd.ntmps29
  go_wp2_with fail
  obtain ⟨w1, hw1⟩ : ∃ w1, w.alloc (.cells #[.int .i64 o] 3) = w1 := ⟨_, rfl⟩
  have b1 : Below w.heap.size w w1 := by rw [← hw1]; exact below_alloc (Below.refl _ _) _
  have t1 : RdV w1 (.slice (some ⟨w.heap.size, 0, none⟩) 1 1) [o] := rdV_lit (l := [o]) (by rw [← hw1]; exact heap_alloc_new _ _) rfl (by simp)
  have ho1 : ∀ x ∈ [o], ok64 x := fun x hx => by rw [List.mem_singleton] at hx; subst hx; exact Hok.out.2.2.1
  have HF := Aside0.mk (fields_any p T E _ [o] w1 (HG.out.below b1) t1 Hok.out.2.1 ho1 (by have := Hl.out; omega) (by simp))
  have HB1 := Aside0.mk b1
  rw [hw1]
  clear hw1 b1 t1 ho1
  refine HF.out.mono ?_
  rintro e w2 ⟨v18, rfl, r1, r2⟩
  have H18 := Aside0.mk (OwI.toV r1)
  have HB2 := Aside0.mk (bel_trans HB1.out r2)
  clear r1 r2 HF
  have hfo : ∀ f ∈ fieldsG E [o], ok64 f := fun f hf => by obtain ⟨a, b, h, _⟩ := mem_fieldsG.1 hf; exact Hok.out.1 _ _ _ h
  have hfm := fun i (hi : i < (fieldsG E [o]).length) (f : Int) (hf : (fieldsG E [o]).getD i 0 = f) => marksT_more E tm o hi hf
  have hfl := len_fields E [o]
  have hfa := marksT_all E tm o
  obtain ⟨L, hL⟩ : ∃ l, fieldsG E [o] = l := ⟨_, rfl⟩
  rw [hL] at H18 hfo hfm hfl hfa
  obtain ⟨A8, c8, rfl, -, hr8⟩ := H18.out
  obtain ⟨m, hm⟩ : ∃ m, L.length = m := ⟨_, rfl⟩
  have HL := Aside0.mk (And.intro hr8 (And.intro hm (And.intro hfo (And.intro hfm (And.intro hfl hfa)))))
  rw [hm]
  clear hL hr8 hm hfo hfm hfl hfa H18
  go_wp2_with fail
  go_loopw [7, 20] (fun V I wr => ∃ (i : Nat) (F : Nat → Prop), I = .int .i64 (i : Int) ∧ i ≤ m ∧ Aside0 (OwP wr F V (marksT E tm o i)) ∧ Aside0 (∀ k, F k → w2.heap.size ≤ k ∧ k < wr.heap.size) ∧ Aside0 (Below w2.heap.size w2 wr)) (fun _ I _ => m - (intOf I).toNat)
  case atStart => exact ⟨0, fun _ => False, rfl, Nat.zero_le _, ⟨OwP.nil _ _⟩, ⟨fun k hk => hk.elim⟩, ⟨Below.refl _ _⟩⟩
  case round =>
    obtain ⟨i, F, rfl, hi, HO, HFb, HB⟩ := hrel
    by_cases hin : i < m
    · have hnb : decide ((i : Int) < (m : Int)) = true := decide_eq_true (by omega)
      have hnc : decide (i < m) = true := decide_eq_true hin
      have hil : i < L.length := by rw [HL.out.2.1]; exact hin
      obtain ⟨ad, rfl, hx⟩ := (HL.out.1.below HB.out).at_ (i : Int) (by omega) (by omega)
      have hx : wr.cell? (ad.add i) = some (.int .i64 (L.getD i 0)) := by simpa [rd] using hx
      have hfo := HL.out.2.2.1 _ (getD_memI hil)
      obtain ⟨f, hff⟩ : ∃ f, L.getD i 0 = f := ⟨_, rfl⟩
      have hst := HL.out.2.2.2.1 i hil f hff
      rw [hff] at hx hfo
      have i0 : 0 ≤ (i : Int) := by omega
      have i1 : (i : Int) < (m : Int) := by omega
      have i2 : (i : Int) ≤ 1000000 := by have := HL.out.2.2.2.2.1; have := Hl.out; have := HL.out.2.1; omega
      have Hin := Aside0.mk (And.intro hin hst)
      obtain ⟨w3, hw3⟩ : ∃ w3, wr.alloc (.cells #[.int .i64 o] 3) = w3 := ⟨_, rfl⟩
      have b3 : Below wr.heap.size wr w3 := by rw [← hw3]; exact below_alloc (Below.refl _ _) _
      have t3 : RdV w3 (.slice (some ⟨wr.heap.size, 0, none⟩) 1 1) [o] := rdV_lit (l := [o]) (by rw [← hw3]; exact heap_alloc_new _ _) rfl (by simp)
      have hBw := bel_trans HB2.out (bel_trans HB.out b3)
      have HN := Aside0.mk (next_any p T E f _ [o] w3 (HG.out.below hBw) t3 (HT.out.below hBw) hfo (fun x hx => by rw [List.mem_singleton] at hx; subst hx; exact Hok.out.2.2.1) (by simp))
      have HB3 := Aside0.mk b3
      have HBw := Aside0.mk hBw
      clear hin hi hil hff hfo hst b3 t3 hBw
      replace i0 := eq_true i0
      replace i1 := eq_true i1
      go_wp2_with fail
      clear hw3
      refine HN.out.mono ?_
      rintro e w4 ⟨v28, rfl, r1, r2⟩
      have H28 := Aside0.mk (OwI.toV r1)
      have HB4 := Aside0.mk (bel_trans HB3.out r2)
      have HBw4 := Aside0.mk (bel_trans HBw.out r2)
      clear r1 r2 HN
      have HOb := Aside0.mk (HO.out.below HB4.out)
      have hxm : ∀ x ∈ nextG E f [o], 0 ≤ x ∧ x < (n : Int) := fun x hx => by
        obtain ⟨a, h1, _⟩ := mem_nextG.1 hx
        have h2 := Hok.out.2.2.2 _ h1
        have h3 := Hn.out
        have h4 := Hl.out.1
        exact ⟨h2.2.2.1, by have := h2.2.2.2; simp only at this; omega⟩
      have hcl : clsG E tm f o = srtL ((nextG E f [o]).map fun x => tm.getD x.toNat 0) := rfl
      have hnl := next_len E f [o]
      obtain ⟨L2, hL2⟩ : ∃ l, nextG E f [o] = l := ⟨_, rfl⟩
      rw [hL2] at H28 hxm hcl hnl
      obtain ⟨A9, c9, rfl, -, hr9⟩ := H28.out
      obtain ⟨m2, hm2⟩ : ∃ m, L2.length = m := ⟨_, rfl⟩
      have HL2 := Aside0.mk (And.intro hr9 (And.intro hm2 (And.intro hxm (And.intro hnl hcl))))
      rw [hm2]
      clear hL2 hr9 hm2 hxm hnl hcl H28
      go_wp2_with fail
      go_loopw [10, 30] (fun V I wx => ∃ (k : Nat) (G : Nat → Prop), I = .int .i64 (k : Int) ∧ k ≤ m2 ∧ Aside0 (OwF wx G V ((L2.take k).map fun x => tm.getD x.toNat 0)) ∧ Aside0 (∀ k, G k → w4.heap.size ≤ k) ∧ Aside0 (Below w4.heap.size w4 wx)) (fun _ I _ => m2 - (intOf I).toNat)
      case atStart => exact ⟨0, fun _ => False, rfl, Nat.zero_le _, ⟨OwF.nil _ _⟩, ⟨fun k hk => hk.elim⟩, ⟨Below.refl _ _⟩⟩
      case round =>
        obtain ⟨k, G, rfl, hk, HC, HGb, HBk⟩ := hrel
        by_cases hkn : k < m2
        · have hnb : decide ((k : Int) < (m2 : Int)) = true := decide_eq_true (by omega)
          have hnc : decide (k < m2) = true := decide_eq_true hkn
          have hkl : k < L2.length := by rw [HL2.out.2.1]; exact hkn
          obtain ⟨ad2, rfl, hy⟩ := (HL2.out.1.below HBk.out).at_ (k : Int) (by omega) (by omega)
          have hy : wr.cell? (ad2.add k) = some (.int .i64 (L2.getD k 0)) := by simpa [rd] using hy
          have hyb := HL2.out.2.2.1 _ (getD_memI hkl)
          obtain ⟨y, hyy⟩ : ∃ y, L2.getD k 0 = y := ⟨_, rfl⟩
          rw [hyy] at hy hyb
          obtain ⟨q, rfl⟩ := Int.eq_ofNat_of_zero_le hyb.1
          have hql : q < tm.length := by rw [Hn.out]; omega
          obtain ⟨ad3, rfl, hz⟩ := (HR.out.below (bel_trans HBw4.out HBk.out)).at_ (q : Int) (by omega) (by omega)
          have hz : wr.cell? (ad3.add q) = some (.int .i64 (tm.getD q 0)) := by simpa [rd] using hz
          obtain ⟨z, hzz⟩ : ∃ z, tm.getD q 0 = z := ⟨_, rfl⟩
          rw [hzz] at hz
          have htk : (L2.take (k + 1)).map (fun x => tm.getD x.toNat 0) = (L2.take k).map (fun x => tm.getD x.toNat 0) ++ [z] := by
            rw [Rf.take_get L2 k hkl, List.map_append, hyy]; simp [← hzz]
          have k0 : 0 ≤ (k : Int) := by omega
          have k1 : (k : Int) < (m2 : Int) := by omega
          have k2 : (k : Int) ≤ 1000000 := by have := HL2.out.2.2.2.1; have := Hl.out; have := HL2.out.2.1; omega
          have q0 : 0 ≤ (q : Int) := by omega
          have q1 : (q : Int) < (n : Int) := hyb.2
          have Hk := Aside0.mk (And.intro hkn htk)
          have Hlen := Aside0.mk (show ((L2.take k).map fun x => tm.getD x.toNat 0).length ≤ 1000000 by rw [List.length_map, List.length_take]; omega)
          clear hkn hk hkl hyb hyy hzz htk hql
          replace k0 := eq_true k0
          replace k1 := eq_true k1
          replace q0 := eq_true q0
          replace q1 := eq_true q1
          have hal : Below wr.heap.size wr (wr.alloc (.cells #[.int .i64 z] 3)) := below_alloc (Below.refl _ _) _
          have HC3 := Aside0.mk (HC.out.below hal)
          have HRd : Aside0 (RdV (wr.alloc (.cells #[.int .i64 z] 3)) (.slice (some ⟨wr.heap.size, 0, none⟩) 1 1) [z]) := ⟨RdV.one (blk_cell (heap_alloc_new _ _) 0)⟩
          have HB5 := Aside0.mk (bel_trans HBk.out hal)
          clear hal
          go_wp2_with (first | (at_builtin; refine appF (G := G) rfl (.tmp 34) (.tmp 39) rfl u10 (.slice (some ⟨wr.heap.size, 0, none⟩) 1 1) ((L2.take k).map fun x => tm.getD x.toNat 0) [z] (by rfl) (by rfl) HC3.out HRd.out (by have := Hlen.out; have e1 : [z].length = 1 := rfl; omega) ?_; intro v1 w5 ho1 hc1) | go_in)
          have HB6 := Aside0.mk (chg_own HB5.out HGb.out hc1)
          have HG6 := Aside0.mk (ext_own (w2 := w5) HB5.out HGb.out)
          have HO6 := Aside0.mk ho1
          clear ho1 hc1
          go_roundw
          case rel => exact ⟨k + 1, _, by go_num, Hk.out.1, ⟨by rw [Hk.out.2]; exact HO6.out⟩, HG6, HB6⟩
          case measure => have := Hk.out.1; simp [intOf]; omega
        · have hnb : decide ((k : Int) < (m2 : Int)) = false := decide_eq_false (by omega)
          have hnc : decide (k < m2) = false := decide_eq_false hkn
          obtain rfl : k = m2 := by omega
          have ht : L2.take k = L2 := List.take_of_length_le (by rw [HL2.out.2.1]; exact Nat.le_refl _)
          rw [ht] at HC
          have Hlen := Aside0.mk (show (L2.map fun x => tm.getD x.toNat 0).length ≤ 1000000 by rw [List.length_map]; have := HL2.out.2.2.2.1; have := Hl.out; omega)
          clear hkn hk ht
          go_wp2_with fail
          refine (sort_own _ _ G _ HC.out (by have := Hlen.out; omega)).mono ?_
          rintro e w5 ⟨rfl, r1, r2⟩
          have HC5 := Aside0.mk r1
          have HB5 := Aside0.mk (chg_own HBk.out HGb.out r2)
          clear r1 r2
          go_wp2_with fail
          refine (compact_own _ _ G _ HC5.out).mono ?_
          rintro e w6 ⟨v45, rfl, r1, r2⟩
          rw [compact_srt, ← HL2.out.2.2.2.2] at r1
          have HC6 := Aside0.mk r1.bound
          have HB6 := Aside0.mk (chg_own HB5.out HGb.out r2)
          clear r1 r2
          obtain ⟨A45, c45, rfl, -, -⟩ := HC6.out.toV
          have hcl := cls_len E tm f o
          have hst := Hin.out.2
          obtain ⟨C, hC⟩ : ∃ C, clsG E tm f o = C := ⟨_, rfl⟩
          rw [hC] at HC6 hcl hst ⊢
          obtain ⟨m3, hm3⟩ : ∃ m, C.length = m := ⟨_, rfl⟩
          rw [hm3] at HC6 ⊢
          have Hm3 := Aside0.mk (And.intro hm3 (And.intro hcl hst))
          have HO6 := Aside0.mk (HOb.out.below HB6.out)
          have HS4 := Aside0.mk (show w2.heap.size ≤ w4.heap.size from Nat.le_trans HB.out.size HB4.out.size)
          have HB26 := Aside0.mk (bel_trans HB.out (bel_trans HB4.out HB6.out))
          clear hcl hst hC hm3
          go_wp2_with fail
          go_loopw [7, 47] (fun V I wx => ∃ (k : Nat) (F' : Nat → Prop), I = .int .i64 (k : Int) ∧ k ≤ m3 ∧ Aside0 (OwP wx F' V (marksT E tm o i ++ (C.take k).map fun c => (f, c))) ∧ Aside0 (OwF wx (fun k => G k ∧ k < w6.heap.size) (.slice A45 m3 c45) C) ∧ Aside0 (∀ j, F' j → w2.heap.size ≤ j ∧ j < wx.heap.size) ∧ Aside0 (∀ j, F' j → ¬ (G j ∧ j < w6.heap.size)) ∧ Aside0 (Below w2.heap.size w2 wx ∧ w6.heap.size ≤ wx.heap.size)) (fun _ I _ => m3 - (intOf I).toNat)
          case atStart => exact ⟨0, F, rfl, Nat.zero_le _, ⟨by rw [List.take_zero, List.map_nil, List.append_nil]; exact HO6.out⟩, HC6, ⟨fun j hj => ⟨(HFb.out j hj).1, by have h1 := (HFb.out j hj).2; have h2 := HB4.out.size; have h3 := HB6.out.size; omega⟩⟩, ⟨fun j hj hg => by have h1 := (HFb.out j hj).2; have h2 := HB4.out.size; have h3 := HGb.out j hg.1; omega⟩, ⟨HB26.out, Nat.le_refl _⟩⟩
          case round =>
            obtain ⟨q, F', rfl, hq, HV, HC, HFb', HFG, HBq⟩ := hrel
            by_cases hqn : q < m3
            · have hnb : decide ((q : Int) < (m3 : Int)) = true := decide_eq_true (by omega)
              have hnc : decide (q < m3) = true := decide_eq_true hqn
              have hql : q < C.length := by rw [Hm3.out.1]; exact hqn
              obtain ⟨A', c', e', hc', hr'⟩ := HC.out.toV
              injection e' with ea eb ec
              obtain ⟨ad4, had, hz⟩ := hr'.at_ (q : Int) (by omega) (by omega)
              have had2 := ea.trans had
              clear ea eb ec hr' had hc'
              subst had2
              have hz : wr.cell? (ad4.add q) = some (.int .i64 (C.getD q 0)) := by simpa [rd] using hz
              obtain ⟨z, hzz⟩ : ∃ z, C.getD q 0 = z := ⟨_, rfl⟩
              rw [hzz] at hz
              have htk : (marksT E tm o i ++ (C.take q).map fun c => (f, c)) ++ [(f, z)] = marksT E tm o i ++ (C.take (q + 1)).map fun c => (f, c) := by
                rw [Rf.take_get C q hql, List.map_append, hzz, List.append_assoc]; rfl
              have q0 : 0 ≤ (q : Int) := by omega
              have q1 : (q : Int) < (m3 : Int) := by omega
              have q2 : (q : Int) ≤ 1000000 := by have := Hm3.out.2.1; have := Hl.out; have := Hm3.out.1; omega
              have Hq := Aside0.mk (And.intro hqn htk)
              have Hlen := Aside0.mk (show (marksT E tm o i ++ (C.take q).map fun c => (f, c)).length ≤ 2000000 by
                have h1 := marksT_len E tm o i
                have h2 := HEE.out
                have h3 := Hm3.out.2.1
                have h4 := Hl.out
                rw [List.length_append, List.length_map, List.length_take]; omega)
              clear hqn hq hql hzz htk
              replace q0 := eq_true q0
              replace q1 := eq_true q1
              have hal : Below wr.heap.size wr (wr.alloc (.cells #[.int .i64 f, .int .i64 z] 42)) := below_alloc (Below.refl _ _) _
              have HV3 := Aside0.mk (HV.out.below hal)
              have HC3 := Aside0.mk (HC.out.below hal)
              have HRd : Aside0 (RdP (wr.alloc (.cells #[.int .i64 f, .int .i64 z] 42)) (.slice (some ⟨wr.heap.size, 0, none⟩) 1 1) [(f, z)]) := ⟨RdP.lit (heap_alloc_new _ _)⟩
              have HB7 := Aside0.mk (bel_trans HBq.out.1 hal)
              have Hsz := Aside0.mk (Nat.le_trans HBq.out.2 hal.size)
              clear hal
              go_wp2_with (first | (at_builtin; refine appP (G := F') rfl (.tmp 51) (.tmp 55) rfl u7 (.slice (some ⟨wr.heap.size, 0, none⟩) 1 1) (marksT E tm o i ++ (C.take q).map fun c => (f, c)) [(f, z)] (by rfl) (by rfl) HV3.out HRd.out (by have := Hlen.out; have e1 : [(f, z)].length = 1 := rfl; omega) ?_; intro v1 w7 ho1 hc1) | go_in)
              have HB8 := Aside0.mk (chg_own (w := w2) HB7.out (fun k hk => (HFb'.out k hk).1) hc1)
              have HC8 := Aside0.mk (HC3.out.chg hc1 (fun k hk hf => HFG.out k hf hk))
              have HF8 := Aside0.mk (show ∀ j, ext F' (wr.alloc (.cells #[.int .i64 f, .int .i64 z] 42)) w7 j → w2.heap.size ≤ j ∧ j < w7.heap.size from fun j hj => hj.elim (fun h => ⟨(HFb'.out j h).1, by have h1 := (HFb'.out j h).2; have h2 := hc1.size; have h3 : (wr.alloc (.cells #[.int .i64 f, .int .i64 z] 42)).heap.size = wr.heap.size + 1 := Array.size_push ..; omega⟩) (fun h => ⟨by have h1 := h.1; have h2 := HB7.out.size; omega, h.2⟩))
              have HG8 := Aside0.mk (show ∀ j, ext F' (wr.alloc (.cells #[.int .i64 f, .int .i64 z] 42)) w7 j → ¬ (G j ∧ j < w6.heap.size) from fun j hj hg => hj.elim (fun h => HFG.out j h hg) (fun h => by have h1 := h.1; have h2 := Hsz.out; have h3 := hg.2; omega))
              have HS8 := Aside0.mk (Nat.le_trans Hsz.out hc1.size)
              have HV8 := Aside0.mk ho1
              clear ho1 hc1
              go_roundw
              case rel => exact ⟨q + 1, _, by go_num, Hq.out.1, ⟨by rw [← Hq.out.2]; exact HV8.out⟩, HC8, HF8, HG8, ⟨HB8.out, HS8.out⟩⟩
              case measure => have := Hq.out.1; simp [intOf]; omega
            · have hnb : decide ((q : Int) < (m3 : Int)) = false := decide_eq_false (by omega)
              have hnc : decide (q < m3) = false := decide_eq_false hqn
              obtain rfl : q = m3 := by omega
              have ht : C.take q = C := List.take_of_length_le (by rw [Hm3.out.1]; exact Nat.le_refl _)
              rw [ht, ← Hm3.out.2.2] at HV
              clear hqn hq ht
              go_wp2_with fail
              go_roundw
              case rel => exact ⟨i + 1, F', by go_num, Hin.out.1, HV, HFb', ⟨HBq.out.1⟩⟩
              case measure => have := Hin.out.1; simp [intOf]; omega
    · have hnb : decide ((i : Int) < (m : Int)) = false := decide_eq_false (by omega)
      have hnc : decide (i < m) = false := decide_eq_false hin
      obtain rfl : i = m := by omega
      have hfin : marksT E tm o i = marksG E tm o := by rw [← HL.out.2.2.2.2.2, HL.out.2.1]
      rw [hfin] at HO
      clear hin hi hfin
      go_wp2_with fail
      go_ret
      exact ⟨_, rfl, HO.out.toV, bel_trans HB2.out HB.out⟩
end Go.Proofs.YtkpadjhdneiniaaDoor.Sb
end

/- Kf: stable.Stable. -/
section
namespace Go.Proofs.YtkpadjhdneiniaaDoor.Sb
set_option linter.unusedVariables false
open Go.RowKit Go.Proofs.YtkpadjhdneiniaaDoorW.PrintWords Go.Proofs.YtkpadjhdneiniaaDoorW.PrintLast Go.Proofs.YtkpadjhdneiniaaDoorW.PrintMore Go.Maps
open Go.Proofs.YtkpadjhdneiniaaDoor.Base Go.Proofs.YtkpadjhdneiniaaDoor.Map Go.Proofs.YtkpadjhdneiniaaDoor.Sl Go.Proofs.YtkpadjhdneiniaaDoor.Ow Go.Proofs.YtkpadjhdneiniaaDoor.Se Go.Proofs.YtkpadjhdneiniaaDoor.Gr Go.Proofs.YtkpadjhdneiniaaDoor.Rf Go.Proofs.YtkpadjhdneiniaaDoor.Tx Go.Proofs.YtkpadjhdneiniaaDoor.St

open Classical in
noncomputable instance (T : List ByteArray) (E : List GE) (tm : List Int) : Decidable (RightM T tm ∧ Stab T.length E tm) := Classical.propDecidable _
theorem marksG_len (E : List GE) (tm : List Int) (o : Int) : (marksG E tm o).length ≤ E.length * E.length := by rw [← marksT_all]; exact marksT_len E tm o _
set_option maxHeartbeats 8000000 in
set_option maxRecDepth 100000 in
theorem stable_any (p : Nat) (T : List ByteArray) (E : List GE) (u : Value) (tm : List Int) (w : World) (hG : GA w p T E) (hT : TZ w) (hu : RdV w u tm) (hR : RightG T.length E) (hok : ∀ a f z, (a, f, z) ∈ E → ok64 f) (hoa : ∀ a f z, (a, f, z) ∈ E → ok64 a)
    (hl : T.length ≤ 1000 ∧ E.length ≤ 1000) :
    Calls Tryd.prog 12 #[.pointer (some ⟨p, 0, none⟩), u] w fun e w' => e = .returned (.bool (decide (RightM T tm ∧ Stab T.length E tm))) ∧ Below w.heap.size w w' := by
  have HRM := Aside0.mk (mright_any p T E u tm w hG hu (by omega))
  obtain ⟨B, hB⟩ : ∃ B, decide (RightM T tm ∧ Stab T.length E tm) = B := ⟨_, rfl⟩
  rw [hB]
  have HB := Aside0.mk hB
  have HU := Aside0.mk hu
  obtain ⟨A, c, rfl, hc, hr⟩ := hu
  by_cases hM : RightM T tm
  case neg =>
    have d1 := decide_eq_false hM
    rw [d1] at HRM
    have hBf : B = false := by rw [← hB]; exact decide_eq_false (fun h => hM h.1)
    have HBf := Aside0.mk hBf
    clear hB hBf d1 hM hG hT hr hR hok hoa hc
    go_enter Tryd.func12, Tryd.ntmps12
    go_wp2_with fail
    refine HRM.out.mono ?_
    rintro e w1 ⟨rfl, r1⟩
    have HB1 := Aside0.mk r1
    clear r1
    go_wp2_with fail
    go_ret
    rw [HBf.out]
    exact ⟨rfl, HB1.out⟩
  have d1 := decide_eq_true hM
  rw [d1] at HRM
  have HM := Aside0.mk hM
  have HR := Aside0.mk hr
  obtain ⟨n, hn⟩ : ∃ n, tm.length = n := ⟨_, rfl⟩
  have Hn := Aside0.mk (And.intro hn hl)
  have HMk := Aside0.mk (fun (W : World) (hb : Below w.heap.size w W) (o : Int) (ho : ok64 o) => marks_any p T E o (.slice A tm.length c) tm W (hG.below hb) (hT.below hb) (HU.out.below hb) hR hok hoa ho hM.1 hl)
  have hEE : E.length * E.length ≤ 1000000 := Nat.mul_le_mul hl.2 hl.2
  have HEE := Aside0.mk hEE
  rw [hn] at HMk HRM ⊢
  clear hB d1 hM hG hT hr hR hok hoa hc hn hl hEE
  go_enter Tryd.func12, Tryd.ntmps12
  go_wp2_with fail
  refine HRM.out.mono ?_
  rintro e w1 ⟨rfl, r1⟩
  have HB1 := Aside0.mk r1
  clear r1
  go_wp2_with fail
  go_loopw [13] (fun I wr => ∃ i : Nat, I = .int .i64 (i : Int) ∧ i ≤ n ∧ Aside0 (∀ j, j < i → marksG E tm (j : Nat) = marksG E tm (cl tm j)) ∧ Aside0 (Below w.heap.size w wr)) (fun I _ => n - (intOf I).toNat)
  case atStart => exact ⟨0, rfl, Nat.zero_le _, ⟨fun j h => absurd h (by omega)⟩, HB1⟩
  case round =>
    obtain ⟨i, rfl, hi, HO, HBl⟩ := hrel
    by_cases hin : i < n
    · have hnb : decide ((i : Int) < (n : Int)) = true := decide_eq_true (by omega)
      have hnc : decide (i < n) = true := decide_eq_true hin
      have hil : i < tm.length := by rw [Hn.out.1]; exact hin
      obtain ⟨ad, rfl, hx⟩ := (HR.out.below HBl.out).at_ (i : Int) (by omega) (by omega)
      have hx : wr.cell? (ad.add i) = some (.int .i64 (tm.getD i 0)) := by simpa [rd] using hx
      have hok1 := HM.out.2 i hil
      obtain ⟨x, hxx⟩ : ∃ x, tm.getD i 0 = x := ⟨_, rfl⟩
      unfold OkM cl at hok1
      rw [hxx] at hx hok1
      have i0 : 0 ≤ (i : Int) := by omega
      have i1 : (i : Int) < (n : Int) := by omega
      have i2 : (i : Int) ≤ 1000000 := by have := Hn.out.2; have := Hn.out.1; have := HM.out.1; omega
      have HA := Aside0.mk (HMk.out wr HBl.out (i : Int) (ok64_of (by omega) (by omega)))
      have HxO := Aside0.mk (show ok64 x from ok64_of (by have := hok1.1; omega) (by have := hok1.2.1; omega))
      have Hin := Aside0.mk (And.intro hin (And.intro hil hxx))
      clear hin hi hil hxx hok1
      replace i0 := eq_true i0
      replace i1 := eq_true i1
      go_wp2_with fail
      refine HA.out.mono ?_
      rintro e w2 ⟨v1, rfl, r1, r2⟩
      have HV1 := Aside0.mk r1
      have HB2 := Aside0.mk (bel_trans HBl.out r2)
      have HA2 := Aside0.mk (HMk.out w2 HB2.out x HxO.out)
      clear r1 r2 HA
      go_wp2_with fail
      refine HA2.out.mono ?_
      rintro e w3 ⟨v2, rfl, r1, r2⟩
      have HV2 := Aside0.mk r1
      have HV1' := Aside0.mk (HV1.out.below r2)
      have HB3 := Aside0.mk (bel_trans HB2.out r2)
      clear r1 r2 HA2
      go_wp2_with fail
      refine (eqP_any v1 v2 _ _ w3 HV1'.out HV2.out (Nat.le_trans (marksG_len E tm _) HEE.out)).mono ?_
      rintro e w4 ⟨rfl, r2⟩
      have HB4 := Aside0.mk (bel_trans HB3.out r2)
      clear r2
      by_cases he : marksG E tm (i : Int) = marksG E tm x
      · have d2 := decide_eq_true he
        rw [d2]
        have HO2 := Aside0.mk (fun (j : Nat) (hj : j < i + 1) => (show marksG E tm (j : Nat) = marksG E tm (cl tm j) by
          by_cases e : j = i
          · rw [e]; unfold cl; rw [Hin.out.2.2]; exact he
          · exact HO.out j (by omega)))
        clear he d2
        go_wp2_with fail
        go_roundw
        case rel => exact ⟨i + 1, by go_num, Hin.out.1, HO2, HB4⟩
        case measure => have := Hin.out.1; simp [intOf]; omega
      · have d2 := decide_eq_false he
        rw [d2]
        have hBf : B = false := by
          rw [← HB.out]
          exact decide_eq_false (fun h => he (by have := h.2 i (by rw [← HM.out.1]; exact Hin.out.2.1); unfold cl at this; rw [Hin.out.2.2] at this; exact this))
        have HBf := Aside0.mk hBf
        clear he d2 hBf
        go_wp2_with fail
        go_ret
        rw [HBf.out]
        exact ⟨rfl, HB4.out⟩
    · have hnb : decide ((i : Int) < (n : Int)) = false := decide_eq_false (by omega)
      have hnc : decide (i < n) = false := decide_eq_false hin
      obtain rfl : i = n := by omega
      have hBt : B = true := by rw [← HB.out]; exact decide_eq_true ⟨HM.out, fun j hj => HO.out j (by rw [← Hn.out.1, HM.out.1]; exact hj)⟩
      have HBt := Aside0.mk hBt
      clear hin hi hBt
      go_wp2_with fail
      go_ret
      rw [HBt.out]
      exact ⟨rfl, HBl.out⟩
end Go.Proofs.YtkpadjhdneiniaaDoor.Sb
end

/- Kg: stable.Marks; the document's Right. -/
section
namespace Go.Proofs.YtkpadjhdneiniaaDoor.Sb
set_option linter.unusedVariables false
open Go.RowKit Go.Proofs.YtkpadjhdneiniaaDoorW.PrintWords Go.Proofs.YtkpadjhdneiniaaDoorW.PrintLast Go.Proofs.YtkpadjhdneiniaaDoorW.PrintMore Go.Maps
open Go.Proofs.YtkpadjhdneiniaaDoor.Base Go.Proofs.YtkpadjhdneiniaaDoor.Map Go.Proofs.YtkpadjhdneiniaaDoor.Sl Go.Proofs.YtkpadjhdneiniaaDoor.Ow Go.Proofs.YtkpadjhdneiniaaDoor.Se Go.Proofs.YtkpadjhdneiniaaDoor.Gr Go.Proofs.YtkpadjhdneiniaaDoor.Rf Go.Proofs.YtkpadjhdneiniaaDoor.Tx Go.Proofs.YtkpadjhdneiniaaDoor.St

set_option maxHeartbeats 8000000 in
set_option maxRecDepth 100000 in
theorem rright_any (A A2 : Option Addr) (c n2 c2 : Nat) (T : List ByteArray) (u : Value) (tm : List Int) (w : World) (hT : RdT w A T) (hu : RdV w u tm) (hl : T.length ≤ 1000000) :
    Calls Tryd.prog 13 #[.agg #[.slice A T.length c, .slice A2 n2 c2], u] w fun e w' => e = .returned (.bool (decide (RightM T tm))) ∧ Below w.heap.size w w' := by
  have hal : Below w.heap.size w (w.alloc (.cells #[.slice A T.length c, .slice A2 n2 c2] 25)) := below_alloc (Below.refl _ _) _
  have Hb : Aside0 ((w.alloc (.cells #[.slice A T.length c, .slice A2 n2 c2] 25)).heap[w.heap.size]? = some (.cells #[.slice A T.length c, .slice A2 n2 c2] 25 (0, 0))) := ⟨heap_alloc_new _ _⟩
  have HT := Aside0.mk (hT.below hal)
  have HU := Aside0.mk (hu.below hal)
  have Hl := Aside0.mk hl
  have Hal := Aside0.mk hal
  obtain ⟨A3, c3, rfl, hc3, hr3⟩ := hu
  obtain ⟨B, hB⟩ : ∃ B, decide (RightM T tm) = B := ⟨_, rfl⟩
  rw [hB]
  have HB := Aside0.mk hB
  obtain ⟨nT, hnT⟩ : ∃ n, T.length = n := ⟨_, rfl⟩
  obtain ⟨n, hn⟩ : ∃ n, tm.length = n := ⟨_, rfl⟩
  have Hn := Aside0.mk (And.intro hnT hn)
  have hmx := hr3.max
  rw [hn] at hmx
  obtain ⟨W, hW⟩ : ∃ W, w.alloc (.cells #[.slice A T.length c, .slice A2 n2 c2] 25) = W := ⟨_, rfl⟩
  rw [hW] at Hb HT HU Hal
  rw [hnT] at hW Hb ⊢
  rw [hn] at HU ⊢
  obtain ⟨g, hg⟩ : ∃ g, w.heap.size = g := ⟨_, rfl⟩
  rw [hg] at Hb
  have g0 : W.cell? ⟨g, 0, none⟩ = some (.slice A nT c) := blk_cellD Hb.out 0 _ rfl
  clear hal hT hl hc3 hr3 hnT hn hB
  by_cases hne : n = nT
  case neg =>
    have q1 : ((n : Int) != (nT : Int)) = true := by simp; omega
    have hBf : B = false := by rw [← HB.out]; exact decide_eq_false (fun h => hne (by rw [← Hn.out.1, ← Hn.out.2]; exact h.1))
    have HBf := Aside0.mk hBf
    clear hne hBf
    go_enter Tryd.func13, Tryd.ntmps13
    go_wp2_with fail
    go_ret
    rw [HBf.out]
    exact ⟨rfl, Hal.out⟩
  subst hne
  have q1 : ((n : Int) != (n : Int)) = false := by simp
  go_enter Tryd.func13, Tryd.ntmps13
  go_wp2_with fail

  clear hW g0 hg
  go_loopw [5] (fun I wr => ∃ i : Nat, I = .int .i64 (i : Int) ∧ i ≤ n ∧ Aside0 (∀ j, j < i → OkM T tm j) ∧ Aside0 (Below W.heap.size W wr)) (fun I _ => n - (intOf I).toNat)
  case atStart => exact ⟨0, rfl, Nat.zero_le _, ⟨fun j h => absurd h (by omega)⟩, ⟨Below.refl _ _⟩⟩
  case round =>
    obtain ⟨i, rfl, hi, HO, HBl⟩ := hrel
    have hb := Ow.blk_below Hb.out HBl.out
    have g0 : wr.cell? ⟨g, 0, none⟩ = some (.slice A n c) := blk_cellD hb 0 _ rfl
    have HBd := Aside0.mk (below_drew HBl.out)
    clear hb
    by_cases hin : i < n
    · have hnb : decide ((i : Int) < (n : Int)) = true := decide_eq_true (by omega)
      have hnc : decide (i < n) = true := decide_eq_true hin
      have hil : i < tm.length := by rw [Hn.out.2]; exact hin
      obtain ⟨A4, c4, e4, _, hr4⟩ := HU.out.below HBl.out
      injection e4 with e4a e4b e4c
      obtain ⟨ad, had, hx⟩ := hr4.at_ (i : Int) (by omega) (by omega)
      have had2 := e4a.trans had
      have HR4 := Aside0.mk hr4
      subst had2
      cases had
      have hx : wr.cell? (ad.add i) = some (.int .i64 (tm.getD i 0)) := by simpa [rd] using hx
      obtain ⟨x, hxx⟩ : ∃ x, tm.getD i 0 = x := ⟨_, rfl⟩
      rw [hxx] at hx
      have i0 : 0 ≤ (i : Int) := by omega
      have i1 : (i : Int) < (n : Int) := by omega
      have i2 : (i : Int) ≤ 1000000 := by have := Hl.out; have := Hn.out.1; omega
      have Hin := Aside0.mk (And.intro hin (And.intro hil hxx))
      have hbad : ¬ OkM T tm i → B = false := fun h => by rw [← HB.out]; exact decide_eq_false (fun hR => h (hR.2 i hil))
      have Hbad := Aside0.mk hbad
      clear hin hi hil hbad e4b e4c hr4
      replace i0 := eq_true i0
      replace i1 := eq_true i1
      by_cases x0 : 0 ≤ x ∧ x ≤ (i : Int)
      · obtain ⟨m, rfl⟩ := Int.eq_ofNat_of_zero_le x0.1
        have hml : m < tm.length := by have := Hin.out.2.1; omega
        obtain ⟨ad2, had2, hy⟩ := HR4.out.at_ (m : Int) (by omega) (by omega)
        cases had2
        have hy : wr.cell? (ad.add m) = some (.int .i64 (tm.getD m 0)) := by simpa [rd] using hy
        obtain ⟨y, hyy⟩ : ∃ y, tm.getD m 0 = y := ⟨_, rfl⟩
        rw [hyy] at hy
        have m0 : 0 ≤ (m : Int) := by omega
        have m1 : (m : Int) < (n : Int) := by have := Hin.out.1; omega
        have r1 : ¬ (m : Int) < 0 := by omega
        have r2 : ¬ (i : Int) < (m : Int) := by omega
        have r3 : decide ((m : Int) > (i : Int)) = false := decide_eq_false (by omega)
        have r4 : decide ((m : Int) < 0) = false := decide_eq_false r1
        have r5 : ¬ i < m := by omega
        replace m0 := eq_true m0
        replace m1 := eq_true m1
        obtain ⟨aT, rfl, eT⟩ := (HT.out.below HBl.out).at_ i (by have := Hin.out.1; have := Hn.out.1; omega)
        obtain ⟨aT2, haT, eT2⟩ := (HT.out.below HBl.out).at_ m (by have := Hin.out.1; have := Hn.out.1; omega)
        cases haT
        have ey1 : typeG T (i : Int) = T.getD i ByteArray.empty := by unfold typeG; rw [if_pos (by have := Hin.out.1; have := Hn.out.1; omega)]; simp
        have ey2 : typeG T (m : Int) = T.getD m ByteArray.empty := by unfold typeG; rw [if_pos (by have := Hin.out.1; have := Hn.out.1; omega)]; simp
        obtain ⟨s, hs⟩ : ∃ s, T.getD i ByteArray.empty = s := ⟨_, rfl⟩
        obtain ⟨t, ht⟩ : ∃ s, T.getD m ByteArray.empty = s := ⟨_, rfl⟩
        rw [hs] at eT ey1
        rw [ht] at eT2 ey2
        have Hey := Aside0.mk (And.intro ey1 ey2)
        clear ey1 ey2 hs ht
        by_cases hym : y = (m : Int)
        · subst hym
          have hym' : ((m : Int) != (m : Int)) = false := by simp
          have Hm := Aside0.mk (And.intro x0 hyy)
          clear x0 hyy hml
          by_cases hty : t = s
          · have hok : OkM T tm i := by
              unfold OkM cl
              rw [Hin.out.2.2]
              exact ⟨Hm.out.1.1, Hm.out.1.2, Hm.out.2, by rw [Hey.out.1, Hey.out.2]; exact hty⟩
            have HO2 := Aside0.mk (fun (j : Nat) (hj : j < i + 1) => (show OkM T tm j by
              by_cases e : j = i
              · rw [e]; exact hok
              · exact HO.out j (by omega)))
            have he := Tx_eq hty
            clear hok hty hxx
            go_wp2_with fail
            go_region
            go_wp2_with fail
            go_roundw
            case rel => exact ⟨i + 1, by go_num, Hin.out.1, HO2, HBd⟩
            case measure => have := Hin.out.1; simp [intOf]; omega
          · have hBf := Hbad.out (fun h => hty (by have h2 := h.2.2.2; unfold cl at h2; rw [Hin.out.2.2, Hey.out.1, Hey.out.2] at h2; exact h2))
            have he := Tx_ne hty
            have HBf := Aside0.mk hBf
            clear hBf hty hxx
            go_wp2_with fail
            go_region
            go_wp2_with fail
            go_ret
            rw [HBf.out]
            exact ⟨rfl, bel_trans Hal.out HBd.out⟩
        · have hBf := Hbad.out (fun h => hym (by have := h.2.2.1; unfold cl at this; rw [Hin.out.2.2] at this; rw [← hyy]; simpa using this))
          have hym' : (y != (m : Int)) = true := by simpa using hym
          have HBf := Aside0.mk hBf
          clear hBf x0 hyy hml hxx
          go_wp2_with fail
          go_region
          go_wp2_with fail
          go_ret
          rw [HBf.out]
          exact ⟨rfl, bel_trans Hal.out HBd.out⟩
      · have hBf := Hbad.out (fun h => x0 ⟨by have := h.1; unfold cl at this; rw [Hin.out.2.2] at this; exact this, by have := h.2.1; unfold cl at this; rw [Hin.out.2.2] at this; exact this⟩)
        have HBf := Aside0.mk hBf
        have hor : x < 0 ∨ (0 ≤ x ∧ (i : Int) < x) := by omega
        clear hBf x0 hxx
        rcases hor with h1 | ⟨h1, h2⟩
        · have r4 : decide (x < 0) = true := decide_eq_true h1
          go_wp2_with fail
          go_region
          go_wp2_with fail
          go_ret
          rw [HBf.out]
          exact ⟨rfl, bel_trans Hal.out HBd.out⟩
        · have r1 : ¬ x < 0 := by omega
          have r3 : decide (x > (i : Int)) = true := decide_eq_true (by omega)
          have r4 : decide (x < 0) = false := decide_eq_false r1
          go_wp2_with fail
          go_region
          go_wp2_with fail
          go_ret
          rw [HBf.out]
          exact ⟨rfl, bel_trans Hal.out HBd.out⟩
    · have hnb : decide ((i : Int) < (n : Int)) = false := decide_eq_false (by omega)
      have hnc : decide (i < n) = false := decide_eq_false hin
      obtain rfl : i = n := by omega
      have hBt : B = true := by rw [← HB.out]; exact decide_eq_true ⟨by rw [Hn.out.1, Hn.out.2], fun j hj => HO.out j (by rw [← Hn.out.2]; exact hj)⟩
      have HBt := Aside0.mk hBt
      clear hin hi hBt
      go_wp2_with fail
      go_ret
      rw [HBt.out]
      exact ⟨rfl, bel_trans Hal.out HBl.out⟩
end Go.Proofs.YtkpadjhdneiniaaDoor.Sb
end

/- Kh: stable.Marks. -/
section
namespace Go.Proofs.YtkpadjhdneiniaaDoor.Sb
set_option linter.unusedVariables false
open Go.RowKit Go.Proofs.YtkpadjhdneiniaaDoorW.PrintWords Go.Proofs.YtkpadjhdneiniaaDoorW.PrintLast Go.Proofs.YtkpadjhdneiniaaDoorW.PrintMore Go.Maps
open Go.Proofs.YtkpadjhdneiniaaDoor.Base Go.Proofs.YtkpadjhdneiniaaDoor.Map Go.Proofs.YtkpadjhdneiniaaDoor.Sl Go.Proofs.YtkpadjhdneiniaaDoor.Ow Go.Proofs.YtkpadjhdneiniaaDoor.Se Go.Proofs.YtkpadjhdneiniaaDoor.Gr Go.Proofs.YtkpadjhdneiniaaDoor.Rf Go.Proofs.YtkpadjhdneiniaaDoor.Tx Go.Proofs.YtkpadjhdneiniaaDoor.St

open Classical in
/-- what Marks tells -/
noncomputable def marksN (T : List ByteArray) (E : List GE) (tm : List Int) (o : Int) : List (Int × Int) := if RightM T tm ∧ 0 ≤ o ∧ o < tm.length then marksG E tm o else []
set_option maxHeartbeats 8000000 in
set_option maxRecDepth 100000 in
theorem marksN_any (p : Nat) (T : List ByteArray) (E : List GE) (o : Int) (u : Value) (tm : List Int) (w : World) (hG : GA w p T E) (hT : TZ w) (hu : RdV w u tm) (hR : RightG T.length E) (hok : ∀ a f z, (a, f, z) ∈ E → ok64 f) (hoa : ∀ a f z, (a, f, z) ∈ E → ok64 a) (ho : ok64 o)
    (hl : T.length ≤ 1000 ∧ E.length ≤ 1000) :
    Calls Tryd.prog 15 #[.pointer (some ⟨p, 0, none⟩), .int .i64 o, u] w fun e w' => ∃ v, e = .returned v ∧ RdP w' v (marksN T E tm o) ∧ Below w.heap.size w w' := by
  have HRM := Aside0.mk (mright_any p T E u tm w hG hu (by omega))
  have HU := Aside0.mk hu
  obtain ⟨A, c, rfl, hc, hr⟩ := hu
  obtain ⟨n, hn⟩ : ∃ n, tm.length = n := ⟨_, rfl⟩
  have HMk := Aside0.mk (fun (hM : RightM T tm) (W : World) (hb : Below w.heap.size w W) => marks_any p T E o (.slice A tm.length c) tm W (hG.below hb) (hT.below hb) (HU.out.below hb) hR hok hoa ho hM.1 hl)
  have hnil : ¬ (RightM T tm ∧ 0 ≤ o ∧ o < tm.length) → marksN T E tm o = [] := fun h => by unfold marksN; rw [if_neg h]
  have hall : (RightM T tm ∧ 0 ≤ o ∧ o < tm.length) → marksN T E tm o = marksG E tm o := fun h => by unfold marksN; rw [if_pos h]
  have Hma := Aside0.mk (And.intro hnil hall)
  rw [hn] at HMk HRM Hma ⊢
  clear hr hR hok hoa hc hn hG hT hnil hall ho
  by_cases hM : RightM T tm
  case neg =>
    have d1 := decide_eq_false hM
    rw [d1] at HRM
    rw [Hma.out.1 (fun h => hM h.1)]
    clear d1 hM
    go_enter Tryd.func15, Tryd.ntmps15
    go_wp2_with fail
    refine HRM.out.mono ?_
    rintro e w1 ⟨rfl, r1⟩
    have HB1 := Aside0.mk r1
    clear r1
    go_wp2_with fail
    go_ret
    exact ⟨_, rfl, (OwP.nil w1 (fun _ => True)).toV, HB1.out⟩
  have d1 := decide_eq_true hM
  rw [d1] at HRM
  have HM := Aside0.mk hM
  clear d1 hM
  by_cases hoo : 0 ≤ o ∧ o < (n : Int)
  · rw [Hma.out.2 ⟨HM.out, hoo⟩]
    have r1 : ¬ o < 0 := by omega
    have r2 : ¬ (n : Int) ≤ o := by omega
    have r3 : decide (o < 0) = false := decide_eq_false r1
    have r4 : decide (o ≥ (n : Int)) = false := decide_eq_false (by omega)
    clear hoo
    go_enter Tryd.func15, Tryd.ntmps15
    go_wp2_with fail
    refine HRM.out.mono ?_
    rintro e w1 ⟨rfl, r1⟩
    have HB1 := Aside0.mk r1
    clear r1
    go_wp2_with fail
    refine (HMk.out HM.out w1 HB1.out).mono ?_
    rintro e w2 ⟨v, rfl, r1, r2⟩
    have HV := Aside0.mk r1
    have HB2 := Aside0.mk (bel_trans HB1.out r2)
    clear r1 r2
    go_wp2_with fail
    go_ret
    exact ⟨_, rfl, HV.out, HB2.out⟩
  · rw [Hma.out.1 (fun h => hoo h.2)]
    have hor : o < 0 ∨ (0 ≤ o ∧ (n : Int) ≤ o) := by omega
    clear hoo
    rcases hor with h1 | ⟨h1, h2⟩
    · have r3 : decide (o < 0) = true := decide_eq_true h1
      go_enter Tryd.func15, Tryd.ntmps15
      go_wp2_with fail
      refine HRM.out.mono ?_
      rintro e w1 ⟨rfl, r1⟩
      have HB1 := Aside0.mk r1
      clear r1
      go_wp2_with fail
      go_ret
      exact ⟨_, rfl, (OwP.nil w1 (fun _ => True)).toV, HB1.out⟩
    · have r1 : ¬ o < 0 := by omega
      have r3 : decide (o < 0) = false := decide_eq_false r1
      have r4 : decide (o ≥ (n : Int)) = true := decide_eq_true (by omega)
      go_enter Tryd.func15, Tryd.ntmps15
      go_wp2_with fail
      refine HRM.out.mono ?_
      rintro e w1 ⟨rfl, r1⟩
      have HB1 := Aside0.mk r1
      clear r1
      go_wp2_with fail
      go_ret
      exact ⟨_, rfl, (OwP.nil w1 (fun _ => True)).toV, HB1.out⟩
end Go.Proofs.YtkpadjhdneiniaaDoor.Sb
end

/- Ki: The document's Finer. -/
section
namespace Go.Proofs.YtkpadjhdneiniaaDoor.Sb
set_option linter.unusedVariables false
open Go.RowKit Go.Proofs.YtkpadjhdneiniaaDoorW.PrintWords Go.Proofs.YtkpadjhdneiniaaDoorW.PrintLast Go.Proofs.YtkpadjhdneiniaaDoorW.PrintMore Go.Maps
open Go.Proofs.YtkpadjhdneiniaaDoor.Base Go.Proofs.YtkpadjhdneiniaaDoor.Map Go.Proofs.YtkpadjhdneiniaaDoor.Sl Go.Proofs.YtkpadjhdneiniaaDoor.Ow Go.Proofs.YtkpadjhdneiniaaDoor.Se Go.Proofs.YtkpadjhdneiniaaDoor.Gr Go.Proofs.YtkpadjhdneiniaaDoor.Rf Go.Proofs.YtkpadjhdneiniaaDoor.Tx Go.Proofs.YtkpadjhdneiniaaDoor.St

/-- is each class of one list within one of the other's? -/
def FinerM (a b : List Int) : Prop := a.length = b.length ∧ ∀ i k, k < i → i < a.length → a.getD i 0 = a.getD k 0 → b.getD i 0 = b.getD k 0
open Classical in
noncomputable instance (a b : List Int) : Decidable (FinerM a b) := Classical.propDecidable _
set_option maxHeartbeats 8000000 in
set_option maxRecDepth 100000 in
theorem rfiner_any (u v : Value) (a b : List Int) (w : World) (hu : RdV w u a) (hv : RdV w v b) (hl : a.length ≤ 1000000) :
    Calls Tryd.prog 20 #[u, v] w fun e w' => e = .returned (.bool (decide (FinerM a b))) ∧ Below w.heap.size w w' := by
  obtain ⟨A, c, rfl, hc, hr⟩ := hu
  obtain ⟨A', c', rfl, hc', hr'⟩ := hv
  have HR := Aside0.mk (And.intro hr hr')
  have Hl := Aside0.mk hl
  obtain ⟨B, hB⟩ : ∃ B, decide (FinerM a b) = B := ⟨_, rfl⟩
  rw [hB]
  have HB := Aside0.mk hB
  obtain ⟨n, hn⟩ : ∃ n, a.length = n := ⟨_, rfl⟩
  obtain ⟨m, hm⟩ : ∃ n, b.length = n := ⟨_, rfl⟩
  have Hn := Aside0.mk (And.intro hn hm)
  rw [hn, hm]
  clear hr hr' hc hc' hl hB hn hm
  by_cases hne : n = m
  case neg =>
    have q1 : ((n : Int) != (m : Int)) = true := by simp; omega
    have hBf : B = false := by rw [← HB.out]; exact decide_eq_false (fun h => hne (by rw [← Hn.out.1, ← Hn.out.2, h.1]))
    have HBf := Aside0.mk hBf
    clear hne hBf
    go_enter Tryd.func20, Tryd.ntmps20
    go_wp2_with fail
    go_ret
    rw [HBf.out]
    exact ⟨rfl, Below.refl _ _⟩
  subst hne
  have q1 : ((n : Int) != (n : Int)) = false := by simp
  go_enter Tryd.func20, Tryd.ntmps20
  go_wp2_with fail
  go_loopw [5] (fun I wr => ∃ i : Nat, I = .int .i64 (i : Int) ∧ i ≤ n ∧ Aside0 (∀ j k, k < j → j < i → a.getD j 0 = a.getD k 0 → b.getD j 0 = b.getD k 0) ∧ Aside0 (Below w.heap.size w wr)) (fun I _ => n - (intOf I).toNat)
  case atStart => exact ⟨0, rfl, Nat.zero_le _, ⟨fun j k h1 h2 => absurd h2 (by omega)⟩, ⟨Below.refl _ _⟩⟩
  case round =>
    obtain ⟨i, rfl, hi, HE, HBl⟩ := hrel
    by_cases hin : i < n
    · have hnb : decide ((i : Int) < (n : Int)) = true := decide_eq_true (by omega)
      have hnc : decide (i < n) = true := decide_eq_true hin
      have Hin := Aside0.mk hin
      have hi6 : i ≤ 1000000 := by have := Hl.out; have := Hn.out.1; omega
      have Hi6 := Aside0.mk hi6
      clear hin hi hi6
      go_wp2_with fail
      go_loopw [6] (fun K wx => ∃ k : Nat, K = .int .i64 (k : Int) ∧ k ≤ i ∧ Aside0 (∀ j, j < k → a.getD i 0 = a.getD j 0 → b.getD i 0 = b.getD j 0) ∧ Aside0 (Below w.heap.size w wx)) (fun K _ => i - (intOf K).toNat)
      case atStart => exact ⟨0, rfl, Nat.zero_le _, ⟨fun j h => absurd h (by omega)⟩, HBl⟩
      case round =>
        obtain ⟨k, rfl, hk, HK, HBk⟩ := hrel
        by_cases hki : k < i
        · have hkb : decide ((k : Int) < (i : Int)) = true := decide_eq_true (by omega)
          have hkc : decide (k < i) = true := decide_eq_true hki
          have hia : i < a.length := by rw [Hn.out.1]; exact Hin.out
          have hib : i < b.length := by rw [Hn.out.2]; exact Hin.out
          obtain ⟨ad, rfl, e1⟩ := (HR.out.1.below HBk.out).at_ (i : Int) (by omega) (by omega)
          have e1 : wr.cell? (ad.add i) = some (.int .i64 (a.getD i 0)) := by simpa [rd] using e1
          obtain ⟨ad', h', e2⟩ := (HR.out.1.below HBk.out).at_ (k : Int) (by omega) (by omega)
          cases h'
          have e2 : wr.cell? (ad.add k) = some (.int .i64 (a.getD k 0)) := by simpa [rd] using e2
          obtain ⟨ad2, rfl, e3⟩ := (HR.out.2.below HBk.out).at_ (i : Int) (by omega) (by omega)
          have e3 : wr.cell? (ad2.add i) = some (.int .i64 (b.getD i 0)) := by simpa [rd] using e3
          obtain ⟨ad', h', e4⟩ := (HR.out.2.below HBk.out).at_ (k : Int) (by omega) (by omega)
          cases h'
          have e4 : wr.cell? (ad2.add k) = some (.int .i64 (b.getD k 0)) := by simpa [rd] using e4
          obtain ⟨x, hx⟩ : ∃ x, a.getD i 0 = x := ⟨_, rfl⟩
          obtain ⟨y, hy⟩ : ∃ x, a.getD k 0 = x := ⟨_, rfl⟩
          obtain ⟨s, hs⟩ : ∃ x, b.getD i 0 = x := ⟨_, rfl⟩
          obtain ⟨t, ht⟩ : ∃ x, b.getD k 0 = x := ⟨_, rfl⟩
          rw [hx] at e1
          rw [hy] at e2
          rw [hs] at e3
          rw [ht] at e4
          have i0 : 0 ≤ (i : Int) := by omega
          have i1 : (i : Int) < (n : Int) := by have := Hin.out; omega
          have k0 : 0 ≤ (k : Int) := by omega
          have k1 : (k : Int) < (n : Int) := by have := Hin.out; omega
          have k2 : (k : Int) ≤ 1000000 := by have := Hi6.out; omega
          have HBd := Aside0.mk (below_drew HBk.out)
          have Hki := Aside0.mk hki
          have Hxy := Aside0.mk (And.intro hx (And.intro hy (And.intro hs ht)))
          clear hki hk hia hib hx hy hs ht
          replace i0 := eq_true i0
          replace i1 := eq_true i1
          replace k0 := eq_true k0
          replace k1 := eq_true k1
          by_cases hxy : x = y
          · subst hxy
            by_cases hst : s = t
            · subst hst
              have HK2 := Aside0.mk (fun (j : Nat) (hj : j < k + 1) (e : a.getD i 0 = a.getD j 0) => (show b.getD i 0 = b.getD j 0 by
                by_cases ej : j = k
                · rw [ej, Hxy.out.2.2.1, Hxy.out.2.2.2]
                · exact HK.out j (by omega) e))
              go_wp2_with fail
              go_region
              go_wp2_with fail
              go_roundw
              case rel => exact ⟨k + 1, by go_num, Hki.out, HK2, HBd⟩
              case measure => have := Hki.out; simp [intOf]; omega
            · have h1 : (s != t) = true := by simpa using hst
              have hBf : B = false := by
                rw [← HB.out]
                exact decide_eq_false (fun h => hst (by
                  have h2 := h.2 i k Hki.out (by rw [Hn.out.1]; exact Hin.out) (by rw [Hxy.out.1, Hxy.out.2.1])
                  rw [Hxy.out.2.2.1, Hxy.out.2.2.2] at h2; exact h2))
              have HBf := Aside0.mk hBf
              clear hBf hst
              go_wp2_with fail
              go_region
              go_wp2_with fail
              go_ret
              rw [HBf.out]
              exact ⟨rfl, HBd.out⟩
          · have h1 : (x == y) = false := by simpa using hxy
            have HK2 := Aside0.mk (fun (j : Nat) (hj : j < k + 1) (e : a.getD i 0 = a.getD j 0) => (show b.getD i 0 = b.getD j 0 by
              by_cases ej : j = k
              · rw [ej, Hxy.out.1, Hxy.out.2.1] at e; exact absurd e hxy
              · exact HK.out j (by omega) e))
            go_wp2_with fail
            go_region
            go_wp2_with fail
            go_roundw
            case rel => exact ⟨k + 1, by go_num, Hki.out, HK2, HBd⟩
            case measure => have := Hki.out; simp [intOf]; omega
        · have hkb : decide ((k : Int) < (i : Int)) = false := decide_eq_false (by omega)
          have hkc : decide (k < i) = false := decide_eq_false hki
          obtain rfl : k = i := by omega
          have HE2 := Aside0.mk (fun (j q : Nat) (h1 : q < j) (h2 : j < k + 1) (e : a.getD j 0 = a.getD q 0) => (show b.getD j 0 = b.getD q 0 by
            by_cases ej : j = k
            · subst ej; exact HK.out q h1 e
            · exact HE.out j q h1 (by omega) e))
          have hk6 : (k : Int) ≤ 1000000 := by have := Hi6.out; omega
          clear hki hk
          go_wp2_with fail
          go_roundw
          case rel => exact ⟨k + 1, by go_num, Hin.out, HE2, HBk⟩
          case measure => have := Hin.out; simp [intOf]; omega
    · have hnb : decide ((i : Int) < (n : Int)) = false := decide_eq_false (by omega)
      have hnc : decide (i < n) = false := decide_eq_false hin
      obtain rfl : i = n := by omega
      have hBt : B = true := by rw [← HB.out]; exact decide_eq_true ⟨by rw [Hn.out.1, Hn.out.2], fun j k h1 h2 e => HE.out j k h1 (by rw [← Hn.out.1]; exact h2) e⟩
      have HBt := Aside0.mk hBt
      clear hin hi hBt
      go_wp2_with fail
      go_ret
      rw [HBt.out]
      exact ⟨rfl, HBl.out⟩
end Go.Proofs.YtkpadjhdneiniaaDoor.Sb
end

/- Kj: The document's Light. -/
section
namespace Go.Proofs.YtkpadjhdneiniaaDoor.Sb
set_option linter.unusedVariables false
open Go.RowKit Go.Proofs.YtkpadjhdneiniaaDoorW.PrintWords Go.Proofs.YtkpadjhdneiniaaDoorW.PrintLast Go.Proofs.YtkpadjhdneiniaaDoorW.PrintMore Go.Maps
open Go.Proofs.YtkpadjhdneiniaaDoor.Base Go.Proofs.YtkpadjhdneiniaaDoor.Map Go.Proofs.YtkpadjhdneiniaaDoor.Sl Go.Proofs.YtkpadjhdneiniaaDoor.Ow Go.Proofs.YtkpadjhdneiniaaDoor.Se Go.Proofs.YtkpadjhdneiniaaDoor.Gr Go.Proofs.YtkpadjhdneiniaaDoor.Rf Go.Proofs.YtkpadjhdneiniaaDoor.Tx Go.Proofs.YtkpadjhdneiniaaDoor.St

/-- few objects, few edges, between objects -/
def LightG (n : Nat) (E : List GE) : Prop := (n ≤ 20 ∧ E.length ≤ 60) ∧ RightG n E ∧ n ≤ 8
instance (n : Nat) (E : List GE) : Decidable (LightG n E) := by unfold LightG; infer_instance
set_option maxHeartbeats 4000000 in
set_option maxRecDepth 100000 in
theorem light_any (A A2 : Option Addr) (n c c2 : Nat) (E : List GE) (w : World) (hE : RdE w A2 E) :
    Calls Tryd.prog 8 #[.agg #[.slice A n c, .slice A2 E.length c2]] w fun e w' => e = .returned (.bool (decide (LightG n E))) ∧ Below w.heap.size w w' := by
  obtain ⟨nE, hnE⟩ : ∃ n, E.length = n := ⟨_, rfl⟩
  obtain ⟨B, hB⟩ : ∃ B, decide (LightG n E) = B := ⟨_, rfl⟩
  rw [hB]
  have HB := Aside0.mk hB
  have Hn := Aside0.mk hnE
  have HE := Aside0.mk hE
  rw [hnE]
  clear hB hE hnE
  obtain ⟨W, hW⟩ : ∃ W, w.alloc (.cells #[.slice A n c, .slice A2 nE c2] 25) = W := ⟨_, rfl⟩
  have HBW := Aside0.mk (show Below w.heap.size w W by rw [← hW]; exact below_alloc (Below.refl _ _) _)
  have Hb := Aside0.mk (show W.heap[w.heap.size]? = some (.cells #[.slice A n c, .slice A2 nE c2] 25 (0, 0)) by rw [← hW]; exact heap_alloc_new _ _)
  obtain ⟨g, hg⟩ : ∃ g, w.heap.size = g := ⟨_, rfl⟩
  rw [hg] at Hb
  have g0 : W.cell? ⟨g, 0, none⟩ = some (.slice A n c) := blk_cellD Hb.out 0 _ rfl
  have g1 : W.cell? ⟨g, 1, none⟩ = some (.slice A2 nE c2) := blk_cellD Hb.out 1 _ rfl
  go_enter Tryd.func8, Tryd.ntmps8
  go_wp2_with fail
  clear hW hg
  refine (small_any A A2 n c nE c2 W).mono ?_
  rintro e w1 ⟨rfl, r1⟩
  have HB1 := Aside0.mk (bel_trans HBW.out r1)
  have Hb1 := Aside0.mk (Ow.blk_below Hb.out r1)
  clear g0 g1 r1
  have g0 : w1.cell? ⟨g, 0, none⟩ = some (.slice A n c) := blk_cellD Hb1.out 0 _ rfl
  have g1 : w1.cell? ⟨g, 1, none⟩ = some (.slice A2 nE c2) := blk_cellD Hb1.out 1 _ rfl
  by_cases hs : n ≤ 20 ∧ nE ≤ 60
  case neg =>
    have hBf : B = false := by rw [← HB.out]; exact decide_eq_false (fun h => hs (by rw [← Hn.out]; exact h.1))
    have d := decide_eq_false hs
    rw [d]
    have HBf := Aside0.mk hBf
    clear d hs hBf
    go_wp2_with fail
    go_ret
    rw [HBf.out]
    exact ⟨rfl, HB1.out⟩
  have d := decide_eq_true hs
  rw [d]
  have Hs := Aside0.mk hs
  have RR := right_any A A2 n c c2 E w1 (HE.out.below HB1.out) (by rw [Hn.out]; omega) (by omega)
  rw [Hn.out] at RR
  have HRR := Aside0.mk RR
  clear d hs RR
  go_wp2_with fail
  refine HRR.out.mono ?_
  rintro e w2 ⟨rfl, r1⟩
  have HB2 := Aside0.mk (bel_trans HB1.out r1)
  have Hb2 := Aside0.mk (Ow.blk_below Hb1.out r1)
  clear g0 g1 r1
  have g0 : w2.cell? ⟨g, 0, none⟩ = some (.slice A n c) := blk_cellD Hb2.out 0 _ rfl
  by_cases hR : RightG n E
  case neg =>
    have hBf : B = false := by rw [← HB.out]; exact decide_eq_false (fun h => hR h.2.1)
    have d := decide_eq_false hR
    rw [d]
    have HBf := Aside0.mk hBf
    clear d hR hBf
    go_wp2_with fail
    go_ret
    rw [HBf.out]
    exact ⟨rfl, HB2.out⟩
  have d := decide_eq_true hR
  rw [d]
  have hBe : B = decide ((n : Int) ≤ 8) := by
    rw [← HB.out]
    by_cases h8 : n ≤ 8
    · rw [decide_eq_true (show (n : Int) ≤ 8 by omega)]; exact decide_eq_true ⟨by rw [Hn.out]; exact Hs.out, hR, h8⟩
    · rw [decide_eq_false (show ¬ (n : Int) ≤ 8 by omega)]; exact decide_eq_false (fun h => h8 h.2.2)
  have HBe := Aside0.mk hBe
  clear d hR hBe
  go_wp2_with fail
  go_ret
  rw [HBe.out]
  exact ⟨rfl, HB2.out⟩
end Go.Proofs.YtkpadjhdneiniaaDoor.Sb
end

/- Kk: strings.Builder: copyCheck, WriteString at this program (the shelf's own contracts don't lay here). -/
section
namespace Go.Proofs.YtkpadjhdneiniaaDoor.Bu
set_option linter.unusedVariables false
open Go.RowKit Go.Proofs Go.Shelf

theorem sizeB : (Tryd.prog.info? 88).map (fun i => i.size) = some 2 := by kernel_rfl
theorem liesB : liesAt Tryd.prog Tryd.prog.depth 88 (2 / Tryd.prog.cellsOf 88) 0 88 1 = true := by kernel_rfl
theorem info5 : (Tryd.prog.info? 5).map (fun i => (i.zero, i.size, i.bytes)) = some (some (.int .u8 0), 1, 1) := by kernel_rfl
set_option maxHeartbeats 1000000 in
set_option maxRecDepth 100000 in
theorem check_used (b : Nat) (w : World) (h0 : w.cell? ⟨b, 0, none⟩ = some (.pointer (some ⟨b, 0, none⟩))) :
    Calls Tryd.prog 64 #[.pointer (some ⟨b, 0, none⟩)] w fun e w' => e = .returned (.tuple #[]) ∧ w' = w := by
  obtain ⟨j, hj, _⟩ := Option.map_eq_some_iff.1 sizeB
  go_enter Tryd.func64, Tryd.ntmps64
  go_wp2
  rw [Lib.run_neq_ptr_same w _ Tryd.underlying85 hj]
  go_wp2
  go_end0
  exact ⟨rfl, rfl⟩
set_option maxHeartbeats 1000000 in
set_option maxRecDepth 100000 in
theorem check_fresh (b : Nat) (w : World) (h0 : w.cell? ⟨b, 0, none⟩ = some (.pointer none)) (hsh : w.shape? b = some (88, 2)) (hfz : w.frozen? ⟨b, 0, none⟩ = false) :
    Calls Tryd.prog 64 #[.pointer (some ⟨b, 0, none⟩)] w fun e w' => e = .returned (.tuple #[]) ∧ w' = w.setCell ⟨b, 0, none⟩ (.pointer (some ⟨b, 0, none⟩)) := by
  obtain ⟨j, hj, hjs⟩ := Option.map_eq_some_iff.1 sizeB
  go_enter Tryd.func64, Tryd.ntmps64
  go_wp2
  rw [Lib.run_to_unsafe w ⟨b, 0, none⟩ Tryd.underlying85 Tryd.underlying110 hj (by rw [hjs]; decide) hsh (Nat.zero_lt_succ 1)]
  simp only [Result.andThen]
  rw [Oper.upon_value]
  go_wp2
  rw [run_callFunc_extern Tryd.func78 (by kernel_rfl) (by kernel_rfl) (by kernel_rfl) (e := Extern.AbiNoEscape.same) (by kernel_rfl)]
  rw [Lib.run_noEscape]
  simp only [Result.andThen]
  rw [Oper.upon_value]
  go_wp2
  rw [Lib.run_from_unsafe w ⟨b, 0, none⟩ Tryd.underlying110 Tryd.underlying85 hj hsh liesB]
  simp only [Result.andThen]
  rw [Oper.upon_value]
  go_wp2
  go_end0
  exact ⟨rfl, rfl⟩
theorem check_any (B b : Nat) (bs : List Value) (w : World) (h : Lib.IsBuilder 88 5 B b bs w) :
    Calls Tryd.prog 64 #[.pointer (some ⟨b, 0, none⟩)] w fun e w' => e = .returned (.tuple #[]) ∧ (Lib.BuilderAt 88 5 B b (.pointer (some ⟨b, 0, none⟩)) bs w' ∧ Below B w w' ∧ Lib.OthersKept 5 (some b) w w') := by
  rcases h with h | h
  · refine (check_fresh b w h.cell0 h.shape h.frozen0).mono ?_
    rintro e w' ⟨rfl, rfl⟩
    exact ⟨rfl, h.used _, (Below.refl B w).setCell (p := ⟨b, 0, none⟩) h.1 _, (Lib.OthersKept.refl 5 (some b) w).setCell ⟨b, 0, none⟩ rfl _⟩
  · refine (check_used b w h.cell0).mono ?_
    rintro e w' ⟨rfl, rfl⟩
    exact ⟨rfl, h, Below.refl B _, Lib.OthersKept.refl 5 (some b) _⟩
set_option maxHeartbeats 1000000 in
set_option maxRecDepth 100000 in
theorem write_any (B b : Nat) (bs : List Value) (s : ByteArray) (w : World) (h : Lib.IsBuilder 88 5 B b bs w) (hlen : bs.length + s.size ≤ 140737488355328) (hBw : B ≤ w.heap.size) :
    Calls Tryd.prog 55 #[.pointer (some ⟨b, 0, none⟩), .string s] w fun e w' => e = .returned (.tuple #[.int .i64 s.size, .nilIface]) ∧ (Lib.BuilderAt 88 5 B b (.pointer (some ⟨b, 0, none⟩)) (bs ++ Lib.strCells s) w' ∧ Below B w w' ∧ Lib.OthersKept 5 (some b) w w') := by
  obtain ⟨i0, hi, hzz⟩ := Option.map_eq_some_iff.1 info5
  simp only [Prod.mk.injEq] at hzz
  obtain ⟨hz0, hz1, hz2⟩ := hzz
  go_enter Tryd.func55, Tryd.ntmps55
  go_wp2_with fail
  refine (check_any B b bs _ h).mono ?_
  rintro e w1 ⟨rfl, h1, hb1, hk1⟩
  obtain ⟨hB, v, hbk, hown, hne⟩ := h1
  have c0 : w1.cell? ⟨b, 0, none⟩ = some (.pointer (some ⟨b, 0, none⟩)) := by rw [Lib.cell_of_heap hbk]; rfl
  have c1 : w1.cell? ⟨b, 1, none⟩ = some v := by rw [Lib.cell_of_heap hbk]; rfl
  go_wp2_with (at_builtin; refine Lib.wpList_append_own_string _ rfl _ _ 86 9 rfl B 5 i0 Tryd.underlying86 Tryd.underlying9 hi hz0 hz1 hz2 _ _ _ rfl hown s rfl ?c3 ?c4 ?c5 ?_)
  case c3 => unfold maxLen; omega
  case c4 => omega
  case c5 => have := hb1.size; omega
  intro v' w2 hown' hgrow _
  have hlt : b < w1.heap.size := by
    rcases Nat.lt_or_ge b w1.heap.size with h' | h'
    · exact h'
    · simp [Array.getElem?_eq_none h'] at hbk
  have hb2 : w2.heap[b]? = some (.cells #[.pointer (some ⟨b, 0, none⟩), v] 88 (0, 0)) := by
    rw [hgrow.block b hlt (fun e => hne e.symm)]
    exact hbk
  have d0 : w2.cell? ⟨b, 0, none⟩ = some (.pointer (some ⟨b, 0, none⟩)) := by rw [Lib.cell_of_heap hb2]; rfl
  have d1 : w2.cell? ⟨b, 1, none⟩ = some v := by rw [Lib.cell_of_heap hb2]; rfl
  have f1 : w2.frozen? ⟨b, 1, none⟩ = false := Lib.frozen_of_heap hb2 1
  obtain ⟨ao, n', cap, rfl⟩ : ∃ ao n' cap, v' = .slice ao n' cap := by
    rcases hown'.2 with ⟨hv, _⟩ | ⟨g, cap, cur, hv, _⟩
    · exact ⟨_, _, _, hv⟩
    · exact ⟨_, _, _, hv⟩
  go_wp2
  go_ret2
  refine ⟨rfl, ?_, ?_, ?_⟩
  · exact Lib.BuilderAt.put (T := 88) (e := 5) hB hb2 (bs' := bs ++ Lib.strCells s) (by simpa [Lib.strCells_length] using hown') (by decide)
  · exact (hb1.grown hgrow (by have := hb1.size; omega) (fun k hk => (hown.lt k hk).1)).setCell (p := ⟨b, 1, none⟩) hB _
  · refine (hk1.grown hgrow (fun k hk => ?_)).setCell ⟨b, 1, none⟩ rfl _
    rcases hown.2 with ⟨hv, _⟩ | ⟨g, cap, cur, hv, _, hg, _⟩
    · rw [hv] at hk; cases hk
    · rw [hv] at hk; cases hk; exact ⟨cur, (0, 0), hg⟩
end Go.Proofs.YtkpadjhdneiniaaDoor.Bu
end
