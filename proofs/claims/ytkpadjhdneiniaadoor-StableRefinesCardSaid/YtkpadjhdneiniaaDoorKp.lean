/- stable.split. -/
import Derived.Test.YtkpadjhdneiniaaDoorKo
import Derived.Test.YtkpadjhdneiniaaDoorKm
import Derived.StringKeys
namespace Go.Proofs.YtkpadjhdneiniaaDoor.Sb
set_option linter.unusedVariables false
open Go.RowKit Go.Proofs.YtkpadjhdneiniaaDoorW.PrintWords Go.Proofs.YtkpadjhdneiniaaDoorW.PrintLast Go.Proofs.YtkpadjhdneiniaaDoorW.PrintMore Go.Maps
open Go.Proofs.YtkpadjhdneiniaaDoor.Base Go.Proofs.YtkpadjhdneiniaaDoor.Map Go.Proofs.YtkpadjhdneiniaaDoor.Sl Go.Proofs.YtkpadjhdneiniaaDoor.Ow Go.Proofs.YtkpadjhdneiniaaDoor.Se Go.Proofs.YtkpadjhdneiniaaDoor.Gr Go.Proofs.YtkpadjhdneiniaaDoor.Rf Go.Proofs.YtkpadjhdneiniaaDoor.Tx Go.Proofs.YtkpadjhdneiniaaDoor.St Go.Proofs.YtkpadjhdneiniaaDoor.Ky

/-! a map that has of each key the first place at which it stands -/
structure HMap {α : Type} (lit : α → Lit) (ok : α → Prop) (K : Nat → α) (i : Nat) (f : Lit → Option Value) : Prop where
  old : ∀ j, j < i → ∃ h : Nat, h ≤ j ∧ K h = K j ∧ (∀ k, k < h → K k ≠ K j) ∧ f (lit (K j)) = some (.int .i64 (h : Int))
  new : ∀ s, ok s → (∀ j, j < i → K j ≠ s) → f (lit s) = none
section
variable {α : Type} {lit : α → Lit} {ok : α → Prop} {K : Nat → α} {i : Nat} {f : Lit → Option Value}
theorem HMap.start : HMap lit ok K 0 (fun _ => none) := ⟨fun j h => absurd h (by omega), fun _ _ _ => rfl⟩
theorem HMap.met (h : HMap lit ok K i f) (hm : ∃ j, j < i ∧ K j = K i) : ∃ q : Nat, q < i ∧ K q = K i ∧ (∀ k, k < q → K k ≠ K i) ∧ f (lit (K i)) = some (.int .i64 (q : Int)) ∧ HMap lit ok K (i + 1) f := by
  obtain ⟨j, hj, e⟩ := hm
  obtain ⟨q, h1, h2, h3, h4⟩ := h.old j hj
  rw [e] at h2 h3 h4
  refine ⟨q, by omega, h2, h3, h4, fun k hk => ?_, fun s hs hn => h.new s hs fun k hk => hn k (by omega)⟩
  by_cases e2 : k = i
  · subst e2; exact ⟨q, by omega, h2, h3, h4⟩
  · exact h.old k (by omega)
theorem HMap.more (h : HMap lit ok K i f) (inj : ∀ a b, ok a → ok b → lit a = lit b → a = b) (oks : ∀ j, j ≤ i → ok (K j)) (hm : ¬ ∃ j, j < i ∧ K j = K i) : f (lit (K i)) = none ∧ HMap lit ok K (i + 1) (upd f (lit (K i)) (some (.int .i64 (i : Int)))) := by
  have hne : ∀ j, j < i → K j ≠ K i := fun j hj e => hm ⟨j, hj, e⟩
  refine ⟨h.new _ (oks i (Nat.le_refl _)) hne, fun j hj => ?_, fun s hs hn => ?_⟩
  · by_cases e : j = i
    · subst e
      exact ⟨j, Nat.le_refl _, rfl, fun k hk => hne k hk, upd_same _ _ _⟩
    · obtain ⟨q, h1, h2, h3, h4⟩ := h.old j (by omega)
      refine ⟨q, h1, h2, h3, ?_⟩
      rw [upd_other _ (fun e2 => hne j (by omega) (inj _ _ (oks j (by omega)) (oks i (Nat.le_refl _)) e2))]
      exact h4
  · rw [upd_other _ (fun e2 => hn i (by omega) (inj _ _ hs (oks i (Nat.le_refl _)) e2).symm)]
    exact h.new s hs fun k hk => hn k (by omega)
end
def strLit (s : ByteArray) : Lit := .string s.data.toList
def sOk (s : ByteArray) : Prop := s.size ≤ maxLen
theorem law9 : Keyed Tryd.prog 9 := string_keyed Tryd.underlying9
theorem strLit_key {s : ByteArray} (h : sOk s) : keyOf Tryd.prog 9 (.string s) = some (strLit s) := WideMaps.keyOf_string_mk Tryd.underlying9 h
theorem strLit_inj (a b : ByteArray) (_ : sOk a) (_ : sOk b) (h : strLit a = strLit b) : a = b := by
  have e : a.data.toList = b.data.toList := by simpa [strLit] using h
  exact ByteArray.ext (Array.toList_inj.1 e)
theorem zero3 (w : World) : (zeroValue 3).run Tryd.prog w = .ok (.int .i64 0) w := by kernel_rfl
/-- the text of an object's class and marks -/
def keyB (E : List GE) (out : List Int) (j : Nat) : ByteArray := bytesB (keyL (cl out j) (marksG E out (j : Nat)))
theorem keyB_same (E : List GE) (out : List Int) (i j : Nat) : keyB E out i = keyB E out j ↔ cl out i = cl out j ∧ marksG E out (i : Nat) = marksG E out (j : Nat) := by
  constructor
  · intro h
    have h2 : keyL (cl out i) (marksG E out (i : Nat)) = keyL (cl out j) (marksG E out (j : Nat)) := by
      have := congrArg (fun b : ByteArray => b.data.toList) h
      simpa [keyB, bytesB] using this
    exact keyL_inj h2
  · rintro ⟨h1, h2⟩
    unfold keyB; rw [h1, h2]
theorem cl_ok {n : Nat} {out : List Int} (hd : Hd n out) (hn : n ≤ 1000) {i : Nat} (hi : i < n) : ok64 (cl out i) := by
  obtain ⟨h, h1, h2, _⟩ := hd.head i hi
  rw [h1]; exact ok64_of (by omega) (by omega)
theorem marks_ok {n : Nat} {E : List GE} {out : List Int} (hR : RightG n E) (hd : Hd n out) (hn : n ≤ 1000) (hok : ∀ a f z, (a, f, z) ∈ E → ok64 f) (i : Nat) : ∀ m ∈ marksG E out (i : Nat), ok64 m.1 ∧ ok64 m.2 := by
  rintro ⟨f, c⟩ hm
  obtain ⟨x, hx, rfl⟩ := (mem_marks hR).1 hm
  exact ⟨hok _ _ _ hx, cl_ok hd hn (edges_lt hR hx).2⟩
theorem keyB_ok {n : Nat} {E : List GE} {out : List Int} (hR : RightG n E) (hd : Hd n out) (hn : n ≤ 1000) (hE : E.length ≤ 1000) (hok : ∀ a f z, (a, f, z) ∈ E → ok64 f) {i : Nat} (hi : i < n) : sOk (keyB E out i) := by
  have h1 := keyL_len (cl_ok hd hn hi) (marks_ok hR hd hn hok i)
  have h2 := marksG_len E out (i : Nat)
  have h3 : E.length * E.length ≤ 1000000 := Nat.mul_le_mul hE hE
  have h4 : (keyB E out i).size = (keyL (cl out i) (marksG E out (i : Nat))).length := by simp [keyB, bytesB, ByteArray.size]
  unfold sOk maxLen
  omega
open Classical in
noncomputable instance (a b : List Int) : Decidable (a ≠ b) := Classical.propDecidable _
set_option maxHeartbeats 16000000 in
set_option maxRecDepth 100000 in
theorem split_any (p : Nat) (T : List ByteArray) (E : List GE) (u : Value) (out : List Int) (w : World) (hG : GA w p T E) (hT : TZ w) (hP : P10 w) (hu : RdV w u out) (hR : RightG T.length E) (hd : Hd T.length out) (hok : ∀ a f z, (a, f, z) ∈ E → ok64 f) (hoa : ∀ a f z, (a, f, z) ∈ E → ok64 a)
    (hl : T.length ≤ 1000 ∧ E.length ≤ 1000) :
    Calls Tryd.prog 27 #[.pointer (some ⟨p, 0, none⟩), u] w fun e w' => ∃ v out', e = .returned (.tuple #[v, .bool (!decide (out' = out))]) ∧ RdV w' v out' ∧ SplitOf T.length E out out' ∧ Below w.heap.size w w' := by
  have HU := Aside0.mk hu
  obtain ⟨A, c, rfl, hc, hr⟩ := hu
  have HR := Aside0.mk hr
  have HMk := Aside0.mk (fun (W : World) (hb : Below w.heap.size w W) (o : Int) (ho : ok64 o) => marks_any p T E o (.slice A out.length c) out W (hG.below hb) (hT.below hb) (HU.out.below hb) hR hok hoa ho hd.len hl)
  have HKy := Aside0.mk (fun (W : World) (hb : Below w.heap.size w W) (i : Nat) (hi : i < T.length) (v : Value) (hv : RdP W v (marksG E out (i : Nat))) => key_any (cl out i) v (marksG E out (i : Nat)) W (hP.below hb) hv (cl_ok hd hl.1 hi) (marks_ok hR hd hl.1 hok i) (by
    have h2 := marksG_len E out (i : Nat)
    have h3 : E.length * E.length ≤ 1000000 := Nat.mul_le_mul hl.2 hl.2
    omega))
  have Hoks := Aside0.mk (fun (i : Nat) (hi : i < T.length) => keyB_ok hR hd hl.1 hl.2 hok hi)
  obtain ⟨n, hn⟩ : ∃ n, out.length = n := ⟨_, rfl⟩
  have Hn := Aside0.mk (And.intro hn (And.intro (hn.symm.trans hd.len) hl))
  rw [hn] at HMk ⊢
  rw [← hd.len, hn] at HKy Hoks
  have HTn := Aside0.mk (show SplitOf T.length E out = SplitOf n E out by rw [← hn, hd.len])
  rw [HTn.out]
  have hmm := @run_makeMap Tryd.prog
  clear hG hT hP hr hR hd hok hoa hc hn hl
  go_enter Tryd.func27, Tryd.ntmps27
  go_wp2_with fail
  obtain ⟨mb, hmb⟩ : ∃ b, w.heap.size = b := ⟨_, rfl⟩
  obtain ⟨w0, hw0⟩ : ∃ w0, w.alloc (.map #[] 0) = w0 := ⟨_, rfl⟩
  have HB0 := Aside0.mk (show Below w.heap.size w w0 by rw [← hw0]; exact below_alloc (Below.refl _ _) _)
  have HM0 := Aside0.mk (show MapP Tryd.prog 9 w0 mb (fun _ => none) 0 by rw [← hw0, ← hmb]; exact MapP.made w Tryd.prog 9)
  have Hsz := Aside0.mk (show w0.heap.size = mb + 1 by rw [← hw0, ← hmb]; simp)
  rw [hw0]
  have Hmb := Aside0.mk hmb
  simp only [hmb]
  clear hw0 hmb hmm
  go_loopw [7, 16] (fun V I wr => ∃ (i cn : Nat) (F : Nat → Prop) (f : Lit → Option Value) (o' : List Int), I = .int .i64 (i : Int) ∧ i ≤ n ∧ Aside0 (OwF wr F V o') ∧ Aside0 (SplitT E out o' i) ∧ Aside0 (MapP Tryd.prog 9 wr mb f cn ∧ cn ≤ i ∧ HMap strLit sOk (keyB E out) i f) ∧ Aside0 (∀ k, F k → mb < k) ∧ Aside0 (Below w.heap.size w wr)) (fun _ I _ => n - (intOf I).toNat)
  case atStart => exact ⟨0, 0, fun _ => False, _, [], rfl, Nat.zero_le _, ⟨OwF.nil _ _⟩, ⟨SplitT.nil _ _⟩, ⟨HM0.out, Nat.le_refl _, HMap.start⟩, ⟨fun k hk => hk.elim⟩, HB0⟩
  case round =>
    obtain ⟨i, cn, F, f, o', rfl, hi, HO, HS, HM, HF, HB⟩ := hrel
    by_cases hin : i < n
    · have hnb : decide ((i : Int) < (n : Int)) = true := decide_eq_true (by omega)
      have hnc : decide (i < n) = true := decide_eq_true hin
      have hil : i < out.length := by rw [Hn.out.1]; exact hin
      obtain ⟨ad, rfl, hx⟩ := (HR.out.below HB.out).at_ (i : Int) (by omega) (by omega)
      have hx : wr.cell? (ad.add i) = some (.int .i64 (cl out i)) := by simpa [rd] using hx
      obtain ⟨x, hxx⟩ : ∃ x, cl out i = x := ⟨_, rfl⟩
      rw [hxx] at hx
      have i0 : 0 ≤ (i : Int) := by omega
      have i1 : (i : Int) < (n : Int) := by omega
      have i2 : (i : Int) ≤ 1000000 := by have := Hn.out; omega
      have HA := Aside0.mk (HMk.out wr HB.out (i : Int) (ok64_of (by omega) (by omega)))
      have HK1 := Aside0.mk (HKy.out)
      have Hin := Aside0.mk (And.intro hin (And.intro hil hxx))
      clear hin hi hil hxx
      replace i0 := eq_true i0
      replace i1 := eq_true i1
      go_wp2_with fail
      refine HA.out.mono ?_
      rintro e w1 ⟨v1, rfl, r1, r2⟩
      have HB1 := Aside0.mk (bel_trans HB.out r2)
      have HKx := HK1.out w1 HB1.out i Hin.out.1 v1 r1
      rw [Hin.out.2.2] at HKx
      have HKx := Aside0.mk HKx
      have Hr2 := Aside0.mk r2
      clear r1 r2 HA HK1
      go_wp2_with fail
      refine HKx.out.mono ?_
      rintro e w2 ⟨rfl, r2⟩
      have ek : bytesB (keyL x (marksG E out (i : Nat))) = keyB E out i := by unfold keyB; rw [Hin.out.2.2]
      rw [ek]
      have HB2 := Aside0.mk (bel_trans HB1.out r2)
      have HBr2 := Aside0.mk (bel_trans Hr2.out r2)
      have HM2 := Aside0.mk (HM.out.1.below HBr2.out)
      have HO2 := Aside0.mk (HO.out.below HBr2.out)
      have Hsk := Aside0.mk (Hoks.out i Hin.out.1)
      obtain ⟨s, hs⟩ : ∃ s, keyB E out i = s := ⟨_, rfl⟩
      rw [hs] at Hsk ⊢
      have Hs := Aside0.mk hs
      clear ek r2 HKx hs
      by_cases hmet : ∃ j, j < i ∧ keyB E out j = keyB E out i
      · obtain ⟨q, q1, q2, q3, q4, q5⟩ := HM.out.2.2.met hmet
        rw [Hs.out] at q4
        have hlk := HM2.out.look_ok law9 Tryd.underlying73 (zero3 _) (strLit_key Hsk.out)
        rw [q4] at hlk
        simp only [Option.getD_some, Option.isSome_some] at hlk
        have HS2 := Aside0.mk (HS.out.snoc (q := q) (by omega) ((keyB_same E out q i).1 q2) (fun k hk e => q3 k hk ((keyB_same E out k i).2 e)))
        have HM3 := Aside0.mk (And.intro (Nat.le_succ_of_le HM.out.2.1) q5)
        have hal : Below w2.heap.size w2 (w2.alloc (.cells #[.int .i64 (q : Int)] 3)) := below_alloc (Below.refl _ _) _
        have HO3 := Aside0.mk (HO2.out.below hal)
        have HM4 := Aside0.mk (HM2.out.below hal)
        have HRd : Aside0 (RdV (w2.alloc (.cells #[.int .i64 (q : Int)] 3)) (.slice (some ⟨w2.heap.size, 0, none⟩) 1 1) [(q : Int)]) := ⟨RdV.one (blk_cell (heap_alloc_new _ _) 0)⟩
        have HB5 := Aside0.mk (bel_trans HB2.out hal)
        clear hal hmet q1 q2 q3 q4 q5
        go_wp2_with (first | (at_builtin; refine appF (G := F) rfl (.tmp 39) (.tmp 41) rfl u7 (.slice (some ⟨w2.heap.size, 0, none⟩) 1 1) o' [(q : Int)] (by rfl) (by rfl) HO3.out HRd.out (by have h1 := HS.out.1; have h2 := Hn.out; have := Hin.out.1; have e1 : [(q : Int)].length = 1 := rfl; omega) ?_; intro v1 w5 ho1 hc1) | go_in)
        have HF5 := Aside0.mk (fun k (hk : F k) => (show w.heap.size ≤ k by have := HF.out k hk; have := Hmb.out; omega))
        have HB6 := Aside0.mk (chg_own HB5.out HF5.out hc1)
        have HF6 := Aside0.mk (fun k (hk : ext F (w2.alloc (.cells #[.int .i64 (q : Int)] 3)) w5 k) => (show mb < k from hk.elim (HF.out k) (fun h => by have h1 := h.1; have h2 := HB5.out.size; have h3 := Hmb.out; have h4 := HM2.out.lt; simp at h1; omega)))
        have HM6 := Aside0.mk (HM4.out.chg hc1 (fun hk => Nat.lt_irrefl _ (HF.out mb hk)))
        have HO6 := Aside0.mk ho1
        clear ho1 hc1 hlk
        go_roundw
        case rel => exact ⟨i + 1, cn, _, f, _, by go_num, Hin.out.1, HO6, HS2, ⟨HM6.out, HM3.out.1, HM3.out.2⟩, HF6, HB6⟩
        case measure => have := Hin.out.1; simp [intOf]; omega
      · obtain ⟨q4, q5⟩ := HM.out.2.2.more strLit_inj (fun j hj => Hoks.out j (by have := Hin.out.1; omega)) hmet
        rw [Hs.out] at q4 q5
        have hlk := HM2.out.look_ok law9 Tryd.underlying73 (zero3 _) (strLit_key Hsk.out)
        rw [q4] at hlk
        simp only [Option.getD_none, Option.isSome_none] at hlk
        have HS2 := Aside0.mk (HS.out.snoc (q := i) (Nat.le_refl _) ⟨rfl, rfl⟩ (fun k hk e => hmet ⟨k, hk, (keyB_same E out k i).2 e⟩))
        have Hkey := Aside0.mk (strLit_key Hsk.out)
        have Hcn := Aside0.mk (show cn < maxLen by have := HM.out.2.1; have := Hn.out; have := Hin.out.1; unfold maxLen; omega)
        have Hq := Aside0.mk (And.intro q4 q5)
        clear hmet q4 q5
        go_wp2_with (first
          | (at_mapUpdate; refine wp_store (val := .int .i64 (i : Int)) rfl _ _ _ 73 9 3 rfl HM2.out law9 Tryd.underlying73 Hcn.out rfl rfl rfl Hkey.out ?_; intro w3 hM3 hg3; have hC3 := Aside0.mk (Chg.of_grown (F := fun k => k = mb) hg3 (fun k hk => by cases hk; rfl)); have HM3 := Aside0.mk hM3; clear hM3 hg3; have HO3 := Aside0.mk ((HO2.out.chg hC3.out (fun k hk e => by have := HF.out k hk; omega)).below (below_alloc (Below.refl w3.heap.size w3) (.cells #[.int .i64 (i : Int)] 3))); have HRd : Aside0 (RdV (w3.alloc (.cells #[.int .i64 (i : Int)] 3)) (.slice (some ⟨w3.heap.size, 0, none⟩) 1 1) [(i : Int)]) := Aside0.mk (RdV.one (blk_cell (heap_alloc_new _ _) 0)))
          | (at_builtin; refine appF (G := F) rfl (.tmp 39) (.tmp 41) rfl u7 (.slice (some ⟨w3.heap.size, 0, none⟩) 1 1) o' [(i : Int)] (by rfl) (by rfl) HO3.out HRd.out (by have h1 := HS.out.1; have h2 := Hn.out; have := Hin.out.1; have e1 : [(i : Int)].length = 1 := rfl; omega) ?_; intro v1 w5 ho1 hc1)
          | go_in)
        have HM4 := Aside0.mk (HM3.out.below (below_alloc (Below.refl w3.heap.size w3) (.cells #[.int .i64 (i : Int)] 3)))
        have HB3 := Aside0.mk (chg_own HB2.out (fun k (hk : k = mb) => by have := Hmb.out; omega) hC3.out)
        have HB5 := Aside0.mk (below_alloc HB3.out (.cells #[.int .i64 (i : Int)] 3))
        have HF5 := Aside0.mk (fun k (hk : F k) => (show w.heap.size ≤ k by have := HF.out k hk; have := Hmb.out; omega))
        have HB6 := Aside0.mk (chg_own HB5.out HF5.out hc1)
        have HF6 := Aside0.mk (fun k (hk : ext F (w3.alloc (.cells #[.int .i64 (i : Int)] 3)) w5 k) => (show mb < k from hk.elim (HF.out k) (fun h => by have h1 := h.1; have h4 := HM3.out.lt; simp at h1; omega)))
        have HM6 := Aside0.mk (HM4.out.chg hc1 (fun hk => Nat.lt_irrefl _ (HF.out mb hk)))
        have HO6 := Aside0.mk ho1
        clear ho1 hc1 hlk
        go_roundw
        case rel => exact ⟨i + 1, _, _, _, _, by go_num, Hin.out.1, HO6, HS2, ⟨HM6.out, by have := HM.out.2.1; rw [Hq.out.1]; simp; omega, Hq.out.2⟩, HF6, HB6⟩
        case measure => have := Hin.out.1; simp [intOf]; omega
    · have hnb : decide ((i : Int) < (n : Int)) = false := decide_eq_false (by omega)
      have hnc : decide (i < n) = false := decide_eq_false hin
      obtain rfl : i = n := by omega
      have HE := Aside0.mk (eqI_any u7 (.slice A i c) o' out wr HO.out.toV (by have h := HU.out.below HB.out; rw [Hn.out.1] at h; exact h) (by have := HS.out.1; have := Hn.out; omega))
      clear hin hi
      go_wp2_with fail
      refine HE.out.mono ?_
      rintro e w1 ⟨rfl, r1⟩
      have HB1 := Aside0.mk (bel_trans HB.out r1)
      have HO1 := Aside0.mk (HO.out.toV.below r1)
      clear r1 HE
      obtain ⟨B, hB⟩ : ∃ B, decide (o' = out) = B := ⟨_, rfl⟩
      rw [hB]
      have HBv := Aside0.mk hB
      clear hB
      go_wp2_with fail
      go_ret2
      exact ⟨_, o', by rw [HBv.out]; rfl, HO1.out, HS.out, HB1.out⟩
end Go.Proofs.YtkpadjhdneiniaaDoor.Sb
