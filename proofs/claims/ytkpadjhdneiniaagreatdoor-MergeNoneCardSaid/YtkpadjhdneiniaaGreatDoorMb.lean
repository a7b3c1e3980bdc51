/- merge.may, May; the document's May. -/
import Derived.Test.YtkpadjhdneiniaaGreatDoorNe
import Derived.Test.YtkpadjhdneiniaaGreatDoorBg
import Derived.Test.YtkpadjhdneiniaaGreatDoorMa
namespace Go.Proofs.YtkpadjhdneiniaaGreatDoor.Am
set_option linter.unusedVariables false
open Go.RowKit Go.Proofs.YtkpadjhdneiniaaGreatDoorW.PrintWords Go.Proofs.YtkpadjhdneiniaaGreatDoorW.PrintLast Go.Proofs.YtkpadjhdneiniaaGreatDoorW.PrintMore Go.Maps
open Go.Proofs.YtkpadjhdneiniaaGreatDoor.Base Go.Proofs.YtkpadjhdneiniaaGreatDoor.Map Go.Proofs.YtkpadjhdneiniaaGreatDoor.Sl Go.Proofs.YtkpadjhdneiniaaGreatDoor.Ow Go.Proofs.YtkpadjhdneiniaaGreatDoor.Se Go.Proofs.YtkpadjhdneiniaaGreatDoor.Gr Go.Proofs.YtkpadjhdneiniaaGreatDoor.Rf Go.Proofs.YtkpadjhdneiniaaGreatDoor.Tx Go.Proofs.YtkpadjhdneiniaaGreatDoor.Au



open Go.Proofs.YtkpadjhdneiniaaGreatDoor.Eb
/-! a graph, and automata of it, that stay whatever changes of what is a or newer -/
def GAs (a : Nat) (w : World) (pg : Nat) (T : List ByteArray) (E : List GE) : Prop := ∀ (G : Nat → Prop) (w1 : World), (∀ k, G k → a ≤ k) → Chg G w w1 → GA w1 pg T E
theorem GAs.start {w : World} {pg : Nat} {T : List ByteArray} {E : List GE} (h : GA w pg T E) : GAs w.heap.size w pg T E := fun G w1 hG hC => h.below (hC.below (Nat.le_refl _) hG)
theorem GAs.chg {a : Nat} {w w1 : World} {pg : Nat} {T : List ByteArray} {E : List GE} (h : GAs a w pg T E) {G : Nat → Prop} (hG : ∀ k, G k → a ≤ k) (hC : Chg G w w1) (ha : a ≤ w.heap.size) : GAs a w1 pg T E := fun G' w2 hG' hC' =>
  h (fun k => a ≤ k) w2 (fun _ hk => hk) ((hC.mono (fun k _ hk => hG k hk)).then_ hC' (fun k hk => .inl (hG' k hk)))
theorem GAs.below {a : Nat} {w w1 : World} {pg : Nat} {T : List ByteArray} {E : List GE} (h : GAs a w pg T E) (hb : Below w.heap.size w w1) (ha : a ≤ w.heap.size) : GAs a w1 pg T E := h.chg (G := fun _ => False) (fun _ hk => hk.elim) (Chg.of_below hb _) ha
theorem GAs.ga {a : Nat} {w : World} {pg : Nat} {T : List ByteArray} {E : List GE} (h : GAs a w pg T E) : GA w pg T E := h (fun _ => False) w (fun _ hk => hk.elim) (Chg.refl _ _)
def AuR (a b e : Nat) (w : World) (pa : Nat) (T : List ByteArray) (E : List GE) (o : Int) : Prop :=
  ∃ pg F, ∀ (G : Nat → Prop) (w1 : World), (∀ k, G k → a ≤ k ∧ (k < b ∨ e ≤ k)) → Chg G w w1 → AuX w1 F pa pg (statesG E T.length o) (stepG E (statesG E T.length o)) 100000 ∧ GA w1 pg T E
theorem AuR.chg {a b e : Nat} {w w1 : World} {pa : Nat} {T : List ByteArray} {E : List GE} {o : Int} (h : AuR a b e w pa T E o) {G : Nat → Prop} (hG : ∀ k, G k → a ≤ k ∧ (k < b ∨ e ≤ k)) (hC : Chg G w w1) : AuR a b e w1 pa T E o := by
  obtain ⟨pg, F, h⟩ := h
  refine ⟨pg, F, fun G' w2 hG' hC' => h (fun k => G k ∨ G' k) w2 (fun k hk => hk.elim (hG k) (hG' k)) ?_⟩
  exact (hC.mono (fun _ _ hk => .inl hk)).then_ hC' (fun k hk => .inl (.inr hk))
theorem AuR.below {a b e : Nat} {w w1 : World} {pa : Nat} {T : List ByteArray} {E : List GE} {o : Int} (h : AuR a b e w pa T E o) (hb : Below w.heap.size w w1) : AuR a b e w1 pa T E o :=
  h.chg (G := fun _ => False) (fun _ hk => hk.elim) (Chg.of_below hb _)
theorem AuR.au {a b e : Nat} {w : World} {pa : Nat} {T : List ByteArray} {E : List GE} {o : Int} (h : AuR a b e w pa T E o) : ∃ pg F, ∀ w1, Below w.heap.size w w1 → AuX w1 F pa pg (statesG E T.length o) (stepG E (statesG E T.length o)) 100000 ∧ GA w1 pg T E := by
  obtain ⟨pg, F, h⟩ := h
  exact ⟨pg, F, fun w1 hb => h (fun _ => False) w1 (fun _ hk => hk.elim) (Chg.of_below hb _)⟩
theorem same_aur {a a' b b' e e' : Nat} {w : World} {pa pb : Nat} {T : List ByteArray} {E : List GE} {o x : Int} (ha : AuR a b e w pa T E o) (hb : AuR a' b' e' w pb T E x) (hL : LightG T.length E) (hok : ∀ a f z, (a, f, z) ∈ E → ok64 f) (o0 : 0 ≤ o) (o1 : o < T.length) (x0 : 0 ≤ x) (x1 : x < T.length) {B : Bool} (hB : B = true ↔ ∀ v, ¬ Df T E [o] [x] v) :
    SameSaid w (some ⟨pa, 0, none⟩) (some ⟨pb, 0, none⟩) B := by
  obtain ⟨pga, Fa, ha⟩ := ha.au
  obtain ⟨pgb, Fb, hb⟩ := hb.au
  intro W' hc
  refine (esame_any pa pb pga pgb 100000 100000 T.length Fa Fb _ _ T E o x W' (ha W' hc).1 (hb W' hc).1 (ha W' hc).2 (hb W' hc).2 rfl hL.2.2 hL.1.2 hL.2.1 hok o0 o1 x0 x1 rfl rfl).mono ?_
  rintro e' w' ⟨⟨B', rfl, hB'⟩, r1⟩
  refine ⟨?_, r1⟩
  have : B' = B := by
    rw [Bool.eq_iff_iff, hB', hB]
  rw [this]
/-- may an object be merged? -/
def MayG (T : List ByteArray) (E : List GE) (most o : Int) : Prop := (0 ≤ o ∧ o < T.length) ∧ ((statesG E T.length o).length : Int) ≤ most ∧ SingleG T (statesG E T.length o)
def MaySaid (a : Nat) (w : World) (T : List ByteArray) (E : List GE) (most o : Int) (e : Ending) (w' : World) : Prop := Below w.heap.size w w' ∧
  ((MayG T E most o ∧ ∃ pa, e = .returned (.pointer (some ⟨pa, 0, none⟩)) ∧ AuR a w.heap.size w'.heap.size w' pa T E o) ∨ (¬ MayG T E most o ∧ e = .returned (.pointer none)))
set_option maxHeartbeats 8000000 in
set_option maxRecDepth 100000 in
theorem may_any (a pg : Nat) (T : List ByteArray) (E : List GE) (o most : Int) (w : World) (hg : GAs a w pg T E) (ha : a ≤ w.heap.size) (hT : TZ w) (hP : P10 w) (hL : LightG T.length E) (hok : ∀ a f z, (a, f, z) ∈ E → ok64 f) (hm : ok64 most) :
    Calls Tryz.prog 78 #[.pointer (some ⟨pg, 0, none⟩), .int .i64 o, .int .i64 most] w (MaySaid a w T E most o) := by
  by_cases ho : 0 ≤ o ∧ o < T.length
  case neg =>
    have HB := Aside0.mk (build_out pg T E o most w hg.ga ho)
    have HN := Aside0.mk (show ¬ MayG T E most o from fun h => ho h.1)
    clear hg ha hT hP hL hok hm ho
    go_enter Tryz.func78, Tryz.ntmps78
    go_wp2_with fail
    refine HB.out.mono ?_
    rintro e w1 ⟨rfl, rfl⟩
    go_wp2_with fail
    go_ret
    exact ⟨Below.refl _ _, .inr ⟨HN.out, rfl⟩⟩
  have HBd := Aside0.mk (build2_any pg T E o most w hg.ga hT hP hL.2.1 hL.2.2 hL.1.2 hok ho.1 ho.2 hm)
  obtain ⟨B, hB⟩ := single_bool T (statesG E T.length o)
  have hI : StI T.length E o (statesG E T.length o) := states_inv hL.2.1 ho.1 ho.2
  have hSl : (statesG E T.length o).length ≤ 256 := Nat.le_trans hI.len (Nat.pow_le_pow_right (by decide) hL.2.2)
  have HSg := Aside0.mk (fun (W' : World) (pa : Nat) (F : Nat → Prop) (hA : AuX W' F pa pg (statesG E T.length o) (stepG E (statesG E T.length o)) 100000) (hG : GA W' pg T E) => asingle_any pa pg _ F _ _ T E W' hA hG (fun s hs => by have h := (sm_ok hL.2.2 (hI.sm s hs).1).1; omega) (by have := hL.2.2; omega) (by omega) B hB)
  have H := Aside0.mk (And.intro hg (And.intro ha (And.intro ho hB)))
  clear hg ha hT hP hL hok hm ho hB hI hSl
  go_enter Tryz.func78, Tryz.ntmps78
  go_wp2_with fail
  refine HBd.out.mono ?_
  rintro e w1 ⟨r1, ⟨r0, pa, F, rfl, r2, r3, r4⟩ | ⟨r0, rfl⟩⟩
  case inr =>
    have HN := Aside0.mk (And.intro r1 (show ¬ MayG T E most o from fun h => r0 h.2.1))
    clear r0 r1
    go_wp2_with fail
    go_ret
    exact ⟨HN.out.1, .inr ⟨HN.out.2, rfl⟩⟩
  have HB1 := Aside0.mk r1
  have HS1 := Aside0.mk (HSg.out w1 pa F r2 (H.out.1.ga.below r1))
  have HA1 := Aside0.mk (show ∀ (G : Nat → Prop) (w2 : World), (∀ k, G k → a ≤ k ∧ (k < w.heap.size ∨ w1.heap.size ≤ k)) → Chg G w1 w2 → AuX w2 F pa pg (statesG E T.length o) (stepG E (statesG E T.length o)) 100000 ∧ GA w2 pg T E from fun G w2 hG hC => by
    have hC2 : Chg (fun k => k < w.heap.size ∧ a ≤ k) w1 w2 := hC.mono (fun k hk hg => ⟨(hG k hg).2.elim id (fun h => by omega), (hG k hg).1⟩)
    exact ⟨r2.chg hC2 (fun k hk hlt => by have := r4 k hk; omega) (fun k hk => by omega), (H.out.1.below r1 H.out.2.1) _ w2 (fun k hk => hk.2) hC2⟩)
  have H0 := Aside0.mk r0
  clear r0 r1 r2 r3 r4 HSg HBd
  go_wp2_with fail
  refine HS1.out.mono ?_
  rintro e w2 ⟨rfl, r1⟩
  have HB2 := Aside0.mk (bel_trans HB1.out r1)
  cases B with
  | false =>
    have HN := Aside0.mk (show ¬ MayG T E most o from fun h => by have := H.out.2.2.2.2 h.2.2; cases this)
    clear r1
    go_wp2_with fail
    go_ret
    exact ⟨HB2.out, .inr ⟨HN.out, rfl⟩⟩
  | true =>
    have HM := Aside0.mk (show MayG T E most o from ⟨H.out.2.2.1, H0.out, H.out.2.2.2.1 rfl⟩)
    have hz := r1.size
    have HA2 := Aside0.mk (show AuR a w.heap.size w2.heap.size w2 pa T E o from ⟨pg, F, fun G w3 hG hC => HA1.out (fun k => a ≤ k ∧ (k < w.heap.size ∨ w1.heap.size ≤ k)) w3 (fun k hk => hk) ((Chg.of_below r1 _).then_ hC (fun k hk => .inl ⟨(hG k hk).1, (hG k hk).2.imp id (fun h => by omega)⟩))⟩)
    clear r1 hz
    go_wp2_with fail
    go_ret
    exact ⟨HB2.out, .inl ⟨HM.out, pa, rfl, HA2.out⟩⟩
set_option maxHeartbeats 8000000 in
set_option maxRecDepth 100000 in
theorem may_nil (o most : Int) (w : World) : Calls Tryz.prog 78 #[.pointer none, .int .i64 o, .int .i64 most] w fun e w' => e = .returned (.pointer none) ∧ w = w' := by
  have HB := Aside0.mk (build_nil o most w)
  go_enter Tryz.func78, Tryz.ntmps78
  go_wp2_with fail
  refine HB.out.mono ?_
  rintro e w1 ⟨rfl, rfl⟩
  go_wp2_with fail
  go_ret
  exact ⟨rfl, rfl⟩
/-- merge.May -/
theorem mayB_any (a pg : Nat) (T : List ByteArray) (E : List GE) (o most : Int) (w : World) (hg : GAs a w pg T E) (ha : a ≤ w.heap.size) (hT : TZ w) (hP : P10 w) (hL : LightG T.length E) (hok : ∀ a f z, (a, f, z) ∈ E → ok64 f) (hm : ok64 most) (B : Bool) (hB : B = true ↔ MayG T E most o) :
    Calls Tryz.prog 49 #[.pointer (some ⟨pg, 0, none⟩), .int .i64 o, .int .i64 most] w fun e w' => e = .returned (.bool B) ∧ Below w.heap.size w w' := by
  have HM := Aside0.mk (may_any a pg T E o most w hg ha hT hP hL hok hm)
  have HB := Aside0.mk hB
  clear hg ha hT hP hL hok hm hB
  go_enter Tryz.func49, Tryz.ntmps49
  go_wp2_with fail
  refine HM.out.mono ?_
  rintro e w1 ⟨r1, ⟨r0, pa, rfl, -⟩ | ⟨r0, rfl⟩⟩
  · have HB1 := Aside0.mk r1
    obtain rfl : B = true := HB.out.2 r0
    clear r0 r1 HM
    go_wp2_with fail
    go_ret
    exact ⟨rfl, HB1.out⟩
  · have HB1 := Aside0.mk r1
    obtain rfl : B = false := by cases B with
      | false => rfl
      | true => exact absurd (HB.out.1 rfl) r0
    clear r0 r1 HM
    go_wp2_with fail
    go_ret
    exact ⟨rfl, HB1.out⟩
set_option maxHeartbeats 8000000 in
set_option maxRecDepth 100000 in
theorem mayB_nil (o most : Int) (w : World) : Calls Tryz.prog 49 #[.pointer none, .int .i64 o, .int .i64 most] w fun e w' => e = .returned (.bool false) ∧ w = w' := by
  have HM := Aside0.mk (may_nil o most w)
  go_enter Tryz.func49, Tryz.ntmps49
  go_wp2_with fail
  refine HM.out.mono ?_
  rintro e w1 ⟨rfl, rfl⟩
  go_wp2_with fail
  go_ret
  exact ⟨rfl, rfl⟩

end Go.Proofs.YtkpadjhdneiniaaGreatDoor.Am
