/- graph.Fields of objects. -/
import Derived.Test.YtfgonclaiphoeaaGreatDoorGk
namespace Go.Proofs.YtfgonclaiphoeaaGreatDoor.Gr
set_option linter.unusedVariables false
open Go.RowKit Go.Proofs.YtfgonclaiphoeaaGreatDoorW.PrintWords Go.Proofs.YtfgonclaiphoeaaGreatDoorW.PrintLast Go.Proofs.YtfgonclaiphoeaaGreatDoorW.PrintMore Go.Maps
open Go.Proofs.YtfgonclaiphoeaaGreatDoor.Base Go.Proofs.YtfgonclaiphoeaaGreatDoor.Map Go.Proofs.YtfgonclaiphoeaaGreatDoor.Sl Go.Proofs.YtfgonclaiphoeaaGreatDoor.Ow Go.Proofs.YtfgonclaiphoeaaGreatDoor.Se

/-- the fields of each, one behind the other -/
def catF (E : List GE) (os : List Int) (i : Nat) : List Int := (os.take i).flatMap fun o => fieldsG E [o]
theorem catF_snoc (E : List GE) (os : List Int) (i : Nat) (hi : i < os.length) : catF E os (i + 1) = catF E os i ++ fieldsG E [os.getD i 0] := by
  unfold catF
  rw [List.take_succ_eq_append_getElem hi, List.flatMap_append]
  simp [List.getElem?_eq_getElem hi]
theorem catF_len (E : List GE) (os : List Int) (i : Nat) : (catF E os i).length ≤ os.length * E.length := by
  have h : ∀ l : List Int, (l.flatMap fun o => fieldsG E [o]).length ≤ l.length * E.length := fun l => by
    induction l with
    | nil => simp
    | cons f l ih =>
      rw [List.flatMap_cons, List.length_append, List.length_cons, Nat.succ_mul]
      have := fields_len E [f]
      omega
  refine Nat.le_trans (h _) (Nat.mul_le_mul_right _ ?_)
  rw [List.length_take]; exact Nat.min_le_right _ _
theorem catF_all (E : List GE) (os : List Int) (h : os ≠ []) : srtL (catF E os os.length) = fieldsG E os := by
  refine srt_ext (srt_srtL _) (srt_fieldsG _ _) fun f => ?_
  rw [mem_srtL, mem_fieldsG]
  unfold catF
  rw [List.take_length, List.mem_flatMap]
  constructor
  · rintro ⟨o, h1, h2⟩
    obtain ⟨t, ht⟩ := mem_fields1.1 h2
    exact ⟨o, t, ht, .inr h1⟩
  · rintro ⟨o, t, h1, h2⟩
    exact ⟨o, h2.resolve_left h, mem_fields1.2 ⟨t, h1⟩⟩
set_option maxHeartbeats 8000000 in
set_option maxRecDepth 100000 in
theorem fields_some (p : Nat) (T : List ByteArray) (E : List GE) (A : Option Addr) (c : Nat) (os : List Int) (w : World) (h : GA w p T E) (hu : RdI w A os) (ho : ∀ x ∈ os, ok64 x) (hl : E.length ≤ 1000) (hl2 : os.length ≤ 1000) (h0 : os ≠ []) :
    Calls Tryz.prog 17 #[.pointer (some ⟨p, 0, none⟩), .slice A os.length c] w fun e w' => ∃ v, e = .returned v ∧ OwI w' w.heap.size v (fieldsG E os) ∧ Below w.heap.size w w' := by
  have hpos : 0 < os.length := List.length_pos_iff.2 h0
  have H := Aside0.mk h
  have HU := Aside0.mk hu
  have Ho := Aside0.mk (And.intro ho h0)
  have Hl := Aside0.mk (And.intro hl hl2)
  have q0 : ((os.length : Int) == 0) = false := by rw [beq_eq_false_iff_ne]; omega
  have q1 : decide ((os.length : Int) = 0) = false := decide_eq_false (by omega)
  clear h hu ho hl hl2 h0 hpos
  go_enter Tryz.func17, Tryz.ntmps17
  go_wp2_with fail
  go_loopw [5, 9, 27] (fun V _ I wr => ∃ (i : Nat) (G : Nat → Prop), I = .int .i64 (i : Int) ∧ i ≤ os.length ∧ Aside0 (OwF wr G V (catF E os i)) ∧ Aside0 (∀ k, G k → w.heap.size ≤ k) ∧ Aside0 (Below w.heap.size w wr)) (fun _ _ I _ => os.length - (intOf I).toNat)
  case atStart => exact ⟨0, fun _ => False, rfl, Nat.zero_le _, ⟨by unfold catF; exact OwF.nil _ _⟩, ⟨fun k hk => hk.elim⟩, ⟨Below.refl _ _⟩⟩
  case round =>
    obtain ⟨i, G, rfl, hi, HO, HGb, HB⟩ := hrel
    by_cases hin : i < os.length
    · have hnb : decide ((i : Int) < (os.length : Int)) = true := decide_eq_true (by omega)
      have hnc : decide (i < os.length) = true := decide_eq_true hin
      obtain ⟨ad, rfl, hx⟩ := (HU.out.below HB.out).at_ (i : Int) (by omega) (by omega)
      rw [Int.toNat_natCast] at hx
      have i0 : 0 ≤ (i : Int) := by omega
      have i1 : (i : Int) < (os.length : Int) := by omega
      have i2 : (i : Int) ≤ 1000 := by have := Hl.out.2; omega
      have hx2 : rd os (i : Int) = os.getD i 0 := by simp [rd]
      have hsn := catF_snoc E os i hin
      obtain ⟨x, hxx⟩ : ∃ x, os.getD i 0 = x := ⟨_, rfl⟩
      rw [hx2, hxx] at hx
      rw [hxx] at hsn
      have hxm : ok64 x := Ho.out.1 x (by rw [← hxx]; exact getD_mem hin)
      obtain ⟨mb, hby⟩ := H.out.byW
      obtain ⟨vf, hvf, hrf⟩ := hby x hxm
      obtain ⟨c2, hlk⟩ := hvf wr HB.out
      have Hrf := Aside0.mk (hrf.below HB.out)
      have Hsn := Aside0.mk hsn
      have Hin := Aside0.mk hin
      have Hln := Aside0.mk (show (catF E os i).length + (fieldsG E [x]).length ≤ 2000000 by
        have h1 := catF_len E os i
        have h2 := fields_len E [x]
        have h3 : os.length * E.length ≤ 1000 * 1000 := Nat.mul_le_mul Hl.out.2 Hl.out.1
        have h4 := Hl.out.1
        omega)
      clear hin hi hx2 hxx hsn hxm hby hvf hrf
      replace i0 := eq_true i0
      replace i1 := eq_true i1
      go_wp2_with (first
        | (at_builtin; refine appF (G := G) rfl (.tmp 31) (.tmp 37) rfl _ _ (catF E os i) (fieldsG E [x]) rfl rfl HO.out Hrf.out (by have := Hln.out; omega) ?_; intro v2 w2 ho2 hc2)
        | go_in)
      have hB2 : Below w.heap.size w w2 := ((Chg.of_below HB.out (fun _ => False)).then_ hc2 (fun k hk => .inr (HGb.out k hk))).below (Nat.le_refl _) (fun k hk => hk.elim)
      have HB2 := Aside0.mk hB2
      have HG2 := Aside0.mk (show ∀ k, ext G wr w2 k → w.heap.size ≤ k from fun k hk => hk.elim (HGb.out k) (fun h => by have h1 := h.1; have h2 := HB.out.size; omega))
      have HO2 := Aside0.mk ho2
      clear ho2 hc2 hB2
      go_roundw
      case rel => exact ⟨i + 1, _, by go_num, Hin.out, ⟨by rw [Hsn.out]; exact HO2.out⟩, HG2, HB2⟩
      case measure => have := Hin.out; simp [intOf]; omega
    · have hnb : decide ((i : Int) < (os.length : Int)) = false := decide_eq_false (by omega)
      have hnc : decide (i < os.length) = false := decide_eq_false hin
      obtain rfl : i = os.length := by omega
      have HD := Aside0.mk (catF_all E os Ho.out.2)
      have Hln := Aside0.mk (show (catF E os os.length).length ≤ 2000000 by
        have h1 := catF_len E os os.length
        have h3 : os.length * E.length ≤ 1000 * 1000 := Nat.mul_le_mul Hl.out.2 Hl.out.1
        omega)
      clear hin hi
      go_wp2_with fail
      refine (sort_own _ _ G _ HO.out (by have := Hln.out; omega)).mono ?_
      rintro e w2 ⟨rfl, r1, r2⟩
      have HO2 := Aside0.mk r1
      have HB2 := Aside0.mk (show Below w.heap.size w w2 from ((Chg.of_below HB.out (fun _ => False)).then_ r2 (fun k hk => .inr (HGb.out k hk))).below (Nat.le_refl _) (fun k hk => hk.elim))
      clear r1 r2
      go_wp2_with fail
      refine (compact_own _ _ G w2 HO2.out).mono ?_
      rintro e w3 ⟨v3, rfl, r1, r2⟩
      rw [srt_compact, HD.out] at r1
      have HO3 := Aside0.mk (OwF.own r1 (base := w.heap.size) HGb.out)
      have HB3 := Aside0.mk (show Below w.heap.size w w3 from ((Chg.of_below HB2.out (fun _ => False)).then_ r2 (fun k hk => .inr (HGb.out k hk))).below (Nat.le_refl _) (fun k hk => hk.elim))
      clear r1 r2
      go_wp2_with fail
      go_ret
      exact ⟨_, rfl, HO3.out, HB3.out⟩
/-- Fields -/
theorem fields_any (p : Nat) (T : List ByteArray) (E : List GE) (u : Value) (os : List Int) (w : World) (h : GA w p T E) (hu : RdV w u os) (hE : ∀ x f y, (x, f, y) ∈ E → ok64 x) (ho : ∀ x ∈ os, ok64 x) (hl : E.length ≤ 1000) (hl2 : os.length ≤ 1000) :
    Calls Tryz.prog 17 #[.pointer (some ⟨p, 0, none⟩), u] w fun e w' => ∃ v, e = .returned v ∧ OwI w' w.heap.size v (fieldsG E os) ∧ Below w.heap.size w w' := by
  obtain ⟨A, c, rfl, hc, hr⟩ := hu
  by_cases h0 : os = []
  · subst h0
    exact fields_none p T E A c w h hE hl
  · exact fields_some p T E A c os w h hr ho hl hl2 h0
end Go.Proofs.YtfgonclaiphoeaaGreatDoor.Gr
