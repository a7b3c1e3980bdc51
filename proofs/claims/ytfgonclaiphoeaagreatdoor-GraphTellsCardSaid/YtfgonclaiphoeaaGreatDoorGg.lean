/- graph.Next. -/
import Derived.Test.YtfgonclaiphoeaaGreatDoorGf
namespace Go.Proofs.YtfgonclaiphoeaaGreatDoor.Gr
set_option linter.unusedVariables false
open Go.RowKit Go.Proofs.YtfgonclaiphoeaaGreatDoorW.PrintWords Go.Proofs.YtfgonclaiphoeaaGreatDoorW.PrintLast Go.Proofs.YtfgonclaiphoeaaGreatDoorW.PrintMore Go.Maps
open Go.Proofs.YtfgonclaiphoeaaGreatDoor.Base Go.Proofs.YtfgonclaiphoeaaGreatDoor.Map Go.Proofs.YtfgonclaiphoeaaGreatDoor.Sl Go.Proofs.YtfgonclaiphoeaaGreatDoor.Ow Go.Proofs.YtfgonclaiphoeaaGreatDoor.Se

/-- A graph that a call may read. -/
structure GA (w : World) (p : Nat) (T : List ByteArray) (E : List GE) : Prop where mk :: (out : ∃ lab, GN w lab p T E)
theorem GA.below {w w1 : World} {p : Nat} {T : List ByteArray} {E : List GE} (h : GA w p T E) (hb : Below w.heap.size w w1) : GA w1 p T E := by
  obtain ⟨lab, h⟩ := h; exact ⟨lab, GX.below h hb⟩
/-- the map of ways, and what it has -/
theorem GA.ways {w : World} {p : Nat} {T : List ByteArray} {E : List GE} (h : GA w p T E) : ∃ mn, w.cell? ⟨p, 1, none⟩ = some (.map (some mn)) ∧ ∀ a f, ok64 a → ok64 f →
    ∃ v, (Instr.lookup 47 (.map (some mn)) (.agg #[.int .i64 a, .int .i64 f]) false).run Tryz.prog w = .ok v w ∧ SetN w v (nextG E f [a]) := by
  obtain ⟨lab, vT, mn, mb, fn, fb, cn, cb, g⟩ := h
  refine ⟨mn, blk_cell g.blk 1, fun a f ha hf => ?_⟩
  have hl := g.next.look law54 Tryz.underlying47 (zero55 w) (wayL_key ha hf)
  by_cases hK : KE E a f
  · obtain ⟨b, e1, e2⟩ := (g.ways a f ha hf).1 hK
    rw [e1] at hl
    exact ⟨_, hl, .inr ⟨b, _, rfl, e2⟩⟩
  · rw [(g.ways a f ha hf).2 hK] at hl
    exact ⟨_, hl, .inl ⟨rfl, next_none hK⟩⟩
/-- the map of fields, and what it has -/
theorem GA.byf {w : World} {p : Nat} {T : List ByteArray} {E : List GE} (h : GA w p T E) : ∃ mb, w.cell? ⟨p, 2, none⟩ = some (.map (some mb)) ∧ ∀ a, ok64 a →
    ∃ v, (Instr.lookup 48 (.map (some mb)) (.int .i64 a) false).run Tryz.prog w = .ok v w ∧ RdV w v (fieldsG E [a]) := by
  obtain ⟨lab, vT, mn, mb, fn, fb, cn, cb, g⟩ := h
  refine ⟨mb, blk_cell g.blk 2, fun a ha => ?_⟩
  have hl := g.by_.look law3 Tryz.underlying48 (zero26 w) (intKey ha)
  obtain ⟨-, h1, h2⟩ := g.fields a ha
  by_cases hB : fieldsG E [a] = []
  · rw [h2 hB] at hl
    rw [hB]
    exact ⟨_, hl, RdV.nil w⟩
  · obtain ⟨v, e1, e2⟩ := h1 hB
    rw [e1] at hl
    exact ⟨_, hl, e2.toV⟩
theorem next_take (E : List GE) (f : Int) (os : List Int) (i : Nat) (hi : i < os.length) : insL (nextG E f (os.take i)) (nextG E f [os.getD i 0]) = nextG E f (os.take (i + 1)) := by
  refine srt_ext (srt_insL (srt_nextG _ _ _)) (srt_nextG _ _ _) fun x => ?_
  rw [mem_insL, mem_next1, mem_nextG, mem_nextG, List.take_succ_eq_append_getElem hi]
  have e : os[i] = os.getD i 0 := by simp [List.getElem?_eq_getElem hi]
  rw [e]
  constructor
  · rintro (h | ⟨a, h1, h2⟩)
    · exact ⟨_, h, by simp⟩
    · exact ⟨a, h1, by simp [h2]⟩
  · rintro ⟨a, h1, h2⟩
    rcases List.mem_append.1 h2 with h2 | h2
    · exact .inr ⟨a, h1, h2⟩
    · rw [List.mem_singleton] at h2; subst h2; exact .inl h1
set_option maxHeartbeats 4000000 in
set_option maxRecDepth 100000 in
theorem next_any (p : Nat) (T : List ByteArray) (E : List GE) (f : Int) (u : Value) (os : List Int) (w : World) (h : GA w p T E) (hu : RdV w u os) (hT : TZ w) (hf : ok64 f) (ho : ∀ x ∈ os, ok64 x) (hl : os.length ≤ 1000000) :
    Calls Tryz.prog 10 #[.pointer (some ⟨p, 0, none⟩), .int .i64 f, u] w fun e w' => ∃ v, e = .returned v ∧ OwI w' w.heap.size v (nextG E f os) ∧ Below w.heap.size w w' := by
  obtain ⟨A, c, rfl, hc, hr⟩ := hu
  have H := Aside0.mk h
  have HT := Aside0.mk hT
  have HR := Aside0.mk hr
  have Ho := Aside0.mk (And.intro hf ho)
  have Hl := Aside0.mk hl
  clear h hT hr hc hf ho hl
  go_enter Tryz.func10, Tryz.ntmps10
  go_wp2_with fail
  refine (of_any w).mono ?_
  rintro e w1 ⟨q, rfl, r1, r2⟩
  have H1 := Aside0.mk r1
  have HB1 := Aside0.mk r2
  clear r1 r2
  go_wp2_with fail
  go_loopw [9, 13] (fun _ I wr => ∃ (i : Nat) (F : Nat → Prop), I = .int .i64 (i : Int) ∧ i ≤ os.length ∧ Aside0 (SetF wr F q (nextG E f (os.take i))) ∧ Aside0 (∀ k, F k → w.heap.size ≤ k) ∧ Aside0 (Below w.heap.size w wr)) (fun _ I _ => os.length - (intOf I).toNat)
  case atStart => exact ⟨0, Ow.new w w1, rfl, Nat.zero_le _, ⟨by have e : nextG E f (os.take 0) = [] := List.eq_nil_iff_forall_not_mem.2 (fun x hx => by rw [mem_nextG] at hx; obtain ⟨a, _, h2⟩ := hx; cases h2); rw [e]; exact H1.out⟩, ⟨fun k hk => hk.1⟩, HB1⟩
  case round =>
    obtain ⟨i, F, rfl, hi, HS, HF, HB⟩ := hrel
    by_cases hin : i < os.length
    · have hnb : decide ((i : Int) < (os.length : Int)) = true := decide_eq_true (by omega)
      have hnc : decide (i < os.length) = true := decide_eq_true hin
      obtain ⟨ad, rfl, hx⟩ := (HR.out.below HB.out).at_ (i : Int) (by omega) (by omega)
      rw [Int.toNat_natCast] at hx
      have i0 : 0 ≤ (i : Int) := by omega
      have i1 : (i : Int) < (os.length : Int) := by omega
      have i2 : (i : Int) ≤ 1000000 := by have := Hl.out; omega
      have hx2 : rd os (i : Int) = os.getD i 0 := by simp [rd]
      have hnx := next_take E f os i hin
      obtain ⟨x, hxx⟩ : ∃ x, os.getD i 0 = x := ⟨_, rfl⟩
      rw [hx2, hxx] at hx
      rw [hxx] at hnx
      have hxm : ok64 x := Ho.out.2 x (by rw [← hxx]; exact getD_mem hin)
      obtain ⟨mn, c1, hways⟩ := (H.out.below HB.out).ways
      obtain ⟨sv, hlk, hsn⟩ := hways x f hxm Ho.out.1
      have Hsn := Aside0.mk hsn
      have Hnx := Aside0.mk hnx
      have Hin := Aside0.mk hin
      clear hin hi hx2 hxx hnx hxm hways hsn
      replace i0 := eq_true i0
      replace i1 := eq_true i1
      go_wp2_with fail
      refine (merge_any q F _ _ sv _ HS.out Hsn.out (HT.out.below HB.out)).mono ?_
      rintro e w2 ⟨F', G, v, rfl, r1, -, r3, -, -, r6⟩
      rw [Hnx.out] at r1
      have HS' := Aside0.mk r1
      have hsz := HB.out.size
      have HF' := Aside0.mk (show ∀ k, F' k → w.heap.size ≤ k from fun k hk => (r3 k hk).elim (HF.out k) (fun h => by have := h.1; omega))
      have HB' := Aside0.mk (show Below w.heap.size w w2 from ((Chg.of_below HB.out (fun _ => False)).then_ r6 (fun k hk => .inr (HF.out k hk))).below (Nat.le_refl _) (fun k hk => hk.elim))
      clear r1 r3 r6 hsz
      go_wp2_with fail
      go_roundw
      case rel => exact ⟨i + 1, F', by go_num, Hin.out, HS', HF', HB'⟩
      case measure => have := Hin.out; simp [intOf]; omega
    · have hnb : decide ((i : Int) < (os.length : Int)) = false := decide_eq_false (by omega)
      have hnc : decide (i < os.length) = false := decide_eq_false hin
      obtain rfl : i = os.length := by omega
      rw [List.take_length] at HS
      clear hin hi
      go_wp2_with fail
      refine (list_any q F _ _ HS.out (HT.out.below HB.out)).mono ?_
      rintro e w2 ⟨v, rfl, r1, r2⟩
      have HO := Aside0.mk (r1.lower HB.out.size)
      have HB' := Aside0.mk (bel_trans HB.out r2)
      clear r1 r2
      go_wp2_with fail
      go_ret
      exact ⟨_, rfl, HO.out, HB'.out⟩
end Go.Proofs.YtfgonclaiphoeaaGreatDoor.Gr
