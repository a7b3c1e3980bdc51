/- ints.Set: List. -/
import Derived.Test.YtfgonclaiphoeaaGreatDoorSe
import Derived.Laws.BitsAllLaws
import Derived.Laws.Bits64
namespace Go.Proofs.YtfgonclaiphoeaaGreatDoor.Se
set_option linter.unusedVariables false
open Go.RowKit Go.Proofs.YtfgonclaiphoeaaGreatDoorW.PrintWords Go.Proofs.YtfgonclaiphoeaaGreatDoorW.PrintLast Go.Proofs.YtfgonclaiphoeaaGreatDoorW.PrintMore
open Go.Proofs.YtfgonclaiphoeaaGreatDoor.Base Go.Proofs.YtfgonclaiphoeaaGreatDoor.Map Go.Proofs.YtfgonclaiphoeaaGreatDoor.Sl Go.Proofs.YtfgonclaiphoeaaGreatDoor.Ow

/-- the library's table of places of bits, as its initialiser lays it -/
structure TZ (w : World) : Prop where mk :: (out : Go.Proofs.TabAt 0 Lib.deBruijn64tab w)
theorem TZ.below {w w1 : World} (h : TZ w) (hb : Below w.heap.size w w1) : TZ w1 := ⟨fun j hj => (hb.cell (World.block_lt_of_cell? w _ (h.out j hj))).trans (h.out j hj)⟩
theorem tz_any (x : Nat) (w : World) (h : TZ w) (hx : x < 18446744073709551616) : Calls Tryz.prog 44 #[.int .u64 x] w fun e w' => e = .returned (.int .i64 (Lib.ctz 64 x : Nat)) ∧ w = w' :=
  (Any7.bits_TrailingZeros64 Tryz.laysNm729 x hx w (fun _ => h.out)).mono fun e w' ⟨h1, h2⟩ => ⟨h1, h2.symm⟩
theorem cell_bel {w w1 : World} {a : Addr} {v : Value} (hb : Below w.heap.size w w1) (h : w.cell? a = some v) : w1.cell? a = some v := (hb.cell (World.block_lt_of_cell? w _ h)).trans h
theorem msr {S n i : Nat} (hw : wrap64 ((i : Int) + 1) = ((i + 1 : Nat) : Int)) (h : i < S) : S - (intOf (.int .i64 (wrap64 ((i : Int) + 1)))).toNat < S - (intOf (.int .i64 (i : Int))).toNat := by
  rw [hw]; simp [intOf]; omega
/-- a word of what the call owns -/
theorem OwU.at_ {w : World} {F : Nat → Prop} {ad : Addr} {n c : Nat} {ws : List Nat} (h : OwU w F (.slice (some ad) n c) ws) (i : Nat) (hi : i < ws.length) : w.cell? (ad.add i) = some (.int .u64 (ws.getD i 0 : Nat)) := by
  obtain ⟨A, c', h1, h2, h3⟩ := Kd.R_reads h.out
  cases h1
  obtain ⟨ad', e, hx⟩ := Kd.at_int h3 (i : Int) (by omega) (by simpa using hi)
  cases e
  rw [Int.toNat_natCast] at hx
  rw [hx]
  simp [rd, hi]
set_option maxHeartbeats 1000000 in
theorem list_nil (w : World) : Calls Tryz.prog 27 #[.pointer none] w fun e w' => e = .returned (.slice none 0 0) ∧ w = w' := by
  go_enter Tryz.func27, Tryz.ntmps27
  go_wp2
  go_ret
  exact ⟨rfl, rfl⟩
set_option maxHeartbeats 1000000 in
theorem list_list (p : Nat) (F : Nat → Prop) (vl : Value) (l : List Int) (w : World) (hb : w.heap[p]? = some (.cells #[vl, .slice none 0 0, .int .i64 (l.length : Int)] 83 (0, 0))) (ho : OwF w F vl l) (hl : l.length ≤ 16) :
    Calls Tryz.prog 27 #[.pointer (some ⟨p, 0, none⟩)] w fun e w' => ∃ v, e = .returned v ∧ OwI w' w.heap.size v l ∧ Below w.heap.size w w' := by
  have c0 : w.cell? ⟨p, 0, none⟩ = some vl := blk_cell hb 0
  have Hb := Aside0.mk hb
  have Ho := Aside0.mk ho
  have Hl := Aside0.mk hl
  clear hb ho hl
  go_enter Tryz.func27, Tryz.ntmps27
  go_wp2_with fail
  refine (many_list p vl _ w Hb.out).mono ?_
  rintro e w' ⟨rfl, rfl⟩
  go_wp2_with fail
  refine (clone_any vl l w Ho.out.toV (by have := Hl.out; omega)).mono ?_
  rintro e w1 ⟨v, rfl, h1, h2⟩
  go_wp2_with fail
  go_ret
  exact ⟨_, rfl, h1, h2⟩
set_option maxHeartbeats 2000000 in
set_option maxRecDepth 100000 in
theorem list_rows (p : Nat) (F : Nat → Prop) (ad : Addr) (cap : Nat) (ws : List Nat) (l : List Int) (w : World) (hb : w.heap[p]? = some (.cells #[.slice none 0 0, .slice (some ad) ws.length cap, .int .i64 (l.length : Int)] 83 (0, 0))) (ho : OwU w F (.slice (some ad) ws.length cap) ws)
    (hs : Srt l) (hB : Bits ws l) (hl : ws.length ≤ 32768) (hT : TZ w) (hll : l.length ≤ 1048576) :
    Calls Tryz.prog 27 #[.pointer (some ⟨p, 0, none⟩)] w fun e w' => ∃ v, e = .returned v ∧ OwI w' w.heap.size v l ∧ Below w.heap.size w w' := by
  have c1 : w.cell? ⟨p, 1, none⟩ = some (.slice (some ad) ws.length cap) := blk_cell hb 1
  have Hb := Aside0.mk hb
  have Ho := Aside0.mk ho
  have Hs := Aside0.mk hs
  have HB := Aside0.mk hB
  have HT := Aside0.mk hT
  have Hl := Aside0.mk (And.intro hl hll)
  clear hb ho hs hB hT hl hll
  go_enter Tryz.func27, Tryz.ntmps27
  go_wp2_with fail
  refine (many_rows p _ _ ad _ _ w Hb.out).mono ?_
  rintro e w' ⟨rfl, rfl⟩
  go_wp2_with fail
  go_loopw [3, 4, 5, 21] (fun V _ _ I wr => ∃ i : Nat, I = .int .i64 (i : Int) ∧ i ≤ ws.length ∧ Aside0 (OwI wr w.heap.size V (upto l (64 * (i : Int)))) ∧ Aside0 (Below w.heap.size w wr)) (fun _ _ _ I _ => ws.length - (intOf I).toNat)
  case atStart => exact ⟨0, rfl, Nat.zero_le _, ⟨by have := upto_zero HB.out; rw [show (64 * ((0 : Nat) : Int)) = 0 from rfl, this]; exact OwI.nil _ _⟩, ⟨Below.refl _ _⟩⟩
  case round =>
    obtain ⟨i, rfl, hi, HV, HBl⟩ := hrel
    by_cases hin : i < ws.length
    · have hnb : decide ((i : Int) < (ws.length : Int)) = true := decide_eq_true (by omega)
      have hnc : decide (i < ws.length) = true := decide_eq_true hin
      have hx := cell_bel HBl.out (Ho.out.at_ i hin)
      have hi2 : i < 32768 := by have := Hl.out.1; omega
      have hww : ws.getD i 0 < 18446744073709551616 := getD_wide HB.out.wide i
      obtain ⟨W, hW⟩ : ∃ W, ws.getD i 0 = W := ⟨_, rfl⟩
      rw [hW] at hx hww
      have HW := Aside0.mk hW
      have i0 : 0 ≤ (i : Int) := by omega
      have i1 : (i : Int) < (ws.length : Int) := by omega
      have i2 : (i : Int) ≤ 32768 := by omega
      have hw : Aside0 (wrap64 ((i : Int) + 1) = ((i + 1 : Nat) : Int)) := ⟨by unfold wrap64; omega⟩
      have Hin := Aside0.mk (And.intro hin hi2)
      have Hww := Aside0.mk hww
      clear hin hi hi2 hW hww
      replace i0 := eq_true i0
      replace i1 := eq_true i1
      go_wp2_with fail
      go_loopw [3, 5] (fun V U wr2 => ∃ (u b : Nat), U = .int .u64 (u : Int) ∧ b ≤ 64 ∧ Aside0 (Sl.Left W u b) ∧ Aside0 (OwI wr2 w.heap.size V (upto l (64 * (i : Int) + (b : Int)))) ∧ Aside0 (Below w.heap.size w wr2)) (fun _ U _ => (intOf U).toNat)
      case atStart => exact ⟨W, 0, rfl, Nat.zero_le _, ⟨Sl.Left.start Hww.out⟩, ⟨by have := HV.out; simpa using this⟩, HBl⟩
      case round =>
        clear HV HBl
        obtain ⟨u, b, rfl, hb, HL, HV, HBl⟩ := hrel
        by_cases hu : u = 0
        · subst hu
          have hrow := HB.out.row (i := i) (b := b) (by rw [HW.out]; exact HL.out) hb
          have Hrow := Aside0.mk hrow
          clear hrow hb HL
          go_wp2_with fail
          go_roundw
          case rel => exact ⟨i + 1, by go_num, Hin.out.1, ⟨by rw [Hrow.out]; exact HV.out⟩, HBl⟩
          case measure => have := Hin.out.1; simp [intOf]; omega
        · have n1 : ((u : Int) == 0) = false := by rw [beq_eq_false_iff_ne]; omega
          have n2 : ((u : Int) != 0) = true := by rw [bne, n1]; rfl
          have hone := HB.out.one Hs.out (i := i) (w' := u) (b := b) (by rw [HW.out]; exact HL.out) hu
          obtain ⟨hc64, hnext⟩ := HL.out.next hu
          have hlt := low_lt u hu
          have hwu : u < 18446744073709551616 := HL.out.wide
          obtain ⟨k, hk⟩ : ∃ k, Lib.ctz 64 u = k := ⟨_, rfl⟩
          rw [hk] at hone hc64 hnext
          have Hk := Aside0.mk hk
          have Hone := Aside0.mk hone
          have Hnext := Aside0.mk hnext
          have Hlt := Aside0.mk hlt
          have Hwu := Aside0.mk hwu
          have k0 : 0 ≤ (k : Int) := by omega
          have k1 : (k : Int) < 64 := by omega
          have Hc := Aside0.mk hc64
          have i3 := Hin.out.2
          have e1 : IntKind.i64.wrap ((i : Int) * 64) = (i : Int) * 64 := by rw [i64_w]; unfold wrap64; omega
          have e2 : wrap64 ((i : Int) * 64) = (i : Int) * 64 := by unfold wrap64; omega
          have e3 : IntKind.i64.wrap ((i : Int) * 64 + (k : Int)) = (i : Int) * 64 + (k : Int) := by rw [i64_w]; unfold wrap64; omega
          have e4 : wrap64 ((i : Int) * 64 + (k : Int)) = (i : Int) * 64 + (k : Int) := by unfold wrap64; omega
          have Hu0 := Aside0.mk hu
          have Hle := Aside0.mk (show (upto l (64 * (i : Int) + (b : Int))).length ≤ 1048576 from Nat.le_trans (List.length_filter_le _ _) Hl.out.2)
          clear hone hc64 hnext hlt hwu hk hu i3 hb
          go_wp2_with fail
          refine (tz_any u wr (HT.out.below HBl.out) Hwu.out).mono ?_
          rintro e w' ⟨rfl, rfl⟩
          rw [Hk.out]
          have HV2 := Aside0.mk (HV.out.below (below_alloc (Below.refl _ _) (.cells #[.int .i64 ((i : Int) * 64 + (k : Int))] 3)))
          have HB2 := Aside0.mk (below_alloc HBl.out (.cells #[.int .i64 ((i : Int) * 64 + (k : Int))] 3))
          have HR : Aside0 (RdV (wr.alloc (.cells #[.int .i64 ((i : Int) * 64 + (k : Int))] 3)) (.slice (some ⟨wr.heap.size, 0, none⟩) 1 1) [(i : Int) * 64 + (k : Int)]) := ⟨RdV.one (blk_cell (heap_alloc_new _ _) 0)⟩
          go_wp2_with (first | (at_builtin; refine appB (wb := w) rfl (.tmp 32) (.tmp 38) rfl _ _ (upto l (64 * (i : Int) + (b : Int))) [(i : Int) * 64 + (k : Int)] rfl rfl HV2.out HR.out HB2.out (by have := Hle.out; simp only [List.length_cons, List.length_nil]; omega) ?_; intro v1 w1 ho1 hb1 _ _))
          have Hand : bits .and .u64 (u : Int) (IntKind.u64.wrap ((u : Int) - 1)) = ((u &&& (u - 1) : Nat) : Int) := by
            have h1 := Hu0.out
            have h2 := Hwu.out
            rw [IntKind.wrap_u64, show ((u : Int) - 1) % 18446744073709551616 = ((u - 1 : Nat) : Int) by omega]
            exact u64_and_nat u (u - 1) h2 (by omega)
          go_roundw
          case rel => exact ⟨u &&& (u - 1), k + 1, by rw [Hand], by have := Hc.out; omega, Hnext, ⟨by rw [Hone.out, show (64 * (i : Int) + (k : Int)) = (i : Int) * 64 + (k : Int) by omega]; exact ho1⟩, ⟨hb1⟩⟩
          case measure => rw [Hand]; have := Hlt.out; simp [intOf]; omega
    · have hnb : decide ((i : Int) < (ws.length : Int)) = false := decide_eq_false (by omega)
      have hnc : decide (i < ws.length) = false := decide_eq_false hin
      obtain rfl : i = ws.length := by omega
      rw [HB.out.end_] at HV
      clear hin hi
      go_wp2_with fail
      go_ret
      exact ⟨_, rfl, HV.out, HBl.out⟩
/-- List -/
theorem list_any (p : Nat) (F : Nat → Prop) (l : List Int) (w : World) (h : SetF w F p l) (hT : TZ w) :
    Calls Tryz.prog 27 #[.pointer (some ⟨p, 0, none⟩)] w fun e w' => ∃ v, e = .returned v ∧ OwI w' w.heap.size v l ∧ Below w.heap.size w w' := by
  have hl := h.len
  obtain ⟨vl, vr, h1, h2, h3, h4, h5⟩ := h
  rcases h5 with ⟨rfl, b, c⟩ | ⟨rfl, ad, cap, ws, rfl, c, d1, d2, d3⟩
  · exact list_list p F vl l w h1 b c
  · exact list_rows p F ad cap ws l w h1 c h3 d3 d2 hT hl
end Go.Proofs.YtfgonclaiphoeaaGreatDoor.Se
