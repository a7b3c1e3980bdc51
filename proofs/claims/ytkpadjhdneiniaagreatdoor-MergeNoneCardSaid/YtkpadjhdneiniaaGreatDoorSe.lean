/- Se, Sf, Sg, Sh, Si, Sj -/
import Derived.Test.YtkpadjhdneiniaaGreatDoorOy
import Derived.Laws.BitsAllLaws
import Derived.Laws.Bits64
import Derived.Deep.LoopGhost
import Derived.Deep.RegionLaw
/- Se: ints.Set: how it lies; Of, many, the list of a set that stands in a list. -/
section
namespace Go.Proofs.YtkpadjhdneiniaaGreatDoor.Se
set_option linter.unusedVariables false
open Go.RowKit Go.Proofs.YtkpadjhdneiniaaGreatDoorW.PrintWords Go.Proofs.YtkpadjhdneiniaaGreatDoorW.PrintLast Go.Proofs.YtkpadjhdneiniaaGreatDoorW.PrintMore
open Go.Proofs.YtkpadjhdneiniaaGreatDoor.Base Go.Proofs.YtkpadjhdneiniaaGreatDoor.Map Go.Proofs.YtkpadjhdneiniaaGreatDoor.Sl Go.Proofs.YtkpadjhdneiniaaGreatDoor.Ow

theorem info147 : (Tryz.prog.info? 147).map (fun i => (i.zero, i.size, i.bytes)) = some (some (.int .u64 0), 1, 8) := by kernel_rfl
/-- a number of a set -/
def okN (x : Int) : Prop := 0 ≤ x ∧ x < 1048576
/-- rows of bits that the call owns -/
structure OwU (w : World) (F : Nat → Prop) (v : Value) (ws : List Nat) : Prop where mk :: (out : Kd.R (Kd.int .u64) 147 w 0 F v (ws.map fun (n : Nat) => (n : Int)))
/-- The set in block p, its blocks in F: in a list, or in rows of bits. -/
structure SetF (w : World) (F : Nat → Prop) (p : Nat) (l : List Int) : Prop where
  mk :: (out : ∃ vl vr : Value, w.heap[p]? = some (.cells #[vl, vr, .int .i64 (l.length : Int)] 142 (0, 0)) ∧ F p ∧ Srt l ∧ (∀ x ∈ l, okN x) ∧
    ((vr = .slice none 0 0 ∧ OwF w F vl l ∧ l.length ≤ 16) ∨
     (vl = .slice none 0 0 ∧ ∃ (ad : Addr) (cap : Nat) (ws : List Nat), vr = .slice (some ad) ws.length cap ∧ OwU w F vr ws ∧ 1 ≤ ws.length ∧ ws.length ≤ 32768 ∧ Bits ws l)))
section
variable {w w1 : World} {F F' : Nat → Prop} {v : Value} {ws : List Nat} {p : Nat} {l : List Int}
theorem OwU.mono (h : OwU w F v ws) (hF : ∀ k, F k → F' k) : OwU w F' v ws := ⟨Kd.R_mono h.out hF⟩
theorem OwU.below (h : OwU w F v ws) (hb : Below w.heap.size w w1) : OwU w1 F v ws := ⟨Kd.R_below h.out hb⟩
theorem OwU.chg {G : Nat → Prop} (h : OwU w F v ws) (hC : Chg G w w1) (hd : ∀ k, F k → ¬ G k) : OwU w1 F v ws := ⟨Kd.R_step h.out (fun k hk hlt => hC.block k hlt (hd k hk))⟩
theorem OwU.bound (h : OwU w F v ws) : OwU w (fun k => F k ∧ k < w.heap.size) v ws := ⟨Kd.R_mono (Kd.R_bound h.out) (fun k hk => ⟨hk.1, hk.2.2.1⟩)⟩
theorem OwU.far {g t : Nat} {cells : Array Value} (h : OwU w F v ws) (hb : w.heap[g]? = some (.cells cells t (0, 0))) (ht : 147 ≠ t) (j : Nat) (u : Value) : OwU (w.setCell ⟨g, j, none⟩ u) F v ws :=
  ⟨Kd.R_set h.out hb (fun q hq => by rcases List.mem_cons.1 hq with rfl | hq; exact ht; cases hq) j u⟩
theorem SetF.mono (h : SetF w F p l) (hF : ∀ k, F k → F' k) : SetF w F' p l := by
  obtain ⟨vl, vr, h1, h2, h3, h4, h5⟩ := h
  refine ⟨vl, vr, h1, hF _ h2, h3, h4, ?_⟩
  rcases h5 with ⟨a, b, c⟩ | ⟨a, ad, cap, ws, b, c, d⟩
  · exact .inl ⟨a, b.mono hF, c⟩
  · exact .inr ⟨a, ad, cap, ws, b, c.mono hF, d⟩
theorem SetF.chg {G : Nat → Prop} (h : SetF w F p l) (hC : Chg G w w1) (hd : ∀ k, F k → ¬ G k) : SetF w1 F p l := by
  obtain ⟨vl, vr, h1, h2, h3, h4, h5⟩ := h
  refine ⟨vl, vr, hC.blk h1 (hd p h2), h2, h3, h4, ?_⟩
  rcases h5 with ⟨a, b, c⟩ | ⟨a, ad, cap, ws, b, c, d⟩
  · exact .inl ⟨a, b.chg hC hd, c⟩
  · exact .inr ⟨a, ad, cap, ws, b, c.chg hC hd, d⟩
theorem SetF.below (h : SetF w F p l) (hb : Below w.heap.size w w1) : SetF w1 F p l := h.chg (Chg.of_below hb (fun _ => False)) (fun _ _ h => h)
theorem SetF.lt (h : SetF w F p l) : p < w.heap.size := by obtain ⟨vl, vr, h1, _⟩ := h; exact blk_lt h1
theorem SetF.bound (h : SetF w F p l) : SetF w (fun k => F k ∧ k < w.heap.size) p l := by
  have hp := h.lt
  obtain ⟨vl, vr, h1, h2, h3, h4, h5⟩ := h
  refine ⟨vl, vr, h1, ⟨h2, hp⟩, h3, h4, ?_⟩
  rcases h5 with ⟨a, b, c⟩ | ⟨a, ad, cap, ws, b, c, d⟩
  · exact .inl ⟨a, b.bound, c⟩
  · exact .inr ⟨a, ad, cap, ws, b, c.bound, d⟩
theorem SetF.srt (h : SetF w F p l) : Srt l := by obtain ⟨vl, vr, h1, h2, h3, _⟩ := h; exact h3
theorem SetF.ok (h : SetF w F p l) : ∀ x ∈ l, okN x := by obtain ⟨vl, vr, h1, h2, h3, h4, _⟩ := h; exact h4
theorem SetF.len (h : SetF w F p l) : l.length ≤ 1048576 := srt_len h.srt (a := 0) (k := 1048576) (fun x hx => by have := h.ok x hx; unfold okN at this; omega)
end
set_option maxHeartbeats 1000000 in
theorem many_list (p : Nat) (vl vn : Value) (w : World) (hb : w.heap[p]? = some (.cells #[vl, .slice none 0 0, vn] 142 (0, 0))) :
    Calls Tryz.prog 103 #[.pointer (some ⟨p, 0, none⟩)] w fun e w' => e = .returned (.bool false) ∧ w = w' := by
  have q81 : ∀ (w : World) (a : Option Addr) (n c n' c' : Nat), (binOp .neq 140 (.slice a n c) (.slice none n' c')).run Tryz.prog w = .ok (.bool (!a.isNone)) w := fun w a n c n' c' => run_neq_slice_nil_any w _ _ a n c n' c' Tryz.underlying140
  have c1 : w.cell? ⟨p, 1, none⟩ = some (.slice none 0 0) := blk_cell hb 1
  go_enter Tryz.func103, Tryz.ntmps103
  go_wp2
  go_ret
  exact ⟨rfl, rfl⟩
set_option maxHeartbeats 1000000 in
theorem many_rows (p : Nat) (vl vn : Value) (ad : Addr) (n c : Nat) (w : World) (hb : w.heap[p]? = some (.cells #[vl, .slice (some ad) n c, vn] 142 (0, 0))) :
    Calls Tryz.prog 103 #[.pointer (some ⟨p, 0, none⟩)] w fun e w' => e = .returned (.bool true) ∧ w = w' := by
  have q81 : ∀ (w : World) (a : Option Addr) (n c n' c' : Nat), (binOp .neq 140 (.slice a n c) (.slice none n' c')).run Tryz.prog w = .ok (.bool (!a.isNone)) w := fun w a n c n' c' => run_neq_slice_nil_any w _ _ a n c n' c' Tryz.underlying140
  have c1 : w.cell? ⟨p, 1, none⟩ = some (.slice (some ad) n c) := blk_cell hb 1
  go_enter Tryz.func103, Tryz.ntmps103
  go_wp2
  go_ret
  exact ⟨rfl, rfl⟩
set_option maxHeartbeats 1000000 in
/-- Of no numbers -/
theorem of_any (w : World) : Calls Tryz.prog 81 #[.slice none 0 0] w fun e w' => ∃ p, e = .returned (.pointer (some ⟨p, 0, none⟩)) ∧ SetF w' (new w w') p [] ∧ Below w.heap.size w w' := by
  go_enter Tryz.func81, Tryz.ntmps81
  go_wp2
  go_loopw [5, 10] (fun _ i wr => i = .int .i64 0 ∧ wr = w.alloc (.cells #[.slice none 0 0, .slice none 0 0, .int .i64 0] 142)) (fun _ _ _ => 0)
  case atStart => exact ⟨rfl, rfl⟩
  case round =>
    obtain ⟨rfl, rfl⟩ := hrel
    go_wp2
    go_ret
    refine ⟨_, rfl, ⟨.slice none 0 0, .slice none 0 0, heap_alloc_new w _, ⟨Nat.le_refl _, by simp⟩, Srt.nil, (fun x hx => by cases hx), .inl ⟨rfl, OwF.nil _ _, by decide⟩⟩, below_alloc (Below.refl _ _) _⟩
end Go.Proofs.YtkpadjhdneiniaaGreatDoor.Se
end

/- Sf: ints.Set: List. -/
section
namespace Go.Proofs.YtkpadjhdneiniaaGreatDoor.Se
set_option linter.unusedVariables false
open Go.RowKit Go.Proofs.YtkpadjhdneiniaaGreatDoorW.PrintWords Go.Proofs.YtkpadjhdneiniaaGreatDoorW.PrintLast Go.Proofs.YtkpadjhdneiniaaGreatDoorW.PrintMore
open Go.Proofs.YtkpadjhdneiniaaGreatDoor.Base Go.Proofs.YtkpadjhdneiniaaGreatDoor.Map Go.Proofs.YtkpadjhdneiniaaGreatDoor.Sl Go.Proofs.YtkpadjhdneiniaaGreatDoor.Ow

/-- the library's table of places of bits, as its initialiser lays it -/
structure TZ (w : World) : Prop where mk :: (out : Go.Proofs.TabAt 0 Lib.deBruijn64tab w)
theorem TZ.below {w w1 : World} (h : TZ w) (hb : Below w.heap.size w w1) : TZ w1 := ⟨fun j hj => (hb.cell (World.block_lt_of_cell? w _ (h.out j hj))).trans (h.out j hj)⟩
theorem tz_any (x : Nat) (w : World) (h : TZ w) (hx : x < 18446744073709551616) : Calls Tryz.prog 108 #[.int .u64 x] w fun e w' => e = .returned (.int .i64 (Lib.ctz 64 x : Nat)) ∧ w = w' :=
  (Any7.bits_TrailingZeros64 Tryz.laysNm729 x hx w (fun _ => h.out)).mono fun e w' ⟨h1, h2⟩ => ⟨h1, h2.symm⟩
theorem cell_bel {w w1 : World} {a : Addr} {v : Value} (hb : Below w.heap.size w w1) (h : w.cell? a = some v) : w1.cell? a = some v := (hb.cell (World.block_lt_of_cell? w _ h)).trans h
theorem msr {S n i : Nat} (hw : wrap64 ((i : Int) + 1) = ((i + 1 : Nat) : Int)) (h : i < S) : S - (intOf (.int .i64 (wrap64 ((i : Int) + 1)))).toNat < S - (intOf (.int .i64 (i : Int))).toNat := by
  rw [hw]; simp [intOf]; omega
/-- a word of what the call owns -/
theorem OwU.at_ {w : World} {F : Nat → Prop} {ad : Addr} {n c : Nat} {ws : List Nat} (h : OwU w F (.slice (some ad) n c) ws) (i : Nat) (hi : i < ws.length) : w.cell? (ad.add i) = some (.int .u64 (ws.getD i 0 : Nat)) := by
  obtain ⟨A, c', h1, h2, h3⟩ := Kd.R_reads h.out
  cases h1
  obtain ⟨ad', e, hx⟩ := Kd.at_int h3 (i : Int) (by omega) (by simpa using hi)
  cases e
  rw [Int.toNat_natCast] at hx
  rw [hx]
  simp [rd, hi]
set_option maxHeartbeats 1000000 in
theorem list_nil (w : World) : Calls Tryz.prog 87 #[.pointer none] w fun e w' => e = .returned (.slice none 0 0) ∧ w = w' := by
  go_enter Tryz.func87, Tryz.ntmps87
  go_wp2
  go_ret
  exact ⟨rfl, rfl⟩
set_option maxHeartbeats 1000000 in
theorem list_list (p : Nat) (F : Nat → Prop) (vl : Value) (l : List Int) (w : World) (hb : w.heap[p]? = some (.cells #[vl, .slice none 0 0, .int .i64 (l.length : Int)] 142 (0, 0))) (ho : OwF w F vl l) (hl : l.length ≤ 16) :
    Calls Tryz.prog 87 #[.pointer (some ⟨p, 0, none⟩)] w fun e w' => ∃ v, e = .returned v ∧ OwI w' w.heap.size v l ∧ Below w.heap.size w w' := by
  have c0 : w.cell? ⟨p, 0, none⟩ = some vl := blk_cell hb 0
  have Hb := Aside0.mk hb
  have Ho := Aside0.mk ho
  have Hl := Aside0.mk hl
  clear hb ho hl
  go_enter Tryz.func87, Tryz.ntmps87
  go_wp2_with fail
  refine (many_list p vl _ w Hb.out).mono ?_
  rintro e w' ⟨rfl, rfl⟩
  go_wp2_with fail
  refine (clone_any vl l w Ho.out.toV (by have := Hl.out; omega)).mono ?_
  rintro e w1 ⟨v, rfl, h1, h2⟩
  go_wp2_with fail
  go_ret
  exact ⟨_, rfl, h1, h2⟩
set_option maxHeartbeats 2000000 in
set_option maxRecDepth 100000 in
theorem list_rows (p : Nat) (F : Nat → Prop) (ad : Addr) (cap : Nat) (ws : List Nat) (l : List Int) (w : World) (hb : w.heap[p]? = some (.cells #[.slice none 0 0, .slice (some ad) ws.length cap, .int .i64 (l.length : Int)] 142 (0, 0))) (ho : OwU w F (.slice (some ad) ws.length cap) ws)
    (hs : Srt l) (hB : Bits ws l) (hl : ws.length ≤ 32768) (hT : TZ w) (hll : l.length ≤ 1048576) :
    Calls Tryz.prog 87 #[.pointer (some ⟨p, 0, none⟩)] w fun e w' => ∃ v, e = .returned v ∧ OwI w' w.heap.size v l ∧ Below w.heap.size w w' := by
  have c1 : w.cell? ⟨p, 1, none⟩ = some (.slice (some ad) ws.length cap) := blk_cell hb 1
  have Hb := Aside0.mk hb
  have Ho := Aside0.mk ho
  have Hs := Aside0.mk hs
  have HB := Aside0.mk hB
  have HT := Aside0.mk hT
  have Hl := Aside0.mk (And.intro hl hll)
  clear hb ho hs hB hT hl hll
  go_enter Tryz.func87, Tryz.ntmps87
  go_wp2_with fail
  refine (many_rows p _ _ ad _ _ w Hb.out).mono ?_
  rintro e w' ⟨rfl, rfl⟩
  go_wp2_with fail
  go_loopw [3, 4, 5, 21] (fun V _ _ I wr => ∃ i : Nat, I = .int .i64 (i : Int) ∧ i ≤ ws.length ∧ Aside0 (OwI wr w.heap.size V (upto l (64 * (i : Int)))) ∧ Aside0 (Below w.heap.size w wr)) (fun _ _ _ I _ => ws.length - (intOf I).toNat)
  case atStart => exact ⟨0, rfl, Nat.zero_le _, ⟨by have := upto_zero HB.out; rw [show (64 * ((0 : Nat) : Int)) = 0 from rfl, this]; exact OwI.nil _ _⟩, ⟨Below.refl _ _⟩⟩
  case round =>
    obtain ⟨i, rfl, hi, HV, HBl⟩ := hrel
    by_cases hin : i < ws.length
    · have hnb : decide ((i : Int) < (ws.length : Int)) = true := decide_eq_true (by omega)
      have hnc : decide (i < ws.length) = true := decide_eq_true hin
      have hx := cell_bel HBl.out (Ho.out.at_ i hin)
      have hi2 : i < 32768 := by have := Hl.out.1; omega
      have hww : ws.getD i 0 < 18446744073709551616 := getD_wide HB.out.wide i
      obtain ⟨W, hW⟩ : ∃ W, ws.getD i 0 = W := ⟨_, rfl⟩
      rw [hW] at hx hww
      have HW := Aside0.mk hW
      have i0 : 0 ≤ (i : Int) := by omega
      have i1 : (i : Int) < (ws.length : Int) := by omega
      have i2 : (i : Int) ≤ 32768 := by omega
      have hw : Aside0 (wrap64 ((i : Int) + 1) = ((i + 1 : Nat) : Int)) := ⟨by unfold wrap64; omega⟩
      have Hin := Aside0.mk (And.intro hin hi2)
      have Hww := Aside0.mk hww
      clear hin hi hi2 hW hww
      replace i0 := eq_true i0
      replace i1 := eq_true i1
      go_wp2_with fail
      go_loopw [3, 5] (fun V U wr2 => ∃ (u b : Nat), U = .int .u64 (u : Int) ∧ b ≤ 64 ∧ Aside0 (Sl.Left W u b) ∧ Aside0 (OwI wr2 w.heap.size V (upto l (64 * (i : Int) + (b : Int)))) ∧ Aside0 (Below w.heap.size w wr2)) (fun _ U _ => (intOf U).toNat)
      case atStart => exact ⟨W, 0, rfl, Nat.zero_le _, ⟨Sl.Left.start Hww.out⟩, ⟨by have := HV.out; simpa using this⟩, HBl⟩
      case round =>
        clear HV HBl
        obtain ⟨u, b, rfl, hb, HL, HV, HBl⟩ := hrel
        by_cases hu : u = 0
        · subst hu
          have hrow := HB.out.row (i := i) (b := b) (by rw [HW.out]; exact HL.out) hb
          have Hrow := Aside0.mk hrow
          clear hrow hb HL
          go_wp2_with fail
          go_roundw
          case rel => exact ⟨i + 1, by go_num, Hin.out.1, ⟨by rw [Hrow.out]; exact HV.out⟩, HBl⟩
          case measure => have := Hin.out.1; simp [intOf]; omega
        · have n1 : ((u : Int) == 0) = false := by rw [beq_eq_false_iff_ne]; omega
          have n2 : ((u : Int) != 0) = true := by rw [bne, n1]; rfl
          have hone := HB.out.one Hs.out (i := i) (w' := u) (b := b) (by rw [HW.out]; exact HL.out) hu
          obtain ⟨hc64, hnext⟩ := HL.out.next hu
          have hlt := low_lt u hu
          have hwu : u < 18446744073709551616 := HL.out.wide
          obtain ⟨k, hk⟩ : ∃ k, Lib.ctz 64 u = k := ⟨_, rfl⟩
          rw [hk] at hone hc64 hnext
          have Hk := Aside0.mk hk
          have Hone := Aside0.mk hone
          have Hnext := Aside0.mk hnext
          have Hlt := Aside0.mk hlt
          have Hwu := Aside0.mk hwu
          have k0 : 0 ≤ (k : Int) := by omega
          have k1 : (k : Int) < 64 := by omega
          have Hc := Aside0.mk hc64
          have i3 := Hin.out.2
          have e1 : IntKind.i64.wrap ((i : Int) * 64) = (i : Int) * 64 := by rw [i64_w]; unfold wrap64; omega
          have e2 : wrap64 ((i : Int) * 64) = (i : Int) * 64 := by unfold wrap64; omega
          have e3 : IntKind.i64.wrap ((i : Int) * 64 + (k : Int)) = (i : Int) * 64 + (k : Int) := by rw [i64_w]; unfold wrap64; omega
          have e4 : wrap64 ((i : Int) * 64 + (k : Int)) = (i : Int) * 64 + (k : Int) := by unfold wrap64; omega
          have Hu0 := Aside0.mk hu
          have Hle := Aside0.mk (show (upto l (64 * (i : Int) + (b : Int))).length ≤ 1048576 from Nat.le_trans (List.length_filter_le _ _) Hl.out.2)
          clear hone hc64 hnext hlt hwu hk hu i3 hb
          go_wp2_with fail
          refine (tz_any u wr (HT.out.below HBl.out) Hwu.out).mono ?_
          rintro e w' ⟨rfl, rfl⟩
          rw [Hk.out]
          have HV2 := Aside0.mk (HV.out.below (below_alloc (Below.refl _ _) (.cells #[.int .i64 ((i : Int) * 64 + (k : Int))] 3)))
          have HB2 := Aside0.mk (below_alloc HBl.out (.cells #[.int .i64 ((i : Int) * 64 + (k : Int))] 3))
          have HR : Aside0 (RdV (wr.alloc (.cells #[.int .i64 ((i : Int) * 64 + (k : Int))] 3)) (.slice (some ⟨wr.heap.size, 0, none⟩) 1 1) [(i : Int) * 64 + (k : Int)]) := ⟨RdV.one (blk_cell (heap_alloc_new _ _) 0)⟩
          go_wp2_with (first | (at_builtin; refine appB (wb := w) rfl (.tmp 32) (.tmp 38) rfl _ _ (upto l (64 * (i : Int) + (b : Int))) [(i : Int) * 64 + (k : Int)] rfl rfl HV2.out HR.out HB2.out (by have := Hle.out; simp only [List.length_cons, List.length_nil]; omega) ?_; intro v1 w1 ho1 hb1 _ _))
          have Hand : bits .and .u64 (u : Int) (IntKind.u64.wrap ((u : Int) - 1)) = ((u &&& (u - 1) : Nat) : Int) := by
            have h1 := Hu0.out
            have h2 := Hwu.out
            rw [IntKind.wrap_u64, show ((u : Int) - 1) % 18446744073709551616 = ((u - 1 : Nat) : Int) by omega]
            exact u64_and_nat u (u - 1) h2 (by omega)
          go_roundw
          case rel => exact ⟨u &&& (u - 1), k + 1, by rw [Hand], by have := Hc.out; omega, Hnext, ⟨by rw [Hone.out, show (64 * (i : Int) + (k : Int)) = (i : Int) * 64 + (k : Int) by omega]; exact ho1⟩, ⟨hb1⟩⟩
          case measure => rw [Hand]; have := Hlt.out; simp [intOf]; omega
    · have hnb : decide ((i : Int) < (ws.length : Int)) = false := decide_eq_false (by omega)
      have hnc : decide (i < ws.length) = false := decide_eq_false hin
      obtain rfl : i = ws.length := by omega
      rw [HB.out.end_] at HV
      clear hin hi
      go_wp2_with fail
      go_ret
      exact ⟨_, rfl, HV.out, HBl.out⟩
/-- List -/
theorem list_any (p : Nat) (F : Nat → Prop) (l : List Int) (w : World) (h : SetF w F p l) (hT : TZ w) :
    Calls Tryz.prog 87 #[.pointer (some ⟨p, 0, none⟩)] w fun e w' => ∃ v, e = .returned v ∧ OwI w' w.heap.size v l ∧ Below w.heap.size w w' := by
  have hl := h.len
  obtain ⟨vl, vr, h1, h2, h3, h4, h5⟩ := h
  rcases h5 with ⟨rfl, b, c⟩ | ⟨rfl, ad, cap, ws, rfl, c, d1, d2, d3⟩
  · exact list_list p F vl l w h1 b c
  · exact list_rows p F ad cap ws l w h1 c h3 d3 d2 hT hl
end Go.Proofs.YtkpadjhdneiniaaGreatDoor.Se
end

/- Sg: ints.Set: mark. -/
section
namespace Go.Proofs.YtkpadjhdneiniaaGreatDoor.Se
set_option linter.unusedVariables false
open Go.RowKit Go.Proofs.YtkpadjhdneiniaaGreatDoorW.PrintWords Go.Proofs.YtkpadjhdneiniaaGreatDoorW.PrintLast Go.Proofs.YtkpadjhdneiniaaGreatDoorW.PrintMore
open Go.Proofs.YtkpadjhdneiniaaGreatDoor.Base Go.Proofs.YtkpadjhdneiniaaGreatDoor.Map Go.Proofs.YtkpadjhdneiniaaGreatDoor.Sl Go.Proofs.YtkpadjhdneiniaaGreatDoor.Ow

/-- A set in block p that stands in rows; cnt: its third cell. -/
structure RowsF (w : World) (F : Nat → Prop) (p : Nat) (cnt : Int) (ws : List Nat) : Prop where
  mk :: (out : ∃ (g : Nat) (cap : Nat), w.heap[p]? = some (.cells #[.slice none 0 0, .slice (some ⟨g, 0, none⟩) ws.length cap, .int .i64 cnt] 142 (0, 0)) ∧ F p ∧ OwU w F (.slice (some ⟨g, 0, none⟩) ws.length cap) ws)
section
variable {w w1 : World} {F F' : Nat → Prop} {v : Value} {ws : List Nat} {p : Nat} {cnt : Int}
theorem RowsF.mono (h : RowsF w F p cnt ws) (hF : ∀ k, F k → F' k) : RowsF w F' p cnt ws := by
  obtain ⟨ad, cap, h1, h2, h3⟩ := h
  exact ⟨ad, cap, h1, hF _ h2, h3.mono hF⟩
theorem RowsF.chg {G : Nat → Prop} (h : RowsF w F p cnt ws) (hC : Chg G w w1) (hd : ∀ k, F k → ¬ G k) : RowsF w1 F p cnt ws := by
  obtain ⟨ad, cap, h1, h2, h3⟩ := h
  exact ⟨ad, cap, hC.blk h1 (hd p h2), h2, h3.chg hC hd⟩
theorem RowsF.below (h : RowsF w F p cnt ws) (hb : Below w.heap.size w w1) : RowsF w1 F p cnt ws := h.chg (Chg.of_below hb (fun _ => False)) (fun _ _ h => h)
theorem RowsF.bound (h : RowsF w F p cnt ws) : RowsF w (fun k => F k ∧ k < w.heap.size) p cnt ws := by
  obtain ⟨ad, cap, h1, h2, h3⟩ := h
  exact ⟨ad, cap, h1, ⟨h2, blk_lt h1⟩, h3.bound⟩
theorem ext_sub {w w1 w2 : World} {F : Nat → Prop} (h2 : Chg F w w1) (hs : w1.heap.size ≤ w2.heap.size) {k : Nat} (h : ext F w w1 k) : ext F w w2 k := h.elim .inl (fun h => .inr ⟨h.1, by omega⟩)
theorem ext_ext {w w1 w2 : World} {F : Nat → Prop} (h1 : w.heap.size ≤ w1.heap.size) (h2 : w1.heap.size ≤ w2.heap.size) {k : Nat} (h : ext (ext F w w1) w1 w2 k) : ext F w w2 k := by
  rcases h with (h | h) | h
  · exact .inl h
  · exact .inr ⟨h.1, by omega⟩
  · exact .inr ⟨by omega, h.2⟩
/-- a store into one of the set's three cells -/
theorem OwU.set (h : OwU w F v ws) {p j : Nat} {cs : Array Value} (hb : w.heap[p]? = some (.cells cs 142 (0, 0))) (u : Value) : OwU (w.setCell ⟨p, j, none⟩ u) F v ws := h.far hb (by decide) j u
/-- the rows have been appended to, and stored -/
theorem rows_grown {g cap : Nat} {v1 : Value} {ws1 : List Nat} (hb : w.heap[p]? = some (.cells #[.slice none 0 0, .slice (some ⟨g, 0, none⟩) ws.length cap, .int .i64 cnt] 142 (0, 0))) (hp : F p) (ho : OwU w F (.slice (some ⟨g, 0, none⟩) ws.length cap) ws)
    (hg : w.grownBy w1 (some g)) (h1 : Kd.R (Kd.int .u64) 147 w1 0 (fun k => F k ∨ w.heap.size ≤ k) v1 (ws1.map fun (n : Nat) => (n : Int))) (hl : 0 < ws1.length) :
    RowsF (w1.setCell ⟨p, 1, none⟩ v1) (ext F w (w1.setCell ⟨p, 1, none⟩ v1)) p cnt ws1 ∧ Chg F w (w1.setCell ⟨p, 1, none⟩ v1) := by
  have hne : some p ≠ (Value.slice (some ⟨g, 0, none⟩) ws.length cap).ownBlock := Kd.R_ne ho.out hb (by decide)
  have hb1 := blk_grown hb hg hne
  have hC : Chg F w w1 := Chg.of_grown hg (fun k hk => ho.out.1 k hk)
  have h2 : OwU w1 (ext F w w1) v1 ws1 := ⟨Kd.R_mono (Kd.R_bound h1) (fun k hk => hk.1.elim .inl (fun h => .inr ⟨h, hk.2.2.1⟩))⟩
  have h3 := h2.set hb1 v1 (j := 1)
  have hsz : (w1.setCell ⟨p, 1, none⟩ v1).heap.size = w1.heap.size := by simp [World.setCell]
  have hC2 : Chg F w (w1.setCell ⟨p, 1, none⟩ v1) := hC.then_ (Chg.setCell w1 (p := ⟨p, 1, none⟩) (F := F) hp v1) (fun k h => .inl h)
  obtain ⟨A, c, hv, _, hr⟩ := Kd.R_reads h1
  have hA : ∃ g1, A = some ⟨g1, 0, none⟩ := by
    obtain ⟨ad1, e, _⟩ := Kd.at_int hr 0 (by omega) (by simpa using hl)
    subst e
    rw [hv] at h1
    obtain ⟨g1, rfl⟩ := Kd.R_head h1
    exact ⟨g1, rfl⟩
  obtain ⟨ad1, rfl⟩ := hA
  have hlen : (ws1.map fun (n : Nat) => (n : Int)).length = ws1.length := by simp
  rw [hlen] at hv
  subst hv
  refine ⟨⟨ad1, c, ?_, .inl hp, h3.mono (fun k hk => ext_sub hC (by rw [hsz]; exact Nat.le_refl _) hk)⟩, hC2⟩
  have := blk_set hb1 1 (.slice (some ⟨ad1, 0, none⟩) ws1.length c)
  simpa using this
end
theorem addr_add (g k : Nat) : (⟨g, 0, none⟩ : Addr).add k = ⟨g, k, none⟩ := by
  unfold Addr.add; split <;> simp_all
theorem OwU.free {w : World} {F : Nat → Prop} {g n cap : Nat} {ws : List Nat} (h : OwU w F (.slice (some ⟨g, 0, none⟩) n cap) ws) (i : Nat) : w.frozen? ⟨g, i, none⟩ = false := by
  obtain ⟨inner, ho⟩ := Kd.R_own h.out
  obtain ⟨cells, hc⟩ := own_typed ho g rfl
  exact blk_frozen hc i
/-- a word is put -/
theorem OwU.put {w : World} {F : Nat → Prop} {g cap : Nat} {ws : List Nat} (h : OwU w F (.slice (some ⟨g, 0, none⟩) ws.length cap) ws) (i x : Nat) : OwU (w.setCell ⟨g, i, none⟩ (.int .u64 (x : Int))) F (.slice (some ⟨g, 0, none⟩) ws.length cap) (ws.set i x) := by
  have hl : ws.length = (ws.map fun (n : Nat) => (n : Int)).length := by simp
  have h1 := h.out
  rw [hl] at h1
  have h2 := (Kd.R_put h1 (i : Int) (x : Int)).1
  rw [Int.toNat_natCast, ← hl] at h2
  refine ⟨?_⟩
  rw [List.map_set]
  exact h2
/-- what mark leaves: k noughts behind, and the bit -/
def Marked (w : World) (F : Nat → Prop) (p : Nat) (cnt : Int) (ws : List Nat) (n : Nat) (e : Ending) (w' : World) : Prop :=
  ∃ k, n / 64 < ws.length + k ∧ ws.length + k ≤ 32768 ∧ Chg F w w' ∧
    ((bit ws n = true ∧ e = .returned (.bool false) ∧ RowsF w' (ext F w w') p cnt (ws ++ List.replicate k 0)) ∨
     (bit ws n = false ∧ e = .returned (.bool true) ∧ RowsF w' (ext F w w') p (cnt + 1) ((ws ++ List.replicate k 0).set (n / 64) ((ws ++ List.replicate k 0).getD (n / 64) 0 ||| 2 ^ (n % 64)))))
theorem marked_end {w wr wx : World} {F : Nat → Prop} {p g cap n k wd M O : Nat} {cnt : Int} {ws ws2 : List Nat} (Hin : n / 64 < ws2.length) (hws : ws ++ List.replicate k 0 = ws2) (hk : ws.length + k ≤ 32768) (hC : Chg F w wx) (hsz : wr.heap.size ≤ wx.heap.size) (hp : ext F w wr p)
    (hb : wx.heap[p]? = some (.cells #[.slice none 0 0, .slice (some ⟨g, 0, none⟩) ws2.length cap, .int .i64 cnt] 142 (0, 0))) (hU : OwU wx (ext F w wr) (.slice (some ⟨g, 0, none⟩) ws2.length cap) (ws2.set (n / 64) O)) (hwd : ws2.getD (n / 64) 0 = wd) (hM : 2 ^ (n % 64) = M) (hO : wd ||| M = O) (hbit : bit ws n = false) :
    Marked w F p cnt ws n (.returned (.bool true)) (wx.setCell ⟨p, 2, none⟩ (.int .i64 (cnt + 1))) := by
  have hl : ws2.length = ws.length + k := by rw [← hws]; simp
  have hsub : ∀ k', ext F w wr k' → ext F w (wx.setCell ⟨p, 2, none⟩ (.int .i64 (cnt + 1))) k' := fun k' h => h.elim .inl (fun h => .inr ⟨h.1, by
    have : (wx.setCell ⟨p, 2, none⟩ (.int .i64 (cnt + 1))).heap.size = wx.heap.size := by simp [World.setCell]
    omega⟩)
  refine ⟨k, by omega, hk, hC.then_ (Chg.setCell wx (p := ⟨p, 2, none⟩) (F := ext F w wr) hp (.int .i64 (cnt + 1))) (fun k h => h.elim .inl (fun h => .inr h.1)), .inr ⟨hbit, rfl, ?_⟩⟩
  rw [hws, hwd, hM, hO]
  have hls : (ws2.set (n / 64) O).length = ws2.length := by simp
  refine ⟨g, cap, ?_, hsub p hp, ?_⟩
  · have := blk_set hb 2 (.int .i64 (cnt + 1))
    rw [hls]
    simpa using this
  · rw [hls]
    exact (hU.set hb (j := 2) (.int .i64 (cnt + 1))).mono hsub
theorem grown_end {w wr w1 : World} {F : Nat → Prop} {p g cap n k gk : Nat} {cnt : Int} {ws ws2 : List Nat} {v1 : Value} (hk : ws.length + k ≤ 32768) (hq : gk = 32768 - (ws.length + k)) (hws : ws ++ List.replicate k 0 = ws2) (hl : ws2.length = ws.length + k) (Hin : ¬ n / 64 < ws2.length) (hn : n < 1048576) (hC : Chg F w wr) (hp : ext F w wr p) (h1 : 1 ≤ ws.length)
    (hb : wr.heap[p]? = some (.cells #[.slice none 0 0, .slice (some ⟨g, 0, none⟩) ws2.length cap, .int .i64 cnt] 142 (0, 0))) (hU : OwU wr.drew (ext F w wr) (.slice (some ⟨g, 0, none⟩) ws2.length cap) ws2)
    (hR : Kd.R (Kd.int .u64) 147 w1 0 (fun k => ext F w wr k ∨ wr.heap.size ≤ k) v1 (ws2.map (fun (n : Nat) => (n : Int)) ++ List.replicate ((ws2.length : Int)).toNat (0 : Int))) (hg : wr.drew.grownBy w1 (some g)) :
    32768 - (ws.length + (k + ws2.length)) < gk ∧ ws.length + (k + ws2.length) ≤ 32768 ∧ RowsF (w1.setCell ⟨p, 1, none⟩ v1) (ext F w (w1.setCell ⟨p, 1, none⟩ v1)) p cnt (ws ++ List.replicate (k + ws2.length) 0) ∧ Chg F w (w1.setCell ⟨p, 1, none⟩ v1) := by
  have e1 : ws ++ List.replicate (k + ws2.length) 0 = ws2 ++ List.replicate ws2.length 0 := by
    rw [← List.replicate_append_replicate, ← List.append_assoc, hws]
  have hb' : wr.drew.heap[p]? = some (.cells #[.slice none 0 0, .slice (some ⟨g, 0, none⟩) ws2.length cap, .int .i64 cnt] 142 (0, 0)) := hb
  have hR' : Kd.R (Kd.int .u64) 147 w1 0 (fun k => ext F w wr k ∨ wr.drew.heap.size ≤ k) v1 ((ws2 ++ List.replicate ws2.length 0).map fun (n : Nat) => (n : Int)) := by
    have : (ws2 ++ List.replicate ws2.length 0).map (fun (n : Nat) => (n : Int)) = ws2.map (fun (n : Nat) => (n : Int)) ++ List.replicate ((ws2.length : Int)).toNat (0 : Int) := by simp
    rw [this]; exact hR
  obtain ⟨r1, r2⟩ := rows_grown (F := ext F w wr) hb' hp hU hg hR' (by simp; omega)
  have hC2 : Chg F w (w1.setCell ⟨p, 1, none⟩ v1) := (hC.andBelow (below_drew (Below.refl _ _))).then_ r2 (fun k h => h.elim .inl (fun h => .inr h.1))
  have hs := r2.size
  refine ⟨by omega, by omega, ?_, hC2⟩
  rw [e1]
  exact r1.mono (fun k hk => ext_ext (w1 := wr.drew) hC.size hs hk)
set_option maxHeartbeats 4000000 in
set_option maxRecDepth 100000 in
theorem mark_any (p : Nat) (F : Nat → Prop) (cnt : Int) (ws : List Nat) (n : Nat) (w : World) (h : RowsF w F p cnt ws) (hw : ∀ u ∈ ws, u < 2 ^ 64) (hn : n < 1048576) (h1 : 1 ≤ ws.length) (h2 : ws.length ≤ 32768) (hc0 : 0 ≤ cnt) (hc1 : cnt ≤ 1048576) :
    Calls Tryz.prog 104 #[.pointer (some ⟨p, 0, none⟩), .int .i64 (n : Int)] w (Marked w F p cnt ws n) := by
  have H := Aside0.mk h
  have Hw := Aside0.mk hw
  have Hn := Aside0.mk hn
  have Hl := Aside0.mk (And.intro h1 h2)
  have n0 : 0 ≤ (n : Int) := by omega
  have n1 : (n : Int) < 1048576 := by omega
  clear h hw hn h1 h2
  obtain ⟨M, hM⟩ : ∃ M : Nat, 2 ^ (n % 64) = M := ⟨_, rfl⟩
  have hMlt : M < 18446744073709551616 := by rw [← hM]; exact Nat.pow_lt_pow_right (n := 64) (by decide) (by omega)
  have hMw : IntKind.u64.wrap (2 ^ (n % 64)) = (M : Int) := by
    rw [IntKind.wrap_u64, show ((2 : Int) ^ (n % 64)) = ((2 ^ (n % 64) : Nat) : Int) by simp, hM]
    omega
  have HMw := Aside0.mk hMw
  clear hMw
  have HM := Aside0.mk (And.intro hM hMlt)
  clear hM hMlt
  go_enter Tryz.func104, Tryz.ntmps104
  go_wp2_with fail
  go_loopg [7] (32768 - ws.length) (fun kq _ wr => ∃ k, Aside0 (ws.length + k ≤ 32768) ∧ Aside0 (kq = 32768 - (ws.length + k)) ∧ Aside0 (RowsF wr (ext F w wr) p cnt (ws ++ List.replicate k 0)) ∧ Aside0 (Chg F w wr))
  case atStart => exact ⟨0, ⟨Hl.out.2⟩, ⟨rfl⟩, ⟨by simpa using H.out.mono (fun k hk => .inl hk)⟩, ⟨Chg.refl _ _⟩⟩
  case round =>
    obtain ⟨k, Hk, Hq, HR, HC⟩ := hrel
    obtain ⟨ws2, hws2⟩ : ∃ x, ws ++ List.replicate k 0 = x := ⟨_, rfl⟩
    have hl2 : ws2.length = ws.length + k := by rw [← hws2]; simp
    rw [hws2] at HR
    have Hws2 := Aside0.mk (And.intro hws2 hl2)
    have hRR := HR.out
    obtain ⟨g, cap, hb, hFp, hU⟩ := hRR
    have c1 := blk_cell hb 1
    have c2 := blk_cell hb 2
    have z1 := blk_frozen hb 1
    have z2 := blk_frozen hb 2
    have Hb := Aside0.mk hb
    have HU := Aside0.mk hU
    have Hp := Aside0.mk hFp
    have l1 : 0 ≤ (ws2.length : Int) := by omega
    have l2 : (ws2.length : Int) ≤ 32768 := by have := Hk.out; omega
    by_cases hin : n / 64 < ws2.length
    · have d1 : decide ((n : Int) / 64 ≥ (ws2.length : Int)) = false := decide_eq_false (by omega)
      have d2 : decide ((ws2.length : Int) ≤ (n : Int) / 64) = false := decide_eq_false (by omega)
      have Hin := Aside0.mk hin
      clear hws2 hl2 hb hU hFp hin
      have hwd : ws2.getD (n / 64) 0 < 18446744073709551616 := getD_wide (fun u hu => by
        rw [← Hws2.out.1] at hu
        rcases List.mem_append.1 hu with hu | hu
        · exact Hw.out u hu
        · rw [(List.mem_replicate.1 hu).2]; decide) (n / 64)
      have hcell : wr.cell? ⟨g, n / 64, none⟩ = some (.int .u64 (ws2.getD (n / 64) 0 : Nat)) := by
        have := HU.out.at_ (n / 64) Hin.out
        rwa [addr_add] at this
      have hzg : wr.frozen? ⟨g, n / 64, none⟩ = false := HU.out.free (n / 64)
      obtain ⟨wd, hwd2⟩ : ∃ x, ws2.getD (n / 64) 0 = x := ⟨_, rfl⟩
      rw [hwd2] at hwd hcell
      have Hwd := Aside0.mk (And.intro hwd2 hwd)
      have j0 : 0 ≤ (n : Int) / 64 := by omega
      have j1 : (n : Int) / 64 < (ws2.length : Int) := by have := Hin.out; omega
      have j2 : ((n : Int) / 64).toNat = n / 64 := by omega
      replace j0 := eq_true j0
      replace j1 := eq_true j1
      have hbit : bit ws n = wd.testBit (n % 64) := by
        rw [← bit_more ws k n, Hws2.out.1]; unfold bit; rw [hwd2]
      have hA : bits .and .u64 (wd : Int) (M : Int) = ((wd &&& M : Nat) : Int) := u64_and_nat wd M hwd HM.out.2
      have hAz : (wd &&& M = 0) ↔ wd.testBit (n % 64) = false := by rw [← HM.out.1]; exact and_pow wd (n % 64)
      obtain ⟨A, hA2⟩ : ∃ A, wd &&& M = A := ⟨_, rfl⟩
      rw [hA2] at hA hAz
      go_upto_region 4 with (fail)
      rw [HMw.out]
      by_cases hb0 : wd.testBit (n % 64) = true
      · have hA0 : A ≠ 0 := fun h => by rw [hAz.1 h] at hb0; cases hb0
        have q1 : ((A : Int) == 0) = false := by rw [beq_eq_false_iff_ne]; omega
        have q2 : ((A : Int) != 0) = true := by rw [bne, q1]; rfl
        have Hbit := Aside0.mk (hbit.trans hb0)
        clear hbit hAz hb0 hA0 hA2 hwd2 hwd
        go_wp2_with fail
        go_ret
        exact ⟨k, by have := Hin.out; have := Hws2.out.2; omega, Hk.out, HC.out, .inl ⟨Hbit.out, rfl, by rw [Hws2.out.1]; exact HR.out⟩⟩
      · have hb0 : wd.testBit (n % 64) = false := by simpa using hb0
        obtain rfl : A = 0 := hAz.2 hb0
        have hO : bits .or .u64 (wd : Int) (M : Int) = ((wd ||| M : Nat) : Int) := u64_or_nat wd M hwd HM.out.2
        obtain ⟨O, hO2⟩ : ∃ O, wd ||| M = O := ⟨_, rfl⟩
        rw [hO2] at hO
        have HO := Aside0.mk hO2
        have Hbit := Aside0.mk (hbit.trans hb0)
        have hzc := blk_frozen Hb.out 1
        have hA' : bits .and .u64 (wd : Int) (M : Int) = 0 := hA
        clear hbit hAz hb0 hA2 hwd2 hwd hO2 hA
        go_upto_region 7 with (fail)
        have hgp : g ≠ p := fun e => by
          obtain ⟨inner, ho⟩ := Kd.R_own HU.out.out
          obtain ⟨cells, hc⟩ := own_typed ho g rfl
          rw [e, Hb.out] at hc; cases hc
        have hb2 := blk_far Hb.out (p := ⟨g, n / 64, none⟩) (fun e => hgp e.symm) (.int .u64 (O : Int))
        have hU2 := HU.out.put (n / 64) O
        have HB2 := Aside0.mk (And.intro hb2 hU2)
        have HC2 := Aside0.mk (HC.out.then_ (Chg.setCell wr (p := ⟨g, n / 64, none⟩) (F := ext F w wr) (HU.out.out.1 g rfl) (.int .u64 (O : Int))) (fun k h => h.elim .inl (fun h => .inr h.1)))
        have y2 := blk_cell hb2 2
        have y3 := blk_frozen hb2 2
        generalize hwx : wr.setCell ⟨g, n / 64, none⟩ (.int .u64 (O : Int)) = wx at hb2 hU2 HB2 HC2 y2 y3 ⊢
        have Hsz := Aside0.mk (show wr.heap.size ≤ wx.heap.size by rw [← hwx]; simp [World.setCell])
        clear hwx hb2 hU2 hgp
        go_wp2_with fail
        go_ret
        exact marked_end Hin.out Hws2.out.1 Hk.out HC2.out Hsz.out Hp.out HB2.out.1 HB2.out.2 Hwd.out.1 HM.out.1 HO.out Hbit.out
    · have d1 : decide ((n : Int) / 64 ≥ (ws2.length : Int)) = true := decide_eq_true (by omega)
      have d2 : decide ((ws2.length : Int) ≤ (n : Int) / 64) = true := decide_eq_true (by omega)
      have Hin := Aside0.mk hin
      clear hws2 hl2 hb hU hFp hin
      go_wp2_with fail
      have HUd := Aside0.mk (HU.out.below (below_drew (Below.refl wr.heap.size wr)))
      have Hbd : Aside0 (wr.drew.heap[p]? = some (.cells #[.slice none 0 0, .slice (some ⟨g, 0, none⟩) ws2.length cap, .int .i64 cnt] 142 (0, 0))) := ⟨Hb.out⟩
      have Hlen : Aside0 ((ws2.length + ws2.length) * 8 ≤ 140737488355328) := ⟨by omega⟩
      go_region_law (refine Kd.R_append_zeros_step (Kd.int .u64) (w0 := wr) 0 (by rfl) (.tmp 18) (.tmp 23) 140 3 147 (.int .u64 0) 8 (by rfl) Tryz.underlying140 Tryz.underlying3 info147 rfl (by decide) (by decide) (.slice (some ⟨g, 0, none⟩) ws2.length cap) (ws2.map fun (n : Nat) => (n : Int)) (0 : Int) (ws2.length : Int) (fun k => ext F w wr k ∨ wr.heap.size ≤ k) (by rfl) (by rfl) (by rfl) (fun k hk => .inr hk) (Kd.R_mono HUd.out.out (fun k hk => .inl hk)) l1 (below_drew (Below.refl 0 wr)) (Nat.zero_le _) (by rw [List.length_map, Int.toNat_natCast]; exact Hlen.out) ?_; intro v1 w1 hR1 hB1 hg1 _; obtain ⟨A1, c1', hv1, _, _⟩ := Kd.R_reads hR1; obtain ⟨m1, hm1⟩ : ∃ m, (List.map (fun (n : Nat) => (n : Int)) ws2 ++ List.replicate ((ws2.length : Int)).toNat (0 : Int)).length = m := ⟨_, rfl⟩; rw [hm1] at hv1; subst hv1; have hne := Kd.R_ne (g := p) HUd.out.out Hbd.out (by decide); have hb3 := Aside0.mk (blk_grown Hbd.out hg1 hne); have z3' : w1.frozen? ⟨p, 1, none⟩ = false := blk_frozen hb3.out 1; have e3 : w1.cell? ⟨p, 1, none⟩ = some (.slice (some ⟨g, 0, none⟩) ws2.length cap) := blk_cell hb3.out 1; have HR3 := Aside0.mk hR1; have Hg3 := Aside0.mk hg1; clear hR1 hB1 hg1 hne hm1)
      all_goals
        go_wp2
        have hE := grown_end Hk.out Hq.out Hws2.out.1 Hws2.out.2 Hin.out Hn.out HC.out Hp.out Hl.out.1 Hb.out HUd.out HR3.out Hg3.out
        have HE := Aside0.mk hE
        clear hE
        go_roundg (32768 - (ws.length + (k + ws2.length)))
        case measure => exact HE.out.1
        case rel => exact ⟨k + ws2.length, ⟨HE.out.2.1⟩, ⟨rfl⟩, ⟨HE.out.2.2.1⟩, ⟨HE.out.2.2.2⟩⟩
end Go.Proofs.YtkpadjhdneiniaaGreatDoor.Se
end

/- Sh: ints.Set: spread, Add. -/
section
namespace Go.Proofs.YtkpadjhdneiniaaGreatDoor.Se
set_option linter.unusedVariables false
open Go.RowKit Go.Proofs.YtkpadjhdneiniaaGreatDoorW.PrintWords Go.Proofs.YtkpadjhdneiniaaGreatDoorW.PrintLast Go.Proofs.YtkpadjhdneiniaaGreatDoorW.PrintMore
open Go.Proofs.YtkpadjhdneiniaaGreatDoor.Base Go.Proofs.YtkpadjhdneiniaaGreatDoor.Map Go.Proofs.YtkpadjhdneiniaaGreatDoor.Sl Go.Proofs.YtkpadjhdneiniaaGreatDoor.Ow

/-- a slice's block alone -/
theorem OwF.tight {w : World} {F : Nat → Prop} {v : Value} {l : List Int} (h : OwF w F v l) {p t : Nat} {cs : Array Value} (hb : w.heap[p]? = some (.cells cs t (0, 0))) (ht : 3 ≠ t) : OwF w (fun k => F k ∧ k ≠ p ∧ k < w.heap.size) v l :=
  ⟨Kd.R_mono (Kd.R_bound (Kd.R_tight (by rfl) h.out)) (fun k hk => ⟨h.out.1 k hk.1.symm, fun e => Kd.R_ne h.out hb ht (e ▸ hk.1), hk.2.2.1⟩)⟩
theorem srt_take {l : List Int} (h : Srt l) (i : Nat) : Srt (l.take i) := List.Pairwise.sublist (List.take_sublist i l) h
theorem take_ins {l : List Int} (h : Srt l) {i : Nat} (hi : i < l.length) : l.getD i 0 ∉ l.take i ∧ ins (l.take i) (l.getD i 0) = l.take (i + 1) := by
  have e1 : l.take (i + 1) = l.take i ++ [l.getD i 0] := by
    rw [List.take_succ_eq_append_getElem hi]; simp [List.getElem?_eq_getElem hi]
  have h2 : Srt (l.take i ++ [l.getD i 0]) := by rw [← e1]; exact srt_take h (i + 1)
  refine ⟨fun hm => ?_, srt_ext (srt_ins (srt_take h i) _) (srt_take h _) fun x => ?_⟩
  · have := (List.pairwise_append.1 h2).2.2 _ hm _ (List.mem_singleton.2 rfl); omega
  · rw [mem_ins, e1, List.mem_append, List.mem_singleton]; exact or_comm
/-- mark, of a set that stands in rows -/
def RowsL (w : World) (F : Nat → Prop) (p : Nat) (l : List Int) : Prop := ∃ ws, RowsF w F p (l.length : Int) ws ∧ 1 ≤ ws.length ∧ ws.length ≤ 32768 ∧ Bits ws l
theorem RowsL.mono {w : World} {F F' : Nat → Prop} {p : Nat} {l : List Int} (h : RowsL w F p l) (hF : ∀ k, F k → F' k) : RowsL w F' p l := by
  obtain ⟨ws, h1, h2⟩ := h; exact ⟨ws, h1.mono hF, h2⟩
theorem RowsL.toSet {w : World} {F : Nat → Prop} {p : Nat} {l : List Int} (h : RowsL w F p l) (hs : Srt l) (ho : ∀ x ∈ l, okN x) : SetF w F p l := by
  obtain ⟨ws, ⟨g, cap, h1, h2, h3⟩, h4, h5, h6⟩ := h
  exact ⟨_, _, h1, h2, hs, ho, .inr ⟨rfl, _, cap, ws, rfl, h3, h4, h5, h6⟩⟩
theorem markL_any (p : Nat) (F : Nat → Prop) (l : List Int) (x : Int) (w : World) (h : RowsL w F p l) (hx : okN x) (hl : l.length ≤ 1048576) :
    Calls Tryz.prog 104 #[.pointer (some ⟨p, 0, none⟩), .int .i64 x] w fun e w' => e = .returned (.bool (!decide (x ∈ l))) ∧ RowsL w' (ext F w w') p (ins l x) ∧ Chg F w w' := by
  obtain ⟨ws, h1, h2, h3, h4⟩ := h
  obtain ⟨n, rfl⟩ : ∃ n : Nat, x = (n : Int) := ⟨x.toNat, by have := hx.1; omega⟩
  have hn : n < 1048576 := by have := hx.2; omega
  refine (mark_any p F _ ws n w h1 h4.wide hn h2 h3 (by omega) (by omega)).mono ?_
  rintro e w' ⟨k, hk1, hk2, hC, h⟩
  have hmem : (n : Int) ∈ l ↔ bit ws n = true := by rw [h4.mem]; simp
  have hB := h4.more k
  have hlk : (ws ++ List.replicate k 0).length = ws.length + k := by simp
  rcases h with ⟨a, rfl, hR⟩ | ⟨a, rfl, hR⟩
  · have hm := hmem.2 a
    rw [ins_old hm]
    exact ⟨by simp [hm], ⟨_, hR, by omega, by omega, hB⟩, hC⟩
  · have hm : (n : Int) ∉ l := fun h => by rw [hmem.1 h] at a; cases a
    refine ⟨by simp [hm], ⟨_, ?_, ?_, ?_, hB.mark (n := n) (by omega)⟩, hC⟩
    · rw [show ((ins l (n : Int)).length : Int) = (l.length : Int) + 1 by rw [ins_len, if_neg hm]; simp]
      exact hR
    · simp; omega
    · simp; omega
theorem spread_start {w : World} {p : Nat} {vl : Value} {c0 : Int} (hb : w.heap[p]? = some (.cells #[vl, .slice none 0 0, .int .i64 c0] 142 (0, 0))) :
    RowsL ((((w.alloc (.cells #[.int .u64 0] 147)).setCell ⟨p, 1, none⟩ (.slice (some ⟨w.heap.size, 0, none⟩) 1 1)).setCell ⟨p, 0, none⟩ (.slice none 0 0)).setCell ⟨p, 2, none⟩ (.int .i64 0)) (fun k => k = p ∨ w.heap.size ≤ k) p [] ∧
    Chg (fun k => k = p) w ((((w.alloc (.cells #[.int .u64 0] 147)).setCell ⟨p, 1, none⟩ (.slice (some ⟨w.heap.size, 0, none⟩) 1 1)).setCell ⟨p, 0, none⟩ (.slice none 0 0)).setCell ⟨p, 2, none⟩ (.int .i64 0)) := by
  have hbA := Ow.blk_below hb (below_alloc (Below.refl w.heap.size w) (.cells #[.int .u64 0] 147))
  have hb1 := blk_set hbA 1 (.slice (some ⟨w.heap.size, 0, none⟩) 1 1)
  have hb2 := blk_set hb1 0 (.slice none 0 0)
  have hb3 := blk_set hb2 2 (.int .i64 0)
  have hU : OwU (w.alloc (.cells #[.int .u64 0] 147)) (fun k => k = p ∨ w.heap.size ≤ k) (.slice (some ⟨w.heap.size, 0, none⟩) 1 1) [0] :=
    ⟨Kd.R_of_own (enc := Value.int .u64) (xs := [(0 : Int)]) ⟨rfl, .inr ⟨w.heap.size, 1, #[.int .u64 0], rfl, Nat.zero_le _, heap_alloc_new w _, Nat.le_refl _, by unfold maxLen; omega, rfl, rfl⟩⟩ (fun k hk => by cases hk; exact .inr (Nat.le_refl _))⟩
  refine ⟨⟨[0], ⟨w.heap.size, 1, by simpa using hb3, .inl rfl, ((hU.set hbA (j := 1) _).set hb1 (j := 0) _).set hb2 (j := 2) _⟩, by decide, by decide, Bits.zero⟩, ?_⟩
  exact (((Chg.alloc w _ _).then_ (Chg.setCell _ (p := ⟨p, 1, none⟩) (F := fun k => k = p) rfl _) (fun k h => .inl h)).then_ (Chg.setCell _ (p := ⟨p, 0, none⟩) (F := fun k => k = p) rfl _) (fun k h => .inl h)).then_ (Chg.setCell _ (p := ⟨p, 2, none⟩) (F := fun k => k = p) rfl _) (fun k h => .inl h)
set_option maxHeartbeats 4000000 in
set_option maxRecDepth 100000 in
theorem spread_any (p : Nat) (F : Nat → Prop) (vl : Value) (l : List Int) (c0 : Int) (w : World) (hb : w.heap[p]? = some (.cells #[vl, .slice none 0 0, .int .i64 c0] 142 (0, 0))) (hp : F p) (ho : OwF w F vl l) (hs : Srt l) (hok : ∀ x ∈ l, okN x) (hl : l.length ≤ 16) :
    Calls Tryz.prog 105 #[.pointer (some ⟨p, 0, none⟩)] w fun e w' => e = .returned (.tuple #[]) ∧ RowsL w' (fun k => k = p ∨ w.heap.size ≤ k) p l ∧ Chg (fun k => k = p) w w' := by
  have ht := OwF.tight ho hb (by decide)
  have h0 : w.cell? ⟨p, 0, none⟩ = some vl := blk_cell hb 0
  have hbA := Ow.blk_below hb (below_alloc (Below.refl w.heap.size w) (.cells #[.int .u64 0] 147))
  have y0 : (w.alloc (.cells #[.int .u64 0] 147)).cell? ⟨p, 0, none⟩ = some vl := blk_cell hbA 0
  have y1 : (w.alloc (.cells #[.int .u64 0] 147)).cell? ⟨p, 1, none⟩ = some (.slice none 0 0) := blk_cell hbA 1
  have y2 : (w.alloc (.cells #[.int .u64 0] 147)).cell? ⟨p, 2, none⟩ = some (.int .i64 c0) := blk_cell hbA 2
  have z0 := blk_frozen hbA 0
  have z1 := blk_frozen hbA 1
  have z2 := blk_frozen hbA 2
  have HbA := Aside0.mk hbA
  clear hbA
  have Hb := Aside0.mk hb
  have Ht := Aside0.mk ht
  have Hs := Aside0.mk (And.intro hs hok)
  have Hl := Aside0.mk hl
  obtain ⟨A, c, rfl, hc, hr⟩ := ho.toV
  clear hb ho hs hok hl ht hp hc hr
  have hmk : ∀ W : World, (Instr.makeSlice 140 (.int .i64 1) (.int .i64 1)).run Tryz.prog W = .ok (.slice (some ⟨W.heap.size, 0, none⟩) 1 1) (W.alloc (.cells #[.int .u64 0] 147)) := fun W => by kernel_rfl
  go_enter Tryz.func105, Tryz.ntmps105
  have HS := Aside0.mk (spread_start Hb.out)
  go_wp2_with fail
  go_loopw [4, 21] (fun _ I wr => ∃ i : Nat, I = .int .i64 (i : Int) ∧ i ≤ l.length ∧ Aside0 (RowsL wr (fun k => k = p ∨ w.heap.size ≤ k) p (l.take i)) ∧ Aside0 (Chg (fun k => k = p) w wr)) (fun _ I _ => l.length - (intOf I).toNat)
  case atStart => exact ⟨0, rfl, Nat.zero_le _, ⟨HS.out.1⟩, ⟨HS.out.2⟩⟩
  case round =>
    obtain ⟨i, rfl, hi, HR, HC⟩ := hrel
    by_cases hin : i < l.length
    · have hnb : decide ((i : Int) < (l.length : Int)) = true := decide_eq_true (by omega)
      have hnc : decide (i < l.length) = true := decide_eq_true hin
      obtain ⟨A', c', e', hc', hrr⟩ := (OwF.chg Ht.out HC.out (fun k hk => hk.2.1)).toV
      obtain ⟨rfl, -, rfl⟩ : A = A' ∧ l.length = l.length ∧ c = c' := by cases e'; exact ⟨rfl, rfl, rfl⟩
      obtain ⟨ad, rfl, hx⟩ := hrr.at_ (i : Int) (by omega) (by omega)
      rw [Int.toNat_natCast] at hx
      have i0 : 0 ≤ (i : Int) := by omega
      have i1 : (i : Int) < (l.length : Int) := by omega
      have i2 : (i : Int) ≤ 16 := by have := Hl.out; omega
      have hx2 : rd l (i : Int) = l.getD i 0 := by simp [rd]
      obtain ⟨x, hxx⟩ : ∃ x, l.getD i 0 = x := ⟨_, rfl⟩
      rw [hx2, hxx] at hx
      obtain ⟨m1, m2⟩ := take_ins Hs.out.1 hin
      rw [hxx] at m1 m2
      have hxok : okN x := Hs.out.2 x (by rw [← hxx, List.getD_eq_getElem?_getD, List.getElem?_eq_getElem hin]; exact List.getElem_mem hin)
      have HM := Aside0.mk (And.intro m2 hxok)
      have Hin := Aside0.mk hin
      clear hin hi hx2 hxx m1 m2 hxok e' hc' hrr
      replace i0 := eq_true i0
      replace i1 := eq_true i1
      go_wp2_with fail
      refine (markL_any p _ (l.take i) x _ HR.out HM.out.2 (by have := Hl.out; simp; omega)).mono ?_
      rintro e w1 ⟨rfl, r1, r2⟩
      rw [HM.out.1] at r1
      have HR1 : Aside0 (RowsL w1 (fun k => k = p ∨ w.heap.size ≤ k) p (l.take (i + 1))) := ⟨r1.mono (fun k hk => hk.elim id (fun h => .inr (Nat.le_trans HC.out.size h.1)))⟩
      have HC1 : Aside0 (Chg (fun k => k = p) w w1) := ⟨HC.out.then_ r2 (fun k hk => hk)⟩
      clear r1 r2
      go_wp2_with fail
      go_roundw
      case rel => exact ⟨i + 1, by go_num, Hin.out, HR1, HC1⟩
      case measure => have := Hin.out; simp [intOf]; omega
    · have hnb : decide ((i : Int) < (l.length : Int)) = false := decide_eq_false (by omega)
      have hnc : decide (i < l.length) = false := decide_eq_false hin
      obtain rfl : i = l.length := by omega
      rw [List.take_length] at HR
      clear hin hi
      go_wp2_with fail
      go_end0
      exact ⟨rfl, HR.out, HC.out⟩
end Go.Proofs.YtkpadjhdneiniaaGreatDoor.Se
end

/- Si: ints.Set: Add. -/
section
namespace Go.Proofs.YtkpadjhdneiniaaGreatDoor.Se
set_option linter.unusedVariables false
open Go.RowKit Go.Proofs.YtkpadjhdneiniaaGreatDoorW.PrintWords Go.Proofs.YtkpadjhdneiniaaGreatDoorW.PrintLast Go.Proofs.YtkpadjhdneiniaaGreatDoorW.PrintMore
open Go.Proofs.YtkpadjhdneiniaaGreatDoor.Base Go.Proofs.YtkpadjhdneiniaaGreatDoor.Map Go.Proofs.YtkpadjhdneiniaaGreatDoor.Sl Go.Proofs.YtkpadjhdneiniaaGreatDoor.Ow

set_option maxHeartbeats 1000000 in
theorem RowsL.bound {w : World} {F : Nat → Prop} {p : Nat} {l : List Int} (h : RowsL w F p l) : RowsL w (fun k => F k ∧ k < w.heap.size) p l := by
  obtain ⟨ws, h1, h2⟩ := h; exact ⟨ws, h1.bound, h2⟩
set_option maxHeartbeats 1000000 in
theorem add_out (p : Nat) (x : Int) (w : World) (hx : ¬ okN x) :
    Calls Tryz.prog 84 #[.pointer (some ⟨p, 0, none⟩), .int .i64 x] w fun e w' => e = .returned (.bool false) ∧ w = w' := by
  by_cases h0 : x < 0
  · go_enter Tryz.func84, Tryz.ntmps84
    go_wp2
    go_ret
    exact ⟨rfl, rfl⟩
  · have h1 : 1048576 ≤ x := by unfold okN at hx; omega
    have h2 : 0 ≤ x := by omega
    clear hx h0
    go_enter Tryz.func84, Tryz.ntmps84
    go_wp2
    go_ret
    exact ⟨rfl, rfl⟩
set_option maxHeartbeats 4000000 in
set_option maxRecDepth 100000 in
theorem add_rows (p : Nat) (F : Nat → Prop) (l : List Int) (x : Int) (w : World) (h : RowsL w F p l) (hx : okN x) (hl : l.length ≤ 1048576) :
    Calls Tryz.prog 84 #[.pointer (some ⟨p, 0, none⟩), .int .i64 x] w fun e w' => e = .returned (.bool (!decide (x ∈ l))) ∧ RowsL w' (ext F w w') p (ins l x) ∧ Chg F w w' := by
  obtain ⟨x0, x1⟩ := hx
  have H := Aside0.mk h
  have Hx := Aside0.mk (And.intro x0 x1)
  have Hl := Aside0.mk hl
  obtain ⟨ws, ⟨g, cap, hb, -, -⟩, -⟩ := h
  have Hb := Aside0.mk hb
  obtain ⟨b, hb0⟩ : ∃ b : Bool, (!decide (x ∈ l)) = b := ⟨_, rfl⟩
  rw [hb0]
  have Hb0 := Aside0.mk hb0
  clear hb hl hb0
  go_enter Tryz.func84, Tryz.ntmps84
  go_wp2_with fail
  refine (many_rows p _ _ _ _ _ w Hb.out).mono ?_
  rintro e w' ⟨rfl, rfl⟩
  go_wp2_with fail
  refine (markL_any p F l x w H.out Hx.out Hl.out).mono ?_
  rintro e w' ⟨rfl, r1, r2⟩
  rw [Hb0.out]
  go_wp2
  go_ret
  exact ⟨rfl, r1, r2⟩
set_option maxHeartbeats 4000000 in
set_option maxRecDepth 100000 in
theorem add_old (p : Nat) (F : Nat → Prop) (vl : Value) (l : List Int) (x : Int) (w : World) (hb : w.heap[p]? = some (.cells #[vl, .slice none 0 0, .int .i64 (l.length : Int)] 142 (0, 0))) (ho : OwF w F vl l) (hs : Srt l) (hl : l.length ≤ 16) (hx : okN x) (hm : x ∈ l) :
    Calls Tryz.prog 84 #[.pointer (some ⟨p, 0, none⟩), .int .i64 x] w fun e w' => e = .returned (.bool false) ∧ Below w.heap.size w w' := by
  obtain ⟨x0, x1⟩ := hx
  have c0 : w.cell? ⟨p, 0, none⟩ = some vl := blk_cell hb 0
  have Hb := Aside0.mk hb
  have Ho := Aside0.mk ho
  have Hs := Aside0.mk hs
  have Hl := Aside0.mk hl
  have Hm := Aside0.mk (decide_eq_true hm)
  obtain ⟨i, hi⟩ : ∃ i, below l x = i := ⟨_, rfl⟩
  have Hi := Aside0.mk hi
  clear hb ho hs hl hm hi
  go_enter Tryz.func84, Tryz.ntmps84
  go_wp2_with fail
  refine (many_list p _ _ w Hb.out).mono ?_
  rintro e w' ⟨rfl, rfl⟩
  go_wp2_with fail
  refine (bs_any vl l x w Ho.out.toV Hs.out (by have := Hl.out; omega)).mono ?_
  rintro e w1 ⟨rfl, r1⟩
  rw [Hm.out, Hi.out]
  go_wp2
  go_ret
  exact ⟨rfl, r1⟩
set_option maxHeartbeats 4000000 in
set_option maxRecDepth 100000 in
theorem add_full (p : Nat) (F : Nat → Prop) (vl : Value) (l : List Int) (x : Int) (w : World) (hb : w.heap[p]? = some (.cells #[vl, .slice none 0 0, .int .i64 (l.length : Int)] 142 (0, 0))) (hp : F p) (ho : OwF w F vl l) (hs : Srt l) (hok : ∀ y ∈ l, okN y) (hl : l.length = 16) (hx : okN x) (hm : x ∉ l) :
    Calls Tryz.prog 84 #[.pointer (some ⟨p, 0, none⟩), .int .i64 x] w fun e w' => e = .returned (.bool true) ∧ RowsL w' (ext F w w') p (ins l x) ∧ Chg F w w' := by
  obtain ⟨x0, x1⟩ := hx
  have c0 : w.cell? ⟨p, 0, none⟩ = some vl := blk_cell hb 0
  have Hb := Aside0.mk hb
  have Ho := Aside0.mk ho
  have Hs := Aside0.mk (And.intro hs hok)
  have Hl := Aside0.mk hl
  have Hm := Aside0.mk (decide_eq_false hm)
  have Hx := Aside0.mk (And.intro x0 x1)
  have Hp := Aside0.mk hp
  obtain ⟨A, c, rfl, hc, hr⟩ := ho.toV
  have l1 : decide ((l.length : Int) = 16) = true := decide_eq_true (by omega)
  have l2 : ((l.length : Int) == 16) = true := by rw [beq_iff_eq]; omega
  obtain ⟨i, hi⟩ : ∃ i, below l x = i := ⟨_, rfl⟩
  have Hi := Aside0.mk hi
  clear hb ho hs hl hm hi hc hr hp hok
  go_enter Tryz.func84, Tryz.ntmps84
  go_wp2_with fail
  refine (many_list p _ _ w Hb.out).mono ?_
  rintro e w' ⟨rfl, rfl⟩
  go_wp2_with fail
  refine (bs_any _ l x w Ho.out.toV Hs.out.1 (by have := Hl.out; omega)).mono ?_
  rintro e w1 ⟨rfl, r1⟩
  rw [Hm.out, Hi.out]
  have hb1 := Ow.blk_below Hb.out r1
  have c1 : w1.cell? ⟨p, 0, none⟩ = some (.slice A l.length c) := blk_cell hb1 0
  have Hb1 := Aside0.mk hb1
  have Hr1 := Aside0.mk r1
  have Ho1 := Aside0.mk (Ho.out.below r1)
  clear hb1 r1 c0
  go_wp2_with fail
  refine (spread_any p F _ l _ w1 Hb1.out Hp.out Ho1.out Hs.out.1 Hs.out.2 (by rw [Hl.out]; decide)).mono ?_
  rintro e w2 ⟨rfl, r2, r3⟩
  have HR2 := Aside0.mk r2
  have HC2 := Aside0.mk r3
  clear r2 r3
  go_wp2_with fail
  refine (markL_any p _ l x w2 HR2.out Hx.out (by rw [Hl.out]; decide)).mono ?_
  rintro e w3 ⟨rfl, r4, r5⟩
  rw [Hm.out]
  go_wp2
  go_ret
  have s1 := Hr1.out.size
  have s2 := HC2.out.size
  have s3 := r5.size
  refine ⟨rfl, r4.bound.mono (fun k hk => ?_), ?_⟩
  · obtain ⟨(rfl | h) | h, h2⟩ := hk
    · exact .inl Hp.out
    · exact .inr ⟨by omega, h2⟩
    · exact .inr ⟨by omega, h.2⟩
  · exact ((Chg.of_below Hr1.out F).then_ HC2.out (fun k hk => .inl (hk ▸ Hp.out))).then_ r5 (fun k hk => hk.elim (fun e => .inl (e ▸ Hp.out)) (fun h => .inr (by omega)))
theorem added_list {w w1 w2 : World} {F : Nat → Prop} {p : Nat} {v0 v' : Value} {l : List Int} {x : Int} (hb : w2.heap[p]? = some (.cells #[v0, .slice none 0 0, .int .i64 (l.length : Int)] 142 (0, 0))) (h1 : Below w.heap.size w w1)
    (hO : OwF w2 (ext (fun k => F k ∧ k ≠ p ∧ k < w.heap.size) (w1.alloc (.cells #[.int .i64 x] 3)) w2) v' (ins l x)) (hC : Chg (fun k => F k ∧ k ≠ p ∧ k < w.heap.size) (w1.alloc (.cells #[.int .i64 x] 3)) w2)
    (hp : F p) (hs : Srt l) (hok : ∀ y ∈ l, okN y) (hl : l.length < 16) (hx : okN x) (hm : x ∉ l) :
    SetF ((w2.setCell ⟨p, 0, none⟩ v').setCell ⟨p, 2, none⟩ (.int .i64 ((l.length : Int) + 1))) (ext F w ((w2.setCell ⟨p, 0, none⟩ v').setCell ⟨p, 2, none⟩ (.int .i64 ((l.length : Int) + 1)))) p (ins l x) ∧ Chg F w ((w2.setCell ⟨p, 0, none⟩ v').setCell ⟨p, 2, none⟩ (.int .i64 ((l.length : Int) + 1))) := by
  have hb3 := blk_set hb 0 v'
  have hb4 := blk_set hb3 2 (.int .i64 ((l.length : Int) + 1))
  have hO4 := (hO.far hb (by decide) 0 v').far hb3 (by decide) 2 (.int .i64 ((l.length : Int) + 1))
  have s0 := h1.size
  have s1 := hC.size
  have s2 : (w1.alloc (.cells #[.int .i64 x] 3)).heap.size = w1.heap.size + 1 := by simp
  have s3 : ((w2.setCell ⟨p, 0, none⟩ v').setCell ⟨p, 2, none⟩ (.int .i64 ((l.length : Int) + 1))).heap.size = w2.heap.size := by simp [World.setCell]
  have hlen : ((ins l x).length : Int) = (l.length : Int) + 1 := by rw [ins_len, if_neg hm]; simp
  have hC2 : Chg F w w2 := (Chg.of_below h1 F).andBelow (below_alloc (Below.refl _ _) _) |>.then_ hC (fun k hk => .inl hk.1)
  refine ⟨⟨v', .slice none 0 0, ?_, .inl hp, srt_ins hs x, ?_, .inl ⟨rfl, hO4.mono (fun k hk => ?_), by rw [ins_len, if_neg hm]; omega⟩⟩, ?_⟩
  · rw [hlen]; simpa using hb4
  · intro y hy
    rcases mem_ins.1 hy with rfl | hy
    · exact hx
    · exact hok y hy
  · rcases hk with hk | hk
    · exact .inl hk.1
    · exact .inr ⟨by omega, by omega⟩
  · exact (hC2.then_ (Chg.setCell _ (p := ⟨p, 0, none⟩) (F := F) hp _) (fun k h => .inl h)).then_ (Chg.setCell _ (p := ⟨p, 2, none⟩) (F := F) hp _) (fun k h => .inl h)
set_option maxHeartbeats 4000000 in
set_option maxRecDepth 100000 in
theorem add_list (p : Nat) (F : Nat → Prop) (vl : Value) (l : List Int) (x : Int) (w : World) (hb : w.heap[p]? = some (.cells #[vl, .slice none 0 0, .int .i64 (l.length : Int)] 142 (0, 0))) (hp : F p) (ho : OwF w F vl l) (hs : Srt l) (hok : ∀ y ∈ l, okN y) (hl : l.length < 16) (hx : okN x) (hm : x ∉ l) :
    Calls Tryz.prog 84 #[.pointer (some ⟨p, 0, none⟩), .int .i64 x] w fun e w' => e = .returned (.bool true) ∧ SetF w' (ext F w w') p (ins l x) ∧ Chg F w w' := by
  obtain ⟨x0, x1⟩ := hx
  have c0 : w.cell? ⟨p, 0, none⟩ = some vl := blk_cell hb 0
  have Hb := Aside0.mk hb
  have Ho := Aside0.mk ho
  have Hs := Aside0.mk (And.intro hs hok)
  have Hl := Aside0.mk hl
  have Hm := Aside0.mk (decide_eq_false hm)
  have Hx := Aside0.mk (And.intro x0 x1)
  have Hp := Aside0.mk hp
  have Ht := Aside0.mk (OwF.tight ho hb (by decide))
  obtain ⟨A, c, rfl, hc, hr⟩ := ho.toV
  have l1 : decide ((l.length : Int) = 16) = false := decide_eq_false (by omega)
  have l2 : ((l.length : Int) == 16) = false := by rw [beq_eq_false_iff_ne]; omega
  have l3 : (l.length : Int) < 16 := by omega
  have l4 : 0 ≤ (l.length : Int) := by omega
  obtain ⟨i, hi⟩ : ∃ i, below l x = i := ⟨_, rfl⟩
  have Hi := Aside0.mk hi
  clear hb ho hs hl hm hi hc hr hp hok
  go_enter Tryz.func84, Tryz.ntmps84
  go_wp2_with fail
  refine (many_list p _ _ w Hb.out).mono ?_
  rintro e w' ⟨rfl, rfl⟩
  go_wp2_with fail
  refine (bs_any _ l x w Ho.out.toV Hs.out.1 (by have := Hl.out; omega)).mono ?_
  rintro e w1 ⟨rfl, r1⟩
  rw [Hm.out, Hi.out]
  have hb1 := Ow.blk_below Hb.out r1
  have c1 : w1.cell? ⟨p, 0, none⟩ = some (.slice A l.length c) := blk_cell hb1 0
  have Hb1 := Aside0.mk hb1
  have Hr1 := Aside0.mk r1
  have Ho1 := Aside0.mk ((Ht.out.below r1).below (below_alloc (Below.refl _ _) (.cells #[.int .i64 x] 3)))
  clear hb1 r1 c0
  go_wp2_with fail
  have hI := insert_own _ l x w1.heap.size _ _ Ho1.out (of_decide_eq_false Hm.out) (heap_alloc_new _ _) (fun h => by have := h.2.2; have := Hr1.out.size; omega) (by have := Hl.out; omega)
  rw [Hi.out] at hI
  (with_reducible refine hI.mono ?_)
  rintro e w2 ⟨v', rfl, r2, r3⟩
  obtain ⟨A2, c2, hv2, -, -⟩ := r2.toV
  obtain ⟨m2, hm2⟩ : ∃ m, (ins l x).length = m := ⟨_, rfl⟩
  rw [hm2] at hv2
  subst hv2
  clear hm2
  have hb2 := r3.blk (Ow.blk_below Hb1.out (below_alloc (Below.refl _ _) (.cells #[.int .i64 x] 3))) (fun h => h.2.1 rfl)
  have d0 : w2.cell? ⟨p, 0, none⟩ = some (.slice A l.length c) := blk_cell hb2 0
  have d2 : w2.cell? ⟨p, 2, none⟩ = some (.int .i64 (l.length : Int)) := blk_cell hb2 2
  have z0 := blk_frozen hb2 0
  have z2 := blk_frozen hb2 2
  have Hb2 := Aside0.mk hb2
  have HI := Aside0.mk (And.intro r2 r3)
  clear hb2 r2 r3 hI
  go_wp2_with fail
  go_ret
  exact ⟨rfl, added_list Hb2.out Hr1.out HI.out.1 HI.out.2 Hp.out Hs.out.1 Hs.out.2 Hl.out Hx.out (of_decide_eq_false Hm.out)⟩
/-- a number more -/
def addL (l : List Int) (x : Int) : List Int := if 0 ≤ x ∧ x < 1048576 then ins l x else l
def addB (l : List Int) (x : Int) : Bool := decide (0 ≤ x ∧ x < 1048576) && !decide (x ∈ l)
/-- Add -/
theorem add_any (p : Nat) (F : Nat → Prop) (l : List Int) (x : Int) (w : World) (h : SetF w F p l) :
    Calls Tryz.prog 84 #[.pointer (some ⟨p, 0, none⟩), .int .i64 x] w fun e w' => e = .returned (.bool (addB l x)) ∧ SetF w' (ext F w w') p (addL l x) ∧ Chg F w w' := by
  by_cases hx : okN x
  · have e1 : addL l x = ins l x := if_pos hx
    have e2 : addB l x = !decide (x ∈ l) := by unfold addB; rw [decide_eq_true (show 0 ≤ x ∧ x < 1048576 from hx), Bool.true_and]
    rw [e1, e2]
    have hl := h.len
    have hs := h.srt
    have hok := h.ok
    have hok2 : ∀ y ∈ ins l x, okN y := fun y hy => by
      rcases mem_ins.1 hy with rfl | hy
      · exact hx
      · exact hok y hy
    have h0 := h
    obtain ⟨vl, vr, h1, h2, h3, h4, h5⟩ := h
    rcases h5 with ⟨rfl, b, c⟩ | ⟨rfl, ad, cap, ws, rfl, c, d1, d2, d3⟩
    · by_cases hm : x ∈ l
      · refine (add_old p F vl l x w h1 b h3 c hx hm).mono ?_
        rintro e w' ⟨rfl, r⟩
        rw [ins_old hm]
        exact ⟨by simp [hm], (h0.below r).mono (fun k hk => .inl hk), Chg.of_below r F⟩
      · rcases Nat.lt_or_ge l.length 16 with h16 | h16
        · refine (add_list p F vl l x w h1 h2 b h3 h4 h16 hx hm).mono ?_
          rintro e w' ⟨rfl, r1, r2⟩
          exact ⟨by simp [hm], r1, r2⟩
        · refine (add_full p F vl l x w h1 h2 b h3 h4 (by omega) hx hm).mono ?_
          rintro e w' ⟨rfl, r1, r2⟩
          exact ⟨by simp [hm], r1.toSet (srt_ins h3 x) hok2, r2⟩
    · obtain ⟨g, rfl⟩ := Kd.R_head c.out
      refine (add_rows p F l x w ⟨ws, ⟨g, cap, h1, h2, c⟩, d1, d2, d3⟩ hx hl).mono ?_
      rintro e w' ⟨rfl, r1, r2⟩
      exact ⟨rfl, r1.toSet (srt_ins h3 x) hok2, r2⟩
  · have e1 : addL l x = l := if_neg hx
    have e2 : addB l x = false := by unfold addB; rw [decide_eq_false (show ¬ (0 ≤ x ∧ x < 1048576) from hx), Bool.false_and]
    rw [e1, e2]
    refine (add_out p x w hx).mono ?_
    rintro e w' ⟨rfl, rfl⟩
    exact ⟨rfl, h.mono (fun k hk => .inl hk), Chg.refl _ _⟩
end Go.Proofs.YtkpadjhdneiniaaGreatDoor.Se
end

/- Sj: ints.Set: Merge. -/
section
namespace Go.Proofs.YtkpadjhdneiniaaGreatDoor.Se
set_option linter.unusedVariables false
open Go.RowKit Go.Proofs.YtkpadjhdneiniaaGreatDoorW.PrintWords Go.Proofs.YtkpadjhdneiniaaGreatDoorW.PrintLast Go.Proofs.YtkpadjhdneiniaaGreatDoorW.PrintMore
open Go.Proofs.YtkpadjhdneiniaaGreatDoor.Base Go.Proofs.YtkpadjhdneiniaaGreatDoor.Map Go.Proofs.YtkpadjhdneiniaaGreatDoor.Sl Go.Proofs.YtkpadjhdneiniaaGreatDoor.Ow

/-! append(v, ys...), v owned by a set of blocks -/
section
variable {ops : Array Oper} {rest : List Oper} {o : Oper} {a : Act} {Q : Exit → Act → World → Prop} {Kc : Act → World → Prop}
theorem appF {W : World} {G : Nat → Prop} (hgd : o.guard = none) (s x : Operand)
    (ho : o.op = .call { callee := .builtin .append, args := #[s, x], argTypes := #[26, 26] })
    (v u : Value) (xs ys : List Int) (hs : a.eval s = v) (hx : a.eval x = u)
    (HO : OwF W G v xs) (HR : RdV W u ys) (hl : (xs.length + ys.length) * 8 ≤ 140737488355328)
    (h : ∀ v1 w1, OwF w1 (ext G W w1) v1 (xs ++ ys) → Chg G W w1 → wpList Tryz.prog ops Q rest (a.put o.dst v1) w1) :
    wpList Tryz.prog ops Q (o :: rest) a W := by
  obtain ⟨A, c, hu, _, HR⟩ := HR
  exact Kd.R_append_row (Value.int .i64) (0 : Int) (h1 := fun _ => rfl) (w0 := W) 0 hgd s x 26 3 (.int .i64 0) 8 ho Tryz.underlying26 info3 rfl (by decide) v xs ys A _ c (fun k => G k ∨ W.heap.size ≤ k) hs (hx.trans hu) (fun _ hk => .inr hk) (Kd.R_mono HO.out (fun k hk => .inl hk)) HR.out (Below.refl _ _) (Nat.zero_le _) hl
    (fun v1 w1 ho hb hg hat => h v1 w1 ⟨Kd.R_mono (Kd.R_bound ho) (fun k hk => hk.1.elim .inl (fun h => .inr ⟨h, hk.2.2.1⟩))⟩ (Chg.of_grown hg (fun k hk => HO.out.1 k hk)))
end
/-- a set, or none -/
def SetN (w : World) (v : Value) (l : List Int) : Prop := (v = .pointer none ∧ l = []) ∨ ∃ (q : Nat) (Fq : Nat → Prop), v = .pointer (some ⟨q, 0, none⟩) ∧ SetF w Fq q l
theorem SetN.ok {w : World} {v : Value} {l : List Int} (h : SetN w v l) : Srt l ∧ (∀ x ∈ l, okN x) ∧ l.length ≤ 1048576 := by
  rcases h with ⟨_, rfl⟩ | ⟨q, Fq, _, h⟩
  · exact ⟨Srt.nil, by simp, by simp⟩
  · exact ⟨h.srt, h.ok, h.len⟩
theorem SetN.below {w w1 : World} {v : Value} {l : List Int} (h : SetN w v l) (hb : Below w.heap.size w w1) : SetN w1 v l := by
  rcases h with h | ⟨q, Fq, h1, h2⟩
  · exact .inl h
  · exact .inr ⟨q, Fq, h1, h2.below hb⟩
theorem listN_any (v : Value) (l : List Int) (w : World) (h : SetN w v l) (hT : TZ w) :
    Calls Tryz.prog 87 #[v] w fun e w' => ∃ v, e = .returned v ∧ OwI w' w.heap.size v l ∧ Below w.heap.size w w' := by
  rcases h with ⟨rfl, rfl⟩ | ⟨q, Fq, rfl, h⟩
  · refine (list_nil w).mono ?_
    rintro e w' ⟨rfl, rfl⟩
    exact ⟨_, rfl, OwI.nil _ _, Below.refl _ _⟩
  · exact list_any q Fq l w h hT
/-- what is new in one against another -/
def newL (l t : List Int) : List Int := t.filter fun x => !decide (x ∈ l)
/-- what Merge leaves -/
def Merged (w : World) (F : Nat → Prop) (p : Nat) (l t : List Int) (e : Ending) (w' : World) : Prop :=
  ∃ (F' G : Nat → Prop) (v : Value), e = .returned v ∧ SetF w' F' p (insL l t) ∧ OwF w' G v (newL l t) ∧ (∀ k, F' k → ext F w w' k) ∧ (∀ k, G k → new w w' k) ∧ (∀ k, F' k → ¬ G k) ∧ Chg F w w'
/-- how the set and what was new lie while Merge goes on -/
structure Sep (w w1 wr : World) (F F1 G : Nat → Prop) : Prop where
  f : ∀ k, F1 k → ((F k ∧ k < w.heap.size) ∨ w1.heap.size ≤ k) ∧ k < wr.heap.size
  g : ∀ k, G k → w1.heap.size ≤ k ∧ k < wr.heap.size
  d : ∀ k, F1 k → ¬ G k
theorem insL_snoc (l t : List Int) (i : Nat) (hi : i < t.length) : insL l (t.take (i + 1)) = ins (insL l (t.take i)) (t.getD i 0) := by
  unfold insL; rw [List.take_succ_eq_append_getElem hi, List.foldl_append]; simp [List.getElem?_eq_getElem hi]
theorem newL_snoc (l t : List Int) (i : Nat) (hi : i < t.length) : newL l (t.take (i + 1)) = newL l (t.take i) ++ if t.getD i 0 ∈ l then [] else [t.getD i 0] := by
  rw [List.take_succ_eq_append_getElem hi]
  unfold newL
  rw [List.filter_append]
  congr 1
  simp only [List.getD_eq_getElem?_getD, List.getElem?_eq_getElem hi, Option.getD_some]
  by_cases h : t[i] ∈ l <;> simp [h]
/-- of a rising list: what was added before isn't what comes -/
theorem mem_before {l t : List Int} (ht : Srt t) {i : Nat} (hi : i < t.length) : t.getD i 0 ∈ insL l (t.take i) ↔ t.getD i 0 ∈ l := by
  rw [mem_insL]
  refine ⟨fun h => h.elim (fun h => absurd h (take_ins ht hi).1) id, .inr⟩
/-- a round of Merge: Add has been called -/
theorem sep_add {w w1 wr w2 : World} {F F1 G : Nat → Prop} (h : Sep w w1 wr F F1 G) (h1 : w1.heap.size ≤ wr.heap.size) (h2 : wr.heap.size ≤ w2.heap.size) : Sep w w1 w2 F (ext F1 wr w2) G :=
  ⟨fun k hk => hk.elim (fun hk => ⟨(h.f k hk).1, by have := (h.f k hk).2; omega⟩) (fun hk => ⟨.inr (by omega), hk.2⟩), fun k hk => by have := h.g k hk; omega, fun k hk hg => hk.elim (fun hk => h.d k hk hg) (fun hk => by have := h.g k hg; omega)⟩
theorem sep_app {w w1 wr wa w2 : World} {F F1 G : Nat → Prop} (h : Sep w w1 wr F F1 G) (h1 : w1.heap.size ≤ wr.heap.size) (ha : wr.heap.size ≤ wa.heap.size) (h2 : wa.heap.size ≤ w2.heap.size) : Sep w w1 w2 F F1 (ext G wa w2) :=
  ⟨fun k hk => ⟨(h.f k hk).1, by have := (h.f k hk).2; omega⟩, fun k hk => hk.elim (fun hk => by have := h.g k hk; omega) (fun hk => ⟨by omega, hk.2⟩), fun k hk hg => hg.elim (fun hg => h.d k hk hg) (fun hg => by have := (h.f k hk).2; omega)⟩
set_option maxHeartbeats 4000000 in
set_option maxRecDepth 100000 in
theorem merge_any (p : Nat) (F : Nat → Prop) (l t : List Int) (tv : Value) (w : World) (h : SetF w F p l) (ht : SetN w tv t) (hT : TZ w) :
    Calls Tryz.prog 86 #[.pointer (some ⟨p, 0, none⟩), tv] w (Merged w F p l t) := by
  obtain ⟨t1, t2, t3⟩ := ht.ok
  have H := Aside0.mk h.bound
  have Ht := Aside0.mk ht
  have HT := Aside0.mk hT
  have Hts := Aside0.mk (And.intro t1 (And.intro t2 t3))
  clear h ht hT t1 t2 t3
  go_enter Tryz.func86, Tryz.ntmps86
  go_wp2_with fail
  refine (listN_any tv t w Ht.out HT.out).mono ?_
  rintro e w1 ⟨v0, rfl, r1, r2⟩
  obtain ⟨A, c, rfl, hc, hr⟩ := r1.toV
  have Hr1 := Aside0.mk (show ∀ W, Chg (fun k => F k ∧ k < w.heap.size) w1 W → OwI W w.heap.size (.slice A t.length c) t from fun W hC => ⟨Kd.R_mono (Kd.R_step (Kd.R_bound r1.out) (fun k hk hlt => hC.block k hlt (fun hf => by have := hf.2; have := hk.2.1; omega))) (fun _ _ => trivial)⟩)
  have H1 := Aside0.mk (H.out.below r2)
  have Hb1 := Aside0.mk r2
  clear r1 r2 hc hr
  go_wp2_with fail
  go_loopw [5, 7, 13] (fun V _ I wr => ∃ (i : Nat) (F1 G : Nat → Prop), I = .int .i64 (i : Int) ∧ i ≤ t.length ∧ Aside0 (SetF wr F1 p (insL l (t.take i))) ∧ Aside0 (OwF wr G V (newL l (t.take i))) ∧ Aside0 (Sep w w1 wr F F1 G) ∧ Aside0 (Chg (fun k => F k ∧ k < w.heap.size) w1 wr)) (fun _ _ I _ => t.length - (intOf I).toNat)
  case atStart => exact ⟨0, fun k => F k ∧ k < w.heap.size, fun _ => False, rfl, Nat.zero_le _, H1, ⟨OwF.nil _ _⟩, ⟨⟨fun k hk => ⟨.inl hk, by have := Hb1.out.size; omega⟩, fun k hk => hk.elim, fun _ _ h => h⟩⟩, ⟨Chg.refl _ _⟩⟩
  case round =>
    obtain ⟨i, F1, G, rfl, hi, HS, HO, HP, HC⟩ := hrel
    by_cases hin : i < t.length
    · have hnb : decide ((i : Int) < (t.length : Int)) = true := decide_eq_true (by omega)
      have hnc : decide (i < t.length) = true := decide_eq_true hin
      obtain ⟨A', c', e', hc', hrr⟩ := (Hr1.out _ HC.out).toV
      obtain ⟨rfl, rfl⟩ : A = A' ∧ c = c' := by cases e'; exact ⟨rfl, rfl⟩
      obtain ⟨ad, rfl, hx⟩ := hrr.at_ (i : Int) (by omega) (by omega)
      rw [Int.toNat_natCast] at hx
      have i0 : 0 ≤ (i : Int) := by omega
      have i1 : (i : Int) < (t.length : Int) := by omega
      have i2 : (i : Int) ≤ 1048576 := by have := Hts.out.2.2; omega
      have hx2 : rd t (i : Int) = t.getD i 0 := by simp [rd]
      obtain ⟨x, hxx⟩ : ∃ x, t.getD i 0 = x := ⟨_, rfl⟩
      rw [hx2, hxx] at hx
      have n1 := insL_snoc l t i hin
      have n2 := newL_snoc l t i hin
      have n3 := mem_before (l := l) Hts.out.1 hin
      rw [hxx] at n1 n2 n3
      have hxok : okN x := Hts.out.2.1 x (by rw [← hxx, List.getD_eq_getElem?_getD, List.getElem?_eq_getElem hin]; exact List.getElem_mem hin)
      have n4 : addL (insL l (t.take i)) x = insL l (t.take (i + 1)) := by rw [n1]; exact if_pos hxok
      have n5 : addB (insL l (t.take i)) x = !decide (x ∈ l) := by
        unfold addB; rw [decide_eq_true (show 0 ≤ x ∧ x < 1048576 from hxok), Bool.true_and]
        congr 1; exact decide_eq_decide.2 n3
      have hln : (newL l (t.take i)).length ≤ 1048576 := Nat.le_trans (List.length_filter_le _ _) (by have := Hts.out.2.2; simp; omega)
      have HN := Aside0.mk (And.intro n4 (And.intro n5 (And.intro n2 hln)))
      have Hin := Aside0.mk hin
      have Hsz := Aside0.mk HC.out.size
      clear hin hi hx2 hxx n1 n2 n3 n4 n5 hxok e' hc' hrr hln
      replace i0 := eq_true i0
      replace i1 := eq_true i1
      go_wp2_with fail
      refine (add_any p F1 _ x _ HS.out).mono ?_
      rintro e w2 ⟨rfl, r3, r4⟩
      rw [HN.out.1] at r3
      rw [HN.out.2.1]
      have HS2 := Aside0.mk r3
      have HO2 := Aside0.mk (HO.out.chg r4 (fun k hk hf => HP.out.d k hf hk))
      have HP2 := Aside0.mk (sep_add HP.out Hsz.out r4.size)
      have HC2 := Aside0.mk (HC.out.then_ r4 (fun k hk => (HP.out.f k hk).1))
      clear r3 r4
      by_cases hm : x ∈ l
      · have hb : decide (x ∈ l) = true := decide_eq_true hm
        have hV : Aside0 (newL l (t.take (i + 1)) = newL l (t.take i)) := ⟨by rw [HN.out.2.2.1, if_pos hm, List.append_nil]⟩
        rw [hb]
        clear hb hm
        go_wp2_with fail
        go_roundw
        case rel => exact ⟨i + 1, _, G, by go_num, Hin.out, HS2, ⟨by rw [hV.out]; exact HO2.out⟩, HP2, HC2⟩
        case measure => have := Hin.out; simp [intOf]; omega
      · have hb : decide (x ∈ l) = false := decide_eq_false hm
        have hV : Aside0 (newL l (t.take (i + 1)) = newL l (t.take i) ++ [x]) := ⟨by rw [HN.out.2.2.1, if_neg hm]⟩
        rw [hb]
        clear hb hm
        have hal : Below w2.heap.size w2 (w2.alloc (.cells #[.int .i64 x] 3)) := below_alloc (Below.refl _ _) _
        have HO3 := Aside0.mk (HO2.out.below hal)
        have HR : Aside0 (RdV (w2.alloc (.cells #[.int .i64 x] 3)) (.slice (some ⟨w2.heap.size, 0, none⟩) 1 1) [x]) := ⟨RdV.one (blk_cell (heap_alloc_new _ _) 0)⟩
        clear hal
        go_wp2_with (first | (at_builtin; refine appF (G := G) rfl (.tmp 20) (.tmp 22) rfl _ _ (newL l (t.take i)) [x] rfl rfl HO3.out HR.out (by have := HN.out.2.2.2; simp only [List.length_cons, List.length_nil]; omega) ?_; intro v1 w3 ho1 hc1))
        have hs1 : w1.heap.size ≤ w2.heap.size := HC2.out.size
        have HS3 := Aside0.mk ((HS2.out.below (below_alloc (Below.refl _ _) (.cells #[.int .i64 x] 3))).chg hc1 (fun k hk hg => HP2.out.d k hk hg))
        have HP3 := Aside0.mk (sep_app HP2.out hs1 (below_alloc (Below.refl w2.heap.size w2) (.cells #[.int .i64 x] 3)).size hc1.size)
        have HC3 := Aside0.mk ((HC2.out.andBelow (below_alloc (Below.refl _ _) (.cells #[.int .i64 x] 3))).then_ hc1 (fun k hk => .inr (HP.out.g k hk).1))
        have HO4 := Aside0.mk ho1
        clear hc1 ho1 hs1
        go_roundw
        case rel => exact ⟨i + 1, _, _, by go_num, Hin.out, HS3, ⟨by rw [hV.out]; exact HO4.out⟩, HP3, HC3⟩
        case measure => have := Hin.out; simp [intOf]; omega
    · have hnb : decide ((i : Int) < (t.length : Int)) = false := decide_eq_false (by omega)
      have hnc : decide (i < t.length) = false := decide_eq_false hin
      obtain rfl : i = t.length := by omega
      rw [List.take_length] at HS HO
      clear hin hi
      go_wp2_with fail
      go_ret
      exact ⟨F1, G, _, rfl, HS.out, HO.out, fun k hk => by have h1 := HP.out.f k hk; have h2 := Hb1.out.size; exact h1.1.elim (fun h => .inl h.1) (fun h => .inr ⟨by omega, h1.2⟩), fun k hk => by have h1 := HP.out.g k hk; have h2 := Hb1.out.size; exact ⟨by omega, h1.2⟩, HP.out.d, (Chg.of_below Hb1.out F).then_ HC.out (fun k hk => .inl hk.1)⟩
end Go.Proofs.YtkpadjhdneiniaaGreatDoor.Se
end
