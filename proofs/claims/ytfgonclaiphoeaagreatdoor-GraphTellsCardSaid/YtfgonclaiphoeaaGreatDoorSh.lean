/- ints.Set: spread, Add. -/
import Derived.Test.YtfgonclaiphoeaaGreatDoorSg
namespace Go.Proofs.YtfgonclaiphoeaaGreatDoor.Se
set_option linter.unusedVariables false
open Go.RowKit Go.Proofs.YtfgonclaiphoeaaGreatDoorW.PrintWords Go.Proofs.YtfgonclaiphoeaaGreatDoorW.PrintLast Go.Proofs.YtfgonclaiphoeaaGreatDoorW.PrintMore
open Go.Proofs.YtfgonclaiphoeaaGreatDoor.Base Go.Proofs.YtfgonclaiphoeaaGreatDoor.Map Go.Proofs.YtfgonclaiphoeaaGreatDoor.Sl Go.Proofs.YtfgonclaiphoeaaGreatDoor.Ow

/-- a slice's block alone -/
theorem OwF.tight {w : World} {F : Nat → Prop} {v : Value} {l : List Int} (h : OwF w F v l) {p t : Nat} {cs : Array Value} (hb : w.heap[p]? = some (.cells cs t (0, 0))) (ht : 3 ≠ t) : OwF w (fun k => F k ∧ k ≠ p ∧ k < w.heap.size) v l :=
  ⟨Kd.R_mono (Kd.R_bound (Kd.R_tight (by rfl) h.out)) (fun k hk => ⟨h.out.1 k hk.1.symm, fun e => Kd.R_ne h.out hb ht (e ▸ hk.1), hk.2.2.1⟩)⟩
theorem srt_take {l : List Int} (h : Srt l) (i : Nat) : Srt (l.take i) := List.Pairwise.sublist (List.take_sublist i l) h
theorem take_ins {l : List Int} (h : Srt l) {i : Nat} (hi : i < l.length) : l.getD i 0 ∉ l.take i ∧ ins (l.take i) (l.getD i 0) = l.take (i + 1) := by
  have e1 : l.take (i + 1) = l.take i ++ [l.getD i 0] := by
    rw [List.take_succ_eq_append_getElem hi]; simp [List.getElem?_eq_getElem hi]
  have h2 : Srt (l.take i ++ [l.getD i 0]) := by rw [← e1]; exact srt_take h (i + 1)
  refine ⟨fun hm => ?_, srt_ext (srt_ins (srt_take h i) _) (srt_take h _) fun x => ?_⟩
  · have := (List.pairwise_append.1 h2).2.2 _ hm _ (List.mem_singleton.2 rfl); omega
  · rw [mem_ins, e1, List.mem_append, List.mem_singleton]; exact or_comm
/-- mark, of a set that stands in rows -/
def RowsL (w : World) (F : Nat → Prop) (p : Nat) (l : List Int) : Prop := ∃ ws, RowsF w F p (l.length : Int) ws ∧ 1 ≤ ws.length ∧ ws.length ≤ 32768 ∧ Bits ws l
theorem RowsL.mono {w : World} {F F' : Nat → Prop} {p : Nat} {l : List Int} (h : RowsL w F p l) (hF : ∀ k, F k → F' k) : RowsL w F' p l := by
  obtain ⟨ws, h1, h2⟩ := h; exact ⟨ws, h1.mono hF, h2⟩
theorem RowsL.toSet {w : World} {F : Nat → Prop} {p : Nat} {l : List Int} (h : RowsL w F p l) (hs : Srt l) (ho : ∀ x ∈ l, okN x) : SetF w F p l := by
  obtain ⟨ws, ⟨g, cap, h1, h2, h3⟩, h4, h5, h6⟩ := h
  exact ⟨_, _, h1, h2, hs, ho, .inr ⟨rfl, _, cap, ws, rfl, h3, h4, h5, h6⟩⟩
theorem markL_any (p : Nat) (F : Nat → Prop) (l : List Int) (x : Int) (w : World) (h : RowsL w F p l) (hx : okN x) (hl : l.length ≤ 1048576) :
    Calls Tryz.prog 45 #[.pointer (some ⟨p, 0, none⟩), .int .i64 x] w fun e w' => e = .returned (.bool (!decide (x ∈ l))) ∧ RowsL w' (ext F w w') p (ins l x) ∧ Chg F w w' := by
  obtain ⟨ws, h1, h2, h3, h4⟩ := h
  obtain ⟨n, rfl⟩ : ∃ n : Nat, x = (n : Int) := ⟨x.toNat, by have := hx.1; omega⟩
  have hn : n < 1048576 := by have := hx.2; omega
  refine (mark_any p F _ ws n w h1 h4.wide hn h2 h3 (by omega) (by omega)).mono ?_
  rintro e w' ⟨k, hk1, hk2, hC, h⟩
  have hmem : (n : Int) ∈ l ↔ bit ws n = true := by rw [h4.mem]; simp
  have hB := h4.more k
  have hlk : (ws ++ List.replicate k 0).length = ws.length + k := by simp
  rcases h with ⟨a, rfl, hR⟩ | ⟨a, rfl, hR⟩
  · have hm := hmem.2 a
    rw [ins_old hm]
    exact ⟨by simp [hm], ⟨_, hR, by omega, by omega, hB⟩, hC⟩
  · have hm : (n : Int) ∉ l := fun h => by rw [hmem.1 h] at a; cases a
    refine ⟨by simp [hm], ⟨_, ?_, ?_, ?_, hB.mark (n := n) (by omega)⟩, hC⟩
    · rw [show ((ins l (n : Int)).length : Int) = (l.length : Int) + 1 by rw [ins_len, if_neg hm]; simp]
      exact hR
    · simp; omega
    · simp; omega
theorem spread_start {w : World} {p : Nat} {vl : Value} {c0 : Int} (hb : w.heap[p]? = some (.cells #[vl, .slice none 0 0, .int .i64 c0] 83 (0, 0))) :
    RowsL ((((w.alloc (.cells #[.int .u64 0] 84)).setCell ⟨p, 1, none⟩ (.slice (some ⟨w.heap.size, 0, none⟩) 1 1)).setCell ⟨p, 0, none⟩ (.slice none 0 0)).setCell ⟨p, 2, none⟩ (.int .i64 0)) (fun k => k = p ∨ w.heap.size ≤ k) p [] ∧
    Chg (fun k => k = p) w ((((w.alloc (.cells #[.int .u64 0] 84)).setCell ⟨p, 1, none⟩ (.slice (some ⟨w.heap.size, 0, none⟩) 1 1)).setCell ⟨p, 0, none⟩ (.slice none 0 0)).setCell ⟨p, 2, none⟩ (.int .i64 0)) := by
  have hbA := Ow.blk_below hb (below_alloc (Below.refl w.heap.size w) (.cells #[.int .u64 0] 84))
  have hb1 := blk_set hbA 1 (.slice (some ⟨w.heap.size, 0, none⟩) 1 1)
  have hb2 := blk_set hb1 0 (.slice none 0 0)
  have hb3 := blk_set hb2 2 (.int .i64 0)
  have hU : OwU (w.alloc (.cells #[.int .u64 0] 84)) (fun k => k = p ∨ w.heap.size ≤ k) (.slice (some ⟨w.heap.size, 0, none⟩) 1 1) [0] :=
    ⟨Kd.R_of_own (enc := Value.int .u64) (xs := [(0 : Int)]) ⟨rfl, .inr ⟨w.heap.size, 1, #[.int .u64 0], rfl, Nat.zero_le _, heap_alloc_new w _, Nat.le_refl _, by unfold maxLen; omega, rfl, rfl⟩⟩ (fun k hk => by cases hk; exact .inr (Nat.le_refl _))⟩
  refine ⟨⟨[0], ⟨w.heap.size, 1, by simpa using hb3, .inl rfl, ((hU.set hbA (j := 1) _).set hb1 (j := 0) _).set hb2 (j := 2) _⟩, by decide, by decide, Bits.zero⟩, ?_⟩
  exact (((Chg.alloc w _ _).then_ (Chg.setCell _ (p := ⟨p, 1, none⟩) (F := fun k => k = p) rfl _) (fun k h => .inl h)).then_ (Chg.setCell _ (p := ⟨p, 0, none⟩) (F := fun k => k = p) rfl _) (fun k h => .inl h)).then_ (Chg.setCell _ (p := ⟨p, 2, none⟩) (F := fun k => k = p) rfl _) (fun k h => .inl h)
set_option maxHeartbeats 4000000 in
set_option maxRecDepth 100000 in
theorem spread_any (p : Nat) (F : Nat → Prop) (vl : Value) (l : List Int) (c0 : Int) (w : World) (hb : w.heap[p]? = some (.cells #[vl, .slice none 0 0, .int .i64 c0] 83 (0, 0))) (hp : F p) (ho : OwF w F vl l) (hs : Srt l) (hok : ∀ x ∈ l, okN x) (hl : l.length ≤ 16) :
    Calls Tryz.prog 46 #[.pointer (some ⟨p, 0, none⟩)] w fun e w' => e = .returned (.tuple #[]) ∧ RowsL w' (fun k => k = p ∨ w.heap.size ≤ k) p l ∧ Chg (fun k => k = p) w w' := by
  have ht := OwF.tight ho hb (by decide)
  have h0 : w.cell? ⟨p, 0, none⟩ = some vl := blk_cell hb 0
  have hbA := Ow.blk_below hb (below_alloc (Below.refl w.heap.size w) (.cells #[.int .u64 0] 84))
  have y0 : (w.alloc (.cells #[.int .u64 0] 84)).cell? ⟨p, 0, none⟩ = some vl := blk_cell hbA 0
  have y1 : (w.alloc (.cells #[.int .u64 0] 84)).cell? ⟨p, 1, none⟩ = some (.slice none 0 0) := blk_cell hbA 1
  have y2 : (w.alloc (.cells #[.int .u64 0] 84)).cell? ⟨p, 2, none⟩ = some (.int .i64 c0) := blk_cell hbA 2
  have z0 := blk_frozen hbA 0
  have z1 := blk_frozen hbA 1
  have z2 := blk_frozen hbA 2
  have HbA := Aside0.mk hbA
  clear hbA
  have Hb := Aside0.mk hb
  have Ht := Aside0.mk ht
  have Hs := Aside0.mk (And.intro hs hok)
  have Hl := Aside0.mk hl
  obtain ⟨A, c, rfl, hc, hr⟩ := ho.toV
  clear hb ho hs hok hl ht hp hc hr
  have hmk : ∀ W : World, (Instr.makeSlice 81 (.int .i64 1) (.int .i64 1)).run Tryz.prog W = .ok (.slice (some ⟨W.heap.size, 0, none⟩) 1 1) (W.alloc (.cells #[.int .u64 0] 84)) := fun W => by kernel_rfl
  go_enter Tryz.func46, Tryz.ntmps46
  have HS := Aside0.mk (spread_start Hb.out)
  go_wp2_with fail
  go_loopw [4, 21] (fun _ I wr => ∃ i : Nat, I = .int .i64 (i : Int) ∧ i ≤ l.length ∧ Aside0 (RowsL wr (fun k => k = p ∨ w.heap.size ≤ k) p (l.take i)) ∧ Aside0 (Chg (fun k => k = p) w wr)) (fun _ I _ => l.length - (intOf I).toNat)
  case atStart => exact ⟨0, rfl, Nat.zero_le _, ⟨HS.out.1⟩, ⟨HS.out.2⟩⟩
  case round =>
    obtain ⟨i, rfl, hi, HR, HC⟩ := hrel
    by_cases hin : i < l.length
    · have hnb : decide ((i : Int) < (l.length : Int)) = true := decide_eq_true (by omega)
      have hnc : decide (i < l.length) = true := decide_eq_true hin
      obtain ⟨A', c', e', hc', hrr⟩ := (OwF.chg Ht.out HC.out (fun k hk => hk.2.1)).toV
      obtain ⟨rfl, -, rfl⟩ : A = A' ∧ l.length = l.length ∧ c = c' := by cases e'; exact ⟨rfl, rfl, rfl⟩
      obtain ⟨ad, rfl, hx⟩ := hrr.at_ (i : Int) (by omega) (by omega)
      rw [Int.toNat_natCast] at hx
      have i0 : 0 ≤ (i : Int) := by omega
      have i1 : (i : Int) < (l.length : Int) := by omega
      have i2 : (i : Int) ≤ 16 := by have := Hl.out; omega
      have hx2 : rd l (i : Int) = l.getD i 0 := by simp [rd]
      obtain ⟨x, hxx⟩ : ∃ x, l.getD i 0 = x := ⟨_, rfl⟩
      rw [hx2, hxx] at hx
      obtain ⟨m1, m2⟩ := take_ins Hs.out.1 hin
      rw [hxx] at m1 m2
      have hxok : okN x := Hs.out.2 x (by rw [← hxx, List.getD_eq_getElem?_getD, List.getElem?_eq_getElem hin]; exact List.getElem_mem hin)
      have HM := Aside0.mk (And.intro m2 hxok)
      have Hin := Aside0.mk hin
      clear hin hi hx2 hxx m1 m2 hxok e' hc' hrr
      replace i0 := eq_true i0
      replace i1 := eq_true i1
      go_wp2_with fail
      refine (markL_any p _ (l.take i) x _ HR.out HM.out.2 (by have := Hl.out; simp; omega)).mono ?_
      rintro e w1 ⟨rfl, r1, r2⟩
      rw [HM.out.1] at r1
      have HR1 : Aside0 (RowsL w1 (fun k => k = p ∨ w.heap.size ≤ k) p (l.take (i + 1))) := ⟨r1.mono (fun k hk => hk.elim id (fun h => .inr (Nat.le_trans HC.out.size h.1)))⟩
      have HC1 : Aside0 (Chg (fun k => k = p) w w1) := ⟨HC.out.then_ r2 (fun k hk => hk)⟩
      clear r1 r2
      go_wp2_with fail
      go_roundw
      case rel => exact ⟨i + 1, by go_num, Hin.out, HR1, HC1⟩
      case measure => have := Hin.out; simp [intOf]; omega
    · have hnb : decide ((i : Int) < (l.length : Int)) = false := decide_eq_false (by omega)
      have hnc : decide (i < l.length) = false := decide_eq_false hin
      obtain rfl : i = l.length := by omega
      rw [List.take_length] at HR
      clear hin hi
      go_wp2_with fail
      go_end0
      exact ⟨rfl, HR.out, HC.out⟩
end Go.Proofs.YtfgonclaiphoeaaGreatDoor.Se
