/- intern.Table: Tuple. -/
import Derived.Test.YtmaoadlighjkpaaIk
namespace Go.Proofs.Ytmaoadlighjkpaa.In
open Go.RowKit Go.Proofs.YtmaoadlighjkpaaW.PrintWords Go.Proofs.YtmaoadlighjkpaaW.PrintLast Go.Proofs.YtmaoadlighjkpaaW.PrintMore
open Go.Proofs.Ytmaoadlighjkpaa.Base Go.Proofs.Ytmaoadlighjkpaa.Map Go.Proofs.Ytmaoadlighjkpaa.Ca Go.Proofs.Ytmaoadlighjkpaa.Qu Go.Maps
set_option linter.unusedVariables false

/-- a number's tuple -/
def tupleOf (tl : List (List Int)) (id : Int) : List Int := if 0 ≤ id ∧ id < tl.length then tl.getD id.toNat [] else []

theorem rd_block {w : World} {b : Nat} {ns : List Int} (hb : w.heap[b]? = some (.cells (tupC ns).toArray 122 (0, 0))) (h8 : ns.length ≤ 8) : RdV w (.slice (some ⟨b, 1, none⟩) ns.length 8) ns := by
  refine RdI.toV ⟨Kd.C_of_reads (d := (0 : Int)) (h1 := fun _ => rfl) ⟨rfl, by omega, fun _ => ⟨⟨b, 1, none⟩, rfl, fun j hj => ?_⟩⟩⟩ h8
  have hadd : (⟨b, 1, none⟩ : Addr).add j = ⟨b, j + 1, none⟩ := by rw [Addr.add_lit]; congr 1; omega
  rw [hadd, cell_of_row w b (j + 1) _ 122 (0, 0) hb]
  have hj' : j < ns.length := hj
  simp [tupC, nums, tupN, pad8, List.getElem?_append, hj', show j < 8 by omega]
  omega

/-- the cells of one tuple in the row -/
theorem tup_at {w : World} {A : Option Addr} {tl : List (List Int)} (h : Kd.C kT w A tl.length tl) (i : Nat) (hi : i < tl.length) :
    ∃ ad, A = some ad ∧ tOk (tl.getD i []) ∧ ∀ (j : Nat) (u : Value), (tupC (tl.getD i []))[j]? = some u → w.cell? (ad.add (i * 9 + j)) = some u := by
  obtain ⟨ad, rfl, hat⟩ := h.2.2 (by omega)
  have e : tl[i]? = some (tl.getD i []) := by simp [hi]
  obtain ⟨c, hcl, ⟨rfl, hok⟩, hcc⟩ := hat i _ e
  exact ⟨ad, rfl, hok, hcc⟩
theorem add_more (a : Addr) (k i : Nat) : a.add (k + (i + 1)) = ⟨(a.add k).block, (a.add k).off + (i + 1), none⟩ := by
  unfold Addr.add
  by_cases h : k = 0
  · subst h; simp
  · simp [h]; omega

theorem tup_cells2 (ns : List Int) : ∃ y0 y1 y2 y3 y4 y5 y6 y7 : Int, tupC ns = [Value.int .i64 (ns.length : Int), .int .i64 y0, .int .i64 y1, .int .i64 y2, .int .i64 y3, .int .i64 y4, .int .i64 y5, .int .i64 y6, .int .i64 y7] := by
  match h : pad8 ns, pad8_len ns with
  | [y0, y1, y2, y3, y4, y5, y6, y7], _ => exact ⟨y0, y1, y2, y3, y4, y5, y6, y7, by unfold tupC tupN; rw [h]; rfl⟩

set_option maxHeartbeats 2000000 in
set_option maxRecDepth 100000 in
theorem tuple_tab (p : Nat) (F : Nat → Prop) (sl : List ByteArray) (tl : List (List Int)) (w : World) (h : TabAt w F p sl tl) (id : Int) :
    Calls Try.prog 39 #[.pointer (some ⟨p, 0, none⟩), .int .i64 id] w fun e w' => ∃ v, e = .returned v ∧ OwI w' w.heap.size v (tupleOf tl id) ∧ Below w.heap.size w w' := by
  obtain ⟨vt, vs, mw, mi, fw, fi, hbk, hT, hS, _⟩ := h
  obtain ⟨A, c, rfl, hc, hr⟩ := Kd.R_reads hS
  have c3 := blk_cell hbk 3
  clear hbk hT hS
  by_cases h0 : id < 0
  · have ht : tupleOf tl id = [] := by unfold tupleOf; rw [if_neg (by omega)]
    rw [ht]
    go_enter Try.func39, Try.ntmps39
    go_wp2
    go_ret
    exact ⟨_, rfl, OwI.nil _ _, Below.refl _ _⟩
  · by_cases h1 : id < (tl.length : Int)
    · have ht : tupleOf tl id = tl.getD id.toNat [] := by unfold tupleOf; rw [if_pos (by omega)]
      rw [ht]
      clear ht
      obtain ⟨ad, hA, hok, hat⟩ := tup_at hr id.toNat (by omega)
      subst hA
      generalize tl.getD id.toNat [] = ns at *
      obtain ⟨y0, y1, y2, y3, y4, y5, y6, y7, hl⟩ := tup_cells2 ns
      have k0 : w.cell? (ad.add (id.toNat * 9)) = some (.int .i64 (ns.length : Int)) := hat 0 _ (by rw [hl]; rfl)
      have k1 : w.cell? ⟨(ad.add (id.toNat * 9)).block, (ad.add (id.toNat * 9)).off + 1, none⟩ = some (.int .i64 y0) := (congrArg w.cell? (add_more ad (id.toNat * 9) 0)).symm.trans (hat 1 _ (by rw [hl]; rfl))
      have k2 : w.cell? ⟨(ad.add (id.toNat * 9)).block, (ad.add (id.toNat * 9)).off + 2, none⟩ = some (.int .i64 y1) := (congrArg w.cell? (add_more ad (id.toNat * 9) 1)).symm.trans (hat 2 _ (by rw [hl]; rfl))
      have k3 : w.cell? ⟨(ad.add (id.toNat * 9)).block, (ad.add (id.toNat * 9)).off + 3, none⟩ = some (.int .i64 y2) := (congrArg w.cell? (add_more ad (id.toNat * 9) 2)).symm.trans (hat 3 _ (by rw [hl]; rfl))
      have k4 : w.cell? ⟨(ad.add (id.toNat * 9)).block, (ad.add (id.toNat * 9)).off + 4, none⟩ = some (.int .i64 y3) := (congrArg w.cell? (add_more ad (id.toNat * 9) 3)).symm.trans (hat 4 _ (by rw [hl]; rfl))
      have k5 : w.cell? ⟨(ad.add (id.toNat * 9)).block, (ad.add (id.toNat * 9)).off + 5, none⟩ = some (.int .i64 y4) := (congrArg w.cell? (add_more ad (id.toNat * 9) 4)).symm.trans (hat 5 _ (by rw [hl]; rfl))
      have k6 : w.cell? ⟨(ad.add (id.toNat * 9)).block, (ad.add (id.toNat * 9)).off + 6, none⟩ = some (.int .i64 y5) := (congrArg w.cell? (add_more ad (id.toNat * 9) 5)).symm.trans (hat 6 _ (by rw [hl]; rfl))
      have k7 : w.cell? ⟨(ad.add (id.toNat * 9)).block, (ad.add (id.toNat * 9)).off + 7, none⟩ = some (.int .i64 y6) := (congrArg w.cell? (add_more ad (id.toNat * 9) 6)).symm.trans (hat 7 _ (by rw [hl]; rfl))
      have k8 : w.cell? ⟨(ad.add (id.toNat * 9)).block, (ad.add (id.toNat * 9)).off + 8, none⟩ = some (.int .i64 y7) := (congrArg w.cell? (add_more ad (id.toNat * 9) 7)).symm.trans (hat 8 _ (by rw [hl]; rfl))
      have h8 := hok.1
      have i0 : (0 : Int) ≤ (ns.length : Int) := by omega
      have i1 : (ns.length : Int) ≤ 8 := by omega
      have hbl : ∀ W : World, (W.alloc (.cells #[.int .i64 (ns.length : Int), .int .i64 y0, .int .i64 y1, .int .i64 y2, .int .i64 y3, .int .i64 y4, .int .i64 y5, .int .i64 y6, .int .i64 y7] 122)).heap[W.heap.size]? = some (.cells (tupC ns).toArray 122 (0, 0)) := fun W => by rw [hl]; exact heap_alloc_new _ _
      have Hbl := Aside0.mk hbl
      clear hat hl hbl hok hr
      go_enter Try.func39, Try.ntmps39
      go_wp2_with fail
      refine (clone_any _ ns _ (rd_block (Hbl.out w) h8) (by omega)).mono ?_
      rintro e w1 ⟨v, rfl, h1, h2⟩
      go_wp2
      go_ret
      exact ⟨_, rfl, h1.lower (by simp), below_then (below_alloc (Below.refl w.heap.size w) _) (by simp) h2⟩
    · have ht : tupleOf tl id = [] := by unfold tupleOf; rw [if_neg (by omega)]
      rw [ht]
      go_enter Try.func39, Try.ntmps39
      go_wp2
      go_ret
      exact ⟨_, rfl, OwI.nil _ _, Below.refl _ _⟩
end Go.Proofs.Ytmaoadlighjkpaa.In
