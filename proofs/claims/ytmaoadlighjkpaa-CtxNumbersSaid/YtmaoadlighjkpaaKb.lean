/- ctx.objects: Object; ctx.New: two tables apart. -/
import Derived.Test.YtmaoadlighjkpaaKa
import Derived.BigRegion
import Derived.Test.YtmaoadlighjkpaaQe
import Derived.Laws.ResultCell
namespace Go.Proofs.Ytmaoadlighjkpaa.Kx
open Go.RowKit Go.Proofs.YtmaoadlighjkpaaW.PrintWords Go.Proofs.YtmaoadlighjkpaaW.PrintLast Go.Proofs.YtmaoadlighjkpaaW.PrintMore
open Go.Proofs.Ytmaoadlighjkpaa.Base Go.Proofs.Ytmaoadlighjkpaa.Map Go.Proofs.Ytmaoadlighjkpaa.Ca Go.Proofs.Ytmaoadlighjkpaa.Qu Go.Proofs.Ytmaoadlighjkpaa.In Go.Maps
set_option linter.unusedVariables false

theorem add_nil (a : Addr) : a.add 0 = a := by unfold Addr.add; simp
theorem fr_bel {W w2 : World} {b n : Nat} (h : Below W.heap.size W w2) (hb : W.heap[b]? = some (.cells #[.int .i64 0, .slice none 0 0] 26 (0, 0))) : w2.frozen? ⟨b, n, none⟩ = false := blk_frozen (Qu.blk_below hb h) n

set_option maxHeartbeats 1000000 in
set_option maxRecDepth 100000 in
theorem object_none (p : Nat) (F : Nat → Prop) (sl : List ByteArray) (tl : List (List Int)) (w : World) (h : TabAt w F p sl tl) (id : Int) (hid : tupleOf tl id = []) :
    Calls Try.prog 60 #[.agg #[.pointer (some ⟨p, 0, none⟩)], .int .i64 id] w fun e w' => e = .returned (.tuple #[.agg #[.int .i64 0, .slice none 0 0], .bool false]) ∧ Below w.heap.size w w' := by
  have hb : Below w.heap.size w ((w.alloc (.cells #[.pointer (some ⟨p, 0, none⟩)] 94)).alloc (.cells #[.int .i64 0, .slice none 0 0] 26)) := below_alloc (below_alloc (Below.refl _ _) _) _
  have ht := h.below hb
  have Hid := Aside0.mk hid
  clear hid
  go_enter Try.func60, Try.ntmps60
  go_wp2_with fail
  refine (tuple_tab p F sl tl _ ht id).mono ?_
  rintro e w2 ⟨v, rfl, r1, r2⟩
  rw [Hid.out] at r1
  obtain ⟨A, c, rfl, _, _⟩ := r1.rd
  rw [List.length_nil]
  have hk : w2.cell? ⟨w.heap.size + 1, 0, none⟩ = some (.int .i64 0) := bel_cell r2 (by simp)
  have hk1 : w2.cell? ⟨w.heap.size + 1, 1, none⟩ = some (.slice none 0 0) := bel_cell r2 (by simp)
  have hz := fr_bel (b := w.heap.size + 1) (n := 0) r2 (by simpa using heap_alloc_new (w.alloc (.cells #[.pointer (some ⟨p, 0, none⟩)] 94)) (.cells #[.int .i64 0, .slice none 0 0] 26))
  have hz1 := fr_bel (b := w.heap.size + 1) (n := 1) r2 (by simpa using heap_alloc_new (w.alloc (.cells #[.pointer (some ⟨p, 0, none⟩)] 94)) (.cells #[.int .i64 0, .slice none 0 0] 26))
  have hB := below_then hb (by simp; omega) r2
  clear r1 r2 ht
  go_wp2
  (try simp only [Exit.inBlock, Exit.then])
  refine bodyPost_ret (v := .tuple #[.agg #[.int .i64 0, .slice none 0 0], .bool false]) ?_ rfl ⟨rfl, ?_⟩
  · rw [Go.results_cell_tmp rfl]
    go_simp
  · simp [*]

set_option maxHeartbeats 2000000 in
set_option maxRecDepth 100000 in
theorem object_some (p : Nat) (F : Nat → Prop) (sl : List ByteArray) (tl : List (List Int)) (w : World) (h : TabAt w F p sl tl) (id : Int) (x : Int) (xs : List Int) (hid : tupleOf tl id = x :: xs) :
    Calls Try.prog 60 #[.agg #[.pointer (some ⟨p, 0, none⟩)], .int .i64 id] w fun e w' => ∃ u, e = .returned (.tuple #[.agg #[.int .i64 x, u], .bool true]) ∧ RdV w' u xs ∧ Below w.heap.size w w' := by
  have hb : Below w.heap.size w ((w.alloc (.cells #[.pointer (some ⟨p, 0, none⟩)] 94)).alloc (.cells #[.int .i64 0, .slice none 0 0] 26)) := below_alloc (below_alloc (Below.refl _ _) _) _
  have ht := h.below hb
  have Hid := Aside0.mk hid
  clear hid
  go_enter Try.func60, Try.ntmps60
  go_wp2_with fail
  refine (tuple_tab p F sl tl _ ht id).mono ?_
  rintro e w2 ⟨v, rfl, r1, r2⟩
  rw [Hid.out] at r1
  have hV := r1.toV
  obtain ⟨A, c, rfl, hc, hr⟩ := r1.rd
  obtain ⟨ad, hA, hx0⟩ := hr.at_ 0 (by omega) (by simp)
  subst hA
  rw [show (0 : Int).toNat = 0 from rfl, Go.Proofs.Ytmaoadlighjkpaa.Kx.add_nil] at hx0
  have hx1 : w2.cell? ad = some (.int .i64 x) := hx0
  obtain ⟨A', c', hrun, hread⟩ := cut_from (some ad) c (x :: xs) 1 (by omega) (by simp; omega) hc
  have hst0 := st_own r1 (F := fun k => k < w.heap.size + 2) (fun k hk => by simp; omega)
  have hR := Aside0.mk (show ∀ W, Chg (fun k => k < w.heap.size + 2) w2 W → RdV W (.slice A' ((x :: xs).drop (1 : Int).toNat).length c') ((x :: xs).drop (1 : Int).toNat) from fun W hC => by
    obtain ⟨A2, c2, he, _, hr2⟩ := hst0 W hC
    injection he with e1 _ _
    subst e1
    exact hread W hr2)
  clear hst0
  have hd : (x :: xs).drop (1 : Int).toNat = xs := rfl
  rw [hd] at hrun hR
  obtain ⟨n, hn⟩ : ∃ n, (x :: xs).length = n := ⟨_, rfl⟩
  have hn0 : (0 : Int) < (n : Int) := by rw [← hn]; simp
  have hn1 : 0 < n := by rw [← hn]; simp
  rw [hn] at hrun ⊢
  have hk : w2.cell? ⟨w.heap.size + 1, 0, none⟩ = some (.int .i64 0) := bel_cell r2 (by simp)
  have hk1 : w2.cell? ⟨w.heap.size + 1, 1, none⟩ = some (.slice none 0 0) := bel_cell r2 (by simp)
  have hz := fr_bel (b := w.heap.size + 1) (n := 0) r2 (by simpa using heap_alloc_new (w.alloc (.cells #[.pointer (some ⟨p, 0, none⟩)] 94)) (.cells #[.int .i64 0, .slice none 0 0] 26))
  have hz1 := fr_bel (b := w.heap.size + 1) (n := 1) r2 (by simpa using heap_alloc_new (w.alloc (.cells #[.pointer (some ⟨p, 0, none⟩)] 94)) (.cells #[.int .i64 0, .slice none 0 0] 26))
  have hB := below_then hb (by simp; omega) r2
  have hlt : w.heap.size + 1 < w2.heap.size := Nat.lt_of_lt_of_le (by simp) r2.size
  clear r1 r2 ht hread hV hc hx0 hr hd hn
  go_wp2_with fail
  go_region
  all_goals
    go_wp2
    (try simp only [Exit.inBlock, Exit.then])
    refine bodyPost_ret (v := .tuple #[.agg #[.int .i64 x, .slice A' xs.length c'], .bool true]) ?_ rfl ⟨_, rfl, hR.out _ (((Chg.setCell (F := fun k => k < w.heap.size + 2) w2 (p := ⟨w.heap.size + 1, 0, none⟩) (by simp) _).then_ (Chg.setCell (F := fun k => k < w.heap.size + 2) _ (p := ⟨w.heap.size + 1, 1, none⟩) (by simp) _) (fun k hk => .inl hk)).andBelow (below_drew (Below.refl _ _))), ?_⟩
    · rw [Go.results_cell_tmp rfl]
      go_simp
    · exact below_drew (below_setCell (below_setCell hB (p := ⟨w.heap.size + 1, 0, none⟩) (by simp) _) (p := ⟨w.heap.size + 1, 1, none⟩) (by simp) _)
end Go.Proofs.Ytmaoadlighjkpaa.Kx
