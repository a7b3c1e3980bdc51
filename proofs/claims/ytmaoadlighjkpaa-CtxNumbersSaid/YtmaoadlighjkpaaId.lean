/- A table beside nothing else, as the laws use it; the example of the layer. -/
import Derived.Test.YtmaoadlighjkpaaIc
namespace Go.Proofs.Ytmaoadlighjkpaa.In
open Go.RowKit Go.Proofs.YtmaoadlighjkpaaW.PrintWords Go.Proofs.YtmaoadlighjkpaaW.PrintLast Go.Proofs.YtmaoadlighjkpaaW.PrintMore
open Go.Proofs.Ytmaoadlighjkpaa.Base Go.Proofs.Ytmaoadlighjkpaa.Map Go.Proofs.Ytmaoadlighjkpaa.Ca Go.Proofs.Ytmaoadlighjkpaa.Qu Go.Maps
set_option linter.unusedVariables false

theorem id_any (p : Nat) (F : Nat → Prop) (sl : List ByteArray) (tl : List (List Int)) (u : Value) (ns : List Int) (w : World) (h : TabAt w F p sl tl) (hu : RdV w u ns) (hw : ∀ x ∈ ns, (Lit.int .i64 x).wf = true) (hlen : tl.length ≤ 1000000) :
    Calls Try.prog 27 #[.pointer (some ⟨p, 0, none⟩), u] w fun e w' => e = .returned (.int .i64 (idOf tl ns)) ∧ TabAt w' (ext F w w') p sl (idL tl ns) ∧ Chg F w w' := by
  by_cases h8 : 8 < ns.length
  · refine (id_long p F sl tl u ns w h hu h8).mono ?_
    rintro e w' ⟨h1, h2, h3⟩
    unfold idOf idL
    rw [if_pos h8, if_pos (Or.inl h8)]
    exact ⟨h1, h2.mono (fun k hk => .inl hk), Chg.of_below h3 F⟩
  · have hok : tOk ns := ⟨by omega, hw⟩
    by_cases hm : ns ∈ tl
    · refine (id_old p F sl tl u ns w h hu hok hm).mono ?_
      rintro e w' ⟨h1, h2, h3⟩
      unfold idOf idL
      rw [if_neg h8, if_pos (Or.inr hm)]
      exact ⟨h1, h2.mono (fun k hk => .inl hk), Chg.of_below h3 F⟩
    · refine (id_new p F sl tl u ns w h hu hok hm hlen).mono ?_
      rintro e w' ⟨h1, h2, h3⟩
      unfold idOf idL
      rw [if_neg h8, if_neg (by rintro (h | h); exact h8 h; exact hm h)]
      refine ⟨?_, h2, h3⟩
      rw [h1, place_new hm]

/-- A table that the call has made since w0. -/
structure TSt (w0 w : World) (p : Nat) (sl : List ByteArray) (tl : List (List Int)) : Prop where mk :: (out : ∃ F, TabAt w F p sl tl ∧ (∀ k, F k → w0.heap.size ≤ k ∧ k < w.heap.size) ∧ Below w0.heap.size w0 w)
section
variable {w0 w w1 : World} {p : Nat} {sl : List ByteArray} {tl : List (List Int)}
theorem TSt.bel (h : TSt w0 w p sl tl) : Below w0.heap.size w0 w := by obtain ⟨F, _, _, h⟩ := h; exact h
theorem TSt.below (h : TSt w0 w p sl tl) (hb : Below w.heap.size w w1) : TSt w0 w1 p sl tl := by
  obtain ⟨F, h1, h2, h3⟩ := h
  exact ⟨F, h1.below hb, fun k hk => ⟨(h2 k hk).1, Nat.lt_of_lt_of_le (h2 k hk).2 hb.size⟩, below_then h3 h3.size hb⟩
@[simp] theorem TSt.alloc (h : TSt w0 w p sl tl) (o : Obj) : TSt w0 (w.alloc o) p sl tl := h.below (below_alloc (Below.refl _ _) o)
theorem TSt.ext_ {F : Nat → Prop} {sl' : List ByteArray} {tl' : List (List Int)} (h1 : TabAt w1 (ext F w w1) p sl' tl') (hC : Chg F w w1) (h2 : ∀ k, F k → w0.heap.size ≤ k ∧ k < w.heap.size) (h3 : Below w0.heap.size w0 w) : TSt w0 w1 p sl' tl' :=
  ⟨_, h1, fun k hk => hk.elim (fun h => ⟨(h2 k h).1, Nat.lt_of_lt_of_le (h2 k h).2 hC.size⟩) (fun h => ⟨Nat.le_trans h3.size h.1, h.2⟩), h3.trans (hC.below h3.size (fun k hk => (h2 k hk).1))⟩
end
theorem new_ts (w0 w : World) (hb : Below w0.heap.size w0 w) : Calls Try.prog 26 #[] w fun e w' => ∃ p, e = .returned (.pointer (some ⟨p, 0, none⟩)) ∧ TSt w0 w' p [] [] :=
  (new_tab w).mono fun e w' ⟨h1, h2, h3⟩ => ⟨_, h1, ⟨_, h2, fun k hk => ⟨Nat.le_trans hb.size hk.1, hk.2⟩, below_then hb hb.size h3⟩⟩
theorem len_ts (w0 w : World) (p : Nat) (sl : List ByteArray) (tl : List (List Int)) (h : TSt w0 w p sl tl) : Calls Try.prog 28 #[.pointer (some ⟨p, 0, none⟩)] w fun e w' => e = .returned (.int .i64 (tl.length : Int)) ∧ w = w' := by
  obtain ⟨F, h1, _⟩ := h
  exact len_tab p F sl tl w h1
/-- ns read, whatever the table does besides: what is handed in is elder than w0, or the call's own -/
theorem id_ts (w0 w : World) (p : Nat) (sl : List ByteArray) (tl : List (List Int)) (u : Value) (ns : List Int) (h : TSt w0 w p sl tl) (hu : RdV w u ns) (hw : ∀ x ∈ ns, (Lit.int .i64 x).wf = true) (hlen : tl.length ≤ 1000000) :
    Calls Try.prog 27 #[.pointer (some ⟨p, 0, none⟩), u] w fun e w' => e = .returned (.int .i64 (idOf tl ns)) ∧ TSt w0 w' p sl (idL tl ns) := by
  obtain ⟨F, h1, h2, h3⟩ := h
  exact (id_any p F sl tl u ns w h1 hu hw hlen).mono fun e w' ⟨r1, r2, r3⟩ => ⟨r1, TSt.ext_ r2 r3 h2 h3⟩
/-- the same, and a slice that the call has made before it stands -/
theorem id_ts_keep (w0 w : World) (p : Nat) (sl : List ByteArray) (tl : List (List Int)) (u : Value) (ns : List Int) (h : TSt w0 w p sl tl) (hu : RdV w u ns) (hw : ∀ x ∈ ns, (Lit.int .i64 x).wf = true) (hlen : tl.length ≤ 1000000) :
    Calls Try.prog 27 #[.pointer (some ⟨p, 0, none⟩), u] w fun e w' => e = .returned (.int .i64 (idOf tl ns)) ∧ TSt w0 w' p sl (idL tl ns) ∧ Below w0.heap.size w0 w' := by
  exact (id_ts w0 w p sl tl u ns h hu hw hlen).mono fun e w' ⟨r1, r2⟩ => ⟨r1, r2, r2.bel⟩

theorem id_lit (w0 w : World) (p : Nat) (sl : List ByteArray) (tl : List (List Int)) (xs : List Int) (h : TSt w0 w p sl tl) (hw : ∀ x ∈ xs, (Lit.int .i64 x).wf = true) (hlen : tl.length ≤ 1000000) (hl : xs.length ≤ 1000) :
    Calls Try.prog 27 #[.pointer (some ⟨p, 0, none⟩), .slice (some ⟨w.heap.size, 0, none⟩) xs.length xs.length] (w.alloc (.cells (nums .i64 xs).toArray 3)) fun e w' => e = .returned (.int .i64 (idOf tl xs)) ∧ TSt w0 w' p sl (idL tl xs) :=
  id_ts w0 _ p sl tl _ xs (h.alloc _) (OwI.lit w xs (by omega)).toV hw hlen

set_option maxHeartbeats 1000000 in
set_option maxRecDepth 100000 in
theorem awake_in (w : World) : Calls Try.prog 25 #[] w fun e w' => e = .returned (.bool true) ∧ Below w.heap.size w w' := by
  have i1 : idOf [] [1, 2] = 0 := by decide
  have l1 : idL [] [1, 2] = [[1, 2]] := by decide
  have i2 : idOf [[1, 2]] [] = 1 := by decide
  have l2 : idL [[1, 2]] [] = [[1, 2], []] := by decide
  have i3 : idOf [[1, 2], []] [1, 2] = 0 := by decide
  have l3 : idL [[1, 2], []] [1, 2] = [[1, 2], []] := by decide
  have i4 : idOf [[1, 2], []] [2, 1] = 2 := by decide
  have w12 : ∀ x ∈ [(1 : Int), 2], (Lit.int .i64 x).wf = true := by decide
  have w21 : ∀ x ∈ [(2 : Int), 1], (Lit.int .i64 x).wf = true := by decide
  have w00 : ∀ x ∈ ([] : List Int), (Lit.int .i64 x).wf = true := by decide
  go_enter Try.func25, Try.ntmps25
  go_wp2_with fail
  refine (new_ts w w (Below.refl _ _)).mono ?_
  rintro e w1 ⟨p, rfl, h1⟩
  go_wp2_with fail
  refine (id_lit w w1 p [] [] [1, 2] h1 w12 (by decide) (by decide)).mono ?_
  rintro e w2 ⟨rfl, h2⟩
  rw [l1] at h2
  rw [i1]
  go_wp2_with fail
  refine (id_ts w w2 p [] [[1, 2]] _ [] h2 (RdV.nil _) w00 (by decide)).mono ?_
  rintro e w3 ⟨rfl, h3⟩
  rw [l2] at h3
  rw [i2]
  go_wp2_with fail
  refine (id_lit w w3 p [] [[1, 2], []] [1, 2] h3 w12 (by decide) (by decide)).mono ?_
  rintro e w4 ⟨rfl, h4⟩
  rw [l3] at h4
  rw [i3]
  go_wp2_with fail
  refine (id_lit w w4 p [] [[1, 2], []] [2, 1] h4 w21 (by decide) (by decide)).mono ?_
  rintro e w5 ⟨rfl, h5⟩
  rw [i4]
  go_wp2
  go_ret
  exact ⟨rfl, h5.bel⟩
end Go.Proofs.Ytmaoadlighjkpaa.In
