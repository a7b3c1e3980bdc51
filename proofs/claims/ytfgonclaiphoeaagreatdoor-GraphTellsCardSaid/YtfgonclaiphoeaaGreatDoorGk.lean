/- graph.Fields. -/
import Derived.Test.YtfgonclaiphoeaaGreatDoorGj
import Derived.Maps.RangeWalk
namespace Go.Proofs.YtfgonclaiphoeaaGreatDoor.Gr
set_option linter.unusedVariables false
open Go.RowKit Go.Proofs.YtfgonclaiphoeaaGreatDoorW.PrintWords Go.Proofs.YtfgonclaiphoeaaGreatDoorW.PrintLast Go.Proofs.YtfgonclaiphoeaaGreatDoorW.PrintMore Go.Maps
open Go.Proofs.YtfgonclaiphoeaaGreatDoor.Base Go.Proofs.YtfgonclaiphoeaaGreatDoor.Map Go.Proofs.YtfgonclaiphoeaaGreatDoor.Sl Go.Proofs.YtfgonclaiphoeaaGreatDoor.Ow Go.Proofs.YtfgonclaiphoeaaGreatDoor.Se

section
variable {ops : Array Oper} {rest : List Oper} {o : Oper} {a : Act} {Q : Exit → Act → World → Prop}
theorem appFg {W : World} {G : Nat → Prop} (hgd : o.guard = none) (s x : Operand)
    (ho : o.op = .call { callee := .builtin .append, args := #[s, x], argTypes := #[26, 26] })
    (v u : Value) (xs ys : List Int) (hs : a.eval s = v) (hx : a.eval x = u)
    (HO : OwF W G v xs) (HR : RdV W u ys) (hl : (xs.length + ys.length) * 8 ≤ 140737488355328)
    (h : ∀ v1 w1, OwF w1 (ext G W w1) v1 (xs ++ ys) → Chg G W w1 → W.grownBy w1 v.ownBlock → wpList Tryz.prog ops Q rest (a.put o.dst v1) w1) :
    wpList Tryz.prog ops Q (o :: rest) a W := by
  obtain ⟨A, c, hu, _, HR⟩ := HR
  exact Kd.R_append_row (Value.int .i64) (0 : Int) (h1 := fun _ => rfl) (w0 := W) 0 hgd s x 26 3 (.int .i64 0) 8 ho Tryz.underlying26 info3 rfl (by decide) v xs ys A _ c (fun k => G k ∨ W.heap.size ≤ k) hs (hx.trans hu) (fun _ hk => .inr hk) (Kd.R_mono HO.out (fun k hk => .inl hk)) HR.out (Below.refl _ _) (Nat.zero_le _) hl
    (fun v1 w1 ho hb hg hat => h v1 w1 ⟨Kd.R_mono (Kd.R_bound ho) (fun k hk => hk.1.elim .inl (fun h => .inr ⟨h, hk.2.2.1⟩))⟩ (Chg.of_grown hg (fun k hk => HO.out.1 k hk)) hg)
end
/-- owned by blocks that are new: made by the call -/
theorem OwF.own {w : World} {F : Nat → Prop} {base : Nat} {v : Value} {l : List Int} (h : OwF w F v l) (hF : ∀ k, F k → base ≤ k) : OwI w base v l :=
  ⟨Kd.R_mono (Kd.R_raise (b := 0) (b' := base) (fun _ _ _ _ h => h) h.out (fun k hk => hF k (h.out.1 k hk))) (fun _ _ => trivial)⟩
/-- what has been gathered of all objects' fields -/
structure FAll (E : List GE) (fb : Lit → Option Value) (left : Lit → Bool) (acc : List Int) : Prop where
  a : ∀ f ∈ acc, ∃ x y, (x, f, y) ∈ E
  c : ∀ x, ok64 x → (fb (.int .i64 x)).isSome → left (.int .i64 x) = true ∨ ∀ f ∈ fieldsG E [x], f ∈ acc
theorem FAll.step {E : List GE} {fb : Lit → Option Value} {left : Lit → Bool} {acc : List Int} (h : FAll E fb left acc) (x : Int) : FAll E fb (fun z => left z && !z.sameKey (.int .i64 x)) (acc ++ fieldsG E [x]) := by
  refine ⟨fun f hf => ?_, fun y hy hs => ?_⟩
  · rcases List.mem_append.1 hf with hf | hf
    · exact h.a f hf
    · obtain ⟨t, ht⟩ := mem_fields1.1 hf; exact ⟨x, t, ht⟩
  · rcases h.c y hy hs with h1 | h1
    · by_cases e : y = x
      · subst e; exact .inr fun f hf => List.mem_append.2 (.inr hf)
      · left
        rw [h1]
        have : (Lit.int .i64 y).sameKey (.int .i64 x) = false := by simp [Lit.sameKey, e]
        rw [this]; rfl
    · exact .inr fun f hf => List.mem_append.2 (.inl (h1 f hf))
theorem FAll.done {E : List GE} {fb : Lit → Option Value} {left : Lit → Bool} {acc : List Int} (h : FAll E fb left acc) (hl : ∀ kl, left kl = false) (hE : ∀ x f y, (x, f, y) ∈ E → ok64 x) (hfb : ∀ x, ok64 x → fieldsG E [x] ≠ [] → (fb (.int .i64 x)).isSome) : srtL acc = fieldsG E [] := by
  refine srt_ext (srt_srtL _) (srt_fieldsG _ _) fun f => ?_
  rw [mem_srtL, mem_fieldsG]
  constructor
  · intro hf
    obtain ⟨x, y, hxy⟩ := h.a f hf
    exact ⟨x, y, hxy, .inl rfl⟩
  · rintro ⟨x, y, hxy, _⟩
    have hm : f ∈ fieldsG E [x] := mem_fields1.2 ⟨y, hxy⟩
    rcases h.c x (hE x f y hxy) (hfb x (hE x f y hxy) (fun e => by rw [e] at hm; cases hm)) with h1 | h1
    · rw [hl] at h1; cases h1
    · exact h1 f hm
theorem srt_compact (l : List Int) : Lib.compact (sortL l) = srtL l := compact_sort l
set_option maxHeartbeats 8000000 in
set_option maxRecDepth 100000 in
theorem fields_none (p : Nat) (T : List ByteArray) (E : List GE) (A : Option Addr) (c : Nat) (w : World) (h : GA w p T E) (hE : ∀ x f y, (x, f, y) ∈ E → ok64 x) (hl : E.length ≤ 1000) :
    Calls Tryz.prog 17 #[.pointer (some ⟨p, 0, none⟩), .slice A 0 c] w fun e w' => ∃ v, e = .returned v ∧ OwI w' w.heap.size v (fieldsG E []) ∧ Below w.heap.size w w' := by
  obtain ⟨lab, vT, mn, mb, fn, fb, cn, cb, g⟩ := h
  have c2 : w.cell? ⟨p, 2, none⟩ = some (.map (some mb)) := blk_cell g.blk 2
  have hmlt : mb < w.heap.size := g.by_.lt
  obtain ⟨D, hown, hsz, hhas, hat⟩ := g.by_
  have HG := Aside0.mk g
  have HH := Aside0.mk (And.intro hhas hat)
  have HE := Aside0.mk (And.intro hE hl)
  have Hm := Aside0.mk hmlt
  have Hsz := Aside0.mk (show Maps.size D * E.length ≤ 1000000 from by
    rw [hsz]
    have := g.tail.2.2
    exact Nat.mul_le_mul (Nat.le_trans this hl) hl)
  have Hown := Aside0.mk hown
  clear g hE hl hmlt hsz hhas hat hown
  go_enter Tryz.func17, Tryz.ntmps17
  go_wp2_with (first
    | (at_range; refine wpList_range_own _ rfl _ 48 rfl 3 26 law3 Tryz.underlying48 tokR mb cb D rfl Hown.out ?_; intro w0 hrg0 hg0 hs0)
    | go_in)
  go_frame
  have HB0 : Aside0 (Below w.heap.size w w0) := ⟨hg0.os, hg0.tape, hg0.output, hg0.size, fun k hk => hg0.block k hk (by simp)⟩
  have Hs0 := Aside0.mk hs0
  have HR0 := Aside0.mk hrg0
  clear hg0 hs0 hrg0
  go_loopw [5, 7] (fun V _ wr => ∃ (left : Lit → Bool) (cnt : Nat) (acc : List Int) (G : Nat → Prop), Aside0 (wr.ranges Tryz.prog 3 tokR mb w.heap.size cb D left cnt) ∧ Aside0 (OwF wr G V acc) ∧ Aside0 (∀ k, G k → w.heap.size < k) ∧ Aside0 (FAll E fb left acc) ∧ Aside0 (∀ kl, left kl = true → (fb kl).isSome) ∧ Aside0 (acc.length + cnt * E.length ≤ 1000000) ∧ Aside0 (Below w.heap.size w wr))
    (fun _ _ wr => wr.rangeLeft mb w.heap.size)
  case atStart => exact ⟨_, _, [], fun _ => False, HR0, ⟨OwF.nil _ _⟩, ⟨fun k hk => hk.elim⟩, ⟨(fun f hf => by cases hf), fun x hx hs => .inl ((HH.out.1 _).trans hs)⟩, ⟨fun kl hk => (HH.out.1 kl).symm.trans hk⟩, ⟨by have := Hsz.out; simp; omega⟩, HB0⟩
  case round =>
    obtain ⟨left, cnt, acc, G, HR, HO, HGb, HF, HL, HLen, HB⟩ := hrel
    go_wp2_with (first
      | (at_next; refine wpList_next_ranges (α := Int) (β := Value) _ rfl _ rfl 3 law3 tokR (Value.int .i64) id (fun key kl hkey => by obtain ⟨x, rfl, _⟩ := Maps.keyOf_int_inv Tryz.underlying3 hkey; exact ⟨x, rfl⟩) (fun v y hv => ⟨v, rfl⟩) mb w.heap.size cb _ _ _ rfl HR.out ?_ ?_)
      | go_in)
    · intro _ hl0
      have HD := Aside0.mk (HF.out.done hl0 HE.out.1 (fun x hx hn => by
        obtain ⟨v, e1, _⟩ := ((HG.out.fields x hx).2.1 hn)
        rw [e1]; rfl))
      clear hl0
      go_wp2_with fail
      refine wp_loop_rounds 1 ?_
      rw [rounds_succ]
      go_wp2_with fail
      refine (sort_own _ acc G _ HO.out (by have := HLen.out; omega)).mono ?_
      rintro e w2 ⟨rfl, r1, r2⟩
      have HO2 := Aside0.mk r1
      have HB2 := Aside0.mk (show Below w.heap.size w w2 from ((Chg.of_below HB.out (fun _ => False)).then_ r2 (fun k hk => .inr (Nat.le_of_lt (HGb.out k hk)))).below (Nat.le_refl _) (fun k hk => hk.elim))
      clear r1 r2
      go_wp2_with fail
      refine (compact_own _ _ G w2 HO2.out).mono ?_
      rintro e w3 ⟨v3, rfl, r1, r2⟩
      rw [srt_compact, HD.out] at r1
      have HO3 := Aside0.mk (OwF.own r1 (base := w.heap.size) (fun k hk => Nat.le_of_lt (HGb.out k hk)))
      have HB3 := Aside0.mk (show Below w.heap.size w w3 from ((Chg.of_below HB2.out (fun _ => False)).then_ r2 (fun k hk => .inr (Nat.le_of_lt (HGb.out k hk)))).below (Nat.le_refl _) (fun k hk => hk.elim))
      clear r1 r2
      go_wp2_with fail
      go_ret
      exact ⟨_, rfl, HO3.out, HB3.out⟩
    · intro x c1 kl y ps w1 cnt1 hkey hlx hy hat hrg1 hlt hg1 hs1 hen
      obtain ⟨x', ex, rfl, hwx⟩ := Maps.keyOf_int_inv Tryz.underlying3 hkey
      cases ex
      have hrd : RdV w c1 (fieldsG E [x]) := by
        have h1 := HL.out _ hlx
        obtain ⟨v0, hv0⟩ := Option.isSome_iff_exists.1 h1
        have h2 := HH.out.2 _ _ hv0 (.held v0)
        rw [hat] at h2
        have h3 : y = .held c1 := by
          simp only [tokR, Option.some.injEq, Prod.mk.injEq] at hy
          exact hy.1.symm
        rw [h3] at h2
        cases h2
        obtain ⟨-, r1, r2⟩ := HG.out.fields x hwx
        by_cases hB : fieldsG E [x] = []
        · rw [r2 hB] at hv0; cases hv0
        · obtain ⟨v, e1, e2⟩ := r1 hB
          rw [hv0] at e1; cases e1
          exact e2.toV
      have hB1 : Below w.heap.size w w1 := ((Chg.of_below HB.out (fun _ => False)).then_ (Chg.of_grown hg1 (F := fun k => k = w.heap.size) (fun k hk => by cases hk; rfl)) (fun k hk => .inr (by rw [hk]; exact Nat.le_refl _))).below (Nat.le_refl _) (fun k hk => hk.elim)
      have HB1 := Aside0.mk hB1
      have HRd := Aside0.mk (hrd.below hB1)
      have HR1 := Aside0.mk hrg1
      have HO1 := Aside0.mk (HO.out.chg (Chg.of_grown hg1 (F := fun k => k = w.heap.size) (fun k hk => by cases hk; rfl)) (fun k hk e => by have := HGb.out k hk; omega))
      have HF1 := Aside0.mk (HF.out.step x)
      have HL1 := Aside0.mk (show ∀ kl, (left kl && !kl.sameKey (.int .i64 x)) = true → (fb kl).isSome from fun kl hk => HL.out kl (by simp at hk; exact hk.1))
      have hfl := fields_len E [x]
      have Hlen1 := Aside0.mk (show (acc ++ fieldsG E [x]).length + cnt1 * E.length ≤ 1000000 from by
        have h1 := HLen.out
        have h2 : (cnt1 + 1) * E.length ≤ cnt * E.length := Nat.mul_le_mul_right _ hlt
        rw [Nat.succ_mul] at h2
        rw [List.length_append]; omega)
      have Hcnt := Aside0.mk (show wr.rangeLeft mb w.heap.size = cnt ∧ cnt1 < cnt from ⟨HR.out.left_eq, hlt⟩)
      clear hkey hlx hy hat hrg1 hlt hg1 hs1 hrd hB1 hfl hwx
      go_wp2_with (first
        | (at_builtin; refine appFg (G := G) rfl (.tmp 22) (.tmp 23) rfl _ _ acc (fieldsG E [x]) rfl rfl HO1.out HRd.out (by have := Hlen1.out; rw [List.length_append] at this; omega) ?_; intro v2 w2 ho2 hc2 hgr2)
        | go_in)
      have HR2 := Aside0.mk (HR1.out.kept hgr2 (fun e => by have := HGb.out mb (HO1.out.out.1 mb e.symm); have := Hm.out; omega) (fun e => by have := HGb.out w.heap.size (HO1.out.out.1 _ e.symm); omega))
      have hB2 : Below w.heap.size w w2 := ((Chg.of_below HB1.out (fun _ => False)).then_ hc2 (fun k hk => .inr (Nat.le_of_lt (HGb.out k hk)))).below (Nat.le_refl _) (fun k hk => hk.elim)
      have HB2 := Aside0.mk hB2
      have HG2 := Aside0.mk (show ∀ k, ext G w1 w2 k → w.heap.size < k from fun k hk => hk.elim (HGb.out k) (fun h => by have h1 := h.1; have h2 := HR1.out.lt; omega))
      have HO2 := Aside0.mk ho2
      clear ho2 hc2 hgr2 hB2
      go_roundw
      case rel => exact ⟨_, cnt1, _, _, HR2, HO2, HG2, HF1, HL1, Hlen1, HB2⟩
      case measure => rw [HR2.out.left_eq, Hcnt.out.1]; exact Hcnt.out.2
end Go.Proofs.YtfgonclaiphoeaaGreatDoor.Gr
