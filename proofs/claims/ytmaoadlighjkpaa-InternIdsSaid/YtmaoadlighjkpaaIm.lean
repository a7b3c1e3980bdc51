/- The document's own table: Find, Id (winnowerref04). -/
import Derived.Test.YtmaoadlighjkpaaIl
import Derived.Test.YtmaoadlighjkpaaCc
namespace Go.Proofs.Ytmaoadlighjkpaa.In
open Go.RowKit Go.Proofs.YtmaoadlighjkpaaW.PrintWords Go.Proofs.YtmaoadlighjkpaaW.PrintLast Go.Proofs.YtmaoadlighjkpaaW.PrintMore
open Go.Proofs.Ytmaoadlighjkpaa.Base Go.Proofs.Ytmaoadlighjkpaa.Map Go.Proofs.Ytmaoadlighjkpaa.Ca Go.Proofs.Ytmaoadlighjkpaa.Qu Go.Maps
set_option linter.unusedVariables false

/-- rows of rows of whole numbers, read -/
abbrev RdR (w : World) (A : Option Addr) (ls : List (List Int)) : Prop := Kd.C (Kd.slice 3 (Kd.int .i64)) w A ls.length ls
theorem RdR.at_ {w : World} {A : Option Addr} {ls : List (List Int)} (h : RdR w A ls) (i : Nat) (hi : i < ls.length) :
    ∃ ad A' c', A = some ad ∧ w.cell? (ad.add i) = some (.slice A' (ls.getD i []).length c') ∧ RdV w (.slice A' (ls.getD i []).length c') (ls.getD i []) := by
  obtain ⟨ad, rfl, hat⟩ := h.2.2 (by omega)
  have e : ls[i]? = some (ls.getD i []) := by simp [hi]
  obtain ⟨c, hcl, ⟨A', c', rfl, hl, hC⟩, hcc⟩ := hat i _ e
  refine ⟨ad, A', c', rfl, ?_, RdI.toV ⟨hC⟩ hl⟩
  have := hcc 0 _ rfl
  simpa [Kd.slice] using this
theorem RdR.below {w w1 : World} {A : Option Addr} {ls : List (List Int)} (h : RdR w A ls) (hb : Below w.heap.size w w1) : RdR w1 A ls := Kd.C_below h hb
theorem RdR.max {w : World} {A : Option Addr} {ls : List (List Int)} (h : RdR w A ls) : ls.length ≤ 9223372036854775807 := Kd.C_max h

/-- where it stands first; -1: nowhere -/
def seekOf (ls : List (List Int)) (ns : List Int) : Int := if ns ∈ ls then (place ls ns : Int) else -1

set_option maxHeartbeats 2000000 in
set_option maxRecDepth 100000 in
theorem refFind_any (r : Nat) (G : Nat → Prop) (ls : List (List Int)) (ss : List ByteArray) (u : Value) (ns : List Int) (w : World) (h : RefAt w G r ls ss) (hu : RdV w u ns) :
    Calls Try.prog 41 #[.pointer (some ⟨r, 0, none⟩), u] w fun e w' => e = .returned (.int .i64 (seekOf ls ns)) ∧ Below w.heap.size w w' := by
  obtain ⟨vL, vT, hb, hL, _⟩ := h
  obtain ⟨A, c, rfl, hc, hr⟩ := Kd.R_reads hL
  have hmax := RdR.max hr
  have hS : ∀ q, seekOf ls ns = q → Aside0 (seekOf ls ns = q) := fun _ h => ⟨h⟩
  obtain ⟨q, hq⟩ : ∃ q, seekOf ls ns = q := ⟨_, rfl⟩
  rw [hq]
  have Hq := Aside0.mk hq
  clear hq hS
  have c0 := blk_cell hb 0
  clear hb hL hc
  go_enter Try.func41, Try.ntmps41
  go_wp2_with fail
  go_loopw [5] (fun i wr => ∃ j : Nat, i = .int .i64 j ∧ j ≤ ls.length ∧ (∀ k (h : k < ls.length), k < j → ls[k] ≠ ns) ∧ Below w.heap.size w wr) (fun i _ => ls.length - (intOf i).toNat)
  case atStart => exact ⟨0, rfl, Nat.zero_le _, fun k _ hk => absurd hk (Nat.not_lt_zero k), Below.refl _ _⟩
  case round =>
    obtain ⟨j, rfl, hj, hn, hB⟩ := hrel
    have d0 : wr.cell? ⟨r, 0, none⟩ = some (.slice A ls.length c) := bel_cell hB c0
    by_cases hlt : j < ls.length
    · obtain ⟨ad, A', c', hA, hx, hrx⟩ := RdR.at_ hr j hlt
      subst hA
      have hx1 := pw_cell_below (w := w) hB hx
      have hrx1 := hrx.below hB
      have hu1 := hu.below hB
      have i0 : (0 : Int) ≤ (j : Int) := by omega
      have i1 : (j : Int) < (ls.length : Int) := by omega
      have hgd : ls.getD j [] = ls[j] := by simp [hlt]
      clear hx hrx
      rw [hgd] at hx1 hrx1
      by_cases he : ls[j] = ns
      · have hp := place_first hlt he hn
        have hm : ns ∈ ls := he ▸ List.getElem_mem hlt
        have hqj : q = (j : Int) := by rw [← Hq.out]; unfold seekOf; rw [if_pos hm, hp]
        subst hqj
        rw [he] at hx1 hrx1
        clear he hm hp
        go_wp2_with fail
        refine (same_any _ _ ns ns _ hrx1 hu1).mono ?_
        rintro e w2 ⟨rfl, h2⟩
        rw [beq_self_eq_true]
        go_wp2
        go_ret
        exact ⟨rfl, bel_trans hB h2⟩
      · have hstep : ∀ k (hk : k < ls.length), k < j + 1 → ls[k] ≠ ns := fun k hk hkj => by
          rcases Nat.lt_or_ge k j with h1 | h1
          · exact hn k hk h1
          · obtain rfl : k = j := by omega
            exact he
        generalize ls[j] = y at *
        have hne : (y == ns) = false := beq_eq_false_iff_ne.2 he
        go_wp2_with fail
        refine (same_any _ _ y ns _ hrx1 hu1).mono ?_
        rintro e w2 ⟨rfl, h2⟩
        rw [hne]
        have hB2 := bel_trans hB h2
        go_wp2_with fail
        go_roundw
        case rel => exact ⟨j + 1, by go_num, by omega, hstep, hB2⟩
        case measure => simp [intOf]; omega
    · obtain rfl : j = ls.length := by omega
      have hqj : q = -1 := by
        rw [← Hq.out]; unfold seekOf
        rw [if_neg (fun hm => by
          obtain ⟨k, hk, he⟩ := List.getElem_of_mem hm
          exact hn k hk hk he)]
      subst hqj
      go_wp2
      go_ret
      exact ⟨rfl, hB⟩

theorem info22 : (Try.prog.info? 22).map (fun i => (i.zero, i.size, i.bytes)) = some (some (.slice none 0 0), 1, 24) := by kernel_rfl

section
variable {ops : Array Oper} {o : Oper} {a : Act} {Q : Exit → Act → World → Prop} {Kc : Act → World → Prop}
/-- append(L, x): x a row of the call's own, made at base or later; L's own row is elder -/
theorem rowApp_step {W : World} (base : Nat) (hw : Region.wanted o (yielded ops a.tmps) = true) (s x : Operand)
    (ho : o.op = .call { callee := .builtin .append, args := #[s, x], argTypes := #[47, 47] }) (v vi : Value) (F : Nat → Prop) (ls : List (List Int)) (ns : List Int) (b : Nat)
    (hs : a.eval s = v) (hx : a.eval x = .slice (some ⟨b, 0, none⟩) 1 1) (HS : Kd.R (Kd.slice 3 (Kd.int .i64)) 22 W 0 F v ls) (hF : ∀ k, F k → k < base) (HI : OwI W base vi ns) (hb : W.cell? ⟨b, 0, none⟩ = some vi) (hbs : base ≤ W.heap.size) (hl : ls.length ≤ 1000000)
    (h : ∀ v1 w1, Kd.R (Kd.slice 3 (Kd.int .i64)) 22 w1 0 (fun k => F k ∨ (base ≤ k ∧ k < w1.heap.size)) v1 (ls ++ [ns]) → Chg F W w1 → W.grownBy w1 v.ownBlock → Kc (a.put o.dst v1) w1) :
    if Region.wanted o (yielded ops a.tmps) = true then Oper.wp Try.prog o a W Kc Q else Kc (a.put o.dst undef) W := by
  obtain ⟨A, c, hv0⟩ : ∃ A c, v = .slice A ls.length c := Kd.R_slice HS
  have HS' : Kd.R (Kd.slice 3 (Kd.int .i64)) 22 W 0 (fun k => F k ∨ base ≤ k) v ls := Kd.R_mono HS (fun k hk => .inl hk)
  have HI' := Kd.R_lower (Kd.R_bound HI.out) (Nat.zero_le base)
  · refine Kd.R_append_rows_step (Kd.slice 3 (Kd.int .i64)) (Rr := fun l cs => l = ns ∧ cs = [vi]) (w0 := W) 0 hw s x 47 22 _ 24 ho Try.underlying47 info22 rfl (by decide) (by decide) v ls [ns] (some ⟨b, 0, none⟩) 1 1 (fun k => F k ∨ base ≤ k) (fun k => True ∧ base ≤ k ∧ k < W.heap.size ∧ ∃ q, q ∈ 3 :: (Kd.int .i64).E ∧ ∃ cells, W.heap[k]? = some (.cells cells q (0, 0))) hs hx HS'
      ⟨rfl, by omega, fun _ => ⟨_, rfl, fun j p hj => ⟨[vi], rfl, ?_, fun i u hu => ?_⟩⟩⟩ (fun l cs hk => by obtain ⟨rfl, rfl⟩ := hk; exact ⟨vi, rfl, HI'⟩) (fun k hk => ⟨.inr hk.2.1, fun e => ?_⟩) (fun k hk => .inr (by omega)) (Below.refl _ _) (Nat.zero_le _) (by omega) ?_
    · have : p = ns := by
        have : j = 0 := by have := (List.getElem?_eq_some_iff.1 hj).1; simp at this; omega
        subst this; simpa using hj.symm
      subst this; exact ⟨rfl, rfl⟩
    · have : j = 0 := by have := (List.getElem?_eq_some_iff.1 hj).1; simp at this; omega
      subst this
      have hi : i = 0 := by have := (List.getElem?_eq_some_iff.1 hu).1; simp at this; omega
      subst hi
      have hu2 : u = vi := by simpa using hu.symm
      subst hu2
      simpa [Addr.add] using hb
    · have := hF k (HS.1 k e.symm)
      omega
    · intro v1 w1 hR hB hg hat
      exact h v1 w1 (Kd.R_mono (Kd.R_bound hR) (fun k hk => hk.1.elim .inl (fun h => .inr ⟨h, hk.2.2.1⟩))) (Chg.of_grown hg (fun k hk => HS.1 k hk)) hg
end

theorem ref_pushed {w w1 W w4 : World} {G : Nat → Prop} {r : Nat} {ls ls' : List (List Int)} {ss : List ByteArray} {vL vT v4 : Value}
    (hB1 : Below w.heap.size w w1) (hBW : Below w1.heap.size w1 W) (hb : W.heap[r]? = some (.cells #[vL, vT] 58 (0, 0)))
    (hL : Kd.R (Kd.slice 3 (Kd.int .i64)) 22 W 0 G vL ls) (hT : Kd.R Kd.string 9 W 0 G vT ss) (hG : G r)
    (hR4 : Kd.R (Kd.slice 3 (Kd.int .i64)) 22 w4 0 (fun k => G k ∨ (w1.heap.size ≤ k ∧ k < w4.heap.size)) v4 ls') (hC4 : Chg G W w4) (hg4 : W.grownBy w4 vL.ownBlock) :
    RefAt (w4.setCell ⟨r, 0, none⟩ v4) (ext G w (w4.setCell ⟨r, 0, none⟩ v4)) r ls' ss ∧ Chg G w (w4.setCell ⟨r, 0, none⟩ v4) := by
  have hb4 := blk_grown hb hg4 (Kd.R_ne hL hb (by decide))
  have hT3 := Kd.R_over hT hL (fun q hq => by rcases List.mem_cons.1 hq with rfl | hq; decide; cases hq) hg4
  have hT4 := Kd.R_set hT3 hb4 (fun q hq => by rcases List.mem_cons.1 hq with rfl | hq; decide; cases hq) 0 v4
  have hL4 := Kd.R_set hR4 hb4 (fun q hq => by rcases List.mem_cons.1 hq with rfl | hq; decide; rcases List.mem_cons.1 hq with rfl | hq; decide; cases hq) 0 v4
  have hBW' : Below w.heap.size w W := bel_trans hB1 hBW
  refine ⟨⟨v4, vT, blk_set hb4 0 v4, Kd.R_mono hL4 (fun k hk => ?_), Kd.R_mono hT4 (fun k hk => .inl hk), .inl hG⟩, ?_⟩
  · rcases hk with hk | hk
    · exact .inl hk
    · exact .inr ⟨Nat.le_trans hB1.size hk.1, by simpa [World.setCell] using hk.2⟩
  · exact ((Chg.of_below hBW' G).then_ hC4 (fun k hk => .inl hk)).then_ (Chg.setCell w4 (p := ⟨r, 0, none⟩) hG v4) (fun k hk => .inl hk)
theorem seek_neg {ls : List (List Int)} {ns : List Int} (h : ns ∉ ls) : seekOf ls ns = -1 := by unfold seekOf; rw [if_neg h]
theorem seek_pos {ls : List (List Int)} {ns : List Int} (h : ns ∈ ls) : seekOf ls ns = (place ls ns : Int) := by unfold seekOf; rw [if_pos h]

set_option maxHeartbeats 4000000 in
set_option maxRecDepth 100000 in
theorem refId_any (r : Nat) (G : Nat → Prop) (ls : List (List Int)) (ss : List ByteArray) (u : Value) (ns : List Int) (w : World) (h : RefAt w G r ls ss) (hG : ∀ k, G k → k < w.heap.size) (hu : RdV w u ns) (hlen : ls.length ≤ 1000000) :
    Calls Try.prog 38 #[.pointer (some ⟨r, 0, none⟩), u] w fun e w' => e = .returned (.int .i64 (idOf ls ns)) ∧ RefAt w' (ext G w w') r (idL ls ns) ss ∧ Chg G w w' := by
  have hu0 := hu
  obtain ⟨U, cU, rfl, hcU, hrU⟩ := hu
  have HcU := Aside0.mk hcU
  by_cases h8 : (8 : Int) < ns.length
  · have e1 : idOf ls ns = -1 := by unfold idOf; rw [if_pos (by omega)]
    have e2 : idL ls ns = ls := by unfold idL; rw [if_pos (Or.inl (by omega))]
    rw [e1, e2]
    go_enter Try.func38, Try.ntmps38
    go_wp2
    go_ret
    exact ⟨rfl, h.mono (fun k hk => .inl hk), Chg.refl G _⟩
  · by_cases hm : ns ∈ ls
    · have e1 : idOf ls ns = (place ls ns : Int) := by unfold idOf; rw [if_neg (by omega)]
      have e2 : idL ls ns = ls := by unfold idL; rw [if_pos (Or.inr hm)]
      rw [e1, e2]
      have hq := seek_pos hm
      generalize place ls ns = q at *
      have q0 : ¬ (q : Int) < 0 := by omega
      go_enter Try.func38, Try.ntmps38
      go_wp2_with fail
      refine (refFind_any r G ls ss _ ns _ h hu0).mono ?_
      rintro e w1 ⟨rfl, h1⟩
      rw [hq]
      go_wp2
      go_ret
      exact ⟨rfl, (h.below h1).mono (fun k hk => .inl hk), Chg.of_below h1 G⟩
    · have e1 : idOf ls ns = (ls.length : Int) := by unfold idOf; rw [if_neg (by omega), place_new hm]
      have e2 : idL ls ns = ls ++ [ns] := by unfold idL; rw [if_neg (by rintro (h | h); omega; exact hm h)]
      rw [e1, e2]
      have hq := seek_neg hm
      go_enter Try.func38, Try.ntmps38
      go_wp2_with fail
      refine (refFind_any r G ls ss _ ns _ h hu0).mono ?_
      rintro e w1 ⟨rfl, h1⟩
      rw [hq]
      have hB1 := Aside0.mk h1
      have h2 := h.below h1
      have hu1 := hu0.below h1
      have hG1 : ∀ k, G k → k < w1.heap.size := fun k hk => Nat.lt_of_lt_of_le (hG k hk) h1.size
      obtain ⟨vL, vT, hb, hL, hT, hGr⟩ := h2
      obtain ⟨A, c, rfl, hc, hr⟩ := Kd.R_reads hL
      have c0 := blk_cell hb 0
      have z0 := blk_frozen hb 0
      have Hb := Aside0.mk hb
      have HL := Aside0.mk hL
      have HT := Aside0.mk hT
      have HC := Aside0.mk hc
      clear hb hL hT hr h hm h1 hc hcU
      go_wp2_with fail
      go_region_law (first | (refine app_row_step (w0 := w1) w1.heap.size (by rfl) (.tmp 25) (.tmp 26) (by rfl) (.slice none 0 0) _ [] ns (by rfl) (by rfl) (OwI.nil _ _) hu1.drew (below_drew (Below.refl _ _)) (by simp) (by simp; omega) ?_; intro v3 w3 H3 HB3 hg3 hat3; rw [List.nil_append] at H3; obtain ⟨A3, c3, rfl, hc3, hr3⟩ := H3.rd; clear hc3 hr3; have Hb3 := Aside0.mk (Qu.blk_below Hb.out HB3); have HL3 := Aside0.mk (Kd.R_below HL.out HB3); have HT3 := Aside0.mk (Kd.R_below HT.out HB3); have d0 : w3.cell? ⟨r, 0, none⟩ = some (.slice A ls.length c) := blk_cell Hb3.out 0; have d0a : (w3.alloc (.cells #[.slice A3 ns.length c3] 22)).cell? ⟨r, 0, none⟩ = some (.slice A ls.length c) := bel_cell (below_alloc (Below.refl _ _) _) d0; have H3o := Aside0.mk H3; have HB3o := Aside0.mk HB3; clear H3 HB3 hg3 hat3) | (refine rowApp_step (W := w3.alloc (.cells #[.slice A3 ns.length c3] 22)) w1.heap.size (by rfl) (.tmp 24) (.tmp 28) (by rfl) (.slice A ls.length c) (.slice A3 ns.length c3) G ls ns w3.heap.size (by rfl) (by rfl) (Kd.R_below HL3.out (below_alloc (Below.refl _ _) _)) hG1 (H3o.out.alloc _) (by simp) (Nat.le_trans HB3o.out.size (by simp)) hlen ?_; intro v4 w4 hR4 hC4 hg4; obtain ⟨A4, c4, hv4, _, _⟩ := Kd.R_reads hR4; obtain ⟨n4, hn4⟩ : ∃ n, (ls ++ [ns]).length = n := ⟨_, rfl⟩; rw [hn4] at hv4; subst hv4; have hbb := Qu.blk_below Hb3.out (below_alloc (Below.refl _ _) (.cells #[.slice A3 ns.length c3] 22)); have hne := Kd.R_ne (g := r) (Kd.R_below HL3.out (below_alloc (Below.refl _ _) (.cells #[.slice A3 ns.length c3] 22))) hbb (by decide); have hb4 := Aside0.mk (blk_grown hbb hg4 hne); have z4 : w4.frozen? ⟨r, 0, none⟩ = false := blk_frozen hb4.out 0; have e4 : w4.cell? ⟨r, 0, none⟩ = some (.slice A ls.length c) := blk_cell hb4.out 0; have HR4 := Aside0.mk hR4; have HC4 := Aside0.mk hC4; have Hg4 := Aside0.mk hg4; clear hR4 hC4 hg4 hbb hne hn4))
      all_goals (go_wp2; go_ret)
      all_goals exact ⟨rfl, ref_pushed hB1.out (below_then HB3o.out HB3o.out.size (below_alloc (Below.refl _ _) _)) (Qu.blk_below Hb3.out (below_alloc (Below.refl _ _) _)) (Kd.R_below HL3.out (below_alloc (Below.refl _ _) _)) (Kd.R_below HT3.out (below_alloc (Below.refl _ _) _)) hGr HR4.out HC4.out Hg4.out⟩
end Go.Proofs.Ytmaoadlighjkpaa.In
