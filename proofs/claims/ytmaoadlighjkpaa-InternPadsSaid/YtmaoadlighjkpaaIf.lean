/- InternPads, walked. -/
import Derived.Test.YtmaoadlighjkpaaIe
namespace Go.Proofs.Ytmaoadlighjkpaa.In
open Go.RowKit Go.Proofs.YtmaoadlighjkpaaW.PrintWords Go.Proofs.YtmaoadlighjkpaaW.PrintLast Go.Proofs.YtmaoadlighjkpaaW.PrintMore
open Go.Proofs.Ytmaoadlighjkpaa.Base Go.Proofs.Ytmaoadlighjkpaa.Map Go.Proofs.Ytmaoadlighjkpaa.Ca Go.Proofs.Ytmaoadlighjkpaa.Qu Go.Maps
set_option linter.unusedVariables false

theorem own_grown_below {w w1 w2 : World} {base : Nat} {v : Value} {l : List Int} (hb : Below base w w1) (ho : OwI w1 base v l) (hbase : base ≤ w1.heap.size) (hg : w1.grownBy w2 v.ownBlock) : Below base w w2 :=
  hb.trans ((Chg.of_grown (F := fun k => base ≤ k) hg (fun k hk => own_base (Kd.own_of_R ho.out) k hk)).below hbase (fun k hk => hk))
theorem pads_facts (ns : List Int) (z : Nat) (h8 : ns.length ≤ 8) (hz : 0 < z) : idOf [] ns = 0 ∧ idL [] ns = [ns] ∧ idOf [ns] ns = 0 ∧
    (8 < ns.length + z → idOf [ns] (ns ++ List.replicate z 0) = -1 ∧ idL [ns] (ns ++ List.replicate z 0) = [ns]) ∧
    (ns.length + z ≤ 8 → idOf [ns] (ns ++ List.replicate z 0) = 1 ∧ idL [ns] (ns ++ List.replicate z 0) = [ns, ns ++ List.replicate z 0] ∧ idOf [ns, ns ++ List.replicate z 0] ns = 0) := by
  have hne : ns ++ List.replicate z 0 ≠ ns := fun e => by have := congrArg List.length e; simp at this; omega
  have hl : (ns ++ List.replicate z (0 : Int)).length = ns.length + z := by simp
  refine ⟨?_, ?_, ?_, fun h => ?_, fun h => ?_⟩
  · unfold idOf; rw [if_neg (by omega), place_new (by simp)]; rfl
  · unfold idL; rw [if_neg (by simp; omega)]; rfl
  · unfold idOf; rw [if_neg (by omega)]; unfold place; simp
  · unfold idOf idL; rw [if_pos (by omega), if_pos (Or.inl (by omega))]; exact ⟨rfl, rfl⟩
  · have hnm : ns ++ List.replicate z 0 ∉ [ns] := by rw [List.mem_singleton]; exact hne
    refine ⟨?_, ?_, ?_⟩
    · unfold idOf; rw [if_neg (by omega), place_new hnm]; rfl
    · unfold idL; rw [if_neg (by rw [not_or]; exact ⟨by omega, hnm⟩)]; rfl
    · unfold idOf; rw [if_neg (by omega)]; unfold place; simp

set_option maxHeartbeats 4000000 in
set_option maxRecDepth 100000 in
theorem internPads_walk (ns : List Int) (k : Int) (u : Value) (w : World) (hu : RdV w u ns) (hw : ∀ x ∈ ns, (Lit.int .i64 x).wf = true) (hk0 : 0 ≤ k) (hk1 : k ≤ 255) :
    Calls Try.prog 5 #[u, .int .u8 k] w fun e w' => e = .returned (.bool true) ∧ Below w.heap.size w w' := by
  obtain ⟨A, c, rfl, hc, hr⟩ := hu
  by_cases h8 : (8 : Int) < ns.length
  · go_enter Try.func5, Try.ntmps5
    go_wp2_with fail
    refine (awake_in _).mono ?_
    rintro e w1 ⟨rfl, h1⟩
    go_wp2_with fail
    refine (awake_in _).mono ?_
    rintro e w2 ⟨rfl, h2⟩
    go_wp2
    go_ret
    exact ⟨rfl, bel_trans h1 h2⟩
  · obtain ⟨z, hz⟩ : ∃ z : Nat, 1 + k % 8 = (z : Int) := ⟨(1 + k % 8).toNat, by omega⟩
    have hz0 : 0 < z := by omega
    have hz8 : z ≤ 8 := by omega
    obtain ⟨f1, f2, f3, f4, f5⟩ := pads_facts ns z (by omega) hz0
    have hlb : (ns ++ List.replicate z (0 : Int)).length = ns.length + z := by simp
    have hwb : ∀ x ∈ ns ++ List.replicate z (0 : Int), (Lit.int .i64 x).wf = true := by
      intro x hx
      rcases List.mem_append.1 hx with hx | hx
      · exact hw x hx
      · rw [(List.mem_replicate.1 hx).2]; decide
    have hu := hr.toV hc
    have F1 := Aside0.mk f1
    have F2 := Aside0.mk f2
    have F3 := Aside0.mk f3
    have F4 := Aside0.mk f4
    have F5 := Aside0.mk f5
    have Hc := Aside0.mk hc
    have Hlb := Aside0.mk hlb
    have Hw := Aside0.mk hw
    have Hwb := Aside0.mk hwb
    clear f1 f2 f3 f4 f5 hc hr hlb hw hwb
    go_enter Try.func5, Try.ntmps5
    go_wp2_with fail
    refine (awake_in _).mono ?_
    rintro e w1 ⟨rfl, h1⟩
    go_wp2_with fail
    refine (new_ts w w1 h1).mono ?_
    rintro e w2 ⟨p, rfl, h2⟩
    go_wp2_with fail
    refine (id_ts w w2 p [] [] _ ns h2 (hu.below h2.bel) Hw.out (by decide)).mono ?_
    rintro e w3 ⟨rfl, h3⟩
    rw [F1.out]
    rw [F2.out] at h3
    have HO := R_empty w3
    have HR := (hu.below h3.bel).alloc (.cells #[] 3)
    have HB := below_alloc (Below.refl w3.heap.size w3) (.cells #[] 3)
    clear h1 h2
    go_wp2_with (first | (at_builtin; refine app_row (w0 := w3) w3.heap.size rfl (.tmp 21) (.tmp 22) rfl _ _ [] ns rfl rfl HO HR HB HB.size (by simp; omega) ?_; intro v4 w4 H4 HB4 hg4 hat4; clear hg4 hat4 HO HR HB; rw [List.nil_append] at H4) | (at_builtin; obtain ⟨v5, w5, hrun, H5, hg5⟩ := zeros_own w4 w3.heap.size 22 v4 ns H4 z hz0 (by omega) HB4.size; refine Lib.wpList_append_run w4 rfl (.tmp 23) (.tmp 27) 22 3 rfl v4 (.int .i64 z) rfl rfl v5 w5 hrun ?_; have HB5 := own_grown_below HB4 H4 HB4.size hg5; clear hrun hg5))
    have h5 := h3.below HB5
    obtain ⟨A5, c5, rfl, hc5, hr5⟩ := H5.rd
    have hu5 := H5.toV
    generalize hB : ns ++ List.replicate z (0 : Int) = b at *
    have hlb := Hlb.out
    refine (id_ts w w5 p [] [ns] _ b h5 hu5 Hwb.out (by simp)).mono ?_
    rintro e w6 ⟨rfl, h6⟩
    by_cases hbig : 8 < ns.length + z
    · obtain ⟨e1, e2⟩ := F4.out hbig
      rw [e2] at h6
      rw [e1]
      have g8 : (8 : Int) < (b.length : Int) := by omega
      clear e1 e2
      go_wp2_with fail
      refine (len_ts w w6 p [] [ns] h6).mono ?_
      rintro e w7 ⟨rfl, rfl⟩
      go_wp2_with fail
      refine (id_ts w w6 p [] [ns] _ ns h6 (hu.below h6.bel) Hw.out (by simp)).mono ?_
      rintro e w8 ⟨rfl, h8⟩
      rw [F3.out]
      go_wp2
      go_ret
      exact ⟨rfl, h8.bel⟩
    · obtain ⟨e1, e2, e3⟩ := F5.out (by omega)
      rw [e2] at h6
      rw [e1]
      have g8 : ¬ (8 : Int) < (b.length : Int) := by omega
      clear e1 e2
      go_wp2_with fail
      refine (len_ts w w6 p [] [ns, b] h6).mono ?_
      rintro e w7 ⟨rfl, rfl⟩
      go_wp2_with fail
      refine (id_ts w w6 p [] [ns, b] _ ns h6 (hu.below h6.bel) Hw.out (by simp)).mono ?_
      rintro e w8 ⟨rfl, h8⟩
      rw [e3]
      go_wp2
      go_ret
      exact ⟨rfl, h8.bel⟩
end Go.Proofs.Ytmaoadlighjkpaa.In
