/- union.Union: Head, Same. -/
import Derived.Test.YtmaoadlighjkpaaUc
import Derived.Test.YtmaoadlighjkpaaIb
namespace Go.Proofs.Ytmaoadlighjkpaa.Un
open Go.RowKit Go.Proofs.YtmaoadlighjkpaaW.PrintWords Go.Proofs.YtmaoadlighjkpaaW.PrintLast Go.Proofs.YtmaoadlighjkpaaW.PrintMore
open Go.Proofs.Ytmaoadlighjkpaa.Base Go.Proofs.Ytmaoadlighjkpaa.Map Go.Proofs.Ytmaoadlighjkpaa.Qu Go.Proofs.Ytmaoadlighjkpaa.In
set_option linter.unusedVariables false

theorem Uni.len {w : World} {F : Nat → Prop} {p : Nat} {vU vS vH : Value} {hs : List Int} (h : Uni w F p vU vS vH hs) (n : Int) :
    Calls Try.prog 79 #[.pointer (some ⟨p, 0, none⟩), .int .i64 n] w fun e w' => e = .returned (.bool (decide (0 ≤ n ∧ n < hs.length))) ∧ w = w' := by
  obtain ⟨U, S, H, R, d, h1, h2, h3, h4⟩ := h
  rw [← h4]
  exact there_any p F vU vS vH U S H _ n w h1
theorem root_uni {w : World} {F : Nat → Prop} {p : Nat} {vU vS vH : Value} {U S H hs : List Int} {R d : Nat → Nat} (h1 : UO w F p vU vS vH U S H (cntOf hs : Int)) (h2 : Forest U R d) (h3 : Heads R H hs) (h4 : U.length = hs.length) (n : Nat) (hn : n < hs.length) :
    Calls Try.prog 80 #[.pointer (some ⟨p, 0, none⟩), .int .i64 (n : Int)] w fun e w' => e = .returned (.int .i64 (R n : Int)) ∧ ∃ U', UO w' F p vU vS vH U' S H (cntOf hs : Int) ∧ Forest U' R d ∧ U'.length = hs.length ∧ Chg F w w' := by
  have := root_any p F vU vS vH U S H _ R d n w h1 h2 (by omega)
  rw [h4] at this
  exact this

/-- what Head says -/
def headOf (hs : List Int) (n : Int) : Int := if 0 ≤ n ∧ n < hs.length then rd hs n else -1

set_option maxHeartbeats 2000000 in
set_option maxRecDepth 100000 in
theorem head_any (p : Nat) (F : Nat → Prop) (vU vS vH : Value) (hs : List Int) (n : Int) (w : World) (h : Uni w F p vU vS vH hs) :
    Calls Try.prog 52 #[.pointer (some ⟨p, 0, none⟩), .int .i64 n] w fun e w' => e = .returned (.int .i64 (headOf hs n)) ∧ Uni w' F p vU vS vH hs ∧ Chg F w w' := by
  by_cases ht : 0 ≤ n ∧ n < hs.length
  · have e1 : headOf hs n = rd hs n := by unfold headOf; rw [if_pos ht]
    rw [e1]
    have hd : decide (0 ≤ n ∧ n < (hs.length : Int)) = true := decide_eq_true ht
    have hlen := h.len n
    rw [hd] at hlen
    obtain ⟨m, rfl⟩ : ∃ m : Nat, n = (m : Int) := ⟨n.toNat, by omega⟩
    have hm : m < hs.length := by omega
    have Hh := Aside0.mk h
    obtain ⟨U, S, H, R, d, h1, h2, h3, h4⟩ := h
    have hrm := (h2.roots m (by omega)).1
    have hv := h3.hd m hm
    obtain ⟨r, hr⟩ : ∃ r, R m = r := ⟨_, rfl⟩
    rw [hr] at hrm hv
    rw [← hv]
    obtain ⟨g, cap, rfl⟩ := h1.h.slice (by rw [h1.lH]; omega)
    have lH := h1.lH
    obtain ⟨N, hN⟩ : ∃ N, H.length = N := ⟨_, rfl⟩
    rw [hN] at h1 lH ⊢
    have c2 := blk_cell h1.blk 2
    have a2 := (h1.h.cell r (by omega)).1
    have i0 : (0 : Int) ≤ (r : Int) := by omega
    have i1 : (r : Int) < (N : Int) := by omega
    have H1 := Aside0.mk h1
    have H2 := Aside0.mk h2
    have H3 := Aside0.mk h3
    have Hr := Aside0.mk hr
    have H4 := Aside0.mk h4
    have Hlen := Aside0.mk hlen
    clear h1 h2 h3 h4 hr hv hd e1 ht hlen Hh
    go_enter Try.func52, Try.ntmps52
    go_wp2_with fail
    refine Hlen.out.mono ?_
    rintro e w1 ⟨rfl, rfl⟩
    go_wp2_with fail
    go_region_held3 (fun W => W.cell? ⟨p, 2, none⟩ = some (.slice (some ⟨g, 0, none⟩) N cap) ∧ W.cell? ⟨g, r, none⟩ = some (.int .i64 (rd H r))) (refine ⟨?_, ?_⟩ <;> simp [*])
     (first | (go_at_call 80; (with_reducible refine (root_uni (H1.out.below (below_drew (Below.refl _ _))) H2.out H3.out H4.out m hm).mono ?_); rintro e w2 ⟨rfl, U', h5, h6, h7, h8⟩; rw [Hr.out]; have d2 := blk_cell h5.blk 2; have e2 := (h5.h.cell r (by omega)).1; have H5 := Aside0.mk h5; clear h5) | (fail))
    all_goals (go_wp2; go_ret; exact ⟨rfl, ⟨U', S, H, R, d, H5.out, h6, H3.out, h7⟩, (Chg.of_below (below_drew (Below.refl _ _)) F).then_ h8 (fun k hk => .inl hk)⟩)
  · have e1 : headOf hs n = -1 := by unfold headOf; rw [if_neg ht]
    rw [e1]
    have hlen := h.len n
    rw [decide_eq_false ht] at hlen
    have Hlen := Aside0.mk hlen
    clear hlen
    go_enter Try.func52, Try.ntmps52
    go_wp2_with fail
    refine Hlen.out.mono ?_
    rintro e w1 ⟨rfl, rfl⟩
    go_wp2
    go_ret
    exact ⟨rfl, h, Chg.refl _ _⟩
end Go.Proofs.Ytmaoadlighjkpaa.Un
