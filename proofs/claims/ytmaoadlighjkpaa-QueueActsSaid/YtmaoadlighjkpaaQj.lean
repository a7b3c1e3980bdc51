/- QueueActs, walked. -/
import Derived.Test.YtmaoadlighjkpaaQi
namespace Go.Proofs.Ytmaoadlighjkpaa.Qu
open Go.RowKit Go.Proofs.YtmaoadlighjkpaaW.PrintWords Go.Proofs.YtmaoadlighjkpaaW.PrintLast Go.Proofs.YtmaoadlighjkpaaW.PrintMore
open Go.Proofs.Ytmaoadlighjkpaa.Base Go.Proofs.Ytmaoadlighjkpaa.Map Go.Proofs.Ytmaoadlighjkpaa.Ca Go.Maps
set_option linter.unusedVariables false

/-- one of a slice of slices -/
theorem row_at {w : World} {A : Option Addr} {ls : List (List Int)} (h : (Kd.slice 3 (Kd.int .i64)).C w A ls.length ls) (i : Nat) (hi : i < ls.length) :
    ∃ ad A2 c2 l, A = some ad ∧ ls[i]? = some l ∧ w.cell? (ad.add i) = some (.slice A2 l.length c2) ∧ l.length ≤ c2 ∧ RdV w (.slice A2 l.length c2) l := by
  obtain ⟨ad, rfl, hat⟩ := h.2.2 (by omega)
  obtain ⟨c, hcl, ⟨A2, c2, hcs, hl2, hC⟩, hcc⟩ := hat i ls[i] (by simp [hi])
  subst hcs
  have := hcc 0 _ rfl
  refine ⟨ad, A2, c2, ls[i], rfl, by simp [hi], ?_, hl2, RdI.toV ⟨hC⟩ hl2⟩
  simpa [Kd.slice] using this

set_option maxHeartbeats 8000000 in
set_option maxRecDepth 100000 in
theorem queueActs_walk (ls : List (List Int)) (ask : Int) (A : Option Addr) (c : Nat) (w : World) (hc : ls.length ≤ c) (hr : (Kd.slice 3 (Kd.int .i64)).C w A ls.length ls) (hwf : ∀ l ∈ ls, ∀ x ∈ l, (Lit.int .i64 x).wf = true) (hask : (Lit.int .i64 ask).wf = true) :
    Calls Try.prog 7 #[.slice A ls.length c, .int .i64 ask] w fun e w' => e = .returned (.bool true) ∧ Below w.heap.size w w' := by
  by_cases h10 : (120 : Int) < ls.length
  · go_enter Try.func7, Try.ntmps7
    go_wp2_with fail
    refine (awake_any _).mono ?_
    rintro e w1 ⟨rfl, h1⟩
    go_wp2_with fail
    refine (awake_any _).mono ?_
    rintro e w2 ⟨rfl, h2⟩
    go_wp2
    go_ret
    exact ⟨rfl, bel_trans h1 h2⟩
  · have Hc := Aside0.mk hc
    clear hc
    go_enter Try.func7, Try.ntmps7
    go_wp2_with fail
    refine (awake_any _).mono ?_
    rintro e w1 ⟨rfl, h1⟩
    go_wp2_with fail
    refine (new_st w w1 h1).mono ?_
    rintro e w2 ⟨g, rfl, h2⟩
    go_wp2_with fail
    clear h1
    go_loopw [6, 7] (fun V I wr => ∃ (i : Nat) (l : List Int), I = .int .i64 i ∧ i ≤ ls.length ∧ QL w wr g l V l) (fun _ i _ => ls.length - (intOf i).toNat)
    case atStart => exact ⟨0, [], rfl, Nat.zero_le _, QL.first h2⟩
    case round =>
      obtain ⟨i, l, rfl, hi, hQ⟩ := hrel
      by_cases hlt : i < ls.length
      · obtain ⟨ad, A2, c2, ns, hA, hns, hx, hc2, hu⟩ := row_at hr i hlt
        subst hA
        have hmem : ns ∈ ls := List.mem_of_getElem? hns
        have hx1 := pw_cell_below (w := w) hQ.bel hx
        have i0 : (0 : Int) ≤ (i : Int) := by omega
        have i1 : (i : Int) < (ls.length : Int) := by omega
        by_cases h20 : (20 : Int) < ns.length
        · go_wp2_with fail
          go_ret
          exact ⟨rfl, hQ.bel⟩
        · obtain ⟨A3, c3, rfl, hc3, hr3⟩ := hQ.rd
          cases ns with
          | nil =>
            cases l with
            | nil =>
              go_wp2_with fail
              refine (next_none_ql w wr g _ _ hQ).mono ?_
              rintro e w3 ⟨rfl, h3⟩
              go_wp2_with fail
              refine (len_ql w w3 g [] _ [] h3).mono ?_
              rintro e w6 ⟨rfl, h6⟩
              go_wp2_with fail
              refine (list_ql w w6 g [] _ [] h6).mono ?_
              rintro e w7 ⟨u7, rfl, hu7, h7⟩
              go_wp2_with fail
              refine (same_ql w w7 g [] _ _ _ [] h7 hu7).mono ?_
              rintro e w8 ⟨rfl, h8⟩
              rw [beq_self_eq_true]
              go_wp2_with fail
              refine (has_st w w8 g [] ask h8.st hask).mono ?_
              rintro e w9 ⟨rfl, rfl⟩
              go_wp2_with fail
              refine (hasR_ql w w8 g [] _ [] ask h8).mono ?_
              rintro e w9 ⟨rfl, h9⟩
              go_wp2_with fail
              go_roundw
              case rel => exact ⟨i + 1, [], by go_num, by omega, h9⟩
              case measure => simp [intOf]; omega
            | cons x l =>
              go_wp2_with fail
              refine (next_some_ql w wr g x l _ _ hQ).mono ?_
              rintro e w3 ⟨rfl, h3⟩
              obtain ⟨A4, c4, he4, hc4, hr4⟩ := h3.rd
              obtain ⟨ad4, hA4, hx4⟩ := hr4.at_ 0 (by omega) (by simp)
              obtain ⟨rfl, rfl⟩ : A3 = A4 ∧ c3 = c4 := by simpa using he4
              subst hA4
              have hx5 : w3.cell? (ad4.add 0) = some (.int .i64 x) := hx4
              have hx6 : w3.cell? ad4 = some (.int .i64 x) := by simpa [Addr.add] using hx5
              obtain ⟨A5, c5, hcut, hread⟩ := cut_from (some ad4) c3 (x :: l) 1 (by omega) (by simp; omega) hc4
              have h5 : QL w w3 g l (.slice A5 l.length c5) l := h3.also (fun W hW => by obtain ⟨A6, c6, e6, _, r6⟩ := hW; obtain ⟨rfl, rfl⟩ : some ad4 = A6 ∧ c3 = c6 := by simpa using e6
                                                                                         exact hread W r6)
              have hcut2 : ∀ W : World, (Instr.slice 22 (.slice (some ad4) (l.length + 1) c3) (some (.int .i64 1)) none none).run Try.prog W = .ok (.slice A5 l.length c5) W := hcut
              clear hcut hread hx4
              go_wp2_with fail
              refine (len_ql w w3 g l _ l h5).mono ?_
              rintro e w6 ⟨rfl, h6⟩
              go_wp2_with fail
              refine (list_ql w w6 g l _ l h6).mono ?_
              rintro e w7 ⟨u7, rfl, hu7, h7⟩
              go_wp2_with fail
              refine (same_ql w w7 g l _ _ _ l h7 hu7).mono ?_
              rintro e w8 ⟨rfl, h8⟩
              rw [beq_self_eq_true]
              go_wp2_with fail
              refine (has_st w w8 g l ask h8.st hask).mono ?_
              rintro e w9 ⟨rfl, rfl⟩
              go_wp2_with fail
              refine (hasR_ql w w8 g l _ l ask h8).mono ?_
              rintro e w9 ⟨rfl, h9⟩
              go_wp2_with fail
              go_roundw
              case rel => exact ⟨i + 1, l, by go_num, by omega, h9⟩
              case measure => simp [intOf]; omega
          | cons y ns =>
            have hwf2 := hwf _ hmem
            obtain ⟨r, hrr⟩ : ∃ r, putL l (y :: ns) = r := ⟨_, rfl⟩
            have Hr := Aside0.mk hrr
            clear hrr
            go_wp2_with fail
            refine (putR_ql w wr g l _ l _ (y :: ns) hQ hu hQ.st.len_le (by omega)).mono ?_
            rintro e w3 ⟨v3, rfl, h3⟩
            rw [Hr.out] at h3 ⊢
            obtain ⟨A4, c4, rfl, hc4, hr4⟩ := h3.rd
            have hx3 := pw_cell_below (w := w) h3.bel hx
            go_wp2_with fail
            refine (put_ql w w3 g l _ _ _ (y :: ns) h3 hu hwf2 (by omega)).mono ?_
            rintro e w4 ⟨rfl, h4⟩
            rw [Hr.out] at h4 ⊢
            go_wp2_with fail
            refine (len_ql w w4 g r _ r h4).mono ?_
            rintro e w6 ⟨rfl, h6⟩
            go_wp2_with fail
            refine (list_ql w w6 g r _ r h6).mono ?_
            rintro e w7 ⟨u7, rfl, hu7, h7⟩
            go_wp2_with fail
            refine (same_ql w w7 g r _ _ _ r h7 hu7).mono ?_
            rintro e w8 ⟨rfl, h8⟩
            rw [beq_self_eq_true]
            go_wp2_with fail
            refine (has_st w w8 g r ask h8.st hask).mono ?_
            rintro e w9 ⟨rfl, rfl⟩
            go_wp2_with fail
            refine (hasR_ql w w8 g r _ r ask h8).mono ?_
            rintro e w9 ⟨rfl, h9⟩
            go_wp2_with fail
            go_roundw
            case rel => exact ⟨i + 1, r, by go_num, by omega, h9⟩
            case measure => simp [intOf]; omega
      · go_wp2
        go_ret
        exact ⟨rfl, hQ.bel⟩
end Go.Proofs.Ytmaoadlighjkpaa.Qu
