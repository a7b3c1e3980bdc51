/- union.Union: Join. -/
import Derived.Test.YtmaoadlighjkpaaUe
namespace Go.Proofs.Ytmaoadlighjkpaa.Un
open Go.RowKit Go.Proofs.YtmaoadlighjkpaaW.PrintWords Go.Proofs.YtmaoadlighjkpaaW.PrintLast Go.Proofs.YtmaoadlighjkpaaW.PrintMore
open Go.Proofs.Ytmaoadlighjkpaa.Base Go.Proofs.Ytmaoadlighjkpaa.Map Go.Proofs.Ytmaoadlighjkpaa.Qu Go.Proofs.Ytmaoadlighjkpaa.In
set_option linter.unusedVariables false

def foldJ (hs : List Int) (a : Nat) (l : List Int) : List Int := l.foldl (fun h b => joinL h a b.toNat) hs
theorem foldJ_snoc (hs : List Int) (a : Nat) (l : List Int) (x : Int) : foldJ hs a (l ++ [x]) = joinL (foldJ hs a l) a x.toNat := by simp [foldJ, List.foldl_append]
theorem foldJ_len (a : Nat) : ∀ (l hs : List Int), (foldJ hs a l).length = hs.length
  | [], hs => rfl
  | x :: l, hs => by
    have := foldJ_len a l (joinL hs a x.toNat)
    rw [joinL_len] at this
    exact this
/-- what Join leaves -/
def joinS (hs ns : List Int) : List Int := if ∀ k, k < ns.length → (0 ≤ rd ns k ∧ rd ns k < hs.length) then foldJ hs (rd ns (0 : Nat)).toNat (ns.drop 1) else hs
theorem take_step (ns : List Int) (i : Nat) (h0 : 1 ≤ i) (h1 : i < ns.length) : (ns.take (i + 1)).drop 1 = (ns.take i).drop 1 ++ [rd ns i] := by
  rw [List.take_succ_eq_append_getElem h1, List.drop_append_of_le_length (by simp; omega), rd_nat ns i h1]

set_option maxHeartbeats 4000000 in
set_option maxRecDepth 100000 in
theorem join_any (p : Nat) (F : Nat → Prop) (vU vS vH : Value) (hs ns : List Int) (u : Value) (w : World) (h : Uni w F p vU vS vH hs) (hst : ∀ W, Chg F w W → RdV W u ns) (hlen : hs.length ≤ 1000000) (hnl : ns.length ≤ 1000000) :
    Calls Try.prog 51 #[.pointer (some ⟨p, 0, none⟩), u] w fun e w' => e = .returned (.bool (decide (joinS hs ns ≠ hs))) ∧ Uni w' F p vU vS vH (joinS hs ns) ∧ Chg F w w' := by
  obtain ⟨A, c, rfl, hc, hr⟩ := hst w (Chg.refl F w)
  have hmax := hr.max
  have Hst := Aside0.mk hst
  obtain ⟨out, hout⟩ : ∃ out, joinS hs ns = out := ⟨_, rfl⟩
  rw [hout]
  have Hyes := Aside0.mk (show (∀ k, k < ns.length → (0 ≤ rd ns k ∧ rd ns k < hs.length)) → out = foldJ hs (rd ns (0 : Nat)).toNat (ns.drop 1) from fun h => by rw [← hout]; unfold joinS; rw [if_pos h])
  have Hno := Aside0.mk (show (¬ ∀ k, k < ns.length → (0 ≤ rd ns k ∧ rd ns k < hs.length)) → out = hs from fun h => by rw [← hout]; unfold joinS; rw [if_neg h])
  obtain ⟨ans, hans⟩ : ∃ b, decide (out ≠ hs) = b := ⟨_, rfl⟩
  rw [hans]
  have Hans := Aside0.mk hans
  clear hst hc hout hans
  go_enter Try.func51, Try.ntmps51
  go_wp2_with fail
  go_loopw [11] (fun I wr => ∃ i : Nat, I = .int .i64 (i : Int) ∧ i ≤ ns.length ∧ (∀ k, k < i → (0 ≤ rd ns k ∧ rd ns k < hs.length)) ∧ Aside0 (w = wr)) (fun I _ => ns.length - (intOf I).toNat)
  case atStart => exact ⟨0, rfl, Nat.zero_le _, fun k hk => absurd hk (Nat.not_lt_zero k), ⟨rfl⟩⟩
  case round =>
    obtain ⟨i, rfl, hi, hP, ⟨rfl⟩⟩ := hrel
    have HP := Aside0.mk hP
    clear hP
    by_cases hlt : i < ns.length
    · obtain ⟨ad, hA, hcell⟩ := st_cell Hst.out (by omega)
      subst hA
      have ci := hcell i hlt _ (Chg.refl F _)
      have i0 : (0 : Int) ≤ (i : Int) := by omega
      have i1 : (i : Int) < (ns.length : Int) := by omega
      have Hlen := Aside0.mk (h.len (rd ns i))
      clear hcell
      by_cases ht : 0 ≤ rd ns i ∧ rd ns i < hs.length
      · have HP2 := Aside0.mk (show ∀ k, k < i + 1 → (0 ≤ rd ns k ∧ rd ns k < hs.length) from fun k hk => by
          rcases Nat.lt_or_ge k i with h1 | h1
          · exact HP.out k h1
          · obtain rfl : k = i := by omega
            exact ht)
        have Hd := Aside0.mk (decide_eq_true ht)
        clear ht
        generalize rd ns i = n at *
        go_wp2_with fail
        refine Hlen.out.mono ?_
        rintro e w4 ⟨rfl, rfl⟩
        rw [Hd.out]
        go_wp2_with fail
        go_roundw
        case rel => exact ⟨i + 1, by go_num, by omega, HP2.out, ⟨trivial⟩⟩
        case measure => simp [intOf]; omega
      · have hout := Hno.out (fun hall => ht (hall i hlt))
        have Hd := Aside0.mk (decide_eq_false ht)
        have ha : ans = false := by rw [← Hans.out, hout]; simp
        subst hout
        subst ha
        clear ht
        generalize rd ns i = n at *
        go_wp2_with fail
        refine Hlen.out.mono ?_
        rintro e w4 ⟨rfl, rfl⟩
        rw [Hd.out]
        go_wp2
        go_ret
        exact ⟨rfl, h, Chg.refl _ _⟩
    · obtain rfl : i = ns.length := by omega
      have hout := Hyes.out HP.out
      have Hout := Aside0.mk hout
      clear hout Hyes Hno
      go_wp2_with fail
      go_loopw [8, 7] (fun I B wx => ∃ (i : Nat) (cur : List Int) (ch : Bool), I = .int .i64 (i : Int) ∧ B = .bool ch ∧ 1 ≤ i ∧ (i ≤ ns.length ∨ i = 1) ∧ Aside0 (cur = foldJ hs (rd ns (0 : Nat)).toNat ((ns.take i).drop 1)) ∧ Aside0 ((cur = hs ∧ ch = false) ∨ (cntOf cur < cntOf hs ∧ ch = true)) ∧ Uni wx F p vU vS vH cur ∧ Chg F w wx) (fun I _ _ => ns.length - (intOf I).toNat)
      case atStart => exact ⟨1, hs, false, rfl, rfl, by omega, .inr rfl, ⟨by rw [List.drop_eq_nil_of_le (by simp; omega)]; rfl⟩, ⟨.inl ⟨rfl, rfl⟩⟩, h, Chg.refl _ _⟩
      case round =>
        obtain ⟨i, cur, ch, rfl, rfl, hi1, hi2, hcur, hch, hU, hC⟩ := hrel
        by_cases hlt : i < ns.length
        · obtain ⟨ad, hA, hcell⟩ := st_cell Hst.out (by omega)
          subst hA
          have hc0 := hcell 0 (by omega)
          have hci := hcell i hlt
          rw [add_nil] at hc0
          have hstep : foldJ hs (rd ns (0 : Nat)).toNat ((ns.take (i + 1)).drop 1) = joinL cur (rd ns (0 : Nat)).toNat (rd ns i).toNat := by
            rw [take_step ns i hi1 hlt, foldJ_snoc, ← hcur.out]
          have hcl : cur.length = hs.length := by rw [hcur.out, foldJ_len]
          obtain ⟨r0, r1⟩ := HP.out 0 (by omega)
          obtain ⟨s0, s1⟩ := HP.out i hlt
          have Hstep := Aside0.mk hstep
          have i0 : (0 : Int) ≤ (i : Int) := by omega
          have i1 : (i : Int) < (ns.length : Int) := by omega
          have l1 : 0 < ns.length := by omega
          clear hstep hcell hcur h
          obtain ⟨a, ha⟩ : ∃ m : Nat, rd ns (0 : Nat) = (m : Int) := ⟨(rd ns (0 : Nat)).toNat, by omega⟩
          obtain ⟨b, hb⟩ : ∃ m : Nat, rd ns i = (m : Int) := ⟨(rd ns i).toNat, by omega⟩
          rw [ha] at hc0 r0 r1
          rw [hb] at hci s0 s1
          have Hab := Aside0.mk (And.intro ha hb)
          clear ha hb
          have hma : a < cur.length := by omega
          have hmb : b < cur.length := by omega
          have hml : cur.length ≤ 1000000 := by omega
          have hcan := hU.can
          by_cases hne : rd cur a ≠ rd cur b
          · have Hd := Aside0.mk (decide_eq_true hne)
            have hcj := cnt_join hcan hma hmb hne
            have Hch2 := Aside0.mk (show (joinL cur a b = hs ∧ true = false) ∨ (cntOf (joinL cur a b) < cntOf hs ∧ true = true) from .inr ⟨by rcases hch.out with ⟨e, _⟩ | ⟨e, _⟩; rw [← e]; omega; omega, rfl⟩)
            clear hne hcj hcan
            go_wp2_with fail
            refine wp_region_held_drew (S := (fun W => W.cell? ad = some (.int .i64 (a : Int)) ∧ W.cell? (ad.add i) = some (.int .i64 (b : Int)) ∧ Chg F w W)) (by kernel_rfl) ?_ (fun hHeld => ?_)
            · (refine ⟨hc0 _ ?_, hci _ ?_, ?_⟩ <;> simp [*])
            refine wpAnyH_take (i := 0) (oi := _) (v := ?_) (List.getElem?_toArray.trans rfl) (by kernel_rfl) (by kernel_rfl) (by kernel_rfl) (fun _ _ _ h => h) (Or.inl ⟨by rfl, ?_⟩) (by assumption) ?_
            rotate_left
            · intro w hSw; (try dsimp only at hSw); go_simp <;> with_reducible rfl
            try simp only [Act.put, List.setIfInBounds_toArray, List.set_cons_zero, List.set_cons_succ]
            refine wpAnyH_take (i := 1) (oi := _) (v := ?_) (List.getElem?_toArray.trans rfl) (by kernel_rfl) (by kernel_rfl) (by kernel_rfl) (fun _ _ _ h => h) (Or.inl ⟨by rfl, ?_⟩) (by assumption) ?_
            rotate_left
            · intro w hSw; (try dsimp only at hSw); go_simp <;> with_reducible rfl
            try simp only [Act.put, List.setIfInBounds_toArray, List.set_cons_zero, List.set_cons_succ]
            refine wpAnyH_take (i := 2) (oi := _) (v := ?_) (List.getElem?_toArray.trans rfl) (by kernel_rfl) (by kernel_rfl) (by kernel_rfl) (fun _ _ _ h => h) (Or.inl ⟨by rfl, ?_⟩) (by assumption) ?_
            rotate_left
            · intro w hSw; (try dsimp only at hSw); go_simp <;> with_reducible rfl
            try simp only [Act.put, List.setIfInBounds_toArray, List.set_cons_zero, List.set_cons_succ]
            refine wpAnyH_take (i := 3) (oi := _) (v := ?_) (List.getElem?_toArray.trans rfl) (by kernel_rfl) (by kernel_rfl) (by kernel_rfl) (fun _ _ _ h => h) (Or.inl ⟨by rfl, ?_⟩) (by assumption) ?_
            rotate_left
            · intro w hSw; (try dsimp only at hSw); go_simp <;> with_reducible rfl
            try simp only [Act.put, List.setIfInBounds_toArray, List.set_cons_zero, List.set_cons_succ]
            refine wpAnyH_take (i := 4) (oi := _) (v := ?_) (List.getElem?_toArray.trans rfl) (by kernel_rfl) (by kernel_rfl) (by kernel_rfl) (fun _ _ _ h => h) (Or.inl ⟨by rfl, ?_⟩) (by assumption) ?_
            rotate_left
            · intro w hSw; (try dsimp only at hSw); go_simp <;> with_reducible rfl
            try simp only [Act.put, List.setIfInBounds_toArray, List.set_cons_zero, List.set_cons_succ]
            refine wpAnyH_take (i := 5) (oi := _) (v := ?_) (List.getElem?_toArray.trans rfl) (by kernel_rfl) (by kernel_rfl) (by kernel_rfl) (fun _ _ _ h => h) (Or.inl ⟨by rfl, ?_⟩) (by assumption) ?_
            rotate_left
            · intro w hSw; (try dsimp only at hSw); go_simp <;> with_reducible rfl
            try simp only [Act.put, List.setIfInBounds_toArray, List.set_cons_zero, List.set_cons_succ]
            refine wpAnyH_take (i := 6) (oi := _) (v := ?_) (List.getElem?_toArray.trans rfl) (by kernel_rfl) (by kernel_rfl) (by kernel_rfl) (fun _ _ _ h => h) (Or.inl ⟨by rfl, ?_⟩) (by assumption) ?_
            rotate_left
            · intro w hSw; (try dsimp only at hSw); go_simp <;> with_reducible rfl
            try simp only [Act.put, List.setIfInBounds_toArray, List.set_cons_zero, List.set_cons_succ]
            refine wpAnyH_take (i := 7) (oi := _) (v := ?_) (List.getElem?_toArray.trans rfl) (by kernel_rfl) (by kernel_rfl) (by kernel_rfl) (fun _ _ _ h => h) (Or.inl ⟨by rfl, ?_⟩) (by assumption) ?_
            rotate_left
            · intro w hSw; (try dsimp only at hSw); go_simp <;> with_reducible rfl
            try simp only [Act.put, List.setIfInBounds_toArray, List.set_cons_zero, List.set_cons_succ]
            refine wpAnyH_ready (rs := [8]) (by kernel_rfl) (by simp) ?_
            refine AllReadyH.cons (o := _) (List.getElem?_toArray.trans rfl) (fun K hK => ?_) AllReadyH.nil
            go_simp
            refine (pair_any p F vU vS vH cur a b _ (hU.below (below_drew (Below.refl _ _))) hma hmb hml).mono ?_
            rintro e w4 ⟨rfl, h4, h5⟩
            rw [Hd.out]
            have hC4 := (chg_drew hC).then_ h5 (fun k hk => .inl hk)
            go_wp2_with fail
            refine hK.out _ _ ?_ (fun hHeld => ?_)
            · (refine ⟨hc0 _ ?_, hci _ ?_, ?_⟩ <;> simp [*])
            clear hK K
            try simp only [Act.put, List.setIfInBounds_toArray, List.set_cons_zero, List.set_cons_succ]
            refine wpAnyH_take (i := 9) (oi := _) (v := ?_) (List.getElem?_toArray.trans rfl) (by kernel_rfl) (by kernel_rfl) (by kernel_rfl) (fun _ _ _ h => h) (Or.inl ⟨by rfl, ?_⟩) (by assumption) ?_
            rotate_left
            · intro w hSw; (try dsimp only at hSw); go_simp <;> with_reducible rfl
            try simp only [Act.put, List.setIfInBounds_toArray, List.set_cons_zero, List.set_cons_succ]
            refine wpAnyH_take (i := 10) (oi := _) (v := undef) (List.getElem?_toArray.trans rfl) (by kernel_rfl) (by kernel_rfl) (by kernel_rfl) (fun _ _ _ h => h) (Or.inr ⟨by rfl, rfl⟩) (by assumption) ?_
            try simp only [Act.put, List.setIfInBounds_toArray, List.set_cons_zero, List.set_cons_succ]
            refine wpAnyH_take (i := 11) (oi := _) (v := ?_) (List.getElem?_toArray.trans rfl) (by kernel_rfl) (by kernel_rfl) (by kernel_rfl) (fun _ _ _ h => h) (Or.inl ⟨by rfl, ?_⟩) (by assumption) ?_
            rotate_left
            · intro w hSw; (try dsimp only at hSw); go_simp <;> with_reducible rfl
            try simp only [Act.put, List.setIfInBounds_toArray, List.set_cons_zero, List.set_cons_succ]
            refine wpAnyH_take (i := 12) (oi := _) (v := ?_) (List.getElem?_toArray.trans rfl) (by kernel_rfl) (by kernel_rfl) (by kernel_rfl) (fun _ _ _ h => h) (Or.inl ⟨by rfl, ?_⟩) (by assumption) ?_
            rotate_left
            · intro w hSw; (try dsimp only at hSw); go_simp <;> with_reducible rfl
            try simp only [Act.put, List.setIfInBounds_toArray, List.set_cons_zero, List.set_cons_succ]
            refine wpAnyH_done (by kernel_rfl) ?_ _
            go_wp2_with fail
            go_roundw
            case rel => exact ⟨i + 1, joinL cur a b, true, by go_num, rfl, by omega, .inl (by omega), ⟨by rw [Hstep.out, Hab.out.1, Hab.out.2]; rfl⟩, ⟨Hch2.out.imp id (fun h => ⟨h.1, rfl⟩)⟩, h4, hC4⟩
            case measure => simp [intOf]; omega
          · have heq : rd cur a = rd cur b := Decidable.not_not.1 hne
            have Hd := Aside0.mk (decide_eq_false hne)
            have Hj := Aside0.mk (joinL_same cur a b heq)
            clear hne heq hcan
            go_wp2_with fail
            refine wp_region_held_drew (S := (fun W => W.cell? ad = some (.int .i64 (a : Int)) ∧ W.cell? (ad.add i) = some (.int .i64 (b : Int)) ∧ Chg F w W)) (by kernel_rfl) ?_ (fun hHeld => ?_)
            · (refine ⟨hc0 _ ?_, hci _ ?_, ?_⟩ <;> simp [*])
            refine wpAnyH_take (i := 0) (oi := _) (v := ?_) (List.getElem?_toArray.trans rfl) (by kernel_rfl) (by kernel_rfl) (by kernel_rfl) (fun _ _ _ h => h) (Or.inl ⟨by rfl, ?_⟩) (by assumption) ?_
            rotate_left
            · intro w hSw; (try dsimp only at hSw); go_simp <;> with_reducible rfl
            try simp only [Act.put, List.setIfInBounds_toArray, List.set_cons_zero, List.set_cons_succ]
            refine wpAnyH_take (i := 1) (oi := _) (v := ?_) (List.getElem?_toArray.trans rfl) (by kernel_rfl) (by kernel_rfl) (by kernel_rfl) (fun _ _ _ h => h) (Or.inl ⟨by rfl, ?_⟩) (by assumption) ?_
            rotate_left
            · intro w hSw; (try dsimp only at hSw); go_simp <;> with_reducible rfl
            try simp only [Act.put, List.setIfInBounds_toArray, List.set_cons_zero, List.set_cons_succ]
            refine wpAnyH_take (i := 2) (oi := _) (v := ?_) (List.getElem?_toArray.trans rfl) (by kernel_rfl) (by kernel_rfl) (by kernel_rfl) (fun _ _ _ h => h) (Or.inl ⟨by rfl, ?_⟩) (by assumption) ?_
            rotate_left
            · intro w hSw; (try dsimp only at hSw); go_simp <;> with_reducible rfl
            try simp only [Act.put, List.setIfInBounds_toArray, List.set_cons_zero, List.set_cons_succ]
            refine wpAnyH_take (i := 3) (oi := _) (v := ?_) (List.getElem?_toArray.trans rfl) (by kernel_rfl) (by kernel_rfl) (by kernel_rfl) (fun _ _ _ h => h) (Or.inl ⟨by rfl, ?_⟩) (by assumption) ?_
            rotate_left
            · intro w hSw; (try dsimp only at hSw); go_simp <;> with_reducible rfl
            try simp only [Act.put, List.setIfInBounds_toArray, List.set_cons_zero, List.set_cons_succ]
            refine wpAnyH_take (i := 4) (oi := _) (v := ?_) (List.getElem?_toArray.trans rfl) (by kernel_rfl) (by kernel_rfl) (by kernel_rfl) (fun _ _ _ h => h) (Or.inl ⟨by rfl, ?_⟩) (by assumption) ?_
            rotate_left
            · intro w hSw; (try dsimp only at hSw); go_simp <;> with_reducible rfl
            try simp only [Act.put, List.setIfInBounds_toArray, List.set_cons_zero, List.set_cons_succ]
            refine wpAnyH_take (i := 5) (oi := _) (v := ?_) (List.getElem?_toArray.trans rfl) (by kernel_rfl) (by kernel_rfl) (by kernel_rfl) (fun _ _ _ h => h) (Or.inl ⟨by rfl, ?_⟩) (by assumption) ?_
            rotate_left
            · intro w hSw; (try dsimp only at hSw); go_simp <;> with_reducible rfl
            try simp only [Act.put, List.setIfInBounds_toArray, List.set_cons_zero, List.set_cons_succ]
            refine wpAnyH_take (i := 6) (oi := _) (v := ?_) (List.getElem?_toArray.trans rfl) (by kernel_rfl) (by kernel_rfl) (by kernel_rfl) (fun _ _ _ h => h) (Or.inl ⟨by rfl, ?_⟩) (by assumption) ?_
            rotate_left
            · intro w hSw; (try dsimp only at hSw); go_simp <;> with_reducible rfl
            try simp only [Act.put, List.setIfInBounds_toArray, List.set_cons_zero, List.set_cons_succ]
            refine wpAnyH_take (i := 7) (oi := _) (v := ?_) (List.getElem?_toArray.trans rfl) (by kernel_rfl) (by kernel_rfl) (by kernel_rfl) (fun _ _ _ h => h) (Or.inl ⟨by rfl, ?_⟩) (by assumption) ?_
            rotate_left
            · intro w hSw; (try dsimp only at hSw); go_simp <;> with_reducible rfl
            try simp only [Act.put, List.setIfInBounds_toArray, List.set_cons_zero, List.set_cons_succ]
            refine wpAnyH_ready (rs := [8]) (by kernel_rfl) (by simp) ?_
            refine AllReadyH.cons (o := _) (List.getElem?_toArray.trans rfl) (fun K hK => ?_) AllReadyH.nil
            go_simp
            refine (pair_any p F vU vS vH cur a b _ (hU.below (below_drew (Below.refl _ _))) hma hmb hml).mono ?_
            rintro e w4 ⟨rfl, h4, h5⟩
            rw [Hd.out]
            have hC4 := (chg_drew hC).then_ h5 (fun k hk => .inl hk)
            go_wp2_with fail
            refine hK.out _ _ ?_ (fun hHeld => ?_)
            · (refine ⟨hc0 _ ?_, hci _ ?_, ?_⟩ <;> simp [*])
            clear hK K
            try simp only [Act.put, List.setIfInBounds_toArray, List.set_cons_zero, List.set_cons_succ]
            refine wpAnyH_take (i := 9) (oi := _) (v := ?_) (List.getElem?_toArray.trans rfl) (by kernel_rfl) (by kernel_rfl) (by kernel_rfl) (fun _ _ _ h => h) (Or.inl ⟨by rfl, ?_⟩) (by assumption) ?_
            rotate_left
            · intro w hSw; (try dsimp only at hSw); go_simp <;> with_reducible rfl
            try simp only [Act.put, List.setIfInBounds_toArray, List.set_cons_zero, List.set_cons_succ]
            refine wpAnyH_take (i := 10) (oi := _) (v := ?_) (List.getElem?_toArray.trans rfl) (by kernel_rfl) (by kernel_rfl) (by kernel_rfl) (fun _ _ _ h => h) (Or.inl ⟨by rfl, ?_⟩) (by assumption) ?_
            rotate_left
            · intro w hSw; (try dsimp only at hSw); go_simp <;> with_reducible rfl
            try simp only [Act.put, List.setIfInBounds_toArray, List.set_cons_zero, List.set_cons_succ]
            refine wpAnyH_take (i := 11) (oi := _) (v := ?_) (List.getElem?_toArray.trans rfl) (by kernel_rfl) (by kernel_rfl) (by kernel_rfl) (fun _ _ _ h => h) (Or.inl ⟨by rfl, ?_⟩) (by assumption) ?_
            rotate_left
            · intro w hSw; (try dsimp only at hSw); go_simp <;> with_reducible rfl
            try simp only [Act.put, List.setIfInBounds_toArray, List.set_cons_zero, List.set_cons_succ]
            refine wpAnyH_take (i := 12) (oi := _) (v := ?_) (List.getElem?_toArray.trans rfl) (by kernel_rfl) (by kernel_rfl) (by kernel_rfl) (fun _ _ _ h => h) (Or.inl ⟨by rfl, ?_⟩) (by assumption) ?_
            rotate_left
            · intro w hSw; (try dsimp only at hSw); go_simp <;> with_reducible rfl
            try simp only [Act.put, List.setIfInBounds_toArray, List.set_cons_zero, List.set_cons_succ]
            refine wpAnyH_done (by kernel_rfl) ?_ _
            go_wp2_with fail
            go_roundw
            case rel => exact ⟨i + 1, joinL cur a b, ch, by go_num, rfl, by omega, .inl (by omega), ⟨by rw [Hstep.out, Hab.out.1, Hab.out.2]; rfl⟩, ⟨by rw [Hj.out]; exact hch.out⟩, h4, hC4⟩
            case measure => simp [intOf]; omega
        · have hcur2 : out = cur := by
            rw [Hout.out, hcur.out]
            congr 1
            rw [List.take_of_length_le (by omega)]
          subst hcur2
          have hans : ch = ans := by
            rw [← Hans.out]
            rcases hch.out with ⟨e, e2⟩ | ⟨e, e2⟩
            · rw [e2, e]; simp
            · rw [e2]
              have : out ≠ hs := fun e3 => by rw [e3] at e; omega
              simp [this]
          subst hans
          have i1 : ¬ (i : Int) < (ns.length : Int) := by omega
          clear h hcur hch
          go_wp2
          go_ret
          exact ⟨rfl, hU, hC⟩
end Go.Proofs.Ytmaoadlighjkpaa.Un
