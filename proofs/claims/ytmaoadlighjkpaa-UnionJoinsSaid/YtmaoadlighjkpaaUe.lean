/- union.Union: Same. -/
import Derived.Test.YtmaoadlighjkpaaUd
namespace Go.Proofs.Ytmaoadlighjkpaa.Un
open Go.RowKit Go.Proofs.YtmaoadlighjkpaaW.PrintWords Go.Proofs.YtmaoadlighjkpaaW.PrintLast Go.Proofs.YtmaoadlighjkpaaW.PrintMore
open Go.Proofs.Ytmaoadlighjkpaa.Base Go.Proofs.Ytmaoadlighjkpaa.Map Go.Proofs.Ytmaoadlighjkpaa.Qu Go.Proofs.Ytmaoadlighjkpaa.In
set_option linter.unusedVariables false

theorem st_cell {F : Nat → Prop} {w : World} {A : Option Addr} {c : Nat} {ns : List Int} (hst : ∀ W, Chg F w W → RdV W (.slice A ns.length c) ns) (hl : 0 < ns.length) :
    ∃ ad, A = some ad ∧ ∀ (k : Nat), k < ns.length → ∀ W, Chg F w W → W.cell? (ad.add k) = some (.int .i64 (rd ns k)) := by
  obtain ⟨A1, c1, e1, _, hr⟩ := hst w (Chg.refl F w)
  injection e1 with ea _ _
  subst ea
  obtain ⟨ad, hA, _⟩ := hr.at_ 0 (by omega) (by omega)
  refine ⟨ad, hA, fun k hk W hC => ?_⟩
  obtain ⟨A2, c2, e2, _, hr2⟩ := hst W hC
  injection e2 with ea _ _
  subst ea
  obtain ⟨ad2, hA2, hx⟩ := hr2.at_ (k : Int) (by omega) (by omega)
  rw [hA] at hA2
  injection hA2 with he
  subst he
  exact hx
theorem add_nil (a : Addr) : a.add 0 = a := by unfold Addr.add; simp

/-- are all there, and in the class of the first? -/
def SameP (hs ns : List Int) (k : Nat) : Prop := (0 ≤ rd ns k ∧ rd ns k < hs.length) ∧ rd hs (rd ns k) = rd hs (rd ns (0 : Nat))
instance (hs ns : List Int) (k : Nat) : Decidable (SameP hs ns k) := by unfold SameP; infer_instance
def sameB (hs ns : List Int) : Bool := decide (∀ k, k < ns.length → SameP hs ns k)

set_option maxHeartbeats 4000000 in
set_option maxRecDepth 100000 in
theorem same_any_u (p : Nat) (F : Nat → Prop) (vU vS vH : Value) (hs ns : List Int) (u : Value) (w : World) (h : Uni w F p vU vS vH hs) (hst : ∀ W, Chg F w W → RdV W u ns) :
    Calls Try.prog 49 #[.pointer (some ⟨p, 0, none⟩), u] w fun e w' => e = .returned (.bool (sameB hs ns)) ∧ Uni w' F p vU vS vH hs ∧ Chg F w w' := by
  obtain ⟨A, c, rfl, hc, hr⟩ := hst w (Chg.refl F w)
  have hmax := hr.max
  have Hst := Aside0.mk hst
  obtain ⟨b, hb⟩ : ∃ b, sameB hs ns = b := ⟨_, rfl⟩
  rw [hb]
  have Hyes : (∀ k, k < ns.length → SameP hs ns k) → b = true := fun h => hb.symm.trans (decide_eq_true h)
  have Hno : ¬ (∀ k, k < ns.length → SameP hs ns k) → b = false := fun h => hb.symm.trans (decide_eq_false h)
  have Hyes := Aside0.mk Hyes
  have Hno := Aside0.mk Hno
  clear hst hc hb
  go_enter Try.func49, Try.ntmps49
  go_wp2_with fail
  go_loopw [9] (fun I wr => ∃ i : Nat, I = .int .i64 (i : Int) ∧ i ≤ ns.length ∧ (∀ k, k < i → SameP hs ns k) ∧ Uni wr F p vU vS vH hs ∧ Chg F w wr) (fun I _ => ns.length - (intOf I).toNat)
  case atStart => exact ⟨0, rfl, Nat.zero_le _, fun k hk => absurd hk (Nat.not_lt_zero k), h, Chg.refl _ _⟩
  case round =>
    obtain ⟨i, rfl, hi, hP, hU, hC⟩ := hrel
    by_cases hlt : i < ns.length
    · obtain ⟨ad, hA, hcell⟩ := st_cell Hst.out (by omega)
      subst hA
      have hci := hcell i hlt
      have hc0 := hcell 0 (by omega)
      rw [add_nil] at hc0
      have ci := hci wr hC
      have hPi : ∀ k, k < ns.length → ¬ SameP hs ns k → ¬ (∀ k, k < ns.length → SameP hs ns k) := fun k hk hn hall => hn (hall k hk)
      have hPi := hPi i hlt
      have i0 : (0 : Int) ≤ (i : Int) := by omega
      have i1 : (i : Int) < (ns.length : Int) := by omega
      have l0 : (0 : Int) < (ns.length : Int) := by omega
      have l1 : 0 < ns.length := by omega
      have HP := Aside0.mk hP
      have hfirst : (0 ≤ rd ns i ∧ rd ns i < hs.length) → (0 ≤ rd ns (0 : Nat) ∧ rd ns (0 : Nat) < hs.length) := fun ht => by
        rcases Nat.eq_zero_or_pos i with e | e
        · rw [e] at ht; exact ht
        · exact (HP.out 0 e).1
      have hPs : SameP hs ns i → ∀ k, k < i + 1 → SameP hs ns k := fun hs k hk => by
        rcases Nat.lt_or_ge k i with h1 | h1
        · exact HP.out k h1
        · obtain rfl : k = i := by omega
          exact hs
      have Hlen := Aside0.mk (hU.len (rd ns i))
      have HPs := Aside0.mk hPs
      have HPi := Aside0.mk hPi
      have hSP : SameP hs ns i ↔ (0 ≤ rd ns i ∧ rd ns i < hs.length) ∧ rd hs (rd ns i) = rd hs (rd ns (0 : Nat)) := Iff.rfl
      have HSP := Aside0.mk hSP
      clear hP hPs hPi hSP hcell h hr
      generalize rd ns i = n at *
      generalize rd ns (0 : Nat) = f at *
      by_cases ht : 0 ≤ n ∧ n < hs.length
      · obtain ⟨f0, f1⟩ := hfirst ht
        obtain ⟨t0, t1⟩ := ht
        obtain ⟨m, rfl⟩ : ∃ m : Nat, n = (m : Int) := ⟨n.toNat, by omega⟩
        obtain ⟨a, rfl⟩ : ∃ m : Nat, f = (m : Int) := ⟨f.toNat, by omega⟩
        have hm : m < hs.length := by omega
        have ha : a < hs.length := by omega
        have hd : decide (0 ≤ (m : Int) ∧ (m : Int) < (hs.length : Int)) = true := decide_eq_true ⟨t0, t1⟩
        obtain ⟨U, S, H, R, d, h1, h2, h3, h4⟩ := hU
        have hRR : R m = R a ↔ rd hs m = rd hs a := ⟨fun e => by rw [← h3.hd m hm, ← h3.hd a ha, e], fun e => h3.inj m a hm ha e⟩
        obtain ⟨r, hr⟩ : ∃ r, R m = r := ⟨_, rfl⟩
        obtain ⟨q, hq⟩ : ∃ r, R a = r := ⟨_, rfl⟩
        rw [hr, hq] at hRR
        have H1 := Aside0.mk h1
        have H2 := Aside0.mk h2
        have H3 := Aside0.mk h3
        have H4 := Aside0.mk h4
        have Hr := Aside0.mk hr
        have Hq := Aside0.mk hq
        have Hd := Aside0.mk hd
        clear h1 h2 h3 h4 hr hq hfirst f0 f1 t0 t1 hd
        by_cases hrq : r = q
        · subst hrq
          have hbn : ((r : Int) != (r : Int)) = false := by simp
          have hgood : SameP hs ns i := HSP.out.2 ⟨⟨by omega, by omega⟩, hRR.1 rfl⟩
          have Hgood := Aside0.mk hgood
          clear hgood hRR
          go_wp2_with fail
          go_region_held3 (fun W => W.cell? ad = some (.int .i64 (a : Int)) ∧ Chg F w W) (refine ⟨hc0 _ ?_, ?_⟩ <;> simp [*])
           (first | (go_at_call 79; (with_reducible refine (Uni.len (w := wr.drew) (Uni.below ⟨⟨U, S, H, R, d, H1.out, H2.out, H3.out, H4.out⟩⟩ (below_drew (Below.refl _ _))) (m : Int)).mono ?_); rintro e w4 ⟨rfl, rfl⟩; rw [Hd.out]) | (go_at_call 80; (with_reducible refine (root_uni (H1.out.below (below_drew (Below.refl _ _))) H2.out H3.out H4.out m hm).mono ?_); rintro e w5 ⟨rfl, U', h5, h6, h7, h8⟩; rw [Hr.out]; have hC5 := (chg_drew hC).then_ h8 (fun k hk => .inl hk)) | (go_at_call 80; (with_reducible refine (root_uni h5 h6 H3.out h7 a ha).mono ?_); rintro e w6 ⟨rfl, U6, h9, h10, h11, h12⟩; rw [Hq.out]; have hC6 := hC5.then_ h12 (fun k hk => .inl hk)) | (fail))
          all_goals (go_wp2_with fail; go_roundw)
          case rel => exact ⟨i + 1, by go_num, by omega, HPs.out Hgood.out, ⟨U6, S, H, R, d, h9, h10, H3.out, h11⟩, hC6⟩
          case measure => simp [intOf]; omega
        · have hbn : ((r : Int) != (q : Int)) = true := by simp; omega
          have hbad : ¬ SameP hs ns i := fun hg => hrq (hRR.2 (HSP.out.1 hg).2)
          have Hbad := Aside0.mk (HPi.out hbad)
          clear hbad hRR
          go_wp2_with fail
          go_region_held3 (fun W => W.cell? ad = some (.int .i64 (a : Int)) ∧ Chg F w W) (refine ⟨hc0 _ ?_, ?_⟩ <;> simp [*])
           (first | (go_at_call 79; (with_reducible refine (Uni.len (w := wr.drew) (Uni.below ⟨⟨U, S, H, R, d, H1.out, H2.out, H3.out, H4.out⟩⟩ (below_drew (Below.refl _ _))) (m : Int)).mono ?_); rintro e w4 ⟨rfl, rfl⟩; rw [Hd.out]) | (go_at_call 80; (with_reducible refine (root_uni (H1.out.below (below_drew (Below.refl _ _))) H2.out H3.out H4.out m hm).mono ?_); rintro e w5 ⟨rfl, U', h5, h6, h7, h8⟩; rw [Hr.out]; have hC5 := (chg_drew hC).then_ h8 (fun k hk => .inl hk)) | (go_at_call 80; (with_reducible refine (root_uni h5 h6 H3.out h7 a ha).mono ?_); rintro e w6 ⟨rfl, U6, h9, h10, h11, h12⟩; rw [Hq.out]; have hC6 := hC5.then_ h12 (fun k hk => .inl hk)) | (fail))
          all_goals (go_wp2; go_ret)
          all_goals (rw [Hno.out Hbad.out]; exact ⟨rfl, ⟨U6, S, H, R, d, h9, h10, H3.out, h11⟩, hC6⟩)
      · have hbad : ¬ SameP hs ns i := fun hg => ht (HSP.out.1 hg).1
        have Hbad := Aside0.mk (HPi.out hbad)
        have Hd := Aside0.mk (decide_eq_false ht)
        clear hbad hfirst ht
        go_wp2_with fail
        refine wp_region_held_drew (S := (fun W => W = wr.drew)) (by kernel_rfl) ?_ (fun hHeld => ?_)
        · rfl
        refine wpAnyH_take (i := 0) (oi := _) (v := ?_) (List.getElem?_toArray.trans rfl) (by kernel_rfl) (by kernel_rfl) (by kernel_rfl) (fun _ _ _ h => h) (Or.inl ⟨by rfl, ?_⟩) (by assumption) ?_
        rotate_left
        · intro w hSw; (try dsimp only at hSw); go_simp <;> with_reducible rfl
        try simp only [Act.put, List.setIfInBounds_toArray, List.set_cons_zero, List.set_cons_succ]
        refine wpAnyH_take (i := 1) (oi := _) (v := ?_) (List.getElem?_toArray.trans rfl) (by kernel_rfl) (by kernel_rfl) (by kernel_rfl) (fun _ _ _ h => h) (Or.inl ⟨by rfl, ?_⟩) (by assumption) ?_
        rotate_left
        · intro w hSw; (try dsimp only at hSw); go_simp <;> with_reducible rfl
        try simp only [Act.put, List.setIfInBounds_toArray, List.set_cons_zero, List.set_cons_succ]
        refine wpAnyH_ready (rs := [2]) (by kernel_rfl) (by simp) ?_
        refine AllReadyH.cons (o := _) (List.getElem?_toArray.trans rfl) (fun K hK => ?_) AllReadyH.nil
        go_simp
        refine (hU.below (below_drew (Below.refl _ _))).len n |>.mono ?_
        rintro e w4 ⟨rfl, rfl⟩
        rw [Hd.out]
        go_wp2_with fail
        refine hK.out _ _ ?_ (fun hHeld => ?_)
        · rfl
        clear hK K
        try simp only [Act.put, List.setIfInBounds_toArray, List.set_cons_zero, List.set_cons_succ]
        refine wpAnyH_take (i := 3) (oi := _) (v := ?_) (List.getElem?_toArray.trans rfl) (by kernel_rfl) (by kernel_rfl) (by kernel_rfl) (fun _ _ _ h => h) (Or.inl ⟨by rfl, ?_⟩) (by assumption) ?_
        rotate_left
        · intro w hSw; (try dsimp only at hSw); go_simp <;> with_reducible rfl
        try simp only [Act.put, List.setIfInBounds_toArray, List.set_cons_zero, List.set_cons_succ]
        refine wpAnyH_take (i := 4) (oi := _) (v := ?_) (List.getElem?_toArray.trans rfl) (by kernel_rfl) (by kernel_rfl) (by kernel_rfl) (fun _ _ _ h => h) (Or.inl ⟨by rfl, ?_⟩) (by assumption) ?_
        rotate_left
        · intro w hSw; (try dsimp only at hSw); go_simp <;> with_reducible rfl
        try simp only [Act.put, List.setIfInBounds_toArray, List.set_cons_zero, List.set_cons_succ]
        refine wpAnyH_take (i := 5) (oi := _) (v := undef) (List.getElem?_toArray.trans rfl) (by kernel_rfl) (by kernel_rfl) (by kernel_rfl) (fun _ _ _ h => h) (Or.inr ⟨by rfl, rfl⟩) (by assumption) ?_
        try simp only [Act.put, List.setIfInBounds_toArray, List.set_cons_zero, List.set_cons_succ]
        refine wpAnyH_take (i := 6) (oi := _) (v := undef) (List.getElem?_toArray.trans rfl) (by kernel_rfl) (by kernel_rfl) (by kernel_rfl) (fun _ _ _ h => h) (Or.inr ⟨by rfl, rfl⟩) (by assumption) ?_
        try simp only [Act.put, List.setIfInBounds_toArray, List.set_cons_zero, List.set_cons_succ]
        refine wpAnyH_take (i := 7) (oi := _) (v := undef) (List.getElem?_toArray.trans rfl) (by kernel_rfl) (by kernel_rfl) (by kernel_rfl) (fun _ _ _ h => h) (Or.inr ⟨by rfl, rfl⟩) (by assumption) ?_
        try simp only [Act.put, List.setIfInBounds_toArray, List.set_cons_zero, List.set_cons_succ]
        refine wpAnyH_take (i := 8) (oi := _) (v := undef) (List.getElem?_toArray.trans rfl) (by kernel_rfl) (by kernel_rfl) (by kernel_rfl) (fun _ _ _ h => h) (Or.inr ⟨by rfl, rfl⟩) (by assumption) ?_
        try simp only [Act.put, List.setIfInBounds_toArray, List.set_cons_zero, List.set_cons_succ]
        refine wpAnyH_take (i := 9) (oi := _) (v := undef) (List.getElem?_toArray.trans rfl) (by kernel_rfl) (by kernel_rfl) (by kernel_rfl) (fun _ _ _ h => h) (Or.inr ⟨by rfl, rfl⟩) (by assumption) ?_
        try simp only [Act.put, List.setIfInBounds_toArray, List.set_cons_zero, List.set_cons_succ]
        refine wpAnyH_take (i := 10) (oi := _) (v := undef) (List.getElem?_toArray.trans rfl) (by kernel_rfl) (by kernel_rfl) (by kernel_rfl) (fun _ _ _ h => h) (Or.inr ⟨by rfl, rfl⟩) (by assumption) ?_
        try simp only [Act.put, List.setIfInBounds_toArray, List.set_cons_zero, List.set_cons_succ]
        refine wpAnyH_take (i := 11) (oi := _) (v := undef) (List.getElem?_toArray.trans rfl) (by kernel_rfl) (by kernel_rfl) (by kernel_rfl) (fun _ _ _ h => h) (Or.inr ⟨by rfl, rfl⟩) (by assumption) ?_
        try simp only [Act.put, List.setIfInBounds_toArray, List.set_cons_zero, List.set_cons_succ]
        refine wpAnyH_take (i := 12) (oi := _) (v := undef) (List.getElem?_toArray.trans rfl) (by kernel_rfl) (by kernel_rfl) (by kernel_rfl) (fun _ _ _ h => h) (Or.inr ⟨by rfl, rfl⟩) (by assumption) ?_
        try simp only [Act.put, List.setIfInBounds_toArray, List.set_cons_zero, List.set_cons_succ]
        refine wpAnyH_take (i := 13) (oi := _) (v := undef) (List.getElem?_toArray.trans rfl) (by kernel_rfl) (by kernel_rfl) (by kernel_rfl) (fun _ _ _ h => h) (Or.inr ⟨by rfl, rfl⟩) (by assumption) ?_
        try simp only [Act.put, List.setIfInBounds_toArray, List.set_cons_zero, List.set_cons_succ]
        refine wpAnyH_take (i := 14) (oi := _) (v := ?_) (List.getElem?_toArray.trans rfl) (by kernel_rfl) (by kernel_rfl) (by kernel_rfl) (fun _ _ _ h => h) (Or.inl ⟨by rfl, ?_⟩) (by assumption) ?_
        rotate_left
        · intro w hSw; (try dsimp only at hSw); go_simp <;> with_reducible rfl
        try simp only [Act.put, List.setIfInBounds_toArray, List.set_cons_zero, List.set_cons_succ]
        refine wpAnyH_done (by kernel_rfl) ?_ _
        go_wp2
        go_ret
        rw [Hno.out Hbad.out]
        exact ⟨rfl, hU.below (below_drew (Below.refl _ _)), chg_drew hC⟩
    · obtain rfl : i = ns.length := by omega
      have HP := Aside0.mk hP
      clear hP
      go_wp2
      go_ret
      rw [Hyes.out HP.out]
      exact ⟨rfl, hU, hC⟩
end Go.Proofs.Ytmaoadlighjkpaa.Un
