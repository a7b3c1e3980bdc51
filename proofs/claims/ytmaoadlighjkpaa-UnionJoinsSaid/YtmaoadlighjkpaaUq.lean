/- UnionJoins, walked. -/
import Derived.Test.YtmaoadlighjkpaaUp
namespace Go.Proofs.Ytmaoadlighjkpaa.Un
open Go.RowKit Go.Proofs.YtmaoadlighjkpaaW.PrintWords Go.Proofs.YtmaoadlighjkpaaW.PrintLast Go.Proofs.YtmaoadlighjkpaaW.PrintMore
open Go.Proofs.Ytmaoadlighjkpaa.Base Go.Proofs.Ytmaoadlighjkpaa.Map Go.Proofs.Ytmaoadlighjkpaa.Qu Go.Proofs.Ytmaoadlighjkpaa.In Go.Proofs.Ytmaoadlighjkpaa.Ca
set_option linter.unusedVariables false

/-- A union that the call has made since w0, and what stands (S) whatever the union does. -/
structure US (w0 w : World) (p : Nat) (hs : List Int) (S : World → Prop) : Prop where
  mk :: (out : ∃ F vU vS vH, Uni w F p vU vS vH hs ∧ (∀ k, F k → w0.heap.size ≤ k ∧ k < w.heap.size) ∧ Below w0.heap.size w0 w ∧ ∀ W, Chg F w W → S W)
section
variable {w0 w w1 : World} {p : Nat} {hs : List Int} {S : World → Prop}
theorem US.ut (h : US w0 w p hs S) : UT w0 w p hs := by obtain ⟨F, vU, vS, vH, h1, h2, h3, _⟩ := h; exact ⟨F, vU, vS, vH, h1, h2, h3⟩
theorem US.bel (h : US w0 w p hs S) : Below w0.heap.size w0 w := h.ut.bel
theorem US.now (h : US w0 w p hs S) : S w := by obtain ⟨F, vU, vS, vH, h1, h2, h3, h4⟩ := h; exact h4 w (Chg.refl F w)
theorem US.below (h : US w0 w p hs S) (hb : Below w.heap.size w w1) : US w0 w1 p hs S := by
  obtain ⟨F, vU, vS, vH, h1, h2, h3, h4⟩ := h
  exact ⟨F, vU, vS, vH, h1.below hb, fun k hk => ⟨(h2 k hk).1, Nat.lt_of_lt_of_le (h2 k hk).2 hb.size⟩, below_then h3 h3.size hb, fun W hC => h4 W ((Chg.of_below hb F).then_ hC (fun k hk => .inl hk))⟩
theorem US.first (h : UT w0 w p hs) : US w0 w p hs (fun _ => True) := by
  obtain ⟨F, vU, vS, vH, h1, h2, h3⟩ := h
  exact ⟨F, vU, vS, vH, h1, h2, h3, fun _ _ => trivial⟩
theorem US.only {S' : World → Prop} (h : US w0 w p hs S) (hS : ∀ W, S W → S' W) : US w0 w p hs S' := by
  obtain ⟨F, vU, vS, vH, h1, h2, h3, h4⟩ := h
  exact ⟨F, vU, vS, vH, h1, h2, h3, fun W hC => hS W (h4 W hC)⟩
/-- a slice that the call has made since -/
theorem US.add {v : Value} {l : List Int} (h : US w0 w p hs S) (hb : Below w.heap.size w w1) (ho : OwI w1 w.heap.size v l) : US w0 w1 p hs (fun W => S W ∧ RdV W v l) := by
  have h' := h.below hb
  obtain ⟨F, vU, vS, vH, h1, h2, h3, h4⟩ := h
  exact ⟨F, vU, vS, vH, h1.below hb, fun k hk => ⟨(h2 k hk).1, Nat.lt_of_lt_of_le (h2 k hk).2 hb.size⟩, below_then h3 h3.size hb, fun W hC => ⟨h4 W ((Chg.of_below hb F).then_ hC (fun k hk => .inl hk)), st_own ho (fun k hk => (h2 k hk).2) W hC⟩⟩
theorem US.addRows {v : Value} {xs : List (List Int)} (h : US w0 w p hs S) (hb : Below w.heap.size w w1) (ho : Rows2 w1 w.heap.size v xs) : US w0 w1 p hs (fun W => S W ∧ Rows2 W w.heap.size v xs) := by
  obtain ⟨F, vU, vS, vH, h1, h2, h3, h4⟩ := h
  exact ⟨F, vU, vS, vH, h1.below hb, fun k hk => ⟨(h2 k hk).1, Nat.lt_of_lt_of_le (h2 k hk).2 hb.size⟩, below_then h3 h3.size hb, fun W hC => ⟨h4 W ((Chg.of_below hb F).then_ hC (fun k hk => .inl hk)), rows2_step ho hC (fun k hk => .inl (h2 k hk).2)⟩⟩
theorem US.next {F : Nat → Prop} {vU vS vH : Value} {hs' : List Int} (h : Uni w1 F p vU vS vH hs') (hC : Chg F w w1) (h2 : ∀ k, F k → w0.heap.size ≤ k ∧ k < w.heap.size) (h3 : Below w0.heap.size w0 w) (h4 : ∀ W, Chg F w W → S W) : US w0 w1 p hs' S :=
  ⟨F, vU, vS, vH, h, fun k hk => ⟨(h2 k hk).1, Nat.lt_of_lt_of_le (h2 k hk).2 hC.size⟩, h3.trans (hC.below h3.size (fun k hk => (h2 k hk).1)), fun W hW => h4 W (hC.then_ hW (fun k hk => .inl hk))⟩
end
theorem join_us (w0 w : World) (p : Nat) (hs ns : List Int) (u : Value) (S : World → Prop) (h : US w0 w p hs S) (hu : RdV w0 u ns) (hlen : hs.length ≤ 1000000) (hnl : ns.length ≤ 1000000) :
    Calls Try.prog 51 #[.pointer (some ⟨p, 0, none⟩), u] w fun e w' => e = .returned (.bool (decide (joinS hs ns ≠ hs))) ∧ US w0 w' p (joinS hs ns) S := by
  obtain ⟨F, vU, vS, vH, h1, h2, h3, h4⟩ := h
  exact (join_any p F vU vS vH hs ns u w h1 (st_in hu h3 (fun k hk => (h2 k hk).1)) hlen hnl).mono fun e w' ⟨r1, r2, r3⟩ => ⟨r1, US.next r2 r3 h2 h3 h4⟩
theorem head_us (w0 w : World) (p : Nat) (hs : List Int) (n : Int) (S : World → Prop) (h : US w0 w p hs S) :
    Calls Try.prog 52 #[.pointer (some ⟨p, 0, none⟩), .int .i64 n] w fun e w' => e = .returned (.int .i64 (headOf hs n)) ∧ US w0 w' p hs S := by
  obtain ⟨F, vU, vS, vH, h1, h2, h3, h4⟩ := h
  exact (head_any p F vU vS vH hs n w h1).mono fun e w' ⟨r1, r2, r3⟩ => ⟨r1, US.next r2 r3 h2 h3 h4⟩
theorem same_us (w0 w : World) (p : Nat) (hs ns : List Int) (u : Value) (S : World → Prop) (h : US w0 w p hs S) (hu : RdV w0 u ns) :
    Calls Try.prog 49 #[.pointer (some ⟨p, 0, none⟩), u] w fun e w' => e = .returned (.bool (sameB hs ns)) ∧ US w0 w' p hs S := by
  obtain ⟨F, vU, vS, vH, h1, h2, h3, h4⟩ := h
  exact (same_any_u p F vU vS vH hs ns u w h1 (st_in hu h3 (fun k hk => (h2 k hk).1))).mono fun e w' ⟨r1, r2, r3⟩ => ⟨r1, US.next r2 r3 h2 h3 h4⟩
theorem classes_us (w0 w : World) (p : Nat) (hs : List Int) (S : World → Prop) (h : US w0 w p hs S) (hlen : hs.length ≤ 100000) :
    Calls Try.prog 54 #[.pointer (some ⟨p, 0, none⟩)] w fun e w' => ∃ A c, e = .returned (.slice A (cntOf hs) c) ∧ cntOf hs ≤ c ∧ Kd.C (Kd.slice 3 (Kd.int .i64)) w' A (cntOf hs) (classUp hs hs.length) ∧ US w0 w' p hs S := by
  obtain ⟨F, vU, vS, vH, h1, h2, h3, h4⟩ := h
  exact (classes_any p F vU vS vH hs w h1 (fun k hk => (h2 k hk).2) hlen).mono fun e w' ⟨v, r1, r2, r3, r4⟩ => by
    obtain ⟨A, c, rfl, hc, hC⟩ := Kd.S_reads r2
    rw [classUp_len, headsUp_cnt] at r1 hc hC
    exact ⟨A, c, r1, hc, hC, US.next r3 r4 h2 h3 h4⟩
theorem joinS_len (hs ns : List Int) : (joinS hs ns).length = hs.length := by
  unfold joinS
  split
  · exact foldJ_len _ _ _
  · rfl
theorem lists_at2 (A B : Option Addr) (c d N : Nat) (l : List (List Int)) (b : Nat) (w : World) (hN : l.length = N) (hA : Kd.C (Kd.slice 3 (Kd.int .i64)) w A N l) (hc : N ≤ c) (hB : Kd.C (Kd.slice 3 (Kd.int .i64)) w B N l) (hd : N ≤ d) (hl : N ≤ 1000000) (hb : b ≤ 1000000) (hall : ∀ x ∈ l, x.length ≤ b) :
    Calls Try.prog 53 #[.slice A N c, .slice B N d] w fun e w' => e = .returned (.bool true) ∧ Below w.heap.size w w' := by
  subst hN
  exact lists_any A B c d l b w hA hc hB hd hl hb hall
theorem RdR.at_ {w : World} {A : Option Addr} {ls : List (List Int)} (h : RdR w A ls) (i : Nat) (hi : i < ls.length) :
    ∃ ad A' c', A = some ad ∧ w.cell? (ad.add i) = some (.slice A' (ls.getD i []).length c') ∧ RdV w (.slice A' (ls.getD i []).length c') (ls.getD i []) := by
  obtain ⟨ad, rfl, hat⟩ := h.2.2 (by omega)
  have e : ls[i]? = some (ls.getD i []) := by simp [hi]
  obtain ⟨c, hcl, ⟨A', c', rfl, hl, hC⟩, hcc⟩ := hat i _ e
  refine ⟨ad, A', c', rfl, ?_, RdI.toV ⟨hC⟩ hl⟩
  have := hcc 0 _ rfl
  simpa [Kd.slice] using this
theorem headOf_want (hs : List Int) (n : Nat) (hl : hs.length = n) (i : Int) (h0 : -1 ≤ i) (h1 : i ≤ n) : (0 ≤ i ∧ i < n → headOf hs i = rd hs i) ∧ (¬ (0 ≤ i ∧ i < n) → headOf hs i = -1) := by
  unfold headOf
  rw [hl]
  exact ⟨fun h => if_pos h, fun h => if_neg h⟩

set_option maxHeartbeats 8000000 in
set_option maxRecDepth 100000 in
theorem unionJoins_walk (n : Int) (L : List (List Int)) (ask : List Int) (A B : Option Addr) (c d : Nat) (w : World) (hc : L.length ≤ c) (hr : RdR w A L) (hd : ask.length ≤ d) (hra : RdI w B ask) :
    Calls Try.prog 16 #[.int .i64 n, .slice A L.length c, .slice B ask.length d] w fun e w' => e = .returned (.bool true) ∧ Below w.heap.size w w' := by
  have hask := hra.toV hd
  by_cases hbig : (100 : Int) < n ∨ (40 : Int) < L.length ∨ (20 : Int) < ask.length
  · by_cases b1 : (100 : Int) < n
    · go_enter Try.func16, Try.ntmps16
      go_wp2_with fail
      refine (awake_un _).mono ?_
      rintro e w1 ⟨rfl, h1⟩
      go_wp2_with fail
      refine (awake_un _).mono ?_
      rintro e w2 ⟨rfl, h2⟩
      go_wp2
      go_ret
      exact ⟨rfl, bel_trans h1 h2⟩
    · by_cases b2 : (40 : Int) < L.length
      · go_enter Try.func16, Try.ntmps16
        go_wp2_with fail
        refine (awake_un _).mono ?_
        rintro e w1 ⟨rfl, h1⟩
        go_wp2_with fail
        refine (awake_un _).mono ?_
        rintro e w2 ⟨rfl, h2⟩
        go_wp2
        go_ret
        exact ⟨rfl, bel_trans h1 h2⟩
      · have b3 : (20 : Int) < ask.length := by omega
        go_enter Try.func16, Try.ntmps16
        go_wp2_with fail
        refine (awake_un _).mono ?_
        rintro e w1 ⟨rfl, h1⟩
        go_wp2_with fail
        refine (awake_un _).mono ?_
        rintro e w2 ⟨rfl, h2⟩
        go_wp2
        go_ret
        exact ⟨rfl, bel_trans h1 h2⟩
  · have b1 : ¬ (100 : Int) < n := by omega
    have b2 : ¬ (40 : Int) < L.length := by omega
    have b3 : ¬ (20 : Int) < ask.length := by omega
    clear hbig
    have Hc := Aside0.mk hc
    have Hd := Aside0.mk hd
    clear hc hd
    by_cases hn : n < 0
    · go_enter Try.func16, Try.ntmps16
      go_wp2_with fail
      refine (awake_un _).mono ?_
      rintro e w1 ⟨rfl, h1⟩
      go_wp2_with fail
      refine (new_bad n _ (.inl hn)).mono ?_
      rintro e w2 ⟨rfl, rfl⟩
      go_wp2
      go_ret
      exact ⟨rfl, h1⟩
    · obtain ⟨m, rfl⟩ : ∃ m : Nat, n = (m : Int) := ⟨n.toNat, by omega⟩
      have hm : m ≤ 100 := by omega
      have n0 : (0 : Int) ≤ (m : Int) := by omega
      go_enter Try.func16, Try.ntmps16
      go_wp2_with fail
      refine (awake_un _).mono ?_
      rintro e w1 ⟨rfl, h1⟩
      go_wp2_with fail
      refine (new_ut w w1 h1 m (by omega)).mono ?_
      rintro e w2 ⟨rfl, h2⟩
      generalize w1.heap.size = p at *
      have h2 := US.first h2
      go_wp2_with fail
      refine (refNew_any m (by omega) w2).mono ?_
      rintro e w3 ⟨v3, rfl, r1, r2⟩
      have h3 := h2.add r2 r1
      have hl0 := rng_len m
      generalize rngL m = hs0 at *
      clear h1 h2 r1 r2
      go_wp2_with fail
      go_loopw [10, 9] (fun I V wr => ∃ (i : Nat) (hs : List Int), I = .int .i64 (i : Int) ∧ i ≤ L.length ∧ hs.length = m ∧ US w wr p hs (fun W => RdV W V hs)) (fun I _ _ => L.length - (intOf I).toNat)
      case atStart => exact ⟨0, hs0, rfl, Nat.zero_le _, hl0, h3.only (fun W h => h.2)⟩
      case round =>
        clear h3 hl0
        obtain ⟨i, hs, rfl, hi, hl, hQ⟩ := hrel
        by_cases hlt : i < L.length
        · obtain ⟨ad, A', c', hA, hx0, hrx0⟩ := RdR.at_ hr i hlt
          have hB := hQ.bel
          have hx := pw_cell_below (w := w) hB hx0
          generalize L.getD i [] = ns at *
          subst hA
          have i0 : (0 : Int) ≤ (i : Int) := by omega
          have i1 : (i : Int) < (L.length : Int) := by omega
          by_cases h20 : (20 : Int) < ns.length
          · go_wp2
            go_ret
            exact ⟨rfl, hB⟩
          · have hJl := joinS_len hs ns
            obtain ⟨J, hJ⟩ : ∃ J, joinS hs ns = J := ⟨_, rfl⟩
            rw [hJ] at hJl
            have HJ := Aside0.mk hJ
            have hml : hs.length ≤ 1000000 := by omega
            have hnl : ns.length ≤ 1000000 := by omega
            have Hl := Aside0.mk (hJl.trans hl)
            have hbb : decide (J ≠ hs) = (!(J == hs)) := by
              by_cases e : J = hs
              · subst e; simp
              · simp [e]
            obtain ⟨b, hb⟩ : ∃ b, (J == hs) = b := ⟨_, rfl⟩
            rw [hb] at hbb
            have Hb := Aside0.mk hb
            have Hbb := Aside0.mk hbb
            clear hJ hJl hb hbb hl
            go_wp2_with fail
            refine (refJoin_any u9 _ hs ns wr hQ.now (hrx0.below hB) hml hnl).mono ?_
            rintro e w5 ⟨v5, rfl, r1, r2⟩
            rw [HJ.out] at r1
            have h5 := hQ.add r2 r1
            have hx5 := pw_cell_below (w := w) h5.bel hx0
            clear r1 r2 hx hQ hB
            go_wp2_with fail
            refine (join_us w w5 p hs ns _ _ h5 hrx0 hml hnl).mono ?_
            rintro e w6 ⟨rfl, h6⟩
            rw [HJ.out] at h6 ⊢
            rw [Hbb.out]
            clear hx5 h5
            go_wp2_with fail
            refine (same_any v5 u9 J hs w6 h6.now.2 h6.now.1).mono ?_
            rintro e w7 ⟨rfl, r7⟩
            rw [Hb.out]
            have h7 := h6.below r7
            clear h6 r7
            cases b
            all_goals
              go_wp2_with fail
              go_roundw
              case rel => exact ⟨i + 1, J, by go_num, by omega, Hl.out, h7.only (fun W h => h.2)⟩
              case measure => simp [intOf]; omega
        · obtain rfl : i = L.length := by omega
          subst hl
          obtain ⟨H, cH, rfl, hcH, _⟩ := hQ.now
          have Hm := Aside0.mk hm
          have HcH := Aside0.mk hcH
          have Hcl := Aside0.mk (show (classUp hs hs.length).length = cntOf hs by rw [classUp_len, headsUp_cnt])
          have Hle := Aside0.mk (class_le hs hs.length)
          have Hcn := Aside0.mk (cnt_le hs)
          clear hcH
          go_wp2_with fail
          go_loopw [12] (fun I wx => ∃ q : Int, I = .int .i64 q ∧ -1 ≤ q ∧ q ≤ (hs.length : Int) + 1 ∧ US w wx p hs (fun W => RdV W (.slice H hs.length cH) hs)) (fun I _ => ((hs.length : Int) + 1 - intOf I).toNat)
          case atStart => exact ⟨-1, rfl, by omega, by omega, hQ⟩
          case round =>
            clear hQ
            obtain ⟨q, rfl, hq0, hq1, hQ⟩ := hrel
            by_cases hqm : q ≤ (hs.length : Int)
            · obtain ⟨g1, g2⟩ := headOf_want hs hs.length rfl q hq0 hqm
              by_cases hqi : 0 ≤ q ∧ q < (hs.length : Int)
              · have G1 := Aside0.mk (g1 hqi)
                obtain ⟨q0, q1⟩ := hqi
                obtain ⟨H2, cH2, he, _, hrH⟩ := hQ.now
                injection he with he1 _ he3
                subst he1
                subst he3
                obtain ⟨ah, hH, hcell⟩ := hrH.at_ q q0 q1
                subst hH
                clear g1 g2 hrH
                go_wp2_with fail
                refine (head_us w wr p hs q _ hQ).mono ?_
                rintro e w5 ⟨rfl, h5⟩
                rw [G1.out]
                go_wp2_with fail
                go_roundw
                case rel => exact ⟨q + 1, by go_num, by omega, by omega, h5⟩
                case measure => simp [intOf]; omega
              · have G2 := Aside0.mk (g2 hqi)
                clear g1 g2
                by_cases q0 : 0 ≤ q
                · have q1 : ¬ q < (hs.length : Int) := fun h => hqi ⟨q0, h⟩
                  go_wp2_with fail
                  refine (head_us w wr p hs q _ hQ).mono ?_
                  rintro e w5 ⟨rfl, h5⟩
                  rw [G2.out]
                  go_wp2_with fail
                  go_roundw
                  case rel => exact ⟨q + 1, by go_num, by omega, by omega, h5⟩
                  case measure => simp [intOf]; omega
                · go_wp2_with fail
                  refine (head_us w wr p hs q _ hQ).mono ?_
                  rintro e w5 ⟨rfl, h5⟩
                  rw [G2.out]
                  go_wp2_with fail
                  go_roundw
                  case rel => exact ⟨q + 1, by go_num, by omega, by omega, h5⟩
                  case measure => simp [intOf]; omega
            · have hqe : q = (hs.length : Int) + 1 := by omega
              subst hqe
              have hB := hQ.bel
              go_wp2_with fail
              refine (refThere_any _ _ hs ask wr hQ.now (hask.below hB) (by omega)).mono ?_
              rintro e w5 ⟨rfl, r5⟩
              have h5 := hQ.below r5
              obtain ⟨al, hal⟩ : ∃ b, decide (allIn hs ask) = b := ⟨_, rfl⟩
              rw [hal]
              have Hal := Aside0.mk hal
              clear r5 hal hQ
              go_wp2_with fail
              go_loopw [14, 15] (fun V I wy => ∃ (b : Bool) (i : Nat), V = .bool b ∧ I = .int .i64 (i : Int) ∧ i ≤ ask.length ∧ Aside0 (b = decide (allIn hs ask ∧ ∀ j, j < i → rd hs (rd ask (j : Int)) = rd hs (rd ask ((0 : Nat) : Int)))) ∧ US w wy p hs (fun W => RdV W (.slice H hs.length cH) hs)) (fun _ I _ => ask.length - (intOf I).toNat)
              case atStart => exact ⟨al, 0, rfl, rfl, Nat.zero_le _, ⟨by rw [← Hal.out]; exact decide_eq_decide.2 ⟨fun h => ⟨h, fun j hj => absurd hj (Nat.not_lt_zero j)⟩, fun h => h.1⟩⟩, h5⟩
              case round =>
                clear h5 Hal
                obtain ⟨b, i, rfl, rfl, hi, hb, hQ⟩ := hrel
                cases b with
                | false =>
                  have hsame : sameB hs ask = false := by
                    have h1 := of_decide_eq_false hb.out.symm
                    exact decide_eq_false (fun h => h1 ⟨fun k hk => (h k hk).1, fun j hj => (h j (by omega)).2⟩)
                  clear hb
                  go_wp2_with fail
                  refine (refClasses_any _ hs wr hQ.now (by have := Hm.out; omega)).mono ?_
                  rintro e w5 ⟨v6, rfl, s1, s2⟩
                  have h5 := hQ.addRows s2 s1
                  obtain ⟨A6, c6, rfl⟩ := Kd.S_slice s1
                  rw [Hcl.out] at h5 ⊢
                  clear s1 s2 hQ
                  go_wp2_with fail
                  refine (same_us w w5 p hs ask _ _ h5 hask).mono ?_
                  rintro e w6 ⟨rfl, h6⟩
                  rw [hsame]
                  go_wp2_with fail
                  refine (count_ut w w6 p hs h6.ut).mono ?_
                  rintro e w7 ⟨rfl, rfl⟩
                  go_wp2_with fail
                  refine (classes_us w w6 p hs _ h6 (by have := Hm.out; omega)).mono ?_
                  rintro e w7 ⟨A7, c7, rfl, hc7, hC7, h7⟩
                  obtain ⟨hx8, hc8, hC8⟩ := Kd.S_reads' h7.now.2
                  clear hx8
                  rw [Hcl.out] at hC8
                  go_wp2_with fail
                  refine (lists_at2 A7 A6 c7 c6 (cntOf hs) (classUp hs hs.length) hs.length w7 Hcl.out hC7 hc7 hC8 hc8 (by have := Hcn.out; have := Hm.out; omega) (by have := Hm.out; omega) Hle.out).mono ?_
                  rintro e w8 ⟨rfl, h8⟩
                  have hBe := bel_trans h7.bel h8
                  clear hC7 hC8 h5 h6 h7 h8
                  go_wp2
                  go_ret
                  exact ⟨rfl, hBe⟩
                | true =>
                  obtain ⟨hin, hpre⟩ := of_decide_eq_true hb.out.symm
                  clear hb
                  by_cases hlt : i < ask.length
                  · obtain ⟨a0, a1⟩ := hin i hlt
                    obtain ⟨f0, f1⟩ := hin 0 (by omega)
                    have hB := hQ.bel
                    obtain ⟨ab, hAb, ca⟩ := (hra.below hB).at_ (i : Int) (by omega) (by omega)
                    obtain ⟨ab2, hAb2, cf⟩ := (hra.below hB).at_ ((0 : Nat) : Int) (by omega) (by omega)
                    subst hAb
                    injection hAb2 with hAb2
                    subst hAb2
                    rw [Int.toNat_natCast] at ca cf
                    rw [add_nil] at cf
                    obtain ⟨H2, cH2, he, _, hrH⟩ := hQ.now
                    injection he with he1 _ he3
                    subst he1
                    subst he3
                    obtain ⟨ah, hH, h1c⟩ := hrH.at_ _ a0 a1
                    obtain ⟨ah2, hH2, h2c⟩ := hrH.at_ _ f0 f1
                    subst hH
                    injection hH2 with hH2
                    subst hH2
                    have hnext : decide (rd hs (rd ask (i : Int)) = rd hs (rd ask ((0 : Nat) : Int))) = decide (allIn hs ask ∧ ∀ j, j < i + 1 → rd hs (rd ask (j : Int)) = rd hs (rd ask ((0 : Nat) : Int))) := by
                      apply decide_eq_decide.2
                      constructor
                      · intro e
                        refine ⟨hin, fun j hj => ?_⟩
                        rcases Nat.lt_or_ge j i with h | h
                        · exact hpre j h
                        · obtain rfl : j = i := by omega
                          exact e
                      · intro e
                        exact e.2 i (by omega)
                    have Hnext := Aside0.mk hnext
                    have k0 : (0 : Int) ≤ (i : Int) := by omega
                    have k1 : (i : Int) < (ask.length : Int) := by omega
                    have k2 : (0 : Int) < (ask.length : Int) := by omega
                    have k3 : 0 < ask.length := by omega
                    clear hnext hin hpre hrH
                    generalize rd ask (i : Int) = x at *
                    generalize rd ask ((0 : Nat) : Int) = y at *
                    go_wp2_with fail
                    go_quiet (fail)
                    have h6 := hQ.below (pw_below_drewN (Below.refl _ _) nq)
                    go_wp2_with fail
                    go_roundw
                    case rel => exact ⟨_, i + 1, rfl, by go_num, by omega, ⟨Hnext.out⟩, h6⟩
                    case measure => simp [intOf]; omega
                  · have hsame : sameB hs ask = true := decide_eq_true (fun k hk => ⟨hin k hk, hpre k (by omega)⟩)
                    clear hin hpre
                    go_wp2_with fail
                    refine (refClasses_any _ hs wr hQ.now (by have := Hm.out; omega)).mono ?_
                    rintro e w5 ⟨v6, rfl, s1, s2⟩
                    have h5 := hQ.addRows s2 s1
                    obtain ⟨A6, c6, rfl⟩ := Kd.S_slice s1
                    rw [Hcl.out] at h5 ⊢
                    clear s1 s2 hQ
                    go_wp2_with fail
                    refine (same_us w w5 p hs ask _ _ h5 hask).mono ?_
                    rintro e w6 ⟨rfl, h6⟩
                    rw [hsame]
                    go_wp2_with fail
                    refine (count_ut w w6 p hs h6.ut).mono ?_
                    rintro e w7 ⟨rfl, rfl⟩
                    go_wp2_with fail
                    refine (classes_us w w6 p hs _ h6 (by have := Hm.out; omega)).mono ?_
                    rintro e w7 ⟨A7, c7, rfl, hc7, hC7, h7⟩
                    obtain ⟨hx8, hc8, hC8⟩ := Kd.S_reads' h7.now.2
                    clear hx8
                    rw [Hcl.out] at hC8
                    go_wp2_with fail
                    refine (lists_at2 A7 A6 c7 c6 (cntOf hs) (classUp hs hs.length) hs.length w7 Hcl.out hC7 hc7 hC8 hc8 (by have := Hcn.out; have := Hm.out; omega) (by have := Hm.out; omega) Hle.out).mono ?_
                    rintro e w8 ⟨rfl, h8⟩
                    have hBe := bel_trans h7.bel h8
                    clear hC7 hC8 h5 h6 h7 h8
                    go_wp2
                    go_ret
                    exact ⟨rfl, hBe⟩
end Go.Proofs.Ytmaoadlighjkpaa.Un
