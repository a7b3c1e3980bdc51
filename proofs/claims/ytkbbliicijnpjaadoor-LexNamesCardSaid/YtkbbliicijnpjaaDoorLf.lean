/- lex: step (printed by gen_lf.py). -/
import Derived.Test.YtkbbliicijnpjaaDoorLe
namespace Go.Proofs.YtkbbliicijnpjaaDoor.Lx
open Go.RowKit Go.Proofs.YtkbbliicijnpjaaDoorW.PrintWords Go.Proofs.YtkbbliicijnpjaaDoorW.PrintLast Go.Proofs.YtkbbliicijnpjaaDoorW.PrintMore
open Go.Proofs.YtkbbliicijnpjaaDoor.Base Go.Proofs.YtkbbliicijnpjaaDoor.PLexTokens Go.Proofs.YtkbbliicijnpjaaDoor.PLexNames Go.Proofs.YtkbbliicijnpjaaDoor.Map
set_option linter.unusedVariables false

/-- between tokens -/
def spB (c : Int) : Bool := decide (0 ≤ idxB { data := #[32, 9, 13, 10] } c)
/-- a sign of one octet -/
def sgB (c : Int) : Bool := decide (0 ≤ idxB { data := #[123, 125, 40, 41, 91, 93, 59, 44, 61, 46, 60, 43, 45] } c)
/-- two colons ahead -/
def preB (s : ByteArray) : Bool := if 2 ≤ s.size then (s.extract 0 2).toList == ({ data := #[58, 58] } : ByteArray).toList else false
theorem pre_f (s : ByteArray) : strings_HasPrefix.f s { data := #[58, 58] } = some (preB s) := by
  unfold strings_HasPrefix.f stringslite_HasPrefix.f preB
  have h2 : ({ data := #[58, 58] } : ByteArray).size = 2 := rfl
  rw [h2]
  by_cases h : 2 ≤ s.size
  · rw [if_pos (by omega), if_pos (by omega), if_pos (by omega), if_pos h]
    rfl
  · rw [if_neg (by omega), if_neg h]
    rfl
theorem pre_any (s : ByteArray) (w : World) : Calls Tryd.prog 69 #[.string s, .string { data := #[58, 58] }] w fun e w' => e = .returned (.bool (preB s)) ∧ Below w.heap.size w w' :=
  (strings_HasPrefix.calls s _ (preB s) w (pre_f s)).mono fun e w' h => ⟨h.1, h.2.below⟩

/-- what one step takes: its kind (-1: no token), its length, the error -/
inductive StepS (s : ByteArray) : Int → Nat → Int → Prop
  | sp : spB (bt s 0) = true → StepS s (-1) 1 0
  | rem (n : Nat) : spB (bt s 0) = false → bt s 0 = 35 → Run (fun c => c != 10) s n → StepS s (-1) n 0
  | word (n : Nat) : spB (bt s 0) = false → bt s 0 ≠ 35 → letB (bt s 0) = true → Run (fun c => letB c || digB c) s n → n ≤ 32 → StepS s 0 n 0
  | wordBig (n : Nat) : spB (bt s 0) = false → bt s 0 ≠ 35 → letB (bt s 0) = true → Run (fun c => letB c || digB c) s n → 32 < n → StepS s 0 n 13
  | num (n : Nat) : spB (bt s 0) = false → bt s 0 ≠ 35 → letB (bt s 0) = false → digB (bt s 0) = true → Run (fun c => digB c) s n → n ≤ 3 → StepS s 1 n 0
  | numBig (n : Nat) : spB (bt s 0) = false → bt s 0 ≠ 35 → letB (bt s 0) = false → digB (bt s 0) = true → Run (fun c => digB c) s n → 3 < n → StepS s 1 n 13
  | two : spB (bt s 0) = false → bt s 0 ≠ 35 → letB (bt s 0) = false → digB (bt s 0) = false → preB s = true → StepS s 2 2 0
  | sign : spB (bt s 0) = false → bt s 0 ≠ 35 → letB (bt s 0) = false → digB (bt s 0) = false → preB s = false → sgB (bt s 0) = true → StepS s 2 1 0
  | bad : spB (bt s 0) = false → bt s 0 ≠ 35 → letB (bt s 0) = false → digB (bt s 0) = false → preB s = false → sgB (bt s 0) = false → StepS s (-1) 1 10

/-- what it leaves -/
def Left (w w' : World) (b : Nat) (l c : Int) (s : ByteArray) (out : List S33) (k : Int) (n : Nat) (e : Int) : Prop :=
  Below b w w' ∧ ((e ≠ 0 ∧ Scn w' b l c s out) ∨ (e = 0 ∧ n ≤ s.size ∧ Scn w' b (placeF s (l, c) n).1 (placeF s (l, c) n).2 (s.extract n s.size) (if 0 ≤ k then out ++ [⟨k, s.extract 0 n, ⟨l, c⟩⟩] else out)))

theorem step_pass {w w' : World} {b : Nat} {l c : Int} {s : ByteArray} {vs : Value} {out : List S33} {n : Nat} (hb : w.heap[b]? = some (.cells #[.int .i64 l, .int .i64 c, .string s, vs] 81 (0, 0))) (hT : Toks w b vs out) (hn : n ≤ s.size)
    (h : w'.heap[b]? = some (.cells #[.int .i64 (placeF s (l, c) n).1, .int .i64 (placeF s (l, c) n).2, .string (s.extract n s.size), vs] 81 (0, 0))) (hC : Chg (fun k => k = b) w w') : Left w w' b l c s out (-1) n 0 :=
  ⟨hC.below (Nat.le_of_lt (blk_lt hb)) (fun k hk => Nat.le_of_eq hk.symm), .inr ⟨rfl, hn, vs, h, hT.chg hC hb⟩⟩
theorem Left.pre {w w1 w' : World} {b : Nat} {l c : Int} {s : ByteArray} {out : List S33} {k : Int} {n : Nat} {e : Int} (h : Left w1 w' b l c s out k n e) (hB : Below w.heap.size w w1) (hb : b ≤ w.heap.size) : Left w w' b l c s out k n e := ⟨(below_low hB hb).trans h.1, h.2⟩

set_option maxHeartbeats 4000000 in
set_option maxRecDepth 100000 in
theorem step_any (b : Nat) (l c : Int) (s : ByteArray) (out : List S33) (w : World) (h : Scn w b l c s out) (hz : 0 < s.size) (hs : s.size ≤ 100000) (ho : out.length ≤ 1000000) :
    Calls Tryd.prog 42 #[.pointer (some ⟨b, 0, none⟩)] w fun e w' => ∃ k n er, e = .returned (.int .i64 er) ∧ StepS s k n er ∧ Left w w' b l c s out k n er := by
  obtain ⟨vs, hb, hT⟩ := h
  have Hsc : Aside0 (Scn w b l c s out) := ⟨⟨vs, hb, hT⟩⟩
  have c2 := cell_of hb 2 _ rfl
  have hx : ∀ h : 0 < s.size, ((s[0].toNat : Nat) : Int) = bt s 0 := fun h => bt_at s 0 h
  have hz1 : (0 : Int) < (s.size : Int) := by omega
  have Hb := Aside0.mk hb
  have HT := Aside0.mk hT
  have Hs := Aside0.mk hs
  have Ho := Aside0.mk ho
  have Hz := Aside0.mk hz
  have Hbl := Aside0.mk (Nat.le_of_lt (blk_lt hb))
  clear hb hT hs ho
  replace hz := eq_true hz
  replace hz1 := eq_true hz1
  cases hsp : spB (bt s 0) with
  | true =>
    have hd : decide (0 ≤ idxB { data := #[32, 9, 13, 10] } (bt s 0)) = true := hsp
    have Hsp := Aside0.mk hsp
    clear hsp
    go_enter Tryd.func42, Tryd.ntmps42
    go_wp2_with (first | (go_at_call 63; (with_reducible refine (ib_any _ _ _).mono ?_); rintro e w0 ⟨rfl, rfl⟩))
    refine (pass_any b l c s vs 1 _ Hb.out Hz.out Hs.out).mono ?_
    rintro e w1 ⟨rfl, h1, hC⟩
    have H1 := Aside0.mk h1
    clear h1
    go_wp2_with fail
    go_ret
    exact ⟨_, _, _, rfl, .sp Hsp.out, step_pass Hb.out HT.out Hz.out H1.out hC⟩
  | false =>
    have hd : decide (0 ≤ idxB { data := #[32, 9, 13, 10] } (bt s 0)) = false := hsp
    have Hsp := Aside0.mk hsp
    clear hsp
    by_cases hr : bt s 0 = 35
    · have hq : (bt s 0 == 35) = true := by simpa using hr
      have Hr := Aside0.mk hr
      clear hr
      go_enter Tryd.func42, Tryd.ntmps42
      go_wp2_with (first | (go_at_call 63; (with_reducible refine (ib_any _ _ _).mono ?_); rintro e w0 ⟨rfl, rfl⟩))
      refine (while87_any b _ _ s vs _ Hb.out Hs.out).mono ?_
      rintro e w1 ⟨n, rfl, hrun, hB1⟩
      have HR := Aside0.mk hrun
      clear hrun
      go_wp2_with fail
      refine (pass_any b l c s vs n _ (blk_belowL Hb.out hB1) HR.out.le Hs.out).mono ?_
      rintro e w2 ⟨rfl, h2, hC⟩
      have H2 := Aside0.mk h2
      clear h2
      go_wp2_with fail
      go_ret
      exact ⟨_, _, _, rfl, .rem n Hsp.out Hr.out HR.out, (step_pass (blk_belowL Hb.out hB1) (HT.out.below hB1) HR.out.le H2.out hC).pre hB1 Hbl.out⟩
    · have hq : (bt s 0 == 35) = false := by simpa using hr
      have Hr := Aside0.mk hr
      clear hr
      cases hlet : letB (bt s 0) with
      | true =>
        have Hlet := Aside0.mk hlet
        clear hlet
        go_enter Tryd.func42, Tryd.ntmps42
        go_wp2_with (first | (go_at_call 63; (with_reducible refine (ib_any _ _ _).mono ?_); rintro e w0 ⟨rfl, rfl⟩) | (go_at_call 39; (with_reducible refine (let_any _ _).mono ?_); rintro e w1 ⟨rfl, hB1⟩; rw [Hlet.out]; have c2a := bel_cell hB1 c2))
        refine (word_any b l c s out _ (Hsc.out.below hB1) Hs.out Ho.out).mono ?_
        rintro e w2 ⟨n, hrun, hor⟩
        have HR := Aside0.mk hrun
        clear hrun
        rcases hor with ⟨hn, rfl, hB2⟩ | ⟨hn, rfl, h2, hB2⟩
        · have Hn := Aside0.mk hn
          clear hn
          go_wp2_with fail
          go_ret
          exact ⟨_, _, _, rfl, .wordBig n Hsp.out Hr.out Hlet.out HR.out Hn.out, below_low (bel_trans hB1 hB2) Hbl.out, .inl ⟨by decide, Hsc.out.below (bel_trans hB1 hB2)⟩⟩
        · have Hn := Aside0.mk hn
          have H2 := Aside0.mk h2
          clear hn h2
          go_wp2_with fail
          go_ret
          exact ⟨_, _, _, rfl, .word n Hsp.out Hr.out Hlet.out HR.out Hn.out, (below_low hB1 Hbl.out).trans hB2, .inr ⟨rfl, HR.out.le, H2.out⟩⟩
      | false =>
        have Hlet := Aside0.mk hlet
        clear hlet
        cases hdig : digB (bt s 0) with
        | true =>
          have Hdig := Aside0.mk hdig
          clear hdig
          go_enter Tryd.func42, Tryd.ntmps42
          go_wp2_with (first | (go_at_call 63; (with_reducible refine (ib_any _ _ _).mono ?_); rintro e w0 ⟨rfl, rfl⟩) | (go_at_call 39; (with_reducible refine (let_any _ _).mono ?_); rintro e w1 ⟨rfl, hB1⟩; rw [Hlet.out]; have c2a := bel_cell hB1 c2) | (go_at_call 40; (with_reducible refine (dig_any _ _).mono ?_); rintro e w2 ⟨rfl, hB2⟩; rw [Hdig.out]; have c2b := bel_cell hB2 c2a))
          have hB12 := bel_trans hB1 hB2
          refine (number_any b l c s out _ (Hsc.out.below hB12) Hs.out Ho.out).mono ?_
          rintro e w3 ⟨n, hrun, hor⟩
          have HR := Aside0.mk hrun
          clear hrun
          rcases hor with ⟨hn, rfl, hB3⟩ | ⟨hn, rfl, h3, hB3⟩
          · have Hn := Aside0.mk hn
            clear hn
            go_wp2_with fail
            go_ret
            exact ⟨_, _, _, rfl, .numBig n Hsp.out Hr.out Hlet.out Hdig.out HR.out Hn.out, below_low (bel_trans hB12 hB3) Hbl.out, .inl ⟨by decide, Hsc.out.below (bel_trans hB12 hB3)⟩⟩
          · have Hn := Aside0.mk hn
            have H3 := Aside0.mk h3
            clear hn h3
            go_wp2_with fail
            go_ret
            exact ⟨_, _, _, rfl, .num n Hsp.out Hr.out Hlet.out Hdig.out HR.out Hn.out, (below_low hB12 Hbl.out).trans hB3, .inr ⟨rfl, HR.out.le, H3.out⟩⟩
        | false =>
          have Hdig := Aside0.mk hdig
          clear hdig
          cases hpre : preB s with
          | true =>
            have h2 : Aside0 (2 ≤ s.size) := ⟨by
              unfold preB at hpre
              by_cases h : 2 ≤ s.size
              · exact h
              · rw [if_neg h] at hpre; cases hpre⟩
            have Hpre := Aside0.mk hpre
            clear hpre
            go_enter Tryd.func42, Tryd.ntmps42
            go_wp2_with (first | (go_at_call 63; (with_reducible refine (ib_any _ _ _).mono ?_); rintro e w0 ⟨rfl, rfl⟩) | (go_at_call 39; (with_reducible refine (let_any _ _).mono ?_); rintro e w1 ⟨rfl, hB1⟩; rw [Hlet.out]; have c2a := bel_cell hB1 c2) | (go_at_call 40; (with_reducible refine (dig_any _ _).mono ?_); rintro e w2 ⟨rfl, hB2⟩; rw [Hdig.out]; have c2b := bel_cell hB2 c2a) | (go_at_call 69; (with_reducible refine (pre_any _ _).mono ?_); rintro e w3 ⟨rfl, hB3⟩; rw [Hpre.out]))
            have hB13 := bel_trans (bel_trans hB1 hB2) hB3
            refine (put_any b l c s vs out 2 2 _ (blk_belowL Hb.out hB13) (HT.out.below hB13) h2.out Hs.out Ho.out).mono ?_
            rintro e w4 ⟨vs4, rfl, h4, hT4, hB4⟩
            have H4 : Aside0 (Scn _ b _ _ _ _) := ⟨⟨vs4, h4, hT4⟩⟩
            clear h4 hT4
            go_wp2_with fail
            go_ret
            exact ⟨_, _, _, rfl, .two Hsp.out Hr.out Hlet.out Hdig.out Hpre.out, (below_low hB13 Hbl.out).trans hB4, .inr ⟨rfl, h2.out, H4.out⟩⟩
          | false =>
            have Hpre := Aside0.mk hpre
            clear hpre
            cases hsg : sgB (bt s 0) with
            | true =>
              have hd2 : decide (0 ≤ idxB { data := #[123, 125, 40, 41, 91, 93, 59, 44, 61, 46, 60, 43, 45] } (bt s 0)) = true := hsg
              have Hsg := Aside0.mk hsg
              clear hsg
              go_enter Tryd.func42, Tryd.ntmps42
              go_wp2_with (first | (go_at_call 63; (with_reducible refine (ib_any _ _ _).mono ?_); rintro e w0 ⟨rfl, rfl⟩) | (go_at_call 39; (with_reducible refine (let_any _ _).mono ?_); rintro e w1 ⟨rfl, hB1⟩; rw [Hlet.out]; have c2a := bel_cell hB1 c2) | (go_at_call 40; (with_reducible refine (dig_any _ _).mono ?_); rintro e w2 ⟨rfl, hB2⟩; rw [Hdig.out]; have c2b := bel_cell hB2 c2a) | (go_at_call 69; (with_reducible refine (pre_any _ _).mono ?_); rintro e w3 ⟨rfl, hB3⟩; rw [Hpre.out]))
              have hB13 := bel_trans (bel_trans hB1 hB2) hB3
              refine (put_any b l c s vs out 2 1 _ (blk_belowL Hb.out hB13) (HT.out.below hB13) Hz.out Hs.out Ho.out).mono ?_
              rintro e w4 ⟨vs4, rfl, h4, hT4, hB4⟩
              have H4 : Aside0 (Scn _ b _ _ _ _) := ⟨⟨vs4, h4, hT4⟩⟩
              clear h4 hT4
              go_wp2_with fail
              go_ret
              exact ⟨_, _, _, rfl, .sign Hsp.out Hr.out Hlet.out Hdig.out Hpre.out Hsg.out, (below_low hB13 Hbl.out).trans hB4, .inr ⟨rfl, Hz.out, H4.out⟩⟩
            | false =>
              have hd2 : decide (0 ≤ idxB { data := #[123, 125, 40, 41, 91, 93, 59, 44, 61, 46, 60, 43, 45] } (bt s 0)) = false := hsg
              have Hsg := Aside0.mk hsg
              clear hsg
              go_enter Tryd.func42, Tryd.ntmps42
              go_wp2_with (first | (go_at_call 63; (with_reducible refine (ib_any _ _ _).mono ?_); rintro e w0 ⟨rfl, rfl⟩) | (go_at_call 39; (with_reducible refine (let_any _ _).mono ?_); rintro e w1 ⟨rfl, hB1⟩; rw [Hlet.out]; have c2a := bel_cell hB1 c2) | (go_at_call 40; (with_reducible refine (dig_any _ _).mono ?_); rintro e w2 ⟨rfl, hB2⟩; rw [Hdig.out]; have c2b := bel_cell hB2 c2a) | (go_at_call 69; (with_reducible refine (pre_any _ _).mono ?_); rintro e w3 ⟨rfl, hB3⟩; rw [Hpre.out]))
              have hB13 := bel_trans (bel_trans hB1 hB2) hB3
              go_ret
              exact ⟨_, _, _, rfl, .bad Hsp.out Hr.out Hlet.out Hdig.out Hpre.out Hsg.out, below_low hB13 Hbl.out, .inl ⟨by decide, Hsc.out.below hB13⟩⟩
end Go.Proofs.YtkbbliicijnpjaaDoor.Lx
