/- The document's Refine. -/
import Derived.Test.YtkpadjhdneiniaaDoorKt
namespace Go.Proofs.YtkpadjhdneiniaaDoor.Sb
set_option linter.unusedVariables false
open Go.RowKit Go.Proofs.YtkpadjhdneiniaaDoorW.PrintWords Go.Proofs.YtkpadjhdneiniaaDoorW.PrintLast Go.Proofs.YtkpadjhdneiniaaDoorW.PrintMore Go.Maps
open Go.Proofs.YtkpadjhdneiniaaDoor.Base Go.Proofs.YtkpadjhdneiniaaDoor.Map Go.Proofs.YtkpadjhdneiniaaDoor.Sl Go.Proofs.YtkpadjhdneiniaaDoor.Ow Go.Proofs.YtkpadjhdneiniaaDoor.Se Go.Proofs.YtkpadjhdneiniaaDoor.Gr Go.Proofs.YtkpadjhdneiniaaDoor.Rf Go.Proofs.YtkpadjhdneiniaaDoor.Tx Go.Proofs.YtkpadjhdneiniaaDoor.St

/-- the table at first -/
def one0 (tm : List Int) : Tbl := fun i k => cl tm i == cl tm k
set_option maxHeartbeats 16000000 in
set_option maxRecDepth 100000 in
theorem rrefine_any (A A2 : Option Addr) (nT c c2 : Nat) (E : List GE) (u : Value) (tm : List Int) (w : World) (hE : RdE w A2 E) (hu : RdV w u tm) (hR : RightG tm.length E) (hl : tm.length ≤ 1000 ∧ E.length ≤ 1000) :
    Calls Tryd.prog 16 #[.agg #[.slice A nT c, .slice A2 E.length c2], u] w fun e w' => ∃ v out, e = .returned v ∧ RdV w' v out ∧ IsRef tm.length E tm out ∧ Below w.heap.size w w' := by
  have hal : Below w.heap.size w (w.alloc (.cells #[.slice A nT c, .slice A2 E.length c2] 25)) := below_alloc (Below.refl _ _) _
  have Hb : Aside0 ((w.alloc (.cells #[.slice A nT c, .slice A2 E.length c2] 25)).heap[w.heap.size]? = some (.cells #[.slice A nT c, .slice A2 E.length c2] 25 (0, 0))) := ⟨heap_alloc_new _ _⟩
  have HE := Aside0.mk (hE.below hal)
  obtain ⟨A3, c3, rfl, hc3, hr3⟩ := hu
  have HU := Aside0.mk (hr3.below hal)
  have Hal := Aside0.mk hal
  obtain ⟨n, hn⟩ : ∃ n, tm.length = n := ⟨_, rfl⟩
  obtain ⟨nE, hnE⟩ : ∃ n, E.length = n := ⟨_, rfl⟩
  have Hn := Aside0.mk (And.intro hn (And.intro hnE hl))
  obtain ⟨W, hW⟩ : ∃ W, w.alloc (.cells #[.slice A nT c, .slice A2 E.length c2] 25) = W := ⟨_, rfl⟩
  rw [hW] at Hb HE HU Hal
  rw [hn] at hR ⊢
  have HR := Aside0.mk hR
  rw [hnE] at hW Hb ⊢
  have mk1 := mk_row n (by omega)
  clear hal hE hR hl hc3 hr3 hn hnE
  go_enter Tryd.func16, Tryd.ntmps16
  go_wp2_with fail
  obtain ⟨g, hg⟩ : ∃ g, w.heap.size = g := ⟨_, rfl⟩
  rw [hg] at Hb
  have Hg := Aside0.mk hg
  simp only [hg]
  clear hW hg
  go_loopw [5, 6] (fun V I wr => ∃ (i : Nat) (F1 F2 : Nat → Prop) (R : Nat → Nat), I = .int .i64 (i : Int) ∧ i ≤ n ∧ Aside0 (OwM wr F1 F2 V n i R (one0 tm)) ∧ Aside0 ((∀ k, F1 k → W.heap.size ≤ k ∧ k < wr.heap.size) ∧ (∀ k, F2 k → W.heap.size ≤ k ∧ k < wr.heap.size)) ∧ Aside0 (Below W.heap.size W wr)) (fun _ I _ => n - (intOf I).toNat)
  case atStart => exact ⟨0, _, _, fun _ => 0, rfl, Nat.zero_le _, ⟨OwM.nil W n _ _⟩, ⟨fun k hk => hk.elim, fun k hk => hk.elim⟩, ⟨Below.refl _ _⟩⟩
  case round =>
    obtain ⟨i, F1, F2, R, rfl, hi, HM, HF, HB⟩ := hrel
    by_cases hin : i < n
    · have hnb : decide ((i : Int) < (n : Int)) = true := decide_eq_true (by omega)
      have hnc : decide (i < n) = true := decide_eq_true hin
      have i0 : 0 ≤ (i : Int) := by omega
      have i1 : (i : Int) < (n : Int) := by omega
      have i2 : (i : Int) ≤ 1000000 := by have := Hn.out; omega
      have Hin := Aside0.mk hin
      obtain ⟨rb, hrb⟩ : ∃ b, wr.heap.size = b := ⟨_, rfl⟩
      obtain ⟨w1, hw1⟩ : ∃ x, wr.alloc (.cells (madeCells #[.bool false] n) 4) = x := ⟨_, rfl⟩
      have HB1 := Aside0.mk (show Below wr.heap.size wr w1 by rw [← hw1]; exact below_alloc (Below.refl _ _) _)
      have HRow := Aside0.mk (show RowB w1 rb n (fun _ => false) by rw [← hw1, ← hrb]; exact row_made wr n)
      have HM1 := Aside0.mk (HM.out.below HB1.out)
      have Hrb := Aside0.mk hrb
      clear hin hi
      go_wp2_with fail
      try simp only [hrb, hw1]
      clear hrb hw1 i0 i1 i2
      go_loopw [8] (fun K wx => ∃ (k : Nat) (f : Nat → Bool), K = .int .i64 (k : Int) ∧ k ≤ n ∧ Aside0 (RowB wx rb n f ∧ ∀ j, j < k → f j = one0 tm i j) ∧ Aside0 (Chg (fun b => b = rb) w1 wx)) (fun K _ => n - (intOf K).toNat)
      case atStart => exact ⟨0, _, rfl, Nat.zero_le _, ⟨HRow.out, fun j h => absurd h (by omega)⟩, ⟨Chg.refl _ _⟩⟩
      case round =>
        obtain ⟨k, f, rfl, hk, HRw, HC⟩ := hrel
        have HBx := Aside0.mk (chg_own (bel_trans HB.out HB1.out) (fun b (hb : b = rb) => by have := Hrb.out; have := HB.out.size; omega) HC.out)
        by_cases hkn : k < n
        · have hnb : decide ((k : Int) < (n : Int)) = true := decide_eq_true (by omega)
          have hnc : decide (k < n) = true := decide_eq_true hkn
          obtain ⟨ad, rfl, e1⟩ := (HU.out.below HBx.out).at_ (i : Int) (by omega) (by have := Hn.out; have := Hin.out; omega)
          have e1 : wr.cell? (ad.add i) = some (.int .i64 (cl tm i)) := by simpa [rd] using e1
          obtain ⟨ad', had, e2⟩ := (HU.out.below HBx.out).at_ (k : Int) (by omega) (by have := Hn.out; omega)
          cases had
          have e2 : wr.cell? (ad.add k) = some (.int .i64 (cl tm k)) := by simpa [rd] using e2
          have e3 := HRw.out.1.cell hkn
          have e4 := HRw.out.1.free k
          have hone : one0 tm i k = (cl tm i == cl tm k) := rfl
          obtain ⟨x, hx⟩ : ∃ x, cl tm i = x := ⟨_, rfl⟩
          obtain ⟨y, hy⟩ : ∃ x, cl tm k = x := ⟨_, rfl⟩
          rw [hx] at e1
          rw [hy] at e2
          rw [hx, hy] at hone
          have i0 : 0 ≤ (i : Int) := by omega
          have i1 : (i : Int) < (n : Int) := by have := Hin.out; omega
          have k0 : 0 ≤ (k : Int) := by omega
          have k1 : (k : Int) < (n : Int) := by omega
          have k2 : (k : Int) ≤ 1000000 := by have := Hn.out; omega
          have Hk := Aside0.mk (And.intro hkn hone)
          obtain ⟨q0, hq0⟩ : ∃ q, f k = q := ⟨_, rfl⟩
          rw [hq0] at e3
          clear hkn hk hx hy hone hq0
          replace i0 := eq_true i0
          replace i1 := eq_true i1
          replace k0 := eq_true k0
          replace k1 := eq_true k1
          have HR2 := Aside0.mk (And.intro (((HRw.out.1.set k (x == y)).below (below_drew (Below.refl (wr.setCell ⟨rb, k, none⟩ (.bool (x == y))).heap.size _)))) (fun j (hj : j < k + 1) => (show (if j = k then (x == y) else f j) = one0 tm i j by
            by_cases e : j = k
            · subst e; rw [if_pos rfl, Hk.out.2]
            · rw [if_neg e]; exact HRw.out.2 j (by omega))))
          have HC2 := Aside0.mk (chg_draw (HC.out.then_ (Chg.setCell wr (F := fun b => b = rb) (p := ⟨rb, k, none⟩) rfl (.bool (x == y))) (fun b hb => .inl hb)))
          go_wp2_with fail
          go_region
          go_wp2_with fail
          go_roundw
          case rel => exact ⟨k + 1, _, by go_num, Hk.out.1, HR2, HC2⟩
          case measure => have := Hk.out.1; simp [intOf]; omega
        · have hnb : decide ((k : Int) < (n : Int)) = false := decide_eq_false (by omega)
          have hnc : decide (k < n) = false := decide_eq_false hkn
          obtain rfl : k = n := by omega
          have hff : ∀ j, j < k → f j = one0 tm i j := HRw.out.2
          have HRi := Aside0.mk (show RowB wr rb k (one0 tm i) by
            obtain ⟨cur, h1, h2, h3⟩ := HRw.out.1
            exact ⟨cur, h1, h2, fun j hj => by rw [h3 j hj, hff j hj]⟩)
          have hFlt : ∀ b, F1 b ∨ F2 b → b ≠ rb := fun b hb e => by
            have h1 := Hrb.out
            rcases hb with hb | hb
            · have := (HF.out.1 b hb).2; omega
            · have := (HF.out.2 b hb).2; omega
          have HMr := Aside0.mk (HM1.out.chg HC.out (fun b hb e => hFlt b (.inl hb) e) (fun b hb e => hFlt b (.inr hb) e))
          have Hlt := Aside0.mk hFlt
          have hal : Below wr.heap.size wr (wr.alloc (.cells #[.slice (some ⟨rb, 0, none⟩) k k] 62)) := below_alloc (Below.refl _ _) _
          have HMa := Aside0.mk (HMr.out.below hal)
          have HRa := Aside0.mk (HRi.out.below hal)
          have HBa := Aside0.mk (bel_trans HBx.out hal)
          have Hcell := Aside0.mk (show (wr.alloc (.cells #[.slice (some ⟨rb, 0, none⟩) k k] 62)).cell? ⟨wr.heap.size, 0, none⟩ = some (encV (rb, k)) from blk_cell (heap_alloc_new _ _) 0)
          have Hi6 := Aside0.mk (show (i : Int) ≤ 1000000 by have := Hn.out; have := Hin.out; omega)
          have i2 := Hi6.out
          clear hkn hk hff hFlt hal
          go_wp2_with (first | (at_builtin; refine appV (G := F1) rfl (.tmp 42) (.tmp 44) rfl u5 ((List.range i).map fun j => (R j, k)) (rb, k) wr.heap.size (by rfl) (by rfl) HMa.out.outer Hcell.out (by have := Hn.out; have := Hin.out; simp; omega) ?_; intro v1 w5 ho1 hg1 hc1) | go_in)
          have HB6 := Aside0.mk (chg_own HBa.out (fun b hb => (HF.out.1 b hb).1) hc1)
          have HM6 := Aside0.mk (HMa.out.push HRa.out (fun hb => Hlt.out _ (.inr hb) rfl) ho1 hg1)
          have HF6 := Aside0.mk (And.intro (fun b (hb : ext F1 (wr.alloc (.cells #[.slice (some ⟨rb, 0, none⟩) k k] 62)) w5 b) => (show W.heap.size ≤ b ∧ b < w5.heap.size from hb.elim (fun hb => ⟨(HF.out.1 b hb).1, by have h1 := (HF.out.1 b hb).2; have h2 := HB1.out.size; have h3 := HC.out.size; have h4 := hc1.size; simp at h4; omega⟩) (fun hb => ⟨by have h1 := hb.1; have h2 := HBa.out.size; omega, hb.2⟩)))
            (fun b (hb : F2 b ∨ b = rb) => (show W.heap.size ≤ b ∧ b < w5.heap.size by
              have h2 := HB1.out.size; have h3 := HC.out.size; have h4 := hc1.size; have h5 := Hrb.out; have h6 := HB.out.size; have h7 := HRi.out.lt
              simp at h4
              rcases hb with hb | hb
              · have h1 := HF.out.2 b hb; omega
              · omega)))
          clear ho1 hg1 hc1
          go_roundw
          case rel => exact ⟨i + 1, _, _, _, by go_num, Hin.out, HM6, HF6, HB6⟩
          case measure => have := Hin.out; simp [intOf]; omega
    · have hnb : decide ((i : Int) < (n : Int)) = false := decide_eq_false (by omega)
      have hnc : decide (i < n) = false := decide_eq_false hin
      obtain rfl : i = n := by omega
      have HT := Aside0.mk (HM.out.rt (base := W.heap.size) (fun k hk => (HF.out.2 k hk).1))
      clear hin hi mk1
      go_wp2_with fail
      have HAl := Aside0.mk (fun (W1 : World) (hb : Below W.heap.size W W1) (one : Tbl) (a b : Nat) (hM : RdM W1 u5 i one) => alike_any A A2 nT c c2 i E u5 one a b W1 (HE.out.below hb) hM HR.out Hn.out.2.2.2)
      rw [Hn.out.2.1] at HAl
      go_loopg [9] (i * i + 1) (fun kq G wx => ∃ (ag : Bool) (one : Tbl), G = .bool ag ∧ Aside0 (RT wx W.heap.size u5 i R one) ∧ Aside0 (TabI i E tm one) ∧ Aside0 (ag = false → ∀ a b, a < i → b < i → one a b = true → Alk E one a b ∧ Alk E one b a) ∧ Aside0 (cnt one i i + (if ag then 1 else 0) ≤ kq) ∧ Aside0 (Below W.heap.size W wx))
      case atStart => exact ⟨true, _, rfl, HT, ⟨TabI.start⟩, ⟨fun h => by cases h⟩, ⟨by have := cnt_n (one0 tm) i i; simp; omega⟩, HB⟩
      case round =>
        obtain ⟨ag, one, rfl, HT, HI, HC, HK, HB⟩ := hrel
        cases ag with
        | false =>
          obtain ⟨wq, rfl⟩ : ∃ x, x = wr := ⟨_, rfl⟩
          have HD := Aside0.mk (fun (a b : Nat) (ha : a < i) (hb : b < i) => HI.out.done HR.out (HC.out rfl) ha hb)
          go_wp2_with fail
          go_loopw [12, 13] (fun V I wx => ∃ (j : Nat) (F : Nat → Prop) (out : List Int), I = .int .i64 (j : Int) ∧ j ≤ i ∧ Aside0 (OwF wx F V out) ∧ Aside0 (Firsts one j out) ∧ Aside0 (∀ b, F b → wq.heap.size ≤ b) ∧ Aside0 (Below wq.heap.size wq wx)) (fun _ I _ => i - (intOf I).toNat)
          case atStart => exact ⟨0, fun _ => False, [], rfl, Nat.zero_le _, ⟨OwF.nil _ _⟩, ⟨Firsts.nil _⟩, ⟨fun b hb => hb.elim⟩, ⟨Below.refl _ _⟩⟩
          case round =>
            obtain ⟨j, F, out, rfl, hj, HO, HFi, HFb, HBj⟩ := hrel
            by_cases hjn : j < i
            · have hnb : decide ((j : Int) < (i : Int)) = true := decide_eq_true (by omega)
              have hnc : decide (j < i) = true := decide_eq_true hjn
              have Hj := Aside0.mk hjn
              clear hjn hj
              have j2 : (j : Int) ≤ 1000000 := by have := Hn.out; have := Hj.out; omega
              go_wp2_with fail
              go_loopw [14] (fun K wx => ∃ k : Nat, K = .int .i64 (k : Int) ∧ k ≤ j ∧ Aside0 (∀ m, m < k → one j m = false) ∧ Aside0 (OwF wx F u12 out) ∧ Aside0 (Below wq.heap.size wq wx)) (fun K _ => j - (intOf K).toNat)
              case atStart => exact ⟨0, rfl, Nat.zero_le _, ⟨fun m h => absurd h (by omega)⟩, HO, HBj⟩
              case round =>
                obtain ⟨k, rfl, hk, HKf, HO2, HBk⟩ := hrel
                have hki : k < i := by have := Hj.out; omega
                obtain ⟨gm, cm, hv, m0, m0', m1, m1', f1, f1', n1, n2⟩ := (HT.out.below HBk.out).at_ Hj.out hki
                obtain ⟨q, hq⟩ : ∃ q, one j k = q := ⟨_, rfl⟩
                rw [hq] at m1
                obtain ⟨rj, hrj⟩ : ∃ q, R j = q := ⟨_, rfl⟩
                rw [hrj] at m0 m1
                have k0 : 0 ≤ (k : Int) := by omega
                have k1 : (k : Int) < (i : Int) := by omega
                have k2 : (k : Int) ≤ 1000000 := by have := Hn.out; omega
                have j0 : 0 ≤ (j : Int) := by omega
                have j1 : (j : Int) < (i : Int) := by have := Hj.out; omega
                have Hk := Aside0.mk (And.intro hk hq)
                clear hk hq hrj m0' m1' f1 f1' n1 n2
                replace k0 := eq_true k0
                replace k1 := eq_true k1
                replace j0 := eq_true j0
                replace j1 := eq_true j1
                subst hv
                cases q with
                | false =>
                  have hkj : k < j := by
                    rcases Nat.lt_or_ge k j with h | h
                    · exact h
                    · have e : k = j := by have := Hk.out.1; omega
                      have h2 := Hk.out.2
                      rw [e, (HD.out j j Hj.out Hj.out).2 (show Rel i E tm j j from rel_refl HR.out Hj.out)] at h2
                      cases h2
                  have Hkj := Aside0.mk hkj
                  have HK2 := Aside0.mk (fun (m : Nat) (hm : m < k + 1) => (show one j m = false by
                    by_cases e : m = k
                    · rw [e]; exact Hk.out.2
                    · exact HKf.out m (by omega)))
                  clear hkj
                  go_wp2_with fail
                  go_roundw
                  case rel => exact ⟨k + 1, by go_num, Hkj.out, HK2, HO2, HBk⟩
                  case measure => have := Hkj.out; simp [intOf]; omega
                | true =>
                  have HF2 := Aside0.mk (HFi.out.snoc Hk.out.2 HKf.out)
                  have hal : Below wr.heap.size wr (wr.alloc (.cells #[.int .i64 (k : Int)] 3)) := below_alloc (Below.refl _ _) _
                  have HO3 := Aside0.mk (HO2.out.below hal)
                  have HRd : Aside0 (RdV (wr.alloc (.cells #[.int .i64 (k : Int)] 3)) (.slice (some ⟨wr.heap.size, 0, none⟩) 1 1) [(k : Int)]) := ⟨RdV.one (blk_cell (heap_alloc_new _ _) 0)⟩
                  have HB5 := Aside0.mk (bel_trans HBk.out hal)
                  clear hal
                  go_wp2_with (first | (at_builtin; refine appF (G := F) rfl (.tmp 110) (.tmp 112) rfl u12 (.slice (some ⟨wr.heap.size, 0, none⟩) 1 1) out [(k : Int)] (by rfl) (by rfl) HO3.out HRd.out (by have h1 := HFi.out.len; have h2 := Hn.out; have := Hj.out; have e1 : [(k : Int)].length = 1 := rfl; omega) ?_; intro v1 w5 ho1 hc1) | go_in)
                  have HB6 := Aside0.mk (chg_own HB5.out HFb.out hc1)
                  have HF6 := Aside0.mk (ext_own (w2 := w5) HB5.out HFb.out)
                  have HO6 := Aside0.mk ho1
                  clear ho1 hc1
                  go_roundw
                  case rel => exact ⟨j + 1, _, _, by go_num, Hj.out, HO6, HF2, HF6, HB6⟩
                  case measure => have := Hj.out; simp [intOf]; omega
            · have hnb : decide ((j : Int) < (i : Int)) = false := decide_eq_false (by omega)
              have hnc : decide (j < i) = false := decide_eq_false hjn
              obtain rfl : j = i := by omega
              clear hjn hj
              go_wp2_with fail
              go_ret
              exact ⟨_, out, rfl, HO.out.toV, HFi.out.ref HR.out HD.out, by rw [Hg.out]; have h := bel_trans (bel_trans Hal.out HB.out) HBj.out; rw [Hg.out] at h; exact h⟩
        | true =>
          clear HC
          go_wp2_with fail
          go_loopw [9, 10] (fun G I wx => ∃ (j : Nat) (ag : Bool) (one' : Tbl), I = .int .i64 (j : Int) ∧ j ≤ i ∧ G = .bool ag ∧ Aside0 (RT wx W.heap.size u5 i R one') ∧ Aside0 (Pass i E tm (cnt one i i) j 0 ag one') ∧ Aside0 (Below W.heap.size W wx)) (fun _ I _ => i - (intOf I).toNat)
          case atStart => exact ⟨0, false, one, rfl, Nat.zero_le _, rfl, HT, ⟨Pass.start HI.out⟩, HB⟩
          case round =>
            obtain ⟨j, ag, one', rfl, hj, rfl, HT1, HP1, HB1⟩ := hrel
            by_cases hjn : j < i
            · have hnb : decide ((j : Int) < (i : Int)) = true := decide_eq_true (by omega)
              have hnc : decide (j < i) = true := decide_eq_true hjn
              have Hj := Aside0.mk hjn
              clear hjn hj
              go_wp2_with fail
              go_loopw [9, 11] (fun G K wx => ∃ (k : Nat) (ag : Bool) (one' : Tbl), K = .int .i64 (k : Int) ∧ k ≤ i ∧ G = .bool ag ∧ Aside0 (RT wx W.heap.size u5 i R one') ∧ Aside0 (Pass i E tm (cnt one i i) j k ag one') ∧ Aside0 (Below W.heap.size W wx)) (fun _ K _ => i - (intOf K).toNat)
              case atStart => exact ⟨0, ag, one', rfl, Nat.zero_le _, rfl, HT1, HP1, HB1⟩
              case round =>
                obtain ⟨k, ag, one', rfl, hk, rfl, HT2, HP2, HB2⟩ := hrel
                by_cases hkn : k < i
                · have hnb : decide ((k : Int) < (i : Int)) = true := decide_eq_true (by omega)
                  have hnc : decide (k < i) = true := decide_eq_true hkn
                  have hb := Ow.blk_below Hb.out HB2.out
                  have g0 : wr.cell? ⟨g, 0, none⟩ = some (.slice A nT c) := blk_cellD hb 0 _ rfl
                  have g1 : wr.cell? ⟨g, 1, none⟩ = some (.slice A2 nE c2) := blk_cellD hb 1 _ rfl
                  obtain ⟨gm, cm, hv, m0, m0', m1, m1', f1, f1', n1, n2⟩ := HT2.out.at_ Hj.out hkn
                  have hrd := HT2.out.rd (by have := Hj.out; omega)
                  have HrdA := Aside0.mk hrd
                  have HA1 := Aside0.mk (HAl.out wr HB2.out one' j k hrd)
                  have HA2 := Aside0.mk (fun (W1 : World) (hb : Below wr.heap.size wr W1) => HAl.out W1 (bel_trans HB2.out hb) one' k j (hrd.below hb))
                  have Hk := Aside0.mk (And.intro hkn hv)
                  have k0 : 0 ≤ (k : Int) := by omega
                  have k1 : (k : Int) < (i : Int) := by omega
                  have k2 : (k : Int) ≤ 1000000 := by have := Hn.out; omega
                  have j0 : 0 ≤ (j : Int) := by omega
                  have j1 : (j : Int) < (i : Int) := by have := Hj.out; omega
                  clear hkn hk hb hrd
                  replace k0 := eq_true k0
                  replace k1 := eq_true k1
                  replace j0 := eq_true j0
                  replace j1 := eq_true j1
                  subst hv
                  obtain ⟨q, hq⟩ : ∃ q, one' j k = q := ⟨_, rfl⟩
                  rw [hq] at m1
                  obtain ⟨q', hq'⟩ : ∃ q, one' k j = q := ⟨_, rfl⟩
                  rw [hq'] at m1'
                  obtain ⟨rj, hrj⟩ : ∃ q, R j = q := ⟨_, rfl⟩
                  rw [hrj] at m0 m1 f1 n1
                  obtain ⟨rk, hrk⟩ : ∃ q, R k = q := ⟨_, rfl⟩
                  rw [hrk] at m0' m1' f1' n2
                  have Hq := Aside0.mk (And.intro hq (And.intro hrj hrk))
                  clear hq hq' hrj hrk
                  cases q with
                  | false =>
                    have HP3 := Aside0.mk (HP2.out.skip (fun h => (by rw [Hq.out.1] at h; cases h)))
                    go_wp2_with fail
                    go_roundw
                    case rel => exact ⟨k + 1, ag, one', by go_num, Hk.out.1, rfl, HT2, HP3, HB2⟩
                    case measure => have := Hk.out.1; simp [intOf]; omega
                  | true =>
                    have HF := Aside0.mk (fun (hf : ¬ Alk E one' j k ∨ ¬ Alk E one' k j) => HP2.out.fall HR.out Hj.out Hk.out.1 Hq.out.1 hf)
                    have HNe := Aside0.mk (fun (hf : ¬ Alk E one' j k ∨ ¬ Alk E one' k j) => (show rj ≠ rk from fun e => by
                      have hjk : j = k := by
                        rcases HT2.out.out with h | ⟨_, _, _, _, _, _, _, _, h6⟩
                        · have := Hj.out; omega
                        · exact h6 j k Hj.out Hk.out.1 (by rw [Hq.out.2.1, Hq.out.2.2, e])
                      subst hjk
                      have ha := alike_rel HR.out HP2.out.tab (show Rel i E tm j j from rel_refl HR.out Hj.out)
                      exact hf.elim (fun h => h ha) (fun h => h ha)))
                    by_cases a1 : Alk E one' j k
                    · have d1 := decide_eq_true a1
                      rw [d1] at HA1
                      go_wp2_with fail
                      refine HA1.out.mono ?_
                      rintro e w1 ⟨rfl, r1⟩
                      have HA3 := Aside0.mk (HA2.out w1 r1)
                      have HB3 := Aside0.mk (bel_trans HB2.out r1)
                      have HT3 := Aside0.mk (HT2.out.below r1)
                      have hb := Ow.blk_below Hb.out HB3.out
                      have g0x : w1.cell? ⟨g, 0, none⟩ = some (.slice A nT c) := blk_cellD hb 0 _ rfl
                      have g1x : w1.cell? ⟨g, 1, none⟩ = some (.slice A2 nE c2) := blk_cellD hb 1 _ rfl
                      have m0x := pw_cell_below r1 m0
                      have m0y := pw_cell_below r1 m0'
                      have m1x := pw_cell_below r1 m1
                      have m1y := pw_cell_below r1 m1'
                      have f1x : w1.frozen? ⟨rj, k, none⟩ = false := by rw [r1.frozen (p := ⟨rj, k, none⟩) (World.block_lt_of_cell? _ _ m1)]; exact f1
                      have f1y : w1.frozen? ⟨rk, j, none⟩ = false := by rw [r1.frozen (p := ⟨rk, j, none⟩) (World.block_lt_of_cell? _ _ m1')]; exact f1'
                      clear hb r1 HA1 HA2 d1 g0 g1 m0 m0' m1 m1' f1 f1'
                      by_cases a2 : Alk E one' k j
                      · have d2 := decide_eq_true a2
                        rw [d2] at HA3
                        have HP3 := Aside0.mk (HP2.out.skip (fun h => ⟨a1, a2⟩))
                        clear a1 a2 d2
                        go_wp2_with fail
                        refine HA3.out.mono ?_
                        rintro e w2 ⟨rfl, r1⟩
                        have HB4 := Aside0.mk (bel_trans HB3.out r1)
                        have HT4 := Aside0.mk (HT3.out.below r1)
                        clear r1
                        go_wp2_with fail
                        go_roundw
                        case rel => exact ⟨k + 1, ag, one', by go_num, Hk.out.1, rfl, HT4, HP3, HB4⟩
                        case measure => have := Hk.out.1; simp [intOf]; omega
                      · have d2 := decide_eq_false a2
                        rw [d2] at HA3
                        have hne := HNe.out (.inr a2)
                        have hne2 : rk ≠ rj := fun e => hne e.symm
                        have HP3 := Aside0.mk (HF.out (.inr a2))
                        clear a1 a2 d2
                        go_wp2_with fail
                        refine HA3.out.mono ?_
                        rintro e w2 ⟨rfl, r1⟩
                        have HB4 := Aside0.mk (bel_trans HB3.out r1)
                        have HT4 := Aside0.mk (HT3.out.below r1)
                        have m0 := pw_cell_below r1 m0x
                        have m0' := pw_cell_below r1 m0y
                        have m1 := pw_cell_below r1 m1x
                        have m1' := pw_cell_below r1 m1y
                        have f1 : w2.frozen? ⟨rj, k, none⟩ = false := by rw [r1.frozen (p := ⟨rj, k, none⟩) (World.block_lt_of_cell? _ _ m1x)]; exact f1x
                        have f1' : w2.frozen? ⟨rk, j, none⟩ = false := by rw [r1.frozen (p := ⟨rk, j, none⟩) (World.block_lt_of_cell? _ _ m1y)]; exact f1y
                        clear r1 g0x g1x m0x m0y m1x m1y f1x f1y
                        go_wp2_with fail
                        have hT5 := (HT4.out.set Hj.out k false).set Hk.out.1 j false
                        rw [drop2_set, Hq.out.2.1, Hq.out.2.2] at hT5
                        have HT5 := Aside0.mk hT5
                        have HB5 := Aside0.mk (below_setCell (below_setCell HB4.out (p := ⟨rj, k, none⟩) (by have := HT2.out.old Hj.out; rw [Hq.out.2.1] at this; exact this) (.bool false)) (p := ⟨rk, j, none⟩) (by have := HT2.out.old Hk.out.1; rw [Hq.out.2.2] at this; exact this) (.bool false))
                        clear hT5
                        go_roundw
                        case rel => exact ⟨k + 1, true, drop2 one' j k, by go_num, Hk.out.1, rfl, HT5, HP3, HB5⟩
                        case measure => have := Hk.out.1; simp [intOf]; omega
                    · have d1 := decide_eq_false a1
                      rw [d1] at HA1
                      have hne := HNe.out (.inl a1)
                      have hne2 : rk ≠ rj := fun e => hne e.symm
                      have HP3 := Aside0.mk (HF.out (.inl a1))
                      clear a1 d1
                      go_wp2_with fail
                      refine HA1.out.mono ?_
                      rintro e w1 ⟨rfl, r1⟩
                      have HB3 := Aside0.mk (bel_trans HB2.out r1)
                      have HT3 := Aside0.mk (HT2.out.below r1)
                      have m0x := pw_cell_below r1 m0
                      have m0y := pw_cell_below r1 m0'
                      have m1x := pw_cell_below r1 m1
                      have m1y := pw_cell_below r1 m1'
                      have f1x : w1.frozen? ⟨rj, k, none⟩ = false := by rw [r1.frozen (p := ⟨rj, k, none⟩) (World.block_lt_of_cell? _ _ m1)]; exact f1
                      have f1y : w1.frozen? ⟨rk, j, none⟩ = false := by rw [r1.frozen (p := ⟨rk, j, none⟩) (World.block_lt_of_cell? _ _ m1')]; exact f1'
                      clear r1 HA1 HA2 g0 g1 m0 m0' m1 m1' f1 f1'
                      go_wp2_with fail
                      have hT5 := (HT3.out.set Hj.out k false).set Hk.out.1 j false
                      rw [drop2_set, Hq.out.2.1, Hq.out.2.2] at hT5
                      have HT5 := Aside0.mk hT5
                      have HB5 := Aside0.mk (below_setCell (below_setCell HB3.out (p := ⟨rj, k, none⟩) (by have := HT2.out.old Hj.out; rw [Hq.out.2.1] at this; exact this) (.bool false)) (p := ⟨rk, j, none⟩) (by have := HT2.out.old Hk.out.1; rw [Hq.out.2.2] at this; exact this) (.bool false))
                      clear hT5
                      go_roundw
                      case rel => exact ⟨k + 1, true, drop2 one' j k, by go_num, Hk.out.1, rfl, HT5, HP3, HB5⟩
                      case measure => have := Hk.out.1; simp [intOf]; omega
                · have hnb : decide ((k : Int) < (i : Int)) = false := decide_eq_false (by omega)
                  have hnc : decide (k < i) = false := decide_eq_false hkn
                  obtain rfl : k = i := by omega
                  have HP3 := Aside0.mk (HP2.out.row)
                  have j2 : (j : Int) ≤ 1000000 := by have := Hn.out; have := Hj.out; omega
                  clear hkn hk
                  go_wp2_with fail
                  go_roundw
                  case rel => exact ⟨j + 1, ag, one', by go_num, Hj.out, rfl, HT2, HP3, HB2⟩
                  case measure => have := Hj.out; simp [intOf]; omega
            · have hnb : decide ((j : Int) < (i : Int)) = false := decide_eq_false (by omega)
              have hnc : decide (j < i) = false := decide_eq_false hjn
              obtain rfl : j = i := by omega
              clear hjn hj
              go_wp2_with fail
              go_roundg (cnt one' j j + (if ag then 1 else 0))
              case measure =>
                have h1 := HK.out
                have h2 := HP1.out.cnt_le
                simp at h1
                cases ag with
                | true => have h4 := HP1.out.fell rfl; simp; omega
                | false => simp; omega
              case rel => exact ⟨ag, one', rfl, HT1, ⟨HP1.out.tab⟩, ⟨fun h a b ha hb ho => HP1.out.fine h a b ha hb (.inl ha) ho⟩, ⟨Nat.le_refl _⟩, HB1⟩
end Go.Proofs.YtkpadjhdneiniaaDoor.Sb
