/- The queue: Put. -/
import Derived.Test.YtmaoadlighjkpaaQc
namespace Go.Proofs.Ytmaoadlighjkpaa.Qu
open Go.RowKit Go.Proofs.YtmaoadlighjkpaaW.PrintWords Go.Proofs.YtmaoadlighjkpaaW.PrintLast Go.Proofs.YtmaoadlighjkpaaW.PrintMore
open Go.Proofs.Ytmaoadlighjkpaa.Base Go.Proofs.Ytmaoadlighjkpaa.Map Go.Proofs.Ytmaoadlighjkpaa.Ca Go.Maps
set_option linter.unusedVariables false

section
variable {ops : Array Oper} {rest : List Oper} {o : Oper} {a : Act} {Q : Exit → Act → World → Prop}
theorem appF {W : World} {F : Nat → Prop} (hgd : o.guard = none) (s x : Operand)
    (ho : o.op = .call { callee := .builtin .append, args := #[s, x], argTypes := #[22, 22] })
    (v u : Value) (xs ys : List Int) (hs : a.eval s = v) (hx : a.eval x = u)
    (HO : OwF W F v xs) (HR : RdV W u ys) (hl : (xs.length + ys.length) * 8 ≤ 140737488355328)
    (h : ∀ v1 w1, OwF w1 (ext F W w1) v1 (xs ++ ys) → Chg F W w1 → W.grownBy w1 v.ownBlock → wpList Try.prog ops Q rest (a.put o.dst v1) w1) :
    wpList Try.prog ops Q (o :: rest) a W := by
  obtain ⟨A, c, hu, _, HR⟩ := HR
  have HO' : Kd.R (Kd.int .i64) 3 W 0 (fun k => F k ∨ W.heap.size ≤ k) v xs := Kd.R_mono HO.out (fun k hk => .inl hk)
  refine Kd.R_append_row (Value.int .i64) (0 : Int) (h1 := fun _ => rfl) (w0 := W) 0 hgd s x 22 3 (.int .i64 0) 8 ho Try.underlying22 info3 rfl (by decide) v xs ys A _ c (fun k => F k ∨ W.heap.size ≤ k) hs (hx.trans hu) (fun k hk => .inr hk) HO' HR.out (Below.refl _ _) (Nat.zero_le _) hl ?_
  intro v1 w1 ho hb hg hat
  exact h v1 w1 ⟨Kd.R_mono (Kd.R_bound ho) (fun k hk => hk.1.elim .inl (fun h => .inr ⟨h, hk.2.2.1⟩))⟩ (Chg.of_grown hg (fun k hk => HO.out.1 k hk)) hg
end

theorem blk_below {w w1 : World} {g : Nat} {o : Obj} (h : w.heap[g]? = some o) (hb : Below w.heap.size w w1) : w1.heap[g]? = some o := (hb.block g (blk_lt h)).trans h
/-- what Put makes of a queue -/
def put1 (l : List Int) (x : Int) : List Int := if 0 ≤ x ∧ x < 1048576 ∧ x ∉ l then l ++ [x] else l
def putL (l ns : List Int) : List Int := ns.foldl put1 l
theorem putL_snoc (l ns : List Int) (x : Int) : putL l (ns ++ [x]) = put1 (putL l ns) x := by simp [putL, List.foldl_append]
theorem put1_len (l : List Int) (x : Int) : l.length ≤ (put1 l x).length ∧ (put1 l x).length ≤ l.length + 1 := by unfold put1; split <;> simp
theorem putL_len (l ns : List Int) : l.length ≤ (putL l ns).length ∧ (putL l ns).length ≤ l.length + ns.length := by
  induction ns generalizing l with
  | nil => simp [putL]
  | cons a ns ih =>
    have h1 := ih (put1 l a)
    have h2 := put1_len l a
    simp only [putL, List.foldl_cons, List.length_cons] at *
    omega
theorem take_snocI (l : List Int) (j : Nat) (h : j < l.length) : l.take (j + 1) = l.take j ++ [rd l j] := by
  rw [List.take_succ_eq_append_getElem h]; simp [rd, h]

/-- the state in the midst of a put -/
theorem QAt.pushed {w3 : World} {F FL' : Nat → Prop} {g mb : Nat} {f : Lit → Option Value} {l : List Int} {x : Int}
    (hL : LineAt w3 FL' g (.map (some mb)) (l ++ [x])) (hM : MapP Try.prog 3 w3 mb (upd f (.int .i64 x) (some (.bool true))) (if (f (.int .i64 x)).isSome then l.length else l.length + 1))
    (hF1 : ∀ k, FL' k → F k) (hF2 : F mb) (hF3 : ¬ FL' mb) (hf : ∀ x : Int, (Lit.int .i64 x).wf = true → f (.int .i64 x) = if x ∈ l then some (.bool true) else none) (hn : l.Nodup) (hr : ∀ x ∈ l, 0 ≤ x ∧ x < 1048576) (hx : 0 ≤ x ∧ x < 1048576) (hnx : x ∉ l) : QAt w3 F g (l ++ [x]) := by
  have hwf : (Lit.int .i64 x).wf = true := WalkArith.wf_i64 (by omega)
  have hfx := hf x hwf
  rw [if_neg hnx] at hfx
  rw [hfx] at hM
  refine ⟨FL', mb, _, hL, by simpa using hM, hF1, hF2, hF3, fun y hy => ?_, ?_, ?_⟩
  · by_cases hyx : y = x
    · subst hyx; rw [upd_same, if_pos (by simp)]
    · rw [upd_other _ (fun e => hyx (by injection e)), hf y hy]; simp [hyx]
  · rw [List.nodup_append]; exact ⟨hn, by simp, fun a ha b hb => by rw [List.mem_singleton.1 hb]; exact fun e => hnx (e ▸ ha)⟩
  · intro y hy
    rcases List.mem_append.1 hy with h | h
    · exact hr y h
    · rw [List.mem_singleton.1 h]; exact hx

set_option maxHeartbeats 4000000 in
set_option maxRecDepth 100000 in
theorem put_any (g : Nat) (F : Nat → Prop) (l ns : List Int) (u : Value) (w : World) (h : QAt w F g l) (hst : ∀ W, Chg F w W → RdV W u ns) (hwf : ∀ x ∈ ns, (Lit.int .i64 x).wf = true) (hlen : ns.length ≤ 1048576) :
    Calls Try.prog 31 #[.pointer (some ⟨g, 0, none⟩), u] w fun e w' => e = .returned (.int .i64 ((putL l ns).length - l.length : Int)) ∧ QAt w' (ext F w w') g (putL l ns) ∧ Chg F w w' := by
  obtain ⟨A, c, rfl, hc, hr0⟩ := hst w (Chg.refl F w)
  have Hst := Aside0.mk hst
  have Hwf := Aside0.mk hwf
  have Hc := Aside0.mk hc
  clear hst hwf hr0 hc
  go_enter Try.func31, Try.ntmps31
  go_wp2_with fail
  go_loopw [5, 10] (fun p i wr => ∃ (j : Nat), j ≤ ns.length ∧ i = .int .i64 j ∧ p = .int .i64 ((putL l (ns.take j)).length - l.length : Int) ∧ QAt wr (ext F w wr) g (putL l (ns.take j)) ∧ Chg F w wr) (fun _ i _ => ns.length - (intOf i).toNat)
  case atStart => exact ⟨0, Nat.zero_le _, rfl, by simp [putL], h.mono (fun k hk => .inl hk), Chg.refl _ _⟩
  case round =>
    obtain ⟨j, hj, rfl, rfl, hQ, hC⟩ := hrel
    have hp := putL_len l (ns.take j)
    rw [List.length_take, Nat.min_eq_left hj] at hp
    obtain ⟨hp1, hp2⟩ := hp
    by_cases hlt : j < ns.length
    · obtain ⟨A2, c2, hA2, hc2, hr2⟩ := Hst.out wr hC
      obtain ⟨rfl, rfl⟩ : A = A2 ∧ c = c2 := by injection hA2 with h1 _ h2; exact ⟨h1, h2⟩
      clear hA2 hc2
      obtain ⟨ad, hA, hx⟩ := hr2.at_ j (by omega) (by omega)
      rw [Int.toNat_natCast] at hx
      subst hA
      have hs := take_snocI ns j hlt
      have hxw := Hwf.out (rd ns j) (by simp [rd, hlt])
      generalize rd ns j = x at *
      have hpl : putL l (ns.take (j + 1)) = put1 (putL l (ns.take j)) x := by rw [hs, putL_snoc]
      have Hpl := Aside0.mk hpl
      clear hs hpl hr2
      have hQl := hQ.len_le
      generalize putL l (ns.take j) = l1 at *
      obtain ⟨FL, mb, f, hL, hM, hF1, hF2, hF3, hf, hn, hr⟩ := hQ
      have hQ : QAt wr (ext F w wr) g l1 := ⟨FL, mb, f, hL, hM, hF1, hF2, hF3, hf, hn, hr⟩
      have hL0 := hL
      obtain ⟨v, xs, t, hb, ho, ht, hlx, hi, hFg⟩ := hL
      have c0 : wr.cell? ⟨g, 0, none⟩ = some v := blk_cell hb 0
      have c2 : wr.cell? ⟨g, 2, none⟩ = some (.map (some mb)) := blk_cell hb 2
      have hz := zero4 wr
      have Hkey := Aside0.mk (keyOf_int_mk Try.underlying3 hxw)
      have hfx := hf x hxw
      have Hf := Aside0.mk hf
      have Hr := Aside0.mk hr
      have Hlx := Aside0.mk hlx
      have Hb := Aside0.mk hb
      clear hf hr hlx hb
      have stay : put1 l1 x = l1 → QAt wr (ext F w wr) g (putL l (ns.take (j + 1))) ∧ putL l (ns.take (j + 1)) = l1 := fun e => by rw [Hpl.out, e]; exact ⟨hQ, rfl⟩
      by_cases hneg : x < 0
      · have e1 : put1 l1 x = l1 := by unfold put1; rw [if_neg (by omega)]
        obtain ⟨hQ', e2⟩ := stay e1
        clear e1 stay
        have g1 : decide (x < 0) = true := decide_eq_true hneg
        go_wp2_with fail
        go_roundw
        case rel => exact ⟨j + 1, by omega, by go_num, by rw [e2], hQ', hC⟩
        case measure => simp [intOf]; omega
      · by_cases hbig : 1048576 ≤ x
        · have e1 : put1 l1 x = l1 := by unfold put1; rw [if_neg (by omega)]
          obtain ⟨hQ', e2⟩ := stay e1
          clear e1 stay
          have g1 : decide (x < 0) = false := decide_eq_false hneg
          have g2 : decide (1048576 ≤ x) = true := decide_eq_true hbig
          go_wp2_with fail
          go_roundw
          case rel => exact ⟨j + 1, by omega, by go_num, by rw [e2], hQ', hC⟩
          case measure => simp [intOf]; omega
        · have g1 : decide (x < 0) = false := decide_eq_false hneg
          have g2 : decide (1048576 ≤ x) = false := decide_eq_false hbig
          by_cases hin : x ∈ l1
          · have e1 : put1 l1 x = l1 := by unfold put1; rw [if_neg (fun h => h.2.2 hin)]
            obtain ⟨hQ', e2⟩ := stay e1
            rw [if_pos hin] at hfx
            have hrun := hM.look law3 Try.underlying43 hz Hkey.out
            rw [show (f (.int .i64 x)).getD (.bool false) = .bool true by rw [hfx]; rfl] at hrun
            clear e1 stay hfx
            go_wp2_with fail
            go_roundw
            case rel => exact ⟨j + 1, by omega, by go_num, by rw [e2], hQ', hC⟩
            case measure => simp [intOf]; omega
          · rw [if_neg hin] at hfx
            have hrun := hM.look law3 Try.underlying43 hz Hkey.out
            rw [show (f (.int .i64 x)).getD (.bool false) = .bool false by rw [hfx]; rfl] at hrun
            have e1 : put1 l1 x = l1 ++ [x] := by unfold put1; rw [if_pos ⟨by omega, by omega, hin⟩]
            rw [e1] at Hpl
            have hll := (line_len ht Hlx.out hi).2
            have hmx : l1.length < maxLen := by unfold maxLen; omega
            clear e1 stay hfx hQ
            obtain ⟨Av, cv, rfl, hcv, hrv⟩ := ho.toV
            go_wp2_with (first | (at_mapUpdate; refine wp_store (val := .bool true) rfl _ _ _ 43 3 4 rfl hM law3 Try.underlying43 hmx rfl rfl rfl Hkey.out ?_; intro w2 hM2 hg2; have HM2 := Aside0.mk hM2; have hC2 := Aside0.mk (Chg.of_grown (F := fun k => k = mb) hg2 (fun k hk => by cases hk; rfl)); have hb2 := Aside0.mk (hC2.out.blk Hb.out (fun e => hF3 (e ▸ hFg))); have d0 : w2.cell? ⟨g, 0, none⟩ = some (.slice Av xs.length cv) := blk_cell hb2.out 0; have ho2 : OwF w2 FL (.slice Av xs.length cv) xs := ⟨Kd.R_step ho.out (fun k hk hlt => hC2.out.block k hlt (fun e => hF3 (e ▸ hk)))⟩; have ho3 := ho2.below (below_alloc (Below.refl _ _) (.cells #[.int .i64 x] 3)); have hone : RdV (w2.alloc (.cells #[.int .i64 x] 3)) (.slice (some ⟨w2.heap.size, 0, none⟩) 1 1) [x] := RdV.one (by simp); clear hM2 hg2) | (at_builtin; refine appF (F := FL) rfl (.tmp 38) (.tmp 40) rfl (.slice Av xs.length cv) (.slice (some ⟨w2.heap.size, 0, none⟩) 1 1) xs [x] rfl rfl ho3 hone (by simp; omega) ?_; intro v3 w3 ho4 hC3 hg3; obtain ⟨A3, c3, hv3, _, _⟩ := ho4.toV; obtain ⟨n3, hn3⟩ : ∃ n, (xs ++ [x]).length = n := ⟨_, rfl⟩; rw [hn3] at hv3; subst hv3; clear hn3; have HC3 := Aside0.mk hC3; have hne := Aside0.mk (Kd.R_ne (g := g) ho3.out (blk_below hb2.out (below_alloc (Below.refl _ _) _)) (by decide)); have hb3 := Aside0.mk (blk_grown (blk_below hb2.out (below_alloc (Below.refl _ _) _)) hg3 hne.out); have z0 : w3.frozen? ⟨g, 0, none⟩ = false := blk_frozen hb3.out 0; have e0 : w3.cell? ⟨g, 0, none⟩ = some (.slice Av xs.length cv) := blk_cell hb3.out 0; clear hC3 hg3))
            have hb4 := blk_set hb3.out 0 (.slice A3 n3 c3)
            have ho5 := ho4.far hb3.out (by decide) 0 (.slice A3 n3 c3)
            have hC4 : Chg FL w3 (w3.setCell ⟨g, 0, none⟩ (.slice A3 n3 c3)) := Chg.setCell w3 (p := ⟨g, 0, none⟩) hFg _
            have hCB : Chg FL w2 (w2.alloc (.cells #[.int .i64 x] 3)) := Chg.alloc _ _ _
            have hCa := (hCB.then_ HC3.out (fun k hk => .inl hk)).then_ hC4 (fun k hk => .inl hk)
            have hmbl := hM.lt
            have hCall : Chg (ext F w wr) wr (w3.setCell ⟨g, 0, none⟩ (.slice A3 n3 c3)) := (hC2.out.mono (F' := ext F w wr) (fun k _ hk => hk ▸ hF2)).then_ (hCa.mono (F' := ext F w wr) (fun k _ hk => hF1 k hk)) (fun k hk => .inl hk)
            have hsz : w2.heap.size + 1 ≤ w3.heap.size := by have := HC3.out.size; simpa using this
            have hCw : Chg F w (w3.setCell ⟨g, 0, none⟩ (.slice A3 n3 c3)) := hC.then_ hCall (fun k hk => hk.elim .inl (fun h => .inr h.1))
            have hMb : MapP Try.prog 3 (w3.setCell ⟨g, 0, none⟩ (.slice A3 n3 c3)) mb _ _ := HM2.out.chg hCa hF3
            have hdrop : l1 ++ [x] = (xs ++ [x]).drop t := by rw [List.drop_append_of_le_length ht, ← Hlx.out]
            have hnm : ¬ ext FL (w2.alloc (.cells #[.int .i64 x] 3)) w3 mb := by
              rintro (h | h)
              · exact hF3 h
              · have := h.1
                have h2 := hC2.out.size
                simp at this
                omega
            have hLl : LineAt (w3.setCell ⟨g, 0, none⟩ (.slice A3 n3 c3)) (ext FL (w2.alloc (.cells #[.int .i64 x] 3)) w3) g (.map (some mb)) (l1 ++ [x]) :=
              ⟨_, xs ++ [x], t, hb4, ho5, by simp; omega, hdrop, by simp; omega, .inl hFg⟩
            have hQ' : QAt (w3.setCell ⟨g, 0, none⟩ (.slice A3 n3 c3)) (ext F w (w3.setCell ⟨g, 0, none⟩ (.slice A3 n3 c3))) g (l1 ++ [x]) := by
              refine QAt.pushed (f := f) hLl hMb ?_ ?_ hnm Hf.out hn Hr.out ⟨by omega, by omega⟩ hin
              · rintro k (hk | hk)
                · rcases hF1 k hk with h | h
                  · exact .inl h
                  · exact .inr ⟨h.1, Nat.lt_of_lt_of_le h.2 hCall.size⟩
                · refine .inr ⟨?_, by simpa [World.setCell] using hk.2⟩
                  have h1 := hk.1
                  have h2 := hC2.out.size
                  have h3 := hC.size
                  simp at h1
                  omega
              · rcases hF2 with h | h
                · exact .inl h
                · exact .inr ⟨h.1, Nat.lt_of_lt_of_le h.2 hCall.size⟩
            rw [← Hpl.out] at hQ'
            have hlen2 : (putL l (ns.take (j + 1))).length = l1.length + 1 := by rw [Hpl.out]; simp
            clear hLl hMb hdrop hnm hCall hCa hCB hC4 ho5 hb4
            go_roundw
            case rel => exact ⟨j + 1, by omega, by go_num, by rw [hlen2]; go_num, hQ', hCw⟩
            case measure => simp [intOf]; omega
    · have e1 : ns.take j = ns := List.take_of_length_le (by omega)
      rw [e1] at hQ hp1 hp2 ⊢
      go_wp2
      go_ret
      exact ⟨rfl, hQ, hC⟩
end Go.Proofs.Ytmaoadlighjkpaa.Qu
