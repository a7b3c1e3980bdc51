/- ints.Set: Merge. -/
import Derived.Test.YtfgonclaiphoeaaGreatDoorSi
namespace Go.Proofs.YtfgonclaiphoeaaGreatDoor.Se
set_option linter.unusedVariables false
open Go.RowKit Go.Proofs.YtfgonclaiphoeaaGreatDoorW.PrintWords Go.Proofs.YtfgonclaiphoeaaGreatDoorW.PrintLast Go.Proofs.YtfgonclaiphoeaaGreatDoorW.PrintMore
open Go.Proofs.YtfgonclaiphoeaaGreatDoor.Base Go.Proofs.YtfgonclaiphoeaaGreatDoor.Map Go.Proofs.YtfgonclaiphoeaaGreatDoor.Sl Go.Proofs.YtfgonclaiphoeaaGreatDoor.Ow

/-! append(v, ys...), v owned by a set of blocks -/
section
variable {ops : Array Oper} {rest : List Oper} {o : Oper} {a : Act} {Q : Exit → Act → World → Prop} {Kc : Act → World → Prop}
theorem appF {W : World} {G : Nat → Prop} (hgd : o.guard = none) (s x : Operand)
    (ho : o.op = .call { callee := .builtin .append, args := #[s, x], argTypes := #[26, 26] })
    (v u : Value) (xs ys : List Int) (hs : a.eval s = v) (hx : a.eval x = u)
    (HO : OwF W G v xs) (HR : RdV W u ys) (hl : (xs.length + ys.length) * 8 ≤ 140737488355328)
    (h : ∀ v1 w1, OwF w1 (ext G W w1) v1 (xs ++ ys) → Chg G W w1 → wpList Tryz.prog ops Q rest (a.put o.dst v1) w1) :
    wpList Tryz.prog ops Q (o :: rest) a W := by
  obtain ⟨A, c, hu, _, HR⟩ := HR
  exact Kd.R_append_row (Value.int .i64) (0 : Int) (h1 := fun _ => rfl) (w0 := W) 0 hgd s x 26 3 (.int .i64 0) 8 ho Tryz.underlying26 info3 rfl (by decide) v xs ys A _ c (fun k => G k ∨ W.heap.size ≤ k) hs (hx.trans hu) (fun _ hk => .inr hk) (Kd.R_mono HO.out (fun k hk => .inl hk)) HR.out (Below.refl _ _) (Nat.zero_le _) hl
    (fun v1 w1 ho hb hg hat => h v1 w1 ⟨Kd.R_mono (Kd.R_bound ho) (fun k hk => hk.1.elim .inl (fun h => .inr ⟨h, hk.2.2.1⟩))⟩ (Chg.of_grown hg (fun k hk => HO.out.1 k hk)))
end
/-- a set, or none -/
def SetN (w : World) (v : Value) (l : List Int) : Prop := (v = .pointer none ∧ l = []) ∨ ∃ (q : Nat) (Fq : Nat → Prop), v = .pointer (some ⟨q, 0, none⟩) ∧ SetF w Fq q l
theorem SetN.ok {w : World} {v : Value} {l : List Int} (h : SetN w v l) : Srt l ∧ (∀ x ∈ l, okN x) ∧ l.length ≤ 1048576 := by
  rcases h with ⟨_, rfl⟩ | ⟨q, Fq, _, h⟩
  · exact ⟨Srt.nil, by simp, by simp⟩
  · exact ⟨h.srt, h.ok, h.len⟩
theorem SetN.below {w w1 : World} {v : Value} {l : List Int} (h : SetN w v l) (hb : Below w.heap.size w w1) : SetN w1 v l := by
  rcases h with h | ⟨q, Fq, h1, h2⟩
  · exact .inl h
  · exact .inr ⟨q, Fq, h1, h2.below hb⟩
theorem listN_any (v : Value) (l : List Int) (w : World) (h : SetN w v l) (hT : TZ w) :
    Calls Tryz.prog 27 #[v] w fun e w' => ∃ v, e = .returned v ∧ OwI w' w.heap.size v l ∧ Below w.heap.size w w' := by
  rcases h with ⟨rfl, rfl⟩ | ⟨q, Fq, rfl, h⟩
  · refine (list_nil w).mono ?_
    rintro e w' ⟨rfl, rfl⟩
    exact ⟨_, rfl, OwI.nil _ _, Below.refl _ _⟩
  · exact list_any q Fq l w h hT
/-- what is new in one against another -/
def newL (l t : List Int) : List Int := t.filter fun x => !decide (x ∈ l)
/-- what Merge leaves -/
def Merged (w : World) (F : Nat → Prop) (p : Nat) (l t : List Int) (e : Ending) (w' : World) : Prop :=
  ∃ (F' G : Nat → Prop) (v : Value), e = .returned v ∧ SetF w' F' p (insL l t) ∧ OwF w' G v (newL l t) ∧ (∀ k, F' k → ext F w w' k) ∧ (∀ k, G k → new w w' k) ∧ (∀ k, F' k → ¬ G k) ∧ Chg F w w'
/-- how the set and what was new lie while Merge goes on -/
structure Sep (w w1 wr : World) (F F1 G : Nat → Prop) : Prop where
  f : ∀ k, F1 k → ((F k ∧ k < w.heap.size) ∨ w1.heap.size ≤ k) ∧ k < wr.heap.size
  g : ∀ k, G k → w1.heap.size ≤ k ∧ k < wr.heap.size
  d : ∀ k, F1 k → ¬ G k
theorem insL_snoc (l t : List Int) (i : Nat) (hi : i < t.length) : insL l (t.take (i + 1)) = ins (insL l (t.take i)) (t.getD i 0) := by
  unfold insL; rw [List.take_succ_eq_append_getElem hi, List.foldl_append]; simp [List.getElem?_eq_getElem hi]
theorem newL_snoc (l t : List Int) (i : Nat) (hi : i < t.length) : newL l (t.take (i + 1)) = newL l (t.take i) ++ if t.getD i 0 ∈ l then [] else [t.getD i 0] := by
  rw [List.take_succ_eq_append_getElem hi]
  unfold newL
  rw [List.filter_append]
  congr 1
  simp only [List.getD_eq_getElem?_getD, List.getElem?_eq_getElem hi, Option.getD_some]
  by_cases h : t[i] ∈ l <;> simp [h]
/-- of a rising list: what was added before isn't what comes -/
theorem mem_before {l t : List Int} (ht : Srt t) {i : Nat} (hi : i < t.length) : t.getD i 0 ∈ insL l (t.take i) ↔ t.getD i 0 ∈ l := by
  rw [mem_insL]
  refine ⟨fun h => h.elim (fun h => absurd h (take_ins ht hi).1) id, .inr⟩
/-- a round of Merge: Add has been called -/
theorem sep_add {w w1 wr w2 : World} {F F1 G : Nat → Prop} (h : Sep w w1 wr F F1 G) (h1 : w1.heap.size ≤ wr.heap.size) (h2 : wr.heap.size ≤ w2.heap.size) : Sep w w1 w2 F (ext F1 wr w2) G :=
  ⟨fun k hk => hk.elim (fun hk => ⟨(h.f k hk).1, by have := (h.f k hk).2; omega⟩) (fun hk => ⟨.inr (by omega), hk.2⟩), fun k hk => by have := h.g k hk; omega, fun k hk hg => hk.elim (fun hk => h.d k hk hg) (fun hk => by have := h.g k hg; omega)⟩
theorem sep_app {w w1 wr wa w2 : World} {F F1 G : Nat → Prop} (h : Sep w w1 wr F F1 G) (h1 : w1.heap.size ≤ wr.heap.size) (ha : wr.heap.size ≤ wa.heap.size) (h2 : wa.heap.size ≤ w2.heap.size) : Sep w w1 w2 F F1 (ext G wa w2) :=
  ⟨fun k hk => ⟨(h.f k hk).1, by have := (h.f k hk).2; omega⟩, fun k hk => hk.elim (fun hk => by have := h.g k hk; omega) (fun hk => ⟨by omega, hk.2⟩), fun k hk hg => hg.elim (fun hg => h.d k hk hg) (fun hg => by have := (h.f k hk).2; omega)⟩
set_option maxHeartbeats 4000000 in
set_option maxRecDepth 100000 in
theorem merge_any (p : Nat) (F : Nat → Prop) (l t : List Int) (tv : Value) (w : World) (h : SetF w F p l) (ht : SetN w tv t) (hT : TZ w) :
    Calls Tryz.prog 26 #[.pointer (some ⟨p, 0, none⟩), tv] w (Merged w F p l t) := by
  obtain ⟨t1, t2, t3⟩ := ht.ok
  have H := Aside0.mk h.bound
  have Ht := Aside0.mk ht
  have HT := Aside0.mk hT
  have Hts := Aside0.mk (And.intro t1 (And.intro t2 t3))
  clear h ht hT t1 t2 t3
  go_enter Tryz.func26, Tryz.ntmps26
  go_wp2_with fail
  refine (listN_any tv t w Ht.out HT.out).mono ?_
  rintro e w1 ⟨v0, rfl, r1, r2⟩
  obtain ⟨A, c, rfl, hc, hr⟩ := r1.toV
  have Hr1 := Aside0.mk (show ∀ W, Chg (fun k => F k ∧ k < w.heap.size) w1 W → OwI W w.heap.size (.slice A t.length c) t from fun W hC => ⟨Kd.R_mono (Kd.R_step (Kd.R_bound r1.out) (fun k hk hlt => hC.block k hlt (fun hf => by have := hf.2; have := hk.2.1; omega))) (fun _ _ => trivial)⟩)
  have H1 := Aside0.mk (H.out.below r2)
  have Hb1 := Aside0.mk r2
  clear r1 r2 hc hr
  go_wp2_with fail
  go_loopw [5, 7, 13] (fun V _ I wr => ∃ (i : Nat) (F1 G : Nat → Prop), I = .int .i64 (i : Int) ∧ i ≤ t.length ∧ Aside0 (SetF wr F1 p (insL l (t.take i))) ∧ Aside0 (OwF wr G V (newL l (t.take i))) ∧ Aside0 (Sep w w1 wr F F1 G) ∧ Aside0 (Chg (fun k => F k ∧ k < w.heap.size) w1 wr)) (fun _ _ I _ => t.length - (intOf I).toNat)
  case atStart => exact ⟨0, fun k => F k ∧ k < w.heap.size, fun _ => False, rfl, Nat.zero_le _, H1, ⟨OwF.nil _ _⟩, ⟨⟨fun k hk => ⟨.inl hk, by have := Hb1.out.size; omega⟩, fun k hk => hk.elim, fun _ _ h => h⟩⟩, ⟨Chg.refl _ _⟩⟩
  case round =>
    obtain ⟨i, F1, G, rfl, hi, HS, HO, HP, HC⟩ := hrel
    by_cases hin : i < t.length
    · have hnb : decide ((i : Int) < (t.length : Int)) = true := decide_eq_true (by omega)
      have hnc : decide (i < t.length) = true := decide_eq_true hin
      obtain ⟨A', c', e', hc', hrr⟩ := (Hr1.out _ HC.out).toV
      obtain ⟨rfl, rfl⟩ : A = A' ∧ c = c' := by cases e'; exact ⟨rfl, rfl⟩
      obtain ⟨ad, rfl, hx⟩ := hrr.at_ (i : Int) (by omega) (by omega)
      rw [Int.toNat_natCast] at hx
      have i0 : 0 ≤ (i : Int) := by omega
      have i1 : (i : Int) < (t.length : Int) := by omega
      have i2 : (i : Int) ≤ 1048576 := by have := Hts.out.2.2; omega
      have hx2 : rd t (i : Int) = t.getD i 0 := by simp [rd]
      obtain ⟨x, hxx⟩ : ∃ x, t.getD i 0 = x := ⟨_, rfl⟩
      rw [hx2, hxx] at hx
      have n1 := insL_snoc l t i hin
      have n2 := newL_snoc l t i hin
      have n3 := mem_before (l := l) Hts.out.1 hin
      rw [hxx] at n1 n2 n3
      have hxok : okN x := Hts.out.2.1 x (by rw [← hxx, List.getD_eq_getElem?_getD, List.getElem?_eq_getElem hin]; exact List.getElem_mem hin)
      have n4 : addL (insL l (t.take i)) x = insL l (t.take (i + 1)) := by rw [n1]; exact if_pos hxok
      have n5 : addB (insL l (t.take i)) x = !decide (x ∈ l) := by
        unfold addB; rw [decide_eq_true (show 0 ≤ x ∧ x < 1048576 from hxok), Bool.true_and]
        congr 1; exact decide_eq_decide.2 n3
      have hln : (newL l (t.take i)).length ≤ 1048576 := Nat.le_trans (List.length_filter_le _ _) (by have := Hts.out.2.2; simp; omega)
      have HN := Aside0.mk (And.intro n4 (And.intro n5 (And.intro n2 hln)))
      have Hin := Aside0.mk hin
      have Hsz := Aside0.mk HC.out.size
      clear hin hi hx2 hxx n1 n2 n3 n4 n5 hxok e' hc' hrr hln
      replace i0 := eq_true i0
      replace i1 := eq_true i1
      go_wp2_with fail
      refine (add_any p F1 _ x _ HS.out).mono ?_
      rintro e w2 ⟨rfl, r3, r4⟩
      rw [HN.out.1] at r3
      rw [HN.out.2.1]
      have HS2 := Aside0.mk r3
      have HO2 := Aside0.mk (HO.out.chg r4 (fun k hk hf => HP.out.d k hf hk))
      have HP2 := Aside0.mk (sep_add HP.out Hsz.out r4.size)
      have HC2 := Aside0.mk (HC.out.then_ r4 (fun k hk => (HP.out.f k hk).1))
      clear r3 r4
      by_cases hm : x ∈ l
      · have hb : decide (x ∈ l) = true := decide_eq_true hm
        have hV : Aside0 (newL l (t.take (i + 1)) = newL l (t.take i)) := ⟨by rw [HN.out.2.2.1, if_pos hm, List.append_nil]⟩
        rw [hb]
        clear hb hm
        go_wp2_with fail
        go_roundw
        case rel => exact ⟨i + 1, _, G, by go_num, Hin.out, HS2, ⟨by rw [hV.out]; exact HO2.out⟩, HP2, HC2⟩
        case measure => have := Hin.out; simp [intOf]; omega
      · have hb : decide (x ∈ l) = false := decide_eq_false hm
        have hV : Aside0 (newL l (t.take (i + 1)) = newL l (t.take i) ++ [x]) := ⟨by rw [HN.out.2.2.1, if_neg hm]⟩
        rw [hb]
        clear hb hm
        have hal : Below w2.heap.size w2 (w2.alloc (.cells #[.int .i64 x] 3)) := below_alloc (Below.refl _ _) _
        have HO3 := Aside0.mk (HO2.out.below hal)
        have HR : Aside0 (RdV (w2.alloc (.cells #[.int .i64 x] 3)) (.slice (some ⟨w2.heap.size, 0, none⟩) 1 1) [x]) := ⟨RdV.one (blk_cell (heap_alloc_new _ _) 0)⟩
        clear hal
        go_wp2_with (first | (at_builtin; refine appF (G := G) rfl (.tmp 20) (.tmp 22) rfl _ _ (newL l (t.take i)) [x] rfl rfl HO3.out HR.out (by have := HN.out.2.2.2; simp only [List.length_cons, List.length_nil]; omega) ?_; intro v1 w3 ho1 hc1))
        have hs1 : w1.heap.size ≤ w2.heap.size := HC2.out.size
        have HS3 := Aside0.mk ((HS2.out.below (below_alloc (Below.refl _ _) (.cells #[.int .i64 x] 3))).chg hc1 (fun k hk hg => HP2.out.d k hk hg))
        have HP3 := Aside0.mk (sep_app HP2.out hs1 (below_alloc (Below.refl w2.heap.size w2) (.cells #[.int .i64 x] 3)).size hc1.size)
        have HC3 := Aside0.mk ((HC2.out.andBelow (below_alloc (Below.refl _ _) (.cells #[.int .i64 x] 3))).then_ hc1 (fun k hk => .inr (HP.out.g k hk).1))
        have HO4 := Aside0.mk ho1
        clear hc1 ho1 hs1
        go_roundw
        case rel => exact ⟨i + 1, _, _, by go_num, Hin.out, HS3, ⟨by rw [hV.out]; exact HO4.out⟩, HP3, HC3⟩
        case measure => have := Hin.out; simp [intOf]; omega
    · have hnb : decide ((i : Int) < (t.length : Int)) = false := decide_eq_false (by omega)
      have hnc : decide (i < t.length) = false := decide_eq_false hin
      obtain rfl : i = t.length := by omega
      rw [List.take_length] at HS HO
      clear hin hi
      go_wp2_with fail
      go_ret
      exact ⟨F1, G, _, rfl, HS.out, HO.out, fun k hk => by have h1 := HP.out.f k hk; have h2 := Hb1.out.size; exact h1.1.elim (fun h => .inl h.1) (fun h => .inr ⟨by omega, h1.2⟩), fun k hk => by have h1 := HP.out.g k hk; have h2 := Hb1.out.size; exact ⟨by omega, h1.2⟩, HP.out.d, (Chg.of_below Hb1.out F).then_ HC.out (fun k hk => .inl hk.1)⟩
end Go.Proofs.YtfgonclaiphoeaaGreatDoor.Se
