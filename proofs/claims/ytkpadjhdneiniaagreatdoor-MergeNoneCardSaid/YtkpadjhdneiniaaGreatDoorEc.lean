/- Ec, Ed, Ee -/
import Derived.Test.YtkpadjhdneiniaaGreatDoorBe
import Derived.Test.YtkpadjhdneiniaaGreatDoorEb
import Derived.Test.YtkpadjhdneiniaaGreatDoorUg
/- Ec: Comparing texts: winnowerref04.Texts, slices.Equal. -/
section
namespace Go.Proofs.YtkpadjhdneiniaaGreatDoor.Am
set_option linter.unusedVariables false
open Go.RowKit Go.Proofs.YtkpadjhdneiniaaGreatDoorW.PrintWords Go.Proofs.YtkpadjhdneiniaaGreatDoorW.PrintLast Go.Proofs.YtkpadjhdneiniaaGreatDoorW.PrintMore Go.Maps
open Go.Proofs.YtkpadjhdneiniaaGreatDoor.Base Go.Proofs.YtkpadjhdneiniaaGreatDoor.Map Go.Proofs.YtkpadjhdneiniaaGreatDoor.Sl Go.Proofs.YtkpadjhdneiniaaGreatDoor.Ow Go.Proofs.YtkpadjhdneiniaaGreatDoor.Se Go.Proofs.YtkpadjhdneiniaaGreatDoor.Gr Go.Proofs.YtkpadjhdneiniaaGreatDoor.Rf Go.Proofs.YtkpadjhdneiniaaGreatDoor.Tx Go.Proofs.YtkpadjhdneiniaaGreatDoor.Au




theorem take_eq_snoc {α : Type} {a b : List α} {i : Nat} (d : α) (h : a.take i = b.take i) (ha : i < a.length) (hb : i < b.length) (hx : a.getD i d = b.getD i d) : a.take (i + 1) = b.take (i + 1) := by
  rw [List.take_succ_eq_append_getElem ha, List.take_succ_eq_append_getElem hb, h]
  rw [List.getD_eq_getElem?_getD, List.getD_eq_getElem?_getD, List.getElem?_eq_getElem ha, List.getElem?_eq_getElem hb] at hx
  simp only [Option.getD_some] at hx
  rw [hx]
theorem Tx_eq {s t : ByteArray} (h : s = t) : (s.toList == t.toList) = true := by subst h; simp
theorem Tx_ne {s t : ByteArray} (h : ¬ s = t) : (s.toList == t.toList) = false := by
  rw [ByteArray.toList_eq, ByteArray.toList_eq]
  simp only [beq_eq_false_iff_ne, ne_eq]
  exact fun e => h (toL_inj e)

set_option maxHeartbeats 8000000 in
set_option maxRecDepth 100000 in
theorem texts_any (u v : Value) (a b : List ByteArray) (w : World) (hu : RdS w u a) (hv : RdS w v b) (hl : a.length ≤ 1000000) :
    Calls Tryz.prog 22 #[u, v] w fun e w' => e = .returned (.bool (decide (a = b))) ∧ Below w.heap.size w w' := by
  obtain ⟨A, c, rfl, hc, hr⟩ := hu
  obtain ⟨A', c', rfl, hc', hr'⟩ := hv
  have HR := Aside0.mk (And.intro hr hr')
  have Hl := Aside0.mk hl
  obtain ⟨B, hB⟩ : ∃ B, decide (a = b) = B := ⟨_, rfl⟩
  rw [hB]
  have HB := Aside0.mk hB
  obtain ⟨n, hn⟩ : ∃ n, a.length = n := ⟨_, rfl⟩
  obtain ⟨m, hm⟩ : ∃ n, b.length = n := ⟨_, rfl⟩
  have Hn := Aside0.mk (And.intro hn hm)
  rw [hn, hm]
  clear hr hr' hc hc' hl hB hn hm
  by_cases hne : n = m
  case neg =>
    have q1 : ((n : Int) != (m : Int)) = true := by simp; omega
    have q2 : ((n : Int) == (m : Int)) = false := by simp; omega
    have q3 : ¬ (n : Int) = (m : Int) := by omega
    have hBf : B = false := by rw [← HB.out]; exact decide_eq_false (fun h => hne (by rw [← Hn.out.1, ← Hn.out.2, h]))
    have HBf := Aside0.mk hBf
    clear hne hBf
    go_enter Tryz.func22, Tryz.ntmps22
    go_wp2_with fail
    go_ret
    rw [HBf.out]
    exact ⟨rfl, Below.refl _ _⟩
  subst hne
  have q1 : ((n : Int) != (n : Int)) = false := by simp
  go_enter Tryz.func22, Tryz.ntmps22
  go_wp2_with fail
  go_loopw [5] (fun I wr => ∃ i : Nat, I = .int .i64 (i : Int) ∧ i ≤ n ∧ Aside0 (a.take i = b.take i) ∧ Aside0 (Below w.heap.size w wr)) (fun I _ => n - (intOf I).toNat)
  case atStart => exact ⟨0, rfl, Nat.zero_le _, ⟨rfl⟩, ⟨Below.refl _ _⟩⟩
  case round =>
    obtain ⟨i, rfl, hi, HE, HBl⟩ := hrel
    by_cases hin : i < n
    · have hnb : decide ((i : Int) < (n : Int)) = true := decide_eq_true (by omega)
      have hnc : decide (i < n) = true := decide_eq_true hin
      have hia : i < a.length := by rw [Hn.out.1]; exact hin
      have hib : i < b.length := by rw [Hn.out.2]; exact hin
      obtain ⟨ad, rfl, e1⟩ := (HR.out.1.below HBl.out).at_ i hia
      obtain ⟨ad2, rfl, e2⟩ := (HR.out.2.below HBl.out).at_ i hib
      obtain ⟨x, hxx⟩ : ∃ x, a.getD i ByteArray.empty = x := ⟨_, rfl⟩
      obtain ⟨y, hyy⟩ : ∃ y, b.getD i ByteArray.empty = y := ⟨_, rfl⟩
      rw [hxx] at e1
      rw [hyy] at e2
      have i0 : 0 ≤ (i : Int) := by omega
      have i1 : (i : Int) < (n : Int) := by omega
      have i2 : (i : Int) ≤ 1000000 := by have := Hl.out; have := Hn.out.1; omega
      have Hin := Aside0.mk (And.intro hin (And.intro hia hib))
      have HBw := Aside0.mk (below_drew HBl.out)
      clear hin hi hia hib
      replace i0 := eq_true i0
      replace i1 := eq_true i1
      by_cases hxy : x = y
      · subst hxy
        have Hst := Aside0.mk (take_eq_snoc ByteArray.empty HE.out Hin.out.2.1 Hin.out.2.2 (hxx.trans hyy.symm))
        clear hxx hyy
        go_wp2_with fail
        go_region
        go_wp2_with fail
        go_roundw
        case rel => exact ⟨i + 1, by go_num, Hin.out.1, Hst, HBw⟩
        case measure => have := Hin.out.1; simp [intOf]; omega
      · have hBf : B = false := by rw [← HB.out]; exact decide_eq_false (fun h => hxy (by rw [← hxx, ← hyy, h]))
        have HBf := Aside0.mk hBf
        have h1 := Tx_ne hxy
        clear hBf hxx hyy
        go_wp2_with fail
        go_region
        go_wp2_with fail
        go_ret
        rw [HBf.out]
        exact ⟨rfl, HBw.out⟩
    · have hnb : decide ((i : Int) < (n : Int)) = false := decide_eq_false (by omega)
      have hnc : decide (i < n) = false := decide_eq_false hin
      obtain rfl : i = n := by omega
      have hBt : B = true := by
        rw [← HB.out]
        have h := HE.out
        rw [List.take_of_length_le (by rw [Hn.out.1]; exact Nat.le_refl _), List.take_of_length_le (by rw [Hn.out.2]; exact Nat.le_refl _)] at h
        exact decide_eq_true h
      have HBt := Aside0.mk hBt
      clear hin hi hBt
      go_wp2_with fail
      go_ret
      rw [HBt.out]
      exact ⟨rfl, HBl.out⟩


set_option maxHeartbeats 8000000 in
set_option maxRecDepth 100000 in
theorem eqS_any (u v : Value) (a b : List ByteArray) (w : World) (hu : RdS w u a) (hv : RdS w v b) (hl : a.length ≤ 1000000) :
    Calls Tryz.prog 94 #[u, v] w fun e w' => e = .returned (.bool (decide (a = b))) ∧ Below w.heap.size w w' := by
  obtain ⟨A, c, rfl, hc, hr⟩ := hu
  obtain ⟨A', c', rfl, hc', hr'⟩ := hv
  have HR := Aside0.mk (And.intro hr hr')
  have Hl := Aside0.mk hl
  obtain ⟨B, hB⟩ : ∃ B, decide (a = b) = B := ⟨_, rfl⟩
  rw [hB]
  have HB := Aside0.mk hB
  obtain ⟨n, hn⟩ : ∃ n, a.length = n := ⟨_, rfl⟩
  obtain ⟨m, hm⟩ : ∃ n, b.length = n := ⟨_, rfl⟩
  have Hn := Aside0.mk (And.intro hn hm)
  rw [hn, hm]
  clear hr hr' hc hc' hl hB hn hm
  by_cases hne : n = m
  case neg =>
    have q1 : ((n : Int) != (m : Int)) = true := by simp; omega
    have q2 : ((n : Int) == (m : Int)) = false := by simp; omega
    have q3 : ¬ (n : Int) = (m : Int) := by omega
    have hBf : B = false := by rw [← HB.out]; exact decide_eq_false (fun h => hne (by rw [← Hn.out.1, ← Hn.out.2, h]))
    have HBf := Aside0.mk hBf
    clear hne hBf
    go_enter Tryz.func94, Tryz.ntmps94
    go_wp2_with fail
    go_ret
    rw [HBf.out]
    exact ⟨rfl, Below.refl _ _⟩
  subst hne
  have q1 : ((n : Int) != (n : Int)) = false := by simp
  go_enter Tryz.func94, Tryz.ntmps94
  go_wp2_with fail
  go_loopw [13] (fun I wr => ∃ i : Nat, I = .int .i64 (i : Int) ∧ i ≤ n ∧ Aside0 (a.take i = b.take i) ∧ Aside0 (Below w.heap.size w wr)) (fun I _ => n - (intOf I).toNat)
  case atStart => exact ⟨0, rfl, Nat.zero_le _, ⟨rfl⟩, ⟨Below.refl _ _⟩⟩
  case round =>
    obtain ⟨i, rfl, hi, HE, HBl⟩ := hrel
    by_cases hin : i < n
    · have hnb : decide ((i : Int) < (n : Int)) = true := decide_eq_true (by omega)
      have hnc : decide (i < n) = true := decide_eq_true hin
      have hia : i < a.length := by rw [Hn.out.1]; exact hin
      have hib : i < b.length := by rw [Hn.out.2]; exact hin
      obtain ⟨ad, rfl, e1⟩ := (HR.out.1.below HBl.out).at_ i hia
      obtain ⟨ad2, rfl, e2⟩ := (HR.out.2.below HBl.out).at_ i hib
      obtain ⟨x, hxx⟩ : ∃ x, a.getD i ByteArray.empty = x := ⟨_, rfl⟩
      obtain ⟨y, hyy⟩ : ∃ y, b.getD i ByteArray.empty = y := ⟨_, rfl⟩
      rw [hxx] at e1
      rw [hyy] at e2
      have i0 : 0 ≤ (i : Int) := by omega
      have i1 : (i : Int) < (n : Int) := by omega
      have i2 : (i : Int) ≤ 1000000 := by have := Hl.out; have := Hn.out.1; omega
      have Hin := Aside0.mk (And.intro hin (And.intro hia hib))
      have HBw := Aside0.mk (below_drew HBl.out)
      clear hin hi hia hib
      replace i0 := eq_true i0
      replace i1 := eq_true i1
      by_cases hxy : x = y
      · subst hxy
        have Hst := Aside0.mk (take_eq_snoc ByteArray.empty HE.out Hin.out.2.1 Hin.out.2.2 (hxx.trans hyy.symm))
        clear hxx hyy
        go_wp2_with fail
        go_region
        go_wp2_with fail
        go_roundw
        case rel => exact ⟨i + 1, by go_num, Hin.out.1, Hst, HBw⟩
        case measure => have := Hin.out.1; simp [intOf]; omega
      · have hBf : B = false := by rw [← HB.out]; exact decide_eq_false (fun h => hxy (by rw [← hxx, ← hyy, h]))
        have HBf := Aside0.mk hBf
        have h1 := Tx_ne hxy
        clear hBf hxx hyy
        go_wp2_with fail
        go_region
        go_wp2_with fail
        go_ret
        rw [HBf.out]
        exact ⟨rfl, HBw.out⟩
    · have hnb : decide ((i : Int) < (n : Int)) = false := decide_eq_false (by omega)
      have hnc : decide (i < n) = false := decide_eq_false hin
      obtain rfl : i = n := by omega
      have hBt : B = true := by
        rw [← HB.out]
        have h := HE.out
        rw [List.take_of_length_le (by rw [Hn.out.1]; exact Nat.le_refl _), List.take_of_length_le (by rw [Hn.out.2]; exact Nat.le_refl _)] at h
        exact decide_eq_true h
      have HBt := Aside0.mk hBt
      clear hin hi hBt
      go_wp2_with fail
      go_ret
      rw [HBt.out]
      exact ⟨rfl, HBl.out⟩

end Go.Proofs.YtkpadjhdneiniaaGreatDoor.Am
end

/- Ed: Pairs in the order of their words: the least one that differs. Plain. -/
section
namespace Go.Proofs.YtkpadjhdneiniaaGreatDoor.Am
set_option linter.unusedVariables false
open Go.RowKit Go.Proofs.YtkpadjhdneiniaaGreatDoorW.PrintWords Go.Proofs.YtkpadjhdneiniaaGreatDoorW.PrintLast Go.Proofs.YtkpadjhdneiniaaGreatDoorW.PrintMore Go.Maps
open Go.Proofs.YtkpadjhdneiniaaGreatDoor.Base Go.Proofs.YtkpadjhdneiniaaGreatDoor.Map Go.Proofs.YtkpadjhdneiniaaGreatDoor.Sl Go.Proofs.YtkpadjhdneiniaaGreatDoor.Ow Go.Proofs.YtkpadjhdneiniaaGreatDoor.Se Go.Proofs.YtkpadjhdneiniaaGreatDoor.Gr Go.Proofs.YtkpadjhdneiniaaGreatDoor.Rf Go.Proofs.YtkpadjhdneiniaaGreatDoor.Tx Go.Proofs.YtkpadjhdneiniaaGreatDoor.Au



open Go.Proofs.YtkpadjhdneiniaaGreatDoor.Eb

/-- the types of a set, in their order -/
def tyG (T : List ByteArray) (os : List Int) : List ByteArray := ((Lib.compact (((((typL T os).map toL).mergeSort fun x y => decide (x ≤ y)).map ofL).map toL)).map ofL)
theorem tyG_is (T : List ByteArray) (os : List Int) : TypS T os (tyG T os) := TypS.of_sort T os
theorem tyG_eq {T : List ByteArray} {os : List Int} {S : List ByteArray} (h : TypS T os S) : S = tyG T os := TypS.ext h (tyG_is T os)
/-- where a word leads from a set -/
def ledS (E : List GE) (s : List Int) (l : List Int) : List Int := l.foldl (fun s f => nextG E f s) s
theorem ledS_app (E : List GE) (s l t : List Int) : ledS E s (l ++ t) = ledS E (ledS E s l) t := by unfold ledS; rw [List.foldl_append]
theorem ledS_nil (E : List GE) (l : List Int) : ledS E [] l = [] := led_nil E l
/-- do two sets differ at a word? -/
def Df (T : List ByteArray) (E : List GE) (s s' l : List Int) : Prop := tyG T (ledS E s l) ≠ tyG T (ledS E s' l)
theorem Df_none {T : List ByteArray} {E : List GE} {s s' : List Int} {f : Int} {t : List Int} (h : nextG E f s = nextG E f s') : ¬ Df T E s s' (f :: t) := fun hd => by
  have e : ledS E s (f :: t) = ledS E s' (f :: t) := by
    show ledS E (nextG E f s) t = ledS E (nextG E f s') t
    rw [h]
  exact hd (by rw [e])
abbrev Pr := List Int × List Int × List Int
abbrev noP : Pr := ([], [], [])
/-- Pairs gone through as far as i, of pair i the fields dn. -/
structure Bfs (T : List ByteArray) (E : List GE) (s s' : List Int) (P : List Pr) (i : Nat) (dn : List Int) : Prop where
  pos : 0 < P.length
  head : P.getD 0 noP = (s, s', [])
  rise : ∀ j k, j < k → k < P.length → SL (P.getD j noP).2.2 (P.getD k noP).2.2
  same : ∀ j, j < i → j < P.length → ¬ Df T E (P.getD j noP).1 (P.getD j noP).2.1 []
  step : ∀ j, j < i → j < P.length → ∀ f t, Df T E (P.getD j noP).1 (P.getD j noP).2.1 (f :: t) → ∃ k, k < P.length ∧ SLe (P.getD k noP).2.2 ((P.getD j noP).2.2 ++ [f]) ∧ Df T E (P.getD k noP).1 (P.getD k noP).2.1 t
  now : ∀ f, f ∈ dn → i < P.length → ∀ t, Df T E (P.getD i noP).1 (P.getD i noP).2.1 (f :: t) → ∃ k, k < P.length ∧ SLe (P.getD k noP).2.2 ((P.getD i noP).2.2 ++ [f]) ∧ Df T E (P.getD k noP).1 (P.getD k noP).2.1 t
  top : ∀ k, k < P.length → (P.getD k noP).2.2 = [] ∨ ∃ p g, p ≤ i ∧ p < P.length ∧ (P.getD k noP).2.2 = (P.getD p noP).2.2 ++ [g] ∧ (p = i → g ∈ dn)
  led : ∀ j, j < P.length → ledS E s (P.getD j noP).2.2 = (P.getD j noP).1 ∧ ledS E s' (P.getD j noP).2.2 = (P.getD j noP).2.1
section
variable {T : List ByteArray} {E : List GE} {s s' : List Int} {P : List Pr} {i : Nat} {dn : List Int}
theorem Bfs.start (T : List ByteArray) (E : List GE) (s s' : List Int) : Bfs T E s s' [(s, s', [])] 0 [] where
  pos := by simp
  head := rfl
  rise := fun j k h1 h2 => by simp at h2; omega
  same := fun j h => by omega
  step := fun j h => by omega
  now := fun f h => by cases h
  top := fun k h => .inl (by simp at h; subst h; rfl)
  led := fun j h => by simp at h; subst h; exact ⟨rfl, rfl⟩
theorem getD_old {α : Type} (P : List α) (x d : α) {k : Nat} (h : k < P.length) : (P ++ [x]).getD k d = P.getD k d := by
  rw [List.getD_eq_getElem?_getD, List.getElem?_append_left h, ← List.getD_eq_getElem?_getD]
theorem getD_new {α : Type} (P : List α) (x d : α) : (P ++ [x]).getD P.length d = x := by
  rw [List.getD_eq_getElem?_getD, List.getElem?_append_right (Nat.le_refl _)]; simp
theorem Bfs.below (h : Bfs T E s s' P i dn) (hi : i < P.length) {f : Int} (hf : ∀ g ∈ dn, g < f) {k : Nat} (hk : k < P.length) : SL (P.getD k noP).2.2 ((P.getD i noP).2.2 ++ [f]) := by
  rcases h.top k hk with e | ⟨p, g, h1, h2, h3, h4⟩
  · rw [e]; exact .inl (by simp)
  · rw [h3]
    rcases Nat.lt_or_eq_of_le h1 with hl | rfl
    · exact (h.rise p i hl hi).app rfl
    · exact SL.snoc _ (hf g (h4 rfl))
/-- a pair that is new -/
theorem Bfs.new (h : Bfs T E s s' P i dn) (hi : i < P.length) {f : Int} (hf : ∀ g ∈ dn, g < f) :
    Bfs T E s s' (P ++ [(nextG E f (P.getD i noP).1, nextG E f (P.getD i noP).2.1, (P.getD i noP).2.2 ++ [f])]) i (dn ++ [f]) := by
  obtain ⟨x, hx⟩ : ∃ x, (nextG E f (P.getD i noP).1, nextG E f (P.getD i noP).2.1, (P.getD i noP).2.2 ++ [f]) = x := ⟨_, rfl⟩
  rw [hx]
  have ex1 : x.1 = nextG E f (P.getD i noP).1 := by rw [← hx]
  have ex2 : x.2.1 = nextG E f (P.getD i noP).2.1 := by rw [← hx]
  have ex3 : x.2.2 = (P.getD i noP).2.2 ++ [f] := by rw [← hx]
  have old : ∀ {k}, k < P.length → (P ++ [x]).getD k noP = P.getD k noP := fun hk => getD_old P x noP hk
  have new : (P ++ [x]).getD P.length noP = x := getD_new P x noP
  have lt : ∀ {k}, k < (P ++ [x]).length → k < P.length ∨ k = P.length := fun hk => by rw [List.length_append, List.length_singleton] at hk; omega
  have len : P.length < (P ++ [x]).length := by simp
  refine ⟨by omega, by rw [old h.pos]; exact h.head, fun j k h1 h2 => ?_, fun j h1 h2 => ?_, fun j h1 h2 g t hd => ?_, fun g hg h1 t hd => ?_, fun k hk => ?_, fun j hj => ?_⟩
  · rcases lt h2 with h2 | rfl
    · rw [old h2, old (by omega)]; exact h.rise j k h1 h2
    · rw [new, old (by omega), ex3]; exact h.below hi hf (by omega)
  · rw [old (by omega)]; exact h.same j h1 (by omega)
  · rw [old (by omega)] at hd ⊢
    obtain ⟨k, h3, h4, h5⟩ := h.step j h1 (by omega) g t hd
    exact ⟨k, by omega, by rw [old h3]; exact h4, by rw [old h3]; exact h5⟩
  · rw [old hi] at hd ⊢
    rcases List.mem_append.1 hg with hg | hg
    · obtain ⟨k, h3, h4, h5⟩ := h.now g hg hi t hd
      exact ⟨k, by omega, by rw [old h3]; exact h4, by rw [old h3]; exact h5⟩
    · rw [List.mem_singleton] at hg; subst hg
      refine ⟨P.length, len, ?_, ?_⟩
      · rw [new, ex3]; exact .inl rfl
      · rw [new, ex1, ex2]; exact hd
  · rcases lt hk with hk | rfl
    · rw [old hk]
      rcases h.top k hk with e | ⟨p, g, h1, h2, h3, h4⟩
      · exact .inl e
      · exact .inr ⟨p, g, h1, by omega, by rw [old h2]; exact h3, fun e => List.mem_append.2 (.inl (h4 e))⟩
    · rw [new, ex3]
      exact .inr ⟨i, f, Nat.le_refl _, by omega, by rw [old hi], fun _ => by simp⟩
  · rcases lt hj with hj | rfl
    · rw [old hj]; exact h.led j hj
    · rw [new, ex1, ex2, ex3, ledS_app, ledS_app, (h.led i hi).1, (h.led i hi).2]; exact ⟨rfl, rfl⟩
/-- a field whose pair isn't new -/
theorem Bfs.old (h : Bfs T E s s' P i dn) (hi : i < P.length) {f : Int} (hf : ∀ g ∈ dn, g < f)
    (ho : ∀ t, Df T E (nextG E f (P.getD i noP).1) (nextG E f (P.getD i noP).2.1) t → ∃ k, k < P.length ∧ Df T E (P.getD k noP).1 (P.getD k noP).2.1 t) : Bfs T E s s' P i (dn ++ [f]) :=
  { h with
    now := fun g hg h1 t hd => by
      rcases List.mem_append.1 hg with hg | hg
      · exact h.now g hg h1 t hd
      · rw [List.mem_singleton] at hg; subst hg
        obtain ⟨k, h3, h4⟩ := ho t hd
        exact ⟨k, h3, .inr (h.below hi hf h3), h4⟩
    top := fun k hk => (h.top k hk).imp id (fun ⟨p, g, h1, h2, h3, h4⟩ => ⟨p, g, h1, h2, h3, fun e => List.mem_append.2 (.inl (h4 e))⟩) }
/-- all fields are done -/
theorem Bfs.next (h : Bfs T E s s' P i dn) (hi : i < P.length) (hs : ¬ Df T E (P.getD i noP).1 (P.getD i noP).2.1 []) (hd : ∀ f, f ∉ dn → nextG E f (P.getD i noP).1 = nextG E f (P.getD i noP).2.1) : Bfs T E s s' P (i + 1) [] :=
  { pos := h.pos, head := h.head, rise := h.rise, led := h.led
    same := fun j h1 h2 => by
      rcases Nat.lt_succ_iff_lt_or_eq.1 h1 with h3 | rfl
      · exact h.same j h3 h2
      · exact hs
    step := fun j h1 h2 f t hD => by
      rcases Nat.lt_succ_iff_lt_or_eq.1 h1 with h3 | rfl
      · exact h.step j h3 h2 f t hD
      · by_cases hf : f ∈ dn
        · exact h.now f hf hi t hD
        · exact absurd hD (Df_none (hd f hf))
    now := fun f hf => by cases hf
    top := fun k hk => (h.top k hk).imp id (fun ⟨p, g, h1, h2, h3, h4⟩ => ⟨p, g, by omega, h2, h3, fun e => by omega⟩) }
theorem Bfs.gone (h : Bfs T E s s' P i dn) : Gone (fun j => (P.getD j noP).2.2) (fun j => Df T E (P.getD j noP).1 (P.getD j noP).2.1) i P.length := ⟨h.rise, h.same, h.step⟩
theorem Bfs.least (h : Bfs T E s s' P i dn) (hi : i < P.length) (hd : Df T E (P.getD i noP).1 (P.getD i noP).2.1 []) : Least (Df T E s s') (P.getD i noP).2.2 := by
  have := h.gone.least (by rw [h.head]) (fun j hj t hD => by
    rw [h.head]
    show tyG T (ledS E s (_ ++ t)) ≠ tyG T (ledS E s' (_ ++ t))
    rw [ledS_app, ledS_app, (h.led j hj).1, (h.led j hj).2]; exact hD) hi hd
  rw [h.head] at this; exact this
theorem Bfs.none (h : Bfs T E s s' P P.length dn) : ∀ v, ¬ Df T E s s' v := by
  have := h.gone.none h.pos
  rw [h.head] at this; exact this
end
end Go.Proofs.YtkpadjhdneiniaaGreatDoor.Am
end

/- Ee: The union as the walker uses it, plainly. -/
section
namespace Go.Proofs.YtkpadjhdneiniaaGreatDoor.Am
set_option linter.unusedVariables false
open Go.RowKit Go.Proofs.YtkpadjhdneiniaaGreatDoorW.PrintWords Go.Proofs.YtkpadjhdneiniaaGreatDoorW.PrintLast Go.Proofs.YtkpadjhdneiniaaGreatDoorW.PrintMore Go.Maps
open Go.Proofs.YtkpadjhdneiniaaGreatDoor.Base Go.Proofs.YtkpadjhdneiniaaGreatDoor.Map Go.Proofs.YtkpadjhdneiniaaGreatDoor.Sl Go.Proofs.YtkpadjhdneiniaaGreatDoor.Ow Go.Proofs.YtkpadjhdneiniaaGreatDoor.Se Go.Proofs.YtkpadjhdneiniaaGreatDoor.Gr Go.Proofs.YtkpadjhdneiniaaGreatDoor.Rf Go.Proofs.YtkpadjhdneiniaaGreatDoor.Tx Go.Proofs.YtkpadjhdneiniaaGreatDoor.Au



open Go.Proofs.YtkpadjhdneiniaaGreatDoor.Eb Go.Proofs.YtkpadjhdneiniaaGreatDoor.Un

/-- A union in which the pairs of J have been joined, m times with effect. -/
structure UnI (N : Nat) (J : Nat → Nat → Prop) (hs : List Int) (m : Nat) : Prop where
  len : hs.length = N
  can : Canon hs
  cl : ∀ x y, x < N → y < N → rd hs x = rd hs y → Cl J x y
  cnt : m + cntOf hs = N
theorem UnI.start (N : Nat) : UnI N (fun _ _ => False) (rngL N) 0 := ⟨rng_len N, rng_canon N, fun x y hx hy e => by
  rw [rng_rd N x hx, rng_rd N y hy] at e
  have : x = y := by omega
  subst this; exact .refl x, by rw [rng_cnt]; omega⟩
theorem joinS_two {hs : List Int} {a b : Nat} (ha : a < hs.length) (hb : b < hs.length) : joinS hs [(a : Int), (b : Int)] = joinL hs a b := by
  unfold joinS
  rw [if_pos]
  · show foldJ hs (rd [(a : Int), (b : Int)] (0 : Nat)).toNat [(b : Int)] = _
    have e : rd [(a : Int), (b : Int)] (0 : Nat) = (a : Int) := by simp [rd]
    rw [e]; simp [foldJ]
  · intro k hk
    have hk' : k < 2 := hk
    rcases Nat.lt_or_ge k 1 with h | h
    · obtain rfl : k = 0 := by omega
      have e : rd [(a : Int), (b : Int)] (0 : Nat) = (a : Int) := by simp [rd]
      rw [e]; omega
    · obtain rfl : k = 1 := by omega
      have e : rd [(a : Int), (b : Int)] (1 : Nat) = (b : Int) := by simp [rd]
      rw [e]; omega
theorem UnI.same {N : Nat} {J : Nat → Nat → Prop} {hs : List Int} {m a b : Nat} (h : UnI N J hs m) (ha : a < N) (hb : b < N) (e : rd hs a = rd hs b) : joinS hs [(a : Int), (b : Int)] = hs ∧ Cl J a b :=
  ⟨by rw [joinS_two (by rw [h.len]; exact ha) (by rw [h.len]; exact hb), joinL_same hs a b e], h.cl a b ha hb e⟩
theorem UnI.join {N : Nat} {J : Nat → Nat → Prop} {hs : List Int} {m a b : Nat} (h : UnI N J hs m) (ha : a < N) (hb : b < N) (e : rd hs a ≠ rd hs b) :
    joinS hs [(a : Int), (b : Int)] ≠ hs ∧ UnI N (fun x y => J x y ∨ (x = a ∧ y = b)) (joinS hs [(a : Int), (b : Int)]) (m + 1) := by
  have ha' : a < hs.length := by rw [h.len]; exact ha
  have hb' : b < hs.length := by rw [h.len]; exact hb
  have hc := cnt_join h.can ha' hb' e
  rw [joinS_two ha' hb']
  refine ⟨fun e2 => by rw [e2] at hc; omega, by rw [joinL_len]; exact h.len, h.can.join ha' hb', fun x y hx hy he => ?_, by have := h.cnt; omega⟩
  rw [joinL_rd hs a b x (by rw [h.len]; exact hx), joinL_rd hs a b y (by rw [h.len]; exact hy)] at he
  have up : ∀ {x y}, Cl J x y → Cl (fun x y => J x y ∨ (x = a ∧ y = b)) x y := fun hc => hc.mono (fun _ _ hj => .of (.inl hj))
  have hab : Cl (fun x y => J x y ∨ (x = a ∧ y = b)) a b := .of (.inr ⟨rfl, rfl⟩)
  have cl : ∀ {x y}, x < N → y < N → rd hs x = rd hs y → Cl (fun x y => J x y ∨ (x = a ∧ y = b)) x y := fun hx hy e => up (h.cl _ _ hx hy e)
  by_cases h1 : rd hs x = max (rd hs a) (rd hs b)
  · rw [if_pos h1] at he
    by_cases h2 : rd hs y = max (rd hs a) (rd hs b)
    · exact cl hx hy (h1.trans h2.symm)
    · rw [if_neg h2] at he
      rcases Int.le_total (rd hs a) (rd hs b) with hl | hl
      · rw [Int.max_eq_right hl] at h1; rw [Int.min_eq_left hl] at he
        exact (cl hx hb h1).trans (hab.symm.trans (cl ha hy he))
      · rw [Int.max_eq_left hl] at h1; rw [Int.min_eq_right hl] at he
        exact (cl hx ha h1).trans (hab.trans (cl hb hy he))
  · rw [if_neg h1] at he
    by_cases h2 : rd hs y = max (rd hs a) (rd hs b)
    · rw [if_pos h2] at he
      rcases Int.le_total (rd hs a) (rd hs b) with hl | hl
      · rw [Int.max_eq_right hl] at h2; rw [Int.min_eq_left hl] at he
        exact (cl hx ha he).trans (hab.trans (cl hb hy h2.symm))
      · rw [Int.max_eq_left hl] at h2; rw [Int.min_eq_right hl] at he
        exact (cl hx hb he).trans (hab.symm.trans (cl ha hy h2.symm))
    · rw [if_neg h2] at he
      exact cl hx hy he
end Go.Proofs.YtkpadjhdneiniaaGreatDoor.Am
end
