/- Ne, Nf -/
import Derived.Test.YtkpadjhdneiniaaGreatDoorNa
/- Ne: equal.Classes, slices.IndexFunc. -/
section
namespace Go.Proofs.YtkpadjhdneiniaaGreatDoor.Am
set_option linter.unusedVariables false
open Go.RowKit Go.Proofs.YtkpadjhdneiniaaGreatDoorW.PrintWords Go.Proofs.YtkpadjhdneiniaaGreatDoorW.PrintLast Go.Proofs.YtkpadjhdneiniaaGreatDoorW.PrintMore Go.Maps
open Go.Proofs.YtkpadjhdneiniaaGreatDoor.Base Go.Proofs.YtkpadjhdneiniaaGreatDoor.Map Go.Proofs.YtkpadjhdneiniaaGreatDoor.Sl Go.Proofs.YtkpadjhdneiniaaGreatDoor.Ow Go.Proofs.YtkpadjhdneiniaaGreatDoor.Se Go.Proofs.YtkpadjhdneiniaaGreatDoor.Gr Go.Proofs.YtkpadjhdneiniaaGreatDoor.Rf Go.Proofs.YtkpadjhdneiniaaGreatDoor.Tx Go.Proofs.YtkpadjhdneiniaaGreatDoor.Au



open Go.Proofs.YtkpadjhdneiniaaGreatDoor.Eb
/-! which one is the first -/
def firstG (B : Nat → Bool) : Nat → Int
  | 0 => -1
  | n + 1 => if firstG B n = -1 then (if B n = true then (n : Int) else -1) else firstG B n
theorem firstG_none {B : Nat → Bool} : ∀ {n : Nat}, (∀ j, j < n → B j = false) → firstG B n = -1
  | 0, _ => rfl
  | n + 1, h => by unfold firstG; rw [if_pos (firstG_none (fun j hj => h j (by omega))), h n (by omega)]; rfl
theorem firstG_at {B : Nat → Bool} {k : Nat} (h : ∀ j, j < k → B j = false) (hb : B k = true) : ∀ {n : Nat}, k < n → firstG B n = (k : Int)
  | 0, hk => by omega
  | n + 1, hk => by
    unfold firstG
    rcases Nat.lt_or_eq_of_le (Nat.le_of_lt_succ hk) with h1 | rfl
    · have e := firstG_at h hb h1
      rw [e, if_neg (by omega)]
    · rw [if_pos (firstG_none h), if_pos hb]
theorem firstG_spec (B : Nat → Bool) : ∀ n, (firstG B n = -1 ∧ ∀ j, j < n → B j = false) ∨ ∃ k, k < n ∧ firstG B n = (k : Int) ∧ B k = true ∧ ∀ j, j < k → B j = false
  | 0 => .inl ⟨rfl, fun j h => by omega⟩
  | n + 1 => by
    rcases firstG_spec B n with ⟨h1, h2⟩ | ⟨k, h1, h2, h3, h4⟩
    · cases hb : B n with
      | true => exact .inr ⟨n, by omega, firstG_at h2 hb (by omega), hb, h2⟩
      | false => exact .inl ⟨firstG_none (fun j hj => by
          rcases Nat.lt_or_eq_of_le (Nat.le_of_lt_succ hj) with h | rfl
          · exact h2 j h
          · exact hb), fun j hj => by
          rcases Nat.lt_or_eq_of_le (Nat.le_of_lt_succ hj) with h | rfl
          · exact h2 j h
          · exact hb⟩
    · exact .inr ⟨k, by omega, firstG_at h4 h3 (by omega), h3, h4⟩
/-- the classes: of each the first one that is the same -/
def clsL (S : Nat → Nat → Bool) (n : Nat) : List Int := (List.range n).map fun i => firstG (fun j => S j i) (i + 1)
theorem clsL_snoc (S : Nat → Nat → Bool) (n : Nat) : clsL S (n + 1) = clsL S n ++ [firstG (fun j => S j n) (n + 1)] := by
  unfold clsL; rw [List.range_succ, List.map_append]; rfl
theorem clsL_len (S : Nat → Nat → Bool) (n : Nat) : (clsL S n).length = n := by simp [clsL]
theorem clsL_get (S : Nat → Nat → Bool) {n i : Nat} (h : i < n) : (clsL S n).getD i 0 = firstG (fun j => S j i) (i + 1) := by
  unfold clsL
  rw [List.getD_eq_getElem?_getD, List.getElem?_map, List.getElem?_range h]; rfl
/-- v reads as pointers -/
structure RdA (w : World) (v : Value) (ps : List (Option Addr)) : Prop where
  mk :: (out : ∃ A c, v = .slice A ps.length c ∧ ps.length ≤ c ∧ ∀ j, j < ps.length → ∃ ad, A = some ad ∧ w.cell? (ad.add j) = some (.pointer (ps.getD j none)))
theorem RdA.below {w w1 : World} {v : Value} {ps : List (Option Addr)} (h : RdA w v ps) (hb : Below w.heap.size w w1) : RdA w1 v ps := by
  obtain ⟨A, c, h1, h2, h3⟩ := h
  refine ⟨A, c, h1, h2, fun j hj => ?_⟩
  obtain ⟨ad, e1, e2⟩ := h3 j hj
  exact ⟨ad, e1, pw_cell_below hb e2⟩
theorem RdA.at_ {w : World} {A : Option Addr} {n c : Nat} {ps : List (Option Addr)} (h : RdA w (.slice A n c) ps) {j : Nat} (hj : j < ps.length) : ∃ ad, A = some ad ∧ w.cell? (ad.add j) = some (.pointer (ps.getD j none)) := by
  obtain ⟨A', c', h1, h2, h3⟩ := h
  cases h1
  exact h3 j hj
theorem RdA.len {w : World} {v : Value} {ps : List (Option Addr)} (h : RdA w v ps) : ∃ A c, v = .slice A ps.length c ∧ ps.length ≤ c := by
  obtain ⟨A, c, h1, h2, h3⟩ := h
  exact ⟨A, c, h1, h2⟩
theorem RdA.take {w : World} {A : Option Addr} {n c : Nat} {ps : List (Option Addr)} (h : RdA w (.slice A n c) ps) {i : Nat} (hi : i ≤ n) : RdA w (.slice A i c) (ps.take i) := by
  obtain ⟨A', c', h1, h2, h3⟩ := h
  injection h1 with ha hb hc
  subst ha; subst hb; subst hc
  refine ⟨A, c, by rw [List.length_take, Nat.min_eq_left hi], by rw [List.length_take]; omega, fun j hj => ?_⟩
  rw [List.length_take] at hj
  obtain ⟨ad, e1, e2⟩ := h3 j (by omega)
  exact ⟨ad, e1, by rw [e2]; congr 2; rw [List.getD_eq_getElem?_getD, List.getD_eq_getElem?_getD, List.getElem?_take, if_pos (by omega)]⟩
/-- what equal.Same says of two -/
def SameSaid (w : World) (a b : Option Addr) (B : Bool) : Prop := ∀ W', Below w.heap.size w W' → Calls Tryz.prog 41 #[.pointer a, .pointer b] W' fun e w' => e = .returned (.bool B) ∧ Below W'.heap.size W' w'
theorem SameSaid.below {w w1 : World} {a b : Option Addr} {B : Bool} (h : SameSaid w a b B) (hb : Below w.heap.size w w1) : SameSaid w1 a b B := fun W' hc => h W' (bel_trans hb hc)
set_option maxHeartbeats 8000000 in
set_option maxRecDepth 100000 in
theorem clos_any (x b : Option Addr) (q : Addr) (B : Bool) (w : World) (hq : w.cell? q = some (.pointer x)) (h : SameSaid w b x B) :
    Calls Tryz.prog 77 #[.pointer b, .pointer (some q)] w fun e w' => e = .returned (.bool B) ∧ Below w.heap.size w w' := by
  go_enter Tryz.func77, Tryz.ntmps77
  go_wp2_with fail
  refine (h w (Below.refl _ _)).mono ?_
  rintro e w1 ⟨rfl, r1⟩
  go_wp2_with fail
  go_ret
  exact ⟨rfl, r1⟩
set_option maxHeartbeats 8000000 in
set_option maxRecDepth 100000 in
theorem idx_any (A : Option Addr) (n c : Nat) (ps : List (Option Addr)) (x : Option Addr) (q : Addr) (B : Nat → Bool) (w : World) (hn : ps.length = n) (hl : n ≤ 1000) (hv : RdA w (.slice A n c) ps) (hq : w.cell? q = some (.pointer x)) (h : ∀ j, j < n → SameSaid w (ps.getD j none) x (B j)) :
    Calls Tryz.prog 76 #[.slice A n c, .func (.func 77) #[] #[.pointer (some q)]] w fun e w' => e = .returned (.int .i64 (firstG B n)) ∧ Below w.heap.size w w' := by
  have HV := Aside0.mk hv
  have HQ := Aside0.mk hq
  have HS := Aside0.mk h
  have Hn := Aside0.mk (And.intro hn hl)
  obtain ⟨r, hr⟩ : ∃ r, firstG B n = r := ⟨_, rfl⟩
  rw [hr]
  have Hr := Aside0.mk hr
  clear hv hq h hn hl hr
  go_enter Tryz.func76, Tryz.ntmps76
  go_wp2_with fail
  go_loopw [8] (fun I wr => ∃ k : Nat, I = .int .i64 (k : Int) ∧ k ≤ n ∧ Aside0 (∀ j, j < k → B j = false) ∧ Aside0 (Below w.heap.size w wr)) (fun I _ => n - (intOf I).toNat)
  case atStart => exact ⟨0, rfl, Nat.zero_le _, ⟨fun j h => by omega⟩, ⟨Below.refl _ _⟩⟩
  case round =>
    obtain ⟨k, rfl, hk, HE, HB⟩ := hrel
    have k2 : (k : Int) ≤ 1000 := by have := Hn.out.2; omega
    by_cases hkn : k < n
    · have hnb : decide ((k : Int) < (n : Int)) = true := decide_eq_true (by omega)
      have hnc : decide (k < n) = true := decide_eq_true hkn
      obtain ⟨ad, rfl, e0⟩ := (HV.out.below HB.out).at_ (j := k) (by rw [Hn.out.1]; exact hkn)
      have HC := Aside0.mk (clos_any x (ps.getD k none) q (B k) wr (pw_cell_below HB.out HQ.out) ((HS.out k hkn).below HB.out))
      obtain ⟨p, hp⟩ : ∃ p, ps.getD k none = p := ⟨_, rfl⟩
      rw [hp] at e0 HC
      obtain ⟨b, hb⟩ : ∃ b, B k = b := ⟨_, rfl⟩
      rw [hb] at HC
      have Hb := Aside0.mk hb
      have k0 : (0 : Int) ≤ (k : Int) := by omega
      have k1 : (k : Int) < (n : Int) := by omega
      have Hk := Aside0.mk hkn
      clear hkn hk hp hb
      replace k0 := eq_true k0
      replace k1 := eq_true k1
      go_wp2_with fail
      refine HC.out.mono ?_
      rintro e w1 ⟨rfl, r1⟩
      have HB1 := Aside0.mk (bel_trans HB.out r1)
      clear r1 HC e0
      cases b with
      | true =>
        have hr : r = (k : Int) := by rw [← Hr.out]; exact firstG_at HE.out Hb.out Hk.out
        subst hr
        go_wp2_with fail
        go_ret
        exact ⟨rfl, HB1.out⟩
      | false =>
        have HE' := Aside0.mk (show ∀ j, j < k + 1 → B j = false from fun j hj => by
          rcases Nat.lt_or_eq_of_le (Nat.le_of_lt_succ hj) with h | rfl
          · exact HE.out j h
          · exact Hb.out)
        go_wp2_with fail
        go_roundw
        case rel => exact ⟨k + 1, by go_num, Hk.out, HE', HB1⟩
        case measure => have := Hk.out; simp [intOf]; omega
    · have hnb : decide ((k : Int) < (n : Int)) = false := decide_eq_false (by omega)
      have hnc : decide (k < n) = false := decide_eq_false hkn
      obtain rfl : k = n := by omega
      have hr : r = -1 := by rw [← Hr.out]; exact firstG_none HE.out
      subst hr
      clear hkn hk
      go_wp2_with fail
      go_ret
      exact ⟨rfl, HB.out⟩
set_option maxHeartbeats 8000000 in
set_option maxRecDepth 100000 in
theorem classes_any (A : Option Addr) (n c : Nat) (ps : List (Option Addr)) (S : Nat → Nat → Bool) (w : World) (hn : ps.length = n) (hl : n ≤ 1000) (hc : n ≤ c) (hv : RdA w (.slice A n c) ps) (h : ∀ i j, i < n → j < n → SameSaid w (ps.getD j none) (ps.getD i none) (S j i)) :
    Calls Tryz.prog 43 #[.slice A n c] w fun e w' => ∃ u, e = .returned u ∧ RdV w' u (clsL S n) ∧ Below w.heap.size w w' := by
  have HV := Aside0.mk hv
  have HS := Aside0.mk h
  have Hn := Aside0.mk (And.intro hn (And.intro hl hc))
  clear hv h hn hl hc
  go_enter Tryz.func43, Tryz.ntmps43
  go_wp2_with fail
  go_loopw [3, 8] (fun V I wr => ∃ k : Nat, I = .int .i64 (k : Int) ∧ k ≤ n ∧ Aside0 (OwI wr w.heap.size V (clsL S k)) ∧ Aside0 (Below w.heap.size w wr)) (fun _ I _ => n - (intOf I).toNat)
  case atStart => exact ⟨0, rfl, Nat.zero_le _, ⟨OwI.nil w _⟩, ⟨Below.refl _ _⟩⟩
  case round =>
    obtain ⟨k, rfl, hk, HO, HB⟩ := hrel
    have k2 : (k : Int) ≤ 1000 := by have := Hn.out.2.1; omega
    obtain ⟨AV, cV, hV, hV2, hV3⟩ := HO.out.toV
    subst hV
    rw [clsL_len] at HO ⊢
    clear hV2 hV3
    by_cases hkn : k < n
    · have hnb : decide ((k : Int) < (n : Int)) = true := decide_eq_true (by omega)
      have hnc : decide (k < n) = true := decide_eq_true hkn
      obtain ⟨ad, rfl, e0⟩ := (HV.out.below HB.out).at_ (j := k) (by rw [Hn.out.1]; exact hkn)
      obtain ⟨p, hp⟩ : ∃ p, ps.getD k none = p := ⟨_, rfl⟩
      rw [hp] at e0
      have k0 : (0 : Int) ≤ (k : Int) := by omega
      have k1 : (k : Int) < (n : Int) := by omega
      have hw : IntKind.i64.wrap ((k : Int) + 1) = ((k + 1 : Nat) : Int) := by have := wrap_add (m := k) (n := 1) (by omega); simpa using this
      have Hk := Aside0.mk (And.intro hkn hp)
      clear hkn hk hp
      replace k0 := eq_true k0
      replace k1 := eq_true k1
      have c0 : (0 : Int) ≤ (k : Int) + 1 := by omega
      have c1 : (k : Int) + 1 ≤ (c : Int) := by have := Hn.out.2.2; have := Hk.out.1; omega
      have tn : ((k : Int) + 1).toNat = k + 1 := by omega
      obtain ⟨q, hq⟩ : ∃ b, wr.heap.size = b := ⟨_, rfl⟩
      obtain ⟨wq, hwq⟩ : ∃ z, wr.alloc (.cells #[.pointer p] 33) = z := ⟨_, rfl⟩
      have HBq := Aside0.mk (show Below wr.heap.size wr wq by rw [← hwq]; exact below_alloc (Below.refl _ _) _)
      have hqc : wq.cell? ⟨q, 0, none⟩ = some (.pointer p) := by rw [← hwq, ← hq]; exact blk_cell (heap_alloc_new _ _) 0
      have HIx := Aside0.mk (idx_any (some ad) (k + 1) c (ps.take (k + 1)) p ⟨q, 0, none⟩ (fun j => S j k) wq (by rw [List.length_take]; have := Hn.out.1; have := Hk.out.1; omega) (by have := Hn.out.2.1; have := Hk.out.1; omega) (((HV.out.below HB.out).below HBq.out).take (by have := Hk.out.1; omega)) hqc (fun j hj => by
        have e : (ps.take (k + 1)).getD j none = ps.getD j none := by rw [List.getD_eq_getElem?_getD, List.getD_eq_getElem?_getD, List.getElem?_take, if_pos hj]
        have h := HS.out k j Hk.out.1 (by have := Hk.out.1; omega)
        rw [Hk.out.2] at h
        rw [e]; exact (h.below HB.out).below HBq.out))
      have hcl := clsL_snoc S k
      obtain ⟨r, hr⟩ : ∃ r, firstG (fun j => S j k) (k + 1) = r := ⟨_, rfl⟩
      rw [hr] at HIx hcl
      have Hcl := Aside0.mk hcl
      clear hr hcl hqc
      replace c0 := eq_true c0
      replace c1 := eq_true c1
      go_wp2_with fail
      try simp only [hq, hwq]
      clear hq hwq e0 c0 c1
      refine HIx.out.mono ?_
      rintro e w6 ⟨rfl, r1⟩
      have HB6 := Aside0.mk (bel_trans HB.out (bel_trans HBq.out r1))
      have HO6 := Aside0.mk (HO.out.below (bel_trans HBq.out r1))
      obtain ⟨Wa, hWa⟩ : ∃ Wa, w6.alloc (.cells #[.int .i64 r] 3) = Wa := ⟨_, rfl⟩
      have Ba : Below w6.heap.size w6 Wa := by rw [← hWa]; exact below_alloc (Below.refl _ _) _
      have HRa := Aside0.mk (show RdV Wa (.slice (some ⟨w6.heap.size, 0, none⟩) 1 1) [r] from RdV.one (by rw [← hWa]; exact blk_cell (heap_alloc_new _ _) 0))
      have HOa := Aside0.mk (HO6.out.below Ba)
      have HBa := Aside0.mk (bel_trans HB6.out Ba)
      clear r1 Ba HIx
      go_wp2_with (first
        | (at_builtin; refine appB (wb := w) rfl (.tmp 13) (.tmp 20) rfl _ _ (clsL S k) [r] (by rfl) (by rfl) HOa.out HRa.out HBa.out (by rw [clsL_len]; have := Hn.out.2.1; have := Hk.out.1; simp; omega) ?_; intro v1 w1 ho1 hb1 _ _)
        | fail)
      have HO9 := Aside0.mk (show OwI w1 w.heap.size v1 (clsL S (k + 1)) by rw [Hcl.out]; exact ho1)
      have HB9 := Aside0.mk hb1
      clear ho1 hb1 hWa
      go_wp2_with fail
      go_roundw
      case rel => exact ⟨k + 1, by go_num, Hk.out.1, HO9, HB9⟩
      case measure => have := Hk.out.1; simp [intOf]; omega
    · have hnb : decide ((k : Int) < (n : Int)) = false := decide_eq_false (by omega)
      have hnc : decide (k < n) = false := decide_eq_false hkn
      obtain rfl : k = n := by omega
      have HE := Aside0.mk (HO.out.toV)
      clear hkn hk
      go_wp2_with fail
      go_ret
      exact ⟨_, rfl, HE.out, HB.out⟩

end Go.Proofs.YtkpadjhdneiniaaGreatDoor.Am
end

/- Nf: Automata that stay: made2; rows of pointers. -/
section
namespace Go.Proofs.YtkpadjhdneiniaaGreatDoor.Am
set_option linter.unusedVariables false
open Go.RowKit Go.Proofs.YtkpadjhdneiniaaGreatDoorW.PrintWords Go.Proofs.YtkpadjhdneiniaaGreatDoorW.PrintLast Go.Proofs.YtkpadjhdneiniaaGreatDoorW.PrintMore Go.Maps
open Go.Proofs.YtkpadjhdneiniaaGreatDoor.Base Go.Proofs.YtkpadjhdneiniaaGreatDoor.Map Go.Proofs.YtkpadjhdneiniaaGreatDoor.Sl Go.Proofs.YtkpadjhdneiniaaGreatDoor.Ow Go.Proofs.YtkpadjhdneiniaaGreatDoor.Se Go.Proofs.YtkpadjhdneiniaaGreatDoor.Gr Go.Proofs.YtkpadjhdneiniaaGreatDoor.Rf Go.Proofs.YtkpadjhdneiniaaGreatDoor.Tx Go.Proofs.YtkpadjhdneiniaaGreatDoor.Au



open Go.Proofs.YtkpadjhdneiniaaGreatDoor.Eb
/-- An automaton in block pa of object o: it stays so, whatever changes of what is older than b or newer than e. -/
def AuS (b e : Nat) (w : World) (pa : Nat) (T : List ByteArray) (E : List GE) (o : Int) : Prop :=
  ∃ pg F, ∀ (G : Nat → Prop) (w1 : World), (∀ k, G k → k < b ∨ e ≤ k) → Chg G w w1 → AuX w1 F pa pg (statesG E T.length o) (stepG E (statesG E T.length o)) 100000 ∧ GA w1 pg T E
theorem AuS.chg {b e : Nat} {w w1 : World} {pa : Nat} {T : List ByteArray} {E : List GE} {o : Int} (h : AuS b e w pa T E o) {G : Nat → Prop} (hG : ∀ k, G k → k < b ∨ e ≤ k) (hC : Chg G w w1) (he : e ≤ w.heap.size) : AuS b e w1 pa T E o := by
  obtain ⟨pg, F, h⟩ := h
  refine ⟨pg, F, fun G' w2 hG' hC' => h (fun k => G k ∨ G' k) w2 (fun k hk => hk.elim (hG k) (hG' k)) ?_⟩
  exact (hC.mono (fun _ _ hk => .inl hk)).then_ hC' (fun k hk => .inl (.inr hk))
theorem AuS.below {b e : Nat} {w w1 : World} {pa : Nat} {T : List ByteArray} {E : List GE} {o : Int} (h : AuS b e w pa T E o) (hb : Below w.heap.size w w1) (he : e ≤ w.heap.size) : AuS b e w1 pa T E o :=
  h.chg (G := fun _ => False) (fun _ hk => hk.elim) (Chg.of_below hb _) he
theorem AuS.au {b e : Nat} {w : World} {pa : Nat} {T : List ByteArray} {E : List GE} {o : Int} (h : AuS b e w pa T E o) : ∃ pg F, ∀ w1, Below w.heap.size w w1 → AuX w1 F pa pg (statesG E T.length o) (stepG E (statesG E T.length o)) 100000 ∧ GA w1 pg T E := by
  obtain ⟨pg, F, h⟩ := h
  exact ⟨pg, F, fun w1 hb => h (fun _ => False) w1 (fun _ hk => hk.elim) (Chg.of_below hb _)⟩
/-- winnowerlaw24.made, and that nothing of it is old -/
def MadeSaid2 (w : World) (T : List ByteArray) (E : List GE) (o : Int) (e : Ending) (w' : World) : Prop :=
  ∃ pa, e = .returned (.pointer (some ⟨pa, 0, none⟩)) ∧ AuS w.heap.size w'.heap.size w' pa T E o ∧ Below w.heap.size w w'
theorem aus_start {w w' : World} {T : List ByteArray} {E : List GE} {o : Int} {pa pg : Nat} {F : Nat → Prop} {lab : Nat → Option Tag} (h : AuX w' F pa pg (statesG E T.length o) (stepG E (statesG E T.length o)) 100000) (hp : w.heap.size + 2 ≤ pa) (hF : ∀ k, F k → w.heap.size ≤ k) (hg : GN w' lab pg T E) (hl : ∀ k, lab k ≠ none → w.heap.size ≤ k) : AuS w.heap.size w'.heap.size w' pa T E o := by
  refine ⟨pg, F, fun G w1 hG hC => ?_⟩
  have hC2 : Chg (fun k => k < w.heap.size) w' w1 := hC.mono (fun k hk hg => (hG k hg).elim id (fun h => by omega))
  exact ⟨h.chg hC2 (fun k hk hlt => by have := hF k hk; omega) (fun k hk => by omega), ⟨lab, GX.chg hg hC2 (fun k hk hlt => by have := hl k hk; omega)⟩⟩
set_option maxHeartbeats 16000000 in
set_option maxRecDepth 100000 in
theorem made2_any (A : Option Addr) (c : Nat) (T : List ByteArray) (A2 : Option Addr) (c2 : Nat) (E : List GE) (o : Int) (w : World) (hTZ : TZ w) (hP : P10 w) (hT : RdT w A T) (hE : RdE w A2 E) (hokE : ∀ a f z, (a, f, z) ∈ E → ok64 f) (hL : LightG T.length E) (h0 : 0 ≤ o) (h1 : o < T.length) :
    Calls Tryz.prog 38 #[.agg #[.slice A T.length c, .slice A2 E.length c2], .int .i64 o] w (MadeSaid2 w T E o) := by
  obtain ⟨W, hW⟩ : ∃ W, w.alloc (.cells #[.slice A T.length c, .slice A2 E.length c2] 25) = W := ⟨_, rfl⟩
  have HBW := Aside0.mk (show Below w.heap.size w W by rw [← hW]; exact below_alloc (Below.refl _ _) _)
  have Hb : W.heap[w.heap.size]? = some (.cells #[.slice A T.length c, .slice A2 E.length c2] 25 (0, 0)) := by rw [← hW]; exact heap_alloc_new _ _
  obtain ⟨g, hg⟩ : ∃ g, w.heap.size = g := ⟨_, rfl⟩
  rw [hg] at Hb
  have g0 : W.cell? ⟨g, 0, none⟩ = some (.slice A T.length c) := blk_cellD Hb 0 _ rfl
  have g1 : W.cell? ⟨g, 1, none⟩ = some (.slice A2 E.length c2) := blk_cellD Hb 1 _ rfl
  have HNw := Aside0.mk (new_walk A c T A2 c2 E W (hT.below HBW.out) (hE.below HBW.out) (by have h := hL.2.2; omega) (by have h := hL.1.2; omega) hokE)
  have HBd := Aside0.mk (fun (W' : World) (pg : Nat) (hc : Below W.heap.size W W') (hG : GA W' pg T E) => build2_any pg T E o 1000 W' hG (hTZ.below (bel_trans HBW.out hc)) (hP.below (bel_trans HBW.out hc)) hL.2.1 hL.2.2 hL.1.2 hokE h0 h1 (by decide))
  have HS := Aside0.mk (show (statesG E T.length o).length ≤ 256 from Nat.le_trans (states_inv hL.2.1 h0 h1).len (Nat.pow_le_pow_right (by decide) hL.2.2))
  have HR := Aside0.mk hL.2.1
  obtain ⟨nT, hnT⟩ : ∃ nT, T.length = nT := ⟨_, rfl⟩
  obtain ⟨nE, hnE⟩ : ∃ nE, E.length = nE := ⟨_, rfl⟩
  have Hn := Aside0.mk (And.intro hnT hnE)
  rw [hnT, hnE] at hW HNw
  rw [hnT] at g0
  rw [hnE] at g1
  rw [hnT, hnE]
  clear hTZ hP hT hE hokE hL h0 h1 Hb hnT hnE
  go_enter Tryz.func38, Tryz.ntmps38
  go_wp2_with fail
  try simp only [hg, hW]
  clear hW
  refine HNw.out.mono ?_
  rintro e w3 (⟨_, pg, lab, rfl, r1, r0, r2⟩ | ⟨r1, -⟩)
  case inr => exact absurd HR.out r1
  have HG3 := Aside0.mk (GA.mk ⟨lab, r1⟩)
  have HGl := Aside0.mk (And.intro r1 r0)
  have HB3 := Aside0.mk r2
  have HBd2 := Aside0.mk (HBd.out w3 pg r2 HG3.out)
  clear r0 r1 r2 HNw HBd g0 g1
  go_wp2_with fail
  refine HBd2.out.mono ?_
  rintro e w4 ⟨r1, ⟨-, pa, F, rfl, r2, r3, r4⟩ | ⟨r2, -⟩⟩
  case inr => exact absurd (show (((statesG E T.length o).length : Nat) : Int) ≤ 1000 by have := HS.out; omega) r2
  have hW3 : w.heap.size ≤ w3.heap.size := by have h1 := HBW.out.size; have h2 := HB3.out.size; omega
  have HE := Aside0.mk (And.intro (aus_start (w := w) r2 (by omega) (fun k hk => by have := r4 k hk; omega) (GX.below HGl.out.1 r1) (fun k hk => by have h1 := HGl.out.2 k hk; have h2 := HBW.out.size; omega)) (bel_trans HBW.out (bel_trans HB3.out r1)))
  clear r1 r2 r3 r4 hW3
  go_wp2_with fail
  go_ret
  exact ⟨pa, rfl, HE.out.1, HE.out.2⟩
/-- two of them, held against each other -/
theorem same_aus {b b' e e' : Nat} {w : World} {pa pb : Nat} {T : List ByteArray} {E : List GE} {o x : Int} (ha : AuS b e w pa T E o) (hb : AuS b' e' w pb T E x) (hL : LightG T.length E) (hok : ∀ a f z, (a, f, z) ∈ E → ok64 f) (o0 : 0 ≤ o) (o1 : o < T.length) (x0 : 0 ≤ x) (x1 : x < T.length) {B : Bool} (hB : B = true ↔ ∀ v, ¬ Df T E [o] [x] v) :
    SameSaid w (some ⟨pa, 0, none⟩) (some ⟨pb, 0, none⟩) B := by
  obtain ⟨pga, Fa, ha⟩ := ha.au
  obtain ⟨pgb, Fb, hb⟩ := hb.au
  intro W' hc
  refine (esame_any pa pb pga pgb 100000 100000 T.length Fa Fb _ _ T E o x W' (ha W' hc).1 (hb W' hc).1 (ha W' hc).2 (hb W' hc).2 rfl hL.2.2 hL.1.2 hL.2.1 hok o0 o1 x0 x1 rfl rfl).mono ?_
  rintro e' w' ⟨⟨B', rfl, hB'⟩, r1⟩
  refine ⟨?_, r1⟩
  have : B' = B := by
    rw [Bool.eq_iff_iff, hB', hB]
  rw [this]
/-! rows of pointers of the call's own -/
abbrev kP : Kd (Option Addr) := Kd.scalar (fun x => Value.pointer x) (fun _ => rfl)
theorem info33 : (Tryz.prog.info? 33).map (fun i => (i.zero, i.size, i.bytes)) = some (some (.pointer none), 1, 8) := by kernel_rfl
theorem R_toA {w : World} {F : Nat → Prop} {v : Value} {ps : List (Option Addr)} (h : Kd.R kP 33 w 0 F v ps) : RdA w v ps := by
  obtain ⟨A, c, rfl, hc, hr⟩ := Kd.R_reads h
  refine ⟨A, c, rfl, hc, fun j hj => ?_⟩
  obtain ⟨ad, cc, hA, _, hk, hcc⟩ := Kd.C_get hr none (j : Int) (by omega) (by omega)
  rw [Int.toNat_natCast] at hk hcc
  have hk' : cc = [Value.pointer (ps.getD j none)] := hk
  subst hk'
  refine ⟨ad, hA, ?_⟩
  have := hcc 0 _ rfl
  have e : j * kP.sz + 0 = j := by show j * 1 + 0 = j; omega
  rw [e] at this
  exact this
section
variable {ops : Array Oper} {rest : List Oper} {o : Oper} {a : Act} {Q : Exit → Act → World → Prop}
theorem appP {W : World} {G : Nat → Prop} (hgd : o.guard = none) (s x : Operand)
    (ho : o.op = .call { callee := .builtin .append, args := #[s, x], argTypes := #[61, 61] })
    (v : Value) (xs : List (Option Addr)) (y : Option Addr) (g : Nat) (hs : a.eval s = v) (hx : a.eval x = .slice (some ⟨g, 0, none⟩) 1 1)
    (HO : Kd.R kP 33 W 0 G v xs) (HR : W.cell? ⟨g, 0, none⟩ = some (.pointer y)) (hl : (xs.length + 1) * 8 ≤ 140737488355328)
    (h : ∀ v1 w1, Kd.R kP 33 w1 0 (ext G W w1) v1 (xs ++ [y]) → W.grownBy w1 v.ownBlock → Chg G W w1 → wpList Tryz.prog ops Q rest (a.put o.dst v1) w1) :
    wpList Tryz.prog ops Q (o :: rest) a W := by
  exact Kd.R_append_row (fun x => Value.pointer x) (none : Option Addr) (h1 := fun _ => rfl) (w0 := W) 0 hgd s x 61 33 (.pointer none) 8 ho Tryz.underlying61 info33 rfl (by decide) v xs [y] (some ⟨g, 0, none⟩) 1 1 (fun k => G k ∨ W.heap.size ≤ k) hs hx (fun _ hk => .inr hk) (Kd.R_mono HO (fun k hk => .inl hk))
    (Kd.C_of_reads (enc := fun x => Value.pointer x) (d := none) (h1 := fun _ => rfl) ⟨rfl, by decide, fun _ => ⟨_, rfl, fun j hj => by
      obtain rfl : j = 0 := by omega
      exact HR⟩⟩) (Below.refl _ _) (Nat.zero_le _) hl
    (fun v1 w1 ho hb hg hat => h v1 w1 (Kd.R_mono (Kd.R_bound ho) (fun k hk => hk.1.elim .inl (fun h => .inr ⟨h, hk.2.2.1⟩))) hg (Chg.of_grown hg (fun k hk => HO.1 k hk)))
end

end Go.Proofs.YtkpadjhdneiniaaGreatDoor.Am
end
