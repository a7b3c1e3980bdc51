/- lex: the scanner's while, at its three tests (printed by gen_lb.py). -/
import Derived.Test.YtkbbliicijnpjaaDoorLa
import Derived.BigQuiet
namespace Go.Proofs.YtkbbliicijnpjaaDoor.Lx
open Go.RowKit Go.Proofs.YtkbbliicijnpjaaDoorW.PrintWords Go.Proofs.YtkbbliicijnpjaaDoorW.PrintLast Go.Proofs.YtkbbliicijnpjaaDoorW.PrintMore
open Go.Proofs.YtkbbliicijnpjaaDoor.Base Go.Proofs.YtkbbliicijnpjaaDoor.PLexTokens Go.Proofs.YtkbbliicijnpjaaDoor.PLexNames
set_option linter.unusedVariables false

/-- the octets from the first on for which P holds -/
structure Run (P : Int → Bool) (s : ByteArray) (n : Nat) : Prop where
  le : n ≤ s.size
  ok : ∀ j : Nat, j < n → P (bt s (j : Int)) = true
  no : n < s.size → P (bt s (n : Int)) = false
structure Pre (P : Int → Bool) (s : ByteArray) (n : Nat) : Prop where
  le : n ≤ s.size
  ok : ∀ j : Nat, j < n → P (bt s (j : Int)) = true
theorem Pre.more {P : Int → Bool} {s : ByteArray} {n : Nat} (h : Pre P s n) (hn : n < s.size) (hp : P (bt s (n : Int)) = true) : Pre P s (n + 1) :=
  ⟨hn, fun j hj => by
    rcases Nat.lt_succ_iff_lt_or_eq.1 hj with hj | rfl
    · exact h.ok j hj
    · exact hp⟩
theorem msr {S n : Nat} {v : Int} (h : v = ((n + 1 : Nat) : Int)) (hn : n < S) : S - (intOf (.int .i64 v)).toNat < S - (intOf (.int .i64 (n : Int))).toNat := by
  subst h
  simp only [intOf, Int.toNat_natCast]
  omega
theorem cell_of {w : World} {b t : Nat} {cs : Array Value} (h : w.heap[b]? = some (.cells cs t (0, 0))) (i : Nat) (v : Value) (hv : cs[i]? = some v) : w.cell? ⟨b, i, none⟩ = some v := (blk_cell h i).trans hv

set_option maxHeartbeats 2000000 in
set_option maxRecDepth 100000 in
theorem while90_any (b : Nat) (l c : Value) (s : ByteArray) (vs : Value) (w : World) (hb : w.heap[b]? = some (.cells #[l, c, .string s, vs] 81 (0, 0))) (hs : s.size ≤ 100000) :
    Calls Tryd.prog 65 #[.pointer (some ⟨b, 0, none⟩), .func (.func 40) #[] #[]] w fun e w' => ∃ n : Nat, e = .returned (.int .i64 (n : Int)) ∧ Run (fun c => digB c) s n ∧ Below w.heap.size w w' := by
  have Hb := Aside0.mk hb
  have Hs := Aside0.mk hs
  clear hb hs
  go_enter Tryd.func65, Tryd.ntmps65
  go_wp2_with fail
  go_loopw [5] (fun I wr => ∃ n : Nat, I = .int .i64 (n : Int) ∧ Aside0 (Pre (fun c => digB c) s n) ∧ Below w.heap.size w wr) (fun I _ => s.size - (intOf I).toNat)
  case atStart => exact ⟨0, rfl, ⟨⟨Nat.zero_le _, fun j hj => absurd hj (Nat.not_lt_zero _)⟩⟩, Below.refl _ _⟩
  case round =>
    obtain ⟨n, rfl, hpre, hB⟩ := hrel
    have c2 : wr.cell? ⟨b, 2, none⟩ = some (.string s) := bel_cell hB (cell_of Hb.out 2 _ rfl)
    by_cases hn : n < s.size
    · have hnb : decide ((n : Int) < (s.size : Int)) = true := decide_eq_true (by omega)
      have i0 : 0 ≤ (n : Int) := by omega
      have i1 : (n : Int) < (s.size : Int) := by omega
      have hx : ∀ h : n < s.size, ((s[n].toNat : Nat) : Int) = bt s (n : Int) := fun h => bt_at s (n : Int) h
      replace i0 := eq_true i0
      replace i1 := eq_true i1
      have hw : Aside0 (wrap64 ((n : Int) + 1) = ((n + 1 : Nat) : Int)) := ⟨by have := Hs.out; unfold wrap64; omega⟩
      have Hn := Aside0.mk hn
      clear hn
      by_cases hp : (fun c => digB c) (bt s (n : Int)) = true
      · have Hp := Aside0.mk hp
        clear hp
        go_wp2_with (go_at_call 40; (with_reducible refine (dig_any _ _).mono ?_); rintro e w1 ⟨rfl, hB1⟩; rw [show (digB (bt s (n : Int))) = true from Hp.out])
        go_roundw
        case rel => exact ⟨n + 1, by rw [hw.out], ⟨hpre.out.more Hn.out Hp.out⟩, bel_trans hB hB1⟩
        case measure => exact msr hw.out Hn.out
      · have Hp := Aside0.mk (show (fun c => digB c) (bt s (n : Int)) = false by simpa using hp)
        clear hp
        go_wp2_with (go_at_call 40; (with_reducible refine (dig_any _ _).mono ?_); rintro e w1 ⟨rfl, hB1⟩; rw [show (digB (bt s (n : Int))) = false from Hp.out])
        go_ret
        exact ⟨n, rfl, ⟨hpre.out.le, hpre.out.ok, fun _ => Hp.out⟩, bel_trans hB hB1⟩
    · have hnb : decide ((n : Int) < (s.size : Int)) = false := decide_eq_false (by omega)
      have hnc : decide (n < s.size) = false := decide_eq_false hn
      have Hn := Aside0.mk hn
      clear hn
      go_wp2_with fail
      go_ret
      exact ⟨n, rfl, ⟨hpre.out.le, hpre.out.ok, fun h => absurd h Hn.out⟩, hB⟩

set_option maxHeartbeats 2000000 in
set_option maxRecDepth 100000 in
theorem while96_any (b : Nat) (l c : Value) (s : ByteArray) (vs : Value) (w : World) (hb : w.heap[b]? = some (.cells #[l, c, .string s, vs] 81 (0, 0))) (hs : s.size ≤ 100000) :
    Calls Tryd.prog 65 #[.pointer (some ⟨b, 0, none⟩), .func (.func 78) #[] #[]] w fun e w' => ∃ n : Nat, e = .returned (.int .i64 (n : Int)) ∧ Run (fun c => letB c || digB c) s n ∧ Below w.heap.size w w' := by
  have Hb := Aside0.mk hb
  have Hs := Aside0.mk hs
  clear hb hs
  go_enter Tryd.func65, Tryd.ntmps65
  go_wp2_with fail
  go_loopw [5] (fun I wr => ∃ n : Nat, I = .int .i64 (n : Int) ∧ Aside0 (Pre (fun c => letB c || digB c) s n) ∧ Below w.heap.size w wr) (fun I _ => s.size - (intOf I).toNat)
  case atStart => exact ⟨0, rfl, ⟨⟨Nat.zero_le _, fun j hj => absurd hj (Nat.not_lt_zero _)⟩⟩, Below.refl _ _⟩
  case round =>
    obtain ⟨n, rfl, hpre, hB⟩ := hrel
    have c2 : wr.cell? ⟨b, 2, none⟩ = some (.string s) := bel_cell hB (cell_of Hb.out 2 _ rfl)
    by_cases hn : n < s.size
    · have hnb : decide ((n : Int) < (s.size : Int)) = true := decide_eq_true (by omega)
      have i0 : 0 ≤ (n : Int) := by omega
      have i1 : (n : Int) < (s.size : Int) := by omega
      have hx : ∀ h : n < s.size, ((s[n].toNat : Nat) : Int) = bt s (n : Int) := fun h => bt_at s (n : Int) h
      replace i0 := eq_true i0
      replace i1 := eq_true i1
      have hw : Aside0 (wrap64 ((n : Int) + 1) = ((n + 1 : Nat) : Int)) := ⟨by have := Hs.out; unfold wrap64; omega⟩
      have Hn := Aside0.mk hn
      clear hn
      by_cases hp : (fun c => letB c || digB c) (bt s (n : Int)) = true
      · have Hp := Aside0.mk hp
        clear hp
        go_wp2_with (go_at_call 78; (with_reducible refine (ld_any _ _).mono ?_); rintro e w1 ⟨rfl, hB1⟩; rw [show (letB (bt s (n : Int)) || digB (bt s (n : Int))) = true from Hp.out])
        go_roundw
        case rel => exact ⟨n + 1, by rw [hw.out], ⟨hpre.out.more Hn.out Hp.out⟩, bel_trans hB hB1⟩
        case measure => exact msr hw.out Hn.out
      · have Hp := Aside0.mk (show (fun c => letB c || digB c) (bt s (n : Int)) = false by simpa using hp)
        clear hp
        go_wp2_with (go_at_call 78; (with_reducible refine (ld_any _ _).mono ?_); rintro e w1 ⟨rfl, hB1⟩; rw [show (letB (bt s (n : Int)) || digB (bt s (n : Int))) = false from Hp.out])
        go_ret
        exact ⟨n, rfl, ⟨hpre.out.le, hpre.out.ok, fun _ => Hp.out⟩, bel_trans hB hB1⟩
    · have hnb : decide ((n : Int) < (s.size : Int)) = false := decide_eq_false (by omega)
      have hnc : decide (n < s.size) = false := decide_eq_false hn
      have Hn := Aside0.mk hn
      clear hn
      go_wp2_with fail
      go_ret
      exact ⟨n, rfl, ⟨hpre.out.le, hpre.out.ok, fun h => absurd h Hn.out⟩, hB⟩

set_option maxHeartbeats 2000000 in
set_option maxRecDepth 100000 in
theorem while87_any (b : Nat) (l c : Value) (s : ByteArray) (vs : Value) (w : World) (hb : w.heap[b]? = some (.cells #[l, c, .string s, vs] 81 (0, 0))) (hs : s.size ≤ 100000) :
    Calls Tryd.prog 65 #[.pointer (some ⟨b, 0, none⟩), .func (.func 66) #[] #[]] w fun e w' => ∃ n : Nat, e = .returned (.int .i64 (n : Int)) ∧ Run (fun c => c != 10) s n ∧ Below w.heap.size w w' := by
  have Hb := Aside0.mk hb
  have Hs := Aside0.mk hs
  clear hb hs
  go_enter Tryd.func65, Tryd.ntmps65
  go_wp2_with fail
  go_loopw [5] (fun I wr => ∃ n : Nat, I = .int .i64 (n : Int) ∧ Aside0 (Pre (fun c => c != 10) s n) ∧ Below w.heap.size w wr) (fun I _ => s.size - (intOf I).toNat)
  case atStart => exact ⟨0, rfl, ⟨⟨Nat.zero_le _, fun j hj => absurd hj (Nat.not_lt_zero _)⟩⟩, Below.refl _ _⟩
  case round =>
    obtain ⟨n, rfl, hpre, hB⟩ := hrel
    have c2 : wr.cell? ⟨b, 2, none⟩ = some (.string s) := bel_cell hB (cell_of Hb.out 2 _ rfl)
    by_cases hn : n < s.size
    · have hnb : decide ((n : Int) < (s.size : Int)) = true := decide_eq_true (by omega)
      have i0 : 0 ≤ (n : Int) := by omega
      have i1 : (n : Int) < (s.size : Int) := by omega
      have hx : ∀ h : n < s.size, ((s[n].toNat : Nat) : Int) = bt s (n : Int) := fun h => bt_at s (n : Int) h
      replace i0 := eq_true i0
      replace i1 := eq_true i1
      have hw : Aside0 (wrap64 ((n : Int) + 1) = ((n + 1 : Nat) : Int)) := ⟨by have := Hs.out; unfold wrap64; omega⟩
      have Hn := Aside0.mk hn
      clear hn
      by_cases hp : (fun c => c != 10) (bt s (n : Int)) = true
      · have Hp := Aside0.mk hp
        clear hp
        go_wp2_with (go_at_call 66; (with_reducible refine (nol_any _ _).mono ?_); rintro e w1 ⟨rfl, hB1⟩; rw [show (bt s (n : Int) != 10) = true from Hp.out])
        go_roundw
        case rel => exact ⟨n + 1, by rw [hw.out], ⟨hpre.out.more Hn.out Hp.out⟩, bel_trans hB hB1⟩
        case measure => exact msr hw.out Hn.out
      · have Hp := Aside0.mk (show (fun c => c != 10) (bt s (n : Int)) = false by simpa using hp)
        clear hp
        go_wp2_with (go_at_call 66; (with_reducible refine (nol_any _ _).mono ?_); rintro e w1 ⟨rfl, hB1⟩; rw [show (bt s (n : Int) != 10) = false from Hp.out])
        go_ret
        exact ⟨n, rfl, ⟨hpre.out.le, hpre.out.ok, fun _ => Hp.out⟩, bel_trans hB hB1⟩
    · have hnb : decide ((n : Int) < (s.size : Int)) = false := decide_eq_false (by omega)
      have hnc : decide (n < s.size) = false := decide_eq_false hn
      have Hn := Aside0.mk hn
      clear hn
      go_wp2_with fail
      go_ret
      exact ⟨n, rfl, ⟨hpre.out.le, hpre.out.ok, fun h => absurd h Hn.out⟩, hB⟩
end Go.Proofs.YtkbbliicijnpjaaDoor.Lx
