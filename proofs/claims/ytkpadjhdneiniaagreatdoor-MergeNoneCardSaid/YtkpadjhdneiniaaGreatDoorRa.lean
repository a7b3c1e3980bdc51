/- The references' Same, Has, Put; graph.Of of nothing. -/
import Derived.Test.YtkpadjhdneiniaaGreatDoorGg
namespace Go.Proofs.YtkpadjhdneiniaaGreatDoor.Rf
set_option linter.unusedVariables false
open Go.RowKit Go.Proofs.YtkpadjhdneiniaaGreatDoorW.PrintWords Go.Proofs.YtkpadjhdneiniaaGreatDoorW.PrintLast Go.Proofs.YtkpadjhdneiniaaGreatDoorW.PrintMore Go.Maps
open Go.Proofs.YtkpadjhdneiniaaGreatDoor.Base Go.Proofs.YtkpadjhdneiniaaGreatDoor.Map Go.Proofs.YtkpadjhdneiniaaGreatDoor.Sl Go.Proofs.YtkpadjhdneiniaaGreatDoor.Ow Go.Proofs.YtkpadjhdneiniaaGreatDoor.Se Go.Proofs.YtkpadjhdneiniaaGreatDoor.Gr

set_option maxHeartbeats 1000000 in
/-- graph.Of of nothing -/
theorem list_take_eq {a b : List Int} {i : Nat} (h : a.take i = b.take i) (ha : i < a.length) (hb : i < b.length) (hx : a.getD i 0 = b.getD i 0) : a.take (i + 1) = b.take (i + 1) := by
  rw [List.take_succ_eq_append_getElem ha, List.take_succ_eq_append_getElem hb, h]
  have e1 : a[i] = a.getD i 0 := by simp [List.getElem?_eq_getElem ha]
  have e2 : b[i] = b.getD i 0 := by simp [List.getElem?_eq_getElem hb]
  rw [e1, e2, hx]
set_option maxHeartbeats 4000000 in
set_option maxRecDepth 100000 in
theorem same_any (u v : Value) (a b : List Int) (w : World) (hu : RdV w u a) (hv : RdV w v b) :
    Calls Tryz.prog 35 #[u, v] w fun e w' => e = .returned (.bool (decide (a = b))) ∧ Below w.heap.size w w' := by
  obtain ⟨A, c, rfl, hc, hr⟩ := hu
  obtain ⟨A', c', rfl, hc', hr'⟩ := hv
  by_cases hne : a.length = b.length
  · have q1 : ((a.length : Int) != (b.length : Int)) = false := by rw [hne]; simp
    have q2 : ((a.length : Int) == (b.length : Int)) = true := by rw [hne]; simp
    have hm := hr.max
    have HR := Aside0.mk hr
    have HR' := Aside0.mk hr'
    have Hne := Aside0.mk hne
    have Hm := Aside0.mk hm
    obtain ⟨B, hB⟩ : ∃ B, decide (a = b) = B := ⟨_, rfl⟩
    rw [hB]
    have HB := Aside0.mk hB
    clear hr hr' hc hc' hne hm hB
    go_enter Tryz.func35, Tryz.ntmps35
    go_wp2_with fail
    go_loopw [5] (fun I wr => ∃ i : Nat, I = .int .i64 (i : Int) ∧ i ≤ a.length ∧ Aside0 (a.take i = b.take i) ∧ Aside0 (Below w.heap.size w wr)) (fun I _ => a.length - (intOf I).toNat)
    case atStart => exact ⟨0, rfl, Nat.zero_le _, ⟨rfl⟩, ⟨Below.refl _ _⟩⟩
    case round =>
      obtain ⟨i, rfl, hi, HE, HBl⟩ := hrel
      by_cases hin : i < a.length
      · have hnb : decide ((i : Int) < (a.length : Int)) = true := decide_eq_true (by omega)
        have hnc : decide (i < a.length) = true := decide_eq_true hin
        have hin' : i < b.length := by have := Hne.out; omega
        obtain ⟨ad, rfl, hx⟩ := (HR.out.below HBl.out).at_ (i : Int) (by omega) (by omega)
        obtain ⟨ad', rfl, hx'⟩ := (HR'.out.below HBl.out).at_ (i : Int) (by omega) (by omega)
        rw [Int.toNat_natCast] at hx hx'
        have hx2 : rd a (i : Int) = a.getD i 0 := by simp [rd]
        have hx2' : rd b (i : Int) = b.getD i 0 := by simp [rd]
        obtain ⟨x, hxx⟩ : ∃ x, a.getD i 0 = x := ⟨_, rfl⟩
        obtain ⟨y, hyy⟩ : ∃ y, b.getD i 0 = y := ⟨_, rfl⟩
        rw [hx2, hxx] at hx
        rw [hx2', hyy] at hx'
        have i0 : 0 ≤ (i : Int) := by omega
        have i1 : (i : Int) < (a.length : Int) := by omega
        have i2 : (i : Int) < (b.length : Int) := by omega
        have i3 : (i : Int) < 9223372036854775807 := by have := Hm.out; omega
        have hw : Aside0 (wrap64 ((i : Int) + 1) = ((i + 1 : Nat) : Int)) := ⟨by unfold wrap64; omega⟩
        have Hin := Aside0.mk (And.intro hin (And.intro hin' (And.intro hxx hyy)))
        clear hin hin' hi hx2 hx2' hxx hyy
        replace i0 := eq_true i0
        replace i1 := eq_true i1
        replace i2 := eq_true i2
        by_cases hxy : x = y
        · subst hxy
          have HE' := Aside0.mk (list_take_eq HE.out Hin.out.1 Hin.out.2.1 (Hin.out.2.2.1.trans Hin.out.2.2.2.symm))
          go_wp2_with fail
          go_quiet (fail)
          have hb := Aside0.mk (bel_trans HBl.out (pw_below_drewN (Below.refl wr.heap.size wr) nq))
          go_wp2_with fail
          go_roundw
          case rel => exact ⟨i + 1, by first | rw [hw.out] | go_num, Hin.out.1, HE', hb⟩
          case measure => have := Hin.out.1; first | exact msr hw.out Hin.out.1 | (simp [intOf]; omega)
        · have q3 : (x != y) = true := by simpa using hxy
          have q4 : (x == y) = false := by simpa using hxy
          have Hxy := Aside0.mk hxy
          clear hxy
          go_wp2_with fail
          go_quiet (fail)
          have hb := Aside0.mk (bel_trans HBl.out (pw_below_drewN (Below.refl wr.heap.size wr) nq))
          go_wp2_with fail
          go_ret
          have : B = false := by
            rw [← HB.out]
            exact decide_eq_false (fun e => Hxy.out (by rw [← Hin.out.2.2.1, ← Hin.out.2.2.2, e]))
          rw [this]
          exact ⟨rfl, hb.out⟩
      · have hnb : decide ((i : Int) < (a.length : Int)) = false := decide_eq_false (by omega)
        have hnc : decide (i < a.length) = false := decide_eq_false hin
        obtain rfl : i = a.length := by omega
        clear hin hi
        go_wp2_with fail
        go_ret
        have : B = true := by
          rw [← HB.out]
          have h := HE.out
          rw [List.take_length, Hne.out, List.take_length] at h
          exact decide_eq_true h
        rw [this]
        exact ⟨rfl, HBl.out⟩
  · have q1 : ((a.length : Int) != (b.length : Int)) = true := by simp; omega
    have q2 : ((a.length : Int) == (b.length : Int)) = false := by rw [beq_eq_false_iff_ne]; omega
    have d : decide (a = b) = false := decide_eq_false (fun e => hne (by rw [e]))
    rw [d]
    clear hne hc hc' hr hr'
    go_enter Tryz.func35, Tryz.ntmps35
    go_wp2_with fail
    go_ret
    exact ⟨rfl, Below.refl _ _⟩
set_option maxHeartbeats 4000000 in
set_option maxRecDepth 100000 in
theorem has_any (u : Value) (l : List Int) (n : Int) (w : World) (hu : RdV w u l) :
    Calls Tryz.prog 70 #[u, .int .i64 n] w fun e w' => e = .returned (.bool (decide (n ∈ l))) ∧ Below w.heap.size w w' := by
  obtain ⟨A, c, rfl, hc, hr⟩ := hu
  have hm := hr.max
  have HR := Aside0.mk hr
  have Hm := Aside0.mk hm
  obtain ⟨B, hB⟩ : ∃ B, decide (n ∈ l) = B := ⟨_, rfl⟩
  rw [hB]
  have HB := Aside0.mk hB
  clear hr hc hm hB
  go_enter Tryz.func70, Tryz.ntmps70
  go_wp2_with fail
  go_loopw [5] (fun I wr => ∃ i : Nat, I = .int .i64 (i : Int) ∧ i ≤ l.length ∧ Aside0 (n ∉ l.take i) ∧ Aside0 (Below w.heap.size w wr)) (fun I _ => l.length - (intOf I).toNat)
  case atStart => exact ⟨0, rfl, Nat.zero_le _, ⟨by simp⟩, ⟨Below.refl _ _⟩⟩
  case round =>
    obtain ⟨i, rfl, hi, HE, HBl⟩ := hrel
    by_cases hin : i < l.length
    · have hnb : decide ((i : Int) < (l.length : Int)) = true := decide_eq_true (by omega)
      have hnc : decide (i < l.length) = true := decide_eq_true hin
      obtain ⟨ad, rfl, hx⟩ := (HR.out.below HBl.out).at_ (i : Int) (by omega) (by omega)
      rw [Int.toNat_natCast] at hx
      have hx2 : rd l (i : Int) = l.getD i 0 := by simp [rd]
      have htk : l.take (i + 1) = l.take i ++ [l.getD i 0] := by
        rw [List.take_succ_eq_append_getElem hin]; simp [List.getElem?_eq_getElem hin]
      have hmem : l.getD i 0 ∈ l := getD_mem hin
      obtain ⟨x, hxx⟩ : ∃ x, l.getD i 0 = x := ⟨_, rfl⟩
      rw [hx2, hxx] at hx
      rw [hxx] at htk hmem
      have i0 : 0 ≤ (i : Int) := by omega
      have i1 : (i : Int) < (l.length : Int) := by omega
      have i3 : (i : Int) < 9223372036854775807 := by have := Hm.out; omega
      have hw : Aside0 (wrap64 ((i : Int) + 1) = ((i + 1 : Nat) : Int)) := ⟨by unfold wrap64; omega⟩
      have Hin := Aside0.mk (And.intro hin (And.intro htk hmem))
      clear hin hi hx2 hxx htk hmem
      replace i0 := eq_true i0
      replace i1 := eq_true i1
      by_cases hxy : x = n
      · subst hxy
        go_wp2_with fail
        go_ret
        have : B = true := by rw [← HB.out]; exact decide_eq_true Hin.out.2.2
        rw [this]
        exact ⟨rfl, HBl.out⟩
      · have q3 : (x != n) = true := by simpa using hxy
        have q4 : (x == n) = false := by simpa using hxy
        have HE' : Aside0 (n ∉ l.take (i + 1)) := ⟨by rw [Hin.out.2.1]; intro h; rcases List.mem_append.1 h with h | h; exact HE.out h; rw [List.mem_singleton] at h; exact hxy h.symm⟩
        clear hxy
        go_wp2_with fail
        go_roundw
        case rel => exact ⟨i + 1, by first | rw [hw.out] | go_num, Hin.out.1, HE', HBl⟩
        case measure => have := Hin.out.1; first | exact msr hw.out Hin.out.1 | (simp [intOf]; omega)
    · have hnb : decide ((i : Int) < (l.length : Int)) = false := decide_eq_false (by omega)
      have hnc : decide (i < l.length) = false := decide_eq_false hin
      obtain rfl : i = l.length := by omega
      clear hin hi
      go_wp2_with fail
      go_ret
      have : B = false := by
        rw [← HB.out]
        have h := HE.out
        rw [List.take_length] at h
        exact decide_eq_false h
      rw [this]
      exact ⟨rfl, HBl.out⟩
end Go.Proofs.YtkpadjhdneiniaaGreatDoor.Rf
