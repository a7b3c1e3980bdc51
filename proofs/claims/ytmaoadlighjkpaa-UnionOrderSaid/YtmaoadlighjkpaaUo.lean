/- UnionOrder, walked. -/
import Derived.Test.YtmaoadlighjkpaaUn
namespace Go.Proofs.Ytmaoadlighjkpaa.Un
open Go.RowKit Go.Proofs.YtmaoadlighjkpaaW.PrintWords Go.Proofs.YtmaoadlighjkpaaW.PrintLast Go.Proofs.YtmaoadlighjkpaaW.PrintMore
open Go.Proofs.Ytmaoadlighjkpaa.Base Go.Proofs.Ytmaoadlighjkpaa.Map Go.Proofs.Ytmaoadlighjkpaa.Qu Go.Proofs.Ytmaoadlighjkpaa.In
set_option linter.unusedVariables false

/-- a pair, as the law uses it -/
def abP (k : Nat) (x : Int × Int) : Nat × Nat := ((x.1 % (k : Int)).toNat, (x.2 % (k : Int)).toNat)
theorem mod_nat (x : Int) (k : Nat) (hk : 0 < k) : x % (k : Int) = (((x % (k : Int)).toNat : Nat) : Int) ∧ (x % (k : Int)).toNat < k := by
  have h1 := Int.emod_nonneg x (show (k : Int) ≠ 0 by omega)
  have h2 := Int.emod_lt_of_pos x (show (0 : Int) < (k : Int) by omega)
  omega
theorem abP_in (k : Nat) (hk : 0 < k) (ps : List (Int × Int)) : PIn k (ps.map (abP k)) := fun p hp => by
  obtain ⟨x, _, rfl⟩ := List.mem_map.1 hp
  exact ⟨(mod_nat x.1 k hk).2, (mod_nat x.2 k hk).2⟩
/-- a step of the one, of the other -/
theorem order_u (k : Nat) (hk : 0 < k) (hs : List Int) (hl : hs.length = k) (ps : List (Int × Int)) (i : Nat) (hi : i < ps.length) (x y : Int) (he : ps[i] = (x, y)) :
    joinS (foldP hs ((ps.map (abP k)).take i)) [x % (k : Int), y % (k : Int)] = foldP hs ((ps.map (abP k)).take (i + 1)) := by
  have hx := mod_nat x k hk
  have hy := mod_nat y k hk
  rw [List.take_succ_eq_append_getElem (by simpa using hi), foldP_snoc, List.getElem_map, he, hx.1, hy.1, join_two _ _ _ (by rw [foldP_len, hl]; exact hx.2) (by rw [foldP_len, hl]; exact hy.2)]
  rfl
theorem order_v (k : Nat) (hk : 0 < k) (hs : List Int) (hl : hs.length = k) (ps : List (Int × Int)) (j : Nat) (hj : j < ps.length) (x y : Int) (he : ps[j] = (x, y)) :
    joinS (foldP hs (((ps.map (abP k)).drop (j + 1)).reverse.map swapP)) [y % (k : Int), x % (k : Int)] = foldP hs (((ps.map (abP k)).drop j).reverse.map swapP) := by
  have hx := mod_nat x k hk
  have hy := mod_nat y k hk
  rw [List.drop_eq_getElem_cons (i := j) (by simpa using hj), List.reverse_cons, List.map_append, List.map_singleton, foldP_snoc, List.getElem_map, he, hx.1, hy.1, join_two _ _ _ (by rw [foldP_len, hl]; exact hy.2) (by rw [foldP_len, hl]; exact hx.2)]
  rfl

theorem join2_litD (w0 w : World) (p q : Nat) (hs ks xs : List Int) (h : UT2 w0 w p q hs ks) (hl : xs.length ≤ 1000) (hlen : hs.length ≤ 1000000) :
    Calls Try.prog 51 #[.pointer (some ⟨p, 0, none⟩), .slice (some ⟨w.heap.size, 0, none⟩) xs.length xs.length] (w.alloc (.cells (nums .i64 xs).toArray 3)).drew fun e w' => e = .returned (.bool (decide (joinS hs xs ≠ hs))) ∧ UT2 w0 w' p q (joinS hs xs) ks :=
  join2_lit w0 w.drew p q hs ks xs h.drew hl hlen
theorem lists_at (A B : Option Addr) (c d N : Nat) (l : List (List Int)) (b : Nat) (w : World) (hN : l.length = N) (hA : Kd.C (Kd.slice 3 (Kd.int .i64)) w A N l) (hc : N ≤ c) (hB : Kd.C (Kd.slice 3 (Kd.int .i64)) w B N l) (hd : N ≤ d) (hl : N ≤ 1000000) (hb : b ≤ 1000000) (hall : ∀ x ∈ l, x.length ≤ b) :
    Calls Try.prog 53 #[.slice A N c, .slice B N d] w fun e w' => e = .returned (.bool true) ∧ Below w.heap.size w w' := by
  subst hN
  exact lists_any A B c d l b w hA hc hB hd hl hb hall
theorem wrap_small (x : Int) (h0 : 0 ≤ x) (h1 : x ≤ 255) : IntKind.i64.wrap x = x := by
  simp [IntKind.wrap, IntKind.signed, IntKind.bits]
  omega
theorem tmod_nat (x : Int) (k : Nat) (hx : 0 ≤ x) : x.tmod (k : Int) = x % (k : Int) := Int.tmod_eq_emod_of_nonneg hx

set_option maxHeartbeats 8000000 in
set_option maxRecDepth 100000 in
theorem unionOrder_walk (n : Int) (ps : List (Int × Int)) (A : Option Addr) (c : Nat) (w : World) (hn0 : 0 ≤ n) (hn1 : n ≤ 255) (hc : ps.length ≤ c) (hr : RdP w A ps) :
    Calls Try.prog 13 #[.int .u8 n, .slice A ps.length c] w fun e w' => e = .returned (.bool true) ∧ Below w.heap.size w w' := by
  by_cases h40 : (40 : Int) < ps.length
  · go_enter Try.func13, Try.ntmps13
    go_wp2_with fail
    refine (awake_un _).mono ?_
    rintro e w1 ⟨rfl, h1⟩
    go_wp2_with fail
    refine (awake_un _).mono ?_
    rintro e w2 ⟨rfl, h2⟩
    go_wp2
    go_ret
    exact ⟨rfl, bel_trans h1 h2⟩
  · obtain ⟨k, hk⟩ : ∃ k : Nat, 1 + n % 60 = (k : Int) := ⟨(1 + n % 60).toNat, by omega⟩
    have hk0 : 0 < k := by omega
    have hk1 : k ≤ 60 := by omega
    have Hc := Aside0.mk hc
    clear hc
    go_enter Try.func13, Try.ntmps13
    go_wp2_with fail
    refine (awake_un _).mono ?_
    rintro e w1 ⟨rfl, h1⟩
    go_wp2_with fail
    refine (new_ut w w1 h1 k (by omega)).mono ?_
    rintro e w2 ⟨rfl, h2⟩
    generalize w1.heap.size = p at *
    go_wp2_with fail
    refine (new_ut2 w w2 p _ h2 k (by omega)).mono ?_
    rintro e w3 ⟨rfl, h3⟩
    generalize w2.heap.size = q at *
    have hl0 := rng_len k
    have hcan := Aside0.mk (rng_canon k)
    generalize rngL k = hs0 at *
    clear hk h2
    have hin := Aside0.mk (abP_in k hk0 ps)
    go_wp2_with fail
    go_loopw [10] (fun I wr => ∃ (i : Nat), I = .int .i64 (i : Int) ∧ i ≤ ps.length ∧ UT2 w wr p q (foldP hs0 ((ps.map (abP k)).take i)) (foldP hs0 (((ps.map (abP k)).drop (ps.length - i)).reverse.map swapP))) (fun i _ => ps.length - (intOf i).toNat)
    case atStart => exact ⟨0, rfl, Nat.zero_le _, by rw [List.drop_eq_nil_of_le (by simp)]; exact h3⟩
    case round =>
      clear h3
      obtain ⟨i, rfl, hi, hQ⟩ := hrel
      have hB := hQ.bel
      by_cases hlt : i < ps.length
      · obtain ⟨ad, x, y, hA, hxy, hx0, hy0, cx, cy⟩ := RdP.at_ hr i hlt
        obtain ⟨j, hj⟩ : ∃ j, ps.length = j + 1 + i := ⟨ps.length - 1 - i, by omega⟩
        have hjl : j < ps.length := by omega
        obtain ⟨ad', x', y', hA', hxy', hx0', hy0', cx', cy'⟩ := RdP.at_ hr j hjl
        subst hA
        injection hA' with hA'
        subst hA'
        have hu := order_u k hk0 hs0 hl0 ps i hlt x y hxy
        have hv := order_v k hk0 hs0 hl0 ps j hjl x' y' hxy'
        have ej : ps.length - i = j + 1 := by omega
        have ej2 : ps.length - (i + 1) = j := by omega
        rw [ej] at hQ
        have Ej := Aside0.mk ej2
        have Hu := Aside0.mk hu
        have Hv := Aside0.mk hv
        have hlu : (foldP hs0 ((ps.map (abP k)).take i)).length ≤ 1000000 := by rw [foldP_len]; omega
        have hlv : (foldP hs0 (((ps.map (abP k)).drop (j + 1)).reverse.map swapP)).length ≤ 1000000 := by rw [foldP_len]; omega
        have Hlu := Aside0.mk hlu
        have Hlv := Aside0.mk hlv
        clear hxy hxy' hu hv ej ej2 hlu hlv hi
        obtain ⟨x0, x1⟩ := hx0
        obtain ⟨y0, y1⟩ := hy0
        obtain ⟨x0', x1'⟩ := hx0'
        obtain ⟨y0', y1'⟩ := hy0'
        have i0 : (0 : Int) ≤ (i : Int) := by omega
        have i1 : (i : Int) < (ps.length : Int) := by omega
        have j0 : (0 : Int) ≤ (j : Int) := by omega
        have j1 : (j : Int) < (ps.length : Int) := by omega
        have k0 : (0 : Int) < (k : Int) := by omega
        have k00 : ¬ k = 0 := by omega
        have s1 := wrap_small x x0 x1
        have s2 := wrap_small y y0 y1
        have s3 := wrap_small x' x0' x1'
        have s4 := wrap_small y' y0' y1'
        have t1 := tmod_nat x k x0
        have t2 := tmod_nat y k y0
        have t3 := tmod_nat x' k x0'
        have t4 := tmod_nat y' k y0'
        have hjj : (ps.length : Int) - 1 - (i : Int) = (j : Int) := by omega
        have Hlt := Aside0.mk hlt
        clear hj hlt hjl
        generalize foldP hs0 ((ps.map (abP k)).take i) = hs at *
        generalize foldP hs0 (((ps.map (abP k)).drop (j + 1)).reverse.map swapP) = ks at *
        obtain ⟨hs', hs'e⟩ : ∃ l, foldP hs0 ((ps.map (abP k)).take (i + 1)) = l := ⟨_, rfl⟩
        obtain ⟨ks', ks'e⟩ : ∃ l, foldP hs0 (((ps.map (abP k)).drop j).reverse.map swapP) = l := ⟨_, rfl⟩
        rw [hs'e] at Hu
        rw [ks'e] at Hv
        have Hse := Aside0.mk hs'e
        have Kse := Aside0.mk ks'e
        clear hs'e ks'e
        go_wp2_with fail
        go_region_held3 (fun W => W.cell? (ad.add (i * 2)) = some (.int .u8 x) ∧ W.cell? ⟨(ad.add (i * 2)).block, (ad.add (i * 2)).off + 1, none⟩ = some (.int .u8 y) ∧ Below w.heap.size w W) (refine ⟨pw_cell_below (w := w) ?_ cx, pw_cell_below (w := w) ?_ cy, ?_⟩ <;> simp [*])
         (first | (go_at_call 51; (refine (join2_litD w wr p q hs ks [x % (k : Int), y % (k : Int)] hQ (by simp) Hlu.out).mono ?_); rintro e w5 ⟨rfl, h5⟩; rw [Hu.out] at h5 ⊢; have hB5 := h5.bel) | (fail))
        all_goals go_wp2_with fail
        all_goals go_region_held3 (fun W => W.cell? (ad.add (j * 2)) = some (.int .u8 x') ∧ W.cell? ⟨(ad.add (j * 2)).block, (ad.add (j * 2)).off + 1, none⟩ = some (.int .u8 y') ∧ Below w.heap.size w W) (refine ⟨pw_cell_below (w := w) ?_ cx', pw_cell_below (w := w) ?_ cy', ?_⟩ <;> simp [*])
         (first | (go_at_call 51; (refine (join2_litD w w5 q p ks hs' [y' % (k : Int), x' % (k : Int)] h5.turn (by simp) Hlv.out).mono ?_); rintro e w6 ⟨rfl, h6⟩; rw [Hv.out] at h6 ⊢; have hB6 := h6.bel) | (fail))
        all_goals (go_wp2_with fail; go_roundw)
        case rel => exact ⟨i + 1, by go_num, by have := Hlt.out; omega, by rw [Hse.out, Ej.out, Kse.out]; exact h6.turn⟩
        case measure => have := Hlt.out; simp [intOf]; omega
      · obtain rfl : i = ps.length := by omega
        rw [Nat.sub_self, List.drop_zero, List.take_of_length_le (by simp), ← order_same hcan.out (ps.map (abP k)) (by rw [hl0]; exact hin.out)] at hQ
        have hlen : (foldP hs0 (ps.map (abP k))).length ≤ 60 := by rw [foldP_len]; omega
        generalize foldP hs0 (ps.map (abP k)) = hs at *
        have hcl : (classUp hs hs.length).length = cntOf hs := by rw [classUp_len, headsUp_cnt]
        have hle := class_le hs hs.length
        have hcn := cnt_le hs
        have Hlen := Aside0.mk hlen
        have Hcl := Aside0.mk hcl
        have Hle := Aside0.mk hle
        have Hcn := Aside0.mk hcn
        clear hlen hcl hle hcn
        go_wp2_with fail
        refine (classes_two w wr p q hs hs hQ (by have := Hlen.out; omega) (by have := Hlen.out; omega)).mono ?_
        rintro e w5 ⟨A5, c5, rfl, hc5, h5, hnext⟩
        go_wp2_with fail
        refine hnext.mono ?_
        rintro e w6 ⟨B6, d6, rfl, hd6, h6, hC1, hC2⟩
        clear hnext
        have hm : cntOf hs ≤ 1000000 := by have := Hlen.out; have := Hcn.out; omega
        go_wp2_with fail
        refine (lists_at A5 B6 c5 d6 (cntOf hs) (classUp hs hs.length) hs.length w6 Hcl.out hC1 hc5 hC2 hd6 hm (by have := Hlen.out; omega) Hle.out).mono ?_
        rintro e w7 ⟨rfl, h7⟩
        have hT := h6.below h7
        clear hC1 hC2 h5 h6 h7
        go_wp2_with fail
        refine (count_ut w w7 p hs hT.left).mono ?_
        rintro e w8 ⟨rfl, rfl⟩
        go_wp2_with fail
        refine (count_ut w w7 q hs hT.turn.left).mono ?_
        rintro e w8 ⟨rfl, rfl⟩
        go_wp2
        go_ret
        exact ⟨rfl, hT.bel⟩
end Go.Proofs.Ytmaoadlighjkpaa.Un
