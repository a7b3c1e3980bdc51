/- Two unions apart; in whatever order pairs are joined the classes are the same (plain); lists of lists compared. -/
import Derived.Test.YtmaoadlighjkpaaUl
import Derived.Test.YtmaoadlighjkpaaUi
import Derived.Test.YtmaoadlighjkpaaPUnionJoinsx1
namespace Go.Proofs.Ytmaoadlighjkpaa.Un
open Go.RowKit Go.Proofs.YtmaoadlighjkpaaW.PrintWords Go.Proofs.YtmaoadlighjkpaaW.PrintLast Go.Proofs.YtmaoadlighjkpaaW.PrintMore
open Go.Proofs.Ytmaoadlighjkpaa.Base Go.Proofs.Ytmaoadlighjkpaa.Map Go.Proofs.Ytmaoadlighjkpaa.Qu Go.Proofs.Ytmaoadlighjkpaa.In
set_option linter.unusedVariables false

/-! ### plain: the order does not matter -/
def foldP (hs : List Int) (l : List (Nat × Nat)) : List Int := l.foldl (fun h p => joinL h p.1 p.2) hs
theorem foldP_snoc (hs : List Int) (l : List (Nat × Nat)) (p : Nat × Nat) : foldP hs (l ++ [p]) = joinL (foldP hs l) p.1 p.2 := by simp [foldP, List.foldl_append]
theorem foldP_len : ∀ (l : List (Nat × Nat)) (hs : List Int), (foldP hs l).length = hs.length
  | [], hs => rfl
  | p :: l, hs => by
    have := foldP_len l (joinL hs p.1 p.2)
    rw [joinL_len] at this
    exact this
def PIn (n : Nat) (l : List (Nat × Nat)) : Prop := ∀ p ∈ l, p.1 < n ∧ p.2 < n
theorem foldP_canon : ∀ (l : List (Nat × Nat)) (hs : List Int), Canon hs → PIn hs.length l → Canon (foldP hs l)
  | [], hs, h, _ => h
  | p :: l, hs, h, hl => by
    have h1 := hl p (by simp)
    exact foldP_canon l _ (h.join h1.1 h1.2) (fun q hq => by rw [joinL_len]; exact hl q (by simp [hq]))
theorem join_coarse {hs : List Int} (a b i j : Nat) (hi : i < hs.length) (hj : j < hs.length) (h : rd hs i = rd hs j) : rd (joinL hs a b) i = rd (joinL hs a b) j := by
  rw [joinL_rd hs a b i hi, joinL_rd hs a b j hj, h]
theorem fold_coarse : ∀ (l : List (Nat × Nat)) (hs : List Int) (i j : Nat), i < hs.length → j < hs.length → rd hs i = rd hs j → rd (foldP hs l) i = rd (foldP hs l) j
  | [], hs, i, j, _, _, h => h
  | p :: l, hs, i, j, hi, hj, h => fold_coarse l _ i j (by rw [joinL_len]; exact hi) (by rw [joinL_len]; exact hj) (join_coarse p.1 p.2 i j hi hj h)
theorem fold_pairs : ∀ (l : List (Nat × Nat)) (hs : List Int), PIn hs.length l → ∀ p ∈ l, rd (foldP hs l) p.1 = rd (foldP hs l) p.2
  | [], hs, _, p, hp => by cases hp
  | q :: l, hs, hl, p, hp => by
    have hq := hl q (by simp)
    rcases List.mem_cons.1 hp with rfl | hp
    · have h := join_both (hs := hs) p.1 p.2 hq.1 hq.2
      exact fold_coarse l _ p.1 p.2 (by rw [joinL_len]; exact hq.1) (by rw [joinL_len]; exact hq.2) (h.1.trans h.2.symm)
    · exact fold_pairs l _ (fun r hr => by rw [joinL_len]; exact hl r (by simp [hr])) p hp
/-- nothing more is one than must be -/
theorem fold_fine : ∀ (l : List (Nat × Nat)) (hs : List Int) (f : Nat → Int), PIn hs.length l → (∀ i j, i < hs.length → j < hs.length → rd hs i = rd hs j → f i = f j) → (∀ p ∈ l, f p.1 = f p.2) →
    ∀ i j, i < hs.length → j < hs.length → rd (foldP hs l) i = rd (foldP hs l) j → f i = f j
  | [], hs, f, _, h1, _, i, j, hi, hj, h => h1 i j hi hj h
  | p :: l, hs, f, hl, h1, h2, i, j, hi, hj, h => by
    have hp := hl p (by simp)
    refine fold_fine l (joinL hs p.1 p.2) f (fun q hq => by rw [joinL_len]; exact hl q (by simp [hq])) (fun i j hi hj e => ?_) (fun q hq => h2 q (by simp [hq])) i j (by rw [joinL_len]; exact hi) (by rw [joinL_len]; exact hj) h
    rw [joinL_len] at hi hj
    rw [joinL_rd hs p.1 p.2 i hi, joinL_rd hs p.1 p.2 j hj] at e
    have hab := h2 p (by simp)
    have k1 : ∀ i, i < hs.length → rd hs i = rd hs p.1 → f i = f p.1 := fun i hi e => h1 i p.1 hi hp.1 e
    have k2 : ∀ i, i < hs.length → rd hs i = rd hs p.2 → f i = f p.1 := fun i hi e => (h1 i p.2 hi hp.2 e).trans hab.symm
    have k3 : ∀ i, i < hs.length → (rd hs i = max (rd hs p.1) (rd hs p.2) ∨ rd hs i = min (rd hs p.1) (rd hs p.2)) → f i = f p.1 := fun i hi e => by
      rcases Int.le_total (rd hs p.1) (rd hs p.2) with h | h
      · rcases e with e | e
        · exact k2 i hi (by omega)
        · exact k1 i hi (by omega)
      · rcases e with e | e
        · exact k1 i hi (by omega)
        · exact k2 i hi (by omega)
    by_cases ci : rd hs i = max (rd hs p.1) (rd hs p.2)
    · rw [if_pos ci] at e
      by_cases cj : rd hs j = max (rd hs p.1) (rd hs p.2)
      · exact (k3 i hi (.inl ci)).trans (k3 j hj (.inl cj)).symm
      · rw [if_neg cj] at e
        exact (k3 i hi (.inl ci)).trans (k3 j hj (.inr e.symm)).symm
    · rw [if_neg ci] at e
      by_cases cj : rd hs j = max (rd hs p.1) (rd hs p.2)
      · rw [if_pos cj] at e
        exact (k3 i hi (.inr e)).trans (k3 j hj (.inl cj)).symm
      · rw [if_neg cj] at e
        exact h1 i j hi hj e
theorem canon_ext {h k : List Int} (ch : Canon h) (ck : Canon k) (hl : h.length = k.length) (he : ∀ i j, i < h.length → j < h.length → (rd h i = rd h j ↔ rd k i = rd k j)) : h = k := by
  apply List.ext_getElem hl
  intro i h1 h2
  rw [← rd_nat h i h1, ← rd_nat k i h2]
  obtain ⟨x, x1, x2, x3⟩ := ch.at_ i h1
  obtain ⟨y, y1, y2, y3⟩ := ck.at_ i h2
  have e1 := (he x i (by omega) h1).1 (by rw [x3, x1])
  have e2 := (he y i (by omega) h1).2 (by rw [y3, y1])
  obtain ⟨z, z1, z2, _⟩ := ck.at_ x (by omega)
  obtain ⟨u, u1, u2, _⟩ := ch.at_ y (by omega)
  omega
def swapP (p : Nat × Nat) : Nat × Nat := (p.2, p.1)
theorem order_same {hs : List Int} (hc : Canon hs) (l : List (Nat × Nat)) (hl : PIn hs.length l) : foldP hs l = foldP hs (l.reverse.map swapP) := by
  have hl' : PIn hs.length (l.reverse.map swapP) := fun p hp => by
    obtain ⟨q, hq, rfl⟩ := List.mem_map.1 hp
    have := hl q (List.mem_reverse.1 hq)
    exact ⟨this.2, this.1⟩
  refine canon_ext (foldP_canon l hs hc hl) (foldP_canon _ hs hc hl') (by rw [foldP_len, foldP_len]) (fun i j hi hj => ?_)
  rw [foldP_len] at hi hj
  constructor
  · exact fold_fine l hs (fun i => rd (foldP hs (l.reverse.map swapP)) i) hl (fun i j hi hj e => fold_coarse _ hs i j hi hj e) (fun p hp => (fold_pairs _ hs hl' (swapP p) (List.mem_map.2 ⟨p, List.mem_reverse.2 hp, rfl⟩)).symm) i j hi hj
  · exact fold_fine _ hs (fun i => rd (foldP hs l) i) hl' (fun i j hi hj e => fold_coarse _ hs i j hi hj e) (fun p hp => by
      obtain ⟨q, hq, rfl⟩ := List.mem_map.1 hp
      exact (fold_pairs l hs hl q (List.mem_reverse.1 hq)).symm) i j hi hj

/-! ### lists of lists, compared with themselves -/
section
open Go.Proofs.Ytmaoadlighjkpaa.PUnionJoins
theorem sameU_loop (l : List Int) (hmax : l.length ≤ 1000000) (d : Nat) : ∀ (k i : Nat), i + d = l.length → d < k → winnowerref01_Same.l0 k l l i = some true := by
  induction d with
  | zero =>
    intro k i hi hk
    obtain ⟨k, rfl⟩ : ∃ n, k = n + 1 := ⟨k - 1, by omega⟩
    simp only [winnowerref01_Same.l0]
    rw [if_neg (by omega)]
  | succ d ih =>
    intro k i hi hk
    obtain ⟨k, rfl⟩ : ∃ n, k = n + 1 := ⟨k - 1, by omega⟩
    simp only [winnowerref01_Same.l0]
    rw [if_pos (by omega), if_pos (by omega), if_pos (by omega)]
    have hw : wrap64 ((i : Int) + 1) = ((i + 1 : Nat) : Int) := by unfold wrap64; omega
    rw [hw]
    simpa using ih k (i + 1) (by omega) (by omega)
theorem listsU_loop (l : List (List Int)) (B : Nat) (hmax : l.length ≤ 1000000) (hB : B ≤ 1000000) (hall : ∀ x ∈ l, x.length ≤ B) (d : Nat) : ∀ (k i : Nat), i + d = l.length → d + B + 1 < k → winnowerlaw02_lists.l0 k l l i = some true := by
  induction d with
  | zero =>
    intro k i hi hk
    obtain ⟨k, rfl⟩ : ∃ n, k = n + 1 := ⟨k - 1, by omega⟩
    simp only [winnowerlaw02_lists.l0]
    rw [if_neg (by omega)]
  | succ d ih =>
    intro k i hi hk
    obtain ⟨k, rfl⟩ : ∃ n, k = n + 1 := ⟨k - 1, by omega⟩
    simp only [winnowerlaw02_lists.l0]
    rw [if_pos (by omega), if_pos (by omega), if_pos (by omega)]
    have hw : wrap64 ((i : Int) + 1) = ((i + 1 : Nat) : Int) := by unfold wrap64; omega
    have hx : (PUnionJoins.rd_L1 l (i : Int)).length ≤ B := by
      unfold PUnionJoins.rd_L1
      rw [Int.toNat_natCast, List.getD_eq_getElem?_getD, List.getElem?_eq_getElem (by omega)]
      exact hall _ (List.getElem_mem (by omega))
    have hs : winnowerref01_Same.f k (PUnionJoins.rd_L1 l (i : Int)) (PUnionJoins.rd_L1 l (i : Int)) = some true := by
      unfold winnowerref01_Same.f
      rw [if_pos rfl]
      simpa using sameU_loop _ (by omega) _ k 0 (Nat.zero_add _) (by omega)
    rw [hs, hw]
    simpa using ih k (i + 1) (by omega) (by omega)
theorem lists_any (A B : Option Addr) (c d : Nat) (l : List (List Int)) (b : Nat) (w : World) (hA : RdR w A l) (hc : l.length ≤ c) (hB : RdR w B l) (hd : l.length ≤ d) (hl : l.length ≤ 1000000) (hb : b ≤ 1000000) (hall : ∀ x ∈ l, x.length ≤ b) :
    Calls Try.prog 53 #[.slice A l.length c, .slice B l.length d] w fun e w' => e = .returned (.bool true) ∧ Below w.heap.size w w' := by
  have hf : winnowerlaw02_lists.f (l.length + b + 2) l l = some true := by
    unfold winnowerlaw02_lists.f
    rw [if_pos rfl]
    simpa using listsU_loop l b hl hb hall l.length (l.length + b + 2) 0 (by omega) (by omega)
  exact (winnowerlaw02_lists.calls _ A c l B d l true w hA hc hB hd hf).mono fun e w' ⟨h1, h2⟩ => ⟨h1, h2.below⟩
end

/-! ### two unions apart -/
structure UT2 (w0 w : World) (p q : Nat) (hs ks : List Int) : Prop where
  mk :: (out : ∃ F G vU vS vH zU zS zH, Uni w F p vU vS vH hs ∧ Uni w G q zU zS zH ks ∧ (∀ k, F k → ¬ G k) ∧ (∀ k, F k → w0.heap.size ≤ k ∧ k < w.heap.size) ∧ (∀ k, G k → w0.heap.size ≤ k ∧ k < w.heap.size) ∧ Below w0.heap.size w0 w)
section
variable {w0 w w1 : World} {p q : Nat} {hs ks : List Int}
theorem UT2.bel (h : UT2 w0 w p q hs ks) : Below w0.heap.size w0 w := by obtain ⟨F, G, vU, vS, vH, zU, zS, zH, _, _, _, _, _, h⟩ := h; exact h
theorem UT2.below (h : UT2 w0 w p q hs ks) (hb : Below w.heap.size w w1) : UT2 w0 w1 p q hs ks := by
  obtain ⟨F, G, vU, vS, vH, zU, zS, zH, h1, h2, h3, h4, h5, h6⟩ := h
  exact ⟨F, G, vU, vS, vH, zU, zS, zH, h1.below hb, h2.below hb, h3, fun k hk => ⟨(h4 k hk).1, Nat.lt_of_lt_of_le (h4 k hk).2 hb.size⟩, fun k hk => ⟨(h5 k hk).1, Nat.lt_of_lt_of_le (h5 k hk).2 hb.size⟩, below_then h6 h6.size hb⟩
@[simp] theorem UT2.alloc (h : UT2 w0 w p q hs ks) (o : Obj) : UT2 w0 (w.alloc o) p q hs ks := h.below (below_alloc (Below.refl _ _) o)
@[simp] theorem UT2.drew (h : UT2 w0 w p q hs ks) : UT2 w0 w.drew p q hs ks := h.below (below_drew (Below.refl _ _))
theorem UT2.turn (h : UT2 w0 w p q hs ks) : UT2 w0 w q p ks hs := by
  obtain ⟨F, G, vU, vS, vH, zU, zS, zH, h1, h2, h3, h4, h5, h6⟩ := h
  exact ⟨G, F, zU, zS, zH, vU, vS, vH, h2, h1, fun k hk hf => h3 k hf hk, h5, h4, h6⟩
theorem UT2.left (h : UT2 w0 w p q hs ks) : UT w0 w p hs := by
  obtain ⟨F, G, vU, vS, vH, zU, zS, zH, h1, h2, h3, h4, h5, h6⟩ := h
  exact ⟨F, vU, vS, vH, h1, h4, h6⟩
theorem UT2.next {F G : Nat → Prop} {vU vS vH zU zS zH : Value} {hs' : List Int} (h1 : Uni w1 F p vU vS vH hs') (hC : Chg F w w1) (h2 : Uni w G q zU zS zH ks) (h3 : ∀ k, F k → ¬ G k) (h4 : ∀ k, F k → w0.heap.size ≤ k ∧ k < w.heap.size) (h5 : ∀ k, G k → w0.heap.size ≤ k ∧ k < w.heap.size) (h6 : Below w0.heap.size w0 w) : UT2 w0 w1 p q hs' ks :=
  ⟨F, G, vU, vS, vH, zU, zS, zH, h1, h2.chg hC (fun k hg hf => h3 k hf hg), h3, fun k hk => ⟨(h4 k hk).1, Nat.lt_of_lt_of_le (h4 k hk).2 hC.size⟩, fun k hk => ⟨(h5 k hk).1, Nat.lt_of_lt_of_le (h5 k hk).2 hC.size⟩, h6.trans (hC.below h6.size (fun k hk => (h4 k hk).1))⟩
end
theorem new_ut2 (w0 w : World) (p : Nat) (hs : List Int) (h : UT w0 w p hs) (n : Nat) (hn : n ≤ 65536) : Calls Try.prog 48 #[.int .i64 (n : Int)] w fun e w' => e = .returned (.tuple #[.pointer (some ⟨w.heap.size, 0, none⟩), .int .i64 0]) ∧ UT2 w0 w' p w.heap.size hs (rngL n) := by
  obtain ⟨F, vU, vS, vH, h1, h2, h3⟩ := h
  exact (new_good n w hn).mono fun e w' ⟨zU, zS, zH, r1, r2⟩ => ⟨r1, ⟨F, _, vU, vS, vH, zU, zS, zH, h1.below r2.bel, uni_new r2, fun k hk hg => by have := (h2 k hk).2; have := hg.1; omega, fun k hk => ⟨(h2 k hk).1, Nat.lt_of_lt_of_le (h2 k hk).2 r2.bel.size⟩, fun k hk => ⟨Nat.le_trans h3.size hk.1, hk.2⟩, below_then h3 h3.size r2.bel⟩⟩
theorem join2_lit (w0 w : World) (p q : Nat) (hs ks xs : List Int) (h : UT2 w0 w p q hs ks) (hl : xs.length ≤ 1000) (hlen : hs.length ≤ 1000000) :
    Calls Try.prog 51 #[.pointer (some ⟨p, 0, none⟩), .slice (some ⟨w.heap.size, 0, none⟩) xs.length xs.length] (w.alloc (.cells (nums .i64 xs).toArray 3)) fun e w' => e = .returned (.bool (decide (joinS hs xs ≠ hs))) ∧ UT2 w0 w' p q (joinS hs xs) ks := by
  obtain ⟨F, G, vU, vS, vH, zU, zS, zH, h1, h2, h3, h4, h5, h6⟩ := h
  exact (join_any p F vU vS vH hs xs _ _ (h1.below (below_alloc (Below.refl _ _) _)) (lit_st xs hl (fun k hk => (h4 k hk).2)) hlen (by omega)).mono fun e w' ⟨r1, r2, r3⟩ => ⟨r1, UT2.next r2 r3 (h2.below (below_alloc (Below.refl _ _) _)) h3 (fun k hk => ⟨(h4 k hk).1, by have := (h4 k hk).2; simp; omega⟩) (fun k hk => ⟨(h5 k hk).1, by have := (h5 k hk).2; simp; omega⟩) (below_alloc h6 _)⟩
theorem members_le (hs : List Int) (n h : Nat) : (membersUp hs n h).length ≤ n := by
  have := List.length_filter_le (fun (k : Nat) => decide (rd hs k = (h : Int))) (List.range n)
  unfold membersUp
  rw [List.length_map]
  rwa [List.length_range] at this
theorem class_le (hs : List Int) (n : Nat) : ∀ x ∈ classUp hs n, x.length ≤ n := fun x hx => by
  obtain ⟨h, _, rfl⟩ := List.mem_map.1 hx
  exact members_le hs n h
/-- the classes of the one, then of the other; both stand -/
theorem classes_two (w0 w : World) (p q : Nat) (hs ks : List Int) (h : UT2 w0 w p q hs ks) (hlen : hs.length ≤ 100000) (hlen2 : ks.length ≤ 100000) :
    Calls Try.prog 54 #[.pointer (some ⟨p, 0, none⟩)] w fun e w' => ∃ A c, e = .returned (.slice A (cntOf hs) c) ∧ (cntOf hs ≤ c) ∧ UT2 w0 w' p q hs ks ∧
      Calls Try.prog 54 #[.pointer (some ⟨q, 0, none⟩)] w' fun e w2 => ∃ B d, e = .returned (.slice B (cntOf ks) d) ∧ cntOf ks ≤ d ∧ UT2 w0 w2 p q hs ks ∧ Kd.C (Kd.slice 3 (Kd.int .i64)) w2 A (cntOf hs) (classUp hs hs.length) ∧ Kd.C (Kd.slice 3 (Kd.int .i64)) w2 B (cntOf ks) (classUp ks ks.length) := by
  obtain ⟨F, G, vU, vS, vH, zU, zS, zH, h1, h2, h3, h4, h5, h6⟩ := h
  refine (classes_any p F vU vS vH hs w h1 (fun k hk => (h4 k hk).2) hlen).mono ?_
  rintro e w' ⟨v, rfl, r2, r3, r4⟩
  obtain ⟨A, c, rfl, hc, _⟩ := Kd.S_reads r2
  rw [classUp_len, headsUp_cnt] at r2 hc
  have hU := UT2.next r3 r4 h2 h3 h4 h5 h6
  refine ⟨A, c, by rw [classUp_len, headsUp_cnt], hc, hU, ?_⟩
  have g2 : Uni w' G q zU zS zH ks := h2.chg r4 (fun k hg hf => h3 k hf hg)
  refine (classes_any q G zU zS zH ks w' g2 (fun k hk => Nat.lt_of_lt_of_le (h5 k hk).2 r4.size) hlen2).mono ?_
  rintro e w2 ⟨v2, rfl, s2, s3, s4⟩
  obtain ⟨B, d, rfl, hd, hC2⟩ := Kd.S_reads s2
  have r5 := rows2_step r2 s4 (fun k hk => .inl (h5 k hk).2)
  have hC1 := (Kd.S_reads' r5).2.2
  rw [classUp_len, headsUp_cnt] at hC1 hC2 hd
  refine ⟨B, d, by rw [classUp_len, headsUp_cnt], hd, ?_, hC1, hC2⟩
  have hF4 : ∀ k, F k → w0.heap.size ≤ k ∧ k < w'.heap.size := fun k hk => ⟨(h4 k hk).1, Nat.lt_of_lt_of_le (h4 k hk).2 r4.size⟩
  have hG4 : ∀ k, G k → w0.heap.size ≤ k ∧ k < w'.heap.size := fun k hk => ⟨(h5 k hk).1, Nat.lt_of_lt_of_le (h5 k hk).2 r4.size⟩
  exact (UT2.next s3 s4 r3 (fun k hg hf => h3 k hf hg) hG4 hF4 hU.bel).turn
end Go.Proofs.Ytmaoadlighjkpaa.Un
