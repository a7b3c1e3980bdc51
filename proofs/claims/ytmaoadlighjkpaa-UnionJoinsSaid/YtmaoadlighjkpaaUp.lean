/- The document's own answers for the unions (winnowerref02): New, There, Join, Classes. -/
import Derived.Test.YtmaoadlighjkpaaUn
import Derived.Test.YtmaoadlighjkpaaPUnionJoinsx2
namespace Go.Proofs.Ytmaoadlighjkpaa.Un
open Go.RowKit Go.Proofs.YtmaoadlighjkpaaW.PrintWords Go.Proofs.YtmaoadlighjkpaaW.PrintLast Go.Proofs.YtmaoadlighjkpaaW.PrintMore
open Go.Proofs.Ytmaoadlighjkpaa.Base Go.Proofs.Ytmaoadlighjkpaa.Map Go.Proofs.Ytmaoadlighjkpaa.Qu Go.Proofs.Ytmaoadlighjkpaa.In
open Go.Proofs.Ytmaoadlighjkpaa.PUnionJoins
set_option linter.unusedVariables false

theorem wrap_next (i : Nat) (h : i ≤ 100000000) : wrap64 ((i : Int) + 1) = ((i + 1 : Nat) : Int) := by unfold wrap64; omega
theorem refNew_loop (n : Nat) (hn : n ≤ 1000000) (d : Nat) : ∀ (k i : Nat), i + d = n → d < k → winnowerref02_New.l0 k n (rngL i) i = some (rngL n) := by
  induction d with
  | zero =>
    intro k i hi hk
    obtain ⟨k, rfl⟩ : ∃ n, k = n + 1 := ⟨k - 1, by omega⟩
    simp only [winnowerref02_New.l0]
    obtain rfl : i = n := by omega
    rw [if_neg (by omega)]
  | succ d ih =>
    intro k i hi hk
    obtain ⟨k, rfl⟩ : ∃ n, k = n + 1 := ⟨k - 1, by omega⟩
    simp only [winnowerref02_New.l0]
    rw [if_pos (by omega), if_pos (by rw [rng_len]; omega), wrap_next i (by omega), rng_snoc]
    exact ih k (i + 1) (by omega) (by omega)
theorem refNew_any (n : Nat) (hn : n ≤ 1000000) (w : World) : Calls Try.prog 63 #[.int .i64 (n : Int)] w fun e w' => ∃ v, e = .returned v ∧ OwI w' w.heap.size v (rngL n) ∧ Below w.heap.size w w' := by
  have hf : winnowerref02_New.f (n + 1) n = some (rngL n) := refNew_loop n hn n (n + 1) 0 (by omega) (by omega)
  exact (winnowerref02_New.calls (n + 1) n _ w hf).mono fun e w' ⟨v, h1, h2, h3⟩ => ⟨v, h1, ⟨h2⟩, h3⟩

def allIn (hs ns : List Int) : Prop := ∀ k, k < ns.length → (0 ≤ rd ns k ∧ rd ns k < hs.length)
instance (hs ns : List Int) : Decidable (allIn hs ns) := by unfold allIn; infer_instance
theorem there_loop (hs ns : List Int) (hn : ns.length ≤ 1000000) (d : Nat) : ∀ (k i : Nat), i + d = ns.length → d < k → (∀ j, j < i → (0 ≤ rd ns j ∧ rd ns j < hs.length)) → winnowerref02_There.l0 k hs ns i = some (decide (allIn hs ns)) := by
  induction d with
  | zero =>
    intro k i hi hk hp
    obtain ⟨k, rfl⟩ : ∃ n, k = n + 1 := ⟨k - 1, by omega⟩
    simp only [winnowerref02_There.l0]
    rw [if_neg (by omega), decide_eq_true (show allIn hs ns from fun j hj => hp j (by omega))]
  | succ d ih =>
    intro k i hi hk hp
    obtain ⟨k, rfl⟩ : ∃ n, k = n + 1 := ⟨k - 1, by omega⟩
    simp only [winnowerref02_There.l0]
    rw [if_pos (by omega), if_pos (by omega)]
    by_cases c1 : rd ns (i : Int) < 0
    · rw [if_pos c1, decide_eq_false (fun h : allIn hs ns => by have := (h i (by omega)).1; omega)]
    · rw [if_neg c1]
      by_cases c2 : rd ns (i : Int) ≥ (hs.length : Int)
      · rw [if_pos c2, decide_eq_false (fun h : allIn hs ns => by have := (h i (by omega)).2; omega)]
      · rw [if_neg c2, wrap_next i (by omega)]
        refine ih k (i + 1) (by omega) (by omega) (fun j hj => ?_)
        rcases Nat.lt_or_ge j i with h | h
        · exact hp j h
        · obtain rfl : j = i := by omega
          omega
theorem there_f (hs ns : List Int) (hn : ns.length ≤ 1000000) (k : Nat) (hk : ns.length < k) : winnowerref02_There.f k hs ns = some (decide (allIn hs ns)) :=
  there_loop hs ns hn ns.length k 0 (by omega) hk (fun j hj => absurd hj (Nat.not_lt_zero j))

/-- from j on, hi becomes lo -/
def setFrom (cur : List Int) (lo hi : Int) (j : Nat) : List Int := cur.take j ++ (cur.drop j).map fun x => if x = hi then lo else x
theorem setFrom_end (cur : List Int) (lo hi : Int) (j : Nat) (h : cur.length ≤ j) : setFrom cur lo hi j = cur := by unfold setFrom; rw [List.take_of_length_le h, List.drop_eq_nil_of_le h]; simp
theorem setFrom_hit (cur : List Int) (lo hi : Int) (j : Nat) (h : j < cur.length) (he : rd cur j = hi) : setFrom (cur.set j lo) lo hi (j + 1) = setFrom cur lo hi j := by
  rw [rd_nat cur j h] at he
  unfold setFrom
  rw [List.take_succ_eq_append_getElem (by simpa using h), List.getElem_set_self, List.drop_set_of_lt (by omega), List.take_set_of_le (Nat.le_refl j), List.drop_eq_getElem_cons (l := cur) h, List.map_cons, if_pos he]
  simp
theorem setFrom_miss (cur : List Int) (lo hi : Int) (j : Nat) (h : j < cur.length) (he : rd cur j ≠ hi) : setFrom cur lo hi (j + 1) = setFrom cur lo hi j := by
  rw [rd_nat cur j h] at he
  unfold setFrom
  rw [List.take_succ_eq_append_getElem h, List.drop_eq_getElem_cons (l := cur) h, List.map_cons, if_neg he, List.append_assoc]
  rfl
theorem setFrom_all (cur : List Int) (a b : Nat) : setFrom cur (min (rd cur a) (rd cur b)) (max (rd cur a) (rd cur b)) 0 = joinL cur a b := by unfold setFrom joinL; simp
theorem join_l1 (ns : List Int) (x6 : Int) (lo hi : Int) (r : List Int) (M : Nat) (d : Nat) : ∀ (cur : List Int) (j k : Nat), cur.length ≤ 1000000 → j + d = cur.length → M + d < k →
    (∀ k, M ≤ k → winnowerref02_Join.l0 k ns (setFrom cur lo hi j) (wrap64 (x6 + 1)) = some r) → winnowerref02_Join.l1 k ns cur x6 lo hi j = some r := by
  induction d with
  | zero =>
    intro cur j k hm hj hk h
    obtain ⟨k, rfl⟩ : ∃ n, k = n + 1 := ⟨k - 1, by omega⟩
    simp only [winnowerref02_Join.l1]
    rw [if_neg (by omega)]
    have := h k (by omega)
    rwa [setFrom_end cur lo hi j (by omega)] at this
  | succ d ih =>
    intro cur j k hm hj hk h
    obtain ⟨k, rfl⟩ : ∃ n, k = n + 1 := ⟨k - 1, by omega⟩
    simp only [winnowerref02_Join.l1]
    rw [if_pos (by omega), if_pos (by omega), wrap_next j (by omega), Int.toNat_natCast]
    by_cases e : rd cur (j : Int) = hi
    · rw [if_pos e]
      refine ih (cur.set j lo) (j + 1) k (by rw [List.length_set]; exact hm) (by rw [List.length_set]; omega) (by omega) (fun k hk => ?_)
      rw [setFrom_hit cur lo hi j (by omega) e]
      exact h k hk
    · rw [if_neg e]
      refine ih cur (j + 1) k hm (by omega) (by omega) (fun k hk => ?_)
      rw [setFrom_miss cur lo hi j (by omega) e]
      exact h k hk
theorem join_l0 (hs ns : List Int) (hall : allIn hs ns) (hm : hs.length ≤ 1000000) (hn : ns.length ≤ 1000000) (d : Nat) : ∀ (i k : Nat), 1 ≤ i → i + d = max 1 ns.length → d * (hs.length + 3) + 1 ≤ k →
    winnowerref02_Join.l0 k ns (foldJ hs (rd ns (0 : Nat)).toNat ((ns.take i).drop 1)) i = some (foldJ hs (rd ns (0 : Nat)).toNat (ns.drop 1)) := by
  induction d with
  | zero =>
    intro i k h1 hi hk
    obtain ⟨k, rfl⟩ : ∃ n, k = n + 1 := ⟨k - 1, by omega⟩
    simp only [winnowerref02_Join.l0]
    rw [if_neg (by omega), List.take_of_length_le (by omega)]
  | succ d ih =>
    intro i k h1 hi hk
    rw [Nat.succ_mul] at hk
    obtain ⟨k, rfl⟩ : ∃ n, k = n + 2 := ⟨k - 2, by omega⟩
    have hlt : i < ns.length := by omega
    obtain ⟨a0, a1⟩ := hall 0 (by omega)
    obtain ⟨b0, b1⟩ := hall i hlt
    have hstep : foldJ hs (rd ns (0 : Nat)).toNat ((ns.take (i + 1)).drop 1) = joinL (foldJ hs (rd ns (0 : Nat)).toNat ((ns.take i).drop 1)) (rd ns (0 : Nat)).toNat (rd ns i).toNat := by rw [take_step ns i h1 hlt, foldJ_snoc]
    have hl : (foldJ hs (rd ns (0 : Nat)).toNat ((ns.take i).drop 1)).length = hs.length := foldJ_len _ _ _
    have hnext := ih (i + 1)
    rw [hstep] at hnext
    generalize foldJ hs (rd ns (0 : Nat)).toNat ((ns.take i).drop 1) = cur at *
    generalize foldJ hs (rd ns (0 : Nat)).toNat (ns.drop 1) = r at *
    rw [Int.natCast_zero] at a0 a1 hnext
    obtain ⟨a, ha⟩ : ∃ m : Nat, rd ns 0 = (m : Int) := ⟨(rd ns 0).toNat, by omega⟩
    obtain ⟨b, hb⟩ : ∃ m : Nat, rd ns i = (m : Int) := ⟨(rd ns i).toNat, by omega⟩
    rw [ha] at a0 a1
    rw [hb] at b0 b1
    rw [ha, hb, Int.toNat_natCast, Int.toNat_natCast] at hnext
    simp only [winnowerref02_Join.l0]
    rw [if_pos (by omega), if_pos (by omega), ha, if_pos (by omega), if_pos (by omega), if_pos (by omega), hb, if_pos (by omega), if_pos (by omega)]
    have key : ∀ lo hi, lo = min (rd cur a) (rd cur b) → hi = max (rd cur a) (rd cur b) → winnowerref02_Join.j1 (k + 1) ns cur i lo hi = some r := fun lo hi e1 e2 => by
      subst e1; subst e2
      simp only [winnowerref02_Join.j1]
      have := join_l1 ns i (min (rd cur a) (rd cur b)) (max (rd cur a) (rd cur b)) r (d * (hs.length + 3) + 1) cur.length cur 0 k (by omega) (by omega) (by omega) (fun k hk => by
        rw [setFrom_all, wrap_next i (by omega)]
        exact hnext k (by omega) (by omega) hk)
      simpa using this
    by_cases c : rd cur (a : Int) > rd cur (b : Int)
    · rw [if_pos c]
      exact key _ _ (by omega) (by omega)
    · rw [if_neg c]
      exact key _ _ (by omega) (by omega)
theorem refJoin_any (u v : Value) (hs ns : List Int) (w : World) (hu : RdV w u hs) (hv : RdV w v ns) (hm : hs.length ≤ 1000000) (hn : ns.length ≤ 1000000) :
    Calls Try.prog 64 #[u, v] w fun e w' => ∃ v0, e = .returned v0 ∧ OwI w' w.heap.size v0 (joinS hs ns) ∧ Below w.heap.size w w' := by
  obtain ⟨A, c, rfl, hc, hr⟩ := hu
  obtain ⟨B, d, rfl, hd, hr2⟩ := hv
  have hf : winnowerref02_Join.f (ns.length * (hs.length + 3) + ns.length + 2) hs ns = some (joinS hs ns) := by
    unfold winnowerref02_Join.f
    rw [if_pos (by simp; omega)]
    simp only [Option.bind_some, List.nil_append]
    rw [there_f hs ns hn _ (by omega)]
    simp only [Option.bind_some]
    unfold joinS
    by_cases c : allIn hs ns
    · have c' : ∀ k, k < ns.length → (0 ≤ rd ns k ∧ rd ns k < hs.length) := c
      rw [if_pos (decide_eq_true c), if_pos c']
      have hmul : (max 1 ns.length - 1) * (hs.length + 3) ≤ ns.length * (hs.length + 3) := Nat.mul_le_mul_right _ (by omega)
      have := join_l0 hs ns c hm hn (max 1 ns.length - 1) 1 (ns.length * (hs.length + 3) + ns.length + 2) (Nat.le_refl _) (by omega) (by omega)
      rw [show (ns.take 1).drop 1 = [] from List.drop_eq_nil_of_le (by simp; omega)] at this
      exact this
    · have c' : ¬ ∀ k, k < ns.length → (0 ≤ rd ns k ∧ rd ns k < hs.length) := c
      rw [if_neg (by simpa using c), if_neg c']
  exact (winnowerref02_Join.calls _ A c hs B d ns _ w hr.out hc hr2.out hd hf).mono fun e w' ⟨v0, h1, h2, h3⟩ => ⟨v0, h1, ⟨h2⟩, h3⟩
theorem refThere_any (u v : Value) (hs ns : List Int) (w : World) (hu : RdV w u hs) (hv : RdV w v ns) (hn : ns.length ≤ 1000000) :
    Calls Try.prog 65 #[u, v] w fun e w' => e = .returned (.bool (decide (allIn hs ns))) ∧ Below w.heap.size w w' := by
  obtain ⟨A, c, rfl, hc, hr⟩ := hu
  obtain ⟨B, d, rfl, hd, hr2⟩ := hv
  exact (winnowerref02_There.calls (ns.length + 1) A c hs B d ns _ w hr.out hc hr2.out hd (there_f hs ns hn _ (by omega))).mono fun e w' ⟨h1, h2⟩ => ⟨h1, h2.below⟩

theorem class_l1 (hs : List Int) (hm : hs.length ≤ 1000000) (out : List (List Int)) (ho : out.length ≤ 1000000) (h : Nat) (hh : h ≤ 1000000) (r : List (List Int)) (M : Nat) (d : Nat) : ∀ (j k : Nat), j + d = hs.length → M + d < k →
    (∀ k, M ≤ k → winnowerref02_Classes.l0 k hs (out ++ [membersUp hs hs.length h]) ((h + 1 : Nat) : Int) = some r) → winnowerref02_Classes.l1 k hs out h (membersUp hs j h) j = some r := by
  induction d with
  | zero =>
    intro j k hj hk hr
    obtain ⟨k, rfl⟩ : ∃ n, k = n + 1 := ⟨k - 1, by omega⟩
    simp only [winnowerref02_Classes.l1]
    obtain rfl : j = hs.length := by omega
    rw [if_neg (by omega), if_pos (by omega), wrap_next h (by omega)]
    exact hr k (by omega)
  | succ d ih =>
    intro j k hj hk hr
    obtain ⟨k, rfl⟩ : ∃ n, k = n + 1 := ⟨k - 1, by omega⟩
    simp only [winnowerref02_Classes.l1]
    have hml := members_le hs j h
    rw [if_pos (by omega), if_pos (by omega), wrap_next j (by omega)]
    have hs' := ih (j + 1) k (by omega) (by omega) hr
    rw [members_step] at hs'
    by_cases e : rd hs (j : Int) = (h : Int)
    · rw [if_pos e, if_pos (by omega)]
      rwa [if_pos e] at hs'
    · rw [if_neg e]
      rwa [if_neg e] at hs'
theorem class_l0 (hs : List Int) (hm : hs.length ≤ 1000000) (d : Nat) : ∀ (h k : Nat), h + d = hs.length → d * (hs.length + 3) + 1 ≤ k →
    winnowerref02_Classes.l0 k hs ((headsUp hs h).map (membersUp hs hs.length)) h = some (classUp hs hs.length) := by
  induction d with
  | zero =>
    intro h k hh hk
    obtain ⟨k, rfl⟩ : ∃ n, k = n + 1 := ⟨k - 1, by omega⟩
    simp only [winnowerref02_Classes.l0]
    obtain rfl : h = hs.length := by omega
    rw [if_neg (by omega)]
    rfl
  | succ d ih =>
    intro h k hh hk
    rw [Nat.succ_mul] at hk
    obtain ⟨k, rfl⟩ : ∃ n, k = n + 1 := ⟨k - 1, by omega⟩
    simp only [winnowerref02_Classes.l0]
    rw [if_pos (by omega), if_pos (by omega)]
    have hle := headsUp_le hs h
    by_cases e : rd hs (h : Int) = (h : Int)
    · rw [if_pos e]
      have hnil : membersUp hs 0 h = [] := rfl
      have := class_l1 hs hm ((headsUp hs h).map (membersUp hs hs.length)) (by rw [List.length_map]; omega) h (by omega) (classUp hs hs.length) (d * (hs.length + 3) + 1) hs.length 0 k (by omega) (by omega) (fun k hk => by
        have h2 := ih (h + 1) k (by omega) hk
        rw [headsUp_new e, List.map_append] at h2
        exact h2)
      rw [hnil] at this
      simpa using this
    · rw [if_neg e, wrap_next h (by omega)]
      have h2 := ih (h + 1) k (by omega) (by omega)
      rwa [headsUp_old e] at h2
theorem refClasses_any (u : Value) (hs : List Int) (w : World) (hu : RdV w u hs) (hm : hs.length ≤ 1000000) :
    Calls Try.prog 66 #[u] w fun e w' => ∃ v, e = .returned v ∧ Rows2 w' w.heap.size v (classUp hs hs.length) ∧ Below w.heap.size w w' := by
  obtain ⟨A, c, rfl, hc, hr⟩ := hu
  have hf : winnowerref02_Classes.f (hs.length * (hs.length + 3) + 1) hs = some (classUp hs hs.length) := by
    unfold winnowerref02_Classes.f
    have := class_l0 hs hm hs.length 0 (hs.length * (hs.length + 3) + 1) (by omega) (Nat.le_refl _)
    simpa [headsUp] using this
  exact winnowerref02_Classes.calls _ A c hs _ w hr.out hc hf
end Go.Proofs.Ytmaoadlighjkpaa.Un
