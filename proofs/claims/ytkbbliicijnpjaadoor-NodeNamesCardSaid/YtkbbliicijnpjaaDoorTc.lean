/- texts: the reference's Digits, Join, Text are the library's. -/
import Derived.Test.YtkbbliicijnpjaaDoorTb
import Derived.Test.YtkbbliicijnpjaaDoorPb
namespace Go.Proofs.YtkbbliicijnpjaaDoor.Tx
open Go.RowKit Go.Proofs.YtkbbliicijnpjaaDoorW.PrintWords Go.Proofs.YtkbbliicijnpjaaDoorW.PrintLast Go.Proofs.YtkbbliicijnpjaaDoorW.PrintMore
open Go.Proofs.YtkbbliicijnpjaaDoor.Base Go.Proofs.YtkbbliicijnpjaaDoor.Ca Go.Proofs.YtkbbliicijnpjaaDoor.PCtxMakes
set_option linter.unusedVariables false

theorem ba_eq {a b : ByteArray} (h : a.data.toList = b.data.toList) : a = b := by
  cases a; cases b
  simp only [ByteArray.mk.injEq]
  exact Array.toList_inj.1 h
theorem app_data (a b : ByteArray) : (a ++ b).data.toList = a.data.toList ++ b.data.toList := Go.Joins.data_append a b
theorem app_size (a b : ByteArray) : (a ++ b).size = a.size + b.size := by
  rw [Lib.size_eq, Lib.size_eq a, Lib.size_eq b, app_data, List.length_append]
def decS (n : Nat) : ByteArray := ⟨(Lib.decDigits n).toArray⟩
theorem decS_data (n : Nat) : (decS n).data.toList = Lib.decDigits n := List.toList_toArray
theorem decS_size (n : Nat) (h : n < 18446744073709551616) : (decS n).size ≤ 20 := by
  rw [Lib.size_eq, decS_data, Lib.decDigits_length]
  exact Lib.nDigits_le20 n h
theorem dec_split (n : Nat) (h : ¬ n < 10) : decS n = decS (n / 10) ++ decS (n % 10) := by
  apply ba_eq
  rw [app_data, decS_data, decS_data, decS_data, Lib.decDigits, dif_neg h, Lib.decDigits_one (show n % 10 < 10 by omega)]
theorem one_tab : (List.range 10).all (fun n => (strOfNums [(wrap64 (48 + (n : Int))) % 256]).data.toList == Lib.decDigits n) = true := by kernel_rfl
theorem digits_nat : ∀ (k n : Nat), n < 10 ^ (k + 1) → n ≤ 9223372036854775807 → winnowerref06_Digits.f (k + 1) (n : Int) = some (decS n)
  | k, n, h, hm => by
    rw [winnowerref06_Digits.f, if_neg (by omega)]
    by_cases h10 : n < 10
    · have h1 := List.all_eq_true.1 one_tab n (List.mem_range.2 h10)
      rw [if_pos (by omega)]
      congr 1
      exact ba_eq ((eq_of_beq h1).trans (decS_data n).symm)
    · match k, h with
      | 0, h => exact absurd h (by omega)
      | k + 1, h =>
        have e1 : Int.tdiv (n : Int) 10 = ((n / 10 : Nat) : Int) := rfl
        have e2 : Int.tmod (n : Int) 10 = ((n % 10 : Nat) : Int) := rfl
        have e3 : wrap64 ((n / 10 : Nat) : Int) = ((n / 10 : Nat) : Int) := by unfold wrap64; omega
        have p1 : 10 ^ (k + 1 + 1) = 10 ^ (k + 1) * 10 := Nat.pow_succ 10 (k + 1)
        have p2 : 10 ^ (k + 1) = 10 ^ k * 10 := Nat.pow_succ 10 k
        have p3 : 1 ≤ 10 ^ k := Nat.one_le_pow _ _ (by decide)
        have h1 := digits_nat k (n / 10) (by omega) (by omega)
        have h2 := digits_nat k (n % 10) (by omega) (by omega)
        have z1 := decS_size (n / 10) (by omega)
        have z2 := decS_size (n % 10) (by omega)
        rw [if_neg (by omega), e1, e2, e3, h1, Option.bind_some, h2, Option.bind_some, if_pos (by omega), ← dec_split n h10]
theorem itoaS_nat (n : Nat) : itoaS (n : Int) = decS n := by
  unfold itoaS decS
  rw [Lib.itoa_nonneg]
theorem itoaS_neg (n : Nat) (h : 1 ≤ n) : itoaS (-(n : Int)) = (⟨#[45]⟩ : ByteArray) ++ decS n := by
  apply ba_eq
  rw [app_data, decS_data]
  show (Lib.itoa (-(n : Int))).toArray.toList = _
  rw [List.toList_toArray, Lib.itoa_neg n h]
  rfl
theorem digits_f (n : Int) (h : (Lit.int .i64 n).wf = true) (k : Nat) (hk : 20 ≤ k) : winnowerref06_Digits.f (k + 1) n = some (itoaS n) := by
  obtain ⟨h0, h1⟩ := wf_i64 h
  have hp : (10 : Nat) ^ 20 ≤ 10 ^ k := Nat.pow_le_pow_right (by decide) hk
  have hp2 : (10 : Nat) ^ (k + 1) = 10 ^ k * 10 := Nat.pow_succ 10 k
  have hq : (10 : Nat) ^ 20 = 100000000000000000000 := by decide
  by_cases hn : n < 0
  · obtain ⟨u, hu⟩ : ∃ u : Nat, n = -(u : Int) := ⟨n.natAbs, by omega⟩
    subst hu
    obtain ⟨k, rfl⟩ : ∃ k', k = k' + 1 := ⟨k - 1, by omega⟩
    have w1 : IntKind.u64.wrap (-(IntKind.u64.wrap (-(u : Int)))) = (u : Int) := by
      rw [IntKind.wrap_u64, IntKind.wrap_u64]; omega
    rw [winnowerref06_Digits.f, if_pos hn, w1, itoaS_neg u (by omega)]
    by_cases h10 : u < 10
    · have e3 : wrap64 (u : Int) = (u : Int) := by unfold wrap64; omega
      have h2 := digits_nat k u (by omega) (by omega)
      have z2 := decS_size u (by omega)
      rw [if_pos (by omega), e3, h2, Option.bind_some, if_pos (by omega)]
    · have e1 : Int.tdiv (u : Int) 10 = ((u / 10 : Nat) : Int) := rfl
      have e2 : Int.tmod (u : Int) 10 = ((u % 10 : Nat) : Int) := rfl
      have e3 : wrap64 (IntKind.u64.wrap ((u / 10 : Nat) : Int)) = ((u / 10 : Nat) : Int) := by rw [IntKind.wrap_u64]; unfold wrap64; omega
      have e4 : wrap64 ((u % 10 : Nat) : Int) = ((u % 10 : Nat) : Int) := by unfold wrap64; omega
      have h2 := digits_nat k (u / 10) (by omega) (by omega)
      have h3 := digits_nat k (u % 10) (by omega) (by omega)
      have z2 := decS_size (u / 10) (by omega)
      have z3 := decS_size (u % 10) (by omega)
      have z1 : (⟨#[45]⟩ : ByteArray).size = 1 := rfl
      rw [if_neg (by omega), e1, e2, e3, e4, h2, Option.bind_some, if_pos (by omega), h3, Option.bind_some, if_pos (by rw [app_size]; omega), dec_split u h10, ByteArray.append_assoc]
  · obtain ⟨u, hu⟩ : ∃ u : Nat, n = (u : Int) := ⟨n.toNat, by omega⟩
    subst hu
    rw [itoaS_nat]
    exact digits_nat k u (by omega) (by omega)

theorem joinTail_snoc (sep : List UInt8) (r : List (List UInt8)) (y : List UInt8) : Lib.joinTail sep (r ++ [y]) = Lib.joinTail sep r ++ (sep ++ y) := by
  simp [Lib.joinTail]
theorem joinB_snoc (ts : List ByteArray) (y sep : ByteArray) (h : ts ≠ []) : joinB (ts ++ [y]) sep = joinB ts sep ++ sep ++ y := by
  cases ts with
  | nil => exact absurd rfl h
  | cons x r =>
    apply ba_eq
    rw [app_data, app_data]
    show (Lib.join ((x :: r ++ [y]).map (·.data.toList)) sep.data.toList).toArray.toList = (Lib.join ((x :: r).map (·.data.toList)) sep.data.toList).toArray.toList ++ _ ++ _
    rw [List.toList_toArray, List.toList_toArray, List.cons_append, List.map_cons, List.map_append, List.map_cons, List.map_cons, List.map_nil, Lib.join_cons, Lib.join_cons, joinTail_snoc]
    simp only [List.append_assoc]
theorem joinB_one (y sep : ByteArray) : joinB [y] sep = y := by
  apply ba_eq
  show (Lib.join ([y].map (·.data.toList)) sep.data.toList).toArray.toList = _
  rw [List.toList_toArray]
  exact Lib.join_one _ _
theorem joinB_nil (sep : ByteArray) : joinB [] sep = (⟨#[]⟩ : ByteArray) := rfl
theorem takeS_snoc (l : List ByteArray) (i : Nat) (h : i < l.length) : l.take (i + 1) = l.take i ++ [rdOf ByteArray.empty l (i : Int)] := by
  rw [List.take_succ_eq_append_getElem h]
  congr 2
  simp [rdOf, List.getD, List.getElem?_eq_getElem h]
theorem rdS_mem (l : List ByteArray) (i : Nat) (h : i < l.length) : rdOf ByteArray.empty l (i : Int) ∈ l := by
  have e : rdOf ByteArray.empty l (i : Int) = l[i] := by simp [rdOf, List.getD, List.getElem?_eq_getElem h]
  rw [e]
  exact List.getElem_mem h
theorem join_l0 (l : List ByteArray) (sep : ByteArray) (hl : l.length ≤ 1000) (hs : sep.size ≤ 10) (hx : ∀ x ∈ l, x.size ≤ 100000) : ∀ (d j k : Nat), d + j = l.length → d < k → winnowerref06_Join.l0 k l sep (joinB (l.take j) sep) (j : Int) = some (joinB l sep)
  | _, _, 0, _, hk => absurd hk (Nat.not_lt_zero _)
  | 0, j, k + 1, hd, hk => by
    rw [winnowerref06_Join.l0, if_neg (by omega), List.take_of_length_le (by omega)]
  | d + 1, j, k + 1, hd, hk => by
    have h1 := join_l0 l sep hl hs hx d (j + 1) k (by omega) (by omega)
    have hw : wrap64 ((j : Int) + 1) = ((j + 1 : Nat) : Int) := by unfold wrap64; omega
    have hz := joinB_size (l.take j) sep 100000 (fun x hxx => hx x (List.mem_of_mem_take hxx))
    have hz2 : (100000 + sep.size) * (l.take j).length ≤ 100010 * 1000 := Nat.mul_le_mul (by omega) (by rw [List.length_take]; omega)
    have hz3 := hx _ (rdS_mem l j (by omega))
    have hts := takeS_snoc l j (by omega)
    rw [winnowerref06_Join.l0, if_pos (by omega)]
    by_cases h0 : j = 0
    · subst h0
      rw [if_neg (by omega), if_pos (by omega), if_pos (by omega), hw]
      rw [hts] at h1
      rw [List.take_zero, List.nil_append, joinB_one] at h1
      have e : joinB (l.take 0) sep ++ rdOf ByteArray.empty l ((0 : Nat) : Int) = rdOf ByteArray.empty l ((0 : Nat) : Int) := by
        rw [List.take_zero, joinB_nil]
        exact ba_eq (by rw [app_data]; rfl)
      rw [e]
      exact h1
    · have q1 : (joinB (l.take j) sep).size + sep.size ≤ 9223372036854775807 := by omega
      have q2 : (joinB (l.take j) sep ++ sep).size + (rdOf ByteArray.empty l (j : Int)).size ≤ 9223372036854775807 := by rw [app_size]; omega
      rw [if_pos (show (j : Int) > 0 by omega), if_pos q1, if_pos (show 0 ≤ (j : Int) by omega), if_pos q2, hw]
      rw [hts, joinB_snoc _ _ _ (List.ne_nil_of_length_pos (by rw [List.length_take]; omega))] at h1
      exact h1
theorem join_f (l : List ByteArray) (sep : ByteArray) (hl : l.length ≤ 1000) (hs : sep.size ≤ 10) (hx : ∀ x ∈ l, x.size ≤ 100000) (k : Nat) (hk : l.length < k) : winnowerref06_Join.f k l sep = some (joinB l sep) :=
  join_l0 l sep hl hs hx l.length 0 k rfl hk
theorem text_l0 (l : List Int) (hl : l.length ≤ 100) (hw : ∀ x ∈ l, (Lit.int .i64 x).wf = true) : ∀ (d j k : Nat), d + j = l.length → d + 120 < k → winnowerref16_Text.l0 k l ((l.take j).map itoaS) (j : Int) = some (textS l)
  | _, _, 0, _, hk => absurd hk (Nat.not_lt_zero _)
  | 0, j, k + 1, hd, hk => by
    have hsm : ∀ x ∈ l.map itoaS, x.size ≤ 21 := fun x hx => by
      obtain ⟨z, hz, rfl⟩ := List.mem_map.1 hx
      exact itoaS_le (hw z hz)
    have hz := joinB_size (l.map itoaS) (⟨#[32]⟩ : ByteArray) 21 hsm
    rw [List.length_map] at hz
    have hz1 : (21 + (⟨#[32]⟩ : ByteArray).size) * l.length ≤ 22 * 100 := Nat.mul_le_mul (Nat.le_refl _) hl
    have hz2 : (⟨#[91]⟩ : ByteArray).size = 1 := rfl
    rw [winnowerref16_Text.l0, if_neg (by omega), List.take_of_length_le (by omega), join_f (l.map itoaS) (⟨#[32]⟩ : ByteArray) (by rw [List.length_map]; omega) (by decide) (fun x hx => by have := hsm x hx; omega) k (by rw [List.length_map]; omega), Option.bind_some, if_pos (by omega), if_pos (by rw [app_size]; omega)]
    rfl
  | d + 1, j, k + 1, hd, hk => by
    have h1 := text_l0 l hl hw d (j + 1) k (by omega) (by omega)
    have hww : wrap64 ((j : Int) + 1) = ((j + 1 : Nat) : Int) := by unfold wrap64; omega
    have hd1 := digits_f (rd l (j : Int)) (hw _ (rd_mem l j (by omega))) (k - 1) (by omega)
    rw [show k - 1 + 1 = k by omega] at hd1
    rw [winnowerref16_Text.l0, if_pos (by omega), if_pos (by omega), hd1, Option.bind_some, if_pos (by rw [List.length_map, List.length_take]; omega), ← map_snoc l j (by omega), hww]
    exact h1
theorem textR_f (l : List Int) (hl : l.length ≤ 100) (hw : ∀ x ∈ l, (Lit.int .i64 x).wf = true) : winnowerref16_Text.f 240 l = some (textS l) :=
  text_l0 l hl hw l.length 0 240 rfl (by omega)
end Go.Proofs.YtkbbliicijnpjaaDoor.Tx
