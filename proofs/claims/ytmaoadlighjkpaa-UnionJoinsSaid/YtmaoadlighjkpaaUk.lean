/- union.Union: Classes. Plain: the classes as they come up. -/
import Derived.Test.YtmaoadlighjkpaaUh
namespace Go.Proofs.Ytmaoadlighjkpaa.Un
open Go.RowKit Go.Proofs.YtmaoadlighjkpaaW.PrintWords Go.Proofs.YtmaoadlighjkpaaW.PrintLast Go.Proofs.YtmaoadlighjkpaaW.PrintMore
open Go.Proofs.Ytmaoadlighjkpaa.Base Go.Proofs.Ytmaoadlighjkpaa.Map Go.Proofs.Ytmaoadlighjkpaa.Qu Go.Proofs.Ytmaoadlighjkpaa.In Go.Maps
set_option linter.unusedVariables false

theorem info22 : (Try.prog.info? 22).map (fun i => (i.zero, i.size, i.bytes)) = some (some (.slice none 0 0), 1, 24) := by kernel_rfl
/-- rows of rows of whole numbers, read -/
abbrev RdR (w : World) (A : Option Addr) (ls : List (List Int)) : Prop := Kd.C (Kd.slice 3 (Kd.int .i64)) w A ls.length ls
theorem place_le {α : Type} [DecidableEq α] {s : α} : ∀ {l : List α} {i : Nat} (h : i < l.length), l[i] = s → place l s ≤ i
  | [], i, h, _ => by simp at h
  | a :: l, 0, _, e => by
    have e : a = s := e
    unfold place; simp [e]
  | a :: l, i + 1, h, e => by
    have := place_le (l := l) (s := s) (i := i) (by simpa using h) (by simpa using e)
    unfold place at this ⊢
    rw [List.idxOf_cons]
    by_cases c : a = s
    · simp [c]
    · rw [show (a == s) = false from beq_eq_false_iff_ne.2 c]; simp only [cond_false]; omega
theorem place_first {α : Type} [DecidableEq α] {l : List α} {s : α} {i : Nat} (hi : i < l.length) (he : l[i] = s) (hn : ∀ j (h : j < l.length), j < i → l[j] ≠ s) : place l s = i := by
  have hm : s ∈ l := he ▸ List.getElem_mem hi
  have h1 : place l s < l.length := place_lt hm
  have h2 : l[place l s] = s := by unfold place; exact List.getElem_idxOf h1
  have h3 := place_le hi he
  rcases Nat.lt_or_ge (place l s) i with h | h
  · exact absurd h2 (hn _ h1 h)
  · omega

def headsUp (hs : List Int) (n : Nat) : List Nat := (List.range n).filter fun (i : Nat) => decide (rd hs i = (i : Int))
def membersUp (hs : List Int) (n h : Nat) : List Int := ((List.range n).filter fun (k : Nat) => decide (rd hs k = (h : Int))).map fun (k : Nat) => (k : Int)
/-- the classes among the first n numbers -/
def classUp (hs : List Int) (n : Nat) : List (List Int) := (headsUp hs n).map (membersUp hs n)
theorem classUp_len (hs : List Int) (n : Nat) : (classUp hs n).length = (headsUp hs n).length := by simp [classUp]
theorem headsUp_le (hs : List Int) (n : Nat) : (headsUp hs n).length ≤ n := by
  have := List.length_filter_le (fun (i : Nat) => decide (rd hs i = (i : Int))) (List.range n)
  rwa [List.length_range] at this
theorem headsUp_cnt (hs : List Int) : (headsUp hs hs.length).length = cntOf hs := by unfold headsUp cntOf; rw [List.countP_eq_length_filter]
theorem mem_headsUp {hs : List Int} {n h : Nat} : h ∈ headsUp hs n ↔ h < n ∧ rd hs h = (h : Int) := by simp [headsUp]
theorem headsUp_new {hs : List Int} {n : Nat} (h : rd hs n = (n : Int)) : headsUp hs (n + 1) = headsUp hs n ++ [n] := by
  unfold headsUp; rw [List.range_succ, List.filter_append]; simp [h]
theorem headsUp_old {hs : List Int} {n : Nat} (h : rd hs n ≠ (n : Int)) : headsUp hs (n + 1) = headsUp hs n := by
  unfold headsUp; rw [List.range_succ, List.filter_append]; simp [h]
theorem members_step (hs : List Int) (n h : Nat) : membersUp hs (n + 1) h = if rd hs n = (h : Int) then membersUp hs n h ++ [(n : Int)] else membersUp hs n h := by
  unfold membersUp
  rw [List.range_succ, List.filter_append, List.map_append]
  by_cases e : rd hs n = (h : Int)
  · rw [if_pos e]; simp [e]
  · rw [if_neg e]; simp [e]
theorem headsUp_nodup (hs : List Int) (n : Nat) : (headsUp hs n).Nodup := List.Pairwise.filter _ List.nodup_range
/-- a new class -/
theorem class_new {hs : List Int} (hc : Canon hs) {n : Nat} (hn : n < hs.length) (h : rd hs n = (n : Int)) : classUp hs (n + 1) = (classUp hs n ++ [[]]).set (headsUp hs n).length [(n : Int)] := by
  have hm : membersUp hs n n = [] := by
    unfold membersUp
    rw [List.map_eq_nil_iff, List.filter_eq_nil_iff]
    intro k hk
    have hk' := List.mem_range.1 hk
    obtain ⟨x, x1, x2, _⟩ := hc.at_ k (by omega)
    simp; omega
  have e : (classUp hs n ++ [[]]).set (headsUp hs n).length [(n : Int)] = classUp hs n ++ [[(n : Int)]] := by
    rw [← classUp_len, List.set_append]; simp
  rw [e]
  unfold classUp
  rw [headsUp_new h, List.map_append, List.map_singleton, members_step, if_pos h, hm, List.nil_append]
  congr 1
  refine List.map_congr_left (fun x hx => ?_)
  have := (mem_headsUp.1 hx).1
  rw [members_step, if_neg (by omega)]
/-- one more of an old class -/
theorem class_old {hs : List Int} {n h : Nat} (hh : rd hs n = (h : Int)) (hlt : h < n) (hhh : rd hs h = (h : Int)) :
    place (headsUp hs n) h < (classUp hs n).length ∧ (classUp hs n).getD (place (headsUp hs n) h) [] = membersUp hs n h ∧ classUp hs (n + 1) = (classUp hs n).set (place (headsUp hs n) h) (membersUp hs n h ++ [(n : Int)]) := by
  have hmem : h ∈ headsUp hs n := mem_headsUp.2 ⟨hlt, hhh⟩
  have hp := place_lt hmem
  have hat : (headsUp hs n)[place (headsUp hs n) h] = h := by unfold place; exact List.getElem_idxOf hp
  refine ⟨by rw [classUp_len]; exact hp, ?_, ?_⟩
  · rw [List.getD_eq_getElem?_getD, List.getElem?_eq_getElem (by rw [classUp_len]; exact hp)]
    simp only [classUp, List.getElem_map, hat, Option.getD_some]
  · apply List.ext_getElem
    · rw [List.length_set, classUp_len, classUp_len, headsUp_old (by omega)]
    · intro k h1 h2
      rw [List.length_set, classUp_len] at h2
      rw [List.getElem_set]
      simp only [classUp, List.getElem_map]
      have e1 : (headsUp hs (n + 1))[k]'(by rw [classUp_len] at h1; exact h1) = (headsUp hs n)[k] := by
        simp only [headsUp_old (show rd hs n ≠ (n : Int) by omega)]
      rw [e1, members_step]
      by_cases e : place (headsUp hs n) h = k
      · subst e
        rw [if_pos rfl, hat, if_pos hh]
      · rw [if_neg e, if_neg]
        intro e2
        have e3 : (headsUp hs n)[k] = h := by omega
        apply e
        rw [← e3]
        exact place_first h2 rfl (fun q hq hqk => List.pairwise_iff_getElem.1 (headsUp_nodup hs n) q k hq h2 hqk)

def natLit (h : Nat) : Lit := .int .i64 (h : Int)
def natOk (h : Nat) : Prop := h ≤ 1000000
theorem natLit_inj {a b : Nat} (h : natLit a = natLit b) : a = b := by
  have : (a : Int) = b := by simpa [natLit] using h
  omega
theorem natLit_key {h : Nat} (hh : natOk h) : keyOf Try.prog 3 (.int .i64 (h : Int)) = some (natLit h) := Go.Maps.keyOf_int_mk Try.underlying3 (WalkArith.wf_i64 (by unfold natOk at hh; omega))
end Go.Proofs.Ytmaoadlighjkpaa.Un
