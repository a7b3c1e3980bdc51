/- append(s, make([]int, k)...), s the call's own: s with k noughts behind. InternPads, walked. -/
import Derived.Test.YtmaoadlighjkpaaId
import Derived.Lib.AppendZerosOnto
namespace Go.Proofs.Ytmaoadlighjkpaa.In
open Go.RowKit Go.Proofs.YtmaoadlighjkpaaW.PrintWords Go.Proofs.YtmaoadlighjkpaaW.PrintLast Go.Proofs.YtmaoadlighjkpaaW.PrintMore
open Go.Proofs.Ytmaoadlighjkpaa.Base Go.Proofs.Ytmaoadlighjkpaa.Map Go.Proofs.Ytmaoadlighjkpaa.Ca Go.Proofs.Ytmaoadlighjkpaa.Qu Go.Maps
set_option linter.unusedVariables false

theorem zeroCells_int (m : Nat) : Builtin.zeroCells (Value.int .i64 0).cells m = (nums .i64 (List.replicate m 0)).toArray := by
  apply Array.ext'
  simp [Builtin.zeroCells, Value.cells, nums, List.map_replicate]
  apply List.ext_getElem
  · simp
  · intro i h1 h2; simp [Nat.mod_one]

theorem run_zeros_own (w : World) (base : Nat) (ty : TypeId) (v : Value) (n : Nat) (xs : List Value) (hown : w.ownsRow base 3 1 v n xs) (k : Nat) (hk : 0 < k) (hl : n + k ≤ 1000000) (hbase : base ≤ w.heap.size) :
    ∃ v' w', (Builtin.append_ #[22, 3] ty #[v, .int .i64 k]).run Try.prog w = .ok v' w' ∧ w'.ownsRow base 3 1 v' (n + k) (xs ++ nums .i64 (List.replicate k 0)) ∧ w.grownBy w' v.ownBlock := by
  obtain ⟨i, hi, hzz⟩ := Option.map_eq_some_iff.1 info3
  simp only [Prod.mk.injEq] at hzz
  obtain ⟨hz, hsz, hby⟩ := hzz
  obtain ⟨news, hn⟩ : ∃ news, nums .i64 (List.replicate k 0) = news := ⟨_, rfl⟩
  have hnl : news.length = k := by rw [← hn]; simp [nums]
  have h1 : ∀ u ∈ news, u.oneCell' = true := by rw [← hn]; exact nums_one _
  have hza : Builtin.zeroCells (Value.int .i64 0).cells k = news.toArray := by rw [zeroCells_int, hn]
  rw [hn]
  have hlen : (xs ++ news).length = (n + k) * 1 := by rw [List.length_append, hown.1, hnl]; omega
  have grown : ∀ (old : Nat), old < n + k → ∀ (row : Option Nat),
      (w.drew.alloc (.cells (xs.toArray ++ news.toArray ++ Builtin.zeroCells (Value.int .i64 0).cells (grownCap w (n + k) old 3 - (n + k))) 3)).ownsRow base 3 1
        (.slice (some ⟨w.heap.size, 0, none⟩) (n + k) (grownCap w (n + k) old 3)) (n + k) (xs ++ news) ∧
      w.grownBy (w.drew.alloc (.cells (xs.toArray ++ news.toArray ++ Builtin.zeroCells (Value.int .i64 0).cells (grownCap w (n + k) old 3 - (n + k))) 3)) row := by
    intro old ho row
    have hge := grownCap_ge w (n + k) old 3
    have hcm : grownCap w (n + k) old 3 ≤ maxLen := grownCap_le_maxLen w (n + k) old 3 (by unfold maxLen; omega)
    refine ⟨⟨hlen, .inr ⟨w.heap.size, _, _, rfl, hbase, heap_alloc_new w.drew _, hge, hcm, ?_, ?_⟩⟩, ⟨rfl, rfl, rfl, by simp, fun k hk _ => Go.heap_alloc_old w.drew _ hk⟩⟩
    · rw [zeroCells_int]
      simp only [Array.size_append, List.size_toArray, hown.1, hnl, nums, List.length_map, List.length_replicate]
      omega
    · simp only [Array.toList_append, List.append_assoc]
      rw [← List.append_assoc, ← hlen]
      exact List.take_left
  have hw : IntKind.i64.wrap (k : Int) = k := by rw [IntKind.wrap_i64]; omega
  have hneg : ¬ ((k : Int) < 0) := by omega
  have h48i : ¬ (281474976710656 < (k : Int) * 8) := by omega
  rcases hown.2 with ⟨rfl, rfl⟩ | ⟨g, cap, cur, rfl, hbg, hg, hnc, hcm, hcs, htake⟩
  · have hx : xs = [] := List.eq_nil_of_length_eq_zero (by simpa using hown.1)
    subst hx
    have hr := Lib.run_append_nil_zeros (P := Try.prog) w 22 3 ty 3 i _ .i64 .i64 Try.underlying22 Try.underlying3 hi hz k hk (by omega) (by omega) (by rw [hby]; omega)
    rw [hza] at hr
    have hgr := grown 0 (by omega) (Value.ownBlock (.slice none 0 0))
    simp only [Nat.zero_add, List.nil_append, Array.empty_append] at hgr ⊢
    exact ⟨_, _, hr, hgr.1, hgr.2⟩
  · by_cases hroom : n + k ≤ cap
    · have hst := run_storeCells_at Try.prog g n 3 news 0 cur w hg (by rw [hnl, hcs]; omega) h1
      rw [Nat.add_zero] at hst
      have hk0 : ¬ k = 0 := by omega
      have hr : (Builtin.append_ #[22, 3] ty #[.slice (some ⟨g, 0, none⟩) n cap, .int .i64 k]).run Try.prog w = .ok (.slice (some ⟨g, 0, none⟩) (n + k) cap) (w.setRow g (cur.toList.take n ++ news ++ cur.toList.drop (n + news.length)).toArray) := by
        simp [Builtin.append_, run_underlying Try.underlying22, run_underlying Try.underlying3, sizeOf, typeInfo, zeroValue, hi, hz, hsz, hby, asInt, asIntOf, hw, hneg, h48i, hroom, hk0, hza, Addr.add_lit, hst]
      refine ⟨_, _, hr, ⟨hlen, .inr ⟨g, cap, _, rfl, hbg, setRow_heap w g cur _ 3 _ hg, hroom, hcm, ?_, ?_⟩⟩, ⟨rfl, rfl, rfl, by simp, fun k _ hk => setRow_other w g k _ (fun e => hk (by simp [Value.ownBlock, e]))⟩⟩
      · simp only [List.size_toArray, List.length_append, List.length_take, List.length_drop, Array.length_toList]
        omega
      · rw [Nat.mul_one] at htake
        rw [htake, ← hlen]
        exact List.take_left
    · have holds : ∀ j u, xs[j]? = some u → w.cell? ((⟨g, 0, none⟩ : Addr).add j) = some u := hown.cells (g := g) rfl
      have hf := run_firstCells_some (P := Try.prog) w.drew i.size n ⟨g, 0, none⟩ n cap xs (by rw [hown.1, hsz]) (fun j u hj => by simpa using holds j u hj)
      have hr := Lib.run_append_grow_zeros (P := Try.prog) w 22 3 ty 3 i _ .i64 .i64 Try.underlying22 Try.underlying3 hi hz (some ⟨g, 0, none⟩) n cap xs hf k hk (by omega) (by omega) (by omega) (by rw [hby]; omega) (by rw [hby]; exact growslice_fits (by omega) (by omega))
      rw [hza] at hr
      have hgr := grown cap (by omega) (Value.ownBlock (.slice (some ⟨g, 0, none⟩) n cap))
      exact ⟨_, _, hr, hgr.1, hgr.2⟩
theorem zeros_own (w : World) (base : Nat) (ty : TypeId) (v : Value) (l : List Int) (h : OwI w base v l) (k : Nat) (hk : 0 < k) (hl : l.length + k ≤ 1000000) (hbase : base ≤ w.heap.size) :
    ∃ v' w', (Builtin.append_ #[22, 3] ty #[v, .int .i64 k]).run Try.prog w = .ok v' w' ∧ OwI w' base v' (l ++ List.replicate k 0) ∧ w.grownBy w' v.ownBlock := by
  have ho := Kd.own_of_R h.out
  obtain ⟨v', w', h1, h2, h3⟩ := run_zeros_own w base ty v l.length _ ho k hk hl hbase
  refine ⟨v', w', h1, ⟨Kd.R_of_own (by simpa [nums, encs] using h2) (fun _ _ => trivial)⟩, h3⟩
end Go.Proofs.Ytmaoadlighjkpaa.In
