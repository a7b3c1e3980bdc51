/- The tuple: a key of nine numbers; intern.key. -/
import Derived.Test.YtmaoadlighjkpaaMap
import Derived.Test.YtmaoadlighjkpaaCa
import Derived.DeepKeys4
import Derived.Laws.CopyOwn
import Derived.Laws.Rows
import Derived.Laws.Tables
import Derived.Deep.MidRow
namespace Go.Proofs.Ytmaoadlighjkpaa.In
open Go.RowKit Go.Proofs.YtmaoadlighjkpaaW.PrintWords Go.Proofs.YtmaoadlighjkpaaW.PrintLast Go.Proofs.YtmaoadlighjkpaaW.PrintMore
open Go.Proofs.Ytmaoadlighjkpaa.Base Go.Proofs.Ytmaoadlighjkpaa.Map Go.Proofs.Ytmaoadlighjkpaa.Ca Go.Maps
set_option linter.unusedVariables false

/-- eight numbers: those of ns ahead, noughts behind -/
def pad8 (ns : List Int) : List Int := ns.take 8 ++ List.replicate (8 - ns.length) 0
/-- a tuple's nine numbers -/
def tupN (ns : List Int) : List Int := (ns.length : Int) :: pad8 ns
def tupC (ns : List Int) : List Value := nums .i64 (tupN ns)
theorem pad8_len (ns : List Int) : (pad8 ns).length = 8 := by simp [pad8]; omega
theorem tupN_len (ns : List Int) : (tupN ns).length = 9 := by simp [tupN, pad8_len]
theorem tupC_len (ns : List Int) : (tupC ns).length = 9 := by simp [tupC, nums, tupN_len]
def tupV (ns : List Int) : Value := .agg (tupC ns).toArray
/-- short enough, and numbers of an int -/
def tOk (ns : List Int) : Prop := ns.length ≤ 8 ∧ ∀ x ∈ ns, (Lit.int .i64 x).wf = true
theorem tupN_inj {a b : List Int} (ha : a.length ≤ 8) (hb : b.length ≤ 8) (h : tupN a = tupN b) : a = b := by
  simp only [tupN, List.cons.injEq, Int.natCast_inj, pad8] at h
  obtain ⟨h1, h2⟩ := h
  have e1 := congrArg (List.take a.length) h2
  rw [List.take_of_length_le ha, List.take_of_length_le hb] at e1
  simpa [List.take_append_of_le_length, h1] using e1
theorem tupN_wf {ns : List Int} (h : tOk ns) : ∀ x ∈ tupN ns, (Lit.int .i64 x).wf = true := by
  intro x hx
  simp only [tupN, pad8, List.mem_cons, List.mem_append, List.mem_replicate] at hx
  rcases hx with rfl | hx | ⟨_, rfl⟩
  · exact WalkArith.wf_i64 (by have := h.1; omega)
  · exact h.2 x (List.mem_of_mem_take hx)
  · decide

/-! the key's law -/
theorem size3i : (Try.prog.info? 3).map (·.size) = some 1 := by
  obtain ⟨i0, hi, hs⟩ := i3
  rw [hi, Option.map_some, hs]
theorem info122 : (Try.prog.info? 122).map (fun i => (i.zero, i.size, i.bytes)) = some (some (.agg #[.int .i64 0, .int .i64 0, .int .i64 0, .int .i64 0, .int .i64 0, .int .i64 0, .int .i64 0, .int .i64 0, .int .i64 0]), 9, 72) := by kernel_rfl
theorem laidOutI : laidOutB Try.prog = true := by kernel_rfl
theorem row122 : (122 : TypeId) < Try.prog.types.size := of_decide_eq_true (by kernel_rfl)
set_option maxRecDepth 100000 in
theorem wide122 : (match Try.prog.underlying 122 with | some (.array _ _) | some (.struct _) => true | _ => false) = true := by kernel_rfl
set_option maxRecDepth 100000 in
theorem law122 : Keyed Try.prog 122 := Keyed.of_law (deep_law_laid laidOutI (m := 3) (by omega) row122 (by kernel_rfl) wide122)

theorem keyType122 : Try.prog.keyType 122 = true := by kernel_rfl
theorem cells122 : Try.prog.cellsOf 122 = 9 := by kernel_rfl
theorem cells120 : Try.prog.cellsOf 120 = 8 := by kernel_rfl
theorem cells3 : Try.prog.cellsOf 3 = 1 := by kernel_rfl
theorem size3 : ∃ m, Try.prog.types.size + 1 = m + 3 := ⟨Try.prog.types.size - 2, by have h : (122 : Nat) < Try.prog.types.size := row122; omega⟩
theorem tup_list (ns : List Int) : ∃ x0 x1 x2 x3 x4 x5 x6 x7 x8, tupN ns = [x0, x1, x2, x3, x4, x5, x6, x7, x8] := by
  match h : tupN ns, tupN_len ns with
  | [x0, x1, x2, x3, x4, x5, x6, x7, x8], _ => exact ⟨x0, x1, x2, x3, x4, x5, x6, x7, x8, rfl⟩
theorem tup_key {ns : List Int} (h : tOk ns) : ∃ kl, keyOf Try.prog 122 (tupV ns) = some kl := by
  have hw := tupN_wf h
  unfold tupV tupC
  obtain ⟨x0, x1, x2, x3, x4, x5, x6, x7, x8, e⟩ := tup_list ns
  rw [e] at hw ⊢
  obtain ⟨m, hm⟩ := size3
  have w0 := hw x0 (by simp); have w1 := hw x1 (by simp); have w2 := hw x2 (by simp); have w3 := hw x3 (by simp); have w4 := hw x4 (by simp)
  have w5 := hw x5 (by simp); have w6 := hw x6 (by simp); have w7 := hw x7 (by simp); have w8 := hw x8 (by simp)
  unfold keyOf
  simp only [Try.underlying122]
  rw [if_pos (by simp [keyType122, Value.formed, Try.underlying122, cells122, nums]), hm]
  refine Option.isSome_iff_exists.1 ?_
  rw [Option.isSome_map]
  unfold Program.keyLits
  simp only [Try.underlying122, Value.cells, nums]
  rw [if_pos (by simp [cells122])]
  rw [Option.isSome_map]
  simp only [List.mapM_cons, List.mapM_nil, cells3, cells120]
  unfold Program.keyLits
  simp only [Try.underlying3, Try.underlying120, cells3, cells120]
  simp [w0, show List.range 8 = [0, 1, 2, 3, 4, 5, 6, 7] from rfl, Program.keyLits, Try.underlying3, w1, w2, w3, w4, w5, w6, w7, w8]
open Classical in
noncomputable def tupK (ns : List Int) : Lit := (keyOf Try.prog 122 (tupV ns)).getD (.bool false)
theorem tupK_key {ns : List Int} (h : tOk ns) : keyOf Try.prog 122 (tupV ns) = some (tupK ns) := by
  obtain ⟨kl, hk⟩ := tup_key h
  unfold tupK; rw [hk]; rfl
theorem tupK_inj {a b : List Int} (ha : tOk a) (hb : tOk b) (h : tupK a = tupK b) : a = b := by
  have kb := tupK_key hb
  rw [← h] at kb
  have e := law122.inj (tupK_key ha) kb
  have e2 : nums .i64 (tupN a) = nums .i64 (tupN b) := by
    have e3 : (tupC a).toArray = (tupC b).toArray := Value.agg.inj e
    have e4 := congrArg Array.toList e3
    exact e4
  refine tupN_inj ha.1 hb.1 ?_
  have := congrArg (List.map fun v => match v with | .int _ x => x | _ => 0) e2
  simpa [nums, Function.comp_def] using this

theorem results_cell_tmp {fn : Func} {p t2 : Tmp} {ty : TypeId} (h : fn.results = #[.cell p ty, .tmp t2]) (tmps : Array Value) (w : World) (g : Nat) (cs : Array Value)
    (hp : tmps.getD p undef = .pointer (some ⟨g, 0, none⟩)) (hl : (loadVar ty ⟨g, 0, none⟩).run Try.prog w = .ok (.agg cs) w) :
    (results fn tmps).run Try.prog w = .ok (.tuple #[.agg cs, tmps.getD t2 undef]) w := by
  have hp' : tmps[p]?.getD undef = .pointer (some ⟨g, 0, none⟩) := by simpa using hp
  simp [results, h, hp', asAddr, hl]
theorem size122 : (Try.prog.info? 122).map (·.size) = some 9 := by
  obtain ⟨i0, hi, hzz⟩ := Option.map_eq_some_iff.1 info122
  simp only [Prod.mk.injEq] at hzz
  rw [hi, Option.map_some, hzz.2.1]
theorem nums_one (l : List Int) : ∀ v ∈ nums .i64 l, v.oneCell' = true := by
  intro v hv
  obtain ⟨x, _, rfl⟩ := List.mem_map.1 hv
  rfl
/-- what copy lays over the noughts -/
theorem splice_tup (ns : List Int) : splice [Value.int .i64 ns.length, .int .i64 0, .int .i64 0, .int .i64 0, .int .i64 0, .int .i64 0, .int .i64 0, .int .i64 0, .int .i64 0] 1 (nums .i64 (ns.take 8)) = tupC ns := by
  rw [show ([Value.int .i64 ns.length, .int .i64 0, .int .i64 0, .int .i64 0, .int .i64 0, .int .i64 0, .int .i64 0, .int .i64 0, .int .i64 0] : List Value) = Value.int .i64 ns.length :: nums .i64 (List.replicate 8 0) from rfl]
  simp only [splice, tupC, tupN, pad8, nums, List.map_cons, List.map_append, List.map_take, List.map_replicate]
  have : (List.take 8 (List.map (Value.int .i64) ns)).length = min 8 ns.length := by simp
  simp only [this, List.take_succ_cons, List.take_zero, List.cons_append, List.nil_append]
  rw [show 1 + min 8 ns.length = min 8 ns.length + 1 by omega, List.drop_succ_cons, List.drop_replicate, show 8 - min 8 ns.length = 8 - ns.length by omega]

set_option maxHeartbeats 1000000 in
set_option maxRecDepth 100000 in
theorem key_any (u : Value) (ns : List Int) (w : World) (hu : RdV w u ns) :
    Calls Try.prog 75 #[u] w fun e w' => e = .returned (.tuple #[tupV ns, .bool (decide (ns.length ≤ 8))]) ∧ Below w.heap.size w w' := by
  obtain ⟨A, c, rfl, hc, hr⟩ := hu
  have hmax := hr.max
  obtain ⟨m, hm⟩ : ∃ m, min 8 ns.length = m := ⟨_, rfl⟩
  have hm2 : (nums .i64 (ns.take 8)).length = m := by rw [← hm]; simp [nums]
  have he : ((m : Int) == (ns.length : Int)) = decide (ns.length ≤ 8) := by
    rw [Bool.eq_iff_iff]; simp; omega
  have hsrc : ∀ W, RdI W A ns → 0 < (nums .i64 (ns.take 8)).length → ∃ ad, A = some ad ∧ ∀ j v, (nums .i64 (ns.take 8))[j]? = some v → W.cell? (ad.add j) = some v := by
    intro W hW h0
    have h1 : 0 < ns.length := by rw [hm2] at h0; omega
    obtain ⟨ad, hA, _⟩ := hW.at_ 0 (by omega) (by omega)
    refine ⟨ad, hA, fun j v hj => ?_⟩
    have hjl := (List.getElem?_eq_some_iff.1 hj).1
    rw [hm2] at hjl
    obtain ⟨ad2, hA2, hx⟩ := hW.at_ j (by omega) (by omega)
    rw [hA] at hA2
    cases hA2
    have e1 : v = .int .i64 (rd ns j) := by
      have : ns[j]? = some (rd ns j) := by simp [rd, show j < ns.length by omega]
      simp only [nums, List.getElem?_map, List.getElem?_take_of_lt (show j < 8 by omega), this] at hj
      simpa using hj.symm
    rw [e1]
    simpa using hx
  have Hsrc := Aside0.mk hsrc
  have He := Aside0.mk he
  have Hm := Aside0.mk hm
  have Hm2 := Aside0.mk hm2
  clear hsrc he hm hm2
  go_enter Try.func75, Try.ntmps75
  go_wp2_with (first | ((with_reducible refine gate_dst (N := 12) rfl ?_); refine wpList_copy_splice rfl (.tmp 10) (.tmp 11) 22 22 rfl 3 Try.underlying22 size3i _ _ _ _ _ _ rfl rfl (w.heap.size + 1) 1 [Value.int .i64 ns.length, .int .i64 0, .int .i64 0, .int .i64 0, .int .i64 0, .int .i64 0, .int .i64 0, .int .i64 0, .int .i64 0] 122 ?hg (nums .i64 (ns.take 8)) ?hn ?hpos ?hfit ?h1 (w.heap.size + 1) (w.alloc (.cells #[Value.int .i64 0, .int .i64 0, .int .i64 0, .int .i64 0, .int .i64 0, .int .i64 0, .int .i64 0, .int .i64 0, .int .i64 0] 122)) ?hb ?hBg ?_))
  case hg => simpa using heap_alloc2_new w _ _
  case hn => rw [Hm2.out, ← Hm.out, Nat.min_comm]
  case hpos =>
    intro h0
    obtain ⟨ad, hA, hj⟩ := Hsrc.out _ ((hr.alloc _).alloc _) h0
    first | exact ⟨rfl, ad, hA, hj⟩ | exact ⟨ad, hA, hj⟩
  case hfit => rw [Hm2.out, ← Hm.out]; simp; omega
  case h1 => exact nums_one _
  case hb => exact (below_alloc (Below.refl _ _) _).mono (by simp)
  case hBg => omega
  intro w3 hg3 hB3
  have hg : w3.heap[w.heap.size + 1]? = some (.cells (tupC ns).toArray 122 (0, 0)) := by rw [← splice_tup]; exact hg3
  rw [Hm2.out]
  have he := He.out
  have hs : (Try.prog.info? 122).map (·.size) = some (tupC ns).toArray.size := by simp [tupC_len, size122]
  have h0 : ∃ old : Array Value, w3.heap[w.heap.size]? = some (.cells old 122 (0, 0)) ∧ old.size = 9 := ⟨_, (hB3.block w.heap.size (by omega)).trans (heap_alloc_new w _), rfl⟩
  have hbw : Below w.heap.size w w3 := (below_alloc (Below.refl w.heap.size w) _).trans (hB3.mono (by omega))
  obtain ⟨old, ho, ho9⟩ := h0
  have hos : old.size = (tupC ns).toArray.size := by rw [ho9]; simp [tupC_len]
  have Hal := Aside0.mk (all_oneCell_toArray (nums_one (tupN ns)))
  have Hos := Aside0.mk hos
  have Hg := Aside0.mk hg
  have Ho := Aside0.mk ho
  have Hs := Aside0.mk hs
  clear ho ho9 hos
  clear hg hg3 hs
  go_wp2_with (first | ((with_reducible refine gate_dst (N := 16) rfl ?_); refine wpList_load_row rfl 122 (.tmp 4) rfl (w.heap.size + 1) rfl 122 _ (0, 0) _ Hg.out Try.underlying122 rfl Hs.out ?_) | ((with_reducible refine gate_store (t := 122) (p := 2) rfl ?_); refine wpList_store_row rfl 122 (.tmp 2) (.tmp 16) rfl w.heap.size (tupC ns).toArray rfl rfl 122 old Ho.out Hs.out Hos.out Hal.out ?_))
  refine bodyPost_ret (results_cell_tmp rfl _ _ w.heap.size (tupC ns).toArray rfl (run_loadVar_row _ _ 122 122 _ (0, 0) _ (setRow_heap w3 _ old _ 122 _ Ho.out) Try.underlying122 rfl Hs.out)) rfl ?_
  exact ⟨rfl, below_setRow hbw (Nat.le_refl _) _⟩
end Go.Proofs.Ytmaoadlighjkpaa.In
