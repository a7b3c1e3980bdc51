/- Ia, Ib, Ic, Id, Ik, Il -/
import Derived.Test.YtkbbliicijnpjaaDoorMap
import Derived.Test.YtkbbliicijnpjaaDoorCc
import Derived.DeepKeys4
import Derived.Laws.CopyOwn
import Derived.Laws.Rows
import Derived.Laws.Tables
import Derived.Deep.MidRow
import Derived.Test.YtkbbliicijnpjaaDoorQd
/- Ia: The tuple: a key of nine numbers; intern.key. -/
section
namespace Go.Proofs.YtkbbliicijnpjaaDoor.In
open Go.RowKit Go.Proofs.YtkbbliicijnpjaaDoorW.PrintWords Go.Proofs.YtkbbliicijnpjaaDoorW.PrintLast Go.Proofs.YtkbbliicijnpjaaDoorW.PrintMore
open Go.Proofs.YtkbbliicijnpjaaDoor.Base Go.Proofs.YtkbbliicijnpjaaDoor.Map Go.Proofs.YtkbbliicijnpjaaDoor.Ca Go.Maps
set_option linter.unusedVariables false

/-- eight numbers: those of ns ahead, noughts behind -/
def pad8 (ns : List Int) : List Int := ns.take 8 ++ List.replicate (8 - ns.length) 0
/-- a tuple's nine numbers -/
def tupN (ns : List Int) : List Int := (ns.length : Int) :: pad8 ns
def tupC (ns : List Int) : List Value := nums .i64 (tupN ns)
theorem pad8_len (ns : List Int) : (pad8 ns).length = 8 := by simp [pad8]; omega
theorem tupN_len (ns : List Int) : (tupN ns).length = 9 := by simp [tupN, pad8_len]
theorem tupC_len (ns : List Int) : (tupC ns).length = 9 := by simp [tupC, nums, tupN_len]
def tupV (ns : List Int) : Value := .agg (tupC ns).toArray
/-- short enough, and numbers of an int -/
def tOk (ns : List Int) : Prop := ns.length ≤ 8 ∧ ∀ x ∈ ns, (Lit.int .i64 x).wf = true
theorem tupN_inj {a b : List Int} (ha : a.length ≤ 8) (hb : b.length ≤ 8) (h : tupN a = tupN b) : a = b := by
  simp only [tupN, List.cons.injEq, Int.natCast_inj, pad8] at h
  obtain ⟨h1, h2⟩ := h
  have e1 := congrArg (List.take a.length) h2
  rw [List.take_of_length_le ha, List.take_of_length_le hb] at e1
  simpa [List.take_append_of_le_length, h1] using e1
theorem tupN_wf {ns : List Int} (h : tOk ns) : ∀ x ∈ tupN ns, (Lit.int .i64 x).wf = true := by
  intro x hx
  simp only [tupN, pad8, List.mem_cons, List.mem_append, List.mem_replicate] at hx
  rcases hx with rfl | hx | ⟨_, rfl⟩
  · exact WalkArith.wf_i64 (by have := h.1; omega)
  · exact h.2 x (List.mem_of_mem_take hx)
  · decide

/-! the key's law -/
theorem size3i : (Tryd.prog.info? 3).map (·.size) = some 1 := by
  obtain ⟨i0, hi, hs⟩ := i3
  rw [hi, Option.map_some, hs]
theorem info122 : (Tryd.prog.info? 122).map (fun i => (i.zero, i.size, i.bytes)) = some (some (.agg #[.int .i64 0, .int .i64 0, .int .i64 0, .int .i64 0, .int .i64 0, .int .i64 0, .int .i64 0, .int .i64 0, .int .i64 0]), 9, 72) := by kernel_rfl
theorem laidOutI : laidOutB Tryd.prog = true := by kernel_rfl
theorem row122 : (122 : TypeId) < Tryd.prog.types.size := of_decide_eq_true (by kernel_rfl)
set_option maxRecDepth 100000 in
theorem wide122 : (match Tryd.prog.underlying 122 with | some (.array _ _) | some (.struct _) => true | _ => false) = true := by kernel_rfl
set_option maxRecDepth 100000 in
theorem law122 : Keyed Tryd.prog 122 := Keyed.of_law (deep_law_laid laidOutI (m := 3) (by omega) row122 (by kernel_rfl) wide122)

theorem keyType122 : Tryd.prog.keyType 122 = true := by kernel_rfl
theorem cells122 : Tryd.prog.cellsOf 122 = 9 := by kernel_rfl
theorem cells120 : Tryd.prog.cellsOf 120 = 8 := by kernel_rfl
theorem cells3 : Tryd.prog.cellsOf 3 = 1 := by kernel_rfl
theorem size3 : ∃ m, Tryd.prog.types.size + 1 = m + 3 := ⟨Tryd.prog.types.size - 2, by have h : (122 : Nat) < Tryd.prog.types.size := row122; omega⟩
theorem tup_list (ns : List Int) : ∃ x0 x1 x2 x3 x4 x5 x6 x7 x8, tupN ns = [x0, x1, x2, x3, x4, x5, x6, x7, x8] := by
  match h : tupN ns, tupN_len ns with
  | [x0, x1, x2, x3, x4, x5, x6, x7, x8], _ => exact ⟨x0, x1, x2, x3, x4, x5, x6, x7, x8, rfl⟩
theorem tup_key {ns : List Int} (h : tOk ns) : ∃ kl, keyOf Tryd.prog 122 (tupV ns) = some kl := by
  have hw := tupN_wf h
  unfold tupV tupC
  obtain ⟨x0, x1, x2, x3, x4, x5, x6, x7, x8, e⟩ := tup_list ns
  rw [e] at hw ⊢
  obtain ⟨m, hm⟩ := size3
  have w0 := hw x0 (by simp); have w1 := hw x1 (by simp); have w2 := hw x2 (by simp); have w3 := hw x3 (by simp); have w4 := hw x4 (by simp)
  have w5 := hw x5 (by simp); have w6 := hw x6 (by simp); have w7 := hw x7 (by simp); have w8 := hw x8 (by simp)
  unfold keyOf
  simp only [Tryd.underlying122]
  rw [if_pos (by simp [keyType122, Value.formed, Tryd.underlying122, cells122, nums]), hm]
  refine Option.isSome_iff_exists.1 ?_
  rw [Option.isSome_map]
  unfold Program.keyLits
  simp only [Tryd.underlying122, Value.cells, nums]
  rw [if_pos (by simp [cells122])]
  rw [Option.isSome_map]
  simp only [List.mapM_cons, List.mapM_nil, cells3, cells120]
  unfold Program.keyLits
  simp only [Tryd.underlying3, Tryd.underlying120, cells3, cells120]
  simp [w0, show List.range 8 = [0, 1, 2, 3, 4, 5, 6, 7] from rfl, Program.keyLits, Tryd.underlying3, w1, w2, w3, w4, w5, w6, w7, w8]
open Classical in
noncomputable def tupK (ns : List Int) : Lit := (keyOf Tryd.prog 122 (tupV ns)).getD (.bool false)
theorem tupK_key {ns : List Int} (h : tOk ns) : keyOf Tryd.prog 122 (tupV ns) = some (tupK ns) := by
  obtain ⟨kl, hk⟩ := tup_key h
  unfold tupK; rw [hk]; rfl
theorem tupK_inj {a b : List Int} (ha : tOk a) (hb : tOk b) (h : tupK a = tupK b) : a = b := by
  have kb := tupK_key hb
  rw [← h] at kb
  have e := law122.inj (tupK_key ha) kb
  have e2 : nums .i64 (tupN a) = nums .i64 (tupN b) := by
    have e3 : (tupC a).toArray = (tupC b).toArray := Value.agg.inj e
    have e4 := congrArg Array.toList e3
    exact e4
  refine tupN_inj ha.1 hb.1 ?_
  have := congrArg (List.map fun v => match v with | .int _ x => x | _ => 0) e2
  simpa [nums, Function.comp_def] using this

theorem results_cell_tmp {fn : Func} {p t2 : Tmp} {ty : TypeId} (h : fn.results = #[.cell p ty, .tmp t2]) (tmps : Array Value) (w : World) (g : Nat) (cs : Array Value)
    (hp : tmps.getD p undef = .pointer (some ⟨g, 0, none⟩)) (hl : (loadVar ty ⟨g, 0, none⟩).run Tryd.prog w = .ok (.agg cs) w) :
    (results fn tmps).run Tryd.prog w = .ok (.tuple #[.agg cs, tmps.getD t2 undef]) w := by
  have hp' : tmps[p]?.getD undef = .pointer (some ⟨g, 0, none⟩) := by simpa using hp
  simp [results, h, hp', asAddr, hl]
theorem size122 : (Tryd.prog.info? 122).map (·.size) = some 9 := by
  obtain ⟨i0, hi, hzz⟩ := Option.map_eq_some_iff.1 info122
  simp only [Prod.mk.injEq] at hzz
  rw [hi, Option.map_some, hzz.2.1]
theorem nums_one (l : List Int) : ∀ v ∈ nums .i64 l, v.oneCell' = true := by
  intro v hv
  obtain ⟨x, _, rfl⟩ := List.mem_map.1 hv
  rfl
/-- what copy lays over the noughts -/
theorem splice_tup (ns : List Int) : splice [Value.int .i64 ns.length, .int .i64 0, .int .i64 0, .int .i64 0, .int .i64 0, .int .i64 0, .int .i64 0, .int .i64 0, .int .i64 0] 1 (nums .i64 (ns.take 8)) = tupC ns := by
  rw [show ([Value.int .i64 ns.length, .int .i64 0, .int .i64 0, .int .i64 0, .int .i64 0, .int .i64 0, .int .i64 0, .int .i64 0, .int .i64 0] : List Value) = Value.int .i64 ns.length :: nums .i64 (List.replicate 8 0) from rfl]
  simp only [splice, tupC, tupN, pad8, nums, List.map_cons, List.map_append, List.map_take, List.map_replicate]
  have : (List.take 8 (List.map (Value.int .i64) ns)).length = min 8 ns.length := by simp
  simp only [this, List.take_succ_cons, List.take_zero, List.cons_append, List.nil_append]
  rw [show 1 + min 8 ns.length = min 8 ns.length + 1 by omega, List.drop_succ_cons, List.drop_replicate, show 8 - min 8 ns.length = 8 - ns.length by omega]

set_option maxHeartbeats 1000000 in
set_option maxRecDepth 100000 in
theorem key_any (u : Value) (ns : List Int) (w : World) (hu : RdV w u ns) :
    Calls Tryd.prog 75 #[u] w fun e w' => e = .returned (.tuple #[tupV ns, .bool (decide (ns.length ≤ 8))]) ∧ Below w.heap.size w w' := by
  obtain ⟨A, c, rfl, hc, hr⟩ := hu
  have hmax := hr.max
  obtain ⟨m, hm⟩ : ∃ m, min 8 ns.length = m := ⟨_, rfl⟩
  have hm2 : (nums .i64 (ns.take 8)).length = m := by rw [← hm]; simp [nums]
  have he : ((m : Int) == (ns.length : Int)) = decide (ns.length ≤ 8) := by
    rw [Bool.eq_iff_iff]; simp; omega
  have hsrc : ∀ W, RdI W A ns → 0 < (nums .i64 (ns.take 8)).length → ∃ ad, A = some ad ∧ ∀ j v, (nums .i64 (ns.take 8))[j]? = some v → W.cell? (ad.add j) = some v := by
    intro W hW h0
    have h1 : 0 < ns.length := by rw [hm2] at h0; omega
    obtain ⟨ad, hA, _⟩ := hW.at_ 0 (by omega) (by omega)
    refine ⟨ad, hA, fun j v hj => ?_⟩
    have hjl := (List.getElem?_eq_some_iff.1 hj).1
    rw [hm2] at hjl
    obtain ⟨ad2, hA2, hx⟩ := hW.at_ j (by omega) (by omega)
    rw [hA] at hA2
    cases hA2
    have e1 : v = .int .i64 (rd ns j) := by
      have : ns[j]? = some (rd ns j) := by simp [rd, show j < ns.length by omega]
      simp only [nums, List.getElem?_map, List.getElem?_take_of_lt (show j < 8 by omega), this] at hj
      simpa using hj.symm
    rw [e1]
    simpa using hx
  have Hsrc := Aside0.mk hsrc
  have He := Aside0.mk he
  have Hm := Aside0.mk hm
  have Hm2 := Aside0.mk hm2
  clear hsrc he hm hm2
  go_enter Tryd.func75, Tryd.ntmps75
  go_wp2_with (first | ((with_reducible refine gate_dst (N := 12) rfl ?_); refine wpList_copy_splice rfl (.tmp 10) (.tmp 11) 34 34 rfl 3 Tryd.underlying34 size3i _ _ _ _ _ _ rfl rfl (w.heap.size + 1) 1 [Value.int .i64 ns.length, .int .i64 0, .int .i64 0, .int .i64 0, .int .i64 0, .int .i64 0, .int .i64 0, .int .i64 0, .int .i64 0] 122 ?hg (nums .i64 (ns.take 8)) ?hn ?hpos ?hfit ?h1 (w.heap.size + 1) (w.alloc (.cells #[Value.int .i64 0, .int .i64 0, .int .i64 0, .int .i64 0, .int .i64 0, .int .i64 0, .int .i64 0, .int .i64 0, .int .i64 0] 122)) ?hb ?hBg ?_))
  case hg => simpa using heap_alloc2_new w _ _
  case hn => rw [Hm2.out, ← Hm.out, Nat.min_comm]
  case hpos =>
    intro h0
    obtain ⟨ad, hA, hj⟩ := Hsrc.out _ ((hr.alloc _).alloc _) h0
    first | exact ⟨rfl, ad, hA, hj⟩ | exact ⟨ad, hA, hj⟩
  case hfit => rw [Hm2.out, ← Hm.out]; simp; omega
  case h1 => exact nums_one _
  case hb => exact (below_alloc (Below.refl _ _) _).mono (by simp)
  case hBg => omega
  intro w3 hg3 hB3
  have hg : w3.heap[w.heap.size + 1]? = some (.cells (tupC ns).toArray 122 (0, 0)) := by rw [← splice_tup]; exact hg3
  rw [Hm2.out]
  have he := He.out
  have hs : (Tryd.prog.info? 122).map (·.size) = some (tupC ns).toArray.size := by simp [tupC_len, size122]
  have h0 : ∃ old : Array Value, w3.heap[w.heap.size]? = some (.cells old 122 (0, 0)) ∧ old.size = 9 := ⟨_, (hB3.block w.heap.size (by omega)).trans (heap_alloc_new w _), rfl⟩
  have hbw : Below w.heap.size w w3 := (below_alloc (Below.refl w.heap.size w) _).trans (hB3.mono (by omega))
  obtain ⟨old, ho, ho9⟩ := h0
  have hos : old.size = (tupC ns).toArray.size := by rw [ho9]; simp [tupC_len]
  have Hal := Aside0.mk (all_oneCell_toArray (nums_one (tupN ns)))
  have Hos := Aside0.mk hos
  have Hg := Aside0.mk hg
  have Ho := Aside0.mk ho
  have Hs := Aside0.mk hs
  clear ho ho9 hos
  clear hg hg3 hs
  go_wp2_with (first | ((with_reducible refine gate_dst (N := 16) rfl ?_); refine wpList_load_row rfl 122 (.tmp 4) rfl (w.heap.size + 1) rfl 122 _ (0, 0) _ Hg.out Tryd.underlying122 rfl Hs.out ?_) | ((with_reducible refine gate_store (t := 122) (p := 2) rfl ?_); refine wpList_store_row rfl 122 (.tmp 2) (.tmp 16) rfl w.heap.size (tupC ns).toArray rfl rfl 122 old Ho.out Hs.out Hos.out Hal.out ?_))
  refine bodyPost_ret (results_cell_tmp rfl _ _ w.heap.size (tupC ns).toArray rfl (run_loadVar_row _ _ 122 122 _ (0, 0) _ (setRow_heap w3 _ old _ 122 _ Ho.out) Tryd.underlying122 rfl Hs.out)) rfl ?_
  exact ⟨rfl, below_setRow hbw (Nat.le_refl _) _⟩
end Go.Proofs.YtkbbliicijnpjaaDoor.In
end

/- Ib: intern.Table: what it holds; New, Len, Id. -/
section
namespace Go.Proofs.YtkbbliicijnpjaaDoor.In
open Go.RowKit Go.Proofs.YtkbbliicijnpjaaDoorW.PrintWords Go.Proofs.YtkbbliicijnpjaaDoorW.PrintLast Go.Proofs.YtkbbliicijnpjaaDoorW.PrintMore
open Go.Proofs.YtkbbliicijnpjaaDoor.Base Go.Proofs.YtkbbliicijnpjaaDoor.Map Go.Proofs.YtkbbliicijnpjaaDoor.Ca Go.Proofs.YtkbbliicijnpjaaDoor.Qu Go.Maps
set_option linter.unusedVariables false

section
variable {P : Program} {k : TypeId} {w : World} {ops : Array Oper} {o : Oper} {a : Act} {Q : Exit → Act → World → Prop} {Kc : Act → World → Prop}
theorem store_step (hw : Region.wanted o (yielded ops a.tmps) = true) (m x v : Operand) (t e : TypeId) (hop : o.op = Op.mapUpdate t m x v) {b n : Nat} {f : Lit → Option Value} (hM : MapP P k w b f n) (K : Keyed P k) (ht : P.underlying t = some (.map k e)) (hn : n < maxLen)
    (hm : a.eval m = .map (some b)) {key val : Value} (hx : a.eval x = key) (hv : a.eval v = val) {kl : Lit} (hkey : keyOf P k key = some kl)
    (hK : ∀ w', MapP P k w' b (upd f kl (some val)) (if (f kl).isSome then n else n + 1) → w.grownBy w' (some b) → Kc (a.put o.dst undef) w') :
    if Region.wanted o (yielded ops a.tmps) = true then Oper.wp P o a w Kc Q else Kc (a.put o.dst undef) w := by
  rw [if_pos hw]
  obtain ⟨w', hrun, r1, r2⟩ := hM.store (val := val) K ht hn hkey
  unfold Oper.wp
  simp [execOp, hop, hm, hx, hv, hrun, Result.andThen]
  exact hK w' r1 r2
end

theorem chg_cell {F : Nat → Prop} {w w1 : World} {b o : Nat} {v : Value} (h : Chg F w w1) (hn : ¬ F b) (hc : w.cell? ⟨b, o, none⟩ = some v) : w1.cell? ⟨b, o, none⟩ = some v := by
  have hl := block_lt_of_cell hc
  have e := h.block b hl hn
  unfold World.cell? at hc ⊢
  rw [e]; exact hc
@[simp] theorem chg_drew {F : Nat → Prop} {w w1 : World} (h : Chg F w w1) : Chg F w w1.drew := h.andBelow (below_drew (Below.refl _ _))
@[simp] theorem chg_drewN {F : Nat → Prop} {w w1 : World} (h : Chg F w w1) (n : Nat) : Chg F w (w1.drewN n) := h.andBelow (pw_below_drewN (Below.refl _ _) n)

/-- a tuple in a row -/
def kT : Kd (List Int) where
  sz := 9
  E := []
  K := fun _ ns cs => cs = tupC ns ∧ tOk ns
  M := fun _ _ _ ns cs => cs = tupC ns ∧ tOk ns
  K_len := fun h => by rw [h.1]; exact tupC_len _
  K_one := fun h u hu => by rw [h.1] at hu; exact nums_one _ u hu
  K_below := fun _ h => h
  K_of_M := fun h => h
  M_mono := fun _ h => h
  M_bound := fun h => h
  M_move := fun _ h => h
  M_lower := fun _ h => h

section
variable {ops : Array Oper} {o : Oper} {a : Act} {Q : Exit → Act → World → Prop} {Kc : Act → World → Prop}
theorem tupApp_step {W : World} (hw : Region.wanted o (yielded ops a.tmps) = true) (s x : Operand)
    (ho : o.op = .call { callee := .builtin .append, args := #[s, x], argTypes := #[117, 117] }) (v : Value) (F : Nat → Prop) (tl : List (List Int)) (ns : List Int) (b : Nat) (cs : Array Value)
    (hs : a.eval s = v) (hx : a.eval x = .slice (some ⟨b, 0, none⟩) 1 1) (HS : Kd.R kT 122 W 0 F v tl) (hb : W.heap[b]? = some (.cells cs 122 (0, 0))) (hcs : (tupC ns).toArray = cs) (hok : tOk ns) (hl : tl.length ≤ 1000000)
    (h : ∀ v1 w1, Kd.R kT 122 w1 0 (ext F W w1) v1 (tl ++ [ns]) → Chg F W w1 → W.grownBy w1 v.ownBlock → Kc (a.put o.dst v1) w1) :
    if Region.wanted o (yielded ops a.tmps) = true then Oper.wp Tryd.prog o a W Kc Q else Kc (a.put o.dst undef) W := by
  subst hcs
  have HS' : Kd.R kT 122 W 0 (fun k => F k ∨ W.heap.size ≤ k) v tl := Kd.R_mono HS (fun k hk => .inl hk)
  refine Kd.R_append_rows_step kT (Rr := fun ns cs => cs = tupC ns ∧ tOk ns) (w0 := W) 0 hw s x 117 122 _ 72 ho Tryd.underlying117 info122 rfl (by decide) (by decide) v tl [ns] (some ⟨b, 0, none⟩) 1 1 (fun k => F k ∨ W.heap.size ≤ k) (fun _ => False) hs hx HS'
    ⟨rfl, by omega, fun _ => ⟨_, rfl, fun j p hj => ⟨tupC ns, tupC_len ns, ?_, fun i u hu => ?_⟩⟩⟩ (fun _ _ hk => hk) (fun _ hk => hk.elim) (fun k hk => .inr hk) (Below.refl _ _) (Nat.zero_le _) (by omega) ?_
  · have : p = ns := by
      have : j = 0 := by have := (List.getElem?_eq_some_iff.1 hj).1; simp at this; omega
      subst this; simpa using hj.symm
    subst this; exact ⟨rfl, hok⟩
  · have : j = 0 := by have := (List.getElem?_eq_some_iff.1 hj).1; simp at this; omega
    subst this
    have hadd : (⟨b, 0, none⟩ : Addr).add (0 * kT.sz + i) = ⟨b, i, none⟩ := by unfold Addr.add; split <;> simp_all
    rw [hadd, cell_of_row W b i _ 122 (0, 0) hb]
    simpa using hu
  · intro v1 w1 hR hB hg hat
    exact h v1 w1 (Kd.R_mono (Kd.R_bound hR) (fun k hk => hk.1.elim .inl (fun h => .inr ⟨h, hk.2.2.1⟩))) (Chg.of_grown hg (fun k hk => HS.1 k hk)) hg
end

/-- a row stands when a map has been written -/
theorem R_off {α : Type} {d : Kd α} {e : Nat} {w w1 : World} {F : Nat → Prop} {v : Value} {xs : List α} {m : Nat} {es : Array MapEntry} {c : Nat} (h : Kd.R d e w 0 F v xs) (hC : Chg (fun k => k = m) w w1) (hm : w.heap[m]? = some (.map es c)) : Kd.R d e w1 0 F v xs :=
  Kd.R_mono (Kd.R_step (Kd.R_bound h) (fun k hk hlt => hC.block k hlt (fun e => by obtain ⟨_, _, _, q, _, cells, hc⟩ := hk; subst e; rw [hm] at hc; cases hc))) (fun k hk => hk.1)
/-- a map stands when a row has been written -/
theorem MapP_off {k : TypeId} {w w1 : World} {b n : Nat} {f : Lit → Option Value} {α : Type} {d : Kd α} {e base : Nat} {F : Nat → Prop} {v : Value} {xs : List α} (h : MapP Tryd.prog k w b f n) (hv : Kd.R d e w base F v xs) (hg : w.grownBy w1 v.ownBlock) : MapP Tryd.prog k w1 b f n := by
  obtain ⟨es, c, hb⟩ := h.at_block
  refine h.move (hg.block b h.lt (fun he => ?_))
  obtain ⟨inner, ho⟩ := Kd.R_own hv
  obtain ⟨cells, hc⟩ := own_typed ho b he.symm
  rw [hb] at hc; cases hc

/-- where x stands first (the list's length, if nowhere) -/
def place {α : Type} [DecidableEq α] (l : List α) (x : α) : Nat := l.idxOf x
theorem place_new {α : Type} [DecidableEq α] {l : List α} {x : α} (h : x ∉ l) : place l x = l.length := List.idxOf_eq_length h
theorem place_lt {α : Type} [DecidableEq α] {l : List α} {x : α} (h : x ∈ l) : place l x < l.length := List.idxOf_lt_length_of_mem h
/-- a map that gives each of a list's its place -/
def Dict {α : Type} [DecidableEq α] (ok : α → Prop) (lit : α → Lit) (f : Lit → Option Value) (l : List α) : Prop :=
  ∀ x, ok x → f (lit x) = if x ∈ l then some (.int .i64 (place l x : Int)) else none
theorem Dict.nil {α : Type} [DecidableEq α] (ok : α → Prop) (lit : α → Lit) : Dict ok lit (fun _ => none) [] := fun x _ => by simp
theorem Dict.snoc {α : Type} [DecidableEq α] {ok : α → Prop} {lit : α → Lit} {f : Lit → Option Value} {l : List α} {x : α} (h : Dict ok lit f l) (hinj : ∀ a b, ok a → ok b → lit a = lit b → a = b) (hx : ok x) (hn : x ∉ l) :
    Dict ok lit (upd f (lit x) (some (.int .i64 (l.length : Int)))) (l ++ [x]) := by
  intro y hy
  unfold place
  by_cases e : y = x
  · subst e
    rw [upd_same, if_pos (by simp), List.idxOf_append, if_neg hn]; simp
  · rw [upd_other _ (fun he => e (hinj y x hy hx he)), h y hy]
    unfold place
    by_cases hm : y ∈ l
    · rw [if_pos hm, if_pos (by simp [hm]), List.idxOf_append, if_pos hm]
    · rw [if_neg hm, if_neg (by simp [hm, e])]

def strLit (s : ByteArray) : Lit := .string s.data.toList
def sOk (s : ByteArray) : Prop := s.size ≤ maxLen

/-- The table in block p: its texts, its tuples; F: its blocks. -/
structure TabAt (w : World) (F : Nat → Prop) (p : Nat) (sl : List ByteArray) (tl : List (List Int)) : Prop where
  mk :: (out : ∃ (vt vs : Value) (mw mi : Nat) (fw fi : Lit → Option Value),
    w.heap[p]? = some (.cells #[.map (some mw), vt, .map (some mi), vs] 119 (0, 0)) ∧ Kd.R Kd.string 9 w 0 F vt sl ∧ Kd.R kT 122 w 0 F vs tl ∧
    MapP Tryd.prog 9 w mw fw sl.length ∧ MapP Tryd.prog 122 w mi fi tl.length ∧ (F p ∧ F mw ∧ F mi ∧ mw ≠ mi) ∧ Dict sOk strLit fw sl ∧ Dict tOk tupK fi tl)
theorem TabAt.below {w w1 : World} {F : Nat → Prop} {p : Nat} {sl : List ByteArray} {tl : List (List Int)} (h : TabAt w F p sl tl) (hb : Below w.heap.size w w1) : TabAt w1 F p sl tl := by
  obtain ⟨vt, vs, mw, mi, fw, fi, h1, h2, h3, h4, h5, h6⟩ := h
  exact ⟨vt, vs, mw, mi, fw, fi, Qu.blk_below h1 hb, Kd.R_below h2 hb, Kd.R_below h3 hb, h4.below hb, h5.below hb, h6⟩
theorem TabAt.mono {w : World} {F F' : Nat → Prop} {p : Nat} {sl : List ByteArray} {tl : List (List Int)} (h : TabAt w F p sl tl) (hF : ∀ k, F k → F' k) : TabAt w F' p sl tl := by
  obtain ⟨vt, vs, mw, mi, fw, fi, h1, h2, h3, h4, h5, h6, h7⟩ := h
  exact ⟨vt, vs, mw, mi, fw, fi, h1, Kd.R_mono h2 hF, Kd.R_mono h3 hF, h4, h5, ⟨hF _ h6.1, hF _ h6.2.1, hF _ h6.2.2.1, h6.2.2.2⟩, h7⟩

theorem new_tab (w : World) : Calls Tryd.prog 53 #[] w fun e w' => e = .returned (.pointer (some ⟨w.heap.size + 2, 0, none⟩)) ∧ TabAt w' (fun k => w.heap.size ≤ k ∧ k < w'.heap.size) (w.heap.size + 2) [] [] ∧ Below w.heap.size w w' :=
  (internNew_any w).mono fun e w' ⟨h1, h2⟩ => by
    subst h2
    refine ⟨h1, ⟨.slice none 0 0, .slice none 0 0, w.heap.size, w.heap.size + 1, fun _ => none, fun _ => none, ?_, Kd.R_nil _ _ _ _ _, Kd.R_nil _ _ _ _ _, ?_, ?_, ?_, Dict.nil _ _, Dict.nil _ _⟩, ?_⟩
    · unfold internW; simpa using heap_alloc_new ((w.alloc (.map #[] 0)).alloc (.map #[] 0)) _
    · unfold internW; exact ((MapP.made w Tryd.prog 9).below (below_alloc (Below.refl _ _) _)).below (below_alloc (Below.refl _ _) _)
    · unfold internW
      have := (MapP.made (w.alloc (.map #[] 0)) Tryd.prog 122).below (below_alloc (Below.refl _ _) (.cells #[.map (some w.heap.size), .slice none 0 0, .map (some (w.heap.size + 1)), .slice none 0 0] 119))
      simpa using this
    · unfold internW; simp; omega
    · unfold internW; exact below_alloc (below_alloc (below_alloc (Below.refl _ _) _) _) _

end Go.Proofs.YtkbbliicijnpjaaDoor.In
end

/- Ic: intern.Table: Id. -/
section
namespace Go.Proofs.YtkbbliicijnpjaaDoor.In
open Go.RowKit Go.Proofs.YtkbbliicijnpjaaDoorW.PrintWords Go.Proofs.YtkbbliicijnpjaaDoorW.PrintLast Go.Proofs.YtkbbliicijnpjaaDoorW.PrintMore
open Go.Proofs.YtkbbliicijnpjaaDoor.Base Go.Proofs.YtkbbliicijnpjaaDoor.Map Go.Proofs.YtkbbliicijnpjaaDoor.Ca Go.Proofs.YtkbbliicijnpjaaDoor.Qu Go.Maps
set_option linter.unusedVariables false

def idOf (tl : List (List Int)) (ns : List Int) : Int := if 8 < ns.length then -1 else (place tl ns : Int)
def idL (tl : List (List Int)) (ns : List Int) : List (List Int) := if 8 < ns.length ∨ ns ∈ tl then tl else tl ++ [ns]
theorem zero3 (w : World) : (zeroValue 3).run Tryd.prog w = .ok (.int .i64 0) w := by kernel_rfl
theorem tup_size (ns : List Int) : (Tryd.prog.info? 122).map (·.size) = some (tupC ns).toArray.size := by simp [tupC_len, size122]
theorem tup_all (ns : List Int) : (tupC ns).toArray.all (·.oneCell') = true := all_oneCell_toArray (nums_one (tupN ns))

theorem tup_cells (ns : List Int) : ∃ x0 x1 x2 x3 x4 x5 x6 x7 x8 : Int, (tupC ns).toArray = #[Value.int .i64 x0, .int .i64 x1, .int .i64 x2, .int .i64 x3, .int .i64 x4, .int .i64 x5, .int .i64 x6, .int .i64 x7, .int .i64 x8] := by
  obtain ⟨x0, x1, x2, x3, x4, x5, x6, x7, x8, h⟩ := tup_list ns
  exact ⟨x0, x1, x2, x3, x4, x5, x6, x7, x8, by unfold tupC; rw [h]; rfl⟩

set_option maxHeartbeats 1000000 in
set_option maxRecDepth 100000 in
theorem id_long (p : Nat) (F : Nat → Prop) (sl : List ByteArray) (tl : List (List Int)) (u : Value) (ns : List Int) (w : World) (h : TabAt w F p sl tl) (hu : RdV w u ns) (h8 : 8 < ns.length) :
    Calls Tryd.prog 54 #[.pointer (some ⟨p, 0, none⟩), u] w fun e w' => e = .returned (.int .i64 (-1)) ∧ TabAt w' F p sl tl ∧ Below w.heap.size w w' := by
  have g1 : decide (ns.length ≤ 8) = false := decide_eq_false (by omega)
  obtain ⟨x0, x1, x2, x3, x4, x5, x6, x7, x8, hx⟩ := tup_cells ns
  have Hx := Aside0.mk hx
  clear hx
  go_enter Tryd.func54, Tryd.ntmps54
  go_wp2_with fail
  refine (key_any u ns w hu).mono ?_
  rintro e w1 ⟨rfl, h1⟩
  rw [g1]
  unfold tupV
  rw [Hx.out]
  have ht1 := h.below h1
  go_wp2
  go_ret
  exact ⟨rfl, ht1.below (below_alloc (Below.refl _ _) _), bel_trans h1 (below_alloc (Below.refl _ _) _)⟩

set_option maxHeartbeats 1000000 in
set_option maxRecDepth 100000 in
theorem id_old (p : Nat) (F : Nat → Prop) (sl : List ByteArray) (tl : List (List Int)) (u : Value) (ns : List Int) (w : World) (h : TabAt w F p sl tl) (hu : RdV w u ns) (h8 : tOk ns) (hm : ns ∈ tl) :
    Calls Tryd.prog 54 #[.pointer (some ⟨p, 0, none⟩), u] w fun e w' => e = .returned (.int .i64 (place tl ns : Int)) ∧ TabAt w' F p sl tl ∧ Below w.heap.size w w' := by
  have g1 : decide (ns.length ≤ 8) = true := decide_eq_true h8.1
  obtain ⟨x0, x1, x2, x3, x4, x5, x6, x7, x8, hx⟩ := tup_cells ns
  have Hx := Aside0.mk hx
  have hkey := tupK_key h8
  unfold tupV at hkey
  rw [hx] at hkey
  have Hkey := Aside0.mk hkey
  clear hx hkey
  go_enter Tryd.func54, Tryd.ntmps54
  go_wp2_with fail
  refine (key_any u ns w hu).mono ?_
  rintro e w1 ⟨rfl, h1⟩
  rw [g1]
  unfold tupV
  rw [Hx.out]
  have ht1 := h.below (below_then h1 h1.size (below_alloc (Below.refl w1.heap.size w1) (.cells #[.int .i64 x0, .int .i64 x1, .int .i64 x2, .int .i64 x3, .int .i64 x4, .int .i64 x5, .int .i64 x6, .int .i64 x7, .int .i64 x8] 122)))
  have htt := ht1
  obtain ⟨vt, vs, mw, mi, fw, fi, hb, _, _, _, hM, _, _, hD⟩ := htt
  have c2 := blk_cell hb 2
  have hf := hD ns h8
  rw [if_pos hm] at hf
  have hr : (fi (tupK ns)).getD (.int .i64 0) = .int .i64 (place tl ns : Int) := by rw [hf]; rfl
  have ho : (fi (tupK ns)).isSome = true := by rw [hf]; rfl
  have hrun : ∀ n, (Instr.lookup 116 (.map (some mi)) (.agg #[.int .i64 x0, .int .i64 x1, .int .i64 x2, .int .i64 x3, .int .i64 x4, .int .i64 x5, .int .i64 x6, .int .i64 x7, .int .i64 x8]) true).run Tryd.prog ((w1.alloc (.cells #[.int .i64 x0, .int .i64 x1, .int .i64 x2, .int .i64 x3, .int .i64 x4, .int .i64 x5, .int .i64 x6, .int .i64 x7, .int .i64 x8] 122)).drewN n) = .ok (.tuple #[.int .i64 (place tl ns : Int), .bool true]) ((w1.alloc (.cells #[.int .i64 x0, .int .i64 x1, .int .i64 x2, .int .i64 x3, .int .i64 x4, .int .i64 x5, .int .i64 x6, .int .i64 x7, .int .i64 x8] 122)).drewN n) := fun n => by
    have := (hM.below (pw_below_drewN (Below.refl _ _) n)).look_ok law122 Tryd.underlying116 (zero3 _) Hkey.out
    rw [hr, ho] at this
    exact this
  clear hr ho hf hD
  go_wp2_with fail
  go_quiet (fail)
  go_wp2
  go_ret
  exact ⟨rfl, ht1.below (pw_below_drewN (Below.refl _ _) _), bel_trans h1 (pw_below_drewN (below_alloc (Below.refl _ _) _) _)⟩

theorem tab_pushed {w W w2 Wx w3 : World} {F : Nat → Prop} {p mw mi : Nat} {fw fi : Lit → Option Value} {vt vs v3 : Value} {sl : List ByteArray} {tl : List (List Int)} {ns : List Int} {es : Array MapEntry} {ck : Nat}
    (hbw : Below w.heap.size w W) (hb : W.heap[p]? = some (.cells #[.map (some mw), vt, .map (some mi), vs] 119 (0, 0))) (hT : Kd.R Kd.string 9 W 0 F vt sl) (hS : Kd.R kT 122 W 0 F vs tl)
    (hMw : MapP Tryd.prog 9 W mw fw sl.length) (hmi : W.heap[mi]? = some (.map es ck)) (hF : F p ∧ F mw ∧ F mi ∧ mw ≠ mi) (hDw : Dict sOk strLit fw sl) (hD : Dict tOk tupK fi tl)
    (hC2 : Chg (fun k => k = mi) W w2) (hM2 : MapP Tryd.prog 122 w2 mi (upd fi (tupK ns) (some (.int .i64 (tl.length : Int)))) (tl.length + 1)) (hbx : Below w2.heap.size w2 Wx)
    (hR3 : Kd.R kT 122 w3 0 (ext F Wx w3) v3 (tl ++ [ns])) (hC3 : Chg F Wx w3) (hg3 : Wx.grownBy w3 vs.ownBlock) (hok : tOk ns) (hn : ns ∉ tl) :
    TabAt (w3.setCell ⟨p, 3, none⟩ v3) (ext F w (w3.setCell ⟨p, 3, none⟩ v3)) p sl (tl ++ [ns]) ∧ Chg F w (w3.setCell ⟨p, 3, none⟩ v3) := by
  have np : ¬ p = mi := fun e => by rw [e, hmi] at hb; cases hb
  have hb2 := hC2.blk hb np
  have hbxx := Qu.blk_below hb2 hbx
  have hSx := Kd.R_below (R_off hS hC2 hmi) hbx
  have hTx := Kd.R_below (R_off hT hC2 hmi) hbx
  have hb3 := blk_grown hbxx hg3 (Kd.R_ne hSx hbxx (by decide))
  have hT3 := Kd.R_over hTx hSx (fun q hq => by rcases List.mem_cons.1 hq with rfl | hq; decide; cases hq) hg3
  have hT4 := Kd.R_set hT3 hb3 (fun q hq => by rcases List.mem_cons.1 hq with rfl | hq; decide; cases hq) 3 v3
  have hR4 := Kd.R_set hR3 hb3 (fun q hq => by rcases List.mem_cons.1 hq with rfl | hq; decide; cases hq) 3 v3
  have hsz : (w3.setCell ⟨p, 3, none⟩ v3).heap.size = w3.heap.size := by simp [World.setCell]
  have offp : ∀ m n k f, MapP Tryd.prog k w3 m f n → MapP Tryd.prog k (w3.setCell ⟨p, 3, none⟩ v3) m f n := fun m n k f h => by
    obtain ⟨es', c', hm'⟩ := h.at_block
    refine h.move (Below.heap_setCell w3 ⟨p, 3, none⟩ v3 m (fun e => ?_))
    have e' : m = p := e
    rw [e', hb3] at hm'; cases hm'
  have hMw4 := offp _ _ _ _ (MapP_off ((hMw.chg hC2 hF.2.2.2).below hbx) hSx hg3)
  have hMi4 := offp _ _ _ _ (MapP_off (hM2.below hbx) hSx hg3)
  have hC : Chg F w (w3.setCell ⟨p, 3, none⟩ v3) := by
    have c1 : Chg F w W := Chg.of_below hbw F
    have c2 := c1.then_ (hC2.mono (F' := F) (fun k _ hk => hk ▸ hF.2.2.1)) (fun k hk => .inl hk)
    have c3 := (c2.andBelow hbx).then_ hC3 (fun k hk => .inl hk)
    exact c3.then_ (Chg.setCell w3 (p := ⟨p, 3, none⟩) hF.1 v3) (fun k hk => .inl hk)
  refine ⟨⟨vt, v3, mw, mi, fw, _, blk_set hb3 3 v3, Kd.R_mono hT4 (fun k hk => .inl hk), Kd.R_mono hR4 (fun k hk => ?_), hMw4, by simpa using hMi4, ⟨.inl hF.1, .inl hF.2.1, .inl hF.2.2.1, hF.2.2.2⟩, hDw, hD.snoc (fun a b => tupK_inj) hok hn⟩, hC⟩
  rcases hk with hk | hk
  · exact .inl hk
  · exact .inr ⟨Nat.le_trans hbw.size (Nat.le_trans hC2.size (Nat.le_trans hbx.size hk.1)), hsz ▸ hk.2⟩

set_option maxHeartbeats 2000000 in
set_option maxRecDepth 100000 in
theorem id_new (p : Nat) (F : Nat → Prop) (sl : List ByteArray) (tl : List (List Int)) (u : Value) (ns : List Int) (w : World) (h : TabAt w F p sl tl) (hu : RdV w u ns) (h8 : tOk ns) (hm : ns ∉ tl) (hlen : tl.length ≤ 1000000) :
    Calls Tryd.prog 54 #[.pointer (some ⟨p, 0, none⟩), u] w fun e w' => e = .returned (.int .i64 (tl.length : Int)) ∧ TabAt w' (ext F w w') p sl (tl ++ [ns]) ∧ Chg F w w' := by
  have g1 : decide (ns.length ≤ 8) = true := decide_eq_true h8.1
  obtain ⟨x0, x1, x2, x3, x4, x5, x6, x7, x8, hx⟩ := tup_cells ns
  have Hx := Aside0.mk hx
  have hkey := tupK_key h8
  unfold tupV at hkey
  rw [hx] at hkey
  have Hkey := Aside0.mk hkey
  clear hx hkey
  go_enter Tryd.func54, Tryd.ntmps54
  go_wp2_with fail
  refine (key_any u ns w hu).mono ?_
  rintro e w1 ⟨rfl, h1⟩
  rw [g1]
  unfold tupV
  rw [Hx.out]
  have ht1 := h.below (below_then h1 h1.size (below_alloc (Below.refl w1.heap.size w1) (.cells #[.int .i64 x0, .int .i64 x1, .int .i64 x2, .int .i64 x3, .int .i64 x4, .int .i64 x5, .int .i64 x6, .int .i64 x7, .int .i64 x8] 122)))
  have htt := ht1
  obtain ⟨vt, vs, mw, mi, fw, fi, hb, hT, hS, hMw, hM, hFF, hDw, hD⟩ := htt
  obtain ⟨A, c, rfl, _⟩ := Kd.R_reads hS
  have c2 := blk_cell hb 2
  have hf := hD ns h8
  rw [if_neg hm] at hf
  have hr : (fi (tupK ns)).getD (.int .i64 0) = .int .i64 0 := by rw [hf]; rfl
  have ho : (fi (tupK ns)).isSome = false := by rw [hf]; rfl
  have hrun : ∀ n, (Instr.lookup 116 (.map (some mi)) (.agg #[.int .i64 x0, .int .i64 x1, .int .i64 x2, .int .i64 x3, .int .i64 x4, .int .i64 x5, .int .i64 x6, .int .i64 x7, .int .i64 x8]) true).run Tryd.prog ((w1.alloc (.cells #[.int .i64 x0, .int .i64 x1, .int .i64 x2, .int .i64 x3, .int .i64 x4, .int .i64 x5, .int .i64 x6, .int .i64 x7, .int .i64 x8] 122)).drewN n) = .ok (.tuple #[.int .i64 0, .bool false]) ((w1.alloc (.cells #[.int .i64 x0, .int .i64 x1, .int .i64 x2, .int .i64 x3, .int .i64 x4, .int .i64 x5, .int .i64 x6, .int .i64 x7, .int .i64 x8] 122)).drewN n) := fun n => by
    have := (hM.below (pw_below_drewN (Below.refl _ _) n)).look_ok law122 Tryd.underlying116 (zero3 _) Hkey.out
    rw [hr, ho] at this
    exact this
  have Ho := Aside0.mk ho
  have HD := Aside0.mk hD
  have HDw := Aside0.mk hDw
  clear hr ho hf hD hDw
  go_wp2_with fail
  go_quiet (fail)
  have hbw : Below w1.heap.size w1 ((w1.alloc (.cells #[.int .i64 x0, .int .i64 x1, .int .i64 x2, .int .i64 x3, .int .i64 x4, .int .i64 x5, .int .i64 x6, .int .i64 x7, .int .i64 x8] 122)).drewN nq) := pw_below_drewN (below_alloc (Below.refl _ _) _) _
  have hcells : (fun W => W.cell? ⟨w1.heap.size, 0, none⟩ = some (.int .i64 x0) ∧ W.cell? ⟨w1.heap.size, 1, none⟩ = some (.int .i64 x1) ∧ W.cell? ⟨w1.heap.size, 2, none⟩ = some (.int .i64 x2) ∧ W.cell? ⟨w1.heap.size, 3, none⟩ = some (.int .i64 x3) ∧ W.cell? ⟨w1.heap.size, 4, none⟩ = some (.int .i64 x4) ∧ W.cell? ⟨w1.heap.size, 5, none⟩ = some (.int .i64 x5) ∧ W.cell? ⟨w1.heap.size, 6, none⟩ = some (.int .i64 x6) ∧ W.cell? ⟨w1.heap.size, 7, none⟩ = some (.int .i64 x7) ∧ W.cell? ⟨w1.heap.size, 8, none⟩ = some (.int .i64 x8)) ((w1.alloc (.cells #[.int .i64 x0, .int .i64 x1, .int .i64 x2, .int .i64 x3, .int .i64 x4, .int .i64 x5, .int .i64 x6, .int .i64 x7, .int .i64 x8] 122)).drewN nq) := by simp
  have hrest := pw_below_drewN (Below.refl (w1.alloc (.cells #[.int .i64 x0, .int .i64 x1, .int .i64 x2, .int .i64 x3, .int .i64 x4, .int .i64 x5, .int .i64 x6, .int .i64 x7, .int .i64 x8] 122)).heap.size (w1.alloc (.cells #[.int .i64 x0, .int .i64 x1, .int .i64 x2, .int .i64 x3, .int .i64 x4, .int .i64 x5, .int .i64 x6, .int .i64 x7, .int .i64 x8] 122))) nq
  have hb := Qu.blk_below hb hrest
  have hT := Kd.R_below hT hrest
  have hS := Kd.R_below hS hrest
  have hMw := hMw.below hrest
  have hM := hM.below hrest
  have hsz : w1.heap.size < ((w1.alloc (.cells #[.int .i64 x0, .int .i64 x1, .int .i64 x2, .int .i64 x3, .int .i64 x4, .int .i64 x5, .int .i64 x6, .int .i64 x7, .int .i64 x8] 122)).drewN nq).heap.size := by simp
  clear hrun c2 ht1 hrest
  have HBW := Aside0.mk (below_then h1 h1.size hbw)
  generalize (w1.alloc (.cells #[.int .i64 x0, .int .i64 x1, .int .i64 x2, .int .i64 x3, .int .i64 x4, .int .i64 x5, .int .i64 x6, .int .i64 x7, .int .i64 x8] 122)).drewN nq = W at *
  obtain ⟨k0, k1, k2, k3, k4, k5, k6, k7, k8⟩ := hcells
  have c2 := blk_cell hb 2
  have c3 := blk_cell hb 3
  have Hb := Aside0.mk hb
  have HT := Aside0.mk hT
  have HS := Aside0.mk hS
  have HMw := Aside0.mk hMw
  have HM := Aside0.mk hM
  clear hb hT hS hMw hM
  go_wp2_with fail
  have hCW := Chg.refl (fun k => k = mi) W
  obtain ⟨es, ck, hmi⟩ := HM.out.at_block
  have np : ¬ p = mi := fun e => by have := Hb.out; rw [e, hmi] at this; cases this
  have nb : ¬ w1.heap.size = mi := fun e => by unfold World.cell? at k0; rw [e] at k0; simp [hmi] at k0
  have Hmi := Aside0.mk hmi
  clear hmi
  obtain ⟨w2, hst, hM2, hg2⟩ := (HM.out.below (below_drew (Below.refl W.heap.size W))).store (val := .int .i64 (tl.length : Int)) law122 Tryd.underlying116 (by unfold maxLen; omega) Hkey.out
  rw [Ho.out] at hM2
  have HM2 := Aside0.mk hM2
  have hC2 : Chg (fun k => k = mi) W w2 := (chg_drew (Chg.refl _ W)).then_ (Chg.of_grown hg2 (fun k hk => by cases hk; rfl)) (fun k hk => .inl hk)
  clear hM2 hg2
  go_region_held3 (fun W' => W'.cell? ⟨p, 2, none⟩ = some (.map (some mi)) ∧ W'.cell? ⟨w1.heap.size, 0, none⟩ = some (.int .i64 x0) ∧ W'.cell? ⟨w1.heap.size, 1, none⟩ = some (.int .i64 x1) ∧ W'.cell? ⟨w1.heap.size, 2, none⟩ = some (.int .i64 x2) ∧ W'.cell? ⟨w1.heap.size, 3, none⟩ = some (.int .i64 x3) ∧ W'.cell? ⟨w1.heap.size, 4, none⟩ = some (.int .i64 x4) ∧ W'.cell? ⟨w1.heap.size, 5, none⟩ = some (.int .i64 x5) ∧ W'.cell? ⟨w1.heap.size, 6, none⟩ = some (.int .i64 x6) ∧ W'.cell? ⟨w1.heap.size, 7, none⟩ = some (.int .i64 x7) ∧ W'.cell? ⟨w1.heap.size, 8, none⟩ = some (.int .i64 x8) ∧ Chg (fun k => k = mi) W W')
   (refine ⟨chg_cell (F := fun k => k = mi) (w := W) ?_ np c2, chg_cell (F := fun k => k = mi) (w := W) ?_ nb k0, chg_cell (F := fun k => k = mi) (w := W) ?_ nb k1, chg_cell (F := fun k => k = mi) (w := W) ?_ nb k2, chg_cell (F := fun k => k = mi) (w := W) ?_ nb k3, chg_cell (F := fun k => k = mi) (w := W) ?_ nb k4, chg_cell (F := fun k => k = mi) (w := W) ?_ nb k5, chg_cell (F := fun k => k = mi) (w := W) ?_ nb k6, chg_cell (F := fun k => k = mi) (w := W) ?_ nb k7, chg_cell (F := fun k => k = mi) (w := W) ?_ nb k8, ?_⟩ <;> simp [*])
   (first | (fail))
  rename_i hheld
  clear c2 k0 k1 k2 k3 k4 k5 k6 k7 k8
  obtain ⟨_, k0, k1, k2, k3, k4, k5, k6, k7, k8, _⟩ := hheld
  have hb2 := hC2.blk Hb.out np
  have HS2 := Aside0.mk (R_off HS.out hC2 Hmi.out)
  have HT2 := Aside0.mk (R_off HT.out hC2 Hmi.out)
  have c3 := blk_cell hb2 3
  have z3 := blk_frozen hb2 3
  have Hb2 := Aside0.mk hb2
  have HC2 := Aside0.mk hC2
  clear hC2 hb2 hCW hst
  go_wp2_with fail
  have hbx : Below w2.heap.size w2 ((w2.alloc (.cells #[.int .i64 x0, .int .i64 x1, .int .i64 x2, .int .i64 x3, .int .i64 x4, .int .i64 x5, .int .i64 x6, .int .i64 x7, .int .i64 x8] 122)).drew) := by simp [Below.refl]
  have Hbx := Aside0.mk hbx
  have c3a : (w2.alloc (.cells #[.int .i64 x0, .int .i64 x1, .int .i64 x2, .int .i64 x3, .int .i64 x4, .int .i64 x5, .int .i64 x6, .int .i64 x7, .int .i64 x8] 122)).cell? ⟨p, 3, none⟩ = some (.slice A tl.length c) := bel_cell (below_alloc (Below.refl _ _) _) c3
  clear hbx
  go_region_law (refine tupApp_step (by rfl) (.tmp 42) (.tmp 44) (by rfl) (.slice A tl.length c) F tl ns w2.heap.size #[.int .i64 x0, .int .i64 x1, .int .i64 x2, .int .i64 x3, .int .i64 x4, .int .i64 x5, .int .i64 x6, .int .i64 x7, .int .i64 x8] (by rfl) (by rfl) (Kd.R_below HS2.out Hbx.out) (heap_alloc_new _ _) Hx.out h8 hlen ?_; intro v3 w3 hR3 hC3 hg3; obtain ⟨A3, c3', hv3, _, _⟩ := Kd.R_reads hR3; obtain ⟨n3, hn3⟩ : ∃ n, (tl ++ [ns]).length = n := ⟨_, rfl⟩; rw [hn3] at hv3; subst hv3; have hbb := Qu.blk_below Hb2.out Hbx.out; have hne := Kd.R_ne (g := p) (Kd.R_below HS2.out Hbx.out) hbb (by decide); have hb3 := Aside0.mk (blk_grown hbb hg3 hne); have z3' : w3.frozen? ⟨p, 3, none⟩ = false := blk_frozen hb3.out 3; have e3 : w3.cell? ⟨p, 3, none⟩ = some (.slice A tl.length c) := blk_cell hb3.out 3; have HR3 := Aside0.mk hR3; have HC3 := Aside0.mk hC3; have Hg3 := Aside0.mk hg3; clear hR3 hC3 hg3 hbb hne hn3)
  all_goals (go_wp2; go_ret; exact ⟨rfl, tab_pushed HBW.out Hb.out HT.out HS.out HMw.out Hmi.out hFF HDw.out HD.out HC2.out HM2.out Hbx.out HR3.out HC3.out Hg3.out h8 hm⟩)
end Go.Proofs.YtkbbliicijnpjaaDoor.In
end

/- Id: A table beside nothing else, as the laws use it; the example of the layer. -/
section
namespace Go.Proofs.YtkbbliicijnpjaaDoor.In
open Go.RowKit Go.Proofs.YtkbbliicijnpjaaDoorW.PrintWords Go.Proofs.YtkbbliicijnpjaaDoorW.PrintLast Go.Proofs.YtkbbliicijnpjaaDoorW.PrintMore
open Go.Proofs.YtkbbliicijnpjaaDoor.Base Go.Proofs.YtkbbliicijnpjaaDoor.Map Go.Proofs.YtkbbliicijnpjaaDoor.Ca Go.Proofs.YtkbbliicijnpjaaDoor.Qu Go.Maps
set_option linter.unusedVariables false

theorem id_any (p : Nat) (F : Nat → Prop) (sl : List ByteArray) (tl : List (List Int)) (u : Value) (ns : List Int) (w : World) (h : TabAt w F p sl tl) (hu : RdV w u ns) (hw : ∀ x ∈ ns, (Lit.int .i64 x).wf = true) (hlen : tl.length ≤ 1000000) :
    Calls Tryd.prog 54 #[.pointer (some ⟨p, 0, none⟩), u] w fun e w' => e = .returned (.int .i64 (idOf tl ns)) ∧ TabAt w' (ext F w w') p sl (idL tl ns) ∧ Chg F w w' := by
  by_cases h8 : 8 < ns.length
  · refine (id_long p F sl tl u ns w h hu h8).mono ?_
    rintro e w' ⟨h1, h2, h3⟩
    unfold idOf idL
    rw [if_pos h8, if_pos (Or.inl h8)]
    exact ⟨h1, h2.mono (fun k hk => .inl hk), Chg.of_below h3 F⟩
  · have hok : tOk ns := ⟨by omega, hw⟩
    by_cases hm : ns ∈ tl
    · refine (id_old p F sl tl u ns w h hu hok hm).mono ?_
      rintro e w' ⟨h1, h2, h3⟩
      unfold idOf idL
      rw [if_neg h8, if_pos (Or.inr hm)]
      exact ⟨h1, h2.mono (fun k hk => .inl hk), Chg.of_below h3 F⟩
    · refine (id_new p F sl tl u ns w h hu hok hm hlen).mono ?_
      rintro e w' ⟨h1, h2, h3⟩
      unfold idOf idL
      rw [if_neg h8, if_neg (by rintro (h | h); exact h8 h; exact hm h)]
      refine ⟨?_, h2, h3⟩
      rw [h1, place_new hm]

/-- A table that the call has made since w0. -/
structure TSt (w0 w : World) (p : Nat) (sl : List ByteArray) (tl : List (List Int)) : Prop where mk :: (out : ∃ F, TabAt w F p sl tl ∧ (∀ k, F k → w0.heap.size ≤ k ∧ k < w.heap.size) ∧ Below w0.heap.size w0 w)
section
variable {w0 w w1 : World} {p : Nat} {sl : List ByteArray} {tl : List (List Int)}
theorem TSt.bel (h : TSt w0 w p sl tl) : Below w0.heap.size w0 w := by obtain ⟨F, _, _, h⟩ := h; exact h
theorem TSt.below (h : TSt w0 w p sl tl) (hb : Below w.heap.size w w1) : TSt w0 w1 p sl tl := by
  obtain ⟨F, h1, h2, h3⟩ := h
  exact ⟨F, h1.below hb, fun k hk => ⟨(h2 k hk).1, Nat.lt_of_lt_of_le (h2 k hk).2 hb.size⟩, below_then h3 h3.size hb⟩
@[simp] theorem TSt.alloc (h : TSt w0 w p sl tl) (o : Obj) : TSt w0 (w.alloc o) p sl tl := h.below (below_alloc (Below.refl _ _) o)
theorem TSt.ext_ {F : Nat → Prop} {sl' : List ByteArray} {tl' : List (List Int)} (h1 : TabAt w1 (ext F w w1) p sl' tl') (hC : Chg F w w1) (h2 : ∀ k, F k → w0.heap.size ≤ k ∧ k < w.heap.size) (h3 : Below w0.heap.size w0 w) : TSt w0 w1 p sl' tl' :=
  ⟨_, h1, fun k hk => hk.elim (fun h => ⟨(h2 k h).1, Nat.lt_of_lt_of_le (h2 k h).2 hC.size⟩) (fun h => ⟨Nat.le_trans h3.size h.1, h.2⟩), h3.trans (hC.below h3.size (fun k hk => (h2 k hk).1))⟩
end
theorem new_ts (w0 w : World) (hb : Below w0.heap.size w0 w) : Calls Tryd.prog 53 #[] w fun e w' => ∃ p, e = .returned (.pointer (some ⟨p, 0, none⟩)) ∧ TSt w0 w' p [] [] :=
  (new_tab w).mono fun e w' ⟨h1, h2, h3⟩ => ⟨_, h1, ⟨_, h2, fun k hk => ⟨Nat.le_trans hb.size hk.1, hk.2⟩, below_then hb hb.size h3⟩⟩
/-- ns read, whatever the table does besides: what is handed in is elder than w0, or the call's own -/
theorem id_ts (w0 w : World) (p : Nat) (sl : List ByteArray) (tl : List (List Int)) (u : Value) (ns : List Int) (h : TSt w0 w p sl tl) (hu : RdV w u ns) (hw : ∀ x ∈ ns, (Lit.int .i64 x).wf = true) (hlen : tl.length ≤ 1000000) :
    Calls Tryd.prog 54 #[.pointer (some ⟨p, 0, none⟩), u] w fun e w' => e = .returned (.int .i64 (idOf tl ns)) ∧ TSt w0 w' p sl (idL tl ns) := by
  obtain ⟨F, h1, h2, h3⟩ := h
  exact (id_any p F sl tl u ns w h1 hu hw hlen).mono fun e w' ⟨r1, r2, r3⟩ => ⟨r1, TSt.ext_ r2 r3 h2 h3⟩
/-- the same, and a slice that the call has made before it stands -/
theorem id_ts_keep (w0 w : World) (p : Nat) (sl : List ByteArray) (tl : List (List Int)) (u : Value) (ns : List Int) (h : TSt w0 w p sl tl) (hu : RdV w u ns) (hw : ∀ x ∈ ns, (Lit.int .i64 x).wf = true) (hlen : tl.length ≤ 1000000) :
    Calls Tryd.prog 54 #[.pointer (some ⟨p, 0, none⟩), u] w fun e w' => e = .returned (.int .i64 (idOf tl ns)) ∧ TSt w0 w' p sl (idL tl ns) ∧ Below w0.heap.size w0 w' := by
  exact (id_ts w0 w p sl tl u ns h hu hw hlen).mono fun e w' ⟨r1, r2⟩ => ⟨r1, r2, r2.bel⟩

theorem id_lit (w0 w : World) (p : Nat) (sl : List ByteArray) (tl : List (List Int)) (xs : List Int) (h : TSt w0 w p sl tl) (hw : ∀ x ∈ xs, (Lit.int .i64 x).wf = true) (hlen : tl.length ≤ 1000000) (hl : xs.length ≤ 1000) :
    Calls Tryd.prog 54 #[.pointer (some ⟨p, 0, none⟩), .slice (some ⟨w.heap.size, 0, none⟩) xs.length xs.length] (w.alloc (.cells (nums .i64 xs).toArray 3)) fun e w' => e = .returned (.int .i64 (idOf tl xs)) ∧ TSt w0 w' p sl (idL tl xs) :=
  id_ts w0 _ p sl tl _ xs (h.alloc _) (OwI.lit w xs (by omega)).toV hw hlen

end Go.Proofs.YtkbbliicijnpjaaDoor.In
end

/- Ik: intern.Table: Find. -/
section
namespace Go.Proofs.YtkbbliicijnpjaaDoor.In
open Go.RowKit Go.Proofs.YtkbbliicijnpjaaDoorW.PrintWords Go.Proofs.YtkbbliicijnpjaaDoorW.PrintLast Go.Proofs.YtkbbliicijnpjaaDoorW.PrintMore
open Go.Proofs.YtkbbliicijnpjaaDoor.Base Go.Proofs.YtkbbliicijnpjaaDoor.Map Go.Proofs.YtkbbliicijnpjaaDoor.Ca Go.Proofs.YtkbbliicijnpjaaDoor.Qu Go.Maps
set_option linter.unusedVariables false

/-- what Find says -/
def findOf (tl : List (List Int)) (ns : List Int) : Int × Bool := if ns.length ≤ 8 ∧ ns ∈ tl then ((place tl ns : Int), true) else (0, false)

set_option maxHeartbeats 1000000 in
set_option maxRecDepth 100000 in
theorem find_long (p : Nat) (F : Nat → Prop) (sl : List ByteArray) (tl : List (List Int)) (u : Value) (ns : List Int) (w : World) (h : TabAt w F p sl tl) (hu : RdV w u ns) (h8 : 8 < ns.length) :
    Calls Tryd.prog 60 #[.pointer (some ⟨p, 0, none⟩), u] w fun e w' => e = .returned (.tuple #[.int .i64 0, .bool false]) ∧ Below w.heap.size w w' := by
  have g1 : decide (ns.length ≤ 8) = false := decide_eq_false (by omega)
  obtain ⟨x0, x1, x2, x3, x4, x5, x6, x7, x8, hx⟩ := tup_cells ns
  have Hx := Aside0.mk hx
  clear hx
  go_enter Tryd.func60, Tryd.ntmps60
  go_wp2_with fail
  refine (key_any u ns w hu).mono ?_
  rintro e w1 ⟨rfl, h1⟩
  rw [g1]
  unfold tupV
  rw [Hx.out]
  go_wp2
  go_ret2
  exact ⟨rfl, bel_trans h1 (below_alloc (Below.refl _ _) _)⟩

set_option maxHeartbeats 1000000 in
set_option maxRecDepth 100000 in
theorem find_short (p : Nat) (F : Nat → Prop) (sl : List ByteArray) (tl : List (List Int)) (u : Value) (ns : List Int) (w : World) (h : TabAt w F p sl tl) (hu : RdV w u ns) (h8 : tOk ns) :
    Calls Tryd.prog 60 #[.pointer (some ⟨p, 0, none⟩), u] w fun e w' => e = .returned (.tuple #[.int .i64 (findOf tl ns).1, .bool (findOf tl ns).2]) ∧ Below w.heap.size w w' := by
  have g1 : decide (ns.length ≤ 8) = true := decide_eq_true h8.1
  obtain ⟨q, hq⟩ : ∃ q, findOf tl ns = q := ⟨_, rfl⟩
  rw [hq]
  have Hq := Aside0.mk hq
  clear hq
  obtain ⟨x0, x1, x2, x3, x4, x5, x6, x7, x8, hx⟩ := tup_cells ns
  have Hx := Aside0.mk hx
  have hkey := tupK_key h8
  unfold tupV at hkey
  rw [hx] at hkey
  have Hkey := Aside0.mk hkey
  clear hx hkey
  go_enter Tryd.func60, Tryd.ntmps60
  go_wp2_with fail
  refine (key_any u ns w hu).mono ?_
  rintro e w1 ⟨rfl, h1⟩
  rw [g1]
  unfold tupV
  rw [Hx.out]
  have ht1 := h.below (below_then h1 h1.size (below_alloc (Below.refl w1.heap.size w1) (.cells #[.int .i64 x0, .int .i64 x1, .int .i64 x2, .int .i64 x3, .int .i64 x4, .int .i64 x5, .int .i64 x6, .int .i64 x7, .int .i64 x8] 122)))
  obtain ⟨vt, vs, mw, mi, fw, fi, hb, _, _, _, hM, _, _, hD⟩ := ht1
  have c2 := blk_cell hb 2
  have hf := hD ns h8
  have hr : (fi (tupK ns)).getD (.int .i64 0) = .int .i64 q.1 := by
    rw [hf, ← Hq.out]; unfold findOf
    by_cases hm : ns ∈ tl
    · rw [if_pos hm, if_pos ⟨h8.1, hm⟩]; rfl
    · rw [if_neg hm, if_neg (fun h => hm h.2)]; rfl
  have ho : (fi (tupK ns)).isSome = q.2 := by
    rw [hf, ← Hq.out]; unfold findOf
    by_cases hm : ns ∈ tl
    · rw [if_pos hm, if_pos ⟨h8.1, hm⟩]; rfl
    · rw [if_neg hm, if_neg (fun h => hm h.2)]; rfl
  have hrun : ∀ n, (Instr.lookup 116 (.map (some mi)) (.agg #[.int .i64 x0, .int .i64 x1, .int .i64 x2, .int .i64 x3, .int .i64 x4, .int .i64 x5, .int .i64 x6, .int .i64 x7, .int .i64 x8]) true).run Tryd.prog ((w1.alloc (.cells #[.int .i64 x0, .int .i64 x1, .int .i64 x2, .int .i64 x3, .int .i64 x4, .int .i64 x5, .int .i64 x6, .int .i64 x7, .int .i64 x8] 122)).drewN n) = .ok (.tuple #[.int .i64 q.1, .bool q.2]) ((w1.alloc (.cells #[.int .i64 x0, .int .i64 x1, .int .i64 x2, .int .i64 x3, .int .i64 x4, .int .i64 x5, .int .i64 x6, .int .i64 x7, .int .i64 x8] 122)).drewN n) := fun n => by
    have := (hM.below (pw_below_drewN (Below.refl _ _) n)).look_ok law122 Tryd.underlying116 (zero3 _) Hkey.out
    rw [hr, ho] at this
    exact this
  clear hr ho hf hD
  go_wp2_with fail
  go_quiet (fail)
  go_wp2
  go_ret2
  exact ⟨rfl, bel_trans h1 (pw_below_drewN (below_alloc (Below.refl _ _) _) _)⟩

theorem find_any (p : Nat) (F : Nat → Prop) (sl : List ByteArray) (tl : List (List Int)) (u : Value) (ns : List Int) (w : World) (h : TabAt w F p sl tl) (hu : RdV w u ns) (hw : ∀ x ∈ ns, (Lit.int .i64 x).wf = true) :
    Calls Tryd.prog 60 #[.pointer (some ⟨p, 0, none⟩), u] w fun e w' => e = .returned (.tuple #[.int .i64 (findOf tl ns).1, .bool (findOf tl ns).2]) ∧ Below w.heap.size w w' := by
  by_cases h8 : 8 < ns.length
  · have : findOf tl ns = (0, false) := by unfold findOf; rw [if_neg (fun h => by omega)]
    rw [this]
    exact find_long p F sl tl u ns w h hu h8
  · exact find_short p F sl tl u ns w h hu ⟨by omega, hw⟩
end Go.Proofs.YtkbbliicijnpjaaDoor.In
end

/- Il: intern.Table: Tuple. -/
section
namespace Go.Proofs.YtkbbliicijnpjaaDoor.In
open Go.RowKit Go.Proofs.YtkbbliicijnpjaaDoorW.PrintWords Go.Proofs.YtkbbliicijnpjaaDoorW.PrintLast Go.Proofs.YtkbbliicijnpjaaDoorW.PrintMore
open Go.Proofs.YtkbbliicijnpjaaDoor.Base Go.Proofs.YtkbbliicijnpjaaDoor.Map Go.Proofs.YtkbbliicijnpjaaDoor.Ca Go.Proofs.YtkbbliicijnpjaaDoor.Qu Go.Maps
set_option linter.unusedVariables false

/-- a number's tuple -/
def tupleOf (tl : List (List Int)) (id : Int) : List Int := if 0 ≤ id ∧ id < tl.length then tl.getD id.toNat [] else []

theorem rd_block {w : World} {b : Nat} {ns : List Int} (hb : w.heap[b]? = some (.cells (tupC ns).toArray 122 (0, 0))) (h8 : ns.length ≤ 8) : RdV w (.slice (some ⟨b, 1, none⟩) ns.length 8) ns := by
  refine RdI.toV ⟨Kd.C_of_reads (d := (0 : Int)) (h1 := fun _ => rfl) ⟨rfl, by omega, fun _ => ⟨⟨b, 1, none⟩, rfl, fun j hj => ?_⟩⟩⟩ h8
  have hadd : (⟨b, 1, none⟩ : Addr).add j = ⟨b, j + 1, none⟩ := by rw [Addr.add_lit]; congr 1; omega
  rw [hadd, cell_of_row w b (j + 1) _ 122 (0, 0) hb]
  have hj' : j < ns.length := hj
  simp [tupC, nums, tupN, pad8, List.getElem?_append, hj', show j < 8 by omega]
  omega

/-- the cells of one tuple in the row -/
theorem tup_at {w : World} {A : Option Addr} {tl : List (List Int)} (h : Kd.C kT w A tl.length tl) (i : Nat) (hi : i < tl.length) :
    ∃ ad, A = some ad ∧ tOk (tl.getD i []) ∧ ∀ (j : Nat) (u : Value), (tupC (tl.getD i []))[j]? = some u → w.cell? (ad.add (i * 9 + j)) = some u := by
  obtain ⟨ad, rfl, hat⟩ := h.2.2 (by omega)
  have e : tl[i]? = some (tl.getD i []) := by simp [hi]
  obtain ⟨c, hcl, ⟨rfl, hok⟩, hcc⟩ := hat i _ e
  exact ⟨ad, rfl, hok, hcc⟩
theorem add_more (a : Addr) (k i : Nat) : a.add (k + (i + 1)) = ⟨(a.add k).block, (a.add k).off + (i + 1), none⟩ := by
  unfold Addr.add
  by_cases h : k = 0
  · subst h; simp
  · simp [h]; omega

theorem tup_cells2 (ns : List Int) : ∃ y0 y1 y2 y3 y4 y5 y6 y7 : Int, tupC ns = [Value.int .i64 (ns.length : Int), .int .i64 y0, .int .i64 y1, .int .i64 y2, .int .i64 y3, .int .i64 y4, .int .i64 y5, .int .i64 y6, .int .i64 y7] := by
  match h : pad8 ns, pad8_len ns with
  | [y0, y1, y2, y3, y4, y5, y6, y7], _ => exact ⟨y0, y1, y2, y3, y4, y5, y6, y7, by unfold tupC tupN; rw [h]; rfl⟩

set_option maxHeartbeats 2000000 in
set_option maxRecDepth 100000 in
theorem tuple_tab (p : Nat) (F : Nat → Prop) (sl : List ByteArray) (tl : List (List Int)) (w : World) (h : TabAt w F p sl tl) (id : Int) :
    Calls Tryd.prog 61 #[.pointer (some ⟨p, 0, none⟩), .int .i64 id] w fun e w' => ∃ v, e = .returned v ∧ OwI w' w.heap.size v (tupleOf tl id) ∧ Below w.heap.size w w' := by
  obtain ⟨vt, vs, mw, mi, fw, fi, hbk, hT, hS, _⟩ := h
  obtain ⟨A, c, rfl, hc, hr⟩ := Kd.R_reads hS
  have c3 := blk_cell hbk 3
  clear hbk hT hS
  by_cases h0 : id < 0
  · have ht : tupleOf tl id = [] := by unfold tupleOf; rw [if_neg (by omega)]
    rw [ht]
    go_enter Tryd.func61, Tryd.ntmps61
    go_wp2
    go_ret
    exact ⟨_, rfl, OwI.nil _ _, Below.refl _ _⟩
  · by_cases h1 : id < (tl.length : Int)
    · have ht : tupleOf tl id = tl.getD id.toNat [] := by unfold tupleOf; rw [if_pos (by omega)]
      rw [ht]
      clear ht
      obtain ⟨ad, hA, hok, hat⟩ := tup_at hr id.toNat (by omega)
      subst hA
      generalize tl.getD id.toNat [] = ns at *
      obtain ⟨y0, y1, y2, y3, y4, y5, y6, y7, hl⟩ := tup_cells2 ns
      have k0 : w.cell? (ad.add (id.toNat * 9)) = some (.int .i64 (ns.length : Int)) := hat 0 _ (by rw [hl]; rfl)
      have k1 : w.cell? ⟨(ad.add (id.toNat * 9)).block, (ad.add (id.toNat * 9)).off + 1, none⟩ = some (.int .i64 y0) := (congrArg w.cell? (add_more ad (id.toNat * 9) 0)).symm.trans (hat 1 _ (by rw [hl]; rfl))
      have k2 : w.cell? ⟨(ad.add (id.toNat * 9)).block, (ad.add (id.toNat * 9)).off + 2, none⟩ = some (.int .i64 y1) := (congrArg w.cell? (add_more ad (id.toNat * 9) 1)).symm.trans (hat 2 _ (by rw [hl]; rfl))
      have k3 : w.cell? ⟨(ad.add (id.toNat * 9)).block, (ad.add (id.toNat * 9)).off + 3, none⟩ = some (.int .i64 y2) := (congrArg w.cell? (add_more ad (id.toNat * 9) 2)).symm.trans (hat 3 _ (by rw [hl]; rfl))
      have k4 : w.cell? ⟨(ad.add (id.toNat * 9)).block, (ad.add (id.toNat * 9)).off + 4, none⟩ = some (.int .i64 y3) := (congrArg w.cell? (add_more ad (id.toNat * 9) 3)).symm.trans (hat 4 _ (by rw [hl]; rfl))
      have k5 : w.cell? ⟨(ad.add (id.toNat * 9)).block, (ad.add (id.toNat * 9)).off + 5, none⟩ = some (.int .i64 y4) := (congrArg w.cell? (add_more ad (id.toNat * 9) 4)).symm.trans (hat 5 _ (by rw [hl]; rfl))
      have k6 : w.cell? ⟨(ad.add (id.toNat * 9)).block, (ad.add (id.toNat * 9)).off + 6, none⟩ = some (.int .i64 y5) := (congrArg w.cell? (add_more ad (id.toNat * 9) 5)).symm.trans (hat 6 _ (by rw [hl]; rfl))
      have k7 : w.cell? ⟨(ad.add (id.toNat * 9)).block, (ad.add (id.toNat * 9)).off + 7, none⟩ = some (.int .i64 y6) := (congrArg w.cell? (add_more ad (id.toNat * 9) 6)).symm.trans (hat 7 _ (by rw [hl]; rfl))
      have k8 : w.cell? ⟨(ad.add (id.toNat * 9)).block, (ad.add (id.toNat * 9)).off + 8, none⟩ = some (.int .i64 y7) := (congrArg w.cell? (add_more ad (id.toNat * 9) 7)).symm.trans (hat 8 _ (by rw [hl]; rfl))
      have h8 := hok.1
      have i0 : (0 : Int) ≤ (ns.length : Int) := by omega
      have i1 : (ns.length : Int) ≤ 8 := by omega
      have hbl : ∀ W : World, (W.alloc (.cells #[.int .i64 (ns.length : Int), .int .i64 y0, .int .i64 y1, .int .i64 y2, .int .i64 y3, .int .i64 y4, .int .i64 y5, .int .i64 y6, .int .i64 y7] 122)).heap[W.heap.size]? = some (.cells (tupC ns).toArray 122 (0, 0)) := fun W => by rw [hl]; exact heap_alloc_new _ _
      have Hbl := Aside0.mk hbl
      clear hat hl hbl hok hr
      go_enter Tryd.func61, Tryd.ntmps61
      go_wp2_with fail
      refine (clone_any _ ns _ (rd_block (Hbl.out w) h8) (by omega)).mono ?_
      rintro e w1 ⟨v, rfl, h1, h2⟩
      go_wp2
      go_ret
      exact ⟨_, rfl, h1.lower (by simp), below_then (below_alloc (Below.refl w.heap.size w) _) (by simp) h2⟩
    · have ht : tupleOf tl id = [] := by unfold tupleOf; rw [if_neg (by omega)]
      rw [ht]
      go_enter Tryd.func61, Tryd.ntmps61
      go_wp2
      go_ret
      exact ⟨_, rfl, OwI.nil _ _, Below.refl _ _⟩
end Go.Proofs.YtkbbliicijnpjaaDoor.In
end
