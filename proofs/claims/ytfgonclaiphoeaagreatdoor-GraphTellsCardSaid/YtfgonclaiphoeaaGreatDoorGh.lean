/- Queues of numbers that a call owns: cut ahead, appended to behind. -/
import Derived.Test.YtfgonclaiphoeaaGreatDoorGg
namespace Go.Proofs.YtfgonclaiphoeaaGreatDoor.Gr
set_option linter.unusedVariables false
open Go.RowKit Go.Proofs.YtfgonclaiphoeaaGreatDoorW.PrintWords Go.Proofs.YtfgonclaiphoeaaGreatDoorW.PrintLast Go.Proofs.YtfgonclaiphoeaaGreatDoorW.PrintMore Go.Maps
open Go.Proofs.YtfgonclaiphoeaaGreatDoor.Base Go.Proofs.YtfgonclaiphoeaaGreatDoor.Map Go.Proofs.YtfgonclaiphoeaaGreatDoor.Sl Go.Proofs.YtfgonclaiphoeaaGreatDoor.Ow Go.Proofs.YtfgonclaiphoeaaGreatDoor.Se

structure OwQ (w : World) (F : Nat → Prop) (v : Value) (l : List Int) : Prop where mk :: (out : Kd.Q (Kd.int .i64) 3 w 0 F v l)
section
variable {w w1 : World} {F F' G : Nat → Prop} {v : Value} {l : List Int}
theorem OwQ.toV (h : OwQ w F v l) : RdV w v l := by
  obtain ⟨A, c, h1, h2, h3⟩ := Kd.Q_reads h.out
  exact ⟨A, c, h1, h2, ⟨h3⟩⟩
theorem OwQ.mono (h : OwQ w F v l) (hF : ∀ k, F k → F' k) : OwQ w F' v l := ⟨Kd.Q_mono h.out hF⟩
theorem OwQ.below (h : OwQ w F v l) (hb : Below w.heap.size w w1) : OwQ w1 F v l := ⟨Kd.Q_below h.out hb⟩
theorem OwQ.chg (h : OwQ w F v l) (hC : Chg G w w1) (hd : ∀ k, F k → ¬ G k) : OwQ w1 F v l := ⟨Kd.Q_step h.out (fun k hk hlt => hC.block k hlt (hd k hk))⟩
theorem OwQ.bound (h : OwQ w F v l) : OwQ w (fun k => F k ∧ k < w.heap.size) v l := ⟨Kd.Q_mono (Kd.Q_bound h.out) (fun k hk => ⟨hk.1, hk.2.2.1⟩)⟩
theorem OwF.toQ (h : OwF w F v l) : OwQ w F v l := ⟨Kd.Q_of_R h.out⟩
theorem Q_inner (h : OwQ w F v l) : QRow w 0 3 1 v l.length (nums .i64 l) := by
  obtain ⟨_, inner, ho, hr⟩ := h.out
  have : inner = nums .i64 l := by
    apply List.ext_getElem?
    intro j
    rcases Nat.lt_or_ge j l.length with hj | hj
    · have h2 := hr.2 j _ (List.getElem?_eq_getElem hj)
      have hl : j < inner.length := by have := hr.1; simp [Kd.scalar, Kd.int] at this; omega
      have h3 : (inner.drop (j * 1)).take 1 = [Value.int .i64 l[j]] := h2
      rw [Nat.mul_one, List.drop_eq_getElem_cons hl] at h3
      have h4 : inner[j] = Value.int .i64 l[j] := by
        have h5 := congrArg List.head? h3
        rw [List.take_succ_cons] at h5
        exact Option.some.inj h5
      rw [List.getElem?_eq_getElem hl, h4]
      simp [nums, List.getElem?_eq_getElem hj]
    · have h3 : inner.length = l.length := by have := hr.1; simp [Kd.scalar, Kd.int] at this; omega
      rw [List.getElem?_eq_none (by omega), List.getElem?_eq_none (by rw [nums_len]; omega)]
  rw [← this]
  exact ho
theorem Q_of_row (h : QRow w 0 3 1 v l.length (nums .i64 l)) (hF : ∀ k, v.ownBlock = some k → F k) : OwQ w F v l := ⟨⟨hF, encs (Value.int .i64) l, h, Kd.reps_scalar l⟩⟩
end
/-- l[1:] -/
theorem cut_one (A : Option Addr) (n c : Nat) (hn : 1 ≤ n) : ∃ (A' : Option Addr), (∀ W : World, (Instr.slice 26 (.slice A n c) (some (.int .i64 1)) none none).run Tryz.prog W = .ok (.slice A' (n - 1) (c - 1)) W) ∧
    ∀ (w : World) (F : Nat → Prop) (l : List Int), l.length = n → OwQ w F (.slice A n c) l → OwQ w F (.slice A' (n - 1) (c - 1)) (l.drop 1) := by
  obtain ⟨i0, hi, hs⟩ := i3
  refine ⟨if c = 1 then A else A.map (·.add 1), fun W => ?_, fun w F l hl h => ?_⟩
  · have hel : Tryz.prog.elem 26 = 3 := by simp [Program.elem, Tryz.underlying26]
    have hu : Tryz.prog.underlying 26 = some (.slice (Tryz.prog.elem 26)) := by rw [hel]; exact Tryz.underlying26
    rw [run_slice_l W 26 A n c hu .i64 1 (by omega) (by omega), hel]
    simp [sizeOf, typeInfo, hi, hs, sliced, Result.andThen]
  · have := Kd.Q_drop (k := 1) h.out (by omega)
    exact ⟨this⟩
section
variable {ops : Array Oper} {rest : List Oper} {o : Oper} {a : Act} {Q : Exit → Act → World → Prop}
/-- append(q, ys...) -/
theorem appQ {W : World} {G : Nat → Prop} (hgd : o.guard = none) (s x : Operand)
    (ho : o.op = .call { callee := .builtin .append, args := #[s, x], argTypes := #[26, 26] })
    (v u : Value) (xs ys : List Int) (hs : a.eval s = v) (hx : a.eval x = u)
    (HO : OwQ W G v xs) (HR : RdV W u ys) (h0 : 0 < ys.length) (hl : (xs.length + ys.length) * 8 ≤ 140737488355328)
    (h : ∀ v1 w1, OwQ w1 (ext G W w1) v1 (xs ++ ys) → Chg G W w1 → wpList Tryz.prog ops Q rest (a.put o.dst v1) w1) :
    wpList Tryz.prog ops Q (o :: rest) a W := by
  obtain ⟨b, off, c, rfl, hc, hcell⟩ := RdV.cells HR h0
  obtain ⟨i0, hi, hzz⟩ := Option.map_eq_some_iff.1 info3
  simp only [Prod.mk.injEq] at hzz
  obtain ⟨hz0, hz1, hz2⟩ := hzz
  have hnews : ∀ (j : Nat) (u : Value), (nums .i64 ys)[j]? = some u → W.cell? ((⟨b, off, none⟩ : Addr).add j) = some u := fun j u hj => by
    have hjl := (List.getElem?_eq_some_iff.1 hj).1
    rw [nums_len] at hjl
    have e3 : (⟨b, off, none⟩ : Addr).add j = ⟨b, off + j, none⟩ := by unfold Addr.add; split <;> simp_all
    rw [e3, hcell j hjl]
    simp only [nums, List.getElem?_map, List.getElem?_eq_getElem hjl, Option.map_some] at hj
    rw [← hj, List.getD_eq_getElem?_getD, List.getElem?_eq_getElem hjl]; rfl
  obtain ⟨v1, w1, hrun, hq, hg, hat⟩ := q_append (P := Tryz.prog) W 0 26 o.type 3 i0 (.int .i64 0) 1 8 Tryz.underlying26 hi hz0 hz1 hz2 rfl (by decide) v xs.length (nums .i64 xs) (Q_inner HO) ⟨b, off, none⟩ ys.length c (nums .i64 ys) (by rw [nums_len, Nat.mul_one]) hnews (nums_one ys) h0 (by unfold maxLen; omega) hl (Nat.zero_le _)
  have hle : (xs ++ ys).length = xs.length + ys.length := by simp
  rw [← hle, ← nums_app] at hq
  have hO : OwQ w1 (fun k => G k ∨ W.heap.size ≤ k) v1 (xs ++ ys) := Q_of_row hq (fun k hk => by
    rcases hat with e | ⟨b', e, hb'⟩
    · exact .inl (HO.out.1 k (e ▸ hk))
    · rw [e] at hk; cases hk; exact .inr hb')
  refine wpList_plain hgd fun K hK => ?_
  unfold Oper.wp execOp
  simp only [ho, resolve, invoke, builtin, Sem.run_bind, Sem.run_pure, Result.andThen_ok, List.map_toArray, List.map_cons, List.map_nil, hs, hx, hrun]
  exact hK _ _ (h v1 w1 (hO.bound.mono (fun k hk => hk.1.elim .inl (fun h => .inr ⟨h, hk.2⟩))) (Chg.of_grown hg (fun k hk => HO.out.1 k hk)))
end
end Go.Proofs.YtfgonclaiphoeaaGreatDoor.Gr
