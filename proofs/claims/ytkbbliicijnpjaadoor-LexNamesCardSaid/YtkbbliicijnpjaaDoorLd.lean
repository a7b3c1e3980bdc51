/- lex: put. -/
import Derived.Test.YtkbbliicijnpjaaDoorLc
import Derived.Test.YtkbbliicijnpjaaDoorLz
import Derived.BigRegion
namespace Go.Proofs.YtkbbliicijnpjaaDoor.Lx
open Go.RowKit Go.Proofs.YtkbbliicijnpjaaDoorW.PrintWords Go.Proofs.YtkbbliicijnpjaaDoorW.PrintLast Go.Proofs.YtkbbliicijnpjaaDoorW.PrintMore
open Go.Proofs.YtkbbliicijnpjaaDoor.Base Go.Proofs.YtkbbliicijnpjaaDoor.PLexTokens Go.Proofs.YtkbbliicijnpjaaDoor.PLexNames Go.Proofs.YtkbbliicijnpjaaDoor.Map
set_option linter.unusedVariables false

theorem blk_belowL {w w1 : World} {g : Nat} {o : Obj} (h : w.heap[g]? = some o) (hb : Below w.heap.size w w1) : w1.heap[g]? = some o := (hb.block g (blk_lt h)).trans h
/-- the tokens' row, made by the call behind block b -/
structure Toks (w : World) (b : Nat) (vs : Value) (out : List S33) : Prop where mk :: (out : Kd.R k33 33 w b (fun _ => True) vs out)

theorem Toks.below {w w1 : World} {b : Nat} {vs : Value} {out : List S33} (h : Toks w b vs out) (hb : Below w.heap.size w w1) : Toks w1 b vs out := ⟨Kd.R_below h.out hb⟩
theorem Toks.chg {w w1 : World} {b : Nat} {vs : Value} {out : List S33} {cs : Array Value} (h : Toks w b vs out) (hC : Chg (fun k => k = b) w w1) (hm : w.heap[b]? = some (.cells cs 81 (0, 0))) : Toks w1 b vs out :=
  ⟨Kd.R_mono (Kd.R_step (Kd.R_bound h.out) (fun k hk hlt => hC.block k hlt (fun e => by
    obtain ⟨_, _, _, q, hq, cells, hc⟩ := hk
    subst e
    rw [hm] at hc
    simp only [Option.some.injEq, Obj.cells.injEq] at hc
    have : q = 81 := hc.2.1.symm
    subst this
    revert hq
    decide))) (fun k hk => hk.1)⟩

section
variable {ops : Array Oper} {o : Oper} {a : Act} {Q : Exit → Act → World → Prop} {Kc : Act → World → Prop}
theorem tokApp_step {W : World} (hw : Region.wanted o (yielded ops a.tmps) = true) (s x : Operand)
    (ho : o.op = .call { callee := .builtin .append, args := #[s, x], argTypes := #[24, 24] }) (v : Value) (out : List S33) (t : S33) (b g : Nat) (cs : Array Value)
    (hs : a.eval s = v) (hx : a.eval x = .slice (some ⟨g, 0, none⟩) 1 1) (HS : Toks W b v out) (hb : W.heap[g]? = some (.cells cs 33 (0, 0))) (hcs : #[.int .i64 t.f0, .string t.f1, .int .i64 t.f2.f0, .int .i64 t.f2.f1] = cs) (hbw : b ≤ W.heap.size) (hl : out.length ≤ 1000000)
    (h : ∀ v1 w1, Toks w1 b v1 (out ++ [t]) → Below b W w1 → W.grownBy w1 v.ownBlock → Kc (a.put o.dst v1) w1) :
    if Region.wanted o (yielded ops a.tmps) = true then Oper.wp Tryd.prog o a W Kc Q else Kc (a.put o.dst undef) W := by
  subst hcs
  refine Kd.R_append_rows_step k33 (Rr := fun x cs => cs = [.int .i64 x.f0, .string x.f1, .int .i64 x.f2.f0, .int .i64 x.f2.f1]) (w0 := W) b hw s x 24 33 _ 40 ho Tryd.underlying24 info33 rfl (by decide) (by decide) v out [t] (some ⟨g, 0, none⟩) 1 1 (fun _ => True) (fun _ => False) hs hx HS.out
    ⟨rfl, by omega, fun _ => ⟨_, rfl, fun j p hj => ⟨[.int .i64 t.f0, .string t.f1, .int .i64 t.f2.f0, .int .i64 t.f2.f1], rfl, ?_, fun i u hu => ?_⟩⟩⟩ (fun x cs hk => by subst hk; exact k33_mkM _ _ _ x) (fun _ hk => hk.elim) (fun k hk => trivial) (Below.refl _ _) hbw (by omega) ?_
  · have : p = t := by
      have : j = 0 := by have := (List.getElem?_eq_some_iff.1 hj).1; simp at this; omega
      subst this; simpa using hj.symm
    subst this; rfl
  · have : j = 0 := by have := (List.getElem?_eq_some_iff.1 hj).1; simp at this; omega
    subst this
    have hadd : (⟨g, 0, none⟩ : Addr).add (0 * k33.sz + i) = ⟨g, i, none⟩ := by unfold Addr.add; split <;> simp_all
    rw [hadd, cell_of_row W g i _ 33 (0, 0) hb]
    simpa using hu
  · intro v1 w1 hR hB hg hat
    exact h v1 w1 ⟨hR⟩ hB hg
end

set_option maxHeartbeats 4000000 in
set_option maxRecDepth 100000 in
theorem put_any (b : Nat) (l c : Int) (s : ByteArray) (vs : Value) (out : List S33) (kind : Int) (n : Nat) (w : World) (hb : w.heap[b]? = some (.cells #[.int .i64 l, .int .i64 c, .string s, vs] 81 (0, 0))) (hT : Toks w b vs out) (hn : n ≤ s.size) (hs : s.size ≤ 100000) (ho : out.length ≤ 1000000) :
    Calls Tryd.prog 70 #[.pointer (some ⟨b, 0, none⟩), .int .i64 kind, .int .i64 (n : Int)] w fun e w' => ∃ vs', e = .returned (.int .i64 0) ∧ w'.heap[b]? = some (.cells #[.int .i64 (placeF s (l, c) n).1, .int .i64 (placeF s (l, c) n).2, .string (s.extract n s.size), vs'] 81 (0, 0)) ∧ Toks w' b vs' (out ++ [⟨kind, s.extract 0 n, ⟨l, c⟩⟩]) ∧ Below b w w' := by
  obtain ⟨A, cap, rfl, hcap, hread⟩ := Kd.R_reads hT.out
  have hbl := blk_lt hb
  have c0 := cell_of hb 0 _ rfl
  have c1 := cell_of hb 1 _ rfl
  have c2 := cell_of hb 2 _ rfl
  have c3 := cell_of hb 3 _ rfl
  have hsl1 : ∀ w, (Instr.slice 9 (.string s) none (some (.int .i64 (n : Int))) none).run Tryd.prog w = .ok (.string (s.extract 0 n)) w := fun w => by
    rw [run_slice_string_to_if w 9 s .i64 _ Tryd.underlying9, if_pos ⟨by omega, by omega⟩]
    rfl
  have hu26 := Tryd.underlying26
  have hu33 := Tryd.underlying33
  have hx : Below w.heap.size w ((w.alloc (.cells #[.int .i64 kind, .string (s.extract 0 n), .int .i64 l, .int .i64 c] 33)).drew) := by simp [Below.refl]
  have c3a : (w.alloc (.cells #[.int .i64 kind, .string (s.extract 0 n), .int .i64 l, .int .i64 c] 33)).cell? ⟨b, 3, none⟩ = some (.slice A out.length cap) := bel_cell (below_alloc (Below.refl _ _) _) c3
  have Hx := Aside0.mk hx
  have HB1 : Aside0 (Below b w ((w.alloc (.cells #[.int .i64 kind, .string (s.extract 0 n), .int .i64 l, .int .i64 c] 33)).drew)) := ⟨⟨hx.os, hx.tape, hx.output, hx.size, fun k hk => hx.block k (by omega)⟩⟩
  have Hbw : Aside0 (b ≤ ((w.alloc (.cells #[.int .i64 kind, .string (s.extract 0 n), .int .i64 l, .int .i64 c] 33)).drew).heap.size) := ⟨Nat.le_trans (Nat.le_of_lt hbl) hx.size⟩
  have Hb := Aside0.mk hb
  have HT := Aside0.mk hT
  have Hs := Aside0.mk hs
  have Hn := Aside0.mk hn
  have Ho := Aside0.mk ho
  have Hbl := Aside0.mk hbl
  clear hx hb hT hs hn ho hread hcap hbl
  go_enter Tryd.func70, Tryd.ntmps70
  go_wp2_with fail
  go_region_law (refine tokApp_step (by rfl) (.tmp 11) (.tmp 24) (by rfl) (.slice A out.length cap) out ⟨kind, s.extract 0 n, ⟨l, c⟩⟩ b w.heap.size #[.int .i64 kind, .string (s.extract 0 n), .int .i64 l, .int .i64 c] (by rfl) (by rfl) (HT.out.below Hx.out) (heap_alloc_new _ _) (by rfl) Hbw.out Ho.out ?_; intro v3 w3 hR3 hC3 hg3; obtain ⟨A3, c3', hv3, _, _⟩ := Kd.R_reads hR3.out; obtain ⟨m3, hm3⟩ : ∃ m3, (out ++ [(⟨kind, s.extract 0 n, ⟨l, c⟩⟩ : S33)]).length = m3 := ⟨_, rfl⟩; rw [hm3] at hv3; subst hv3; have hbb := blk_belowL Hb.out Hx.out; have hne := Kd.R_ne (g := b) (HT.out.below Hx.out).out hbb (by decide); have hb3 := Aside0.mk (blk_grown hbb hg3 hne); have z3' : w3.frozen? ⟨b, 3, none⟩ = false := blk_frozen hb3.out 3; have e3 : w3.cell? ⟨b, 3, none⟩ = some (.slice A out.length cap) := blk_cell hb3.out 3; have HR3 := Aside0.mk hR3; have HC3 := Aside0.mk hC3; clear hR3 hC3 hg3 hbb hne hm3)
  all_goals go_wp2_with fail
  all_goals refine (pass_any b l c s _ n _ (blk_put hb3.out 3 _ rfl) Hn.out Hs.out).mono ?_
  all_goals rintro e w4 ⟨rfl, h4, hC4⟩
  all_goals go_wp2_with fail
  all_goals go_ret
  all_goals exact ⟨_, rfl, h4, (HR3.out.chg (Chg.setCell _ (p := ⟨b, 3, none⟩) (F := fun k => k = b) rfl _) hb3.out).chg hC4 (blk_put hb3.out 3 _ rfl),
    (HB1.out.trans HC3.out).trans (((Chg.setCell w3 (p := ⟨b, 3, none⟩) (F := fun k => k = b) rfl _).below (Nat.le_of_lt (blk_lt hb3.out)) (fun k hk => Nat.le_of_eq hk.symm)).trans (hC4.below (Nat.le_of_lt (blk_lt (blk_put hb3.out 3 _ rfl))) (fun k hk => Nat.le_of_eq hk.symm)))⟩
end Go.Proofs.YtkbbliicijnpjaaDoor.Lx
