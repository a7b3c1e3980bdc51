/- nodes: the nodes' table and a row of nodes of the call's own, apart; append of one node. -/
import Derived.Test.YtkbbliicijnpjaaDoorVm
namespace Go.Proofs.YtkbbliicijnpjaaDoor.Tx
open Go.RowKit Go.Proofs.YtkbbliicijnpjaaDoorW.PrintWords Go.Proofs.YtkbbliicijnpjaaDoorW.PrintLast Go.Proofs.YtkbbliicijnpjaaDoorW.PrintMore
open Go.Proofs.YtkbbliicijnpjaaDoor.Base Go.Proofs.YtkbbliicijnpjaaDoor.Map Go.Proofs.YtkbbliicijnpjaaDoor.Ca Go.Proofs.YtkbbliicijnpjaaDoor.Qu Go.Proofs.YtkbbliicijnpjaaDoor.In Go.Proofs.YtkbbliicijnpjaaDoor.Kx Go.Maps Go.Proofs.YtkbbliicijnpjaaDoor.PNodeIds
set_option linter.unusedVariables false

theorem info46 : (Tryd.prog.info? 46).map (fun i => (i.zero, i.size, i.bytes)) = some (some (.agg #[.int .i64 0, .int .i64 0, .int .i64 0, .int .i64 0]), 4, 32) := by kernel_rfl
def nodeC (s : S46) : List Value := [.int .i64 s.f0, .int .i64 s.f1, .int .i64 s.f2, .int .i64 s.f3]
/-- the nodes' table, and a row of nodes apart from it -/
structure NS (w0 w : World) (x p q : Nat) (tl : List (List Int)) (v : Value) (all : List S46) : Prop where
  mk :: (out : ∃ H G, NKX w0 w H x p q tl ∧ Kd.R k46 46 w 0 G v all ∧ ∀ k, G k → w0.heap.size ≤ k ∧ k < w.heap.size ∧ ¬ H k ∧ k ≠ x)
section
variable {w0 w w1 : World} {x p q : Nat} {tl : List (List Int)} {v : Value} {all : List S46}
theorem NS.nk (h : NS w0 w x p q tl v all) : NK w0 w x p q tl := by obtain ⟨H, G, h, _⟩ := h; exact h.nk
theorem NS.bel (h : NS w0 w x p q tl v all) : Below w0.heap.size w0 w := h.nk.bel
theorem NS.rd (h : NS w0 w x p q tl v all) : ∃ A c, v = .slice A all.length c ∧ all.length ≤ c ∧ RdN w A all := by
  obtain ⟨H, G, _, hR, _⟩ := h
  obtain ⟨A, c, h1, h2, h3⟩ := Kd.R_reads hR
  exact ⟨A, c, h1, h2, ⟨h3⟩⟩
theorem NS.below (h : NS w0 w x p q tl v all) (hb : Below w.heap.size w w1) : NS w0 w1 x p q tl v all := by
  obtain ⟨H, G, h1, h2, h3⟩ := h
  exact ⟨H, G, h1.below hb, Kd.R_step h2 (fun k hk hlt => hb.block k hlt), fun k hk => ⟨(h3 k hk).1, Nat.lt_of_lt_of_le (h3 k hk).2.1 hb.size, (h3 k hk).2.2⟩⟩
theorem NS.start (h : NK w0 w x p q tl) : NS w0 w x p q tl (.slice none 0 0) [] := by
  obtain ⟨H, h⟩ := h.at_
  exact ⟨H, fun _ => False, h, Kd.R_nil _ _ _ _ _, fun k hk => hk.elim⟩
end
theorem id_ns (w0 w : World) (x p q : Nat) (tl : List (List Int)) (v : Value) (all : List S46) (k a b c : Int) (h : NS w0 w x p q tl v all) (ha : (Lit.int .i64 a).wf = true) (hb : (Lit.int .i64 b).wf = true) (hc : (Lit.int .i64 c).wf = true) (hlen : tl.length ≤ 1000) :
    Calls Tryd.prog 33 #[.pointer (some ⟨x, 0, none⟩), .agg #[.int .i64 k, .int .i64 a, .int .i64 b, .int .i64 c]] w fun e w' => e = .returned (.int .i64 (idN tl k a b c)) ∧ NS w0 w' x p q (tlN tl k a b c) v all := by
  obtain ⟨H, G, h1, h2, h3⟩ := h
  refine (id_nkx w0 w H x p q tl k a b c h1 ha hb hc hlen).mono fun e w' ⟨r1, H2, r2, r3, r4⟩ => ⟨r1, H2, G, r2, ?_, fun k hk => ⟨(h3 k hk).1, Nat.lt_of_lt_of_le (h3 k hk).2.1 r3.size, fun h => ?_, (h3 k hk).2.2.2⟩⟩
  · exact Kd.R_step h2 (fun k hk hlt => r3.block k hlt (fun h => h.elim (h3 k hk).2.2.1 (h3 k hk).2.2.2))
  · rcases r4 k h with h | h
    · exact (h3 k hk).2.2.1 h
    · have := (h3 k hk).2.1
      omega
section
variable {ops : Array Oper} {rest : List Oper} {o : Oper} {a : Act} {Q : Exit → Act → World → Prop}
theorem appN {w0 W : World} {x p q : Nat} {tl : List (List Int)} (hgd : o.guard = none) (s y : Operand) (ho : o.op = .call { callee := .builtin .append, args := #[s, y], argTypes := #[63, 63] })
    (v : Value) (all : List S46) (n : S46) (b : Nat) (hs : a.eval s = v) (hx : a.eval y = .slice (some ⟨b, 0, none⟩) 1 1) (HS : NS w0 W x p q tl v all) (hb : W.heap[b]? = some (.cells #[.int .i64 n.f0, .int .i64 n.f1, .int .i64 n.f2, .int .i64 n.f3] 46 (0, 0))) (hl : all.length ≤ 1000000)
    (h : ∀ v1 w1, NS w0 w1 x p q tl v1 (all ++ [n]) → wpList Tryd.prog ops Q rest (a.put o.dst v1) w1) :
    wpList Tryd.prog ops Q (o :: rest) a W := by
  obtain ⟨H, G, h1, h2, h3⟩ := HS
  have HS' : Kd.R k46 46 W 0 (fun k => G k ∨ W.heap.size ≤ k) v all := Kd.R_mono h2 (fun k hk => .inl hk)
  refine Kd.R_append_rows k46 (Rr := fun s cs => cs = nodeC s) (w0 := W) 0 hgd s y 63 46 _ 32 ho Tryd.underlying63 info46 rfl (by decide) (by decide) v all [n] (some ⟨b, 0, none⟩) 1 1 (fun k => G k ∨ W.heap.size ≤ k) (fun _ => False) hs hx HS'
    ⟨rfl, by omega, fun _ => ⟨_, rfl, fun j t hj => ⟨nodeC n, rfl, ?_, fun i u hu => ?_⟩⟩⟩ (fun s cs e => by subst e; exact k46_mkM _ _ _ s) (fun _ hk => hk.elim) (fun k hk => .inr hk) (Below.refl _ _) (Nat.zero_le _) (by omega) ?_
  · have : j = 0 := by have := (List.getElem?_eq_some_iff.1 hj).1; simp at this; omega
    subst this
    have : n = t := by simpa using hj
    rw [this]
  · have : j = 0 := by have := (List.getElem?_eq_some_iff.1 hj).1; simp at this; omega
    subst this
    have hadd : (⟨b, 0, none⟩ : Addr).add (0 * k46.sz + i) = ⟨b, i, none⟩ := by unfold Addr.add; split <;> simp_all
    rw [hadd, cell_of_row W b i _ 46 (0, 0) hb]
    simpa [nodeC] using hu
  · intro v1 w1 hR hB hg hat
    have hC : Chg G W w1 := Chg.of_grown hg (fun k hk => h2.1 k hk)
    refine h v1 w1 ⟨H, fun k => G k ∨ (W.heap.size ≤ k ∧ k < w1.heap.size), h1.chg hC (fun k hk => ⟨(h3 k hk).1, (h3 k hk).2.2⟩), Kd.R_mono (Kd.R_bound hR) (fun k hk => hk.1.elim .inl (fun h => .inr ⟨h, hk.2.2.1⟩)), fun k hk => ?_⟩
    rcases hk with hk | hk
    · exact ⟨(h3 k hk).1, Nat.lt_of_lt_of_le (h3 k hk).2.1 hC.size, (h3 k hk).2.2⟩
    · exact ⟨Nat.le_trans h1.bel.size hk.1, hk.2, fun h => by have := (h1.out.2.1 k h).2; omega, fun e => by have := blk_lt h1.out.2.2.1; omega⟩
end
end Go.Proofs.YtkbbliicijnpjaaDoor.Tx
