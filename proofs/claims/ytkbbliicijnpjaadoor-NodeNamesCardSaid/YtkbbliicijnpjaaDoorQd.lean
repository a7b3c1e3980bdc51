/- words of the queue that the intern texts use's line: left, Len, List, take. -/
import Derived.Test.YtkbbliicijnpjaaDoorMap
import Derived.Test.YtkbbliicijnpjaaDoorCc
namespace Go.Proofs.YtkbbliicijnpjaaDoor.Qu
set_option linter.unusedVariables false
open Go.RowKit Go.Proofs.YtkbbliicijnpjaaDoorW.PrintWords Go.Proofs.YtkbbliicijnpjaaDoorW.PrintLast Go.Proofs.YtkbbliicijnpjaaDoorW.PrintMore
open Go.Proofs.YtkbbliicijnpjaaDoor.Base Go.Proofs.YtkbbliicijnpjaaDoor.Map Go.Proofs.YtkbbliicijnpjaaDoor.Ca

/-- The call's own slice of ints, its block one of F. -/
structure OwF (w : World) (F : Nat → Prop) (v : Value) (l : List Int) : Prop where mk :: (out : Kd.R (Kd.int .i64) 3 w 0 F v l)
/-- F, and what is new since. -/
def ext (F : Nat → Prop) (w w' : World) : Nat → Prop := fun k => F k ∨ (w.heap.size ≤ k ∧ k < w'.heap.size)

section
variable {w w1 : World} {F F' : Nat → Prop} {v : Value} {l : List Int}
theorem OwF.toV (h : OwF w F v l) : RdV w v l := by
  obtain ⟨A, c, h1, h2, h3⟩ := Kd.R_reads h.out
  exact ⟨A, c, h1, h2, ⟨h3⟩⟩
theorem OwF.mono (h : OwF w F v l) (hF : ∀ k, F k → F' k) : OwF w F' v l := ⟨Kd.R_mono h.out hF⟩
theorem OwF.below (h : OwF w F v l) (hb : Below w.heap.size w w1) : OwF w1 F v l := ⟨Kd.R_below h.out hb⟩
theorem OwF.far (h : OwF w F v l) {g t : Nat} {cells : Array Value} (hb : w.heap[g]? = some (.cells cells t (0, 0))) (ht : 3 ≠ t) (j : Nat) (u : Value) : OwF (w.setCell ⟨g, j, none⟩ u) F v l :=
  ⟨Kd.R_set h.out hb (fun q hq => by rcases List.mem_cons.1 hq with rfl | hq; exact ht; cases hq) j u⟩
theorem OwF.of_own {base : Nat} (h : OwI w base v l) (hF : ∀ k, base ≤ k → k < w.heap.size → F k) : OwF w F v l :=
  ⟨Kd.R_lower (Kd.R_mono (Kd.R_bound h.out) (fun k hk => hF k hk.2.1 hk.2.2.1)) (Nat.zero_le _)⟩
end
theorem blk_below {w w1 : World} {g : Nat} {o : Obj} (h : w.heap[g]? = some o) (hb : Below w.heap.size w w1) : w1.heap[g]? = some o := (hb.block g (blk_lt h)).trans h
theorem st_own {w : World} {base : Nat} {u : Value} {ns : List Int} {F : Nat → Prop} (h : OwI w base u ns) (hF : ∀ k, F k → k < base) : ∀ W, Chg F w W → RdV W u ns := fun W hC =>
  OwI.toV (base := base) ⟨Kd.R_mono (Kd.R_step (Kd.R_bound h.out) (fun k hk hlt => hC.block k hlt (fun hf => by have := hF k hf; have := hk.2.1; omega))) (fun _ _ => trivial)⟩
/-- what came in is apart from what the call made -/
theorem st_in {w0 w : World} {u : Value} {ns : List Int} {F : Nat → Prop} (h : RdV w0 u ns) (hb : Below w0.heap.size w0 w) (hF : ∀ k, F k → w0.heap.size ≤ k) : ∀ W, Chg F w W → RdV W u ns := fun W hC =>
  h.below (hb.trans (hC.below hb.size hF))
end Go.Proofs.YtkbbliicijnpjaaDoor.Qu
