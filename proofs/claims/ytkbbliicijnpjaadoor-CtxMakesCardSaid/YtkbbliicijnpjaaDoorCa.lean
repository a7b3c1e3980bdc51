/- The contracts of slices.Clone at []int, of ctx.clip, ctx.last, ctx.Made, ctx.Of. -/
import Derived.Test.YtkbbliicijnpjaaDoorBase
import Derived.Test.YtkbbliicijnpjaaDoorPa
namespace Go.Proofs.YtkbbliicijnpjaaDoor.Ca
open Go.RowKit Go.Proofs.YtkbbliicijnpjaaDoorW.PrintWords Go.Proofs.YtkbbliicijnpjaaDoorW.PrintLast Go.Proofs.YtkbbliicijnpjaaDoorW.PrintMore
open Go.Proofs.YtkbbliicijnpjaaDoor.PCtxMakes Go.Proofs.YtkbbliicijnpjaaDoor.Base
attribute [local go_sem] max2_int min2_int max_two min_two

set_option maxHeartbeats 400000 in
set_option maxRecDepth 100000 in
theorem clone_any (v : Value) (l : List Int) (w : World) (hr : RdV w v l) (hb : l.length * 8 ≤ 140737488355328) :
    Calls Tryd.prog 45 #[v] w fun e w' => ∃ v, e = .returned v ∧ OwI w' w.heap.size v l ∧ Below w.heap.size w w' := by
  obtain ⟨A, c, rfl, hc, hr⟩ := hr
  cases A with
  | none =>
    obtain rfl := hr.nil_of_none
    clear hb hr hc
    have heq := fun (w : World) => Go.Lib.run_eql_slice_nil (P := Tryd.prog) w 34 3 none 0 c 0 0 Tryd.underlying34
    simp only [List.length_nil]
    go_enter Tryd.func45, Tryd.ntmps45
    go_wp2
    go_ret
    exact ⟨_, rfl, OwI.nil _ _, Below.refl _ _⟩
  | some a =>
    have heq := fun (w : World) => Go.Lib.run_eql_slice_nil (P := Tryd.prog) w 34 3 (some a) l.length c 0 0 Tryd.underlying34
    have HR2 := (hr.toV hc).alloc (.cells #[] 3)
    have HO := R_empty w
    have HB := below_alloc (Below.refl w.heap.size w) (.cells #[] 3)
    go_enter Tryd.func45, Tryd.ntmps45
    go_wp2_with (first | (at_builtin; refine app_row (w0 := w) w.heap.size rfl (.tmp 5) (.tmp 6) rfl _ _ [] l rfl rfl HO HR2 HB HB.size (by simp; omega) ?_; intro v1 w1 H1 H2 hg hat; clear hg hat))
    go_ret
    exact ⟨_, rfl, H1, H2⟩

def lastL (n : Int) (l : List Int) : List Int := l.drop ((l.length : Int) - n).toNat

set_option maxHeartbeats 400000 in
set_option maxRecDepth 100000 in
theorem last_any (n : Int) (v : Value) (l : List Int) (w : World) (hr : RdV w v l) (hn0 : 0 ≤ n) (hn1 : n ≤ 1000) (hb : l.length * 8 ≤ 140737488355328) :
    Calls Tryd.prog 43 #[.int .i64 n, v] w fun e w' => ∃ v, e = .returned v ∧ OwI w' w.heap.size v (lastL n l) ∧ Below w.heap.size w w' := by
  obtain ⟨A, c, rfl, hc, hr⟩ := hr
  have key : ∃ j : Int, 0 ≤ j ∧ j ≤ l.length ∧ (if (l.length : Int) - n < 0 then 0 else (l.length : Int) - n) = j ∧ lastL n l = l.drop j.toNat := by
    by_cases hlt : (l.length : Int) - n < 0
    · exact ⟨0, by omega, by omega, by rw [if_pos hlt], by unfold lastL; congr 1; omega⟩
    · exact ⟨_, by omega, by omega, by rw [if_neg hlt], rfl⟩
  obtain ⟨j, h0, hm, hj, hl⟩ := key
  obtain ⟨A', c', hrun, hread⟩ := cut_from A c l j h0 hm hc
  have HC := hread w hr
  have hb' : (l.drop j.toNat).length * 8 ≤ 140737488355328 := by rw [List.length_drop]; omega
  rw [hl]
  clear hl hread hr
  generalize l.drop j.toNat = l2 at *
  have Hb := Aside0.mk hb'
  clear hb'
  go_enter Tryd.func43, Tryd.ntmps43
  go_wp2_with (first | (go_at_call 45; (with_reducible refine (clone_any _ l2 _ HC Hb.out).mono ?_); rintro e w1 ⟨v1, rfl, H1, H2⟩))
  go_ret
  exact ⟨_, rfl, H1, H2⟩

/-- k as it counts -/
def clipI (k : Int) : Int := mn (mx k 0) 3
theorem clipI_bd (k : Int) : 0 ≤ clipI k ∧ clipI k ≤ 3 := by unfold clipI mn mx; repeat (first | split | omega | constructor)
set_option maxHeartbeats 400000 in
set_option maxRecDepth 100000 in
theorem clip_any (k : Int) (w : World) : Calls Tryd.prog 44 #[.int .i64 k] w fun e w' => e = .returned (.int .i64 (clipI k)) ∧ w = w' := by
  obtain ⟨j, hj⟩ : ∃ j, clipI k = j := ⟨_, rfl⟩
  rw [hj]
  unfold clipI mn mx at hj
  go_enter Tryd.func44, Tryd.ntmps44
  go_wp2
  all_goals (go_ret; exact ⟨rfl, rfl⟩)

/-- Made: the context of what is made. -/
def madeL (k : Int) (l : List Int) : List Int := lastL (mx (clipI k - 1) 0) l

set_option maxHeartbeats 400000 in
set_option maxRecDepth 100000 in
theorem made_any (k : Int) (v : Value) (l : List Int) (w : World) (hr : RdV w v l) (hb : l.length * 8 ≤ 140737488355328) :
    Calls Tryd.prog 16 #[.int .i64 k, v] w fun e w' => ∃ v, e = .returned v ∧ OwI w' w.heap.size v (madeL k l) ∧ Below w.heap.size w w' := by
  have Hb := Aside0.mk hb
  clear hb
  have hk := clipI_bd k
  unfold madeL
  generalize hcl : clipI k = n at *
  have Hcl := Aside0.mk hcl
  clear hcl
  obtain ⟨h0, h3⟩ := hk
  have hm : 0 ≤ mx (n - 1) 0 ∧ mx (n - 1) 0 ≤ 1000 := by unfold mx; split <;> omega
  obtain ⟨m, hm'⟩ : ∃ m, mx (n - 1) 0 = m := ⟨_, rfl⟩
  rw [hm'] at hm ⊢
  unfold mx at hm'
  obtain ⟨hm0, hm1⟩ := hm
  go_enter Tryd.func16, Tryd.ntmps16
  go_wp2_with (first | (go_at_call 44; (with_reducible refine (clip_any k _).mono ?_); rintro e w1 ⟨rfl, rfl⟩; rw [Hcl.out]) | (go_at_call 43; (with_reducible refine (last_any m v l _ hr hm0 hm1 Hb.out).mono ?_); rintro e w1 ⟨v1, rfl, H1, H2⟩))
  go_ret
  exact ⟨_, rfl, H1, H2⟩
end Go.Proofs.YtkbbliicijnpjaaDoor.Ca
