/- Ca, Cb, Cc -/
import Derived.Test.YtkbbliicijnpjaaDoorBase
import Derived.Test.YtkbbliicijnpjaaDoorPa
import Derived.Deep.RegionHeld3
/- Ca: The contracts of slices.Clone at []int, of ctx.clip, ctx.last, ctx.Made, ctx.Of. -/
section
namespace Go.Proofs.YtkbbliicijnpjaaDoor.Ca
open Go.RowKit Go.Proofs.YtkbbliicijnpjaaDoorW.PrintWords Go.Proofs.YtkbbliicijnpjaaDoorW.PrintLast Go.Proofs.YtkbbliicijnpjaaDoorW.PrintMore
open Go.Proofs.YtkbbliicijnpjaaDoor.PCtxMakes Go.Proofs.YtkbbliicijnpjaaDoor.Base
attribute [local go_sem] max2_int min2_int max_two min_two

set_option maxHeartbeats 400000 in
set_option maxRecDepth 100000 in
theorem clone_any (v : Value) (l : List Int) (w : World) (hr : RdV w v l) (hb : l.length * 8 ≤ 140737488355328) :
    Calls Tryd.prog 45 #[v] w fun e w' => ∃ v, e = .returned v ∧ OwI w' w.heap.size v l ∧ Below w.heap.size w w' := by
  obtain ⟨A, c, rfl, hc, hr⟩ := hr
  cases A with
  | none =>
    obtain rfl := hr.nil_of_none
    clear hb hr hc
    have heq := fun (w : World) => Go.Lib.run_eql_slice_nil (P := Tryd.prog) w 34 3 none 0 c 0 0 Tryd.underlying34
    simp only [List.length_nil]
    go_enter Tryd.func45, Tryd.ntmps45
    go_wp2
    go_ret
    exact ⟨_, rfl, OwI.nil _ _, Below.refl _ _⟩
  | some a =>
    have heq := fun (w : World) => Go.Lib.run_eql_slice_nil (P := Tryd.prog) w 34 3 (some a) l.length c 0 0 Tryd.underlying34
    have HR2 := (hr.toV hc).alloc (.cells #[] 3)
    have HO := R_empty w
    have HB := below_alloc (Below.refl w.heap.size w) (.cells #[] 3)
    go_enter Tryd.func45, Tryd.ntmps45
    go_wp2_with (first | (at_builtin; refine app_row (w0 := w) w.heap.size rfl (.tmp 5) (.tmp 6) rfl _ _ [] l rfl rfl HO HR2 HB HB.size (by simp; omega) ?_; intro v1 w1 H1 H2 hg hat; clear hg hat))
    go_ret
    exact ⟨_, rfl, H1, H2⟩

def lastL (n : Int) (l : List Int) : List Int := l.drop ((l.length : Int) - n).toNat

set_option maxHeartbeats 400000 in
set_option maxRecDepth 100000 in
theorem last_any (n : Int) (v : Value) (l : List Int) (w : World) (hr : RdV w v l) (hn0 : 0 ≤ n) (hn1 : n ≤ 1000) (hb : l.length * 8 ≤ 140737488355328) :
    Calls Tryd.prog 43 #[.int .i64 n, v] w fun e w' => ∃ v, e = .returned v ∧ OwI w' w.heap.size v (lastL n l) ∧ Below w.heap.size w w' := by
  obtain ⟨A, c, rfl, hc, hr⟩ := hr
  have key : ∃ j : Int, 0 ≤ j ∧ j ≤ l.length ∧ (if (l.length : Int) - n < 0 then 0 else (l.length : Int) - n) = j ∧ lastL n l = l.drop j.toNat := by
    by_cases hlt : (l.length : Int) - n < 0
    · exact ⟨0, by omega, by omega, by rw [if_pos hlt], by unfold lastL; congr 1; omega⟩
    · exact ⟨_, by omega, by omega, by rw [if_neg hlt], rfl⟩
  obtain ⟨j, h0, hm, hj, hl⟩ := key
  obtain ⟨A', c', hrun, hread⟩ := cut_from A c l j h0 hm hc
  have HC := hread w hr
  have hb' : (l.drop j.toNat).length * 8 ≤ 140737488355328 := by rw [List.length_drop]; omega
  rw [hl]
  clear hl hread hr
  generalize l.drop j.toNat = l2 at *
  have Hb := Aside0.mk hb'
  clear hb'
  go_enter Tryd.func43, Tryd.ntmps43
  go_wp2_with (first | (go_at_call 45; (with_reducible refine (clone_any _ l2 _ HC Hb.out).mono ?_); rintro e w1 ⟨v1, rfl, H1, H2⟩))
  go_ret
  exact ⟨_, rfl, H1, H2⟩

/-- k as it counts -/
def clipI (k : Int) : Int := mn (mx k 0) 3
theorem clipI_bd (k : Int) : 0 ≤ clipI k ∧ clipI k ≤ 3 := by unfold clipI mn mx; repeat (first | split | omega | constructor)
set_option maxHeartbeats 400000 in
set_option maxRecDepth 100000 in
theorem clip_any (k : Int) (w : World) : Calls Tryd.prog 44 #[.int .i64 k] w fun e w' => e = .returned (.int .i64 (clipI k)) ∧ w = w' := by
  obtain ⟨j, hj⟩ : ∃ j, clipI k = j := ⟨_, rfl⟩
  rw [hj]
  unfold clipI mn mx at hj
  go_enter Tryd.func44, Tryd.ntmps44
  go_wp2
  all_goals (go_ret; exact ⟨rfl, rfl⟩)

/-- Made: the context of what is made. -/
def madeL (k : Int) (l : List Int) : List Int := lastL (mx (clipI k - 1) 0) l

set_option maxHeartbeats 400000 in
set_option maxRecDepth 100000 in
theorem made_any (k : Int) (v : Value) (l : List Int) (w : World) (hr : RdV w v l) (hb : l.length * 8 ≤ 140737488355328) :
    Calls Tryd.prog 16 #[.int .i64 k, v] w fun e w' => ∃ v, e = .returned v ∧ OwI w' w.heap.size v (madeL k l) ∧ Below w.heap.size w w' := by
  have Hb := Aside0.mk hb
  clear hb
  have hk := clipI_bd k
  unfold madeL
  generalize hcl : clipI k = n at *
  have Hcl := Aside0.mk hcl
  clear hcl
  obtain ⟨h0, h3⟩ := hk
  have hm : 0 ≤ mx (n - 1) 0 ∧ mx (n - 1) 0 ≤ 1000 := by unfold mx; split <;> omega
  obtain ⟨m, hm'⟩ : ∃ m, mx (n - 1) 0 = m := ⟨_, rfl⟩
  rw [hm'] at hm ⊢
  unfold mx at hm'
  obtain ⟨hm0, hm1⟩ := hm
  go_enter Tryd.func16, Tryd.ntmps16
  go_wp2_with (first | (go_at_call 44; (with_reducible refine (clip_any k _).mono ?_); rintro e w1 ⟨rfl, rfl⟩; rw [Hcl.out]) | (go_at_call 43; (with_reducible refine (last_any m v l _ hr hm0 hm1 Hb.out).mono ?_); rintro e w1 ⟨v1, rfl, H1, H2⟩))
  go_ret
  exact ⟨_, rfl, H1, H2⟩
end Go.Proofs.YtkbbliicijnpjaaDoor.Ca
end

/- Cb: ctx.Of. -/
section
namespace Go.Proofs.YtkbbliicijnpjaaDoor.Ca
open Go.RowKit Go.Proofs.YtkbbliicijnpjaaDoorW.PrintWords Go.Proofs.YtkbbliicijnpjaaDoorW.PrintLast Go.Proofs.YtkbbliicijnpjaaDoorW.PrintMore
open Go.Proofs.YtkbbliicijnpjaaDoor.PCtxMakes Go.Proofs.YtkbbliicijnpjaaDoor.Base
attribute [local go_sem] max2_int min2_int max_two min_two

def ofL (k : Int) (site : Int) (l : List Int) : List Int := lastL (clipI k) (l ++ [site])

set_option maxHeartbeats 4000000 in
set_option maxRecDepth 100000 in
theorem of_any (k site : Int) (u : Value) (l : List Int) (w : World) (hr : RdV w u l) (hb : l.length * 8 ≤ 140737488351232) :
    Calls Tryd.prog 15 #[.int .i64 k, .agg #[.int .i64 site, u]] w fun e w' => ∃ v, e = .returned v ∧ OwI w' w.heap.size v (ofL k site l) ∧ Below w.heap.size w w' := by
  obtain ⟨b, hbs⟩ : ∃ b, w.heap.size = b := ⟨_, rfl⟩
  have hwb : ∀ wb, w.alloc (.cells #[.int .i64 site, u] 36) = wb → wb.cell? ⟨b, 0, none⟩ = some (.int .i64 site) ∧ wb.cell? ⟨b, 1, none⟩ = some (u) ∧ RdV wb u l ∧ Below w.heap.size w wb := by
    rintro wb rfl
    subst hbs
    exact ⟨by simp, by simp, hr.alloc _, below_alloc (Below.refl _ _) _⟩
  have Hb := Aside0.mk hb
  clear hr hb
  have hk := clipI_bd k
  unfold ofL
  generalize hcl : clipI k = n at *
  have Hcl := Aside0.mk hcl
  clear hcl
  obtain ⟨h0, h3⟩ := hk
  go_enter Tryd.func15, Tryd.ntmps15
  go_wp2_with fail
  clear hbs
  generalize hq : w.alloc (.cells #[.int .i64 site, u] 36) = wb
  obtain ⟨c0, c1, hr, hB⟩ := hwb wb hq
  clear hwb hq
  have HBr := Below.refl wb.heap.size wb
  go_region_held3 (fun w' => w'.cell? ⟨b, 0, none⟩ = some (.int .i64 site) ∧ w'.cell? ⟨b, 1, none⟩ = some (u) ∧ Below wb.heap.size wb w') (first | (exact ⟨bel_cell HB1 c0, bel_cell HB1 c1, HB1⟩) | go_keep)
   (first | (go_at_call 44; (with_reducible refine (clip_any k _).mono ?_); rintro e w1 ⟨rfl, rfl⟩; rw [Hcl.out]) | (go_at_call 45; (with_reducible refine (clone_any u l _ (by simp [*]) (by have := Hb.out; omega)).mono ?_); rintro e w1 ⟨v1, rfl, H1, H2⟩; obtain ⟨hc1, hf1⟩ := bcell H2; have HB1 := bel_trans (wb := wb) (by simp [*]) H2; have H1' := OwI.lower (base' := wb.heap.size) H1 (bel_size (by simp [*]))) | (refine app_stepB (wb := wb) (by rfl) (.tmp 9) (.tmp 12) (by rfl) v1 _ l [site] (by rfl) (by rfl) (by simp [*]) (RdV.one (by simp [*])) (by simp [*]) (by have := Hb.out; simp; omega) ?_; intro v2 w2 H3 HB1 hg2 hat2; clear hg2 hat2; have H3v := H3.toV) | (go_at_call 43; (with_reducible refine (last_any n v2 (l ++ [site]) _ (by simp [*]) h0 (by omega) (by have := Hb.out; simp; omega)).mono ?_); rintro e w3 ⟨v3, rfl, H5, H6⟩; have HB1 := bel_trans (wb := wb) (by simp [*]) H6; have H5' := OwI.lower (base' := wb.heap.size) H5 (bel_size (by simp [*]))) | (fail))
  all_goals (go_wp2; go_ret; exact ⟨_, rfl, OwI.lower H5' hB.size, below_then hB hB.size HB1⟩)
end Go.Proofs.YtkbbliicijnpjaaDoor.Ca
end

/- Cc: winnowerref01.Same; intern.New; ctx.New; the example of the layer ctx. -/
section
namespace Go.Proofs.YtkbbliicijnpjaaDoor.Ca
open Go.RowKit Go.Proofs.YtkbbliicijnpjaaDoorW.PrintWords Go.Proofs.YtkbbliicijnpjaaDoorW.PrintLast Go.Proofs.YtkbbliicijnpjaaDoorW.PrintMore
open Go.Proofs.YtkbbliicijnpjaaDoor.PCtxMakes Go.Proofs.YtkbbliicijnpjaaDoor.Base
attribute [local go_sem] max2_int min2_int max_two min_two

theorem same_loop (l m : List Int) (hl : l.length = m.length) (hmax : l.length ≤ 9223372036854775807) (d : Nat) : ∀ (k i : Nat), i + d = l.length → d < k →
    winnowerref01_Same.l0 k l m i = some (decide (l.drop i = m.drop i)) := by
  induction d with
  | zero =>
    intro k i hi hk
    obtain ⟨k, rfl⟩ : ∃ n, k = n + 1 := ⟨k - 1, by omega⟩
    simp only [winnowerref01_Same.l0]
    rw [if_neg (by omega), List.drop_eq_nil_of_le (by omega), List.drop_eq_nil_of_le (by omega)]
    simp
  | succ d ih =>
    intro k i hi hk
    obtain ⟨k, rfl⟩ : ∃ n, k = n + 1 := ⟨k - 1, by omega⟩
    simp only [winnowerref01_Same.l0]
    have h1 : i < l.length := by omega
    have h2 : i < m.length := by omega
    rw [if_pos (by omega), if_pos (by omega), if_pos (by omega)]
    have hw : wrap64 ((i : Int) + 1) = ((i + 1 : Nat) : Int) := by unfold wrap64; omega
    rw [hw, List.drop_eq_getElem_cons h1, List.drop_eq_getElem_cons h2, ih k (i + 1) (by omega) (by omega)]
    have e1 : rd l i = l[i] := by simp [rd, h1]
    have e2 : rd m i = m[i] := by simp [rd, h2]
    rw [e1, e2]
    by_cases h : l[i] = m[i]
    · rw [if_pos h]; simp only [List.cons.injEq, h, true_and]
    · rw [if_neg h]; simp only [List.cons.injEq, h, false_and, decide_false]

theorem same_f (l m : List Int) (hmax : l.length ≤ 9223372036854775807) : winnowerref01_Same.f (l.length + 1) l m = some (l == m) := by
  unfold winnowerref01_Same.f
  by_cases h : l.length = m.length
  · rw [if_pos (by omega)]
    have := same_loop l m h hmax l.length (l.length + 1) 0 (by omega) (by omega)
    rw [Int.natCast_zero] at this
    rw [this]
    simp only [List.drop_zero]
    congr 1
    rw [Bool.eq_iff_iff]
    simp
  · rw [if_neg (by omega)]
    have : l ≠ m := fun e => h (by rw [e])
    simp [this]

theorem same_any (u v : Value) (l m : List Int) (w : World) (hu : RdV w u l) (hv : RdV w v m) :
    Calls Tryd.prog 17 #[u, v] w fun e w' => e = .returned (.bool (l == m)) ∧ Below w.heap.size w w' := by
  obtain ⟨A, c, rfl, hc, hr⟩ := hu
  obtain ⟨A', c', rfl, hc', hr'⟩ := hv
  exact (winnowerref01_Same.calls (l.length + 1) A c l A' c' m (l == m) w hr.out hc hr'.out hc' (same_f l m hr.max)).mono fun e w' ⟨h1, h2⟩ => ⟨h1, h2.below⟩

/-- the world behind intern.New -/
def internW (w : World) : World := ((w.alloc (.map #[] 0)).alloc (.map #[] 0)).alloc (.cells #[.map (some w.heap.size), .slice none 0 0, .map (some (w.heap.size + 1)), .slice none 0 0] 119)

set_option maxHeartbeats 400000 in
set_option maxRecDepth 100000 in
theorem internNew_any (w : World) : Calls Tryd.prog 53 #[] w fun e w' => e = .returned (.pointer (some ⟨w.heap.size + 2, 0, none⟩)) ∧ w' = internW w := by
  have hmm := @run_makeMap Tryd.prog
  go_enter Tryd.func53, Tryd.ntmps53
  go_wp2
  go_ret
  exact ⟨rfl, rfl⟩

/-- the world behind ctx.New -/
def ctxW (w : World) : World := (internW (internW w)).alloc (.cells #[.pointer (some ⟨w.heap.size + 2, 0, none⟩), .pointer (some ⟨w.heap.size + 5, 0, none⟩)] 58)
theorem internW_size (w : World) : (internW w).heap.size = w.heap.size + 3 := by simp [internW]
theorem ctxW_size (w : World) : (ctxW w).heap.size = w.heap.size + 7 := by simp [ctxW, internW_size]
theorem internW_below (w : World) : Below w.heap.size w (internW w) := below_alloc (below_alloc (below_alloc (Below.refl _ _) _) _) _
theorem ctxW_below (w : World) : Below w.heap.size w (ctxW w) := below_alloc (bel_trans (internW_below w) (internW_below _)) _

set_option maxHeartbeats 400000 in
set_option maxRecDepth 100000 in
theorem ctxNew_any (w : World) : Calls Tryd.prog 25 #[] w fun e w' => e = .returned (.pointer (some ⟨w.heap.size + 6, 0, none⟩)) ∧ w' = ctxW w := by
  go_enter Tryd.func25, Tryd.ntmps25
  have h1 := internW_size w
  have h2 := internW_size (internW w)
  go_wp2_with (first | (go_at_call 53; (with_reducible refine (internNew_any _).mono ?_); rintro e w1 ⟨rfl, rfl⟩))
  go_ret
  exact ⟨rfl, rfl⟩

theorem of_ex : ofL 2 5 [3, 4] = [4, 5] := by decide
theorem made_ex : madeL 2 [3, 4] = [4] := by decide

set_option maxHeartbeats 1000000 in
set_option maxRecDepth 100000 in
theorem awake_any (w : World) : Calls Tryd.prog 14 #[] w fun e w' => e = .returned (.bool true) ∧ Below w.heap.size w w' := by
  have e1 : (([4, 5] : List Int) == [4, 5] : Bool) = true := by decide
  have e2 : (([4] : List Int) == [4] : Bool) = true := by decide
  have HB0 := Below.refl w.heap.size w
  go_enter Tryd.func14, Tryd.ntmps14
  go_wp2_with fail
  refine (of_any 2 5 _ [3, 4] _ (OwI.lit _ [3, 4] (by decide)).toV (by decide)).mono ?_
  rintro e w1 ⟨v1, rfl, h1, h2⟩
  rw [of_ex] at h1
  have HB1 : Below w.heap.size w w1 := bel_trans (by simp [*]) h2
  have h1v := (h1.toV).alloc (.cells #[.int .i64 4, .int .i64 5] 3)
  clear h1 h2
  go_wp2_with fail
  refine (same_any v1 _ [4, 5] [4, 5] _ h1v (OwI.lit _ [4, 5] (by decide)).toV).mono ?_
  rintro e w2 ⟨rfl, h2⟩
  rw [e1]
  have HB2 : Below w.heap.size w w2 := bel_trans (by simp [*]) h2
  clear h1v h2
  go_wp2_with fail
  refine (made_any 2 _ [3, 4] _ (OwI.lit _ [3, 4] (by decide)).toV (by decide)).mono ?_
  rintro e w3 ⟨v3, rfl, h1, h2⟩
  rw [made_ex] at h1
  have HB3 : Below w.heap.size w w3 := bel_trans (by simp [*]) h2
  have h1v := (h1.toV).alloc (.cells #[.int .i64 4] 3)
  clear h1 h2
  go_wp2_with fail
  refine (same_any v3 _ [4] [4] _ h1v (OwI.lit _ [4] (by decide)).toV).mono ?_
  rintro e w4 ⟨rfl, h2⟩
  rw [e2]
  have HB4 : Below w.heap.size w w4 := bel_trans (by simp [*]) h2
  clear h1v h2
  go_wp2_with fail
  refine (ctxNew_any _).mono ?_
  rintro e w5 ⟨rfl, h5⟩
  have HB5 : Below w.heap.size w w5 := by rw [h5]; exact bel_trans HB4 (ctxW_below _)
  clear h5
  go_wp2
  go_ret
  exact ⟨rfl, HB5⟩
end Go.Proofs.YtkbbliicijnpjaaDoor.Ca
end
