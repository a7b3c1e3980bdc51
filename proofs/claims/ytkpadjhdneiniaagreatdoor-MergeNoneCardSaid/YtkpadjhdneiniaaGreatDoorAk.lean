/- Ak, Ba, Bb, Bc -/
import Derived.Test.YtkpadjhdneiniaaGreatDoorAd
import Derived.Test.YtkpadjhdneiniaaGreatDoorZe
/- Ak: Lists of lists: how they read; the document's Find, Step. -/
section
namespace Go.Proofs.YtkpadjhdneiniaaGreatDoor.Am
set_option linter.unusedVariables false
open Go.RowKit Go.Proofs.YtkpadjhdneiniaaGreatDoorW.PrintWords Go.Proofs.YtkpadjhdneiniaaGreatDoorW.PrintLast Go.Proofs.YtkpadjhdneiniaaGreatDoorW.PrintMore Go.Maps
open Go.Proofs.YtkpadjhdneiniaaGreatDoor.Base Go.Proofs.YtkpadjhdneiniaaGreatDoor.Map Go.Proofs.YtkpadjhdneiniaaGreatDoor.Sl Go.Proofs.YtkpadjhdneiniaaGreatDoor.Ow Go.Proofs.YtkpadjhdneiniaaGreatDoor.Se Go.Proofs.YtkpadjhdneiniaaGreatDoor.Gr Go.Proofs.YtkpadjhdneiniaaGreatDoor.Rf Go.Proofs.YtkpadjhdneiniaaGreatDoor.Tx Go.Proofs.YtkpadjhdneiniaaGreatDoor.Au


/-- v reads as lists of numbers -/
structure RdL (w : World) (v : Value) (L : List (List Int)) : Prop where
  mk :: (out : ∃ A c, v = .slice A L.length c ∧ L.length ≤ c ∧ ∀ j, j < L.length → ∃ ad x, A = some ad ∧ w.cell? (ad.add j) = some (encH x) ∧ RdV w (encH x) (L.getD j []))
theorem RdL.below {w w1 : World} {v : Value} {L : List (List Int)} (h : RdL w v L) (hb : Below w.heap.size w w1) : RdL w1 v L := by
  obtain ⟨A, c, h1, h2, h3⟩ := h
  refine ⟨A, c, h1, h2, fun j hj => ?_⟩
  obtain ⟨ad, x, e1, e2, e3⟩ := h3 j hj
  exact ⟨ad, x, e1, pw_cell_below hb e2, e3.below hb⟩
theorem RdL.at_ {w : World} {A : Option Addr} {n c : Nat} {L : List (List Int)} (h : RdL w (.slice A n c) L) {j : Nat} (hj : j < L.length) : ∃ ad xa xn xc, A = some ad ∧ w.cell? (ad.add j) = some (.slice xa xn xc) ∧ RdV w (.slice xa xn xc) (L.getD j []) := by
  obtain ⟨A', c', h1, h2, h3⟩ := h
  cases h1
  obtain ⟨ad, ⟨xa, xn, xc⟩, e1, e2, e3⟩ := h3 j hj
  exact ⟨ad, xa, xn, xc, e1, e2, e3⟩
theorem RdL.len {w : World} {v : Value} {L : List (List Int)} (h : RdL w v L) : ∃ A c, v = .slice A L.length c := by
  obtain ⟨A, c, h1, h2, h3⟩ := h
  exact ⟨A, c, h1⟩
/-- v is made of F, and reads so whatever changes of F -/
structure OwL (w : World) (F : Nat → Prop) (v : Value) (L : List (List Int)) : Prop where
  mk :: (out : ∃ hs : List SlH, Kd.R kH 26 w 0 F v hs ∧ hs.length = L.length ∧ ∀ j, j < L.length → Stay F w (encH (hs.getD j noH)) (L.getD j []))
theorem OwL.toL {w : World} {F : Nat → Prop} {v : Value} {L : List (List Int)} (h : OwL w F v L) : RdL w v L := by
  obtain ⟨hs, h2, h3, h4⟩ := h
  obtain ⟨A, c, rfl, hc, hr⟩ := Kd.R_reads h2
  refine ⟨A, c, by rw [h3], by omega, fun j hj => ?_⟩
  obtain ⟨ad, cc, hA, _, hk, hcc⟩ := Kd.C_get hr noH (j : Int) (by omega) (by omega)
  rw [Int.toNat_natCast] at hk hcc
  have hk' : cc = [encH (hs.getD j noH)] := hk
  subst hk'
  refine ⟨ad, hs.getD j noH, hA, ?_, (h4 j hj).rd⟩
  have := hcc 0 _ rfl
  have e : j * kH.sz + 0 = j := by show j * 1 + 0 = j; omega
  rw [e] at this
  exact this
theorem OwL.below {w w1 : World} {F : Nat → Prop} {v : Value} {L : List (List Int)} (h : OwL w F v L) (hb : Below w.heap.size w w1) : OwL w1 F v L := by
  obtain ⟨hs, h2, h3, h4⟩ := h
  exact ⟨hs, Kd.R_below h2 hb, h3, fun j hj => (h4 j hj).below hb⟩
/-- one more -/
theorem OwL.snoc {w w2 : World} {F : Nat → Prop} {v2 : Value} {L : List (List Int)} {hs : List SlH} {x : SlH} {l : List Int} (h3 : hs.length = L.length) (h4 : ∀ j, j < L.length → Stay F w (encH (hs.getD j noH)) (L.getD j [])) (hu : Stay F w (encH x) l)
    (hR : Kd.R kH 26 w2 0 (ext F w w2) v2 (hs ++ [x])) (hC : Chg F w w2) : OwL w2 (ext F w w2) v2 (L ++ [l]) := by
  have hF : ∀ k, ext F w w2 k → F k ∨ w.heap.size ≤ k := fun k hk => hk.elim .inl (fun h => .inr h.1)
  refine ⟨hs ++ [x], hR, by simp [h3], fun j hj => ?_⟩
  rw [List.length_append, List.length_singleton] at hj
  by_cases e : j < L.length
  · have e1 : (hs ++ [x]).getD j noH = hs.getD j noH := by rw [List.getD_eq_getElem?_getD, List.getD_eq_getElem?_getD, List.getElem?_append_left (by omega)]
    have e2 : (L ++ [l]).getD j [] = L.getD j [] := by rw [List.getD_eq_getElem?_getD, List.getD_eq_getElem?_getD, List.getElem?_append_left e]
    rw [e1, e2]
    exact (h4 j e).next hC hF
  · have e1 : (hs ++ [x]).getD j noH = x := by
      obtain rfl : j = hs.length := by omega
      rw [List.getD_eq_getElem?_getD, List.getElem?_append_right (Nat.le_refl _)]; simp
    have e2 : (L ++ [l]).getD j [] = l := by
      obtain rfl : j = L.length := by omega
      rw [List.getD_eq_getElem?_getD, List.getElem?_append_right (Nat.le_refl _)]; simp
    rw [e1, e2]
    exact hu.next hC hF
/-- one, in a block of its own -/
theorem OwL.one {w : World} {F : Nat → Prop} {g : Nat} {x : SlH} {l : List Int} (hF : F g) (hg : w.heap[g]? = some (.cells #[encH x] 26 (0, 0))) (hu : Stay F w (encH x) l) : OwL w F (.slice (some ⟨g, 0, none⟩) 1 1) [l] :=
  ⟨[x], Kd.R_of_own ⟨by simp [encs], .inr ⟨g, 1, #[encH x], rfl, Nat.zero_le _, hg, Nat.le_refl _, by unfold maxLen; omega, rfl, rfl⟩⟩ (fun k hk => by cases hk; exact hF), rfl, fun j hj => by
    obtain rfl : j = 0 := by simpa using hj
    exact hu⟩
/-- where a list stands; -1: nowhere -/
def findG (L : List (List Int)) (s : List Int) : Int := if s ∈ L then ((L.idxOf s : Nat) : Int) else -1
theorem findG_at {L : List (List Int)} {s : List Int} {i : Nat} (hi : i < L.length) (hn : s ∉ L.take i) (h : L.getD i [] = s) : findG L s = (i : Int) := by
  have hm : s ∈ L := by rw [← h]; exact getD_mem hi
  unfold findG
  rw [if_pos hm]
  have e : L = L.take i ++ s :: L.drop (i + 1) := by
    conv => lhs; rw [← List.take_append_drop i L]
    rw [List.drop_eq_getElem_cons hi, ← h, List.getD_eq_getElem?_getD, List.getElem?_eq_getElem hi]; rfl
  have e2 : L.idxOf s = i := by
    conv => lhs; rw [e]
    rw [List.idxOf_append, if_neg hn, List.idxOf_cons_self, List.length_take]; omega
  rw [e2]
theorem take_snocL {L : List (List Int)} {i : Nat} (hi : i < L.length) : L.take (i + 1) = L.take i ++ [L.getD i []] := by
  rw [List.take_succ_eq_append_getElem hi]; simp [List.getElem?_eq_getElem hi]
set_option maxHeartbeats 8000000 in
set_option maxRecDepth 100000 in
theorem find_any (v u : Value) (L : List (List Int)) (s : List Int) (w : World) (hv : RdL w v L) (hu : RdV w u s) (hl : L.length ≤ 1000000) :
    Calls Tryz.prog 67 #[v, u] w fun e w' => e = .returned (.int .i64 (findG L s)) ∧ Below w.heap.size w w' := by
  obtain ⟨A, c, rfl⟩ := hv.len
  have HV := Aside0.mk hv
  have HU := Aside0.mk hu
  obtain ⟨r, hr⟩ : ∃ r, findG L s = r := ⟨_, rfl⟩
  rw [hr]
  have Hr := Aside0.mk hr
  obtain ⟨n, hn⟩ : ∃ n, L.length = n := ⟨_, rfl⟩
  have Hn := Aside0.mk (And.intro hn hl)
  rw [hn] at HV ⊢
  clear hv hu hr hl hn
  go_enter Tryz.func67, Tryz.ntmps67
  go_wp2_with fail
  go_loopw [5] (fun I wr => ∃ i : Nat, I = .int .i64 (i : Int) ∧ i ≤ n ∧ Aside0 (s ∉ L.take i) ∧ Aside0 (Below w.heap.size w wr)) (fun I _ => n - (intOf I).toNat)
  case atStart => exact ⟨0, rfl, Nat.zero_le _, ⟨by simp⟩, ⟨Below.refl _ _⟩⟩
  case round =>
    obtain ⟨i, rfl, hi, HE, HB⟩ := hrel
    by_cases hin : i < n
    · have hnb : decide ((i : Int) < (n : Int)) = true := decide_eq_true (by omega)
      have hnc : decide (i < n) = true := decide_eq_true hin
      have hil : i < L.length := by rw [Hn.out.1]; exact hin
      obtain ⟨ad, xa, xn, xc, rfl, e0, e1⟩ := (HV.out.below HB.out).at_ hil
      have HS := Aside0.mk (same_any (.slice xa xn xc) u (L.getD i []) s wr e1 (HU.out.below HB.out))
      have i0 : 0 ≤ (i : Int) := by omega
      have i1 : (i : Int) < (n : Int) := by omega
      have i3 : (i : Int) < 1000000 := by have := Hn.out; omega
      have Hin := Aside0.mk (And.intro hin hil)
      clear hin hi hil e1
      replace i0 := eq_true i0
      replace i1 := eq_true i1
      go_wp2_with fail
      refine HS.out.mono ?_
      rintro e w2 ⟨rfl, r1⟩
      by_cases hxy : L.getD i [] = s
      · have hr : r = (i : Int) := by rw [← Hr.out]; exact findG_at Hin.out.2 HE.out hxy
        have d := decide_eq_true hxy
        rw [d]
        subst hr
        have HB2 := Aside0.mk (bel_trans HB.out r1)
        clear hxy d r1
        go_wp2_with fail
        go_ret
        exact ⟨rfl, HB2.out⟩
      · have d := decide_eq_false hxy
        rw [d]
        have HE' : Aside0 (s ∉ L.take (i + 1)) := ⟨by rw [take_snocL Hin.out.2]; intro h; rcases List.mem_append.1 h with h | h; exact HE.out h; rw [List.mem_singleton] at h; exact hxy h.symm⟩
        have HB2 := Aside0.mk (bel_trans HB.out r1)
        clear hxy d r1
        go_wp2_with fail
        go_roundw
        case rel => exact ⟨i + 1, by go_num, Hin.out.1, HE', HB2⟩
        case measure => have := Hin.out.1; simp [intOf]; omega
    · have hnb : decide ((i : Int) < (n : Int)) = false := decide_eq_false (by omega)
      have hnc : decide (i < n) = false := decide_eq_false hin
      obtain rfl : i = n := by omega
      have hr : r = -1 := by
        rw [← Hr.out]
        have := HE.out
        rw [List.take_of_length_le (by rw [Hn.out.1]; exact Nat.le_refl _)] at this
        exact if_neg this
      have Hr2 := Aside0.mk hr
      clear hin hi hr
      go_wp2_with fail
      go_ret
      rw [Hr2.out]
      exact ⟨rfl, HB.out⟩
end Go.Proofs.YtkpadjhdneiniaaGreatDoor.Am
end

/- Ba: The document's Step, Led, Single. -/
section
namespace Go.Proofs.YtkpadjhdneiniaaGreatDoor.Am
set_option linter.unusedVariables false
open Go.RowKit Go.Proofs.YtkpadjhdneiniaaGreatDoorW.PrintWords Go.Proofs.YtkpadjhdneiniaaGreatDoorW.PrintLast Go.Proofs.YtkpadjhdneiniaaGreatDoorW.PrintMore Go.Maps
open Go.Proofs.YtkpadjhdneiniaaGreatDoor.Base Go.Proofs.YtkpadjhdneiniaaGreatDoor.Map Go.Proofs.YtkpadjhdneiniaaGreatDoor.Sl Go.Proofs.YtkpadjhdneiniaaGreatDoor.Ow Go.Proofs.YtkpadjhdneiniaaGreatDoor.Se Go.Proofs.YtkpadjhdneiniaaGreatDoor.Gr Go.Proofs.YtkpadjhdneiniaaGreatDoor.Rf Go.Proofs.YtkpadjhdneiniaaGreatDoor.Tx Go.Proofs.YtkpadjhdneiniaaGreatDoor.Au


def rstepG (E : List GE) (L : List (List Int)) (i f : Int) : Int := if 0 ≤ i ∧ i < L.length then (if nextG E f (L.getD i.toNat []) = [] then -1 else findG L (nextG E f (L.getD i.toNat []))) else -1
/-- all objects that a word leads to -/
def ledG (E : List GE) (o : Int) (word : List Int) : List Int := word.foldl (fun s f => nextG E f s) [o]
theorem ledG_snoc (E : List GE) (o : Int) (word : List Int) (f : Int) : ledG E o (word ++ [f]) = nextG E f (ledG E o word) := by unfold ledG; rw [List.foldl_append]; rfl
theorem led_nil (E : List GE) : ∀ (l : List Int), l.foldl (fun s f => nextG E f s) ([] : List Int) = []
  | [] => rfl
  | f :: l => by
    show l.foldl (fun s f => nextG E f s) (nextG E f []) = []
    rw [Au.next_nil]; exact led_nil E l
theorem ledG_stop {E : List GE} {o : Int} {word : List Int} {i : Nat} (h : ledG E o (word.take i) = []) : ledG E o word = [] := by
  have e : ledG E o (word.take i ++ word.drop i) = (word.drop i).foldl (fun s f => nextG E f s) (ledG E o (word.take i)) := by unfold ledG; rw [List.foldl_append]
  rw [List.take_append_drop, h, led_nil] at e
  exact e
set_option maxHeartbeats 8000000 in
set_option maxRecDepth 100000 in
theorem rled_any (A A2 : Option Addr) (n c c2 : Nat) (E : List GE) (o : Int) (v : Value) (l : List Int) (w : World) (hE : RdE w A2 E) (hv : RdV w v l) (hl : E.length ≤ 1000) (hll : l.length ≤ 1000000) :
    Calls Tryz.prog 25 #[.agg #[.slice A n c, .slice A2 E.length c2], .int .i64 o, v] w fun e w' => ∃ u, e = .returned u ∧ RdV w' u (ledG E o l) ∧ Below w.heap.size w w' := by
  obtain ⟨B, cB, rfl, hcB, hr⟩ := hv
  have HR := Aside0.mk hr
  have HE := Aside0.mk (And.intro hE (And.intro hl hll))
  obtain ⟨W, hW⟩ : ∃ W, w.alloc (.cells #[.slice A n c, .slice A2 E.length c2] 25) = W := ⟨_, rfl⟩
  have HBW := Aside0.mk (show Below w.heap.size w W by rw [← hW]; exact below_alloc (Below.refl _ _) _)
  have Hb := Aside0.mk (show W.heap[w.heap.size]? = some (.cells #[.slice A n c, .slice A2 E.length c2] 25 (0, 0)) by rw [← hW]; exact heap_alloc_new _ _)
  obtain ⟨g, hg⟩ : ∃ g, w.heap.size = g := ⟨_, rfl⟩
  rw [hg] at Hb
  obtain ⟨W2, hW2⟩ : ∃ W2, W.alloc (.cells #[.int .i64 o] 3) = W2 := ⟨_, rfl⟩
  have HB2 := Aside0.mk (show Below W.heap.size W W2 by rw [← hW2]; exact below_alloc (Below.refl _ _) _)
  have HV2 := Aside0.mk (show RdV W2 (.slice (some ⟨W.heap.size, 0, none⟩) 1 1) [o] by rw [← hW2]; exact rdV_lit (l := [o]) (heap_alloc_new _ _) rfl (by simp))
  obtain ⟨g2, hg2⟩ : ∃ g, W.heap.size = g := ⟨_, rfl⟩
  rw [hg2] at HV2
  obtain ⟨nE, hnE⟩ : ∃ nE, E.length = nE := ⟨_, rfl⟩
  have HnE := Aside0.mk hnE
  rw [hnE] at hW Hb ⊢
  clear hr hE hl hll hcB hnE
  go_enter Tryz.func25, Tryz.ntmps25
  go_wp2_with fail
  have HBw2 := Aside0.mk (show Below w.heap.size w W2 from bel_trans HBW.out HB2.out)
  have Hb2 := Aside0.mk (Ow.blk_below Hb.out HB2.out)
  clear hW hW2
  go_loopw [7, 8] (fun U I wr => ∃ i : Nat, I = .int .i64 (i : Int) ∧ i ≤ l.length ∧ Aside0 (RdV wr U (ledG E o (l.take i))) ∧ Aside0 (Below W2.heap.size W2 wr)) (fun _ I _ => l.length - (intOf I).toNat)
  case atStart => exact ⟨0, rfl, Nat.zero_le _, HV2, ⟨Below.refl _ _⟩⟩
  case round =>
    obtain ⟨i, rfl, hi, HU, HB⟩ := hrel
    obtain ⟨A5, c5, hu5, -, -⟩ := HU.out
    subst hu5
    by_cases hin : i < l.length
    · have hnb : decide ((i : Int) < (l.length : Int)) = true := decide_eq_true (by omega)
      have hnc : decide (i < l.length) = true := decide_eq_true hin
      obtain ⟨t, ht⟩ : ∃ t, ledG E o (l.take i) = t := ⟨_, rfl⟩
      by_cases h0 : t = []
      · subst h0
        rw [ht] at HU ⊢
        have hst := ledG_stop ht
        have Hst := Aside0.mk (show RdV wr (.slice A5 0 c5) (ledG E o l) by rw [hst]; exact HU.out)
        have HB8 := Aside0.mk (bel_trans HBw2.out HB.out)
        clear hin hi ht hst
        go_wp2_with fail
        go_ret
        exact ⟨_, rfl, Hst.out, by have h := HB8.out; first | exact h | (rw [hg] at h; exact h)⟩
      · have hp : 0 < t.length := List.length_pos_iff.2 h0
        have q1 : decide ((0 : Int) < (t.length : Int)) = true := decide_eq_true (by omega)
        have q2 : decide (0 < t.length) = true := decide_eq_true hp
        obtain ⟨ad, rfl, hx⟩ := (HR.out.below (bel_trans HBw2.out HB.out)).at_ (i : Int) (by omega) (by omega)
        rw [Int.toNat_natCast] at hx
        have hx2 : rd l (i : Int) = l.getD i 0 := by simp [rd]
        have htk := take_snoc hin
        obtain ⟨x, hxx⟩ : ∃ x, l.getD i 0 = x := ⟨_, rfl⟩
        rw [hx2, hxx] at hx
        rw [hxx] at htk
        have hls := ledG_snoc E o (l.take i) x
        rw [← htk, ht] at hls
        rw [ht] at HU ⊢
        have g0 : wr.cell? ⟨g, 0, none⟩ = some (.slice A n c) := blk_cellD (Ow.blk_below Hb2.out HB.out) 0 _ rfl
        have g1 : wr.cell? ⟨g, 1, none⟩ = some (.slice A2 nE c2) := blk_cellD (Ow.blk_below Hb2.out HB.out) 1 _ rfl
        have HN := Aside0.mk (fun (W' : World) (hb : Below wr.heap.size wr W') => rnext_any A A2 n c c2 E x (.slice A5 t.length c5) t W' (HE.out.1.below (bel_trans (bel_trans HBw2.out HB.out) hb)) (HU.out.below hb) HE.out.2.1)
        rw [HnE.out, ← hls] at HN
        have i0 : 0 ≤ (i : Int) := by omega
        have i1 : (i : Int) < (l.length : Int) := by omega
        have i3 : (i : Int) < 1000000 := by have := HE.out.2.2; omega
        have Hin := Aside0.mk hin
        obtain ⟨nt, hnt⟩ : ∃ nt, t.length = nt := ⟨_, rfl⟩
        rw [hnt] at q1 q2 HN ⊢
        clear hin hi ht hls htk hxx hx2 h0 hp hnt
        replace i0 := eq_true i0
        replace i1 := eq_true i1
        have HBr := Below.refl wr.heap.size wr
        go_wp2_with fail
        go_region_held3 (fun W' => W'.cell? ⟨g, 0, none⟩ = some (.slice A n c) ∧ W'.cell? ⟨g, 1, none⟩ = some (.slice A2 nE c2) ∧ W'.cell? (ad.add i) = some (.int .i64 x) ∧ Below wr.heap.size wr W') (first | (refine ⟨pw_cell_below (w := wr) ?_ g0, pw_cell_below (w := wr) ?_ g1, pw_cell_below (w := wr) ?_ hx, ?_⟩ <;> simp [*]) | go_keep)
          (first
            | (go_at_call 42; (with_reducible refine (HN.out _ (by simp [*])).mono ?_); rintro e w2 ⟨u, rfl, r1, r2⟩; have HU9 := Aside0.mk r1; have HB9 := bel_trans (wb := wr) (by simp [*]) r2; clear r1 r2)
            | fail)
        have HB8 := Aside0.mk (bel_trans HB.out HB9)
        clear HBr HB9 g0 g1 hx
        go_wp2_with fail
        go_roundw
        case rel => exact ⟨i + 1, by go_num, Hin.out, HU9, HB8⟩
        case measure => have := Hin.out; simp [intOf]; omega
    · have hnb : decide ((i : Int) < (l.length : Int)) = false := decide_eq_false (by omega)
      have hnc : decide (i < l.length) = false := decide_eq_false hin
      obtain rfl : i = l.length := by omega
      rw [List.take_length] at HU ⊢
      have HB8 := Aside0.mk (bel_trans HBw2.out HB.out)
      clear hin hi
      go_wp2_with fail
      go_ret
      exact ⟨_, rfl, HU.out, by have h := HB8.out; first | exact h | (rw [hg] at h; exact h)⟩
end Go.Proofs.YtkpadjhdneiniaaGreatDoor.Am
end

/- Bb: The document's Single and States. -/
section
namespace Go.Proofs.YtkpadjhdneiniaaGreatDoor.Am
set_option linter.unusedVariables false
open Go.RowKit Go.Proofs.YtkpadjhdneiniaaGreatDoorW.PrintWords Go.Proofs.YtkpadjhdneiniaaGreatDoorW.PrintLast Go.Proofs.YtkpadjhdneiniaaGreatDoorW.PrintMore Go.Maps
open Go.Proofs.YtkpadjhdneiniaaGreatDoor.Base Go.Proofs.YtkpadjhdneiniaaGreatDoor.Map Go.Proofs.YtkpadjhdneiniaaGreatDoor.Sl Go.Proofs.YtkpadjhdneiniaaGreatDoor.Ow Go.Proofs.YtkpadjhdneiniaaGreatDoor.Se Go.Proofs.YtkpadjhdneiniaaGreatDoor.Gr Go.Proofs.YtkpadjhdneiniaaGreatDoor.Rf Go.Proofs.YtkpadjhdneiniaaGreatDoor.Tx Go.Proofs.YtkpadjhdneiniaaGreatDoor.Au


set_option maxHeartbeats 8000000 in
set_option maxRecDepth 100000 in
theorem rsingle_any (A A2 : Option Addr) (c n2 c2 : Nat) (T : List ByteArray) (v : Value) (L : List (List Int)) (w : World) (hT : RdT w A T) (hv : RdL w v L) (hl : T.length ≤ 1000) (hs : ∀ s ∈ L, s.length ≤ 1000) (hL : L.length ≤ 1000000) (B : Bool) (hB : B = true ↔ SingleG T L) :
    Calls Tryz.prog 31 #[.agg #[.slice A T.length c, .slice A2 n2 c2], v] w fun e w' => e = .returned (.bool B) ∧ Below w.heap.size w w' := by
  obtain ⟨B4, cB, rfl⟩ := hv.len
  obtain ⟨W, hW⟩ : ∃ W, w.alloc (.cells #[.slice A T.length c, .slice A2 n2 c2] 25) = W := ⟨_, rfl⟩
  have HBW := Aside0.mk (show Below w.heap.size w W by rw [← hW]; exact below_alloc (Below.refl _ _) _)
  have Hb := Aside0.mk (show W.heap[w.heap.size]? = some (.cells #[.slice A T.length c, .slice A2 n2 c2] 25 (0, 0)) by rw [← hW]; exact heap_alloc_new _ _)
  obtain ⟨g, hg⟩ : ∃ g, w.heap.size = g := ⟨_, rfl⟩
  rw [hg] at Hb
  have H := Aside0.mk (And.intro hT (And.intro hv (And.intro hl (And.intro hs (And.intro hL hB)))))
  obtain ⟨nT, hnT⟩ : ∃ nT, T.length = nT := ⟨_, rfl⟩
  have HnT := Aside0.mk hnT
  obtain ⟨nL, hnL⟩ : ∃ nL, L.length = nL := ⟨_, rfl⟩
  have HnL := Aside0.mk hnL
  rw [hnT] at hW Hb ⊢
  have HV := Aside0.mk (hv.below HBW.out)
  rw [hnL] at HV ⊢
  clear hT hv hl hs hL hB hnT hnL
  go_enter Tryz.func31, Tryz.ntmps31
  go_wp2_with fail
  clear hW
  go_loopw [5] (fun I wr => ∃ i : Nat, I = .int .i64 (i : Int) ∧ i ≤ nL ∧ Aside0 (SingleG T (L.take i)) ∧ Aside0 (Below W.heap.size W wr)) (fun I _ => nL - (intOf I).toNat)
  case atStart => exact ⟨0, rfl, Nat.zero_le _, ⟨by intro s hs; simp at hs⟩, ⟨Below.refl _ _⟩⟩
  case round =>
    obtain ⟨i, rfl, hi, HS, HB⟩ := hrel
    by_cases hin : i < nL
    · have hnb : decide ((i : Int) < (nL : Int)) = true := decide_eq_true (by omega)
      have hnc : decide (i < nL) = true := decide_eq_true hin
      have hil : i < L.length := by rw [HnL.out]; exact hin
      obtain ⟨ad, xa, xn, xc, rfl, e0, e1⟩ := (HV.out.below HB.out).at_ hil
      have g0 : wr.cell? ⟨g, 0, none⟩ = some (.slice A nT c) := blk_cellD (Ow.blk_below Hb.out HB.out) 0 _ rfl
      have g1 : wr.cell? ⟨g, 1, none⟩ = some (.slice A2 n2 c2) := blk_cellD (Ow.blk_below Hb.out HB.out) 1 _ rfl
      have HX := Aside0.mk (fun (W' : World) (hb : Below wr.heap.size wr W') => rtypes_any A A2 c n2 c2 T (.slice xa xn xc) (L.getD i []) W' ((H.out.1.below (bel_trans HBW.out HB.out)).below hb) (e1.below hb) ⟨by have := H.out.2.2.1; omega, by have := H.out.2.2.2.1 _ (getD_mem (d := []) hil); omega⟩)
      rw [HnT.out] at HX
      have i0 : 0 ≤ (i : Int) := by omega
      have i1 : (i : Int) < (nL : Int) := by omega
      have i3 : (i : Int) < 1000000 := by have := H.out.2.2.2.2.1; have := HnL.out; omega
      have Hin := Aside0.mk (And.intro hin hil)
      clear hin hi hil e1
      replace i0 := eq_true i0
      replace i1 := eq_true i1
      have HBr := Below.refl wr.heap.size wr
      go_wp2_with fail
      go_region_held3 (fun W' => W'.cell? ⟨g, 0, none⟩ = some (.slice A nT c) ∧ W'.cell? ⟨g, 1, none⟩ = some (.slice A2 n2 c2) ∧ W'.cell? (ad.add i) = some (.slice xa xn xc) ∧ Below wr.heap.size wr W') (first | (refine ⟨pw_cell_below (w := wr) ?_ g0, pw_cell_below (w := wr) ?_ g1, pw_cell_below (w := wr) ?_ e0, ?_⟩ <;> simp [*]) | go_keep)
        (first
          | (go_at_call 24; (with_reducible refine (HX.out _ (by simp [*])).mono ?_); rintro e w2 ⟨v2, S, rfl, r1, r2, r3⟩; have HR2 := Aside0.mk r2; have HB9 := bel_trans (wb := wr) (by simp [*]) r3; obtain ⟨A3, c3, rfl, hc3, hr3⟩ := r1; clear r2 r3 hc3 hr3)
          | fail)
      have HB2 := Aside0.mk (bel_trans HB.out HB9)
      rename_i hHeld
      clear HBr HB9 g0 g1 e0 hHeld
      by_cases h1 : S.length = 1
      · have q2 : ((S.length : Int) != 1) = false := by rw [h1]; rfl
        rw [q2]
        have H1 := Aside0.mk h1
        clear h1 q2
        go_wp2_with fail
        go_roundw
        case rel =>
          refine ⟨i + 1, by go_num, Hin.out.1, ⟨?_⟩, HB2⟩
          intro s hs S' hS'
          rw [take_snocL Hin.out.2] at hs
          rcases List.mem_append.1 hs with hs | hs
          · exact HS.out s hs S' hS'
          · rw [List.mem_singleton] at hs
            subst hs
            rw [← TypS.ext HR2.out hS']; exact H1.out
        case measure => have := Hin.out.1; simp [intOf]; omega
      · have q1 : decide ((S.length : Int) = 1) = false := decide_eq_false (by omega)
        have q2 : ((S.length : Int) != 1) = true := by simpa using (show (S.length : Int) ≠ 1 by omega)
        have hBf : B = false := by
          cases B with
          | false => rfl
          | true => exact absurd (H.out.2.2.2.2.2.1 rfl (L.getD i []) (getD_mem Hin.out.2) S HR2.out) h1
        have HBf := Aside0.mk hBf
        have HB8 := Aside0.mk (bel_trans HBW.out HB2.out)
        rw [q2]
        clear h1 hBf q1 q2
        go_wp2_with fail
        go_ret
        rw [HBf.out]
        exact ⟨rfl, by have h := HB8.out; first | exact h | (rw [hg] at h; exact h)⟩
    · have hnb : decide ((i : Int) < (nL : Int)) = false := decide_eq_false (by omega)
      have hnc : decide (i < nL) = false := decide_eq_false hin
      obtain rfl : i = nL := by omega
      have hBt : B = true := H.out.2.2.2.2.2.2 (by have := HS.out; rw [List.take_of_length_le (by rw [HnL.out]; exact Nat.le_refl _)] at this; exact this)
      have HBt := Aside0.mk hBt
      have HB8 := Aside0.mk (bel_trans HBW.out HB.out)
      clear hin hi hBt
      go_wp2_with fail
      go_ret
      rw [HBt.out]
      exact ⟨rfl, by have h := HB8.out; first | exact h | (rw [hg] at h; exact h)⟩
end Go.Proofs.YtkpadjhdneiniaaGreatDoor.Am
end

/- Bc: The document's States. -/
section
namespace Go.Proofs.YtkpadjhdneiniaaGreatDoor.Am
set_option linter.unusedVariables false
open Go.RowKit Go.Proofs.YtkpadjhdneiniaaGreatDoorW.PrintWords Go.Proofs.YtkpadjhdneiniaaGreatDoorW.PrintLast Go.Proofs.YtkpadjhdneiniaaGreatDoorW.PrintMore Go.Maps
open Go.Proofs.YtkpadjhdneiniaaGreatDoor.Base Go.Proofs.YtkpadjhdneiniaaGreatDoor.Map Go.Proofs.YtkpadjhdneiniaaGreatDoor.Sl Go.Proofs.YtkpadjhdneiniaaGreatDoor.Ow Go.Proofs.YtkpadjhdneiniaaGreatDoor.Se Go.Proofs.YtkpadjhdneiniaaGreatDoor.Gr Go.Proofs.YtkpadjhdneiniaaGreatDoor.Rf Go.Proofs.YtkpadjhdneiniaaGreatDoor.Tx Go.Proofs.YtkpadjhdneiniaaGreatDoor.Au


theorem _root_.Go.Proofs.YtkpadjhdneiniaaGreatDoor.Tx.Fr.lower {base base' : Nat} {w : World} {v : Value} {l : List Int} (h : Fr base w v l) (hb : base' ≤ base) : Fr base' w v l := ⟨fun W hW => h.out W (hW.mono (fun k _ hk => Nat.lt_of_lt_of_le hk hb))⟩
/-- what a call hands back -/
def FSaid (base : Nat) (W : World) (l : List Int) (e : Ending) (w' : World) : Prop := ∃ v, e = .returned v ∧ Fr base w' v l ∧ Below W.heap.size W w'
theorem _root_.Go.Proofs.YtkpadjhdneiniaaGreatDoor.Tx.Fr.stay {base : Nat} {G : Nat → Prop} {w : World} {v : Value} {l : List Int} (h : Fr base w v l) (hG : ∀ k, G k → k < base) : Stay G w v l := fun W hW => h.out W (hW.mono (fun k _ hk => hG k hk))
set_option maxHeartbeats 16000000 in
set_option maxRecDepth 100000 in
theorem rstates_any (A A2 : Option Addr) (n c c2 : Nat) (E : List GE) (o : Int) (w : World) (hE : RdE w A2 E) (hl : E.length ≤ 60) (hn : n ≤ 8) (hR : RightG n E) (h0 : 0 ≤ o) (h1 : o < n) :
    Calls Tryz.prog 29 #[.agg #[.slice A n c, .slice A2 E.length c2], .int .i64 o] w fun e w' => ∃ v, e = .returned v ∧ RdL w' v (statesG E n o) ∧ Below w.heap.size w w' := by
  obtain ⟨S, hS⟩ : ∃ S, statesG E n o = S := ⟨_, rfl⟩
  rw [hS]
  have HS := Aside0.mk hS
  have HSI := Aside0.mk (fun i => stT_inv hR h0 h1 i)
  have HSP := Aside0.mk (fun i => (show stT E o i <+: S by rw [← hS]; exact stT_sub E hR h0 h1 i))
  have HSl := Aside0.mk (show S.length ≤ 256 by
    have h2 := (states_inv hR h0 h1).len
    rw [hS] at h2
    exact Nat.le_trans h2 (Nat.pow_le_pow_right (by decide) hn))
  have HE := Aside0.mk (And.intro hE (And.intro hR (And.intro hn (And.intro hl (And.intro h0 h1)))))
  obtain ⟨W, hW⟩ : ∃ W, w.alloc (.cells #[.slice A n c, .slice A2 E.length c2] 25) = W := ⟨_, rfl⟩
  have HBW := Aside0.mk (show Below w.heap.size w W by rw [← hW]; exact below_alloc (Below.refl _ _) _)
  have Hb := Aside0.mk (show W.heap[w.heap.size]? = some (.cells #[.slice A n c, .slice A2 E.length c2] 25 (0, 0)) by rw [← hW]; exact heap_alloc_new _ _)
  have zW : W.heap.size = w.heap.size + 1 := by rw [← hW]; exact Array.size_push ..
  obtain ⟨g, hg⟩ : ∃ g, w.heap.size = g := ⟨_, rfl⟩
  rw [hg] at Hb
  obtain ⟨g1, hg1⟩ : ∃ g1, W.heap.size = g1 := ⟨_, rfl⟩
  obtain ⟨W1, hW1⟩ : ∃ W1, W.alloc (.cells #[.int .i64 o] 3) = W1 := ⟨_, rfl⟩
  have B1 : Below W.heap.size W W1 := by rw [← hW1]; exact below_alloc (Below.refl _ _) _
  have z1 : W1.heap.size = g1 + 1 := by rw [← hW1, ← hg1]; exact Array.size_push ..
  obtain ⟨g2, hg2⟩ : ∃ g2, W1.heap.size = g2 := ⟨_, rfl⟩
  obtain ⟨W2, hW2⟩ : ∃ W2, W1.alloc (.cells #[.slice (some ⟨g1, 0, none⟩) 1 1] 26) = W2 := ⟨_, rfl⟩
  have B2 : Below W1.heap.size W1 W2 := by rw [← hW2]; exact below_alloc (Below.refl _ _) _
  have z2 : W2.heap.size = g2 + 1 := by rw [← hW2, ← hg2]; exact Array.size_push ..
  have blk1 : W1.heap[g1]? = some (.cells #[.int .i64 o] 3 (0, 0)) := by rw [← hW1, ← hg1]; exact heap_alloc_new _ _
  have blk2 : W2.heap[g2]? = some (.cells #[.slice (some ⟨g1, 0, none⟩) 1 1] 26 (0, 0)) := by rw [← hW2, ← hg2]; exact heap_alloc_new _ _
  have HO2 := Aside0.mk (show OwL W2 (fun k => k = g2) (.slice (some ⟨g2, 0, none⟩) 1 1) (stT E o 0) by
    refine OwL.one (x := (some ⟨g1, 0, none⟩, 1, 1)) rfl blk2 (fun W' hC => ?_)
    have h := hC.blk (Ow.blk_below blk1 B2) (fun e => by omega)
    exact rdV_lit (l := [o]) h rfl (by simp))
  have HF2 := Aside0.mk (fun (k : Nat) (hk : k = g2) => (show W.heap.size ≤ k ∧ k < W2.heap.size by omega))
  have HB2 := Aside0.mk (bel_trans B1 B2)
  obtain ⟨nE, hnE⟩ : ∃ nE, E.length = nE := ⟨_, rfl⟩
  have HnE := Aside0.mk hnE
  rw [hnE] at hW Hb ⊢
  clear hS hR h0 h1 hE hn hl zW B1 z1 B2 z2 blk1 blk2 hnE
  go_enter Tryz.func29, Tryz.ntmps29
  go_wp2_with fail
  have HBw := Aside0.mk (show Below w.heap.size w W2 from bel_trans HBW.out HB2.out)
  have Hbg := Aside0.mk (Ow.blk_below Hb.out HB2.out)
  have Hgw := Aside0.mk Hb.out
  clear hW hW1 hW2 hg hg1 hg2 Hb
  go_loopw [5, 6] (fun V I wr => ∃ (i : Nat) (G : Nat → Prop), I = .int .i64 (i : Int) ∧ i ≤ 256 ∧ Aside0 (OwL wr G V (stT E o i)) ∧ Aside0 (∀ k, G k → W.heap.size ≤ k ∧ k < wr.heap.size) ∧ Aside0 (Below W.heap.size W wr) ∧ Aside0 (wr.heap[g]? = some (.cells #[.slice A n c, .slice A2 nE c2] 25 (0, 0)))) (fun _ I _ => 1000 - (intOf I).toNat)
  case atStart => exact ⟨0, _, rfl, by omega, HO2, HF2, HB2, Hbg⟩
  case round =>
    clear HO2 HF2 HB2 Hbg
    obtain ⟨i, G, rfl, hi, HV, HF, HB, Hb⟩ := hrel
    obtain ⟨AV, cV, hV⟩ := HV.out.toL.len
    subst hV
    obtain ⟨ln, hln⟩ : ∃ ln, (stT E o i).length = ln := ⟨_, rfl⟩
    have Hln := Aside0.mk hln
    have hl256 : ln ≤ 256 := by
      have h2 := (HSP.out i).length_le
      have h3 := HSl.out
      omega
    have i3 : (i : Int) ≤ 256 := by omega
    have Hl256 := Aside0.mk hl256
    rw [hln] at HV ⊢
    clear hln hl256
    by_cases hin : i < ln
    · have hnb : decide ((i : Int) < (ln : Int)) = true := decide_eq_true (by omega)
      have hnc : decide (i < ln) = true := decide_eq_true hin
      have hil : i < (stT E o i).length := by rw [Hln.out]; exact hin
      obtain ⟨ad, xa, xn, xc, had, e0, e1⟩ := HV.out.toL.at_ hil
      subst had
      have hs1 : (stT E o i).getD i [] = S.getD i [] := by
        rw [List.getD_eq_getElem?_getD, List.getD_eq_getElem?_getD, pre_get (HSP.out i) hil]
      have hsome : (stT E o i)[i]? = some (S.getD i []) := by
        rw [← hs1, List.getD_eq_getElem?_getD, List.getElem?_eq_getElem hil]; rfl
      have hsm : Sm n (S.getD i []) ∧ S.getD i [] ≠ [] := (HSI.out i).sm _ (by rw [← hs1]; exact getD_mem hil)
      have hnx := stT_some hsome
      have hfl := fields_len E (S.getD i [])
      rw [hs1] at e1
      obtain ⟨s, hss⟩ : ∃ s, S.getD i [] = s := ⟨_, rfl⟩
      rw [hss] at hs1 hsome hsm hnx hfl e1
      have HC := Aside0.mk (fun (W' : World) (hb : Below wr.heap.size wr W') => (rfieldsF_any A A2 n c c2 E (.slice xa xn xc) s W' (((HE.out.1.below HBW.out).below HB.out).below hb) (e1.below hb) (by have := HE.out.2.2.2.1; omega)).mono (fun e w' ⟨v, h1, h2, h3⟩ => (show FSaid wr.heap.size W' (fieldsG E s) e w' from ⟨v, h1, h2.lower hb.size, h3⟩)))
      obtain ⟨fl, hfl2⟩ : ∃ fl, fieldsG E s = fl := ⟨_, rfl⟩
      rw [hfl2] at hnx hfl HC
      rw [HnE.out] at HC
      have g0 : wr.cell? ⟨g, 0, none⟩ = some (.slice A n c) := blk_cellD Hb.out 0 _ rfl
      have g1' : wr.cell? ⟨g, 1, none⟩ = some (.slice A2 nE c2) := blk_cellD Hb.out 1 _ rfl
      have Hs := Aside0.mk (And.intro hss (And.intro hfl2 (And.intro hsm (And.intro hsome hnx))))
      have Hfl := Aside0.mk (show fl.length ≤ 60 by have := HE.out.2.2.2.1; omega)
      have Hin := Aside0.mk hin
      have i0 : 0 ≤ (i : Int) := by omega
      have i1 : (i : Int) < (ln : Int) := by omega
      clear hi hin hil hs1 hsome hsm hnx hfl e1 hss hfl2
      replace i0 := eq_true i0
      replace i1 := eq_true i1
      have HBr := Below.refl wr.heap.size wr
      go_wp2_with fail
      go_region_held3 (fun W' => W'.cell? ⟨g, 0, none⟩ = some (.slice A n c) ∧ W'.cell? ⟨g, 1, none⟩ = some (.slice A2 nE c2) ∧ W'.cell? (ad.add i) = some (.slice xa xn xc) ∧ Below wr.heap.size wr W') (first | (refine ⟨pw_cell_below (w := wr) ?_ g0, pw_cell_below (w := wr) ?_ g1', pw_cell_below (w := wr) ?_ e0, ?_⟩ <;> simp [*]) | go_keep)
        (first
          | (go_at_call 34; (with_reducible refine (HC.out _ (by simp [*])).mono ?_); rintro e w2 ⟨uf, rfl, r1, r2⟩; have HU := Aside0.mk r1; have HB9 := bel_trans (wb := wr) (by simp [*]) r2; clear r1 r2)
          | fail)
      rename_i hHeld
      obtain ⟨Af, cf, huf, -, -⟩ := HU.out.rd
      subst huf
      have HV3 := Aside0.mk (show Stay G w2 (.slice Af fl.length cf) fl from HU.out.stay (fun k hk => (HF.out k hk).2))
      have HA3 := Aside0.mk (show OwL w2 G (.slice (some ad) ln cV) (rowT E s (stT E o i) (fl.take 0)) from HV.out.below HB9)
      have HF3 := Aside0.mk (fun k (hk : G k) => (show W.heap.size ≤ k ∧ k < w2.heap.size from ⟨(HF.out k hk).1, by have := (HF.out k hk).2; have := HB9.size; omega⟩))
      have HB3 := Aside0.mk (bel_trans HB.out HB9)
      have Hb3 := Aside0.mk (Ow.blk_below Hb.out HB9)
      obtain ⟨m, hmm⟩ : ∃ m, fl.length = m := ⟨_, rfl⟩
      rw [hmm] at HV3 Hfl ⊢
      have Hmm := Aside0.mk hmm
      clear hHeld HBr HB9 g0 g1' e0 hmm HU HC
      go_wp2_with fail
      go_loopw [5, 8] (fun V I wx => ∃ (j : Nat) (G' : Nat → Prop), I = .int .i64 (j : Int) ∧ j ≤ m ∧ Aside0 (OwL wx G' V (rowT E s (stT E o i) (fl.take j))) ∧ Aside0 (Stay G' wx (.slice Af m cf) fl) ∧ Aside0 (∀ k, G' k → W.heap.size ≤ k ∧ k < wx.heap.size) ∧ Aside0 (Below W.heap.size W wx) ∧ Aside0 (wx.heap[g]? = some (.cells #[.slice A n c, .slice A2 nE c2] 25 (0, 0)))) (fun _ I _ => m - (intOf I).toNat)
      case atStart => exact ⟨0, G, rfl, Nat.zero_le _, HA3, HV3, HF3, HB3, Hb3⟩
      case round =>
        clear HA3 HV3 HF3 HB3 Hb3 HV HF HB Hb
        obtain ⟨j, G', rfl, hj, HA, HV, HF, HB, Hb⟩ := hrel
        obtain ⟨AJ, cJ, hVJ⟩ := HA.out.toL.len
        subst hVJ
        by_cases hjn : j < m
        · have hnb : decide ((j : Int) < (m : Int)) = true := decide_eq_true (by omega)
          have hnc : decide (j < m) = true := decide_eq_true hjn
          have hjl : j < fl.length := by rw [Hmm.out]; exact hjn
          obtain ⟨A', c', e', hc', hr'⟩ := HV.out.rd
          obtain ⟨ad3, had3, hx⟩ := hr'.at_ (j : Int) (by omega) (by omega)
          injection e' with ea eb ec
          subst ea
          subst had3
          rw [Int.toNat_natCast] at hx
          have hx2 : rd fl (j : Int) = fl.getD j 0 := by simp [rd]
          obtain ⟨f, hff⟩ : ∃ f, fl.getD j 0 = f := ⟨_, rfl⟩
          rw [hx2, hff] at hx
          have htk := take_snoc hjl
          rw [hff] at htk
          have hrow : meet (rowT E s (stT E o i) (fl.take j)) (nextG E f s) = rowT E s (stT E o i) (fl.take (j + 1)) := by rw [htk, rowT_snoc]
          have hpre : rowT E s (stT E o i) (fl.take (j + 1)) <+: S := by
            refine List.IsPrefix.trans ?_ (HSP.out (i + 1))
            rw [Hs.out.2.2.2.2]
            have e1 : fl = fl.take (j + 1) ++ fl.drop (j + 1) := (List.take_append_drop _ _).symm
            have e2 : rowT E s (stT E o i) fl = rowT E s (rowT E s (stT E o i) (fl.take (j + 1))) (fl.drop (j + 1)) := by
              conv => lhs; rw [e1]
              unfold rowT; rw [List.foldl_append]
            rw [e2]; exact rowT_pre _ _ _ _
          have hlp := (rowT_pre E s (fl.take j) (stT E o i)).length_le
          have hli : i < (rowT E s (stT E o i) (fl.take j)).length := by have := Hln.out; have := Hin.out; omega
          have hgi : (rowT E s (stT E o i) (fl.take j)).getD i [] = s := by
            rw [List.getD_eq_getElem?_getD, pre_get (rowT_pre E s (fl.take j) (stT E o i)) (by have := Hln.out; have := Hin.out; omega), Hs.out.2.2.2.1]; rfl
          obtain ⟨ad2, xa, xn, xc, had2, e0, e1⟩ := HA.out.toL.at_ hli
          subst had2
          rw [hgi] at e1
          obtain ⟨Lj, hLj⟩ : ∃ Lj, rowT E s (stT E o i) (fl.take j) = Lj := ⟨_, rfl⟩
          obtain ⟨Lk, hLk⟩ : ∃ Lk, rowT E s (stT E o i) (fl.take (j + 1)) = Lk := ⟨_, rfl⟩
          rw [hLj] at HA hrow hli ⊢
          rw [hLk] at hrow hpre
          obtain ⟨t, ht⟩ : ∃ t, nextG E f s = t := ⟨_, rfl⟩
          rw [ht] at hrow
          have hL1 : Lj.length ≤ 256 := by
            have h2 := hpre.length_le
            have h3 := (meet_pre Lj t).length_le
            rw [hrow] at h3
            have := HSl.out
            omega
          have HN := Aside0.mk (fun (W' : World) (hb : Below wr.heap.size wr W') => (rnextF_any A A2 n c c2 E f (.slice xa xn xc) s W' (((HE.out.1.below HBW.out).below HB.out).below hb) (e1.below hb) (by have := HE.out.2.2.2.1; omega)).mono (fun e w' ⟨v, h1, h2, h3⟩ => (show FSaid wr.heap.size W' (nextG E f s) e w' from ⟨v, h1, h2.lower hb.size, h3⟩)))
          rw [ht, HnE.out] at HN
          have g0 : wr.cell? ⟨g, 0, none⟩ = some (.slice A n c) := blk_cellD Hb.out 0 _ rfl
          have g1' : wr.cell? ⟨g, 1, none⟩ = some (.slice A2 nE c2) := blk_cellD Hb.out 1 _ rfl
          obtain ⟨nj, hnj⟩ : ∃ nj, Lj.length = nj := ⟨_, rfl⟩
          have Hnj := Aside0.mk (And.intro hnj hL1)
          rw [hnj] at HA hli ⊢
          have l4 : (i : Int) < (nj : Int) := by omega
          have l5 : 0 ≤ (i : Int) := by omega
          have j0 : 0 ≤ (j : Int) := by omega
          have j1 : (j : Int) < (m : Int) := by omega
          have j2 : (j : Int) ≤ 60 := by have := Hfl.out; omega
          have Hj := Aside0.mk (And.intro hjn hrow)
          have HLk := Aside0.mk hLk
          have HBr := Below.refl wr.heap.size wr
          clear eb ec hjn hj hjl hc' hr' hx2 hff htk hrow hpre hlp hli hgi e1 hLj hLk ht hL1 hnj
          replace l4 := eq_true l4
          replace l5 := eq_true l5
          replace j0 := eq_true j0
          replace j1 := eq_true j1
          go_wp2_with fail
          go_region_held3 (fun W' => W'.cell? ⟨g, 0, none⟩ = some (.slice A n c) ∧ W'.cell? ⟨g, 1, none⟩ = some (.slice A2 nE c2) ∧ W'.cell? (ad2.add i) = some (.slice xa xn xc) ∧ W'.cell? (ad3.add j) = some (.int .i64 f) ∧ Below wr.heap.size wr W') (first | (refine ⟨pw_cell_below (w := wr) ?_ g0, pw_cell_below (w := wr) ?_ g1', pw_cell_below (w := wr) ?_ e0, pw_cell_below (w := wr) ?_ hx, ?_⟩ <;> simp [*]) | go_keep)
            (first
              | (go_at_call 42; (with_reducible refine (HN.out _ (by simp [*])).mono ?_); rintro e w5 ⟨u5, rfl, r1, r2⟩; have HU := Aside0.mk r1; have HB9 := bel_trans (wb := wr) (by simp [*]) r2; clear r1 r2)
              | fail)
          rename_i hHeld
          obtain ⟨A5, c5, hu5, -, -⟩ := HU.out.rd
          subst hu5
          have HS5 := Aside0.mk (show Stay G' w5 (.slice A5 t.length c5) t from HU.out.stay (fun k hk => (HF.out k hk).2))
          have HF5 := Aside0.mk (find_any _ _ Lj t w5 (HA.out.toL.below HB9) HU.out.rd (by have := Hnj.out.1; have := Hnj.out.2; omega))
          have HBw5 := Aside0.mk HB9
          obtain ⟨n5, hn5⟩ : ∃ n5, t.length = n5 := ⟨_, rfl⟩
          rw [hn5] at HS5 HF5 ⊢
          clear hHeld HBr HB9 g0 g1' e0 hx HU HN hn5
          go_wp2_with fail
          refine HF5.out.mono ?_
          rintro e w6 ⟨rfl, r1⟩
          have HB6 := Aside0.mk (bel_trans HBw5.out r1)
          have HS6 := Aside0.mk (HS5.out.below r1)
          clear r1
          by_cases hm : t ∈ Lj
          · have hf : findG Lj t = ((Lj.idxOf t : Nat) : Int) := if_pos hm
            rw [hf]
            generalize Lj.idxOf t = q
            have q0 : 0 ≤ (q : Int) := by omega
            have q1 : decide ((q : Int) < 0) = false := decide_eq_false (by omega)
            have hLL : Lk = Lj := by rw [← Hj.out.2, meet_old hm]
            have HA9 := Aside0.mk (show OwL w6 G' (.slice (some ad2) nj cJ) (rowT E s (stT E o i) (fl.take (j + 1))) by rw [HLk.out, hLL]; exact HA.out.below HB6.out)
            have HV9 := Aside0.mk (HV.out.below HB6.out)
            have HF9 := Aside0.mk (fun k (hk : G' k) => (show W.heap.size ≤ k ∧ k < w6.heap.size from ⟨(HF.out k hk).1, by have := (HF.out k hk).2; have := HB6.out.size; omega⟩))
            have HB9 := Aside0.mk (bel_trans HB.out HB6.out)
            have Hb9 := Aside0.mk (Ow.blk_below Hb.out HB6.out)
            clear hf hm hLL
            go_wp2_with fail
            go_roundw
            case rel => exact ⟨j + 1, G', by go_num, Hj.out.1, HA9, HV9, HF9, HB9, Hb9⟩
            case measure => have := Hj.out.1; simp [intOf]; omega
          · have hf : findG Lj t = -1 := if_neg hm
            rw [hf]
            have hLL : Lk = Lj ++ [t] := by rw [← Hj.out.2, meet_new hm]
            obtain ⟨hs, r1, r2, r3⟩ := HA.out.below HB6.out
            obtain ⟨Wa, hWa⟩ : ∃ Wa, w6.alloc (.cells #[.slice A5 n5 c5] 26) = Wa := ⟨_, rfl⟩
            have Ba : Below w6.heap.size w6 Wa := by rw [← hWa]; exact below_alloc (Below.refl _ _) _
            have ca : Wa.cell? ⟨w6.heap.size, 0, none⟩ = some (encH (A5, n5, c5)) := by rw [← hWa]; exact blk_cell (heap_alloc_new _ _) 0
            have HRa := Aside0.mk (Kd.R_below r1 Ba)
            have HSa := Aside0.mk (And.intro r2 (fun k (hk : k < Lj.length) => (r3 k hk).below Ba))
            have HSa5 := Aside0.mk (HS6.out.below Ba)
            have HCa := Aside0.mk ca
            have HBa := Aside0.mk (bel_trans HB6.out Ba)
            have HLL := Aside0.mk hLL
            clear hf hm hLL r1 r2 r3 Ba ca
            go_wp2_with (first
              | (at_builtin; refine appH (G := G') rfl (.tmp 45) (.tmp 47) rfl _ hs (A5, n5, c5) _ (by rfl) (by rfl) HRa.out HCa.out (by have := HSa.out.1; have := Hnj.out.1; have := Hnj.out.2; omega) ?_; intro v3 w3 ho1 hg1 hc1)
              | fail)
            have HA9 := Aside0.mk (show OwL w3 (ext G' Wa w3) v3 (rowT E s (stT E o i) (fl.take (j + 1))) by rw [HLk.out, HLL.out]; exact OwL.snoc (x := (A5, n5, c5)) HSa.out.1 HSa.out.2 HSa5.out ho1 hc1)
            have HV9 := Aside0.mk (show Stay (ext G' Wa w3) w3 _ fl from (HV.out.below HBa.out).next hc1 (fun k hk => hk.elim .inl (fun h => .inr h.1)))
            have HF9 := Aside0.mk (fun k (hk : ext G' Wa w3 k) => (show W.heap.size ≤ k ∧ k < w3.heap.size from by
              have z1 := HBa.out.size
              have z2 := hc1.size
              have z3 := HB.out.size
              exact hk.elim (fun h => ⟨(HF.out k h).1, by have := (HF.out k h).2; omega⟩) (fun h => ⟨by omega, h.2⟩)))
            have HB9 := Aside0.mk (show Below W.heap.size W w3 from ((Chg.of_below (bel_trans HB.out HBa.out) (fun _ => False)).then_ hc1 (fun k hk => .inr (HF.out k hk).1)).below (Nat.le_refl _) (fun k hk => hk.elim))
            have Hb9 := Aside0.mk (show w3.heap[g]? = some (.cells #[.slice A n c, .slice A2 nE c2] 25 (0, 0)) from Ow.blk_below Hgw.out HB9.out)
            clear ho1 hg1 hc1 hWa
            go_wp2_with fail
            go_roundw
            case rel => exact ⟨j + 1, _, by go_num, Hj.out.1, HA9, HV9, HF9, HB9, Hb9⟩
            case measure => have := Hj.out.1; simp [intOf]; omega
        · have hnb : decide ((j : Int) < (m : Int)) = false := decide_eq_false (by omega)
          have hnc : decide (j < m) = false := decide_eq_false hjn
          obtain rfl : j = m := by omega
          have ht : fl.take j = fl := List.take_of_length_le (by rw [Hmm.out]; exact Nat.le_refl _)
          generalize (rowT E s (stT E o i) (fl.take j)).length = nj at HA ⊢
          rw [ht, ← Hs.out.2.2.2.2] at HA
          have hi2 : i + 1 ≤ 256 := by have := Hin.out; have := Hl256.out; omega
          have Hi2 := Aside0.mk hi2
          clear hjn hj ht hi2
          go_wp2_with fail
          go_roundw
          case rel => exact ⟨i + 1, G', by go_num, Hi2.out, HA, HF, HB, Hb⟩
          case measure => have := Hi2.out; simp [intOf]; omega
    · have hnb : decide ((i : Int) < (ln : Int)) = false := decide_eq_false (by omega)
      have hnc : decide (i < ln) = false := decide_eq_false hin
      have hST : S = stT E o i := by
        rw [← HS.out]
        exact states_done HE.out.2.1 HE.out.2.2.2.2.1 HE.out.2.2.2.2.2 (by rw [Hln.out]; omega)
      have HR9 := Aside0.mk (show RdL wr (.slice AV ln cV) S by rw [hST]; exact HV.out.toL)
      have HB9 := Aside0.mk (bel_trans HBW.out HB.out)
      clear hi hin hST
      go_wp2_with fail
      go_ret
      exact ⟨_, rfl, HR9.out, HB9.out⟩
end Go.Proofs.YtkpadjhdneiniaaGreatDoor.Am
end
