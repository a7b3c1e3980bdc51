/- Ek, El -/
import Derived.Test.YtkpadjhdneiniaaGreatDoorEf
/- Ek: equal.Apart, equal.Same. -/
section
namespace Go.Proofs.YtkpadjhdneiniaaGreatDoor.Am
set_option linter.unusedVariables false
open Go.RowKit Go.Proofs.YtkpadjhdneiniaaGreatDoorW.PrintWords Go.Proofs.YtkpadjhdneiniaaGreatDoorW.PrintLast Go.Proofs.YtkpadjhdneiniaaGreatDoorW.PrintMore Go.Maps
open Go.Proofs.YtkpadjhdneiniaaGreatDoor.Base Go.Proofs.YtkpadjhdneiniaaGreatDoor.Map Go.Proofs.YtkpadjhdneiniaaGreatDoor.Sl Go.Proofs.YtkpadjhdneiniaaGreatDoor.Ow Go.Proofs.YtkpadjhdneiniaaGreatDoor.Se Go.Proofs.YtkpadjhdneiniaaGreatDoor.Gr Go.Proofs.YtkpadjhdneiniaaGreatDoor.Rf Go.Proofs.YtkpadjhdneiniaaGreatDoor.Tx Go.Proofs.YtkpadjhdneiniaaGreatDoor.Au



open Go.Proofs.YtkpadjhdneiniaaGreatDoor.Eb
open Go.Proofs.YtkpadjhdneiniaaGreatDoor.Un (Uni UT joinS rngL new_ut rng_len)

/-- what equal.Apart tells -/
def EaSaid (w : World) (T : List ByteArray) (E : List GE) (o x : Int) (e : Ending) (w' : World) : Prop := Below w.heap.size w w' ∧
  ((∃ u wd, e = .returned (.tuple #[u, .bool true]) ∧ RdV w' u wd ∧ (∀ f ∈ wd, ok64 f) ∧ wd.length ≤ 1000 ∧ Least (Df T E [o] [x]) wd) ∨
   (e = .returned (.tuple #[.slice none 0 0, .bool false]) ∧ ∀ v, ¬ Df T E [o] [x] v))
theorem wk_start {w w1 : World} {pu pa pb : Nat} {hs : List Int} (h : UT w w1 pu hs) :
    WK w (w1.alloc (.cells #[.pointer (some ⟨pa, 0, none⟩), .pointer (some ⟨pb, 0, none⟩), .pointer (some ⟨pu, 0, none⟩), .slice none 0 0] 103)) (fun k => w.heap.size ≤ k ∧ k ≤ w1.heap.size) (fun _ => False) w1.heap.size pu pa pb hs [] := by
  obtain ⟨F, vU, vS, vH, h1, h2, h3⟩ := h
  have hal : Below w1.heap.size w1 (w1.alloc (.cells #[.pointer (some ⟨pa, 0, none⟩), .pointer (some ⟨pb, 0, none⟩), .pointer (some ⟨pu, 0, none⟩), .slice none 0 0] 103)) := below_alloc (Below.refl _ _) _
  have hsz : (w1.alloc (.cells #[.pointer (some ⟨pa, 0, none⟩), .pointer (some ⟨pb, 0, none⟩), .pointer (some ⟨pu, 0, none⟩), .slice none 0 0] 103)).heap.size = w1.heap.size + 1 := by simp
  refine ⟨F, fun _ => False, vU, vS, vH, .slice none 0 0, [], heap_alloc_new _ _, h1.below hal, Kd.Q_nil _ _ _ _ _, rfl, fun j hj => by simp at hj, fun k hk => ⟨(h2 k hk).1, ⟨(h2 k hk).1, by have := (h2 k hk).2; omega⟩, by have := (h2 k hk).2; omega, fun h => h⟩, fun k hk => hk.elim, h3.size, ⟨h3.size, Nat.le_refl _⟩, fun k hk => by rw [hsz]; have := hk.2; omega, bel_trans h3 hal⟩
set_option maxHeartbeats 16000000 in
set_option maxRecDepth 100000 in
theorem eapart_any (pa pb pga pgb Ma Mb n : Nat) (Fa Fb : Nat → Prop) (S1 S2 : List (List Int)) (T : List ByteArray) (E : List GE) (o x : Int) (w : World)
    (ha : AuX w Fa pa pga S1 (stepG E S1) Ma) (hb : AuX w Fb pb pgb S2 (stepG E S2) Mb) (hga : GA w pga T E) (hgb : GA w pgb T E)
    (hT : T.length = n) (hn : n ≤ 8) (hE : E.length ≤ 60) (hR : RightG n E) (hok : ∀ a f z, (a, f, z) ∈ E → ok64 f) (o0 : 0 ≤ o) (o1 : o < n) (x0 : 0 ≤ x) (x1 : x < n) (hS1 : statesG E n o = S1) (hS2 : statesG E n x = S2) :
    Calls Tryz.prog 39 #[.pointer (some ⟨pa, 0, none⟩), .pointer (some ⟨pb, 0, none⟩)] w (EaSaid w T E o x) := by
  have I1 : StI n E o S1 := by rw [← hS1]; exact states_inv hR o0 o1
  have I2 : StI n E x S2 := by rw [← hS2]; exact states_inv hR x0 x1
  have l1 : S1.length ≤ 256 := Nat.le_trans I1.len (Nat.pow_le_pow_right (by decide) hn)
  have l2 : S2.length ≤ 256 := Nat.le_trans I2.len (Nat.pow_le_pow_right (by decide) hn)
  obtain ⟨hst1, hst2⟩ := WI.start T E hR o0 o1 x0 x1 hS1 hS2
  have HLa := Aside0.mk (fun (W' : World) (hc : Below w.heap.size w W') => alen_any pa pga Ma Fa S1 (stepG E S1) W' (ha.below hc))
  have HLb := Aside0.mk (fun (W' : World) (hc : Below w.heap.size w W') => alen_any pb pgb Mb Fb S2 (stepG E S2) W' (hb.below hc))
  have HNu := Aside0.mk (fun (W' : World) (hc : Below w.heap.size w W') => new_ut w W' hc (S1.length + S2.length + 1) (by omega))
  have hxa : -1 ≤ (0 : Int) ∧ (0 : Int) < S1.length := by have := I1.head.length_le; simp at this; omega
  have hxb : -1 ≤ (0 : Int) ∧ (0 : Int) < S2.length := by have := I2.head.length_le; simp at this; omega
  have HMt := Aside0.mk (fun (W' : World) (D : Nat → Prop) (pw pu : Nat) (hK : WK w W' D (fun _ => False) pw pu pa pb (rngL (S1.length + S2.length + 1)) []) => (show Calls Tryz.prog 73 #[.pointer (some ⟨pw, 0, none⟩), .agg #[.int .i64 0, .int .i64 0, .slice none 0 0]] W' (fun e w' => e = .returned (.tuple #[]) ∧ ∃ hs D', WK w w' D' (fun _ => False) pw pu pa pb hs [(0, 0, [])] ∧ WI T E o x S1 S2 [(0, 0, [])] 0 [] hs) from by
    refine (meet_any w W' D (fun _ => False) pw pu pa pb pga pgb Ma Mb Fa Fb S1 S2 (stepG E S1) (stepG E S2) _ [] 0 0 (none, 0, 0) [] hK ha hb l1 l2 (fun _ _ => RdV.nil _) hxa hxb (by rw [rng_len]; omega) (by simp)).mono ?_
    rintro e w' ⟨h1, -, h2⟩
    rw [if_neg hst1] at h2
    exact ⟨h1, _, _, h2, hst2⟩))
  have HAp := Aside0.mk (fun (W' : World) (D : Nat → Prop) (pw pu : Nat) (hs : List Int) (hK : WK w W' D (fun _ => False) pw pu pa pb hs [(0, 0, [])]) (hI : WI T E o x S1 S2 [(0, 0, [])] 0 [] hs) => wapart_any w W' D pw pu pa pb pga pgb Ma Mb n Fa Fb S1 S2 T E o x hs [(0, 0, [])] hK hI ha hb hga hgb hT hn hE hR hok o0 o1 x0 x1 hS1 hS2)
  obtain ⟨la, hla⟩ : ∃ k, S1.length = k := ⟨_, rfl⟩
  obtain ⟨lb, hlb⟩ : ∃ k, S2.length = k := ⟨_, rfl⟩
  rw [hla] at HLa HNu l1 HMt
  rw [hlb] at HLb HNu l2 HMt
  have i1 : (la : Int) ≤ 256 := by omega
  have i2 : (lb : Int) ≤ 256 := by omega
  have HBr := Below.refl w.heap.size w
  clear hst1 hst2 I1 I2 l1 l2 ha hb hga hgb hT hn hE hR hok o0 o1 x0 x1 hS1 hS2 hxa hxb hla hlb
  go_enter Tryz.func39, Tryz.ntmps39
  go_wp2_with fail
  refine (HLa.out w HBr).mono ?_
  rintro e w1 ⟨rfl, rfl⟩
  go_wp2_with fail
  refine (HLb.out w HBr).mono ?_
  rintro e w1 ⟨rfl, rfl⟩
  go_wp2_with fail
  have hmin : min ((la : Int) + (lb : Int) + 1) 65536 = ((la + lb + 1 : Nat) : Int) := by omega
  rw [hmin]
  refine (HNu.out w HBr).mono ?_
  rintro e w1 ⟨rfl, r1⟩
  have HWk := Aside0.mk (wk_start (pa := pa) (pb := pb) r1)
  obtain ⟨pu, hpu⟩ : ∃ b, w.heap.size = b := ⟨_, rfl⟩
  rw [hpu] at HWk ⊢
  obtain ⟨pw, hpw⟩ : ∃ b, w1.heap.size = b := ⟨_, rfl⟩
  obtain ⟨W, hW⟩ : ∃ W, w1.alloc (.cells #[.pointer (some ⟨pa, 0, none⟩), .pointer (some ⟨pb, 0, none⟩), .pointer (some ⟨pu, 0, none⟩), .slice none 0 0] 103) = W := ⟨_, rfl⟩
  rw [hW, hpw] at HWk
  clear r1 hmin
  go_wp2_with fail
  try simp only [hpw, hW]
  clear hpw hW
  refine (HMt.out W _ pw pu HWk.out).mono ?_
  rintro e w2 ⟨rfl, hs, D', r1, r2⟩
  have HA2 := Aside0.mk (HAp.out w2 D' pw pu hs r1 r2)
  clear r1 r2 HMt HAp HWk
  go_wp2_with fail
  refine HA2.out.mono ?_
  rintro e w3 ⟨r1, ⟨qa, qb, u, wd, rfl, r2, r3, r4, r5⟩ | ⟨rfl, r2⟩⟩
  · have HE := Aside0.mk (And.intro r1 (And.intro r2 (And.intro r3 (And.intro r4 r5))))
    obtain ⟨xA, xc, rfl, -, -⟩ := r2
    have HE2 := Aside0.mk (fun (ob : Obj) => (show EaSaid w T E o x (.returned (.tuple #[.slice xA wd.length xc, .bool true])) (w3.alloc ob) from ⟨below_alloc HE.out.1 _, .inl ⟨_, wd, rfl, HE.out.2.1.alloc _, HE.out.2.2.1, HE.out.2.2.2.1, HE.out.2.2.2.2⟩⟩))
    obtain ⟨xn, hxn⟩ : ∃ k, wd.length = k := ⟨_, rfl⟩
    rw [hxn] at HE2 ⊢
    clear r1 r3 r4 r5 hxn
    go_wp2_with fail
    go_ret2
    exact HE2.out _
  · have HE2 := Aside0.mk (fun (ob : Obj) => (show EaSaid w T E o x (.returned (.tuple #[.slice none 0 0, .bool false])) (w3.alloc ob) from ⟨below_alloc r1 _, .inr ⟨rfl, r2⟩⟩))
    clear r1 r2
    go_wp2_with fail
    go_ret2
    exact HE2.out _
/-- equal.Same -/
theorem esame_any (pa pb pga pgb Ma Mb n : Nat) (Fa Fb : Nat → Prop) (S1 S2 : List (List Int)) (T : List ByteArray) (E : List GE) (o x : Int) (w : World)
    (ha : AuX w Fa pa pga S1 (stepG E S1) Ma) (hb : AuX w Fb pb pgb S2 (stepG E S2) Mb) (hga : GA w pga T E) (hgb : GA w pgb T E)
    (hT : T.length = n) (hn : n ≤ 8) (hE : E.length ≤ 60) (hR : RightG n E) (hok : ∀ a f z, (a, f, z) ∈ E → ok64 f) (o0 : 0 ≤ o) (o1 : o < n) (x0 : 0 ≤ x) (x1 : x < n) (hS1 : statesG E n o = S1) (hS2 : statesG E n x = S2) :
    Calls Tryz.prog 41 #[.pointer (some ⟨pa, 0, none⟩), .pointer (some ⟨pb, 0, none⟩)] w fun e w' => (∃ B : Bool, e = .returned (.bool B) ∧ (B = true ↔ ∀ v, ¬ Df T E [o] [x] v)) ∧ Below w.heap.size w w' := by
  have HA := Aside0.mk (eapart_any pa pb pga pgb Ma Mb n Fa Fb S1 S2 T E o x w ha hb hga hgb hT hn hE hR hok o0 o1 x0 x1 hS1 hS2)
  clear ha hb hga hgb hT hn hE hR hok o0 o1 x0 x1 hS1 hS2
  go_enter Tryz.func41, Tryz.ntmps41
  go_wp2_with fail
  refine HA.out.mono ?_
  rintro e w3 ⟨r1, ⟨u, wd, rfl, r2, r3, r4, r5⟩ | ⟨rfl, r2⟩⟩
  · have HE := Aside0.mk (And.intro r1 (show false = true ↔ ∀ v, ¬ Df T E [o] [x] v from ⟨fun h => (by cases h), fun h => absurd r5.1 (h _)⟩))
    clear r1 r2 r3 r4 r5
    go_wp2_with fail
    go_ret
    exact ⟨⟨_, rfl, HE.out.2⟩, HE.out.1⟩
  · have HE := Aside0.mk (And.intro r1 r2)
    clear r1 r2
    go_wp2_with fail
    go_ret
    exact ⟨⟨_, rfl, ⟨fun _ => HE.out.2, fun _ => rfl⟩⟩, HE.out.1⟩
end Go.Proofs.YtkpadjhdneiniaaGreatDoor.Am
end

/- El: winnowerlaw24: made; awake. -/
section
namespace Go.Proofs.YtkpadjhdneiniaaGreatDoor.Am
set_option linter.unusedVariables false
open Go.RowKit Go.Proofs.YtkpadjhdneiniaaGreatDoorW.PrintWords Go.Proofs.YtkpadjhdneiniaaGreatDoorW.PrintLast Go.Proofs.YtkpadjhdneiniaaGreatDoorW.PrintMore Go.Maps
open Go.Proofs.YtkpadjhdneiniaaGreatDoor.Base Go.Proofs.YtkpadjhdneiniaaGreatDoor.Map Go.Proofs.YtkpadjhdneiniaaGreatDoor.Sl Go.Proofs.YtkpadjhdneiniaaGreatDoor.Ow Go.Proofs.YtkpadjhdneiniaaGreatDoor.Se Go.Proofs.YtkpadjhdneiniaaGreatDoor.Gr Go.Proofs.YtkpadjhdneiniaaGreatDoor.Rf Go.Proofs.YtkpadjhdneiniaaGreatDoor.Tx Go.Proofs.YtkpadjhdneiniaaGreatDoor.Au



open Go.Proofs.YtkpadjhdneiniaaGreatDoor.Eb

/-- winnowerlaw24.made -/
def MadeSaid (w : World) (T : List ByteArray) (E : List GE) (o : Int) (e : Ending) (w' : World) : Prop :=
  ∃ pa pg F, e = .returned (.pointer (some ⟨pa, 0, none⟩)) ∧ AuX w' F pa pg (statesG E T.length o) (stepG E (statesG E T.length o)) 100000 ∧ GA w' pg T E ∧ Below w.heap.size w w'
set_option maxHeartbeats 16000000 in
set_option maxRecDepth 100000 in
theorem made_any (A : Option Addr) (c : Nat) (T : List ByteArray) (A2 : Option Addr) (c2 : Nat) (E : List GE) (o : Int) (w : World) (hTZ : TZ w) (hP : P10 w) (hT : RdT w A T) (hE : RdE w A2 E) (hokE : ∀ a f z, (a, f, z) ∈ E → ok64 f) (hL : LightG T.length E) (h0 : 0 ≤ o) (h1 : o < T.length) :
    Calls Tryz.prog 38 #[.agg #[.slice A T.length c, .slice A2 E.length c2], .int .i64 o] w (MadeSaid w T E o) := by
  obtain ⟨W, hW⟩ : ∃ W, w.alloc (.cells #[.slice A T.length c, .slice A2 E.length c2] 25) = W := ⟨_, rfl⟩
  have HBW := Aside0.mk (show Below w.heap.size w W by rw [← hW]; exact below_alloc (Below.refl _ _) _)
  have Hb : W.heap[w.heap.size]? = some (.cells #[.slice A T.length c, .slice A2 E.length c2] 25 (0, 0)) := by rw [← hW]; exact heap_alloc_new _ _
  obtain ⟨g, hg⟩ : ∃ g, w.heap.size = g := ⟨_, rfl⟩
  rw [hg] at Hb
  have g0 : W.cell? ⟨g, 0, none⟩ = some (.slice A T.length c) := blk_cellD Hb 0 _ rfl
  have g1 : W.cell? ⟨g, 1, none⟩ = some (.slice A2 E.length c2) := blk_cellD Hb 1 _ rfl
  have HNw := Aside0.mk (new_any A c T A2 c2 E W (hT.below HBW.out) (hE.below HBW.out) (by have h := hL.2.2; omega) (by have h := hL.1.2; omega) hokE hL.2.1)
  have HBd := Aside0.mk (fun (W' : World) (pg : Nat) (hc : Below W.heap.size W W') (hG : GA W' pg T E) => build_any pg T E o 1000 W' hG (hTZ.below (bel_trans HBW.out hc)) (hP.below (bel_trans HBW.out hc)) hL.2.1 hL.2.2 hL.1.2 hokE h0 h1 (by decide))
  have HS := Aside0.mk (show (statesG E T.length o).length ≤ 256 from Nat.le_trans (states_inv hL.2.1 h0 h1).len (Nat.pow_le_pow_right (by decide) hL.2.2))
  obtain ⟨nT, hnT⟩ : ∃ nT, T.length = nT := ⟨_, rfl⟩
  obtain ⟨nE, hnE⟩ : ∃ nE, E.length = nE := ⟨_, rfl⟩
  have Hn := Aside0.mk (And.intro hnT hnE)
  rw [hnT, hnE] at hW HNw
  rw [hnT] at g0
  rw [hnE] at g1
  rw [hnT, hnE]
  clear hTZ hP hT hE hokE hL h0 h1 Hb hnT hnE
  go_enter Tryz.func38, Tryz.ntmps38
  go_wp2_with fail
  try simp only [hg, hW]
  clear hW
  refine HNw.out.mono ?_
  rintro e w3 ⟨pg, lab, rfl, r1, r2⟩
  have HG3 := Aside0.mk (GA.mk ⟨lab, r1⟩)
  have HB3 := Aside0.mk r2
  have HBd2 := Aside0.mk (HBd.out w3 pg r2 HG3.out)
  clear r1 r2 HNw HBd g0 g1
  go_wp2_with fail
  refine HBd2.out.mono ?_
  rintro e w4 ⟨r1, ⟨-, pa, F, rfl, r2⟩ | ⟨r2, -⟩⟩
  case inr => exact absurd (show (((statesG E T.length o).length : Nat) : Int) ≤ 1000 by have := HS.out; omega) r2
  have HE := Aside0.mk (And.intro r2 (And.intro (HG3.out.below r1) (bel_trans HBW.out (bel_trans HB3.out r1))))
  clear r1 r2
  go_wp2_with fail
  go_ret
  exact ⟨pa, pg, F, rfl, HE.out.1, HE.out.2.1, HE.out.2.2⟩
/-! the layer's example -/
def exT3 : List ByteArray := [⟨#[65]⟩, ⟨#[65]⟩, ⟨#[66]⟩]
theorem ex3_light : LightG exT3.length [] := ⟨⟨by decide, by decide⟩, by intro e he; (cases he), by decide⟩
theorem rdE_none (w : World) : RdE w none [] := ⟨⟨rfl, by simp, fun h => absurd h (Nat.lt_irrefl 0)⟩⟩
theorem ledS_bare (s : List Int) (f : Int) (t : List Int) : ledS [] s (f :: t) = [] := by
  have e : nextG [] f s = [] := rfl
  show ledS [] (nextG [] f s) t = []
  rw [e]; exact ledS_nil [] t
theorem ex3_same : ∀ v, ¬ Df exT3 [] [0] [1] v := fun v hd => by
  cases v with
  | nil => exact hd (by unfold tyG; rw [show typL exT3 (ledS [] [0] []) = typL exT3 (ledS [] [1] []) from rfl])
  | cons f t => exact hd (by rw [ledS_bare, ledS_bare])
theorem ex3_apart : Df exT3 [] [0] [2] [] := fun e => by
  have h1 : (⟨#[65]⟩ : ByteArray) ∈ tyG exT3 (ledS [] [0] []) := ((tyG_is exT3 (ledS [] [0] [])).mem _).2 (by
    show (⟨#[65]⟩ : ByteArray) ∈ [(⟨#[65]⟩ : ByteArray)]; simp)
  rw [e] at h1
  have h2 := ((tyG_is exT3 (ledS [] [2] [])).mem _).1 h1
  have h3 : (⟨#[65]⟩ : ByteArray) ∈ [(⟨#[66]⟩ : ByteArray)] := h2
  rw [List.mem_singleton] at h3
  exact absurd h3 (by decide)
theorem least_nil {D : List Int → Prop} {w : List Int} (h : Least D w) (h0 : D []) : w = [] := by
  rcases h.2 [] h0 with e | e
  · exact e
  · rcases e with e | ⟨e, -⟩
    · simp at e
    · simpa using e
set_option maxHeartbeats 16000000 in
set_option maxRecDepth 100000 in
theorem awake24_any (w : World) (hT : TZ w) (hP : P10 w) :
    Calls Tryz.prog 37 #[] w fun e w' => e = .returned (.bool true) ∧ Below w.heap.size w w' := by
  obtain ⟨W, hW⟩ : ∃ W, w.alloc (Obj.cells #[Value.string { data := #[65] }, Value.string { data := #[65] }, Value.string { data := #[66] }] 9) = W := ⟨_, rfl⟩
  have hal : Below w.heap.size w W := by rw [← hW]; exact below_alloc (Below.refl _ _) _
  obtain ⟨g, hg⟩ : ∃ g, w.heap.size = g := ⟨_, rfl⟩
  have t1 : RdT W (some ⟨g, 0, none⟩) exT3 := rdT_lit (by rw [← hW, ← hg]; exact heap_alloc_new _ _) rfl (by decide)
  have HM := Aside0.mk (fun (W' : World) (hc : Below W.heap.size W W') (o : Int) (h0 : 0 ≤ o) (h1 : o < 3) => (show Calls Tryz.prog 38 #[.agg #[.slice (some ⟨g, 0, none⟩) 3 3, .slice none 0 0], .int .i64 o] W' (MadeSaid W' exT3 [] o) from made_any (some ⟨g, 0, none⟩) 3 exT3 none 0 [] o W' ((hT.below hal).below hc) ((hP.below hal).below hc) (t1.below hc) (rdE_none _) (fun a f z h => by cases h) ex3_light h0 h1))
  have Hal := Aside0.mk hal
  have HBr := Below.refl W.heap.size W
  clear t1 hT hP hal
  go_enter Tryz.func37, Tryz.ntmps37
  go_wp2_with fail
  try simp only [hg, hW]
  clear hW hg
  obtain ⟨g2, hg2⟩ : ∃ b, W.heap.size = b := ⟨_, rfl⟩
  obtain ⟨W2, hW2⟩ : ∃ x, W.alloc (.cells #[.slice (some ⟨g, 0, none⟩) 3 3, .slice none 0 0] 25) = x := ⟨_, rfl⟩
  have hal2 : Below W.heap.size W W2 := by rw [← hW2]; exact below_alloc (Below.refl _ _) _
  have hb2 : W2.heap[g2]? = some (.cells #[.slice (some ⟨g, 0, none⟩) 3 3, .slice none 0 0] 25 (0, 0)) := by rw [← hW2, ← hg2]; exact heap_alloc_new _ _
  try simp only [hg2, hW2]
  have g0 : W2.cell? ⟨g2, 0, none⟩ = some (.slice (some ⟨g, 0, none⟩) 3 3) := blk_cellD hb2 0 _ rfl
  have g1 : W2.cell? ⟨g2, 1, none⟩ = some (.slice none 0 0) := blk_cellD hb2 1 _ rfl
  have Hal2 := Aside0.mk hal2
  have HM0 := Aside0.mk (fun (W' : World) (hc : Below W2.heap.size W2 W') => HM.out W' (bel_trans hal2 hc) 0 (by decide) (by decide))
  have HM1 := Aside0.mk (fun (W' : World) (hc : Below W2.heap.size W2 W') => HM.out W' (bel_trans hal2 hc) 1 (by decide) (by decide))
  have HM2 := Aside0.mk (fun (W' : World) (hc : Below W2.heap.size W2 W') => HM.out W' (bel_trans hal2 hc) 2 (by decide) (by decide))
  have HBs := Below.refl W2.heap.size W2
  clear hal2 hb2 hg2 hW2 HM
  go_region_held3 (fun W' => W'.cell? ⟨g2, 0, none⟩ = some (.slice (some ⟨g, 0, none⟩) 3 3) ∧ W'.cell? ⟨g2, 1, none⟩ = some (.slice none 0 0) ∧ Below W2.heap.size W2 W')
    (first | (refine ⟨pw_cell_below (w := W2) ?_ g0, pw_cell_below (w := W2) ?_ g1, ?_⟩ <;> simp [*]) | go_keep)
    (first
      | (go_at_call 38; (with_reducible refine (HM0.out _ (by simp [*])).mono ?_); rintro e w3 ⟨p0, q0, F0, rfl, r1, r2, r3⟩; have HX0 := Aside0.mk (And.intro r1 r2); have HB9 := bel_trans (wb := W2) (by simp [*]) r3; clear r1 r2 r3)
      | (go_at_call 38; (with_reducible refine (HM1.out _ (by simp [*])).mono ?_); rintro e w3 ⟨p1, q1, F1, rfl, r1, r2, r3⟩; have HX0 := Aside0.mk (And.intro (HX0.out.1.below r3) (HX0.out.2.below r3)); have HX1 := Aside0.mk (And.intro r1 r2); have HB9 := bel_trans (wb := W2) (by simp [*]) r3; clear r1 r2 r3)
      | (go_at_call 38; (with_reducible refine (HM2.out _ (by simp [*])).mono ?_); rintro e w3 ⟨p2, q2, F2, rfl, r1, r2, r3⟩; have HX0 := Aside0.mk (And.intro (HX0.out.1.below r3) (HX0.out.2.below r3)); have HX1 := Aside0.mk (And.intro (HX1.out.1.below r3) (HX1.out.2.below r3)); have HX2 := Aside0.mk (And.intro r1 r2); have HB9 := bel_trans (wb := W2) (by simp [*]) r3; clear r1 r2 r3)
      | fail)
  rename_i hHeld
  have HB3 := Aside0.mk (bel_trans Hal.out (bel_trans Hal2.out HB9))
  have hlt : (0 : Int) < exT3.length ∧ (1 : Int) < exT3.length ∧ (2 : Int) < exT3.length := by decide
  have HAp := Aside0.mk (eapart_any p0 p2 q0 q2 100000 100000 exT3.length F0 F2 _ _ exT3 [] 0 2 w3 HX0.out.1 HX2.out.1 HX0.out.2 HX2.out.2 rfl (by decide) (by decide) ex3_light.2.1 (fun a f z h => by cases h) (by decide) hlt.1 (by decide) hlt.2.2 rfl rfl)
  have HSm := Aside0.mk (fun (W' : World) (hc : Below w3.heap.size w3 W') => esame_any p0 p1 q0 q1 100000 100000 exT3.length F0 F1 _ _ exT3 [] 0 1 W' (HX0.out.1.below hc) (HX1.out.1.below hc) (HX0.out.2.below hc) (HX1.out.2.below hc) rfl (by decide) (by decide) ex3_light.2.1 (fun a f z h => by cases h) (by decide) hlt.1 (by decide) hlt.2.1 rfl rfl)
  clear hHeld HB9 HX0 HX1 HX2 g0 g1 hlt HBr HBs HM0 HM1 HM2
  go_wp2_with fail
  refine HAp.out.mono ?_
  rintro e w4 ⟨r1, ⟨u, wd, rfl, r2, r3, r4, r5⟩ | ⟨rfl, r2⟩⟩
  case inr => exact absurd ex3_apart (r2 [])
  obtain rfl : wd = [] := least_nil r5 ex3_apart
  obtain ⟨xA, xc, rfl, -, -⟩ := r2
  have HB4 := Aside0.mk (bel_trans HB3.out r1)
  have HS4 := Aside0.mk (HSm.out w4 r1)
  clear r1 r3 r4 r5 HAp HSm
  go_wp2_with fail
  refine HS4.out.mono ?_
  rintro e w5 ⟨⟨B, rfl, hB⟩, r2⟩
  obtain rfl : B = true := hB.2 ex3_same
  have HB5 := Aside0.mk (bel_trans HB4.out r2)
  clear hB r2
  go_wp2_with fail
  go_ret
  exact ⟨rfl, HB5.out⟩
end Go.Proofs.YtkpadjhdneiniaaGreatDoor.Am
end
