/- Ek, El -/
import Derived.Test.YtkpadjhdneiniaaGreatDoorEf
/- Ek: equal.Apart, equal.Same. -/
section
namespace Go.Proofs.YtkpadjhdneiniaaGreatDoor.Am
set_option linter.unusedVariables false
open Go.RowKit Go.Proofs.YtkpadjhdneiniaaGreatDoorW.PrintWords Go.Proofs.YtkpadjhdneiniaaGreatDoorW.PrintLast Go.Proofs.YtkpadjhdneiniaaGreatDoorW.PrintMore Go.Maps
open Go.Proofs.YtkpadjhdneiniaaGreatDoor.Base Go.Proofs.YtkpadjhdneiniaaGreatDoor.Map Go.Proofs.YtkpadjhdneiniaaGreatDoor.Sl Go.Proofs.YtkpadjhdneiniaaGreatDoor.Ow Go.Proofs.YtkpadjhdneiniaaGreatDoor.Se Go.Proofs.YtkpadjhdneiniaaGreatDoor.Gr Go.Proofs.YtkpadjhdneiniaaGreatDoor.Rf Go.Proofs.YtkpadjhdneiniaaGreatDoor.Tx Go.Proofs.YtkpadjhdneiniaaGreatDoor.Au



open Go.Proofs.YtkpadjhdneiniaaGreatDoor.Eb
open Go.Proofs.YtkpadjhdneiniaaGreatDoor.Un (Uni UT joinS rngL new_ut rng_len)

/-- what equal.Apart tells -/
def EaSaid (w : World) (T : List ByteArray) (E : List GE) (o x : Int) (e : Ending) (w' : World) : Prop := Below w.heap.size w w' ∧
  ((∃ u wd, e = .returned (.tuple #[u, .bool true]) ∧ RdV w' u wd ∧ (∀ f ∈ wd, ok64 f) ∧ wd.length ≤ 1000 ∧ Least (Df T E [o] [x]) wd) ∨
   (e = .returned (.tuple #[.slice none 0 0, .bool false]) ∧ ∀ v, ¬ Df T E [o] [x] v))
theorem wk_start {w w1 : World} {pu pa pb : Nat} {hs : List Int} (h : UT w w1 pu hs) :
    WK w (w1.alloc (.cells #[.pointer (some ⟨pa, 0, none⟩), .pointer (some ⟨pb, 0, none⟩), .pointer (some ⟨pu, 0, none⟩), .slice none 0 0] 103)) (fun k => w.heap.size ≤ k ∧ k ≤ w1.heap.size) (fun _ => False) w1.heap.size pu pa pb hs [] := by
  obtain ⟨F, vU, vS, vH, h1, h2, h3⟩ := h
  have hal : Below w1.heap.size w1 (w1.alloc (.cells #[.pointer (some ⟨pa, 0, none⟩), .pointer (some ⟨pb, 0, none⟩), .pointer (some ⟨pu, 0, none⟩), .slice none 0 0] 103)) := below_alloc (Below.refl _ _) _
  have hsz : (w1.alloc (.cells #[.pointer (some ⟨pa, 0, none⟩), .pointer (some ⟨pb, 0, none⟩), .pointer (some ⟨pu, 0, none⟩), .slice none 0 0] 103)).heap.size = w1.heap.size + 1 := by simp
  refine ⟨F, fun _ => False, vU, vS, vH, .slice none 0 0, [], heap_alloc_new _ _, h1.below hal, Kd.Q_nil _ _ _ _ _, rfl, fun j hj => by simp at hj, fun k hk => ⟨(h2 k hk).1, ⟨(h2 k hk).1, by have := (h2 k hk).2; omega⟩, by have := (h2 k hk).2; omega, fun h => h⟩, fun k hk => hk.elim, h3.size, ⟨h3.size, Nat.le_refl _⟩, fun k hk => by rw [hsz]; have := hk.2; omega, bel_trans h3 hal⟩
set_option maxHeartbeats 16000000 in
set_option maxRecDepth 100000 in
theorem eapart_any (pa pb pga pgb Ma Mb n : Nat) (Fa Fb : Nat → Prop) (S1 S2 : List (List Int)) (T : List ByteArray) (E : List GE) (o x : Int) (w : World)
    (ha : AuX w Fa pa pga S1 (stepG E S1) Ma) (hb : AuX w Fb pb pgb S2 (stepG E S2) Mb) (hga : GA w pga T E) (hgb : GA w pgb T E)
    (hT : T.length = n) (hn : n ≤ 8) (hE : E.length ≤ 60) (hR : RightG n E) (hok : ∀ a f z, (a, f, z) ∈ E → ok64 f) (o0 : 0 ≤ o) (o1 : o < n) (x0 : 0 ≤ x) (x1 : x < n) (hS1 : statesG E n o = S1) (hS2 : statesG E n x = S2) :
    Calls Tryz.prog 39 #[.pointer (some ⟨pa, 0, none⟩), .pointer (some ⟨pb, 0, none⟩)] w (EaSaid w T E o x) := by
  have I1 : StI n E o S1 := by rw [← hS1]; exact states_inv hR o0 o1
  have I2 : StI n E x S2 := by rw [← hS2]; exact states_inv hR x0 x1
  have l1 : S1.length ≤ 256 := Nat.le_trans I1.len (Nat.pow_le_pow_right (by decide) hn)
  have l2 : S2.length ≤ 256 := Nat.le_trans I2.len (Nat.pow_le_pow_right (by decide) hn)
  obtain ⟨hst1, hst2⟩ := WI.start T E hR o0 o1 x0 x1 hS1 hS2
  have HLa := Aside0.mk (fun (W' : World) (hc : Below w.heap.size w W') => alen_any pa pga Ma Fa S1 (stepG E S1) W' (ha.below hc))
  have HLb := Aside0.mk (fun (W' : World) (hc : Below w.heap.size w W') => alen_any pb pgb Mb Fb S2 (stepG E S2) W' (hb.below hc))
  have HNu := Aside0.mk (fun (W' : World) (hc : Below w.heap.size w W') => new_ut w W' hc (S1.length + S2.length + 1) (by omega))
  have hxa : -1 ≤ (0 : Int) ∧ (0 : Int) < S1.length := by have := I1.head.length_le; simp at this; omega
  have hxb : -1 ≤ (0 : Int) ∧ (0 : Int) < S2.length := by have := I2.head.length_le; simp at this; omega
  have HMt := Aside0.mk (fun (W' : World) (D : Nat → Prop) (pw pu : Nat) (hK : WK w W' D (fun _ => False) pw pu pa pb (rngL (S1.length + S2.length + 1)) []) => (show Calls Tryz.prog 73 #[.pointer (some ⟨pw, 0, none⟩), .agg #[.int .i64 0, .int .i64 0, .slice none 0 0]] W' (fun e w' => e = .returned (.tuple #[]) ∧ ∃ hs D', WK w w' D' (fun _ => False) pw pu pa pb hs [(0, 0, [])] ∧ WI T E o x S1 S2 [(0, 0, [])] 0 [] hs) from by
    refine (meet_any w W' D (fun _ => False) pw pu pa pb pga pgb Ma Mb Fa Fb S1 S2 (stepG E S1) (stepG E S2) _ [] 0 0 (none, 0, 0) [] hK ha hb l1 l2 (fun _ _ => RdV.nil _) hxa hxb (by rw [rng_len]; omega) (by simp)).mono ?_
    rintro e w' ⟨h1, -, h2⟩
    rw [if_neg hst1] at h2
    exact ⟨h1, _, _, h2, hst2⟩))
  have HAp := Aside0.mk (fun (W' : World) (D : Nat → Prop) (pw pu : Nat) (hs : List Int) (hK : WK w W' D (fun _ => False) pw pu pa pb hs [(0, 0, [])]) (hI : WI T E o x S1 S2 [(0, 0, [])] 0 [] hs) => wapart_any w W' D pw pu pa pb pga pgb Ma Mb n Fa Fb S1 S2 T E o x hs [(0, 0, [])] hK hI ha hb hga hgb hT hn hE hR hok o0 o1 x0 x1 hS1 hS2)
  obtain ⟨la, hla⟩ : ∃ k, S1.length = k := ⟨_, rfl⟩
  obtain ⟨lb, hlb⟩ : ∃ k, S2.length = k := ⟨_, rfl⟩
  rw [hla] at HLa HNu l1 HMt
  rw [hlb] at HLb HNu l2 HMt
  have i1 : (la : Int) ≤ 256 := by omega
  have i2 : (lb : Int) ≤ 256 := by omega
  have HBr := Below.refl w.heap.size w
  clear hst1 hst2 I1 I2 l1 l2 ha hb hga hgb hT hn hE hR hok o0 o1 x0 x1 hS1 hS2 hxa hxb hla hlb
  go_enter Tryz.func39, Tryz.ntmps39
  go_wp2_with fail
  refine (HLa.out w HBr).mono ?_
  rintro e w1 ⟨rfl, rfl⟩
  go_wp2_with fail
  refine (HLb.out w HBr).mono ?_
  rintro e w1 ⟨rfl, rfl⟩
  go_wp2_with fail
  have hmin : min ((la : Int) + (lb : Int) + 1) 65536 = ((la + lb + 1 : Nat) : Int) := by omega
  rw [hmin]
  refine (HNu.out w HBr).mono ?_
  rintro e w1 ⟨rfl, r1⟩
  have HWk := Aside0.mk (wk_start (pa := pa) (pb := pb) r1)
  obtain ⟨pu, hpu⟩ : ∃ b, w.heap.size = b := ⟨_, rfl⟩
  rw [hpu] at HWk ⊢
  obtain ⟨pw, hpw⟩ : ∃ b, w1.heap.size = b := ⟨_, rfl⟩
  obtain ⟨W, hW⟩ : ∃ W, w1.alloc (.cells #[.pointer (some ⟨pa, 0, none⟩), .pointer (some ⟨pb, 0, none⟩), .pointer (some ⟨pu, 0, none⟩), .slice none 0 0] 103) = W := ⟨_, rfl⟩
  rw [hW, hpw] at HWk
  clear r1 hmin
  go_wp2_with fail
  try simp only [hpw, hW]
  clear hpw hW
  refine (HMt.out W _ pw pu HWk.out).mono ?_
  rintro e w2 ⟨rfl, hs, D', r1, r2⟩
  have HA2 := Aside0.mk (HAp.out w2 D' pw pu hs r1 r2)
  clear r1 r2 HMt HAp HWk
  go_wp2_with fail
  refine HA2.out.mono ?_
  rintro e w3 ⟨r1, ⟨qa, qb, u, wd, rfl, r2, r3, r4, r5⟩ | ⟨rfl, r2⟩⟩
  · have HE := Aside0.mk (And.intro r1 (And.intro r2 (And.intro r3 (And.intro r4 r5))))
    obtain ⟨xA, xc, rfl, -, -⟩ := r2
    have HE2 := Aside0.mk (fun (ob : Obj) => (show EaSaid w T E o x (.returned (.tuple #[.slice xA wd.length xc, .bool true])) (w3.alloc ob) from ⟨below_alloc HE.out.1 _, .inl ⟨_, wd, rfl, HE.out.2.1.alloc _, HE.out.2.2.1, HE.out.2.2.2.1, HE.out.2.2.2.2⟩⟩))
    obtain ⟨xn, hxn⟩ : ∃ k, wd.length = k := ⟨_, rfl⟩
    rw [hxn] at HE2 ⊢
    clear r1 r3 r4 r5 hxn
    go_wp2_with fail
    go_ret2
    exact HE2.out _
  · have HE2 := Aside0.mk (fun (ob : Obj) => (show EaSaid w T E o x (.returned (.tuple #[.slice none 0 0, .bool false])) (w3.alloc ob) from ⟨below_alloc r1 _, .inr ⟨rfl, r2⟩⟩))
    clear r1 r2
    go_wp2_with fail
    go_ret2
    exact HE2.out _
/-- equal.Same -/
theorem esame_any (pa pb pga pgb Ma Mb n : Nat) (Fa Fb : Nat → Prop) (S1 S2 : List (List Int)) (T : List ByteArray) (E : List GE) (o x : Int) (w : World)
    (ha : AuX w Fa pa pga S1 (stepG E S1) Ma) (hb : AuX w Fb pb pgb S2 (stepG E S2) Mb) (hga : GA w pga T E) (hgb : GA w pgb T E)
    (hT : T.length = n) (hn : n ≤ 8) (hE : E.length ≤ 60) (hR : RightG n E) (hok : ∀ a f z, (a, f, z) ∈ E → ok64 f) (o0 : 0 ≤ o) (o1 : o < n) (x0 : 0 ≤ x) (x1 : x < n) (hS1 : statesG E n o = S1) (hS2 : statesG E n x = S2) :
    Calls Tryz.prog 41 #[.pointer (some ⟨pa, 0, none⟩), .pointer (some ⟨pb, 0, none⟩)] w fun e w' => (∃ B : Bool, e = .returned (.bool B) ∧ (B = true ↔ ∀ v, ¬ Df T E [o] [x] v)) ∧ Below w.heap.size w w' := by
  have HA := Aside0.mk (eapart_any pa pb pga pgb Ma Mb n Fa Fb S1 S2 T E o x w ha hb hga hgb hT hn hE hR hok o0 o1 x0 x1 hS1 hS2)
  clear ha hb hga hgb hT hn hE hR hok o0 o1 x0 x1 hS1 hS2
  go_enter Tryz.func41, Tryz.ntmps41
  go_wp2_with fail
  refine HA.out.mono ?_
  rintro e w3 ⟨r1, ⟨u, wd, rfl, r2, r3, r4, r5⟩ | ⟨rfl, r2⟩⟩
  · have HE := Aside0.mk (And.intro r1 (show false = true ↔ ∀ v, ¬ Df T E [o] [x] v from ⟨fun h => (by cases h), fun h => absurd r5.1 (h _)⟩))
    clear r1 r2 r3 r4 r5
    go_wp2_with fail
    go_ret
    exact ⟨⟨_, rfl, HE.out.2⟩, HE.out.1⟩
  · have HE := Aside0.mk (And.intro r1 r2)
    clear r1 r2
    go_wp2_with fail
    go_ret
    exact ⟨⟨_, rfl, ⟨fun _ => HE.out.2, fun _ => rfl⟩⟩, HE.out.1⟩
end Go.Proofs.YtkpadjhdneiniaaGreatDoor.Am
end

/- El: winnowerlaw24: made; awake. -/
section
namespace Go.Proofs.YtkpadjhdneiniaaGreatDoor.Am
set_option linter.unusedVariables false
open Go.RowKit Go.Proofs.YtkpadjhdneiniaaGreatDoorW.PrintWords Go.Proofs.YtkpadjhdneiniaaGreatDoorW.PrintLast Go.Proofs.YtkpadjhdneiniaaGreatDoorW.PrintMore Go.Maps
open Go.Proofs.YtkpadjhdneiniaaGreatDoor.Base Go.Proofs.YtkpadjhdneiniaaGreatDoor.Map Go.Proofs.YtkpadjhdneiniaaGreatDoor.Sl Go.Proofs.YtkpadjhdneiniaaGreatDoor.Ow Go.Proofs.YtkpadjhdneiniaaGreatDoor.Se Go.Proofs.YtkpadjhdneiniaaGreatDoor.Gr Go.Proofs.YtkpadjhdneiniaaGreatDoor.Rf Go.Proofs.YtkpadjhdneiniaaGreatDoor.Tx Go.Proofs.YtkpadjhdneiniaaGreatDoor.Au



open Go.Proofs.YtkpadjhdneiniaaGreatDoor.Eb

/-- winnowerlaw24.made -/
def MadeSaid (w : World) (T : List ByteArray) (E : List GE) (o : Int) (e : Ending) (w' : World) : Prop :=
  ∃ pa pg F, e = .returned (.pointer (some ⟨pa, 0, none⟩)) ∧ AuX w' F pa pg (statesG E T.length o) (stepG E (statesG E T.length o)) 100000 ∧ GA w' pg T E ∧ Below w.heap.size w w'
/-! the layer's example -/
def exT3 : List ByteArray := [⟨#[65]⟩, ⟨#[65]⟩, ⟨#[66]⟩]
theorem rdE_none (w : World) : RdE w none [] := ⟨⟨rfl, by simp, fun h => absurd h (Nat.lt_irrefl 0)⟩⟩
theorem ledS_bare (s : List Int) (f : Int) (t : List Int) : ledS [] s (f :: t) = [] := by
  have e : nextG [] f s = [] := rfl
  show ledS [] (nextG [] f s) t = []
  rw [e]; exact ledS_nil [] t
end Go.Proofs.YtkpadjhdneiniaaGreatDoor.Am
end
