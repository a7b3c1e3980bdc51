/- lex: what the print wrote for the reference's Tokens at the elder seat: plain functions and kinds. -/
import Derived.Test.YtkbbliicijnpjaaDoorPLexNamesx3
import Derived.Test.YtkbbliicijnpjaaDoorWEqStruct
namespace Go.Proofs.YtkbbliicijnpjaaDoor.PLexTokens
open Go.RowKit Go.Proofs.YtkbbliicijnpjaaDoorW.PrintWords Go.Proofs.YtkbbliicijnpjaaDoorW.PrintLast Go.Proofs.YtkbbliicijnpjaaDoorW.PrintMore Go.Proofs.YtkbbliicijnpjaaDoor.PLexNames
set_option linter.unusedVariables false
set_option linter.unusedSimpArgs false

theorem info33 : (Tryd.prog.info? 33).map (fun i => (i.zero, i.size, i.bytes)) = some (some (.agg #[(.int .i64 0), (.string ⟨#[]⟩), (.int .i64 0), (.int .i64 0)]), 4, 40) := by kernel_rfl
-- the values' own types
/-! #### struct type 26 -/
structure S26 where
  f0 : Int
  f1 : Int
def z26 : S26 := ⟨(0 : Int), (0 : Int)⟩
def k26 : Kd S26 := Kd.iso (Kd.pair (Kd.int .i64) (Kd.int .i64)) (fun x : S26 => (x.f0, x.f1))
theorem k26_open {w : World} {x : S26} {cs : List Value} (h : k26.K w x cs) : cs = [.int .i64 x.f0, .int .i64 x.f1] := by
  obtain ⟨_, _, rfl, rfl, rfl⟩ := h
  exact rfl
theorem k26_openM {w : World} {base : Nat} {ok : Nat → Prop} {x : S26} {cs : List Value} (h : k26.M w base ok x cs) : cs = [.int .i64 x.f0, .int .i64 x.f1] := by
  obtain ⟨_, _, rfl, rfl, rfl⟩ := h
  exact rfl
theorem k26_mk (w : World) (x : S26)  : k26.K w x [.int .i64 x.f0, .int .i64 x.f1] := ⟨[.int .i64 x.f0], [.int .i64 x.f1], rfl, rfl, rfl⟩
theorem k26_mkM (w : World) (base : Nat) (ok : Nat → Prop) (x : S26)  : k26.M w base ok x [.int .i64 x.f0, .int .i64 x.f1] := ⟨[.int .i64 x.f0], [.int .i64 x.f1], rfl, rfl, rfl⟩
def rd_T26 (xs : List S26) (i : Int) : S26 := xs.getD i.toNat z26
theorem at_T26 {w : World} {A : Option Addr} {n : Nat} {xs : List S26} (h : Kd.C k26 w A n xs) (i : Int) (h0 : 0 ≤ i) (h1 : i < n) : ∃ ad , A = some ad ∧ w.cell? (ad.add (i.toNat * 2)) = some (.int .i64 (rd_T26 xs i).f0) ∧ w.cell? ⟨(ad.add (i.toNat * 2)).block, (ad.add (i.toNat * 2)).off + 1, none⟩ = some (.int .i64 (rd_T26 xs i).f1) := by
  obtain ⟨ad, c, e, _, hK, hc0⟩ := Kd.C_get h z26 i h0 h1
  have hc : ∀ j u, c[j]? = some u → w.cell? (ad.add (i.toNat * 2 + j)) = some u := hc0
  obtain rfl := k26_open hK
  exact ⟨ad, e, hc 0 _ rfl, by rw [← add_field _ _ 1 (by omega)]; exact hc 1 _ rfl⟩

/-! #### struct type 33 -/
structure S33 where
  f0 : Int
  f1 : ByteArray
  f2 : S26
def z33 : S33 := ⟨(0 : Int), (⟨#[]⟩ : ByteArray), z26⟩
def k33 : Kd S33 := Kd.iso (Kd.pair (Kd.int .i64) (Kd.pair Kd.string k26)) (fun x : S33 => (x.f0, x.f1, x.f2))
theorem k33_open {w : World} {x : S33} {cs : List Value} (h : k33.K w x cs) : cs = [.int .i64 x.f0, .string x.f1, .int .i64 x.f2.f0, .int .i64 x.f2.f1] := by
  obtain ⟨_, _, rfl, rfl, ⟨_, _, rfl, rfl, s2⟩⟩ := h
  obtain rfl := k26_open s2
  exact rfl
theorem k33_openM {w : World} {base : Nat} {ok : Nat → Prop} {x : S33} {cs : List Value} (h : k33.M w base ok x cs) : cs = [.int .i64 x.f0, .string x.f1, .int .i64 x.f2.f0, .int .i64 x.f2.f1] := by
  obtain ⟨_, _, rfl, rfl, ⟨_, _, rfl, rfl, s2⟩⟩ := h
  obtain rfl := k26_openM s2
  exact rfl
theorem k33_mk (w : World) (x : S33)  : k33.K w x [.int .i64 x.f0, .string x.f1, .int .i64 x.f2.f0, .int .i64 x.f2.f1] := ⟨[.int .i64 x.f0], [.string x.f1, .int .i64 x.f2.f0, .int .i64 x.f2.f1], rfl, rfl, ⟨[.string x.f1], [.int .i64 x.f2.f0, .int .i64 x.f2.f1], rfl, rfl, (k26_mk w x.f2 )⟩⟩
theorem k33_mkM (w : World) (base : Nat) (ok : Nat → Prop) (x : S33)  : k33.M w base ok x [.int .i64 x.f0, .string x.f1, .int .i64 x.f2.f0, .int .i64 x.f2.f1] := ⟨[.int .i64 x.f0], [.string x.f1, .int .i64 x.f2.f0, .int .i64 x.f2.f1], rfl, rfl, ⟨[.string x.f1], [.int .i64 x.f2.f0, .int .i64 x.f2.f1], rfl, rfl, (k26_mkM w base ok x.f2 )⟩⟩
def rd_T33 (xs : List S33) (i : Int) : S33 := xs.getD i.toNat z33
theorem at_T33 {w : World} {A : Option Addr} {n : Nat} {xs : List S33} (h : Kd.C k33 w A n xs) (i : Int) (h0 : 0 ≤ i) (h1 : i < n) : ∃ ad , A = some ad ∧ w.cell? (ad.add (i.toNat * 4)) = some (.int .i64 (rd_T33 xs i).f0) ∧ w.cell? ⟨(ad.add (i.toNat * 4)).block, (ad.add (i.toNat * 4)).off + 1, none⟩ = some (.string (rd_T33 xs i).f1) ∧ w.cell? ⟨(ad.add (i.toNat * 4)).block, (ad.add (i.toNat * 4)).off + 2, none⟩ = some (.int .i64 (rd_T33 xs i).f2.f0) ∧ w.cell? ⟨(ad.add (i.toNat * 4)).block, (ad.add (i.toNat * 4)).off + 3, none⟩ = some (.int .i64 (rd_T33 xs i).f2.f1) := by
  obtain ⟨ad, c, e, _, hK, hc0⟩ := Kd.C_get h z33 i h0 h1
  have hc : ∀ j u, c[j]? = some u → w.cell? (ad.add (i.toNat * 4 + j)) = some u := hc0
  obtain rfl := k33_open hK
  exact ⟨ad, e, hc 0 _ rfl, by rw [← add_field _ _ 1 (by omega)]; exact hc 1 _ rfl, by rw [← add_field _ _ 2 (by omega)]; exact hc 2 _ rfl, by rw [← add_field _ _ 3 (by omega)]; exact hc 3 _ rfl⟩

theorem eqA26 (d : Nat) (w : World) (x0 y0 : Int) (x1 y1 : Int) :
    (Op.equalIn (d + 2) 26 (.agg #[.int .i64 x0, .int .i64 x1]) (.agg #[.int .i64 y0, .int .i64 y1])).run Tryd.prog w = .ok (x0 == y0 && (x1 == y1)) w := by
  refine eqA_of Tryd.underlying26 (by kernel_rfl) ?_
  refine eqf_cons (by rfl) (by go_simp; rfl) (by go_simp; rfl) (by go_simp) ?_
  exact eqf_last (by rfl) (by go_simp; rfl) (by go_simp; rfl) (by go_simp)
theorem eqA33 (d : Nat) (w : World) (x0 y0 : Int) (x1 y1 : ByteArray) (x2 y2 : Int) (x3 y3 : Int) :
    (Op.equalIn (d + 3) 33 (.agg #[.int .i64 x0, .string x1, .int .i64 x2, .int .i64 x3]) (.agg #[.int .i64 y0, .string y1, .int .i64 y2, .int .i64 y3])).run Tryd.prog w = .ok (x0 == y0 && (x1.toList == y1.toList && ((x2 == y2 && (x3 == y3))))) w := by
  refine eqA_of Tryd.underlying33 (by kernel_rfl) ?_
  refine eqf_cons (by rfl) (by go_simp; rfl) (by go_simp; rfl) (by go_simp) ?_
  refine eqf_cons (by rfl) (by go_simp; rfl) (by go_simp; rfl) (by go_simp) ?_
  exact eqf_last (by rfl) (by go_simp) (by go_simp) (eqA26 (d + 0) w _ _ _ _)
def winnowerref05_Place.l0 : Nat → ByteArray → Int → Int → Int → Int → Option (Int × Int)
  | 0, _, _, _, _, _ => none
  | k + 1, x0, x1, x6, x107000, x107001 => if x6 < x1 then (if 0 ≤ x6 then (if x6 < (x0.size : Int) then (if (bt x0 x6) = 10 then (winnowerref05_Place.l0 k x0 x1 (wrap64 (x6 + 1)) (wrap64 (x107000 + 1)) 1) else (winnowerref05_Place.l0 k x0 x1 (wrap64 (x6 + 1)) x107000 (wrap64 (x107001 + 1)))) else (none)) else (none)) else (some (x107000, x107001))
def winnowerref05_Place.f (k : Nat) (a0 : ByteArray) (a1 : Int) : Option (Int × Int) := winnowerref05_Place.l0 k a0 a1 0 1 1
mutual
def winnowerref05_end.l0 : Nat → ByteArray → Int → Int → Option (Int × Int × Int)
  | 0, _, _, _ => none
  | k + 1, x0, x1, x8 => if x8 < (x0.size : Int) then (if 0 ≤ x8 then ((winnowerref05_Kind.f k (bt x0 x8)).bind fun t108 => (if t108 ≤ 1 then (winnowerref05_end.l0 k x0 x1 (wrap64 (x8 + 1))) else (if (wrap64 (x8 - x1)) > 32 then (some (x8, 0, 13)) else (some (x8, 0, 0))))) else (none)) else (if (wrap64 (x8 - x1)) > 32 then (some (x8, 0, 13)) else (some (x8, 0, 0)))
def winnowerref05_end.l1 : Nat → ByteArray → Int → Int → Option (Int × Int × Int)
  | 0, _, _, _ => none
  | k + 1, x0, x1, x8 => if x8 < (x0.size : Int) then (if 0 ≤ x8 then ((winnowerref05_Kind.f k (bt x0 x8)).bind fun t109 => (if t109 = 1 then (winnowerref05_end.l1 k x0 x1 (wrap64 (x8 + 1))) else (if (wrap64 (x8 - x1)) > 3 then (some (x8, 1, 13)) else (some (x8, 1, 0))))) else (none)) else (if (wrap64 (x8 - x1)) > 3 then (some (x8, 1, 13)) else (some (x8, 1, 0)))
def winnowerref05_end.l2 : Nat → ByteArray → Int → Option (Int × Int × Int)
  | 0, _, _ => none
  | k + 1, x0, x8 => if x8 < (x0.size : Int) then (if 0 ≤ x8 then (if (bt x0 x8) = 10 then (some (x8, (-1), 0)) else (winnowerref05_end.l2 k x0 (wrap64 (x8 + 1)))) else (none)) else (some (x8, (-1), 0))
end
def winnowerref05_end.f (k : Nat) (a0 : ByteArray) (a1 : Int) : Option (Int × Int × Int) := if 0 ≤ a1 then (if a1 < (a0.size : Int) then ((winnowerref05_Kind.f k (bt a0 a1)).bind fun t107 => (if t107 = 0 then (winnowerref05_end.l0 k a0 a1 (wrap64 (a1 + 1))) else (if t107 = 1 then (winnowerref05_end.l1 k a0 a1 (wrap64 (a1 + 1))) else (if t107 = 2 then (some (wrap64 (a1 + 1), 2, 0)) else (if t107 = 3 then (some (wrap64 (a1 + 1), (-1), 0)) else (if t107 = 4 then (winnowerref05_end.l2 k a0 (wrap64 (a1 + 1))) else (if t107 = 5 then (if (wrap64 (a1 + 1)) < (a0.size : Int) then (if 0 ≤ (wrap64 (a1 + 1)) then (if (bt a0 (wrap64 (a1 + 1))) = 58 then (some (wrap64 ((wrap64 (a1 + 1)) + 1), 2, 0)) else (some (wrap64 (a1 + 1), (-1), 10))) else (none)) else (some (wrap64 (a1 + 1), (-1), 10))) else (some (wrap64 (a1 + 1), (-1), 10))))))))) else (none)) else (none)
def winnowerref05_Tokens.l0 : Nat → ByteArray → List (S33) → Int → Option ((List (S33)) × Int × Int × Int × Int × Int)
  | 0, _, _, _ => none
  | k + 1, x0, x5, x6 => if x6 < (x0.size : Int) then ((winnowerref05_end.f k x0 x6).bind fun bt114 => (if bt114.2.2 = 0 then (if bt114.2.1 ≥ 0 then (if 0 ≤ x6 then (if x6 ≤ bt114.1 then (if bt114.1 ≤ (x0.size : Int) then ((winnowerref05_Place.f k x0 x6).bind fun bt117 => (if x5.length < 3518437208883 then (winnowerref05_Tokens.l0 k x0 (x5 ++ [(⟨bt114.2.1, x0.extract (x6 : Int).toNat (bt114.1 : Int).toNat, (⟨bt117.1, bt117.2⟩ : S26)⟩ : S33)]) bt114.1) else (none))) else (none)) else (none)) else (none)) else (winnowerref05_Tokens.l0 k x0 x5 bt114.1)) else ((winnowerref05_Place.f k x0 x6).bind fun bt122 => (some (([] : List (S33)), 0, 0, bt114.2.2, bt122.1, bt122.2))))) else ((winnowerref05_Place.f k x0 (x0.size : Int)).bind fun bt112 => (some (x5, bt112.1, bt112.2, 0, 0, 0)))
def winnowerref05_Tokens.f (k : Nat) (a0 : ByteArray) : Option ((List (S33)) × Int × Int × Int × Int × Int) := if (a0.size : Int) > 20000 then (some (([] : List (S33)), 0, 0, 13, 1, 1)) else (winnowerref05_Tokens.l0 k a0 ([] : List (S33)) 0)
end Go.Proofs.YtkbbliicijnpjaaDoor.PLexTokens
