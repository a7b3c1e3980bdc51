/- lex: the reference's kinds are the program's; octets of what is left. -/
import Derived.Test.YtkbbliicijnpjaaDoorLg
namespace Go.Proofs.YtkbbliicijnpjaaDoor.Lx
open Go.RowKit Go.Proofs.YtkbbliicijnpjaaDoorW.PrintWords Go.Proofs.YtkbbliicijnpjaaDoorW.PrintLast Go.Proofs.YtkbbliicijnpjaaDoorW.PrintMore
open Go.Proofs.YtkbbliicijnpjaaDoor.Base Go.Proofs.YtkbbliicijnpjaaDoor.PLexTokens Go.Proofs.YtkbbliicijnpjaaDoor.PLexNames Go.Proofs.YtkbbliicijnpjaaDoor.Map
set_option linter.unusedVariables false

/-- the kind of an octet, in the program's words -/
def kindB (c : Int) : Int := if spB c then 3 else if c = 35 then 4 else if letB c then 0 else if digB c then 1 else if sgB c then 2 else if c = 58 then 5 else 6
theorem kind_all : (List.range 256).all (fun c => winnowerref05_Kind.f 5 (c : Int) == some (kindB (c : Int))) = true := by kernel_rfl
theorem kind_f (s : ByteArray) (i : Int) : winnowerref05_Kind.f 5 (bt s i) = some (kindB (bt s i)) := by
  have h := bt_range s i
  have := List.all_eq_true.1 kind_all (bt s i).toNat (List.mem_range.2 (by omega))
  rw [Int.toNat_of_nonneg h.1] at this
  exact eq_of_beq this
theorem get_list (s : ByteArray) (j : Nat) (h : j < s.size) : s.data.toList[j]? = some s[j] := by
  rw [List.getElem?_eq_getElem (by rw [← Lib.size_eq]; exact h)]
  simp
  rfl
theorem bt_ext (T : ByteArray) (a j : Nat) : bt (T.extract a T.size) (j : Int) = bt T ((a + j : Nat) : Int) := by
  by_cases ha : a + j < T.size
  · have h1 : j < (T.extract a T.size).size := by rw [ext_size _ _ (by omega)]; omega
    have h2 : (T.extract a T.size).data.toList[j]? = T.data.toList[a + j]? := by
      rw [Lib.extract_data, List.getElem?_take, if_pos (by omega), List.getElem?_drop]
    have e1 := bt_at (T.extract a T.size) (j : Int) h1
    have e2 := bt_at T ((a + j : Nat) : Int) ha
    rw [← e1, ← e2]
    rw [get_list _ j h1, get_list _ _ ha] at h2
    exact congrArg (fun x : UInt8 => ((x.toNat : Nat) : Int)) (Option.some.inj h2)
  · have h1 : ¬ (j : Int).toNat < (T.extract a T.size).size := by
      rw [Lib.size_eq, Lib.extract_data, List.length_take, List.length_drop, ← Lib.size_eq]
      omega
    unfold bt
    rw [dif_neg h1, dif_neg (by omega)]
end Go.Proofs.YtkbbliicijnpjaaDoor.Lx
