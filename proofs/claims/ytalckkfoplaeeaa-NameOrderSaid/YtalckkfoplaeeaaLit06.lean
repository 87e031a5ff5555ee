/-
  Literals of functions, for the abstract machine; that they are meant.
-/
import Derived.Test.YtalckkfoplaeeaaProg
import Derived.Test.YtalckkfoplaeeaaAmGU
import Derived.Test.YtalckkfoplaeeaaAmGS
import Derived.KernelRfl
set_option linter.unusedSimpArgs false
set_option linter.unusedVariables false
namespace Go.Proofs.Ytalckkfoplaeeaa
open Go.Am
/-- catacomb/catacomblaw06.NameTells -/
def b3_1 : AC := .seq (.seq (.ops (.op (some 57) (.mv (.t 21)) (.op (some 58) (.mv (.t 10)) (.op (some 59) (.len false (.t 58)) (.op (some 60) (.bin .lss (.t 57) (.t 59)) (.nil))))))
 (.cond (.t 60) (.skip) (.exit 0)))
 (.seq (.block 1 (.seq (.ops (.op (some 63) (.mv (.t 10)) (.op (some 64) (.mv (.t 21)) (.op (some 65) (.iad 1 (.t 63) (.t 64)) (.op (some 66) (.load 1 false (.t 65)) (.op (some 67) (.callp 16 [(.t 66)]) (.op (some 68) (.mv (.t 10)) (.op (some 69) (.mv (.t 21)) (.op (some 70) (.iad 1 (.t 68) (.t 69)) (.op (some 71) (.load 1 false (.t 70)) (.op (some 72) (.callp 17 [(.t 71)]) (.op (some 73) (.beq true (.t 67) (.t 72)) (.nil)))))))))))))
 (.cond (.t 73) (.seq (.ops (.op (some 6) (.mv (.c (.bool false))) (.nil)))
 (.ret)) (.skip))))
 (.ops (.op (some 61) (.mv (.t 21)) (.op (some 62) (.bin .add (.t 61) (.c (.int .i64 1))) (.op (some 21) (.mv (.t 62)) (.nil))))))
def c3_1 : AC := b3_1
@[simp] theorem e3_1 {Γ : Tab} {V : Nat → Bool} {ρ : Type} (k : AX → St → Option ρ) (s : St) : eval Γ c3_1 V ρ k s = eval Γ b3_1 V ρ k s := rfl
def c3 : AF := AF.mk 123 [.t 6] (.seq (.ops (.op (some 6) (.mv (.c (.bool false))) (.nil)))
 (.seq (.ops (.op (some 22) (.call 10 []) (.op (some 7) (.mv (.t 22)) (.nil))))
 (.seq (.ops (.op (some 23) (.mv (.t 0)) (.op (some 24) (.mv (.t 0)) (.op (some 25) (.len true (.t 24)) (.op (some 26) (.mm false [(.t 25), (.c (.int .i64 500))]) (.op (some 27) (.sls (.t 23) none (some (.t 26))) (.op (some 8) (.mv (.t 27)) (.nil))))))))
 (.seq (.ops (.op (some 28) (.mv (.t 1)) (.op (some 29) (.mv (.t 1)) (.op (some 30) (.len true (.t 29)) (.op (some 31) (.mm false [(.t 30), (.c (.int .i64 500))]) (.op (some 32) (.sls (.t 28) none (some (.t 31))) (.op (some 9) (.mv (.t 32)) (.nil))))))))
 (.seq (.ops (.op (some 33) (.mv (.t 2)) (.op (some 34) (.call 11 [(.t 33)]) (.op (some 10) (.mv (.t 34)) (.nil)))))
 (.seq (.ops (.op (some 36) (.mv (.t 8)) (.op (some 37) (.call 12 [(.t 36)]) (.op (some 35) (.mv (.t 37)) (.op (some 38) (.ext (.t 35) 0) (.op (some 39) (.ext (.t 35) 1) (.op (some 11) (.mv (.t 38)) (.op (some 12) (.mv (.t 39)) (.nil)))))))))
 (.seq (.ops (.op (some 41) (.mv (.t 8)) (.op (some 42) (.call 13 [(.t 41)]) (.op (some 40) (.mv (.t 42)) (.op (some 43) (.ext (.t 40) 0) (.op (some 44) (.ext (.t 40) 1) (.op (some 13) (.mv (.t 43)) (.op (some 14) (.mv (.t 44)) (.nil)))))))))
 (.seq (.ops (.op (some 46) (.mv (.t 8)) (.op (some 47) (.call 14 [(.t 46)]) (.op (some 45) (.mv (.t 47)) (.op (some 48) (.ext (.t 45) 0) (.op (some 49) (.ext (.t 45) 1) (.op (some 50) (.ext (.t 45) 2) (.op (some 15) (.mv (.t 48)) (.op (some 16) (.mv (.t 49)) (.op (some 17) (.mv (.t 50)) (.nil)))))))))))
 (.seq (.ops (.op (some 52) (.mv (.t 8)) (.op (some 53) (.call 15 [(.t 52)]) (.op (some 51) (.mv (.t 53)) (.op (some 54) (.ext (.t 51) 0) (.op (some 55) (.ext (.t 51) 1) (.op (some 56) (.ext (.t 51) 2) (.op (some 18) (.mv (.t 54)) (.op (some 19) (.mv (.t 55)) (.op (some 20) (.mv (.t 56)) (.nil)))))))))))
 (.seq (.seq (.ops (.op (some 21) (.mv (.c (.int .i64 0))) (.nil)))
 (.block 0 (.loop [21] [(6, 6), (21, 21), (57, 73)] [] [(.exit 0, []), (.ret, [6])] c3_1)))
 (.seq (.ops (.op (some 74) (.mv (.t 7)) (.op (some 75) (.mv (.t 74)) (.sc 81 true 75 76 80 (.op (some 76) (.mv (.t 8)) (.op (some 77) (.call 16 [(.t 76)]) (.op (some 78) (.mv (.t 8)) (.op (some 79) (.call 17 [(.t 78)]) (.op (some 80) (.beq false (.t 77) (.t 79)) (.nil)))))) (.t 80) (.op (some 82) (.mv (.t 81)) (.sc 86 true 82 83 85 (.op (some 83) (.mv (.t 11)) (.op (some 84) (.mv (.t 13)) (.op (some 85) (.call 18 [(.t 83), (.t 84)]) (.nil)))) (.t 85) (.op (some 87) (.mv (.t 86)) (.sc 91 true 87 88 90 (.op (some 88) (.mv (.t 12)) (.op (some 89) (.mv (.t 14)) (.op (some 90) (.bin .eql (.t 88) (.t 89)) (.nil)))) (.t 90) (.op (some 92) (.mv (.t 91)) (.sc 96 true 92 93 95 (.op (some 93) (.mv (.t 15)) (.op (some 94) (.mv (.t 18)) (.op (some 95) (.bin .eql (.t 93) (.t 94)) (.nil)))) (.t 95) (.op (some 97) (.mv (.t 96)) (.sc 101 true 97 98 100 (.op (some 98) (.mv (.t 16)) (.op (some 99) (.mv (.t 19)) (.op (some 100) (.bin .eql (.t 98) (.t 99)) (.nil)))) (.t 100) (.op (some 102) (.mv (.t 101)) (.sc 106 true 102 103 105 (.op (some 103) (.mv (.t 17)) (.op (some 104) (.mv (.t 20)) (.op (some 105) (.bin .eql (.t 103) (.t 104)) (.nil)))) (.t 105) (.op (some 107) (.mv (.t 106)) (.sc 115 true 107 108 114 (.op (some 108) (.mv (.t 8)) (.op (some 109) (.mv (.t 9)) (.op (some 110) (.call 19 [(.t 108), (.t 109)]) (.op (some 111) (.mv (.t 8)) (.op (some 112) (.mv (.t 9)) (.op (some 113) (.call 20 [(.t 111), (.t 112)]) (.op (some 114) (.beq false (.t 110) (.t 113)) (.nil)))))))) (.t 114) (.op (some 116) (.mv (.t 115)) (.sc 122 true 116 117 121 (.op (some 117) (.mv (.t 10)) (.op (some 118) (.call 21 [(.t 117)]) (.op (some 119) (.mv (.t 10)) (.op (some 120) (.call 22 [(.t 119)]) (.op (some 121) (.bin .eql (.t 118) (.t 120)) (.nil)))))) (.t 121) (.op (some 6) (.mv (.t 122)) (.nil))))))))))))))))))))
 (.ret))))))))))))

theorem ok3 : okF Try.prog 3 c3 = true := by kernel_rfl

/-- catacomb/catacomblaw06.NameBack -/
def b4_1 : AC := .seq (.seq (.ops (.op (some 15) (.mv (.t 6)) (.op (some 16) (.mv (.t 4)) (.op (some 17) (.len false (.t 16)) (.op (some 18) (.bin .lss (.t 15) (.t 17)) (.nil))))))
 (.cond (.t 18) (.skip) (.exit 0)))
 (.seq (.block 1 (.ops (.op (some 21) (.mv (.t 5)) (.op (some 22) (.mv (.t 21)) (.sc 28 true 22 23 27 (.op (some 23) (.mv (.t 4)) (.op (some 24) (.mv (.t 6)) (.op (some 25) (.iad 1 (.t 23) (.t 24)) (.op (some 26) (.load 1 false (.t 25)) (.op (some 27) (.call 16 [(.t 26)]) (.nil)))))) (.t 27) (.op (some 5) (.mv (.t 28)) (.nil)))))))
 (.ops (.op (some 19) (.mv (.t 6)) (.op (some 20) (.bin .add (.t 19) (.c (.int .i64 1))) (.op (some 6) (.mv (.t 20)) (.nil))))))
def c4_1 : AC := b4_1
@[simp] theorem e4_1 {Γ : Tab} {V : Nat → Bool} {ρ : Type} (k : AX → St → Option ρ) (s : St) : eval Γ c4_1 V ρ k s = eval Γ b4_1 V ρ k s := rfl
def c4 : AF := AF.mk 66 [.t 2] (.seq (.ops (.op (some 2) (.mv (.c (.bool false))) (.nil)))
 (.seq (.ops (.op (some 9) (.call 10 []) (.op (some 3) (.mv (.t 9)) (.nil))))
 (.seq (.ops (.op (some 10) (.mv (.t 0)) (.op (some 11) (.call 11 [(.t 10)]) (.op (some 4) (.mv (.t 11)) (.nil)))))
 (.seq (.ops (.op (some 12) (.mv (.t 4)) (.op (some 13) (.len false (.t 12)) (.op (some 14) (.bin .leq (.t 13) (.c (.int .i64 12))) (.op (some 5) (.mv (.t 14)) (.nil))))))
 (.seq (.seq (.ops (.op (some 6) (.mv (.c (.int .i64 0))) (.nil)))
 (.block 0 (.loop [5, 6] [(5, 6), (15, 28)] [] [(.exit 0, [5])] c4_1)))
 (.seq (.ops (.op (some 30) (.mv (.t 4)) (.op (some 31) (.call 21 [(.t 30)]) (.op (some 32) (.call 12 [(.t 31)]) (.op (some 29) (.mv (.t 32)) (.op (some 33) (.ext (.t 29) 0) (.op (some 34) (.ext (.t 29) 1) (.op (some 7) (.mv (.t 33)) (.op (some 8) (.mv (.t 34)) (.nil))))))))))
 (.seq (.seq (.ops (.op (some 35) (.mv (.t 5)) (.nil)))
 (.cond (.t 35) (.seq (.ops (.op (some 36) (.mv (.t 3)) (.op (some 37) (.mv (.t 36)) (.sc 40 true 37 38 39 (.op (some 38) (.mv (.t 8)) (.op (some 39) (.bin .eql (.t 38) (.c (.int .i64 0))) (.nil))) (.t 39) (.op (some 41) (.mv (.t 40)) (.sc 45 true 41 42 44 (.op (some 42) (.mv (.t 7)) (.op (some 43) (.mv (.t 4)) (.op (some 44) (.call 18 [(.t 42), (.t 43)]) (.nil)))) (.t 44) (.op (some 2) (.mv (.t 45)) (.nil))))))))
 (.ret)) (.skip)))
 (.seq (.ops (.op (some 46) (.mv (.t 3)) (.op (some 47) (.mv (.t 46)) (.sc 65 true 47 48 64 (.op (some 48) (.mv (.t 8)) (.op (some 49) (.bin .eql (.t 48) (.c (.int .i64 60))) (.op (some 50) (.mv (.t 49)) (.sc 54 true 50 51 53 (.op (some 51) (.mv (.t 7)) (.op (some 52) (.len false (.t 51)) (.op (some 53) (.bin .eql (.t 52) (.c (.int .i64 0))) (.nil)))) (.t 53) (.op (some 55) (.mv (.t 54)) (.sc 64 false 55 56 63 (.op (some 56) (.mv (.t 8)) (.op (some 57) (.bin .eql (.t 56) (.c (.int .i64 0))) (.op (some 58) (.mv (.t 57)) (.sc 63 true 58 59 62 (.op (some 59) (.mv (.t 7)) (.op (some 60) (.mv (.t 4)) (.op (some 61) (.call 18 [(.t 59), (.t 60)]) (.op (some 62) (.un .not (.t 61)) (.nil))))) (.t 62) (.nil))))) (.t 63) (.nil))))))) (.t 64) (.op (some 2) (.mv (.t 65)) (.nil))))))
 (.ret)))))))))

theorem ok4 : okF Try.prog 4 c4 = true := by kernel_rfl

/-- catacomb/catacomblaw06.NameAgain -/
def b5_1 : AC := .seq (.seq (.ops (.op (some 42) (.mv (.t 7)) (.op (some 43) (.mv (.t 5)) (.op (some 44) (.len false (.t 43)) (.op (some 45) (.bin .lss (.t 42) (.t 44)) (.nil))))))
 (.cond (.t 45) (.skip) (.exit 0)))
 (.seq (.block 1 (.seq (.ops (.op (some 48) (.mv (.t 5)) (.op (some 49) (.mv (.t 7)) (.op (some 50) (.iad 1 (.t 48) (.t 49)) (.op (some 51) (.load 1 false (.t 50)) (.op (some 52) (.call 16 [(.t 51)]) (.op (some 53) (.un .not (.t 52)) (.nil))))))))
 (.cond (.t 53) (.seq (.ops (.op (some 2) (.mv (.c (.bool false))) (.nil)))
 (.ret)) (.skip))))
 (.ops (.op (some 46) (.mv (.t 7)) (.op (some 47) (.bin .add (.t 46) (.c (.int .i64 1))) (.op (some 7) (.mv (.t 47)) (.nil))))))
def c5_1 : AC := b5_1
@[simp] theorem e5_1 {Γ : Tab} {V : Nat → Bool} {ρ : Type} (k : AX → St → Option ρ) (s : St) : eval Γ c5_1 V ρ k s = eval Γ b5_1 V ρ k s := rfl
def c5 : AF := AF.mk 75 [.t 2] (.seq (.ops (.op (some 2) (.mv (.c (.bool false))) (.nil)))
 (.seq (.ops (.op (some 8) (.call 10 []) (.op (some 3) (.mv (.t 8)) (.nil))))
 (.seq (.ops (.op (some 9) (.mv (.t 0)) (.op (some 10) (.mv (.t 0)) (.op (some 11) (.len true (.t 10)) (.op (some 12) (.mm false [(.t 11), (.c (.int .i64 500))]) (.op (some 13) (.sls (.t 9) none (some (.t 12))) (.op (some 4) (.mv (.t 13)) (.nil))))))))
 (.seq (.ops (.op (some 15) (.mv (.t 4)) (.op (some 16) (.call 12 [(.t 15)]) (.op (some 14) (.mv (.t 16)) (.op (some 17) (.ext (.t 14) 0) (.op (some 18) (.ext (.t 14) 1) (.op (some 5) (.mv (.t 17)) (.op (some 6) (.mv (.t 18)) (.nil)))))))))
 (.seq (.seq (.ops (.op (some 19) (.mv (.t 6)) (.op (some 20) (.bin .neq (.t 19) (.c (.int .i64 0))) (.nil))))
 (.cond (.t 20) (.seq (.ops (.op (some 21) (.mv (.t 3)) (.op (some 22) (.mv (.t 21)) (.sc 25 true 22 23 24 (.op (some 23) (.mv (.t 6)) (.op (some 24) (.bin .eql (.t 23) (.c (.int .i64 60))) (.nil))) (.t 24) (.op (some 26) (.mv (.t 25)) (.sc 30 true 26 27 29 (.op (some 27) (.mv (.t 5)) (.op (some 28) (.len false (.t 27)) (.op (some 29) (.bin .eql (.t 28) (.c (.int .i64 0))) (.nil)))) (.t 29) (.op (some 31) (.mv (.t 30)) (.sc 35 true 31 32 34 (.op (some 32) (.mv (.t 4)) (.op (some 33) (.call 19 [(.c (.str [47])), (.t 32)]) (.op (some 34) (.un .not (.t 33)) (.nil)))) (.t 34) (.op (some 36) (.mv (.t 35)) (.sc 41 true 36 37 40 (.op (some 37) (.mv (.t 4)) (.op (some 38) (.mv (.t 4)) (.op (some 39) (.call 19 [(.t 37), (.t 38)]) (.op (some 40) (.un .not (.t 39)) (.nil))))) (.t 40) (.op (some 2) (.mv (.t 41)) (.nil))))))))))))
 (.ret)) (.skip)))
 (.seq (.seq (.ops (.op (some 7) (.mv (.c (.int .i64 0))) (.nil)))
 (.block 0 (.loop [7] [(2, 2), (7, 7), (42, 53)] [] [(.exit 0, []), (.ret, [2])] c5_1)))
 (.seq (.ops (.op (some 54) (.mv (.t 3)) (.op (some 55) (.mv (.t 54)) (.sc 60 true 55 56 59 (.op (some 56) (.mv (.t 5)) (.op (some 57) (.call 21 [(.t 56)]) (.op (some 58) (.mv (.t 4)) (.op (some 59) (.bin .eql (.t 57) (.t 58)) (.nil))))) (.t 59) (.op (some 61) (.mv (.t 60)) (.sc 65 true 61 62 64 (.op (some 62) (.mv (.t 5)) (.op (some 63) (.len false (.t 62)) (.op (some 64) (.bin .leq (.t 63) (.c (.int .i64 12))) (.nil)))) (.t 64) (.op (some 66) (.mv (.t 65)) (.sc 69 true 66 67 68 (.op (some 67) (.mv (.t 4)) (.op (some 68) (.call 19 [(.c (.str [47])), (.t 67)]) (.nil))) (.t 68) (.op (some 70) (.mv (.t 69)) (.sc 74 true 70 71 73 (.op (some 71) (.mv (.t 4)) (.op (some 72) (.mv (.t 4)) (.op (some 73) (.call 19 [(.t 71), (.t 72)]) (.nil)))) (.t 73) (.op (some 2) (.mv (.t 74)) (.nil))))))))))))
 (.ret))))))))

theorem ok5 : okF Try.prog 5 c5 = true := by kernel_rfl

/-- catacomb/catacomblaw06.NameOrder -/
def c6 : AF := AF.mk 125 [.t 6] (.seq (.ops (.op (some 5) (.box (.t 2)) (.op (some 6) (.mv (.c (.bool false))) (.nil))))
 (.seq (.ops (.op (some 15) (.call 10 []) (.op (some 7) (.mv (.t 15)) (.nil))))
 (.seq (.ops (.op (some 16) (.mv (.t 0)) (.op (some 17) (.call 23 [(.t 16)]) (.op (some 8) (.mv (.t 17)) (.nil)))))
 (.seq (.ops (.op (some 18) (.iada 2 1 (.t 5) (.c (.int .i64 0))) (.op (some 19) (.load 1 false (.t 18)) (.op (some 20) (.conv .i64 (.t 19)) (.op (some 21) (.mv (.t 8)) (.op (some 22) (.len false (.t 21)) (.op (some 23) (.bin .add (.t 22) (.c (.int .i64 1))) (.op (some 24) (.bin .rem (.t 20) (.t 23)) (.op (some 9) (.mv (.t 24)) (.nil))))))))))
 (.seq (.ops (.op (some 25) (.iada 2 1 (.t 5) (.c (.int .i64 1))) (.op (some 26) (.load 1 false (.t 25)) (.op (some 27) (.conv .i64 (.t 26)) (.op (some 28) (.mv (.t 8)) (.op (some 29) (.len false (.t 28)) (.op (some 30) (.bin .add (.t 29) (.c (.int .i64 1))) (.op (some 31) (.bin .rem (.t 27) (.t 30)) (.op (some 10) (.mv (.t 31)) (.nil))))))))))
 (.seq (.ops (.op (some 32) (.mv (.t 8)) (.op (some 33) (.mv (.t 9)) (.op (some 34) (.sll 1 (.t 32) none (some (.t 33)) none) (.op (some 35) (.call 21 [(.t 34)]) (.op (some 11) (.mv (.t 35)) (.nil)))))))
 (.seq (.ops (.op (some 36) (.mv (.t 8)) (.op (some 37) (.mv (.t 10)) (.op (some 38) (.sll 1 (.t 36) none (some (.t 37)) none) (.op (some 39) (.call 21 [(.t 38)]) (.op (some 12) (.mv (.t 39)) (.nil)))))))
 (.seq (.ops (.op (some 40) (.mv (.t 8)) (.op (some 41) (.call 21 [(.t 40)]) (.op (some 13) (.mv (.t 41)) (.nil)))))
 (.seq (.ops (.op (some 42) (.mv (.t 1)) (.op (some 43) (.call 23 [(.t 42)]) (.op (some 44) (.call 21 [(.t 43)]) (.op (some 14) (.mv (.t 44)) (.nil))))))
 (.seq (.seq (.ops (.op (some 45) (.mv (.t 11)) (.op (some 46) (.mv (.t 13)) (.op (some 47) (.call 19 [(.t 45), (.t 46)]) (.op (some 48) (.un .not (.t 47)) (.op (some 49) (.mv (.t 48)) (.sc 54 false 49 50 53 (.op (some 50) (.mv (.t 12)) (.op (some 51) (.mv (.t 13)) (.op (some 52) (.call 19 [(.t 50), (.t 51)]) (.op (some 53) (.un .not (.t 52)) (.nil))))) (.t 53) (.op (some 55) (.mv (.t 54)) (.sc 63 false 55 56 62 (.op (some 56) (.mv (.t 11)) (.op (some 57) (.mv (.t 12)) (.op (some 58) (.call 19 [(.t 56), (.t 57)]) (.op (some 59) (.mv (.t 9)) (.op (some 60) (.mv (.t 10)) (.op (some 61) (.bin .leq (.t 59) (.t 60)) (.op (some 62) (.beq true (.t 58) (.t 61)) (.nil)))))))) (.t 62) (.op (some 64) (.mv (.t 63)) (.sc 72 false 64 65 71 (.op (some 65) (.mv (.t 12)) (.op (some 66) (.mv (.t 11)) (.op (some 67) (.call 19 [(.t 65), (.t 66)]) (.op (some 68) (.mv (.t 10)) (.op (some 69) (.mv (.t 9)) (.op (some 70) (.bin .leq (.t 68) (.t 69)) (.op (some 71) (.beq true (.t 67) (.t 70)) (.nil)))))))) (.t 71) (.nil))))))))))))
 (.cond (.t 72) (.seq (.ops (.op (some 6) (.mv (.c (.bool false))) (.nil)))
 (.ret)) (.skip)))
 (.seq (.seq (.ops (.op (some 73) (.mv (.t 14)) (.op (some 74) (.mv (.t 13)) (.op (some 75) (.call 19 [(.t 73), (.t 74)]) (.op (some 76) (.mv (.t 75)) (.sc 80 true 76 77 79 (.op (some 77) (.mv (.t 13)) (.op (some 78) (.mv (.t 14)) (.op (some 79) (.call 19 [(.t 77), (.t 78)]) (.nil)))) (.t 79) (.op (some 81) (.mv (.t 80)) (.sc 85 true 81 82 84 (.op (some 82) (.mv (.t 14)) (.op (some 83) (.mv (.t 13)) (.op (some 84) (.bin .neq (.t 82) (.t 83)) (.nil)))) (.t 84) (.op (some 86) (.mv (.t 85)) (.sc 96 false 86 87 95 (.op (some 87) (.mv (.t 13)) (.op (some 88) (.mv (.t 14)) (.op (some 89) (.call 19 [(.t 87), (.t 88)]) (.op (some 90) (.mv (.t 89)) (.sc 95 true 90 91 94 (.op (some 91) (.mv (.t 11)) (.op (some 92) (.mv (.t 14)) (.op (some 93) (.call 19 [(.t 91), (.t 92)]) (.op (some 94) (.un .not (.t 93)) (.nil))))) (.t 94) (.nil)))))) (.t 95) (.op (some 97) (.mv (.t 96)) (.sc 107 false 97 98 106 (.op (some 98) (.mv (.t 14)) (.op (some 99) (.mv (.t 11)) (.op (some 100) (.call 19 [(.t 98), (.t 99)]) (.op (some 101) (.mv (.t 100)) (.sc 106 true 101 102 105 (.op (some 102) (.mv (.t 14)) (.op (some 103) (.mv (.t 13)) (.op (some 104) (.call 19 [(.t 102), (.t 103)]) (.op (some 105) (.un .not (.t 104)) (.nil))))) (.t 105) (.nil)))))) (.t 106) (.nil)))))))))))))
 (.cond (.t 107) (.seq (.ops (.op (some 6) (.mv (.c (.bool false))) (.nil)))
 (.ret)) (.skip)))
 (.seq (.ops (.op (some 108) (.mv (.t 7)) (.op (some 109) (.mv (.t 108)) (.sc 124 true 109 110 123 (.op (some 110) (.mv (.t 14)) (.op (some 111) (.mv (.t 13)) (.op (some 112) (.call 19 [(.t 110), (.t 111)]) (.op (some 113) (.un .not (.t 112)) (.op (some 114) (.mv (.t 113)) (.sc 118 false 114 115 117 (.op (some 115) (.mv (.t 14)) (.op (some 116) (.mv (.t 12)) (.op (some 117) (.call 19 [(.t 115), (.t 116)]) (.nil)))) (.t 117) (.op (some 119) (.mv (.t 118)) (.sc 123 false 119 120 122 (.op (some 120) (.mv (.t 12)) (.op (some 121) (.mv (.t 14)) (.op (some 122) (.call 19 [(.t 120), (.t 121)]) (.nil)))) (.t 122) (.nil))))))))) (.t 123) (.op (some 6) (.mv (.t 124)) (.nil))))))
 (.ret)))))))))))))

theorem ok6 : okF Try.prog 6 c6 = true := by kernel_rfl

/-- catacomb/catacomblaw06.NameLast -/
def c7 : AF := AF.mk 123 [.t 4] (.seq (.ops (.op (some 4) (.mv (.c (.bool false))) (.nil)))
 (.seq (.ops (.op (some 18) (.call 10 []) (.op (some 5) (.mv (.t 18)) (.nil))))
 (.seq (.ops (.op (some 19) (.mv (.t 0)) (.op (some 20) (.call 23 [(.t 19)]) (.op (some 6) (.mv (.t 20)) (.nil)))))
 (.seq (.ops (.op (some 21) (.mv (.t 6)) (.op (some 22) (.call 21 [(.t 21)]) (.op (some 7) (.mv (.t 22)) (.nil)))))
 (.seq (.ops (.op (some 24) (.mv (.t 7)) (.op (some 25) (.call 14 [(.t 24)]) (.op (some 23) (.mv (.t 25)) (.op (some 26) (.ext (.t 23) 0) (.op (some 27) (.ext (.t 23) 1) (.op (some 28) (.ext (.t 23) 2) (.op (some 8) (.mv (.t 26)) (.op (some 9) (.mv (.t 27)) (.op (some 10) (.mv (.t 28)) (.nil)))))))))))
 (.seq (.seq (.ops (.op (some 29) (.mv (.t 6)) (.op (some 30) (.len false (.t 29)) (.op (some 31) (.bin .eql (.t 30) (.c (.int .i64 0))) (.nil)))))
 (.cond (.t 31) (.seq (.ops (.op (some 32) (.mv (.t 5)) (.op (some 33) (.mv (.t 32)) (.sc 36 true 33 34 35 (.op (some 34) (.mv (.t 10)) (.op (some 35) (.bin .eql (.t 34) (.c (.int .i64 60))) (.nil))) (.t 35) (.op (some 37) (.mv (.t 36)) (.sc 40 true 37 38 39 (.op (some 38) (.mv (.t 8)) (.op (some 39) (.bin .eql (.t 38) (.c (.str []))) (.nil))) (.t 39) (.op (some 41) (.mv (.t 40)) (.sc 44 true 41 42 43 (.op (some 42) (.mv (.t 9)) (.op (some 43) (.bin .eql (.t 42) (.c (.str []))) (.nil))) (.t 43) (.op (some 4) (.mv (.t 44)) (.nil))))))))))
 (.ret)) (.skip)))
 (.seq (.seq (.ops (.op (some 45) (.mv (.t 10)) (.op (some 46) (.bin .neq (.t 45) (.c (.int .i64 0))) (.op (some 47) (.mv (.t 46)) (.sc 56 false 47 48 55 (.op (some 48) (.mv (.t 8)) (.op (some 49) (.mv (.t 6)) (.op (some 50) (.mv (.t 6)) (.op (some 51) (.len false (.t 50)) (.op (some 52) (.bin .sub (.t 51) (.c (.int .i64 1))) (.op (some 53) (.iad 1 (.t 49) (.t 52)) (.op (some 54) (.load 1 false (.t 53)) (.op (some 55) (.bin .neq (.t 48) (.t 54)) (.nil))))))))) (.t 55) (.op (some 57) (.mv (.t 56)) (.sc 66 false 57 58 65 (.op (some 58) (.mv (.t 9)) (.op (some 59) (.mv (.t 6)) (.op (some 60) (.mv (.t 6)) (.op (some 61) (.len false (.t 60)) (.op (some 62) (.bin .sub (.t 61) (.c (.int .i64 1))) (.op (some 63) (.sll 1 (.t 59) none (some (.t 62)) none) (.op (some 64) (.call 21 [(.t 63)]) (.op (some 65) (.bin .neq (.t 58) (.t 64)) (.nil))))))))) (.t 65) (.op (some 67) (.mv (.t 66)) (.sc 72 false 67 68 71 (.op (some 68) (.mv (.t 9)) (.op (some 69) (.mv (.t 7)) (.op (some 70) (.call 19 [(.t 68), (.t 69)]) (.op (some 71) (.un .not (.t 70)) (.nil))))) (.t 71) (.op (some 73) (.mv (.t 72)) (.sc 77 false 73 74 76 (.op (some 74) (.mv (.t 7)) (.op (some 75) (.mv (.t 9)) (.op (some 76) (.call 19 [(.t 74), (.t 75)]) (.nil)))) (.t 76) (.nil))))))))))))
 (.cond (.t 77) (.seq (.ops (.op (some 4) (.mv (.c (.bool false))) (.nil)))
 (.ret)) (.skip)))
 (.seq (.ops (.op (some 78) (.mv (.t 1)) (.op (some 79) (.mv (.t 1)) (.op (some 80) (.len true (.t 79)) (.op (some 81) (.mm false [(.t 80), (.c (.int .i64 500))]) (.op (some 82) (.sls (.t 78) none (some (.t 81))) (.op (some 11) (.mv (.t 82)) (.nil))))))))
 (.seq (.ops (.op (some 84) (.mv (.t 11)) (.op (some 85) (.call 14 [(.t 84)]) (.op (some 83) (.mv (.t 85)) (.op (some 86) (.ext (.t 83) 0) (.op (some 87) (.ext (.t 83) 1) (.op (some 88) (.ext (.t 83) 2) (.op (some 12) (.mv (.t 86)) (.op (some 13) (.mv (.t 87)) (.op (some 14) (.mv (.t 88)) (.nil)))))))))))
 (.seq (.ops (.op (some 90) (.mv (.t 13)) (.op (some 91) (.call 12 [(.t 90)]) (.op (some 89) (.mv (.t 91)) (.op (some 92) (.ext (.t 89) 0) (.op (some 93) (.ext (.t 89) 1) (.op (some 15) (.mv (.t 92)) (.op (some 16) (.mv (.t 93)) (.nil)))))))))
 (.seq (.seq (.ops (.op (some 94) (.mv (.t 14)) (.op (some 95) (.bin .neq (.t 94) (.c (.int .i64 0))) (.nil))))
 (.cond (.t 95) (.seq (.ops (.op (some 96) (.mv (.t 5)) (.op (some 97) (.mv (.t 96)) (.sc 100 true 97 98 99 (.op (some 98) (.mv (.t 12)) (.op (some 99) (.bin .eql (.t 98) (.c (.str []))) (.nil))) (.t 99) (.op (some 101) (.mv (.t 100)) (.sc 104 true 101 102 103 (.op (some 102) (.mv (.t 13)) (.op (some 103) (.bin .eql (.t 102) (.c (.str []))) (.nil))) (.t 103) (.op (some 4) (.mv (.t 104)) (.nil))))))))
 (.ret)) (.skip)))
 (.seq (.ops (.op (some 105) (.bslh 1 (.str []) 0 []) (.op (some 106) (.mv (.t 15)) (.op (some 107) (.app 1 16 (.t 105) (.t 106)) (.op (some 17) (.mv (.t 107)) (.nil))))))
 (.seq (.ops (.op (some 108) (.mv (.t 17)) (.op (some 109) (.mv (.t 12)) (.op (some 110) (.bslh 1 (.str []) 1 [(0, (.t 109))]) (.op (some 111) (.app 1 16 (.t 108) (.t 110)) (.op (some 17) (.mv (.t 111)) (.nil)))))))
 (.seq (.ops (.op (some 112) (.mv (.t 5)) (.op (some 113) (.mv (.t 112)) (.sc 116 true 113 114 115 (.op (some 114) (.mv (.t 16)) (.op (some 115) (.bin .eql (.t 114) (.c (.int .i64 0))) (.nil))) (.t 115) (.op (some 117) (.mv (.t 116)) (.sc 122 true 117 118 121 (.op (some 118) (.mv (.t 17)) (.op (some 119) (.call 21 [(.t 118)]) (.op (some 120) (.mv (.t 11)) (.op (some 121) (.bin .eql (.t 119) (.t 120)) (.nil))))) (.t 121) (.op (some 4) (.mv (.t 122)) (.nil))))))))
 (.ret)))))))))))))))

theorem ok7 : okF Try.prog 7 c7 = true := by kernel_rfl

/-- catacomb/catacomblaw06.NameBytes -/
def c8 : AF := AF.mk 98 [.t 6] (.seq (.ops (.op (some 4) (.box (.t 1)) (.op (some 6) (.mv (.c (.bool false))) (.nil))))
 (.seq (.ops (.op (some 15) (.call 10 []) (.op (some 7) (.mv (.t 15)) (.nil))))
 (.seq (.ops (.op (some 16) (.mv (.t 0)) (.op (some 17) (.call 23 [(.t 16)]) (.op (some 8) (.mv (.t 17)) (.nil)))))
 (.seq (.seq (.ops (.op (some 18) (.mv (.t 8)) (.op (some 19) (.len false (.t 18)) (.op (some 20) (.bin .eql (.t 19) (.c (.int .i64 0))) (.nil)))))
 (.cond (.t 20) (.seq (.ops (.op (some 21) (.mv (.t 7)) (.op (some 6) (.mv (.t 21)) (.nil))))
 (.ret)) (.skip)))
 (.seq (.ops (.op (some 22) (.mv (.t 8)) (.op (some 23) (.iada 2 1 (.t 4) (.c (.int .i64 0))) (.op (some 24) (.load 1 false (.t 23)) (.op (some 25) (.conv .i64 (.t 24)) (.op (some 26) (.mv (.t 8)) (.op (some 27) (.len false (.t 26)) (.op (some 28) (.bin .rem (.t 25) (.t 27)) (.op (some 29) (.iad 1 (.t 22) (.t 28)) (.op (some 30) (.load 1 false (.t 29)) (.op (some 9) (.mv (.t 30)) (.nil))))))))))))
 (.seq (.ops (.op (some 31) (.iada 2 1 (.t 4) (.c (.int .i64 1))) (.op (some 32) (.load 1 false (.t 31)) (.op (some 33) (.conv .i64 (.t 32)) (.op (some 34) (.mv (.t 9)) (.op (some 35) (.len true (.t 34)) (.op (some 36) (.bin .rem (.t 33) (.t 35)) (.op (some 10) (.mv (.t 36)) (.nil)))))))))
 (.seq (.ops (.op (some 37) (.mv (.t 9)) (.op (some 38) (.mv (.t 10)) (.op (some 39) (.sls (.t 37) none (some (.t 38))) (.op (some 40) (.mv (.t 2)) (.op (some 41) (.bsl 1 (.int .u8 0) 1 [(0, (.t 40))]) (.op (some 42) (.bts (.t 41)) (.op (some 43) (.bin .add (.t 39) (.t 42)) (.op (some 44) (.mv (.t 9)) (.op (some 45) (.mv (.t 10)) (.op (some 46) (.bin .add (.t 45) (.c (.int .i64 1))) (.op (some 47) (.sls (.t 44) (some (.t 46)) none) (.op (some 48) (.bin .add (.t 43) (.t 47)) (.op (some 11) (.mv (.t 48)) (.nil)))))))))))))))
 (.seq (.ops (.op (some 49) (.mv (.t 2)) (.op (some 50) (.bin .lss (.t 49) (.c (.int .u8 32))) (.op (some 51) (.mv (.t 50)) (.sc 54 false 51 52 53 (.op (some 52) (.mv (.t 2)) (.op (some 53) (.bin .eql (.t 52) (.c (.int .u8 47))) (.nil))) (.t 53) (.op (some 55) (.mv (.t 54)) (.sc 58 false 55 56 57 (.op (some 56) (.mv (.t 11)) (.op (some 57) (.bin .eql (.t 56) (.c (.str [46]))) (.nil))) (.t 57) (.op (some 59) (.mv (.t 58)) (.sc 62 false 59 60 61 (.op (some 60) (.mv (.t 11)) (.op (some 61) (.bin .eql (.t 60) (.c (.str [46, 46]))) (.nil))) (.t 61) (.op (some 12) (.mv (.t 62)) (.nil)))))))))))
 (.seq (.ops (.op (some 63) (.mv (.t 9)) (.op (some 64) (.mv (.t 2)) (.op (some 65) (.bslh 1 (.int .u8 0) 1 [(0, (.t 64))]) (.op (some 66) (.bts (.t 65)) (.op (some 67) (.bin .add (.t 63) (.t 66)) (.op (some 13) (.mv (.t 67)) (.nil))))))))
 (.seq (.ops (.op (some 68) (.mv (.t 9)) (.op (some 69) (.len true (.t 68)) (.op (some 70) (.bin .eql (.t 69) (.c (.int .i64 32))) (.op (some 71) (.mv (.t 70)) (.sc 74 false 71 72 73 (.op (some 72) (.mv (.t 2)) (.op (some 73) (.bin .lss (.t 72) (.c (.int .u8 32))) (.nil))) (.t 73) (.op (some 75) (.mv (.t 74)) (.sc 78 false 75 76 77 (.op (some 76) (.mv (.t 2)) (.op (some 77) (.bin .eql (.t 76) (.c (.int .u8 47))) (.nil))) (.t 77) (.op (some 79) (.mv (.t 78)) (.sc 82 false 79 80 81 (.op (some 80) (.mv (.t 13)) (.op (some 81) (.bin .eql (.t 80) (.c (.str [46, 46]))) (.nil))) (.t 81) (.op (some 14) (.mv (.t 82)) (.nil))))))))))))
 (.seq (.ops (.op (some 83) (.mv (.t 7)) (.op (some 84) (.mv (.t 83)) (.sc 90 true 84 85 89 (.op (some 85) (.mv (.t 11)) (.op (some 86) (.call 16 [(.t 85)]) (.op (some 87) (.mv (.t 12)) (.op (some 88) (.un .not (.t 87)) (.op (some 89) (.beq false (.t 86) (.t 88)) (.nil)))))) (.t 89) (.op (some 91) (.mv (.t 90)) (.sc 97 true 91 92 96 (.op (some 92) (.mv (.t 13)) (.op (some 93) (.call 16 [(.t 92)]) (.op (some 94) (.mv (.t 14)) (.op (some 95) (.un .not (.t 94)) (.op (some 96) (.beq false (.t 93) (.t 95)) (.nil)))))) (.t 96) (.op (some 6) (.mv (.t 97)) (.nil))))))))
 (.ret))))))))))))

theorem ok8 : okF Try.prog 8 c8 = true := by kernel_rfl

/-- catacomb/catacomblaw06.NameCut -/
def c9 : AF := AF.mk 94 [.t 4] (.seq (.ops (.op (some 4) (.mv (.c (.bool false))) (.nil)))
 (.seq (.ops (.op (some 16) (.call 10 []) (.op (some 5) (.mv (.t 16)) (.nil))))
 (.seq (.ops (.op (some 17) (.mv (.t 0)) (.op (some 18) (.call 23 [(.t 17)]) (.op (some 6) (.mv (.t 18)) (.nil)))))
 (.seq (.ops (.op (some 19) (.mv (.t 1)) (.op (some 20) (.conv .i64 (.t 19)) (.op (some 21) (.mv (.t 6)) (.op (some 22) (.len false (.t 21)) (.op (some 23) (.bin .add (.t 22) (.c (.int .i64 1))) (.op (some 24) (.bin .rem (.t 20) (.t 23)) (.op (some 7) (.mv (.t 24)) (.nil)))))))))
 (.seq (.ops (.op (some 25) (.mv (.t 6)) (.op (some 26) (.call 21 [(.t 25)]) (.op (some 8) (.mv (.t 26)) (.nil)))))
 (.seq (.ops (.op (some 27) (.mv (.t 6)) (.op (some 28) (.mv (.t 7)) (.op (some 29) (.sll 1 (.t 27) none (some (.t 28)) none) (.op (some 30) (.call 21 [(.t 29)]) (.op (some 9) (.mv (.t 30)) (.nil)))))))
 (.seq (.seq (.ops (.op (some 31) (.mv (.t 6)) (.op (some 32) (.len false (.t 31)) (.op (some 33) (.bin .eql (.t 32) (.c (.int .i64 0))) (.nil)))))
 (.cond (.t 33) (.seq (.ops (.op (some 34) (.mv (.t 5)) (.op (some 35) (.mv (.t 34)) (.sc 38 true 35 36 37 (.op (some 36) (.mv (.t 8)) (.op (some 37) (.bin .eql (.t 36) (.c (.str [47]))) (.nil))) (.t 37) (.op (some 4) (.mv (.t 38)) (.nil))))))
 (.ret)) (.skip)))
 (.seq (.seq (.ops (.op (some 39) (.mv (.t 8)) (.op (some 40) (.bin .eql (.t 39) (.c (.str []))) (.op (some 41) (.mv (.t 40)) (.sc 47 false 41 42 46 (.op (some 42) (.mv (.t 9)) (.op (some 43) (.len true (.t 42)) (.op (some 44) (.mv (.t 8)) (.op (some 45) (.len true (.t 44)) (.op (some 46) (.bin .gtr (.t 43) (.t 45)) (.nil)))))) (.t 46) (.nil))))))
 (.cond (.t 47) (.seq (.ops (.op (some 4) (.mv (.c (.bool false))) (.nil)))
 (.ret)) (.skip)))
 (.seq (.ops (.op (some 49) (.mv (.t 8)) (.op (some 50) (.bin .add (.t 49) (.c (.str [47]))) (.op (some 51) (.call 12 [(.t 50)]) (.op (some 48) (.mv (.t 51)) (.op (some 52) (.ext (.t 48) 0) (.op (some 53) (.ext (.t 48) 1) (.op (some 10) (.mv (.t 52)) (.op (some 11) (.mv (.t 53)) (.nil))))))))))
 (.seq (.ops (.op (some 55) (.mv (.t 8)) (.op (some 56) (.bin .add (.c (.str [47])) (.t 55)) (.op (some 57) (.call 12 [(.t 56)]) (.op (some 54) (.mv (.t 57)) (.op (some 58) (.ext (.t 54) 0) (.op (some 59) (.ext (.t 54) 1) (.op (some 12) (.mv (.t 58)) (.op (some 13) (.mv (.t 59)) (.nil))))))))))
 (.seq (.ops (.op (some 61) (.mv (.t 8)) (.op (some 62) (.sls (.t 61) (some (.c (.int .i64 1))) none) (.op (some 63) (.call 12 [(.t 62)]) (.op (some 60) (.mv (.t 63)) (.op (some 64) (.ext (.t 60) 0) (.op (some 65) (.ext (.t 60) 1) (.op (some 14) (.mv (.t 64)) (.op (some 15) (.mv (.t 65)) (.nil))))))))))
 (.seq (.seq (.ops (.op (some 66) (.mv (.t 7)) (.op (some 67) (.bin .gtr (.t 66) (.c (.int .i64 0))) (.op (some 68) (.mv (.t 67)) (.sc 75 true 68 69 74 (.op (some 69) (.mv (.t 8)) (.op (some 70) (.mv (.t 9)) (.op (some 71) (.len true (.t 70)) (.op (some 72) (.sls (.t 69) none (some (.t 71))) (.op (some 73) (.mv (.t 9)) (.op (some 74) (.bin .neq (.t 72) (.t 73)) (.nil))))))) (.t 74) (.nil))))))
 (.cond (.t 75) (.seq (.ops (.op (some 4) (.mv (.c (.bool false))) (.nil)))
 (.ret)) (.skip)))
 (.seq (.ops (.op (some 76) (.mv (.t 5)) (.op (some 77) (.mv (.t 76)) (.sc 81 true 77 78 80 (.op (some 78) (.mv (.t 9)) (.op (some 79) (.mv (.t 8)) (.op (some 80) (.call 19 [(.t 78), (.t 79)]) (.nil)))) (.t 80) (.op (some 82) (.mv (.t 81)) (.sc 85 true 82 83 84 (.op (some 83) (.mv (.t 11)) (.op (some 84) (.bin .eql (.t 83) (.c (.int .i64 60))) (.nil))) (.t 84) (.op (some 86) (.mv (.t 85)) (.sc 89 true 86 87 88 (.op (some 87) (.mv (.t 13)) (.op (some 88) (.bin .eql (.t 87) (.c (.int .i64 60))) (.nil))) (.t 88) (.op (some 90) (.mv (.t 89)) (.sc 93 true 90 91 92 (.op (some 91) (.mv (.t 15)) (.op (some 92) (.bin .eql (.t 91) (.c (.int .i64 60))) (.nil))) (.t 92) (.op (some 4) (.mv (.t 93)) (.nil))))))))))))
 (.ret))))))))))))))

theorem ok9 : okF Try.prog 9 c9 = true := by kernel_rfl

/-- catacomb/catacomblaw06.head -/
def c10 : AF := AF.mk 98 [.t 0] (.seq (.ops (.op (some 0) (.mv (.c (.bool false))) (.nil)))
 (.seq (.ops (.op (some 14) (.call 12 [(.c (.str [47, 97, 47, 98]))]) (.op (some 13) (.mv (.t 14)) (.op (some 15) (.ext (.t 13) 0) (.op (some 16) (.ext (.t 13) 1) (.op (some 1) (.mv (.t 15)) (.op (some 2) (.mv (.t 16)) (.nil))))))))
 (.seq (.ops (.op (some 18) (.call 12 [(.c (.str [47]))]) (.op (some 17) (.mv (.t 18)) (.op (some 19) (.ext (.t 17) 0) (.op (some 20) (.ext (.t 17) 1) (.op (some 3) (.mv (.t 19)) (.op (some 4) (.mv (.t 20)) (.nil))))))))
 (.seq (.ops (.op (some 22) (.call 12 [(.c (.str [47, 97, 47]))]) (.op (some 21) (.mv (.t 22)) (.op (some 23) (.ext (.t 21) 0) (.op (some 24) (.ext (.t 21) 1) (.op (some 5) (.mv (.t 23)) (.op (some 6) (.mv (.t 24)) (.nil))))))))
 (.seq (.ops (.op (some 26) (.call 14 [(.c (.str [47, 97, 47, 98]))]) (.op (some 25) (.mv (.t 26)) (.op (some 27) (.ext (.t 25) 0) (.op (some 28) (.ext (.t 25) 1) (.op (some 29) (.ext (.t 25) 2) (.op (some 7) (.mv (.t 27)) (.op (some 8) (.mv (.t 28)) (.op (some 9) (.mv (.t 29)) (.nil))))))))))
 (.seq (.ops (.op (some 31) (.call 14 [(.c (.str [47]))]) (.op (some 30) (.mv (.t 31)) (.op (some 32) (.ext (.t 30) 0) (.op (some 33) (.ext (.t 30) 1) (.op (some 34) (.ext (.t 30) 2) (.op (some 10) (.mv (.t 32)) (.op (some 11) (.mv (.t 33)) (.op (some 12) (.mv (.t 34)) (.nil))))))))))
 (.seq (.ops (.op (some 35) (.mv (.t 1)) (.op (some 36) (.bslh 1 (.str []) 2 [(0, (.c (.str [97]))), (1, (.c (.str [98])))]) (.op (some 37) (.call 18 [(.t 35), (.t 36)]) (.op (some 38) (.mv (.t 37)) (.sc 41 true 38 39 40 (.op (some 39) (.mv (.t 2)) (.op (some 40) (.bin .eql (.t 39) (.c (.int .i64 0))) (.nil))) (.t 40) (.op (some 42) (.mv (.t 41)) (.sc 46 true 42 43 45 (.op (some 43) (.mv (.t 3)) (.op (some 44) (.len false (.t 43)) (.op (some 45) (.bin .eql (.t 44) (.c (.int .i64 0))) (.nil)))) (.t 45) (.op (some 47) (.mv (.t 46)) (.sc 50 true 47 48 49 (.op (some 48) (.mv (.t 4)) (.op (some 49) (.bin .eql (.t 48) (.c (.int .i64 0))) (.nil))) (.t 49) (.op (some 51) (.mv (.t 50)) (.sc 54 true 51 52 53 (.op (some 52) (.mv (.t 6)) (.op (some 53) (.bin .eql (.t 52) (.c (.int .i64 60))) (.nil))) (.t 53) (.op (some 55) (.mv (.t 54)) (.sc 57 true 55 56 56 (.op (some 56) (.call 19 [(.c (.str [47, 97])), (.c (.str [47, 97, 47, 98]))]) (.nil)) (.t 56) (.op (some 58) (.mv (.t 57)) (.sc 61 true 58 59 60 (.op (some 59) (.call 19 [(.c (.str [47, 97])), (.c (.str [47, 97, 98]))]) (.op (some 60) (.un .not (.t 59)) (.nil))) (.t 60) (.op (some 62) (.mv (.t 61)) (.sc 65 true 62 63 64 (.op (some 63) (.mv (.t 7)) (.op (some 64) (.bin .eql (.t 63) (.c (.str [98]))) (.nil))) (.t 64) (.op (some 66) (.mv (.t 65)) (.sc 69 true 66 67 68 (.op (some 67) (.mv (.t 8)) (.op (some 68) (.bin .eql (.t 67) (.c (.str [47, 97]))) (.nil))) (.t 68) (.op (some 70) (.mv (.t 69)) (.sc 73 true 70 71 72 (.op (some 71) (.mv (.t 9)) (.op (some 72) (.bin .eql (.t 71) (.c (.int .i64 0))) (.nil))) (.t 72) (.op (some 74) (.mv (.t 73)) (.sc 77 true 74 75 76 (.op (some 75) (.mv (.t 12)) (.op (some 76) (.bin .eql (.t 75) (.c (.int .i64 60))) (.nil))) (.t 76) (.op (some 78) (.mv (.t 77)) (.sc 80 true 78 79 79 (.op (some 79) (.call 16 [(.c (.str [97]))]) (.nil)) (.t 79) (.op (some 81) (.mv (.t 80)) (.sc 84 true 81 82 83 (.op (some 82) (.call 16 [(.c (.str [46, 46]))]) (.op (some 83) (.un .not (.t 82)) (.nil))) (.t 83) (.op (some 85) (.mv (.t 84)) (.sc 88 true 85 86 87 (.op (some 86) (.call 16 [(.c (.str []))]) (.op (some 87) (.un .not (.t 86)) (.nil))) (.t 87) (.op (some 89) (.mv (.t 88)) (.sc 93 true 89 90 92 (.op (some 90) (.bslh 1 (.str []) 2 [(0, (.c (.str [97]))), (1, (.c (.str [98])))]) (.op (some 91) (.call 21 [(.t 90)]) (.op (some 92) (.bin .eql (.t 91) (.c (.str [47, 97, 47, 98]))) (.nil)))) (.t 92) (.op (some 94) (.mv (.t 93)) (.sc 97 true 94 95 96 (.op (some 95) (.call 21 [(.c (.lst true []))]) (.op (some 96) (.bin .eql (.t 95) (.c (.str [47]))) (.nil))) (.t 96) (.op (some 0) (.mv (.t 97)) (.nil))))))))))))))))))))))))))))))))))))
 (.ret))))))))

theorem ok10 : okF Try.prog 10 c10 = true := by kernel_rfl

/-- catacomb/catacombref06.Few -/
def b11_1 : AC := .seq (.seq (.ops (.op (some 6) (.mv (.t 4)) (.op (some 7) (.mv (.t 0)) (.op (some 8) (.len false (.t 7)) (.op (some 9) (.bin .lss (.t 6) (.t 8)) (.op (some 10) (.mv (.t 9)) (.sc 13 true 10 11 12 (.op (some 11) (.mv (.t 4)) (.op (some 12) (.bin .lss (.t 11) (.c (.int .i64 20))) (.nil))) (.t 12) (.nil))))))))
 (.cond (.t 13) (.skip) (.exit 0)))
 (.seq (.block 1 (.ops (.op (some 16) (.mv (.t 3)) (.op (some 17) (.mv (.t 0)) (.op (some 18) (.mv (.t 4)) (.op (some 19) (.iad 1 (.t 17) (.t 18)) (.op (some 20) (.load 1 false (.t 19)) (.op (some 21) (.mv (.t 0)) (.op (some 22) (.mv (.t 4)) (.op (some 23) (.iad 1 (.t 21) (.t 22)) (.op (some 24) (.load 1 false (.t 23)) (.op (some 25) (.len true (.t 24)) (.op (some 26) (.mm false [(.t 25), (.c (.int .i64 40))]) (.op (some 27) (.sls (.t 20) none (some (.t 26))) (.op (some 28) (.bsl 1 (.str []) 1 [(0, (.t 27))]) (.op (some 29) (.app 1 16 (.t 16) (.t 28)) (.op (some 3) (.mv (.t 29)) (.nil))))))))))))))))))
 (.ops (.op (some 14) (.mv (.t 4)) (.op (some 15) (.bin .add (.t 14) (.c (.int .i64 1))) (.op (some 4) (.mv (.t 15)) (.nil))))))
def c11_1 : AC := b11_1
@[simp] theorem e11_1 {Γ : Tab} {V : Nat → Bool} {ρ : Type} (k : AX → St → Option ρ) (s : St) : eval Γ c11_1 V ρ k s = eval Γ b11_1 V ρ k s := rfl
def c11 : AF := AF.mk 31 [.t 2] (.seq (.ops (.op (some 2) (.mv (.c (.lst true []))) (.nil)))
 (.seq (.ops (.op (some 5) (.bslh 1 (.str []) 0 []) (.op (some 3) (.mv (.t 5)) (.nil))))
 (.seq (.seq (.ops (.op (some 4) (.mv (.c (.int .i64 0))) (.nil)))
 (.block 0 (.loop [3, 4] [(3, 4), (6, 29)] [(3, 1)] [(.exit 0, [3])] c11_1)))
 (.seq (.ops (.op (some 30) (.mv (.t 3)) (.op (some 2) (.mv (.t 30)) (.nil))))
 (.ret)))))

theorem ok11 : okF Try.prog 11 c11 = true := by kernel_rfl

/-- catacomb/catacombref06.Split -/
def b13_1 : AC := .seq (.seq (.ops (.op (some 18) (.mv (.t 6)) (.op (some 19) (.mv (.t 0)) (.op (some 20) (.len true (.t 19)) (.op (some 21) (.bin .leq (.t 18) (.t 20)) (.nil))))))
 (.cond (.t 21) (.skip) (.exit 0)))
 (.seq (.block 1 (.seq (.seq (.ops (.op (some 24) (.mv (.t 6)) (.op (some 25) (.mv (.t 0)) (.op (some 26) (.len true (.t 25)) (.op (some 27) (.bin .lss (.t 24) (.t 26)) (.op (some 28) (.mv (.t 27)) (.sc 33 true 28 29 32 (.op (some 29) (.mv (.t 0)) (.op (some 30) (.mv (.t 6)) (.op (some 31) (.idxs (.t 29) (.t 30)) (.op (some 32) (.bin .neq (.t 31) (.c (.int .u8 47))) (.nil))))) (.t 32) (.nil))))))))
 (.cond (.t 33) (.exit 1) (.skip)))
 (.seq (.seq (.ops (.op (some 34) (.mv (.t 0)) (.op (some 35) (.mv (.t 5)) (.op (some 36) (.mv (.t 6)) (.op (some 37) (.sls (.t 34) (some (.t 35)) (some (.t 36))) (.op (some 38) (.call 17 [(.t 37)]) (.op (some 39) (.un .not (.t 38)) (.op (some 40) (.mv (.t 39)) (.sc 44 false 40 41 43 (.op (some 41) (.mv (.t 4)) (.op (some 42) (.len false (.t 41)) (.op (some 43) (.bin .eql (.t 42) (.c (.int .i64 12))) (.nil)))) (.t 43) (.nil))))))))))
 (.cond (.t 44) (.seq (.ops (.op (some 2) (.mv (.c (.lst true []))) (.op (some 3) (.mv (.c (.int .i64 60))) (.nil))))
 (.ret)) (.skip)))
 (.seq (.ops (.op (some 45) (.mv (.t 4)) (.op (some 46) (.mv (.t 0)) (.op (some 47) (.mv (.t 5)) (.op (some 48) (.mv (.t 6)) (.op (some 49) (.sls (.t 46) (some (.t 47)) (some (.t 48))) (.op (some 50) (.bslh 1 (.str []) 1 [(0, (.t 49))]) (.op (some 51) (.app 1 16 (.t 45) (.t 50)) (.op (some 4) (.mv (.t 51)) (.nil))))))))))
 (.ops (.op (some 52) (.mv (.t 6)) (.op (some 53) (.bin .add (.t 52) (.c (.int .i64 1))) (.op (some 5) (.mv (.t 53)) (.nil)))))))))
 (.ops (.op (some 22) (.mv (.t 6)) (.op (some 23) (.bin .add (.t 22) (.c (.int .i64 1))) (.op (some 6) (.mv (.t 23)) (.nil))))))
def c13_1 : AC := b13_1
@[simp] theorem e13_1 {Γ : Tab} {V : Nat → Bool} {ρ : Type} (k : AX → St → Option ρ) (s : St) : eval Γ c13_1 V ρ k s = eval Γ b13_1 V ρ k s := rfl
def c13 : AF := AF.mk 55 [.t 2, .t 3] (.seq (.ops (.op (some 2) (.mv (.c (.lst true []))) (.op (some 3) (.mv (.c (.int .i64 0))) (.nil))))
 (.seq (.ops (.op (some 7) (.bslh 1 (.str []) 0 []) (.op (some 4) (.mv (.t 7)) (.nil))))
 (.seq (.seq (.ops (.op (some 8) (.mv (.t 0)) (.op (some 9) (.bin .eql (.t 8) (.c (.str [47]))) (.nil))))
 (.cond (.t 9) (.seq (.ops (.op (some 10) (.mv (.t 4)) (.op (some 2) (.mv (.t 10)) (.op (some 3) (.mv (.c (.int .i64 0))) (.nil)))))
 (.ret)) (.skip)))
 (.seq (.seq (.ops (.op (some 11) (.mv (.t 0)) (.op (some 12) (.bin .eql (.t 11) (.c (.str []))) (.op (some 13) (.mv (.t 12)) (.sc 17 false 13 14 16 (.op (some 14) (.mv (.t 0)) (.op (some 15) (.idxs (.t 14) (.c (.int .i64 0))) (.op (some 16) (.bin .neq (.t 15) (.c (.int .u8 47))) (.nil)))) (.t 16) (.nil))))))
 (.cond (.t 17) (.seq (.ops (.op (some 2) (.mv (.c (.lst true []))) (.op (some 3) (.mv (.c (.int .i64 60))) (.nil))))
 (.ret)) (.skip)))
 (.seq (.ops (.op (some 5) (.mv (.c (.int .i64 1))) (.nil)))
 (.seq (.seq (.ops (.op (some 6) (.mv (.c (.int .i64 1))) (.nil)))
 (.block 0 (.loop [4, 5, 6] [(2, 6), (18, 53)] [(4, 1)] [(.exit 0, [4]), (.ret, [2, 3])] c13_1)))
 (.seq (.ops (.op (some 54) (.mv (.t 4)) (.op (some 2) (.mv (.t 54)) (.op (some 3) (.mv (.c (.int .i64 0))) (.nil)))))
 (.ret))))))))

theorem ok13 : okF Try.prog 13 c13 = true := by kernel_rfl

/-- catacomb/name.Last -/
def c14 : AF := AF.mk 31 [.t 2, .t 3, .t 4] (.seq (.ops (.op (some 2) (.mv (.c (.str []))) (.op (some 3) (.mv (.c (.str []))) (.op (some 4) (.mv (.c (.int .i64 0))) (.nil)))))
 (.seq (.ops (.op (some 9) (.mv (.t 0)) (.op (some 10) (.call 12 [(.t 9)]) (.op (some 8) (.mv (.t 10)) (.op (some 11) (.ext (.t 8) 0) (.op (some 12) (.ext (.t 8) 1) (.op (some 5) (.mv (.t 11)) (.op (some 6) (.mv (.t 12)) (.nil)))))))))
 (.seq (.seq (.ops (.op (some 13) (.mv (.t 6)) (.op (some 14) (.bin .neq (.t 13) (.c (.int .i64 0))) (.op (some 15) (.mv (.t 14)) (.sc 19 false 15 16 18 (.op (some 16) (.mv (.t 5)) (.op (some 17) (.len false (.t 16)) (.op (some 18) (.bin .eql (.t 17) (.c (.int .i64 0))) (.nil)))) (.t 18) (.nil))))))
 (.cond (.t 19) (.seq (.ops (.op (some 2) (.mv (.c (.str []))) (.op (some 3) (.mv (.c (.str []))) (.op (some 4) (.mv (.c (.int .i64 60))) (.nil)))))
 (.ret)) (.skip)))
 (.seq (.ops (.op (some 20) (.mv (.t 5)) (.op (some 21) (.len false (.t 20)) (.op (some 22) (.bin .sub (.t 21) (.c (.int .i64 1))) (.op (some 7) (.mv (.t 22)) (.nil))))))
 (.seq (.ops (.op (some 23) (.mv (.t 5)) (.op (some 24) (.mv (.t 7)) (.op (some 25) (.iad 1 (.t 23) (.t 24)) (.op (some 26) (.load 1 false (.t 25)) (.op (some 27) (.mv (.t 5)) (.op (some 28) (.mv (.t 7)) (.op (some 29) (.sll 1 (.t 27) none (some (.t 28)) none) (.op (some 30) (.callp 21 [(.t 29)]) (.op (some 2) (.mv (.t 26)) (.op (some 3) (.mv (.t 30)) (.op (some 4) (.mv (.c (.int .i64 0))) (.nil)))))))))))))
 (.ret))))))

theorem ok14 : okF Try.prog 14 c14 = true := by kernel_rfl

/-- catacomb/catacombref06.Last -/
def c15 : AF := AF.mk 31 [.t 2, .t 3, .t 4] (.seq (.ops (.op (some 2) (.mv (.c (.str []))) (.op (some 3) (.mv (.c (.str []))) (.op (some 4) (.mv (.c (.int .i64 0))) (.nil)))))
 (.seq (.ops (.op (some 8) (.mv (.t 0)) (.op (some 9) (.call 13 [(.t 8)]) (.op (some 7) (.mv (.t 9)) (.op (some 10) (.ext (.t 7) 0) (.op (some 11) (.ext (.t 7) 1) (.op (some 5) (.mv (.t 10)) (.op (some 6) (.mv (.t 11)) (.nil)))))))))
 (.seq (.seq (.ops (.op (some 12) (.mv (.t 6)) (.op (some 13) (.bin .neq (.t 12) (.c (.int .i64 0))) (.op (some 14) (.mv (.t 13)) (.sc 18 false 14 15 17 (.op (some 15) (.mv (.t 5)) (.op (some 16) (.len false (.t 15)) (.op (some 17) (.bin .eql (.t 16) (.c (.int .i64 0))) (.nil)))) (.t 17) (.nil))))))
 (.cond (.t 18) (.seq (.ops (.op (some 2) (.mv (.c (.str []))) (.op (some 3) (.mv (.c (.str []))) (.op (some 4) (.mv (.c (.int .i64 60))) (.nil)))))
 (.ret)) (.skip)))
 (.seq (.ops (.op (some 19) (.mv (.t 5)) (.op (some 20) (.mv (.t 5)) (.op (some 21) (.len false (.t 20)) (.op (some 22) (.bin .sub (.t 21) (.c (.int .i64 1))) (.op (some 23) (.iad 1 (.t 19) (.t 22)) (.op (some 24) (.load 1 false (.t 23)) (.op (some 25) (.mv (.t 5)) (.op (some 26) (.mv (.t 5)) (.op (some 27) (.len false (.t 26)) (.op (some 28) (.bin .sub (.t 27) (.c (.int .i64 1))) (.op (some 29) (.sll 1 (.t 25) none (some (.t 28)) none) (.op (some 30) (.callp 22 [(.t 29)]) (.op (some 2) (.mv (.t 24)) (.op (some 3) (.mv (.t 30)) (.op (some 4) (.mv (.c (.int .i64 0))) (.nil)))))))))))))))))
 (.ret)))))

theorem ok15 : okF Try.prog 15 c15 = true := by kernel_rfl

/-- catacomb/catacombref06.Right -/
def b17_1 : AC := .seq (.seq (.ops (.op (some 20) (.mv (.t 3)) (.op (some 21) (.mv (.t 0)) (.op (some 22) (.len true (.t 21)) (.op (some 23) (.bin .lss (.t 20) (.t 22)) (.nil))))))
 (.cond (.t 23) (.skip) (.exit 0)))
 (.seq (.block 1 (.seq (.ops (.op (some 26) (.mv (.t 0)) (.op (some 27) (.mv (.t 3)) (.op (some 28) (.idxs (.t 26) (.t 27)) (.op (some 29) (.bin .lss (.t 28) (.c (.int .u8 32))) (.op (some 30) (.mv (.t 29)) (.sc 35 false 30 31 34 (.op (some 31) (.mv (.t 0)) (.op (some 32) (.mv (.t 3)) (.op (some 33) (.idxs (.t 31) (.t 32)) (.op (some 34) (.bin .eql (.t 33) (.c (.int .u8 47))) (.nil))))) (.t 34) (.nil))))))))
 (.cond (.t 35) (.seq (.ops (.op (some 2) (.mv (.c (.bool false))) (.nil)))
 (.ret)) (.skip))))
 (.ops (.op (some 24) (.mv (.t 3)) (.op (some 25) (.bin .add (.t 24) (.c (.int .i64 1))) (.op (some 3) (.mv (.t 25)) (.nil))))))
def c17_1 : AC := b17_1
@[simp] theorem e17_1 {Γ : Tab} {V : Nat → Bool} {ρ : Type} (k : AX → St → Option ρ) (s : St) : eval Γ c17_1 V ρ k s = eval Γ b17_1 V ρ k s := rfl
def c17 : AF := AF.mk 36 [.t 2] (.seq (.ops (.op (some 2) (.mv (.c (.bool false))) (.nil)))
 (.seq (.seq (.ops (.op (some 4) (.mv (.t 0)) (.op (some 5) (.len true (.t 4)) (.op (some 6) (.bin .lss (.t 5) (.c (.int .i64 1))) (.op (some 7) (.mv (.t 6)) (.sc 11 false 7 8 10 (.op (some 8) (.mv (.t 0)) (.op (some 9) (.len true (.t 8)) (.op (some 10) (.bin .gtr (.t 9) (.c (.int .i64 32))) (.nil)))) (.t 10) (.op (some 12) (.mv (.t 11)) (.sc 15 false 12 13 14 (.op (some 13) (.mv (.t 0)) (.op (some 14) (.bin .eql (.t 13) (.c (.str [46]))) (.nil))) (.t 14) (.op (some 16) (.mv (.t 15)) (.sc 19 false 16 17 18 (.op (some 17) (.mv (.t 0)) (.op (some 18) (.bin .eql (.t 17) (.c (.str [46, 46]))) (.nil))) (.t 18) (.nil)))))))))))
 (.cond (.t 19) (.seq (.ops (.op (some 2) (.mv (.c (.bool false))) (.nil)))
 (.ret)) (.skip)))
 (.seq (.seq (.ops (.op (some 3) (.mv (.c (.int .i64 0))) (.nil)))
 (.block 0 (.loop [3] [(2, 3), (20, 35)] [] [(.exit 0, []), (.ret, [2])] c17_1)))
 (.seq (.ops (.op (some 2) (.mv (.c (.bool true))) (.nil)))
 (.ret)))))

theorem ok17 : okF Try.prog 17 c17 = true := by kernel_rfl

/-- catacomb/catacombref06.Same -/
def b18_1 : AC := .seq (.seq (.ops (.op (some 11) (.mv (.t 5)) (.op (some 12) (.mv (.t 0)) (.op (some 13) (.len false (.t 12)) (.op (some 14) (.bin .lss (.t 11) (.t 13)) (.nil))))))
 (.cond (.t 14) (.skip) (.exit 0)))
 (.seq (.block 1 (.seq (.ops (.op (some 17) (.mv (.t 0)) (.op (some 18) (.mv (.t 5)) (.op (some 19) (.iad 1 (.t 17) (.t 18)) (.op (some 20) (.load 1 false (.t 19)) (.op (some 21) (.mv (.t 1)) (.op (some 22) (.mv (.t 5)) (.op (some 23) (.iad 1 (.t 21) (.t 22)) (.op (some 24) (.load 1 false (.t 23)) (.op (some 25) (.bin .neq (.t 20) (.t 24)) (.nil)))))))))))
 (.cond (.t 25) (.seq (.ops (.op (some 4) (.mv (.c (.bool false))) (.nil)))
 (.ret)) (.skip))))
 (.ops (.op (some 15) (.mv (.t 5)) (.op (some 16) (.bin .add (.t 15) (.c (.int .i64 1))) (.op (some 5) (.mv (.t 16)) (.nil))))))
def c18_1 : AC := b18_1
@[simp] theorem e18_1 {Γ : Tab} {V : Nat → Bool} {ρ : Type} (k : AX → St → Option ρ) (s : St) : eval Γ c18_1 V ρ k s = eval Γ b18_1 V ρ k s := rfl
def c18 : AF := AF.mk 26 [.t 4] (.seq (.ops (.op (some 4) (.mv (.c (.bool false))) (.nil)))
 (.seq (.seq (.ops (.op (some 6) (.mv (.t 0)) (.op (some 7) (.len false (.t 6)) (.op (some 8) (.mv (.t 1)) (.op (some 9) (.len false (.t 8)) (.op (some 10) (.bin .neq (.t 7) (.t 9)) (.nil)))))))
 (.cond (.t 10) (.seq (.ops (.op (some 4) (.mv (.c (.bool false))) (.nil)))
 (.ret)) (.skip)))
 (.seq (.seq (.ops (.op (some 5) (.mv (.c (.int .i64 0))) (.nil)))
 (.block 0 (.loop [5] [(4, 5), (11, 25)] [] [(.exit 0, []), (.ret, [4])] c18_1)))
 (.seq (.ops (.op (some 4) (.mv (.c (.bool true))) (.nil)))
 (.ret)))))

theorem ok18 : okF Try.prog 18 c18 = true := by kernel_rfl

/-- catacomb/name.Above -/
def c19 : AF := AF.mk 40 [.t 4] (.seq (.ops (.op (some 4) (.mv (.c (.bool false))) (.nil)))
 (.seq (.ops (.op (some 10) (.mv (.t 0)) (.op (some 11) (.call 12 [(.t 10)]) (.op (some 9) (.mv (.t 11)) (.op (some 12) (.ext (.t 9) 0) (.op (some 13) (.ext (.t 9) 1) (.op (some 5) (.mv (.t 12)) (.op (some 6) (.mv (.t 13)) (.nil)))))))))
 (.seq (.ops (.op (some 15) (.mv (.t 1)) (.op (some 16) (.call 12 [(.t 15)]) (.op (some 14) (.mv (.t 16)) (.op (some 17) (.ext (.t 14) 0) (.op (some 18) (.ext (.t 14) 1) (.op (some 7) (.mv (.t 17)) (.op (some 8) (.mv (.t 18)) (.nil)))))))))
 (.seq (.ops (.op (some 19) (.mv (.t 6)) (.op (some 20) (.bin .eql (.t 19) (.c (.int .i64 0))) (.op (some 21) (.mv (.t 20)) (.sc 24 true 21 22 23 (.op (some 22) (.mv (.t 8)) (.op (some 23) (.bin .eql (.t 22) (.c (.int .i64 0))) (.nil))) (.t 23) (.op (some 25) (.mv (.t 24)) (.sc 31 true 25 26 30 (.op (some 26) (.mv (.t 5)) (.op (some 27) (.len false (.t 26)) (.op (some 28) (.mv (.t 7)) (.op (some 29) (.len false (.t 28)) (.op (some 30) (.bin .leq (.t 27) (.t 29)) (.nil)))))) (.t 30) (.op (some 32) (.mv (.t 31)) (.sc 39 true 32 33 38 (.op (some 33) (.mv (.t 5)) (.op (some 34) (.mv (.t 7)) (.op (some 35) (.mv (.t 5)) (.op (some 36) (.len false (.t 35)) (.op (some 37) (.sll 1 (.t 34) none (some (.t 36)) none) (.op (some 38) (.call 25 [(.t 33), (.t 37)]) (.nil))))))) (.t 38) (.op (some 4) (.mv (.t 39)) (.nil)))))))))))
 (.ret)))))

theorem ok19 : okF Try.prog 19 c19 = true := by kernel_rfl

/-- catacomb/catacombref06.Above -/
def b20_1 : AC := .seq (.seq (.ops (.op (some 33) (.mv (.t 9)) (.op (some 34) (.mv (.t 5)) (.op (some 35) (.len false (.t 34)) (.op (some 36) (.bin .lss (.t 33) (.t 35)) (.nil))))))
 (.cond (.t 36) (.skip) (.exit 0)))
 (.seq (.block 1 (.seq (.ops (.op (some 39) (.mv (.t 5)) (.op (some 40) (.mv (.t 9)) (.op (some 41) (.iad 1 (.t 39) (.t 40)) (.op (some 42) (.load 1 false (.t 41)) (.op (some 43) (.mv (.t 7)) (.op (some 44) (.mv (.t 9)) (.op (some 45) (.iad 1 (.t 43) (.t 44)) (.op (some 46) (.load 1 false (.t 45)) (.op (some 47) (.bin .neq (.t 42) (.t 46)) (.nil)))))))))))
 (.cond (.t 47) (.seq (.ops (.op (some 4) (.mv (.c (.bool false))) (.nil)))
 (.ret)) (.skip))))
 (.ops (.op (some 37) (.mv (.t 9)) (.op (some 38) (.bin .add (.t 37) (.c (.int .i64 1))) (.op (some 9) (.mv (.t 38)) (.nil))))))
def c20_1 : AC := b20_1
@[simp] theorem e20_1 {Γ : Tab} {V : Nat → Bool} {ρ : Type} (k : AX → St → Option ρ) (s : St) : eval Γ c20_1 V ρ k s = eval Γ b20_1 V ρ k s := rfl
def c20 : AF := AF.mk 48 [.t 4] (.seq (.ops (.op (some 4) (.mv (.c (.bool false))) (.nil)))
 (.seq (.ops (.op (some 11) (.mv (.t 0)) (.op (some 12) (.call 13 [(.t 11)]) (.op (some 10) (.mv (.t 12)) (.op (some 13) (.ext (.t 10) 0) (.op (some 14) (.ext (.t 10) 1) (.op (some 5) (.mv (.t 13)) (.op (some 6) (.mv (.t 14)) (.nil)))))))))
 (.seq (.ops (.op (some 16) (.mv (.t 1)) (.op (some 17) (.call 13 [(.t 16)]) (.op (some 15) (.mv (.t 17)) (.op (some 18) (.ext (.t 15) 0) (.op (some 19) (.ext (.t 15) 1) (.op (some 7) (.mv (.t 18)) (.op (some 8) (.mv (.t 19)) (.nil)))))))))
 (.seq (.seq (.ops (.op (some 20) (.mv (.t 6)) (.op (some 21) (.bin .neq (.t 20) (.c (.int .i64 0))) (.op (some 22) (.mv (.t 21)) (.sc 25 false 22 23 24 (.op (some 23) (.mv (.t 8)) (.op (some 24) (.bin .neq (.t 23) (.c (.int .i64 0))) (.nil))) (.t 24) (.op (some 26) (.mv (.t 25)) (.sc 32 false 26 27 31 (.op (some 27) (.mv (.t 5)) (.op (some 28) (.len false (.t 27)) (.op (some 29) (.mv (.t 7)) (.op (some 30) (.len false (.t 29)) (.op (some 31) (.bin .gtr (.t 28) (.t 30)) (.nil)))))) (.t 31) (.nil))))))))
 (.cond (.t 32) (.seq (.ops (.op (some 4) (.mv (.c (.bool false))) (.nil)))
 (.ret)) (.skip)))
 (.seq (.seq (.ops (.op (some 9) (.mv (.c (.int .i64 0))) (.nil)))
 (.block 0 (.loop [9] [(4, 4), (9, 9), (33, 47)] [] [(.exit 0, []), (.ret, [4])] c20_1)))
 (.seq (.ops (.op (some 4) (.mv (.c (.bool true))) (.nil)))
 (.ret)))))))

theorem ok20 : okF Try.prog 20 c20 = true := by kernel_rfl

/-- catacomb/name.Join -/
def c21 : AF := AF.mk 9 [.t 2] (.seq (.ops (.op (some 2) (.mv (.c (.str []))) (.nil)))
 (.seq (.seq (.ops (.op (some 3) (.mv (.t 0)) (.op (some 4) (.len false (.t 3)) (.op (some 5) (.bin .eql (.t 4) (.c (.int .i64 0))) (.nil)))))
 (.cond (.t 5) (.seq (.ops (.op (some 2) (.mv (.c (.str [47]))) (.nil)))
 (.ret)) (.skip)))
 (.seq (.ops (.op (some 6) (.mv (.t 0)) (.op (some 7) (.call 26 [(.t 6), (.c (.str [47]))]) (.op (some 8) (.bin .add (.c (.str [47])) (.t 7)) (.op (some 2) (.mv (.t 8)) (.nil))))))
 (.ret))))

theorem ok21 : okF Try.prog 21 c21 = true := by kernel_rfl

/-- catacomb/catacombref06.Join -/
def b22_1 : AC := .seq (.seq (.ops (.op (some 8) (.mv (.t 4)) (.op (some 9) (.mv (.t 0)) (.op (some 10) (.len false (.t 9)) (.op (some 11) (.bin .lss (.t 8) (.t 10)) (.nil))))))
 (.cond (.t 11) (.skip) (.exit 0)))
 (.seq (.block 1 (.ops (.op (some 14) (.mv (.t 3)) (.op (some 15) (.bin .add (.t 14) (.c (.str [47]))) (.op (some 16) (.mv (.t 0)) (.op (some 17) (.mv (.t 4)) (.op (some 18) (.iad 1 (.t 16) (.t 17)) (.op (some 19) (.load 1 false (.t 18)) (.op (some 20) (.bin .add (.t 15) (.t 19)) (.op (some 3) (.mv (.t 20)) (.nil)))))))))))
 (.ops (.op (some 12) (.mv (.t 4)) (.op (some 13) (.bin .add (.t 12) (.c (.int .i64 1))) (.op (some 4) (.mv (.t 13)) (.nil))))))
def c22_1 : AC := b22_1
@[simp] theorem e22_1 {Γ : Tab} {V : Nat → Bool} {ρ : Type} (k : AX → St → Option ρ) (s : St) : eval Γ c22_1 V ρ k s = eval Γ b22_1 V ρ k s := rfl
def c22 : AF := AF.mk 22 [.t 2] (.seq (.ops (.op (some 2) (.mv (.c (.str []))) (.nil)))
 (.seq (.seq (.ops (.op (some 5) (.mv (.t 0)) (.op (some 6) (.len false (.t 5)) (.op (some 7) (.bin .eql (.t 6) (.c (.int .i64 0))) (.nil)))))
 (.cond (.t 7) (.seq (.ops (.op (some 2) (.mv (.c (.str [47]))) (.nil)))
 (.ret)) (.skip)))
 (.seq (.ops (.op (some 3) (.mv (.c (.str []))) (.nil)))
 (.seq (.seq (.ops (.op (some 4) (.mv (.c (.int .i64 0))) (.nil)))
 (.block 0 (.loop [3, 4] [(3, 4), (8, 20)] [] [(.exit 0, [3])] c22_1)))
 (.seq (.ops (.op (some 21) (.mv (.t 3)) (.op (some 2) (.mv (.t 21)) (.nil))))
 (.ret))))))

theorem ok22 : okF Try.prog 22 c22 = true := by kernel_rfl

/-- catacomb/catacombref06.Names -/
def b23_1 : AC := .seq (.seq (.ops (.op (some 6) (.mv (.t 4)) (.op (some 7) (.mv (.t 0)) (.op (some 8) (.len false (.t 7)) (.op (some 9) (.bin .lss (.t 6) (.t 8)) (.op (some 10) (.mv (.t 9)) (.sc 13 true 10 11 12 (.op (some 11) (.mv (.t 4)) (.op (some 12) (.bin .lss (.t 11) (.c (.int .i64 200))) (.nil))) (.t 12) (.op (some 14) (.mv (.t 13)) (.sc 18 true 14 15 17 (.op (some 15) (.mv (.t 3)) (.op (some 16) (.len false (.t 15)) (.op (some 17) (.bin .lss (.t 16) (.c (.int .i64 12))) (.nil)))) (.t 17) (.nil))))))))))
 (.cond (.t 18) (.skip) (.exit 0)))
 (.seq (.block 1 (.seq (.ops (.op (some 21) (.mv (.t 0)) (.op (some 22) (.mv (.t 4)) (.op (some 23) (.iad 1 (.t 21) (.t 22)) (.op (some 24) (.load 1 false (.t 23)) (.op (some 25) (.call 17 [(.t 24)]) (.nil)))))))
 (.cond (.t 25) (.ops (.op (some 26) (.mv (.t 3)) (.op (some 27) (.mv (.t 0)) (.op (some 28) (.mv (.t 4)) (.op (some 29) (.iad 1 (.t 27) (.t 28)) (.op (some 30) (.load 1 false (.t 29)) (.op (some 31) (.bslh 1 (.str []) 1 [(0, (.t 30))]) (.op (some 32) (.app 1 16 (.t 26) (.t 31)) (.op (some 3) (.mv (.t 32)) (.nil)))))))))) (.skip))))
 (.ops (.op (some 19) (.mv (.t 4)) (.op (some 20) (.bin .add (.t 19) (.c (.int .i64 1))) (.op (some 4) (.mv (.t 20)) (.nil))))))
def c23_1 : AC := b23_1
@[simp] theorem e23_1 {Γ : Tab} {V : Nat → Bool} {ρ : Type} (k : AX → St → Option ρ) (s : St) : eval Γ c23_1 V ρ k s = eval Γ b23_1 V ρ k s := rfl
def c23 : AF := AF.mk 34 [.t 2] (.seq (.ops (.op (some 2) (.mv (.c (.lst true []))) (.nil)))
 (.seq (.ops (.op (some 5) (.bslh 1 (.str []) 0 []) (.op (some 3) (.mv (.t 5)) (.nil))))
 (.seq (.seq (.ops (.op (some 4) (.mv (.c (.int .i64 0))) (.nil)))
 (.block 0 (.loop [3, 4] [(3, 4), (6, 32)] [(3, 1)] [(.exit 0, [3])] c23_1)))
 (.seq (.ops (.op (some 33) (.mv (.t 3)) (.op (some 2) (.mv (.t 33)) (.nil))))
 (.ret)))))

theorem ok23 : okF Try.prog 23 c23 = true := by kernel_rfl

/-- catacomb/name.pieces -/
def c24 : AF := AF.mk 4 [.t 2] (.seq (.ops (.op (some 1) (.box (.t 0)) (.op (some 2) (.mv (.c (.nilf))) (.nil))))
 (.seq (.ops (.op (some 3) (.mkf (.func 27) [] [(.t 1)]) (.op (some 2) (.mv (.t 3)) (.nil))))
 (.ret)))

theorem ok24 : okF Try.prog 24 c24 = true := by kernel_rfl

/-- slices.Equal[[]string,string] -/
def b25_1 : AC := .seq (.ops (.op (some 14) (.bin .lss (.t 13) (.t 12)) (.nil)))
 (.seq (.cond (.t 14) (.skip) (.exit 0))
 (.seq (.block 1 (.seq (.ops (.op (some 15) (.mv (.t 13)) (.op (some 5) (.mv (.t 15)) (.nil))))
 (.seq (.ops (.op (some 16) (.mv (.t 0)) (.op (some 17) (.mv (.t 5)) (.op (some 18) (.iad 1 (.t 16) (.t 17)) (.op (some 19) (.load 1 false (.t 18)) (.op (some 20) (.mv (.t 1)) (.op (some 21) (.mv (.t 5)) (.op (some 22) (.iad 1 (.t 20) (.t 21)) (.op (some 23) (.load 1 false (.t 22)) (.op (some 24) (.bin .neq (.t 19) (.t 23)) (.nil)))))))))))
 (.cond (.t 24) (.seq (.ops (.op (some 4) (.mv (.c (.bool false))) (.nil)))
 (.ret)) (.skip)))))
 (.ops (.op (some 25) (.bin .add (.t 13) (.c (.int .i64 1))) (.op (some 13) (.mv (.t 25)) (.nil))))))
def c25_1 : AC := b25_1
@[simp] theorem e25_1 {Γ : Tab} {V : Nat → Bool} {ρ : Type} (k : AX → St → Option ρ) (s : St) : eval Γ c25_1 V ρ k s = eval Γ b25_1 V ρ k s := rfl
def c25 : AF := AF.mk 26 [.t 4] (.seq (.ops (.op (some 4) (.mv (.c (.bool false))) (.nil)))
 (.seq (.seq (.ops (.op (some 6) (.mv (.t 0)) (.op (some 7) (.len false (.t 6)) (.op (some 8) (.mv (.t 1)) (.op (some 9) (.len false (.t 8)) (.op (some 10) (.bin .neq (.t 7) (.t 9)) (.nil)))))))
 (.cond (.t 10) (.seq (.ops (.op (some 4) (.mv (.c (.bool false))) (.nil)))
 (.ret)) (.skip)))
 (.seq (.seq (.ops (.op (some 11) (.mv (.t 0)) (.op (some 12) (.len false (.t 11)) (.op (some 13) (.mv (.c (.int .i64 0))) (.nil)))))
 (.block 0 (.loop [13] [(4, 5), (13, 25)] [] [(.exit 0, []), (.ret, [4])] c25_1)))
 (.seq (.ops (.op (some 4) (.mv (.c (.bool true))) (.nil)))
 (.ret)))))

theorem ok25 : okF Try.prog 25 c25 = true := by kernel_rfl

/-- strings.CutPrefix -/
def c28 : AF := AF.mk 11 [.t 4, .t 5] (.seq (.ops (.op (some 4) (.mv (.c (.str []))) (.op (some 5) (.mv (.c (.bool false))) (.nil))))
 (.seq (.ops (.op (some 6) (.mv (.t 0)) (.op (some 7) (.mv (.t 1)) (.op (some 8) (.call 33 [(.t 6), (.t 7)]) (.op (some 9) (.ext (.t 8) 0) (.op (some 10) (.ext (.t 8) 1) (.op (some 4) (.mv (.t 9)) (.op (some 5) (.mv (.t 10)) (.nil)))))))))
 (.ret)))

theorem ok28 : okF Try.prog 28 c28 = true := by kernel_rfl

/-- strings.IndexByte -/
def c29 : AF := AF.mk 8 [.t 4] (.seq (.ops (.op (some 4) (.mv (.c (.int .i64 0))) (.nil)))
 (.seq (.ops (.op (some 5) (.mv (.t 0)) (.op (some 6) (.mv (.t 1)) (.op (some 7) (.call 34 [(.t 5), (.t 6)]) (.op (some 4) (.mv (.t 7)) (.nil))))))
 (.ret)))

theorem ok29 : okF Try.prog 29 c29 = true := by kernel_rfl

/-- internal/stringslite.CutPrefix -/
def c33 : AF := AF.mk 15 [.t 4, .t 5] (.seq (.ops (.op (some 4) (.mv (.c (.str []))) (.op (some 5) (.mv (.c (.bool false))) (.nil))))
 (.seq (.seq (.ops (.op (some 6) (.mv (.t 0)) (.op (some 7) (.mv (.t 1)) (.op (some 8) (.call 37 [(.t 6), (.t 7)]) (.op (some 9) (.un .not (.t 8)) (.nil))))))
 (.cond (.t 9) (.seq (.ops (.op (some 10) (.mv (.t 0)) (.op (some 4) (.mv (.t 10)) (.op (some 5) (.mv (.c (.bool false))) (.nil)))))
 (.ret)) (.skip)))
 (.seq (.ops (.op (some 11) (.mv (.t 0)) (.op (some 12) (.mv (.t 1)) (.op (some 13) (.len true (.t 12)) (.op (some 14) (.sls (.t 11) (some (.t 13)) none) (.op (some 4) (.mv (.t 14)) (.op (some 5) (.mv (.c (.bool true))) (.nil))))))))
 (.ret))))

theorem ok33 : okF Try.prog 33 c33 = true := by kernel_rfl

/-- internal/stringslite.HasPrefix -/
def c37 : AF := AF.mk 18 [.t 4] (.seq (.ops (.op (some 4) (.mv (.c (.bool false))) (.nil)))
 (.seq (.ops (.op (some 5) (.mv (.t 0)) (.op (some 6) (.len true (.t 5)) (.op (some 7) (.mv (.t 1)) (.op (some 8) (.len true (.t 7)) (.op (some 9) (.bin .geq (.t 6) (.t 8)) (.op (some 10) (.mv (.t 9)) (.sc 17 true 10 11 16 (.op (some 11) (.mv (.t 0)) (.op (some 12) (.mv (.t 1)) (.op (some 13) (.len true (.t 12)) (.op (some 14) (.sls (.t 11) none (some (.t 13))) (.op (some 15) (.mv (.t 1)) (.op (some 16) (.bin .eql (.t 14) (.t 15)) (.nil))))))) (.t 16) (.op (some 4) (.mv (.t 17)) (.nil))))))))))
 (.ret)))

theorem ok37 : okF Try.prog 37 c37 = true := by kernel_rfl

end Go.Proofs.Ytalckkfoplaeeaa
