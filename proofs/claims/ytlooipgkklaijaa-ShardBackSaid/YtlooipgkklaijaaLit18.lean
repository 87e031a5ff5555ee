/-
  Literals of functions, for the abstract machine; that they are meant.
-/
import Derived.Test.YtlooipgkklaijaaProg
import Derived.Test.YtlooipgkklaijaaAmGU
import Derived.Test.YtlooipgkklaijaaAmGS
import Derived.KernelRfl
set_option linter.unusedSimpArgs false
set_option linter.unusedVariables false
namespace Go.Proofs.Ytlooipgkklaijaa
open Go.Am
/-- catacomb/catacomblaw18.ShardTells -/
def b3_1 : AC := .seq (.seq (.ops (.op (some 42) (.mv (.t 12)) (.op (some 43) (.mv (.t 0)) (.op (some 44) (.len false (.t 43)) (.op (some 45) (.bin .lss (.t 42) (.t 44)) (.nil))))))
 (.cond (.t 45) (.skip) (.exit 0)))
 (.seq (.block 1 (.seq (.ops (.op (some 48) (.mv (.t 0)) (.op (some 49) (.mv (.t 12)) (.op (some 50) (.iad 3 (.t 48) (.t 49)) (.op (some 51) (.fad 0 (.t 50)) (.op (some 52) (.load 1 false (.t 51)) (.op (some 53) (.len true (.t 52)) (.op (some 54) (.bin .gtr (.t 53) (.c (.int .i64 1000))) (.nil)))))))))
 (.cond (.t 54) (.seq (.ops (.op (some 55) (.mv (.t 11)) (.op (some 10) (.mv (.t 55)) (.nil))))
 (.ret)) (.skip))))
 (.ops (.op (some 46) (.mv (.t 12)) (.op (some 47) (.bin .add (.t 46) (.c (.int .i64 1))) (.op (some 12) (.mv (.t 47)) (.nil))))))
def c3_1 : AC := b3_1
@[simp] theorem e3_1 {Γ : Tab} {V : Nat → Bool} {ρ : Type} (k : AX → St → Option ρ) (s : St) : eval Γ c3_1 V ρ k s = eval Γ b3_1 V ρ k s := rfl
def c3 : AF := AF.mk 133 [.t 10] (.seq (.ops (.op (some 8) (.box (.t 3)) (.op (some 10) (.mv (.c (.bool false))) (.nil))))
 (.seq (.ops (.op (some 22) (.call 10 []) (.op (some 11) (.mv (.t 22)) (.nil))))
 (.seq (.seq (.ops (.op (some 23) (.mv (.t 2)) (.op (some 24) (.call 11 [(.t 23)]) (.op (some 25) (.mv (.t 24)) (.sc 29 false 25 26 28 (.op (some 26) (.mv (.t 0)) (.op (some 27) (.len false (.t 26)) (.op (some 28) (.bin .gtr (.t 27) (.c (.int .i64 50))) (.nil)))) (.t 28) (.op (some 30) (.mv (.t 29)) (.sc 35 false 30 31 34 (.op (some 31) (.fad 1 (.t 8)) (.op (some 32) (.load 1 false (.t 31)) (.op (some 33) (.len true (.t 32)) (.op (some 34) (.bin .gtr (.t 33) (.c (.int .i64 1000))) (.nil))))) (.t 34) (.op (some 36) (.mv (.t 35)) (.sc 40 false 36 37 39 (.op (some 37) (.mv (.t 4)) (.op (some 38) (.len true (.t 37)) (.op (some 39) (.bin .gtr (.t 38) (.c (.int .i64 1000))) (.nil)))) (.t 39) (.nil))))))))))
 (.cond (.t 40) (.seq (.ops (.op (some 41) (.mv (.t 11)) (.op (some 10) (.mv (.t 41)) (.nil))))
 (.ret)) (.skip)))
 (.seq (.seq (.ops (.op (some 12) (.mv (.c (.int .i64 0))) (.nil)))
 (.block 0 (.loop [12] [(10, 10), (12, 12), (42, 55)] [] [(.exit 0, []), (.ret, [10])] c3_1)))
 (.seq (.seq (.ops (.op (some 56) (.mv (.t 0)) (.op (some 57) (.call 12 [(.t 56)]) (.op (some 58) (.mv (.t 0)) (.op (some 59) (.call 13 [(.t 58)]) (.op (some 60) (.beq true (.t 57) (.t 59)) (.op (some 61) (.mv (.t 60)) (.sc 72 false 61 62 71 (.op (some 62) (.mv (.t 1)) (.op (some 63) (.conv .i64 (.t 62)) (.op (some 64) (.bin .rem (.t 63) (.c (.int .i64 8))) (.op (some 65) (.call 15 [(.t 64)]) (.op (some 66) (.mv (.t 1)) (.op (some 67) (.conv .i64 (.t 66)) (.op (some 68) (.bin .rem (.t 67) (.c (.int .i64 8))) (.op (some 69) (.call 16 [(.t 68)]) (.op (some 70) (.call 14 [(.t 65), (.t 69)]) (.op (some 71) (.un .not (.t 70)) (.nil))))))))))) (.t 71) (.nil)))))))))
 (.cond (.t 72) (.seq (.ops (.op (some 10) (.mv (.c (.bool false))) (.nil)))
 (.ret)) (.skip)))
 (.seq (.ops (.op (some 73) (.mv (.t 1)) (.op (some 74) (.mv (.t 2)) (.op (some 75) (.call 17 [(.t 73), (.t 74)]) (.op (some 13) (.mv (.t 75)) (.nil))))))
 (.seq (.seq (.ops (.op (some 76) (.mv (.t 0)) (.op (some 77) (.call 13 [(.t 76)]) (.nil))))
 (.cond (.t 77) (.ops (.op (some 78) (.mv (.t 0)) (.op (some 13) (.mv (.t 78)) (.nil)))) (.skip)))
 (.seq (.ops (.op (some 80) (.mv (.t 13)) (.op (some 81) (.load 3 true (.t 8)) (.op (some 82) (.call 18 [(.t 80), (.t 81)]) (.op (some 79) (.mv (.t 82)) (.op (some 83) (.ext (.t 79) 0) (.op (some 84) (.ext (.t 79) 1) (.op (some 14) (.mv (.t 83)) (.op (some 15) (.mv (.t 84)) (.nil))))))))))
 (.seq (.ops (.op (some 86) (.mv (.t 13)) (.op (some 87) (.load 3 true (.t 8)) (.op (some 88) (.call 19 [(.t 86), (.t 87)]) (.op (some 85) (.mv (.t 88)) (.op (some 89) (.ext (.t 85) 0) (.op (some 90) (.ext (.t 85) 1) (.op (some 16) (.mv (.t 89)) (.op (some 17) (.mv (.t 90)) (.nil))))))))))
 (.seq (.ops (.op (some 92) (.mv (.t 13)) (.op (some 93) (.mv (.t 4)) (.op (some 94) (.call 20 [(.t 92), (.t 93)]) (.op (some 91) (.mv (.t 94)) (.op (some 95) (.ext (.t 91) 0) (.op (some 96) (.ext (.t 91) 1) (.op (some 18) (.mv (.t 95)) (.op (some 19) (.mv (.t 96)) (.nil))))))))))
 (.seq (.ops (.op (some 98) (.mv (.t 13)) (.op (some 99) (.mv (.t 4)) (.op (some 100) (.call 21 [(.t 98), (.t 99)]) (.op (some 97) (.mv (.t 100)) (.op (some 101) (.ext (.t 97) 0) (.op (some 102) (.ext (.t 97) 1) (.op (some 20) (.mv (.t 101)) (.op (some 21) (.mv (.t 102)) (.nil))))))))))
 (.seq (.ops (.op (some 103) (.mv (.t 11)) (.op (some 104) (.mv (.t 103)) (.sc 108 true 104 105 107 (.op (some 105) (.mv (.t 14)) (.op (some 106) (.mv (.t 16)) (.op (some 107) (.call 14 [(.t 105), (.t 106)]) (.nil)))) (.t 107) (.op (some 109) (.mv (.t 108)) (.sc 113 true 109 110 112 (.op (some 110) (.mv (.t 15)) (.op (some 111) (.mv (.t 17)) (.op (some 112) (.bin .eql (.t 110) (.t 111)) (.nil)))) (.t 112) (.op (some 114) (.mv (.t 113)) (.sc 118 true 114 115 117 (.op (some 115) (.mv (.t 18)) (.op (some 116) (.mv (.t 20)) (.op (some 117) (.bin .eql (.t 115) (.t 116)) (.nil)))) (.t 117) (.op (some 119) (.mv (.t 118)) (.sc 123 true 119 120 122 (.op (some 120) (.mv (.t 19)) (.op (some 121) (.mv (.t 21)) (.op (some 122) (.bin .eql (.t 120) (.t 121)) (.nil)))) (.t 122) (.op (some 124) (.mv (.t 123)) (.sc 132 true 124 125 131 (.op (some 125) (.mv (.t 13)) (.op (some 126) (.mv (.t 4)) (.op (some 127) (.call 23 [(.t 125), (.t 126)]) (.op (some 128) (.mv (.t 13)) (.op (some 129) (.mv (.t 4)) (.op (some 130) (.call 24 [(.t 128), (.t 129)]) (.op (some 131) (.call 22 [(.t 127), (.t 130)]) (.nil)))))))) (.t 131) (.op (some 10) (.mv (.t 132)) (.nil))))))))))))))
 (.ret)))))))))))))

theorem ok3 : okF Try.prog 3 c3 = true := by kernel_rfl

/-- catacomb/catacomblaw18.ShardRight -/
def c4 : AF := AF.mk 48 [.t 6] (.seq (.ops (.op (some 5) (.box (.t 2)) (.op (some 6) (.mv (.c (.bool false))) (.nil))))
 (.seq (.ops (.op (some 11) (.call 10 []) (.op (some 7) (.mv (.t 11)) (.nil))))
 (.seq (.seq (.ops (.op (some 12) (.mv (.t 1)) (.op (some 13) (.call 11 [(.t 12)]) (.op (some 14) (.mv (.t 13)) (.sc 19 false 14 15 18 (.op (some 15) (.fad 1 (.t 5)) (.op (some 16) (.load 1 false (.t 15)) (.op (some 17) (.len true (.t 16)) (.op (some 18) (.bin .gtr (.t 17) (.c (.int .i64 1000))) (.nil))))) (.t 18) (.nil))))))
 (.cond (.t 19) (.seq (.ops (.op (some 20) (.mv (.t 7)) (.op (some 6) (.mv (.t 20)) (.nil))))
 (.ret)) (.skip)))
 (.seq (.ops (.op (some 21) (.mv (.t 0)) (.op (some 22) (.mv (.t 1)) (.op (some 23) (.call 17 [(.t 21), (.t 22)]) (.op (some 8) (.mv (.t 23)) (.nil))))))
 (.seq (.ops (.op (some 25) (.mv (.t 8)) (.op (some 26) (.load 3 true (.t 5)) (.op (some 27) (.call 18 [(.t 25), (.t 26)]) (.op (some 24) (.mv (.t 27)) (.op (some 28) (.ext (.t 24) 0) (.op (some 29) (.ext (.t 24) 1) (.op (some 9) (.mv (.t 28)) (.op (some 10) (.mv (.t 29)) (.nil))))))))))
 (.seq (.ops (.op (some 30) (.mv (.t 7)) (.op (some 31) (.mv (.t 30)) (.sc 34 true 31 32 33 (.op (some 32) (.mv (.t 8)) (.op (some 33) (.call 12 [(.t 32)]) (.nil))) (.t 33) (.op (some 35) (.mv (.t 34)) (.sc 38 true 35 36 37 (.op (some 36) (.mv (.t 9)) (.op (some 37) (.call 12 [(.t 36)]) (.nil))) (.t 37) (.op (some 39) (.mv (.t 38)) (.sc 47 true 39 40 46 (.op (some 40) (.mv (.t 10)) (.op (some 41) (.bin .eql (.t 40) (.c (.int .i64 0))) (.op (some 42) (.mv (.t 41)) (.sc 46 false 42 43 45 (.op (some 43) (.mv (.t 8)) (.op (some 44) (.mv (.t 9)) (.op (some 45) (.call 14 [(.t 43), (.t 44)]) (.nil)))) (.t 45) (.nil))))) (.t 46) (.op (some 6) (.mv (.t 47)) (.nil))))))))))
 (.ret)))))))

theorem ok4 : okF Try.prog 4 c4 = true := by kernel_rfl

/-- catacomb/catacomblaw18.ShardOf -/
def b5_1 : AC := .seq (.seq (.ops (.op (some 79) (.mv (.t 13)) (.op (some 80) (.mv (.t 8)) (.op (some 81) (.len false (.t 80)) (.op (some 82) (.bin .lss (.t 79) (.t 81)) (.nil))))))
 (.cond (.t 82) (.skip) (.exit 0)))
 (.seq (.block 1 (.seq (.ops (.op (some 86) (.mv (.t 8)) (.op (some 87) (.mv (.t 8)) (.op (some 88) (.mv (.t 13)) (.op (some 89) (.iad 3 (.t 87) (.t 88)) (.op (some 90) (.fad 0 (.t 89)) (.op (some 91) (.load 1 false (.t 90)) (.op (some 92) (.call 20 [(.t 86), (.t 91)]) (.op (some 85) (.mv (.t 92)) (.op (some 93) (.ext (.t 85) 0) (.op (some 94) (.ext (.t 85) 1) (.op (some 14) (.mv (.t 93)) (.op (some 15) (.mv (.t 94)) (.nil))))))))))))))
 (.seq (.ops (.op (some 95) (.mv (.t 15)) (.op (some 96) (.bin .neq (.t 95) (.c (.int .i64 0))) (.op (some 97) (.mv (.t 96)) (.sc 101 false 97 98 100 (.op (some 98) (.mv (.t 14)) (.op (some 99) (.mv (.t 13)) (.op (some 100) (.bin .neq (.t 98) (.t 99)) (.nil)))) (.t 100) (.op (some 102) (.mv (.t 101)) (.sc 124 false 102 103 123 (.op (some 103) (.mv (.t 8)) (.op (some 104) (.mv (.t 13)) (.op (some 105) (.iad 3 (.t 103) (.t 104)) (.op (some 106) (.fad 0 (.t 105)) (.op (some 107) (.load 1 false (.t 106)) (.op (some 108) (.mv (.t 2)) (.op (some 109) (.callp 26 [(.t 107), (.t 108)]) (.op (some 110) (.mv (.t 109)) (.sc 123 true 110 111 122 (.op (some 111) (.mv (.t 8)) (.op (some 112) (.mv (.t 13)) (.op (some 113) (.iad 3 (.t 111) (.t 112)) (.op (some 114) (.fad 0 (.t 113)) (.op (some 115) (.load 1 false (.t 114)) (.op (some 116) (.mv (.t 8)) (.op (some 117) (.mv (.t 9)) (.op (some 118) (.iad 3 (.t 116) (.t 117)) (.op (some 119) (.fad 0 (.t 118)) (.op (some 120) (.load 1 false (.t 119)) (.op (some 121) (.callp 26 [(.t 115), (.t 120)]) (.op (some 122) (.un .not (.t 121)) (.nil))))))))))))) (.t 122) (.nil)))))))))) (.t 123) (.nil))))))))
 (.cond (.t 124) (.seq (.ops (.op (some 6) (.mv (.c (.bool false))) (.nil)))
 (.ret)) (.skip)))))
 (.ops (.op (some 83) (.mv (.t 13)) (.op (some 84) (.bin .add (.t 83) (.c (.int .i64 1))) (.op (some 13) (.mv (.t 84)) (.nil))))))
def c5_1 : AC := b5_1
@[simp] theorem e5_1 {Γ : Tab} {V : Nat → Bool} {ρ : Type} (k : AX → St → Option ρ) (s : St) : eval Γ c5_1 V ρ k s = eval Γ b5_1 V ρ k s := rfl
def c5 : AF := AF.mk 126 [.t 6] (.seq (.ops (.op (some 6) (.mv (.c (.bool false))) (.nil)))
 (.seq (.ops (.op (some 16) (.call 10 []) (.op (some 7) (.mv (.t 16)) (.nil))))
 (.seq (.seq (.ops (.op (some 17) (.mv (.t 1)) (.op (some 18) (.call 11 [(.t 17)]) (.op (some 19) (.mv (.t 18)) (.sc 23 false 19 20 22 (.op (some 20) (.mv (.t 2)) (.op (some 21) (.len true (.t 20)) (.op (some 22) (.bin .gtr (.t 21) (.c (.int .i64 1000))) (.nil)))) (.t 22) (.nil))))))
 (.cond (.t 23) (.seq (.ops (.op (some 24) (.mv (.t 7)) (.op (some 6) (.mv (.t 24)) (.nil))))
 (.ret)) (.skip)))
 (.seq (.ops (.op (some 25) (.mv (.t 0)) (.op (some 26) (.mv (.t 1)) (.op (some 27) (.call 17 [(.t 25), (.t 26)]) (.op (some 8) (.mv (.t 27)) (.nil))))))
 (.seq (.ops (.op (some 29) (.mv (.t 8)) (.op (some 30) (.mv (.t 2)) (.op (some 31) (.call 20 [(.t 29), (.t 30)]) (.op (some 28) (.mv (.t 31)) (.op (some 32) (.ext (.t 28) 0) (.op (some 33) (.ext (.t 28) 1) (.op (some 9) (.mv (.t 32)) (.op (some 10) (.mv (.t 33)) (.nil))))))))))
 (.seq (.ops (.op (some 35) (.mv (.t 2)) (.op (some 36) (.call 25 [(.t 35)]) (.op (some 34) (.mv (.t 36)) (.op (some 37) (.ext (.t 34) 0) (.op (some 38) (.ext (.t 34) 1) (.op (some 11) (.mv (.t 37)) (.op (some 12) (.mv (.t 38)) (.nil)))))))))
 (.seq (.seq (.ops (.op (some 39) (.mv (.t 12)) (.op (some 40) (.bin .neq (.t 39) (.c (.int .i64 0))) (.nil))))
 (.cond (.t 40) (.seq (.ops (.op (some 41) (.mv (.t 7)) (.op (some 42) (.mv (.t 41)) (.sc 45 true 42 43 44 (.op (some 43) (.mv (.t 10)) (.op (some 44) (.bin .eql (.t 43) (.c (.int .i64 60))) (.nil))) (.t 44) (.op (some 46) (.mv (.t 45)) (.sc 49 true 46 47 48 (.op (some 47) (.mv (.t 9)) (.op (some 48) (.bin .eql (.t 47) (.c (.int .i64 0))) (.nil))) (.t 48) (.op (some 50) (.mv (.t 49)) (.sc 56 true 50 51 55 (.op (some 51) (.mv (.t 8)) (.op (some 52) (.mv (.t 2)) (.op (some 53) (.call 23 [(.t 51), (.t 52)]) (.op (some 54) (.len false (.t 53)) (.op (some 55) (.bin .eql (.t 54) (.c (.int .i64 0))) (.nil)))))) (.t 55) (.op (some 6) (.mv (.t 56)) (.nil))))))))))
 (.ret)) (.skip)))
 (.seq (.seq (.ops (.op (some 57) (.mv (.t 10)) (.op (some 58) (.bin .neq (.t 57) (.c (.int .i64 0))) (.op (some 59) (.mv (.t 58)) (.sc 62 false 59 60 61 (.op (some 60) (.mv (.t 9)) (.op (some 61) (.bin .lss (.t 60) (.c (.int .i64 0))) (.nil))) (.t 61) (.op (some 63) (.mv (.t 62)) (.sc 68 false 63 64 67 (.op (some 64) (.mv (.t 9)) (.op (some 65) (.mv (.t 8)) (.op (some 66) (.len false (.t 65)) (.op (some 67) (.bin .geq (.t 64) (.t 66)) (.nil))))) (.t 67) (.op (some 69) (.mv (.t 68)) (.sc 78 false 69 70 77 (.op (some 70) (.mv (.t 8)) (.op (some 71) (.mv (.t 9)) (.op (some 72) (.iad 3 (.t 70) (.t 71)) (.op (some 73) (.fad 0 (.t 72)) (.op (some 74) (.load 1 false (.t 73)) (.op (some 75) (.mv (.t 2)) (.op (some 76) (.call 26 [(.t 74), (.t 75)]) (.op (some 77) (.un .not (.t 76)) (.nil))))))))) (.t 77) (.nil))))))))))
 (.cond (.t 78) (.seq (.ops (.op (some 6) (.mv (.c (.bool false))) (.nil)))
 (.ret)) (.skip)))
 (.seq (.seq (.ops (.op (some 13) (.mv (.c (.int .i64 0))) (.nil)))
 (.block 0 (.loop [13] [(6, 6), (13, 15), (79, 124)] [] [(.exit 0, []), (.ret, [6])] c5_1)))
 (.seq (.ops (.op (some 125) (.mv (.t 7)) (.op (some 6) (.mv (.t 125)) (.nil))))
 (.ret)))))))))))

theorem ok5 : okF Try.prog 5 c5 = true := by kernel_rfl

/-- catacomb/catacomblaw18.ShardCut -/
def c6 : AF := AF.mk 166 [.t 10] (.seq (.ops (.op (some 10) (.mv (.c (.bool false))) (.nil)))
 (.seq (.ops (.op (some 21) (.call 10 []) (.op (some 11) (.mv (.t 21)) (.nil))))
 (.seq (.seq (.ops (.op (some 22) (.mv (.t 1)) (.op (some 23) (.call 11 [(.t 22)]) (.op (some 24) (.mv (.t 23)) (.sc 28 false 24 25 27 (.op (some 25) (.mv (.t 2)) (.op (some 26) (.len true (.t 25)) (.op (some 27) (.bin .gtr (.t 26) (.c (.int .i64 1000))) (.nil)))) (.t 27) (.op (some 29) (.mv (.t 28)) (.sc 33 false 29 30 32 (.op (some 30) (.mv (.t 4)) (.op (some 31) (.len true (.t 30)) (.op (some 32) (.bin .gtr (.t 31) (.c (.int .i64 1000))) (.nil)))) (.t 32) (.nil))))))))
 (.cond (.t 33) (.seq (.ops (.op (some 34) (.mv (.t 11)) (.op (some 10) (.mv (.t 34)) (.nil))))
 (.ret)) (.skip)))
 (.seq (.ops (.op (some 35) (.mv (.t 0)) (.op (some 36) (.mv (.t 1)) (.op (some 37) (.call 17 [(.t 35), (.t 36)]) (.op (some 12) (.mv (.t 37)) (.nil))))))
 (.seq (.ops (.op (some 39) (.mv (.t 12)) (.op (some 40) (.mv (.t 2)) (.op (some 41) (.mv (.t 3)) (.op (some 42) (.conv .i64 (.t 41)) (.op (some 43) (.bin .rem (.t 42) (.c (.int .i64 8))) (.op (some 44) (.call 27 [(.t 39), (.t 40), (.t 43)]) (.op (some 38) (.mv (.t 44)) (.op (some 45) (.ext (.t 38) 0) (.op (some 46) (.ext (.t 38) 1) (.op (some 13) (.mv (.t 45)) (.op (some 14) (.mv (.t 46)) (.nil)))))))))))))
 (.seq (.seq (.ops (.op (some 47) (.mv (.t 14)) (.op (some 48) (.bin .neq (.t 47) (.c (.int .i64 0))) (.nil))))
 (.cond (.t 48) (.seq (.ops (.op (some 49) (.mv (.t 11)) (.op (some 10) (.mv (.t 49)) (.nil))))
 (.ret)) (.skip)))
 (.seq (.ops (.op (some 51) (.mv (.t 12)) (.op (some 52) (.mv (.t 2)) (.op (some 53) (.call 20 [(.t 51), (.t 52)]) (.op (some 50) (.mv (.t 53)) (.op (some 54) (.ext (.t 50) 0) (.op (some 55) (.ext (.t 50) 1) (.op (some 15) (.mv (.t 54)) (.op (some 16) (.mv (.t 55)) (.nil))))))))))
 (.seq (.ops (.op (some 57) (.mv (.t 12)) (.op (some 58) (.mv (.t 4)) (.op (some 59) (.call 20 [(.t 57), (.t 58)]) (.op (some 56) (.mv (.t 59)) (.op (some 60) (.ext (.t 56) 0) (.op (some 61) (.ext (.t 56) 1) (.op (some 17) (.mv (.t 60)) (.op (some 18) (.mv (.t 61)) (.nil))))))))))
 (.seq (.ops (.op (some 63) (.mv (.t 13)) (.op (some 64) (.mv (.t 4)) (.op (some 65) (.call 20 [(.t 63), (.t 64)]) (.op (some 62) (.mv (.t 65)) (.op (some 66) (.ext (.t 62) 0) (.op (some 67) (.ext (.t 62) 1) (.op (some 19) (.mv (.t 66)) (.op (some 20) (.mv (.t 67)) (.nil))))))))))
 (.seq (.seq (.ops (.op (some 68) (.mv (.t 18)) (.op (some 69) (.bin .neq (.t 68) (.c (.int .i64 0))) (.nil))))
 (.cond (.t 69) (.seq (.ops (.op (some 70) (.mv (.t 11)) (.op (some 71) (.mv (.t 70)) (.sc 75 true 71 72 74 (.op (some 72) (.mv (.t 20)) (.op (some 73) (.mv (.t 18)) (.op (some 74) (.bin .eql (.t 72) (.t 73)) (.nil)))) (.t 74) (.op (some 10) (.mv (.t 75)) (.nil))))))
 (.ret)) (.skip)))
 (.seq (.seq (.ops (.op (some 76) (.mv (.t 16)) (.op (some 77) (.bin .neq (.t 76) (.c (.int .i64 0))) (.op (some 78) (.mv (.t 77)) (.sc 81 false 78 79 80 (.op (some 79) (.mv (.t 20)) (.op (some 80) (.bin .neq (.t 79) (.c (.int .i64 0))) (.nil))) (.t 80) (.op (some 82) (.mv (.t 81)) (.sc 85 false 82 83 84 (.op (some 83) (.mv (.t 17)) (.op (some 84) (.bin .lss (.t 83) (.c (.int .i64 0))) (.nil))) (.t 84) (.op (some 86) (.mv (.t 85)) (.sc 91 false 86 87 90 (.op (some 87) (.mv (.t 17)) (.op (some 88) (.mv (.t 12)) (.op (some 89) (.len false (.t 88)) (.op (some 90) (.bin .geq (.t 87) (.t 89)) (.nil))))) (.t 90) (.op (some 92) (.mv (.t 91)) (.sc 95 false 92 93 94 (.op (some 93) (.mv (.t 19)) (.op (some 94) (.bin .lss (.t 93) (.c (.int .i64 0))) (.nil))) (.t 94) (.op (some 96) (.mv (.t 95)) (.sc 101 false 96 97 100 (.op (some 97) (.mv (.t 19)) (.op (some 98) (.mv (.t 13)) (.op (some 99) (.len false (.t 98)) (.op (some 100) (.bin .geq (.t 97) (.t 99)) (.nil))))) (.t 100) (.op (some 102) (.mv (.t 101)) (.sc 109 false 102 103 108 (.op (some 103) (.mv (.t 13)) (.op (some 104) (.len false (.t 103)) (.op (some 105) (.mv (.t 12)) (.op (some 106) (.len false (.t 105)) (.op (some 107) (.bin .add (.t 106) (.c (.int .i64 1))) (.op (some 108) (.bin .neq (.t 104) (.t 107)) (.nil))))))) (.t 108) (.nil))))))))))))))))
 (.cond (.t 109) (.seq (.ops (.op (some 10) (.mv (.c (.bool false))) (.nil)))
 (.ret)) (.skip)))
 (.seq (.seq (.ops (.op (some 110) (.mv (.t 2)) (.op (some 111) (.mv (.t 4)) (.op (some 112) (.call 26 [(.t 110), (.t 111)]) (.op (some 113) (.mv (.t 112)) (.sc 117 true 113 114 116 (.op (some 114) (.mv (.t 17)) (.op (some 115) (.mv (.t 15)) (.op (some 116) (.bin .eql (.t 114) (.t 115)) (.nil)))) (.t 116) (.nil)))))))
 (.cond (.t 117) (.seq (.ops (.op (some 118) (.mv (.t 11)) (.op (some 119) (.mv (.t 118)) (.sc 127 true 119 120 126 (.op (some 120) (.mv (.t 13)) (.op (some 121) (.mv (.t 19)) (.op (some 122) (.iad 3 (.t 120) (.t 121)) (.op (some 123) (.fad 0 (.t 122)) (.op (some 124) (.load 1 false (.t 123)) (.op (some 125) (.mv (.t 2)) (.op (some 126) (.bin .eql (.t 124) (.t 125)) (.nil)))))))) (.t 126) (.op (some 128) (.mv (.t 127)) (.sc 138 true 128 129 137 (.op (some 129) (.mv (.t 13)) (.op (some 130) (.mv (.t 19)) (.op (some 131) (.iad 3 (.t 129) (.t 130)) (.op (some 132) (.fad 1 (.t 131)) (.op (some 133) (.load 1 false (.t 132)) (.op (some 134) (.mv (.t 3)) (.op (some 135) (.conv .i64 (.t 134)) (.op (some 136) (.bin .rem (.t 135) (.c (.int .i64 8))) (.op (some 137) (.bin .eql (.t 133) (.t 136)) (.nil)))))))))) (.t 137) (.op (some 10) (.mv (.t 138)) (.nil))))))))
 (.ret)) (.skip)))
 (.seq (.ops (.op (some 139) (.mv (.t 11)) (.op (some 140) (.mv (.t 139)) (.sc 152 true 140 141 151 (.op (some 141) (.mv (.t 13)) (.op (some 142) (.mv (.t 19)) (.op (some 143) (.iad 3 (.t 141) (.t 142)) (.op (some 144) (.fad 0 (.t 143)) (.op (some 145) (.load 1 false (.t 144)) (.op (some 146) (.mv (.t 12)) (.op (some 147) (.mv (.t 17)) (.op (some 148) (.iad 3 (.t 146) (.t 147)) (.op (some 149) (.fad 0 (.t 148)) (.op (some 150) (.load 1 false (.t 149)) (.op (some 151) (.bin .eql (.t 145) (.t 150)) (.nil)))))))))))) (.t 151) (.op (some 153) (.mv (.t 152)) (.sc 165 true 153 154 164 (.op (some 154) (.mv (.t 13)) (.op (some 155) (.mv (.t 19)) (.op (some 156) (.iad 3 (.t 154) (.t 155)) (.op (some 157) (.fad 1 (.t 156)) (.op (some 158) (.load 1 false (.t 157)) (.op (some 159) (.mv (.t 12)) (.op (some 160) (.mv (.t 17)) (.op (some 161) (.iad 3 (.t 159) (.t 160)) (.op (some 162) (.fad 1 (.t 161)) (.op (some 163) (.load 1 false (.t 162)) (.op (some 164) (.bin .eql (.t 158) (.t 163)) (.nil)))))))))))) (.t 164) (.op (some 10) (.mv (.t 165)) (.nil))))))))
 (.ret))))))))))))))

theorem ok6 : okF Try.prog 6 c6 = true := by kernel_rfl

/-- catacomb/catacomblaw18.ShardEpochs -/
def c7 : AF := AF.mk 122 [.t 8] (.seq (.ops (.op (some 6) (.box (.t 2)) (.op (some 8) (.mv (.c (.bool false))) (.nil))))
 (.seq (.ops (.op (some 19) (.call 10 []) (.op (some 9) (.mv (.t 19)) (.nil))))
 (.seq (.seq (.ops (.op (some 20) (.mv (.t 1)) (.op (some 21) (.call 11 [(.t 20)]) (.op (some 22) (.mv (.t 21)) (.sc 27 false 22 23 26 (.op (some 23) (.fad 1 (.t 6)) (.op (some 24) (.load 1 false (.t 23)) (.op (some 25) (.len true (.t 24)) (.op (some 26) (.bin .gtr (.t 25) (.c (.int .i64 1000))) (.nil))))) (.t 26) (.op (some 28) (.mv (.t 27)) (.sc 32 false 28 29 31 (.op (some 29) (.mv (.t 3)) (.op (some 30) (.len true (.t 29)) (.op (some 31) (.bin .gtr (.t 30) (.c (.int .i64 1000))) (.nil)))) (.t 31) (.nil))))))))
 (.cond (.t 32) (.seq (.ops (.op (some 33) (.mv (.t 9)) (.op (some 8) (.mv (.t 33)) (.nil))))
 (.ret)) (.skip)))
 (.seq (.ops (.op (some 34) (.mv (.t 0)) (.op (some 35) (.mv (.t 1)) (.op (some 36) (.call 17 [(.t 34), (.t 35)]) (.op (some 10) (.mv (.t 36)) (.nil))))))
 (.seq (.ops (.op (some 38) (.mv (.t 10)) (.op (some 39) (.load 3 true (.t 6)) (.op (some 40) (.call 18 [(.t 38), (.t 39)]) (.op (some 37) (.mv (.t 40)) (.op (some 41) (.ext (.t 37) 0) (.op (some 42) (.ext (.t 37) 1) (.op (some 11) (.mv (.t 41)) (.op (some 12) (.mv (.t 42)) (.nil))))))))))
 (.seq (.ops (.op (some 44) (.mv (.t 10)) (.op (some 45) (.mv (.t 3)) (.op (some 46) (.call 20 [(.t 44), (.t 45)]) (.op (some 43) (.mv (.t 46)) (.op (some 47) (.ext (.t 43) 0) (.op (some 48) (.ext (.t 43) 1) (.op (some 13) (.mv (.t 47)) (.op (some 14) (.mv (.t 48)) (.nil))))))))))
 (.seq (.ops (.op (some 50) (.mv (.t 11)) (.op (some 51) (.mv (.t 3)) (.op (some 52) (.call 20 [(.t 50), (.t 51)]) (.op (some 49) (.mv (.t 52)) (.op (some 53) (.ext (.t 49) 0) (.op (some 54) (.ext (.t 49) 1) (.op (some 15) (.mv (.t 53)) (.op (some 16) (.mv (.t 54)) (.nil))))))))))
 (.seq (.seq (.ops (.op (some 55) (.mv (.t 14)) (.op (some 56) (.bin .neq (.t 55) (.c (.int .i64 0))) (.nil))))
 (.cond (.t 56) (.seq (.ops (.op (some 57) (.mv (.t 9)) (.op (some 58) (.mv (.t 57)) (.sc 62 true 58 59 61 (.op (some 59) (.mv (.t 16)) (.op (some 60) (.mv (.t 14)) (.op (some 61) (.bin .eql (.t 59) (.t 60)) (.nil)))) (.t 61) (.op (some 8) (.mv (.t 62)) (.nil))))))
 (.ret)) (.skip)))
 (.seq (.seq (.ops (.op (some 63) (.mv (.t 16)) (.op (some 64) (.bin .neq (.t 63) (.c (.int .i64 0))) (.op (some 65) (.mv (.t 64)) (.sc 68 false 65 66 67 (.op (some 66) (.mv (.t 13)) (.op (some 67) (.bin .lss (.t 66) (.c (.int .i64 0))) (.nil))) (.t 67) (.op (some 69) (.mv (.t 68)) (.sc 74 false 69 70 73 (.op (some 70) (.mv (.t 13)) (.op (some 71) (.mv (.t 10)) (.op (some 72) (.len false (.t 71)) (.op (some 73) (.bin .geq (.t 70) (.t 72)) (.nil))))) (.t 73) (.op (some 75) (.mv (.t 74)) (.sc 78 false 75 76 77 (.op (some 76) (.mv (.t 15)) (.op (some 77) (.bin .lss (.t 76) (.c (.int .i64 0))) (.nil))) (.t 77) (.op (some 79) (.mv (.t 78)) (.sc 84 false 79 80 83 (.op (some 80) (.mv (.t 15)) (.op (some 81) (.mv (.t 11)) (.op (some 82) (.len false (.t 81)) (.op (some 83) (.bin .geq (.t 80) (.t 82)) (.nil))))) (.t 83) (.nil))))))))))))
 (.cond (.t 84) (.seq (.ops (.op (some 8) (.mv (.c (.bool false))) (.nil)))
 (.ret)) (.skip)))
 (.seq (.ops (.op (some 85) (.mv (.t 10)) (.op (some 86) (.mv (.t 13)) (.op (some 87) (.iad 3 (.t 85) (.t 86)) (.op (some 88) (.load 3 true (.t 87)) (.op (some 17) (.alloc [.str [], .int .i64 0, .int .i64 0]) (.op none (.store 3 (.t 17) (.t 88)) (.nil))))))))
 (.seq (.ops (.op (some 89) (.mv (.t 11)) (.op (some 90) (.mv (.t 15)) (.op (some 91) (.iad 3 (.t 89) (.t 90)) (.op (some 92) (.load 3 true (.t 91)) (.op (some 18) (.alloc [.str [], .int .i64 0, .int .i64 0]) (.op none (.store 3 (.t 18) (.t 92)) (.nil))))))))
 (.seq (.ops (.op (some 93) (.mv (.t 9)) (.op (some 94) (.mv (.t 93)) (.sc 100 true 94 95 99 (.op (some 95) (.fad 2 (.t 18)) (.op (some 96) (.load 1 false (.t 95)) (.op (some 97) (.fad 2 (.t 17)) (.op (some 98) (.load 1 false (.t 97)) (.op (some 99) (.bin .geq (.t 96) (.t 98)) (.nil)))))) (.t 99) (.op (some 101) (.mv (.t 100)) (.sc 121 true 101 102 120 (.op (some 102) (.fad 0 (.t 17)) (.op (some 103) (.load 1 false (.t 102)) (.op (some 104) (.fad 0 (.t 18)) (.op (some 105) (.load 1 false (.t 104)) (.op (some 106) (.bin .eql (.t 103) (.t 105)) (.op (some 107) (.mv (.t 106)) (.sc 113 true 107 108 112 (.op (some 108) (.fad 1 (.t 17)) (.op (some 109) (.load 1 false (.t 108)) (.op (some 110) (.fad 1 (.t 18)) (.op (some 111) (.load 1 false (.t 110)) (.op (some 112) (.bin .eql (.t 109) (.t 111)) (.nil)))))) (.t 112) (.op (some 114) (.mv (.t 113)) (.sc 120 false 114 115 119 (.op (some 115) (.fad 2 (.t 18)) (.op (some 116) (.load 1 false (.t 115)) (.op (some 117) (.fad 2 (.t 17)) (.op (some 118) (.load 1 false (.t 117)) (.op (some 119) (.bin .gtr (.t 116) (.t 118)) (.nil)))))) (.t 119) (.nil)))))))))) (.t 120) (.op (some 8) (.mv (.t 121)) (.nil))))))))
 (.ret)))))))))))))

theorem ok7 : okF Try.prog 7 c7 = true := by kernel_rfl

/-- catacomb/catacomblaw18.ShardBack -/
def b8_1 : AC := .seq (.seq (.ops (.op (some 71) (.mv (.t 17)) (.op (some 72) (.mv (.t 12)) (.op (some 73) (.len false (.t 72)) (.op (some 74) (.bin .lss (.t 71) (.t 73)) (.nil))))))
 (.cond (.t 74) (.skip) (.exit 0)))
 (.seq (.block 1 (.seq (.ops (.op (some 77) (.mv (.t 15)) (.op (some 78) (.mv (.t 17)) (.op (some 79) (.iad 3 (.t 77) (.t 78)) (.op (some 80) (.fad 0 (.t 79)) (.op (some 81) (.load 1 false (.t 80)) (.op (some 82) (.mv (.t 12)) (.op (some 83) (.mv (.t 17)) (.op (some 84) (.iad 3 (.t 82) (.t 83)) (.op (some 85) (.fad 0 (.t 84)) (.op (some 86) (.load 1 false (.t 85)) (.op (some 87) (.bin .neq (.t 81) (.t 86)) (.op (some 88) (.mv (.t 87)) (.sc 100 false 88 89 99 (.op (some 89) (.mv (.t 15)) (.op (some 90) (.mv (.t 17)) (.op (some 91) (.iad 3 (.t 89) (.t 90)) (.op (some 92) (.fad 1 (.t 91)) (.op (some 93) (.load 1 false (.t 92)) (.op (some 94) (.mv (.t 12)) (.op (some 95) (.mv (.t 17)) (.op (some 96) (.iad 3 (.t 94) (.t 95)) (.op (some 97) (.fad 1 (.t 96)) (.op (some 98) (.load 1 false (.t 97)) (.op (some 99) (.bin .neq (.t 93) (.t 98)) (.nil)))))))))))) (.t 99) (.op (some 101) (.mv (.t 100)) (.sc 113 false 101 102 112 (.op (some 102) (.mv (.t 15)) (.op (some 103) (.mv (.t 17)) (.op (some 104) (.iad 3 (.t 102) (.t 103)) (.op (some 105) (.fad 2 (.t 104)) (.op (some 106) (.load 1 false (.t 105)) (.op (some 107) (.mv (.t 12)) (.op (some 108) (.mv (.t 17)) (.op (some 109) (.iad 3 (.t 107) (.t 108)) (.op (some 110) (.fad 2 (.t 109)) (.op (some 111) (.load 1 false (.t 110)) (.op (some 112) (.bin .lss (.t 106) (.t 111)) (.nil)))))))))))) (.t 112) (.nil)))))))))))))))))
 (.cond (.t 113) (.seq (.ops (.op (some 10) (.mv (.c (.bool false))) (.nil)))
 (.ret)) (.skip))))
 (.ops (.op (some 75) (.mv (.t 17)) (.op (some 76) (.bin .add (.t 75) (.c (.int .i64 1))) (.op (some 17) (.mv (.t 76)) (.nil))))))
def c8_1 : AC := b8_1
@[simp] theorem e8_1 {Γ : Tab} {V : Nat → Bool} {ρ : Type} (k : AX → St → Option ρ) (s : St) : eval Γ c8_1 V ρ k s = eval Γ b8_1 V ρ k s := rfl
def c8 : AF := AF.mk 137 [.t 10] (.seq (.ops (.op (some 10) (.mv (.c (.bool false))) (.nil)))
 (.seq (.ops (.op (some 22) (.call 10 []) (.op (some 11) (.mv (.t 22)) (.nil))))
 (.seq (.seq (.ops (.op (some 23) (.mv (.t 1)) (.op (some 24) (.call 11 [(.t 23)]) (.op (some 25) (.mv (.t 24)) (.sc 29 false 25 26 28 (.op (some 26) (.mv (.t 2)) (.op (some 27) (.len true (.t 26)) (.op (some 28) (.bin .gtr (.t 27) (.c (.int .i64 1000))) (.nil)))) (.t 28) (.op (some 30) (.mv (.t 29)) (.sc 34 false 30 31 33 (.op (some 31) (.mv (.t 4)) (.op (some 32) (.len true (.t 31)) (.op (some 33) (.bin .gtr (.t 32) (.c (.int .i64 1000))) (.nil)))) (.t 33) (.nil))))))))
 (.cond (.t 34) (.seq (.ops (.op (some 35) (.mv (.t 11)) (.op (some 10) (.mv (.t 35)) (.nil))))
 (.ret)) (.skip)))
 (.seq (.ops (.op (some 36) (.mv (.t 0)) (.op (some 37) (.mv (.t 1)) (.op (some 38) (.call 17 [(.t 36), (.t 37)]) (.op (some 12) (.mv (.t 38)) (.nil))))))
 (.seq (.ops (.op (some 40) (.mv (.t 12)) (.op (some 41) (.mv (.t 2)) (.op (some 42) (.mv (.t 3)) (.op (some 43) (.conv .i64 (.t 42)) (.op (some 44) (.bin .rem (.t 43) (.c (.int .i64 8))) (.op (some 45) (.call 27 [(.t 40), (.t 41), (.t 44)]) (.op (some 39) (.mv (.t 45)) (.op (some 46) (.ext (.t 39) 0) (.op (some 47) (.ext (.t 39) 1) (.op (some 13) (.mv (.t 46)) (.op (some 14) (.mv (.t 47)) (.nil)))))))))))))
 (.seq (.seq (.ops (.op (some 48) (.mv (.t 14)) (.op (some 49) (.bin .neq (.t 48) (.c (.int .i64 0))) (.nil))))
 (.cond (.t 49) (.seq (.ops (.op (some 50) (.mv (.t 11)) (.op (some 10) (.mv (.t 50)) (.nil))))
 (.ret)) (.skip)))
 (.seq (.ops (.op (some 52) (.mv (.t 13)) (.op (some 53) (.mv (.t 2)) (.op (some 54) (.call 28 [(.t 52), (.t 53)]) (.op (some 51) (.mv (.t 54)) (.op (some 55) (.ext (.t 51) 0) (.op (some 56) (.ext (.t 51) 1) (.op (some 15) (.mv (.t 55)) (.op (some 16) (.mv (.t 56)) (.nil))))))))))
 (.seq (.seq (.ops (.op (some 57) (.mv (.t 16)) (.op (some 58) (.bin .neq (.t 57) (.c (.int .i64 0))) (.op (some 59) (.mv (.t 58)) (.sc 65 false 59 60 64 (.op (some 60) (.mv (.t 15)) (.op (some 61) (.len false (.t 60)) (.op (some 62) (.mv (.t 12)) (.op (some 63) (.len false (.t 62)) (.op (some 64) (.bin .neq (.t 61) (.t 63)) (.nil)))))) (.t 64) (.nil))))))
 (.cond (.t 65) (.seq (.ops (.op (some 66) (.mv (.t 11)) (.op (some 67) (.mv (.t 66)) (.sc 70 true 67 68 69 (.op (some 68) (.mv (.t 16)) (.op (some 69) (.bin .eql (.t 68) (.c (.int .i64 76))) (.nil))) (.t 69) (.op (some 10) (.mv (.t 70)) (.nil))))))
 (.ret)) (.skip)))
 (.seq (.seq (.ops (.op (some 17) (.mv (.c (.int .i64 0))) (.nil)))
 (.block 0 (.loop [17] [(10, 10), (17, 17), (71, 113)] [] [(.exit 0, []), (.ret, [10])] c8_1)))
 (.seq (.ops (.op (some 115) (.mv (.t 15)) (.op (some 116) (.mv (.t 4)) (.op (some 117) (.call 20 [(.t 115), (.t 116)]) (.op (some 114) (.mv (.t 117)) (.op (some 118) (.ext (.t 114) 0) (.op (some 119) (.ext (.t 114) 1) (.op (some 18) (.mv (.t 118)) (.op (some 19) (.mv (.t 119)) (.nil))))))))))
 (.seq (.ops (.op (some 121) (.mv (.t 12)) (.op (some 122) (.mv (.t 4)) (.op (some 123) (.call 20 [(.t 121), (.t 122)]) (.op (some 120) (.mv (.t 123)) (.op (some 124) (.ext (.t 120) 0) (.op (some 125) (.ext (.t 120) 1) (.op (some 20) (.mv (.t 124)) (.op (some 21) (.mv (.t 125)) (.nil))))))))))
 (.seq (.ops (.op (some 126) (.mv (.t 11)) (.op (some 127) (.mv (.t 126)) (.sc 131 true 127 128 130 (.op (some 128) (.mv (.t 18)) (.op (some 129) (.mv (.t 20)) (.op (some 130) (.bin .eql (.t 128) (.t 129)) (.nil)))) (.t 130) (.op (some 132) (.mv (.t 131)) (.sc 136 true 132 133 135 (.op (some 133) (.mv (.t 19)) (.op (some 134) (.mv (.t 21)) (.op (some 135) (.bin .eql (.t 133) (.t 134)) (.nil)))) (.t 135) (.op (some 10) (.mv (.t 136)) (.nil))))))))
 (.ret)))))))))))))

theorem ok8 : okF Try.prog 8 c8 = true := by kernel_rfl

/-- catacomb/catacomblaw18.ShardBelow -/
def b9_1 : AC := .seq (.seq (.ops (.op (some 73) (.mv (.t 19)) (.op (some 74) (.mv (.t 13)) (.op (some 75) (.len false (.t 74)) (.op (some 76) (.bin .lss (.t 73) (.t 75)) (.nil))))))
 (.cond (.t 76) (.skip) (.exit 0)))
 (.seq (.block 1 (.seq (.seq (.ops (.op (some 79) (.mv (.t 13)) (.op (some 80) (.mv (.t 19)) (.op (some 81) (.iad 1 (.t 79) (.t 80)) (.op (some 82) (.load 1 false (.t 81)) (.op (some 83) (.bin .lss (.t 82) (.c (.int .i64 0))) (.op (some 84) (.mv (.t 83)) (.sc 92 false 84 85 91 (.op (some 85) (.mv (.t 13)) (.op (some 86) (.mv (.t 19)) (.op (some 87) (.iad 1 (.t 85) (.t 86)) (.op (some 88) (.load 1 false (.t 87)) (.op (some 89) (.mv (.t 10)) (.op (some 90) (.len false (.t 89)) (.op (some 91) (.bin .geq (.t 88) (.t 90)) (.nil)))))))) (.t 91) (.op (some 93) (.mv (.t 92)) (.sc 105 false 93 94 104 (.op (some 94) (.mv (.t 2)) (.op (some 95) (.mv (.t 10)) (.op (some 96) (.mv (.t 13)) (.op (some 97) (.mv (.t 19)) (.op (some 98) (.iad 1 (.t 96) (.t 97)) (.op (some 99) (.load 1 false (.t 98)) (.op (some 100) (.iad 3 (.t 95) (.t 99)) (.op (some 101) (.fad 0 (.t 100)) (.op (some 102) (.load 1 false (.t 101)) (.op (some 103) (.callp 26 [(.t 94), (.t 102)]) (.op (some 104) (.un .not (.t 103)) (.nil)))))))))))) (.t 104) (.op (some 106) (.mv (.t 105)) (.sc 121 false 106 107 120 (.op (some 107) (.mv (.t 19)) (.op (some 108) (.bin .gtr (.t 107) (.c (.int .i64 0))) (.op (some 109) (.mv (.t 108)) (.sc 120 true 109 110 119 (.op (some 110) (.mv (.t 13)) (.op (some 111) (.mv (.t 19)) (.op (some 112) (.iad 1 (.t 110) (.t 111)) (.op (some 113) (.load 1 false (.t 112)) (.op (some 114) (.mv (.t 13)) (.op (some 115) (.mv (.t 19)) (.op (some 116) (.bin .sub (.t 115) (.c (.int .i64 1))) (.op (some 117) (.iad 1 (.t 114) (.t 116)) (.op (some 118) (.load 1 false (.t 117)) (.op (some 119) (.bin .leq (.t 113) (.t 118)) (.nil))))))))))) (.t 119) (.nil))))) (.t 120) (.nil)))))))))))))
 (.cond (.t 121) (.seq (.ops (.op (some 8) (.mv (.c (.bool false))) (.nil)))
 (.ret)) (.skip)))
 (.ops (.op (some 122) (.mv (.t 18)) (.op (some 123) (.mv (.t 122)) (.sc 130 false 123 124 129 (.op (some 124) (.mv (.t 13)) (.op (some 125) (.mv (.t 19)) (.op (some 126) (.iad 1 (.t 124) (.t 125)) (.op (some 127) (.load 1 false (.t 126)) (.op (some 128) (.mv (.t 16)) (.op (some 129) (.bin .eql (.t 127) (.t 128)) (.nil))))))) (.t 129) (.op (some 18) (.mv (.t 130)) (.nil))))))))
 (.ops (.op (some 77) (.mv (.t 19)) (.op (some 78) (.bin .add (.t 77) (.c (.int .i64 1))) (.op (some 19) (.mv (.t 78)) (.nil))))))
def c9_1 : AC := b9_1
@[simp] theorem e9_1 {Γ : Tab} {V : Nat → Bool} {ρ : Type} (k : AX → St → Option ρ) (s : St) : eval Γ c9_1 V ρ k s = eval Γ b9_1 V ρ k s := rfl
def c9 : AF := AF.mk 135 [.t 8] (.seq (.ops (.op (some 8) (.mv (.c (.bool false))) (.nil)))
 (.seq (.ops (.op (some 20) (.call 10 []) (.op (some 9) (.mv (.t 20)) (.nil))))
 (.seq (.seq (.ops (.op (some 21) (.mv (.t 1)) (.op (some 22) (.call 11 [(.t 21)]) (.op (some 23) (.mv (.t 22)) (.sc 27 false 23 24 26 (.op (some 24) (.mv (.t 2)) (.op (some 25) (.len true (.t 24)) (.op (some 26) (.bin .gtr (.t 25) (.c (.int .i64 1000))) (.nil)))) (.t 26) (.op (some 28) (.mv (.t 27)) (.sc 32 false 28 29 31 (.op (some 29) (.mv (.t 3)) (.op (some 30) (.len true (.t 29)) (.op (some 31) (.bin .gtr (.t 30) (.c (.int .i64 1000))) (.nil)))) (.t 31) (.nil))))))))
 (.cond (.t 32) (.seq (.ops (.op (some 33) (.mv (.t 9)) (.op (some 8) (.mv (.t 33)) (.nil))))
 (.ret)) (.skip)))
 (.seq (.ops (.op (some 34) (.mv (.t 0)) (.op (some 35) (.mv (.t 1)) (.op (some 36) (.call 17 [(.t 34), (.t 35)]) (.op (some 10) (.mv (.t 36)) (.nil))))))
 (.seq (.ops (.op (some 38) (.mv (.t 10)) (.op (some 39) (.mv (.t 2)) (.op (some 40) (.call 20 [(.t 38), (.t 39)]) (.op (some 37) (.mv (.t 40)) (.op (some 41) (.ext (.t 37) 0) (.op (some 42) (.ext (.t 37) 1) (.op (some 11) (.mv (.t 41)) (.op (some 12) (.mv (.t 42)) (.nil))))))))))
 (.seq (.ops (.op (some 43) (.mv (.t 10)) (.op (some 44) (.mv (.t 2)) (.op (some 45) (.call 23 [(.t 43), (.t 44)]) (.op (some 13) (.mv (.t 45)) (.nil))))))
 (.seq (.ops (.op (some 47) (.mv (.t 3)) (.op (some 48) (.call 25 [(.t 47)]) (.op (some 46) (.mv (.t 48)) (.op (some 49) (.ext (.t 46) 0) (.op (some 50) (.ext (.t 46) 1) (.op (some 14) (.mv (.t 49)) (.op (some 15) (.mv (.t 50)) (.nil)))))))))
 (.seq (.seq (.ops (.op (some 51) (.mv (.t 12)) (.op (some 52) (.bin .neq (.t 51) (.c (.int .i64 0))) (.op (some 53) (.mv (.t 52)) (.sc 56 false 53 54 55 (.op (some 54) (.mv (.t 15)) (.op (some 55) (.bin .neq (.t 54) (.c (.int .i64 0))) (.nil))) (.t 55) (.op (some 57) (.mv (.t 56)) (.sc 62 false 57 58 61 (.op (some 58) (.mv (.t 2)) (.op (some 59) (.mv (.t 3)) (.op (some 60) (.call 26 [(.t 58), (.t 59)]) (.op (some 61) (.un .not (.t 60)) (.nil))))) (.t 61) (.nil))))))))
 (.cond (.t 62) (.seq (.ops (.op (some 63) (.mv (.t 9)) (.op (some 8) (.mv (.t 63)) (.nil))))
 (.ret)) (.skip)))
 (.seq (.ops (.op (some 65) (.mv (.t 10)) (.op (some 66) (.mv (.t 3)) (.op (some 67) (.call 20 [(.t 65), (.t 66)]) (.op (some 64) (.mv (.t 67)) (.op (some 68) (.ext (.t 64) 0) (.op (some 69) (.ext (.t 64) 1) (.op (some 16) (.mv (.t 68)) (.op (some 17) (.mv (.t 69)) (.nil))))))))))
 (.seq (.ops (.op (some 70) (.mv (.t 16)) (.op (some 71) (.mv (.t 11)) (.op (some 72) (.bin .eql (.t 70) (.t 71)) (.op (some 18) (.mv (.t 72)) (.nil))))))
 (.seq (.seq (.ops (.op (some 19) (.mv (.c (.int .i64 0))) (.nil)))
 (.block 0 (.loop [18, 19] [(8, 8), (18, 19), (73, 130)] [] [(.exit 0, [18]), (.ret, [8])] c9_1)))
 (.seq (.ops (.op (some 131) (.mv (.t 9)) (.op (some 132) (.mv (.t 131)) (.sc 134 true 132 133 133 (.op (some 133) (.mv (.t 18)) (.nil)) (.t 133) (.op (some 8) (.mv (.t 134)) (.nil))))))
 (.ret)))))))))))))

theorem ok9 : okF Try.prog 9 c9 = true := by kernel_rfl

/-- catacomb/catacomblaw18.head -/
def c10 : AF := AF.mk 122 [.t 0] (.seq (.ops (.op (some 0) (.mv (.c (.bool false))) (.nil)))
 (.seq (.ops (.op (some 18) (.call 15 [(.c (.int .i64 3))]) (.op (some 19) (.call 27 [(.t 18), (.c (.str [47, 97, 47, 98])), (.c (.int .i64 5))]) (.op (some 17) (.mv (.t 19)) (.op (some 20) (.ext (.t 17) 0) (.op (some 21) (.ext (.t 17) 1) (.op (some 1) (.mv (.t 20)) (.op (some 2) (.mv (.t 21)) (.nil)))))))))
 (.seq (.ops (.op (some 23) (.mv (.t 1)) (.op (some 24) (.call 29 [(.t 23), (.c (.str [47])), (.c (.int .i64 1))]) (.op (some 22) (.mv (.t 24)) (.op (some 25) (.ext (.t 22) 0) (.op (some 26) (.ext (.t 22) 1) (.op (some 3) (.mv (.t 25)) (.op (some 4) (.mv (.t 26)) (.nil)))))))))
 (.seq (.ops (.op (some 28) (.mv (.t 3)) (.op (some 29) (.call 28 [(.t 28), (.c (.str [47, 97, 47, 98]))]) (.op (some 27) (.mv (.t 29)) (.op (some 30) (.ext (.t 27) 0) (.op (some 31) (.ext (.t 27) 1) (.op (some 5) (.mv (.t 30)) (.op (some 6) (.mv (.t 31)) (.nil)))))))))
 (.seq (.ops (.op (some 33) (.mv (.t 3)) (.op (some 34) (.call 20 [(.t 33), (.c (.str [47, 97, 47, 98, 47, 99]))]) (.op (some 32) (.mv (.t 34)) (.op (some 35) (.ext (.t 32) 0) (.op (some 36) (.ext (.t 32) 1) (.op (some 7) (.mv (.t 35)) (.op (some 8) (.mv (.t 36)) (.nil)))))))))
 (.seq (.ops (.op (some 38) (.mv (.t 3)) (.op (some 39) (.call 20 [(.t 38), (.c (.str [47, 97]))]) (.op (some 37) (.mv (.t 39)) (.op (some 40) (.ext (.t 37) 0) (.op (some 41) (.ext (.t 37) 1) (.op (some 9) (.mv (.t 40)) (.op (some 10) (.mv (.t 41)) (.nil)))))))))
 (.seq (.ops (.op (some 43) (.mv (.t 3)) (.op (some 44) (.call 28 [(.t 43), (.c (.str [47]))]) (.op (some 42) (.mv (.t 44)) (.op (some 45) (.ext (.t 42) 0) (.op (some 46) (.ext (.t 42) 1) (.op (some 11) (.mv (.t 45)) (.op (some 12) (.mv (.t 46)) (.nil)))))))))
 (.seq (.ops (.op (some 48) (.mv (.t 3)) (.op (some 49) (.call 27 [(.t 48), (.c (.str [47, 97, 47, 98])), (.c (.int .i64 2))]) (.op (some 47) (.mv (.t 49)) (.op (some 50) (.ext (.t 47) 0) (.op (some 51) (.ext (.t 47) 1) (.op (some 13) (.mv (.t 50)) (.op (some 14) (.mv (.t 51)) (.nil)))))))))
 (.seq (.ops (.op (some 53) (.mv (.t 3)) (.op (some 54) (.call 20 [(.t 53), (.c (.str [97]))]) (.op (some 52) (.mv (.t 54)) (.op (some 55) (.ext (.t 52) 0) (.op (some 56) (.ext (.t 52) 1) (.op (some 15) (.mv (.t 55)) (.op (some 16) (.mv (.t 56)) (.nil)))))))))
 (.seq (.ops (.op (some 57) (.mv (.t 1)) (.op (some 58) (.build [.str [], .int .i64 0, .int .i64 0] [(0, 1, (.c (.str [47]))), (1, 1, (.c (.int .i64 3))), (2, 1, (.c (.int .i64 2)))]) (.op (some 59) (.build [.str [], .int .i64 0, .int .i64 0] [(0, 1, (.c (.str [47, 97, 47, 98]))), (1, 1, (.c (.int .i64 5))), (2, 1, (.c (.int .i64 2)))]) (.op (some 60) (.bslh 3 (.agg [.str [], .int .i64 0, .int .i64 0]) 2 [(0, (.t 58)), (1, (.t 59))]) (.op (some 61) (.call 14 [(.t 57), (.t 60)]) (.op (some 62) (.mv (.t 61)) (.sc 65 true 62 63 64 (.op (some 63) (.mv (.t 2)) (.op (some 64) (.bin .eql (.t 63) (.c (.int .i64 0))) (.nil))) (.t 64) (.op (some 66) (.mv (.t 65)) (.sc 69 true 66 67 68 (.op (some 67) (.mv (.t 4)) (.op (some 68) (.bin .eql (.t 67) (.c (.int .i64 0))) (.nil))) (.t 68) (.op (some 70) (.mv (.t 69)) (.sc 75 true 70 71 74 (.op (some 71) (.mv (.t 5)) (.op (some 72) (.build [.str [], .int .i64 0, .int .i64 0] [(0, 1, (.c (.str [47]))), (1, 1, (.c (.int .i64 1))), (2, 1, (.c (.int .i64 4)))]) (.op (some 73) (.bslh 3 (.agg [.str [], .int .i64 0, .int .i64 0]) 1 [(0, (.t 72))]) (.op (some 74) (.call 14 [(.t 71), (.t 73)]) (.nil))))) (.t 74) (.op (some 76) (.mv (.t 75)) (.sc 79 true 76 77 78 (.op (some 77) (.mv (.t 6)) (.op (some 78) (.bin .eql (.t 77) (.c (.int .i64 0))) (.nil))) (.t 78) (.op (some 80) (.mv (.t 79)) (.sc 83 true 80 81 82 (.op (some 81) (.mv (.t 7)) (.op (some 82) (.bin .eql (.t 81) (.c (.int .i64 1))) (.nil))) (.t 82) (.op (some 84) (.mv (.t 83)) (.sc 87 true 84 85 86 (.op (some 85) (.mv (.t 8)) (.op (some 86) (.bin .eql (.t 85) (.c (.int .i64 0))) (.nil))) (.t 86) (.op (some 88) (.mv (.t 87)) (.sc 91 true 88 89 90 (.op (some 89) (.mv (.t 9)) (.op (some 90) (.bin .eql (.t 89) (.c (.int .i64 0))) (.nil))) (.t 90) (.op (some 92) (.mv (.t 91)) (.sc 95 true 92 93 94 (.op (some 93) (.mv (.t 10)) (.op (some 94) (.bin .eql (.t 93) (.c (.int .i64 0))) (.nil))) (.t 94) (.op (some 96) (.mv (.t 95)) (.sc 99 true 96 97 98 (.op (some 97) (.mv (.t 12)) (.op (some 98) (.bin .eql (.t 97) (.c (.int .i64 180))) (.nil))) (.t 98) (.op (some 100) (.mv (.t 99)) (.sc 103 true 100 101 102 (.op (some 101) (.mv (.t 14)) (.op (some 102) (.bin .eql (.t 101) (.c (.int .i64 71))) (.nil))) (.t 102) (.op (some 104) (.mv (.t 103)) (.sc 107 true 104 105 106 (.op (some 105) (.mv (.t 16)) (.op (some 106) (.bin .eql (.t 105) (.c (.int .i64 60))) (.nil))) (.t 106) (.op (some 108) (.mv (.t 107)) (.sc 111 true 108 109 110 (.op (some 109) (.mv (.t 3)) (.op (some 110) (.call 12 [(.t 109)]) (.nil))) (.t 110) (.op (some 112) (.mv (.t 111)) (.sc 115 true 112 113 114 (.op (some 113) (.call 12 [(.c (.lst true []))]) (.op (some 114) (.un .not (.t 113)) (.nil))) (.t 114) (.op (some 116) (.mv (.t 115)) (.sc 121 true 116 117 120 (.op (some 117) (.mv (.t 3)) (.op (some 118) (.call 23 [(.t 117), (.c (.str [47, 97]))]) (.op (some 119) (.bslh 1 (.int .i64 0) 1 [(0, (.c (.int .i64 1)))]) (.op (some 120) (.call 22 [(.t 118), (.t 119)]) (.nil))))) (.t 120) (.op (some 0) (.mv (.t 121)) (.nil))))))))))))))))))))))))))))))))))))
 (.ret)))))))))))

theorem ok10 : okF Try.prog 10 c10 = true := by kernel_rfl

/-- catacomb/catacomblaw18.Great -/
def b11_1 : AC := .seq (.seq (.ops (.op (some 7) (.mv (.t 3)) (.op (some 8) (.mv (.t 0)) (.op (some 9) (.len false (.t 8)) (.op (some 10) (.bin .lss (.t 7) (.t 9)) (.nil))))))
 (.cond (.t 10) (.skip) (.exit 0)))
 (.seq (.block 1 (.seq (.ops (.op (some 13) (.mv (.t 0)) (.op (some 14) (.mv (.t 3)) (.op (some 15) (.iad 3 (.t 13) (.t 14)) (.op (some 16) (.fad 1 (.t 15)) (.op (some 17) (.load 1 false (.t 16)) (.op (some 18) (.len true (.t 17)) (.op (some 19) (.bin .gtr (.t 18) (.c (.int .i64 1000))) (.nil)))))))))
 (.cond (.t 19) (.seq (.ops (.op (some 2) (.mv (.c (.bool true))) (.nil)))
 (.ret)) (.skip))))
 (.ops (.op (some 11) (.mv (.t 3)) (.op (some 12) (.bin .add (.t 11) (.c (.int .i64 1))) (.op (some 3) (.mv (.t 12)) (.nil))))))
def c11_1 : AC := b11_1
@[simp] theorem e11_1 {Γ : Tab} {V : Nat → Bool} {ρ : Type} (k : AX → St → Option ρ) (s : St) : eval Γ c11_1 V ρ k s = eval Γ b11_1 V ρ k s := rfl
def c11 : AF := AF.mk 20 [.t 2] (.seq (.ops (.op (some 2) (.mv (.c (.bool false))) (.nil)))
 (.seq (.seq (.ops (.op (some 4) (.mv (.t 0)) (.op (some 5) (.len false (.t 4)) (.op (some 6) (.bin .gtr (.t 5) (.c (.int .i64 60))) (.nil)))))
 (.cond (.t 6) (.seq (.ops (.op (some 2) (.mv (.c (.bool true))) (.nil)))
 (.ret)) (.skip)))
 (.seq (.seq (.ops (.op (some 3) (.mv (.c (.int .i64 0))) (.nil)))
 (.block 0 (.loop [3] [(2, 3), (7, 19)] [] [(.exit 0, []), (.ret, [2])] c11_1)))
 (.seq (.ops (.op (some 2) (.mv (.c (.bool false))) (.nil)))
 (.ret)))))

theorem ok11 : okF Try.prog 11 c11 = true := by kernel_rfl

/-- catacomb/shard.Right -/
def c12 : AF := AF.mk 40 [.t 2] (.seq (.ops (.op (some 2) (.mv (.c (.bool false))) (.nil)))
 (.seq (.seq (.ops (.op (some 6) (.mv (.t 0)) (.op (some 7) (.len false (.t 6)) (.op (some 8) (.bin .eql (.t 7) (.c (.int .i64 0))) (.op (some 9) (.mv (.t 8)) (.sc 13 false 9 10 12 (.op (some 10) (.mv (.t 0)) (.op (some 11) (.len false (.t 10)) (.op (some 12) (.bin .gtr (.t 11) (.c (.int .i64 16))) (.nil)))) (.t 12) (.op (some 14) (.mv (.t 13)) (.sc 20 false 14 15 19 (.op (some 15) (.mv (.t 0)) (.op (some 16) (.iad 3 (.t 15) (.c (.int .i64 0))) (.op (some 17) (.fad 0 (.t 16)) (.op (some 18) (.load 1 false (.t 17)) (.op (some 19) (.bin .neq (.t 18) (.c (.str [47]))) (.nil)))))) (.t 19) (.nil)))))))))
 (.cond (.t 20) (.seq (.ops (.op (some 2) (.mv (.c (.bool false))) (.nil)))
 (.ret)) (.skip)))
 (.seq (.ops (.op (some 3) (.mv (.c (.fn (.func 30) [] []))) (.nil)))
 (.seq (.ops (.op (some 4) (.mv (.c (.fn (.func 32) [] []))) (.nil)))
 (.seq (.ops (.op (some 5) (.mv (.c (.fn (.func 35) [] []))) (.nil)))
 (.seq (.ops (.op (some 21) (.mv (.t 0)) (.op (some 22) (.mv (.t 3)) (.op (some 23) (.call 36 [(.t 21), (.t 22)]) (.op (some 24) (.mv (.t 23)) (.sc 29 true 24 25 28 (.op (some 25) (.mv (.t 0)) (.op (some 26) (.mv (.t 4)) (.op (some 27) (.call 37 [(.t 25), (.t 26)]) (.op (some 28) (.un .not (.t 27)) (.nil))))) (.t 28) (.op (some 30) (.mv (.t 29)) (.sc 39 true 30 31 38 (.op (some 31) (.mv (.t 0)) (.op (some 32) (.call 39 [(.t 31)]) (.op (some 33) (.mv (.t 5)) (.op (some 34) (.call 38 [(.t 32), (.t 33)]) (.op (some 35) (.len false (.t 34)) (.op (some 36) (.mv (.t 0)) (.op (some 37) (.len false (.t 36)) (.op (some 38) (.bin .eql (.t 35) (.t 37)) (.nil))))))))) (.t 38) (.op (some 2) (.mv (.t 39)) (.nil))))))))))
 (.ret)))))))

theorem ok12 : okF Try.prog 12 c12 = true := by kernel_rfl

/-- catacomb/catacombref18.Right -/
def b13_1 : AC := .seq (.seq (.ops (.op (some 21) (.mv (.t 3)) (.op (some 22) (.mv (.t 0)) (.op (some 23) (.len false (.t 22)) (.op (some 24) (.bin .lss (.t 21) (.t 23)) (.nil))))))
 (.cond (.t 24) (.skip) (.exit 0)))
 (.seq (.block 1 (.seq (.ops (.op (some 28) (.mv (.t 0)) (.op (some 29) (.mv (.t 3)) (.op (some 30) (.iad 3 (.t 28) (.t 29)) (.op (some 31) (.fad 0 (.t 30)) (.op (some 32) (.load 1 false (.t 31)) (.op (some 33) (.call 25 [(.t 32)]) (.op (some 27) (.mv (.t 33)) (.op (some 34) (.ext (.t 27) 0) (.op (some 35) (.ext (.t 27) 1) (.op (some 4) (.mv (.t 34)) (.op (some 5) (.mv (.t 35)) (.nil)))))))))))))
 (.seq (.ops (.op (some 36) (.mv (.t 5)) (.op (some 37) (.bin .neq (.t 36) (.c (.int .i64 0))) (.op (some 38) (.mv (.t 37)) (.sc 45 false 38 39 44 (.op (some 39) (.mv (.t 0)) (.op (some 40) (.mv (.t 3)) (.op (some 41) (.iad 3 (.t 39) (.t 40)) (.op (some 42) (.fad 1 (.t 41)) (.op (some 43) (.load 1 false (.t 42)) (.op (some 44) (.bin .lss (.t 43) (.c (.int .i64 0))) (.nil))))))) (.t 44) (.op (some 46) (.mv (.t 45)) (.sc 53 false 46 47 52 (.op (some 47) (.mv (.t 0)) (.op (some 48) (.mv (.t 3)) (.op (some 49) (.iad 3 (.t 47) (.t 48)) (.op (some 50) (.fad 1 (.t 49)) (.op (some 51) (.load 1 false (.t 50)) (.op (some 52) (.bin .geq (.t 51) (.c (.int .i64 8))) (.nil))))))) (.t 52) (.op (some 54) (.mv (.t 53)) (.sc 61 false 54 55 60 (.op (some 55) (.mv (.t 0)) (.op (some 56) (.mv (.t 3)) (.op (some 57) (.iad 3 (.t 55) (.t 56)) (.op (some 58) (.fad 2 (.t 57)) (.op (some 59) (.load 1 false (.t 58)) (.op (some 60) (.bin .lss (.t 59) (.c (.int .i64 1))) (.nil))))))) (.t 60) (.op (some 62) (.mv (.t 61)) (.sc 69 false 62 63 68 (.op (some 63) (.mv (.t 0)) (.op (some 64) (.mv (.t 3)) (.op (some 65) (.iad 3 (.t 63) (.t 64)) (.op (some 66) (.fad 2 (.t 65)) (.op (some 67) (.load 1 false (.t 66)) (.op (some 68) (.bin .gtr (.t 67) (.c (.int .i64 1099511627776))) (.nil))))))) (.t 68) (.op (some 70) (.mv (.t 69)) (.sc 87 false 70 71 86 (.op (some 71) (.mv (.t 3)) (.op (some 72) (.bin .gtr (.t 71) (.c (.int .i64 0))) (.op (some 73) (.mv (.t 72)) (.sc 86 true 73 74 85 (.op (some 74) (.mv (.t 0)) (.op (some 75) (.mv (.t 3)) (.op (some 76) (.iad 3 (.t 74) (.t 75)) (.op (some 77) (.fad 0 (.t 76)) (.op (some 78) (.load 1 false (.t 77)) (.op (some 79) (.mv (.t 0)) (.op (some 80) (.mv (.t 3)) (.op (some 81) (.bin .sub (.t 80) (.c (.int .i64 1))) (.op (some 82) (.iad 3 (.t 79) (.t 81)) (.op (some 83) (.fad 0 (.t 82)) (.op (some 84) (.load 1 false (.t 83)) (.op (some 85) (.bin .leq (.t 78) (.t 84)) (.nil))))))))))))) (.t 85) (.nil))))) (.t 86) (.nil))))))))))))))
 (.cond (.t 87) (.seq (.ops (.op (some 2) (.mv (.c (.bool false))) (.nil)))
 (.ret)) (.skip)))))
 (.ops (.op (some 25) (.mv (.t 3)) (.op (some 26) (.bin .add (.t 25) (.c (.int .i64 1))) (.op (some 3) (.mv (.t 26)) (.nil))))))
def c13_1 : AC := b13_1
@[simp] theorem e13_1 {Γ : Tab} {V : Nat → Bool} {ρ : Type} (k : AX → St → Option ρ) (s : St) : eval Γ c13_1 V ρ k s = eval Γ b13_1 V ρ k s := rfl
def c13 : AF := AF.mk 88 [.t 2] (.seq (.ops (.op (some 2) (.mv (.c (.bool false))) (.nil)))
 (.seq (.seq (.ops (.op (some 6) (.mv (.t 0)) (.op (some 7) (.len false (.t 6)) (.op (some 8) (.bin .lss (.t 7) (.c (.int .i64 1))) (.op (some 9) (.mv (.t 8)) (.sc 13 false 9 10 12 (.op (some 10) (.mv (.t 0)) (.op (some 11) (.len false (.t 10)) (.op (some 12) (.bin .gtr (.t 11) (.c (.int .i64 16))) (.nil)))) (.t 12) (.op (some 14) (.mv (.t 13)) (.sc 20 false 14 15 19 (.op (some 15) (.mv (.t 0)) (.op (some 16) (.iad 3 (.t 15) (.c (.int .i64 0))) (.op (some 17) (.fad 0 (.t 16)) (.op (some 18) (.load 1 false (.t 17)) (.op (some 19) (.bin .neq (.t 18) (.c (.str [47]))) (.nil)))))) (.t 19) (.nil)))))))))
 (.cond (.t 20) (.seq (.ops (.op (some 2) (.mv (.c (.bool false))) (.nil)))
 (.ret)) (.skip)))
 (.seq (.seq (.ops (.op (some 3) (.mv (.c (.int .i64 0))) (.nil)))
 (.block 0 (.loop [3] [(2, 5), (21, 87)] [] [(.exit 0, []), (.ret, [2])] c13_1)))
 (.seq (.ops (.op (some 2) (.mv (.c (.bool true))) (.nil)))
 (.ret)))))

theorem ok13 : okF Try.prog 13 c13 = true := by kernel_rfl

/-- catacomb/catacombref18.Same -/
def b14_1 : AC := .seq (.seq (.ops (.op (some 11) (.mv (.t 5)) (.op (some 12) (.mv (.t 0)) (.op (some 13) (.len false (.t 12)) (.op (some 14) (.bin .lss (.t 11) (.t 13)) (.nil))))))
 (.cond (.t 14) (.skip) (.exit 0)))
 (.seq (.block 1 (.seq (.ops (.op (some 17) (.mv (.t 0)) (.op (some 18) (.mv (.t 5)) (.op (some 19) (.iad 3 (.t 17) (.t 18)) (.op (some 20) (.load 3 true (.t 19)) (.op (some 21) (.mv (.t 1)) (.op (some 22) (.mv (.t 5)) (.op (some 23) (.iad 3 (.t 21) (.t 22)) (.op (some 24) (.load 3 true (.t 23)) (.op (some 25) (.seq true [1, 0, 0] (.t 20) (.t 24)) (.nil)))))))))))
 (.cond (.t 25) (.seq (.ops (.op (some 4) (.mv (.c (.bool false))) (.nil)))
 (.ret)) (.skip))))
 (.ops (.op (some 15) (.mv (.t 5)) (.op (some 16) (.bin .add (.t 15) (.c (.int .i64 1))) (.op (some 5) (.mv (.t 16)) (.nil))))))
def c14_1 : AC := b14_1
@[simp] theorem e14_1 {Γ : Tab} {V : Nat → Bool} {ρ : Type} (k : AX → St → Option ρ) (s : St) : eval Γ c14_1 V ρ k s = eval Γ b14_1 V ρ k s := rfl
def c14 : AF := AF.mk 26 [.t 4] (.seq (.ops (.op (some 4) (.mv (.c (.bool false))) (.nil)))
 (.seq (.seq (.ops (.op (some 6) (.mv (.t 0)) (.op (some 7) (.len false (.t 6)) (.op (some 8) (.mv (.t 1)) (.op (some 9) (.len false (.t 8)) (.op (some 10) (.bin .neq (.t 7) (.t 9)) (.nil)))))))
 (.cond (.t 10) (.seq (.ops (.op (some 4) (.mv (.c (.bool false))) (.nil)))
 (.ret)) (.skip)))
 (.seq (.seq (.ops (.op (some 5) (.mv (.c (.int .i64 0))) (.nil)))
 (.block 0 (.loop [5] [(4, 5), (11, 25)] [] [(.exit 0, []), (.ret, [4])] c14_1)))
 (.seq (.ops (.op (some 4) (.mv (.c (.bool true))) (.nil)))
 (.ret)))))

theorem ok14 : okF Try.prog 14 c14 = true := by kernel_rfl

/-- catacomb/shard.New -/
def c15 : AF := AF.mk 6 [.t 2] (.seq (.ops (.op (some 2) (.mv (.c (.lst true []))) (.nil)))
 (.seq (.ops (.op (some 3) (.mv (.t 0)) (.op (some 4) (.build [.str [], .int .i64 0, .int .i64 0] [(0, 1, (.c (.str [47]))), (1, 1, (.t 3)), (2, 1, (.c (.int .i64 1)))]) (.op (some 5) (.bslh 3 (.agg [.str [], .int .i64 0, .int .i64 0]) 1 [(0, (.t 4))]) (.op (some 2) (.mv (.t 5)) (.nil))))))
 (.ret)))

theorem ok15 : okF Try.prog 15 c15 = true := by kernel_rfl

/-- catacomb/catacombref18.New -/
def c16 : AF := AF.mk 6 [.t 2] (.seq (.ops (.op (some 2) (.mv (.c (.lst true []))) (.nil)))
 (.seq (.ops (.op (some 3) (.mv (.t 0)) (.op (some 4) (.build [.str [], .int .i64 0, .int .i64 0] [(0, 1, (.c (.str [47]))), (1, 1, (.t 3)), (2, 1, (.c (.int .i64 1)))]) (.op (some 5) (.bslh 3 (.agg [.str [], .int .i64 0, .int .i64 0]) 1 [(0, (.t 4))]) (.op (some 2) (.mv (.t 5)) (.nil))))))
 (.ret)))

theorem ok16 : okF Try.prog 16 c16 = true := by kernel_rfl

/-- catacomb/catacomblaw18.Made -/
def b17_1 : AC := .seq (.seq (.ops (.op (some 13) (.mv (.t 6)) (.op (some 14) (.mv (.t 1)) (.op (some 15) (.len false (.t 14)) (.op (some 16) (.bin .lss (.t 13) (.t 15)) (.nil))))))
 (.cond (.t 16) (.skip) (.exit 0)))
 (.seq (.block 1 (.seq (.ops (.op (some 20) (.mv (.t 5)) (.op (some 21) (.mv (.t 1)) (.op (some 22) (.mv (.t 6)) (.op (some 23) (.iad 3 (.t 21) (.t 22)) (.op (some 24) (.load 3 true (.t 23)) (.op (some 25) (.call 19 [(.t 20), (.t 24)]) (.op (some 19) (.mv (.t 25)) (.op (some 26) (.ext (.t 19) 0) (.op (some 27) (.ext (.t 19) 1) (.op (some 7) (.mv (.t 26)) (.op (some 8) (.mv (.t 27)) (.nil)))))))))))))
 (.ops (.op (some 28) (.mv (.t 7)) (.op (some 5) (.mv (.t 28)) (.nil))))))
 (.ops (.op (some 17) (.mv (.t 6)) (.op (some 18) (.bin .add (.t 17) (.c (.int .i64 1))) (.op (some 6) (.mv (.t 18)) (.nil))))))
def c17_1 : AC := b17_1
@[simp] theorem e17_1 {Γ : Tab} {V : Nat → Bool} {ρ : Type} (k : AX → St → Option ρ) (s : St) : eval Γ c17_1 V ρ k s = eval Γ b17_1 V ρ k s := rfl
def c17 : AF := AF.mk 30 [.t 4] (.seq (.ops (.op (some 4) (.mv (.c (.lst true []))) (.nil)))
 (.seq (.ops (.op (some 9) (.mv (.t 0)) (.op (some 10) (.conv .i64 (.t 9)) (.op (some 11) (.bin .rem (.t 10) (.c (.int .i64 8))) (.op (some 12) (.call 16 [(.t 11)]) (.op (some 5) (.mv (.t 12)) (.nil)))))))
 (.seq (.seq (.ops (.op (some 6) (.mv (.c (.int .i64 0))) (.nil)))
 (.block 0 (.loop [5, 6] [(5, 8), (13, 28)] [] [(.exit 0, [5])] c17_1)))
 (.seq (.ops (.op (some 29) (.mv (.t 5)) (.op (some 4) (.mv (.t 29)) (.nil))))
 (.ret)))))

theorem ok17 : okF Try.prog 17 c17 = true := by kernel_rfl

/-- catacomb/catacomblaw18.own -/
def c18 : AF := AF.mk 51 [.t 4, .t 5] (.seq (.ops (.op (some 3) (.box (.t 1)) (.op (some 4) (.mv (.c (.lst true []))) (.op (some 5) (.mv (.c (.int .i64 0))) (.nil)))))
 (.seq (.seq (.ops (.op (some 12) (.fad 0 (.t 3)) (.op (some 13) (.load 1 false (.t 12)) (.op (some 14) (.bin .rem (.t 13) (.c (.int .u8 4))) (.nil)))))
 (.block 0 (.seq (.seq (.ops (.op (some 16) (.bin .eql (.t 14) (.c (.int .u8 0))) (.op (some 15) (.mv (.t 16)) (.nil))))
 (.cond (.t 15) (.skip) (.ops (.op (some 17) (.bin .eql (.t 14) (.c (.int .u8 1))) (.op (some 15) (.mv (.t 17)) (.nil))))))
 (.cond (.t 15) (.seq (.ops (.op (some 19) (.mv (.t 0)) (.op (some 20) (.fad 1 (.t 3)) (.op (some 21) (.load 1 false (.t 20)) (.op (some 22) (.fad 2 (.t 3)) (.op (some 23) (.load 1 false (.t 22)) (.op (some 24) (.call 27 [(.t 19), (.t 21), (.t 23)]) (.op (some 18) (.mv (.t 24)) (.op (some 25) (.ext (.t 18) 0) (.op (some 26) (.ext (.t 18) 1) (.op (some 6) (.mv (.t 25)) (.op (some 7) (.mv (.t 26)) (.nil)))))))))))))
 (.seq (.ops (.op (some 27) (.mv (.t 6)) (.op (some 28) (.mv (.t 7)) (.op (some 4) (.mv (.t 27)) (.op (some 5) (.mv (.t 28)) (.nil))))))
 (.ret))) (.seq (.ops (.op (some 30) (.bin .eql (.t 14) (.c (.int .u8 2))) (.op (some 29) (.mv (.t 30)) (.nil))))
 (.cond (.t 29) (.seq (.ops (.op (some 32) (.mv (.t 0)) (.op (some 33) (.fad 1 (.t 3)) (.op (some 34) (.load 1 false (.t 33)) (.op (some 35) (.call 28 [(.t 32), (.t 34)]) (.op (some 31) (.mv (.t 35)) (.op (some 36) (.ext (.t 31) 0) (.op (some 37) (.ext (.t 31) 1) (.op (some 8) (.mv (.t 36)) (.op (some 9) (.mv (.t 37)) (.nil)))))))))))
 (.seq (.ops (.op (some 38) (.mv (.t 8)) (.op (some 39) (.mv (.t 9)) (.op (some 4) (.mv (.t 38)) (.op (some 5) (.mv (.t 39)) (.nil))))))
 (.ret))) (.skip)))))))
 (.seq (.ops (.op (some 41) (.mv (.t 0)) (.op (some 42) (.fad 1 (.t 3)) (.op (some 43) (.load 1 false (.t 42)) (.op (some 44) (.fad 2 (.t 3)) (.op (some 45) (.load 1 false (.t 44)) (.op (some 46) (.call 29 [(.t 41), (.t 43), (.t 45)]) (.op (some 40) (.mv (.t 46)) (.op (some 47) (.ext (.t 40) 0) (.op (some 48) (.ext (.t 40) 1) (.op (some 10) (.mv (.t 47)) (.op (some 11) (.mv (.t 48)) (.nil)))))))))))))
 (.seq (.ops (.op (some 49) (.mv (.t 10)) (.op (some 50) (.mv (.t 11)) (.op (some 4) (.mv (.t 49)) (.op (some 5) (.mv (.t 50)) (.nil))))))
 (.ret)))))

theorem ok18 : okF Try.prog 18 c18 = true := by kernel_rfl

/-- catacomb/catacomblaw18.Done -/
def c19 : AF := AF.mk 51 [.t 4, .t 5] (.seq (.ops (.op (some 3) (.box (.t 1)) (.op (some 4) (.mv (.c (.lst true []))) (.op (some 5) (.mv (.c (.int .i64 0))) (.nil)))))
 (.seq (.seq (.ops (.op (some 12) (.fad 0 (.t 3)) (.op (some 13) (.load 1 false (.t 12)) (.op (some 14) (.bin .rem (.t 13) (.c (.int .u8 4))) (.nil)))))
 (.block 0 (.seq (.seq (.ops (.op (some 16) (.bin .eql (.t 14) (.c (.int .u8 0))) (.op (some 15) (.mv (.t 16)) (.nil))))
 (.cond (.t 15) (.skip) (.ops (.op (some 17) (.bin .eql (.t 14) (.c (.int .u8 1))) (.op (some 15) (.mv (.t 17)) (.nil))))))
 (.cond (.t 15) (.seq (.ops (.op (some 19) (.mv (.t 0)) (.op (some 20) (.fad 1 (.t 3)) (.op (some 21) (.load 1 false (.t 20)) (.op (some 22) (.fad 2 (.t 3)) (.op (some 23) (.load 1 false (.t 22)) (.op (some 24) (.call 40 [(.t 19), (.t 21), (.t 23)]) (.op (some 18) (.mv (.t 24)) (.op (some 25) (.ext (.t 18) 0) (.op (some 26) (.ext (.t 18) 1) (.op (some 6) (.mv (.t 25)) (.op (some 7) (.mv (.t 26)) (.nil)))))))))))))
 (.seq (.ops (.op (some 27) (.mv (.t 6)) (.op (some 28) (.mv (.t 7)) (.op (some 4) (.mv (.t 27)) (.op (some 5) (.mv (.t 28)) (.nil))))))
 (.ret))) (.seq (.ops (.op (some 30) (.bin .eql (.t 14) (.c (.int .u8 2))) (.op (some 29) (.mv (.t 30)) (.nil))))
 (.cond (.t 29) (.seq (.ops (.op (some 32) (.mv (.t 0)) (.op (some 33) (.fad 1 (.t 3)) (.op (some 34) (.load 1 false (.t 33)) (.op (some 35) (.call 41 [(.t 32), (.t 34)]) (.op (some 31) (.mv (.t 35)) (.op (some 36) (.ext (.t 31) 0) (.op (some 37) (.ext (.t 31) 1) (.op (some 8) (.mv (.t 36)) (.op (some 9) (.mv (.t 37)) (.nil)))))))))))
 (.seq (.ops (.op (some 38) (.mv (.t 8)) (.op (some 39) (.mv (.t 9)) (.op (some 4) (.mv (.t 38)) (.op (some 5) (.mv (.t 39)) (.nil))))))
 (.ret))) (.skip)))))))
 (.seq (.ops (.op (some 41) (.mv (.t 0)) (.op (some 42) (.fad 1 (.t 3)) (.op (some 43) (.load 1 false (.t 42)) (.op (some 44) (.fad 2 (.t 3)) (.op (some 45) (.load 1 false (.t 44)) (.op (some 46) (.call 42 [(.t 41), (.t 43), (.t 45)]) (.op (some 40) (.mv (.t 46)) (.op (some 47) (.ext (.t 40) 0) (.op (some 48) (.ext (.t 40) 1) (.op (some 10) (.mv (.t 47)) (.op (some 11) (.mv (.t 48)) (.nil)))))))))))))
 (.seq (.ops (.op (some 49) (.mv (.t 10)) (.op (some 50) (.mv (.t 11)) (.op (some 4) (.mv (.t 49)) (.op (some 5) (.mv (.t 50)) (.nil))))))
 (.ret)))))

theorem ok19 : okF Try.prog 19 c19 = true := by kernel_rfl

/-- catacomb/shard.Of -/
def c20 : AF := AF.mk 22 [.t 4, .t 5] (.seq (.ops (.op (some 3) (.box (.t 1)) (.op (some 4) (.mv (.c (.int .i64 0))) (.op (some 5) (.mv (.c (.int .i64 0))) (.nil)))))
 (.seq (.seq (.ops (.op (some 8) (.load 1 false (.t 3)) (.op (some 9) (.call 33 [(.t 8)]) (.op (some 6) (.mv (.t 9)) (.nil)))))
 (.seq (.ops (.op (some 10) (.mv (.t 6)) (.op (some 11) (.bin .neq (.t 10) (.c (.int .i64 0))) (.nil))))
 (.cond (.t 11) (.seq (.ops (.op (some 12) (.mv (.t 6)) (.op (some 4) (.mv (.c (.int .i64 0))) (.op (some 5) (.mv (.t 12)) (.nil)))))
 (.ret)) (.skip))))
 (.seq (.ops (.op (some 13) (.mv (.t 0)) (.op (some 14) (.mkf (.func 44) [] [(.t 3)]) (.op (some 15) (.call 43 [(.t 13), (.t 14)]) (.op (some 7) (.mv (.t 15)) (.nil))))))
 (.seq (.ops (.op (some 16) (.mv (.t 7)) (.op (some 17) (.mv (.t 7)) (.op (some 18) (.len false (.t 17)) (.op (some 19) (.bin .sub (.t 18) (.c (.int .i64 1))) (.op (some 20) (.iad 1 (.t 16) (.t 19)) (.op (some 21) (.load 1 false (.t 20)) (.op (some 4) (.mv (.t 21)) (.op (some 5) (.mv (.c (.int .i64 0))) (.nil))))))))))
 (.ret)))))

theorem ok20 : okF Try.prog 20 c20 = true := by kernel_rfl

/-- catacomb/catacombref18.Of -/
def b21_1 : AC := .seq (.seq (.ops (.op (some 17) (.mv (.t 9)) (.op (some 18) (.mv (.t 0)) (.op (some 19) (.len false (.t 18)) (.op (some 20) (.bin .lss (.t 17) (.t 19)) (.nil))))))
 (.cond (.t 20) (.skip) (.exit 0)))
 (.seq (.block 1 (.seq (.ops (.op (some 23) (.mv (.t 0)) (.op (some 24) (.mv (.t 9)) (.op (some 25) (.iad 3 (.t 23) (.t 24)) (.op (some 26) (.fad 0 (.t 25)) (.op (some 27) (.load 1 false (.t 26)) (.op (some 28) (.mv (.t 1)) (.op (some 29) (.callp 26 [(.t 27), (.t 28)]) (.op (some 30) (.mv (.t 29)) (.sc 44 true 30 31 43 (.op (some 31) (.mv (.t 0)) (.op (some 32) (.mv (.t 9)) (.op (some 33) (.iad 3 (.t 31) (.t 32)) (.op (some 34) (.fad 0 (.t 33)) (.op (some 35) (.load 1 false (.t 34)) (.op (some 36) (.len true (.t 35)) (.op (some 37) (.mv (.t 0)) (.op (some 38) (.mv (.t 8)) (.op (some 39) (.iad 3 (.t 37) (.t 38)) (.op (some 40) (.fad 0 (.t 39)) (.op (some 41) (.load 1 false (.t 40)) (.op (some 42) (.len true (.t 41)) (.op (some 43) (.bin .geq (.t 36) (.t 42)) (.nil)))))))))))))) (.t 43) (.nil)))))))))))
 (.cond (.t 44) (.ops (.op (some 45) (.mv (.t 9)) (.op (some 8) (.mv (.t 45)) (.nil)))) (.skip))))
 (.ops (.op (some 21) (.mv (.t 9)) (.op (some 22) (.bin .add (.t 21) (.c (.int .i64 1))) (.op (some 9) (.mv (.t 22)) (.nil))))))
def c21_1 : AC := b21_1
@[simp] theorem e21_1 {Γ : Tab} {V : Nat → Bool} {ρ : Type} (k : AX → St → Option ρ) (s : St) : eval Γ c21_1 V ρ k s = eval Γ b21_1 V ρ k s := rfl
def c21 : AF := AF.mk 47 [.t 4, .t 5] (.seq (.ops (.op (some 4) (.mv (.c (.int .i64 0))) (.op (some 5) (.mv (.c (.int .i64 0))) (.nil))))
 (.seq (.ops (.op (some 11) (.mv (.t 1)) (.op (some 12) (.call 25 [(.t 11)]) (.op (some 10) (.mv (.t 12)) (.op (some 13) (.ext (.t 10) 0) (.op (some 14) (.ext (.t 10) 1) (.op (some 6) (.mv (.t 13)) (.op (some 7) (.mv (.t 14)) (.nil)))))))))
 (.seq (.seq (.ops (.op (some 15) (.mv (.t 7)) (.op (some 16) (.bin .neq (.t 15) (.c (.int .i64 0))) (.nil))))
 (.cond (.t 16) (.seq (.ops (.op (some 4) (.mv (.c (.int .i64 0))) (.op (some 5) (.mv (.c (.int .i64 60))) (.nil))))
 (.ret)) (.skip)))
 (.seq (.ops (.op (some 8) (.mv (.c (.int .i64 0))) (.nil)))
 (.seq (.seq (.ops (.op (some 9) (.mv (.c (.int .i64 0))) (.nil)))
 (.block 0 (.loop [8, 9] [(8, 9), (17, 45)] [] [(.exit 0, [8])] c21_1)))
 (.seq (.ops (.op (some 46) (.mv (.t 8)) (.op (some 4) (.mv (.t 46)) (.op (some 5) (.mv (.c (.int .i64 0))) (.nil)))))
 (.ret)))))))

theorem ok21 : okF Try.prog 21 c21 = true := by kernel_rfl

/-- catacomb/catacombref18.SameInts -/
def b22_1 : AC := .seq (.seq (.ops (.op (some 11) (.mv (.t 5)) (.op (some 12) (.mv (.t 0)) (.op (some 13) (.len false (.t 12)) (.op (some 14) (.bin .lss (.t 11) (.t 13)) (.nil))))))
 (.cond (.t 14) (.skip) (.exit 0)))
 (.seq (.block 1 (.seq (.ops (.op (some 17) (.mv (.t 0)) (.op (some 18) (.mv (.t 5)) (.op (some 19) (.iad 1 (.t 17) (.t 18)) (.op (some 20) (.load 1 false (.t 19)) (.op (some 21) (.mv (.t 1)) (.op (some 22) (.mv (.t 5)) (.op (some 23) (.iad 1 (.t 21) (.t 22)) (.op (some 24) (.load 1 false (.t 23)) (.op (some 25) (.bin .neq (.t 20) (.t 24)) (.nil)))))))))))
 (.cond (.t 25) (.seq (.ops (.op (some 4) (.mv (.c (.bool false))) (.nil)))
 (.ret)) (.skip))))
 (.ops (.op (some 15) (.mv (.t 5)) (.op (some 16) (.bin .add (.t 15) (.c (.int .i64 1))) (.op (some 5) (.mv (.t 16)) (.nil))))))
def c22_1 : AC := b22_1
@[simp] theorem e22_1 {Γ : Tab} {V : Nat → Bool} {ρ : Type} (k : AX → St → Option ρ) (s : St) : eval Γ c22_1 V ρ k s = eval Γ b22_1 V ρ k s := rfl
def c22 : AF := AF.mk 26 [.t 4] (.seq (.ops (.op (some 4) (.mv (.c (.bool false))) (.nil)))
 (.seq (.seq (.ops (.op (some 6) (.mv (.t 0)) (.op (some 7) (.len false (.t 6)) (.op (some 8) (.mv (.t 1)) (.op (some 9) (.len false (.t 8)) (.op (some 10) (.bin .neq (.t 7) (.t 9)) (.nil)))))))
 (.cond (.t 10) (.seq (.ops (.op (some 4) (.mv (.c (.bool false))) (.nil)))
 (.ret)) (.skip)))
 (.seq (.seq (.ops (.op (some 5) (.mv (.c (.int .i64 0))) (.nil)))
 (.block 0 (.loop [5] [(4, 5), (11, 25)] [] [(.exit 0, []), (.ret, [4])] c22_1)))
 (.seq (.ops (.op (some 4) (.mv (.c (.bool true))) (.nil)))
 (.ret)))))

theorem ok22 : okF Try.prog 22 c22 = true := by kernel_rfl

/-- catacomb/shard.Below -/
def c23 : AF := AF.mk 11 [.t 4] (.seq (.ops (.op (some 3) (.box (.t 1)) (.op (some 4) (.mv (.c (.lst true []))) (.nil))))
 (.seq (.seq (.ops (.op (some 5) (.load 1 false (.t 3)) (.op (some 6) (.call 33 [(.t 5)]) (.op (some 7) (.bin .neq (.t 6) (.c (.int .i64 0))) (.nil)))))
 (.cond (.t 7) (.seq (.ops (.op (some 4) (.mv (.c (.lst true []))) (.nil)))
 (.ret)) (.skip)))
 (.seq (.ops (.op (some 8) (.mv (.t 0)) (.op (some 9) (.mkf (.func 46) [] [(.t 3)]) (.op (some 10) (.call 43 [(.t 8), (.t 9)]) (.op (some 4) (.mv (.t 10)) (.nil))))))
 (.ret))))

theorem ok23 : okF Try.prog 23 c23 = true := by kernel_rfl

/-- catacomb/catacombref18.Below -/
def b24_1 : AC := .seq (.seq (.ops (.op (some 14) (.mv (.t 8)) (.op (some 15) (.mv (.t 0)) (.op (some 16) (.len false (.t 15)) (.op (some 17) (.bin .lss (.t 14) (.t 16)) (.op (some 18) (.mv (.t 17)) (.sc 21 true 18 19 20 (.op (some 19) (.mv (.t 7)) (.op (some 20) (.bin .eql (.t 19) (.c (.int .i64 0))) (.nil))) (.t 20) (.nil))))))))
 (.cond (.t 21) (.skip) (.exit 0)))
 (.seq (.block 1 (.seq (.ops (.op (some 24) (.mv (.t 1)) (.op (some 25) (.mv (.t 0)) (.op (some 26) (.mv (.t 8)) (.op (some 27) (.iad 3 (.t 25) (.t 26)) (.op (some 28) (.fad 0 (.t 27)) (.op (some 29) (.load 1 false (.t 28)) (.op (some 30) (.call 26 [(.t 24), (.t 29)]) (.nil)))))))))
 (.cond (.t 30) (.ops (.op (some 31) (.mv (.t 5)) (.op (some 32) (.mv (.t 8)) (.op (some 33) (.bslh 1 (.int .i64 0) 1 [(0, (.t 32))]) (.op (some 34) (.app 1 8 (.t 31) (.t 33)) (.op (some 5) (.mv (.t 34)) (.nil))))))) (.skip))))
 (.ops (.op (some 22) (.mv (.t 8)) (.op (some 23) (.bin .add (.t 22) (.c (.int .i64 1))) (.op (some 8) (.mv (.t 23)) (.nil))))))
def c24_1 : AC := b24_1
@[simp] theorem e24_1 {Γ : Tab} {V : Nat → Bool} {ρ : Type} (k : AX → St → Option ρ) (s : St) : eval Γ c24_1 V ρ k s = eval Γ b24_1 V ρ k s := rfl
def c24 : AF := AF.mk 36 [.t 4] (.seq (.ops (.op (some 4) (.mv (.c (.lst true []))) (.nil)))
 (.seq (.ops (.op (some 5) (.mv (.c (.lst true []))) (.nil)))
 (.seq (.ops (.op (some 10) (.mv (.t 1)) (.op (some 11) (.call 25 [(.t 10)]) (.op (some 9) (.mv (.t 11)) (.op (some 12) (.ext (.t 9) 0) (.op (some 13) (.ext (.t 9) 1) (.op (some 6) (.mv (.t 12)) (.op (some 7) (.mv (.t 13)) (.nil)))))))))
 (.seq (.seq (.ops (.op (some 8) (.mv (.c (.int .i64 0))) (.nil)))
 (.block 0 (.loop [5, 8] [(5, 5), (8, 8), (14, 34)] [(5, 1)] [(.exit 0, [5])] c24_1)))
 (.seq (.ops (.op (some 35) (.mv (.t 5)) (.op (some 4) (.mv (.t 35)) (.nil))))
 (.ret))))))

theorem ok24 : okF Try.prog 24 c24 = true := by kernel_rfl

/-- catacomb/catacombref06.Split -/
def b25_1 : AC := .seq (.seq (.ops (.op (some 18) (.mv (.t 6)) (.op (some 19) (.mv (.t 0)) (.op (some 20) (.len true (.t 19)) (.op (some 21) (.bin .leq (.t 18) (.t 20)) (.nil))))))
 (.cond (.t 21) (.skip) (.exit 0)))
 (.seq (.block 1 (.seq (.seq (.ops (.op (some 24) (.mv (.t 6)) (.op (some 25) (.mv (.t 0)) (.op (some 26) (.len true (.t 25)) (.op (some 27) (.bin .lss (.t 24) (.t 26)) (.op (some 28) (.mv (.t 27)) (.sc 33 true 28 29 32 (.op (some 29) (.mv (.t 0)) (.op (some 30) (.mv (.t 6)) (.op (some 31) (.idxs (.t 29) (.t 30)) (.op (some 32) (.bin .neq (.t 31) (.c (.int .u8 47))) (.nil))))) (.t 32) (.nil))))))))
 (.cond (.t 33) (.exit 1) (.skip)))
 (.seq (.seq (.ops (.op (some 34) (.mv (.t 0)) (.op (some 35) (.mv (.t 5)) (.op (some 36) (.mv (.t 6)) (.op (some 37) (.sls (.t 34) (some (.t 35)) (some (.t 36))) (.op (some 38) (.call 47 [(.t 37)]) (.op (some 39) (.un .not (.t 38)) (.op (some 40) (.mv (.t 39)) (.sc 44 false 40 41 43 (.op (some 41) (.mv (.t 4)) (.op (some 42) (.len false (.t 41)) (.op (some 43) (.bin .eql (.t 42) (.c (.int .i64 12))) (.nil)))) (.t 43) (.nil))))))))))
 (.cond (.t 44) (.seq (.ops (.op (some 2) (.mv (.c (.lst true []))) (.op (some 3) (.mv (.c (.int .i64 60))) (.nil))))
 (.ret)) (.skip)))
 (.seq (.ops (.op (some 45) (.mv (.t 4)) (.op (some 46) (.mv (.t 0)) (.op (some 47) (.mv (.t 5)) (.op (some 48) (.mv (.t 6)) (.op (some 49) (.sls (.t 46) (some (.t 47)) (some (.t 48))) (.op (some 50) (.bslh 1 (.str []) 1 [(0, (.t 49))]) (.op (some 51) (.app 1 16 (.t 45) (.t 50)) (.op (some 4) (.mv (.t 51)) (.nil))))))))))
 (.ops (.op (some 52) (.mv (.t 6)) (.op (some 53) (.bin .add (.t 52) (.c (.int .i64 1))) (.op (some 5) (.mv (.t 53)) (.nil)))))))))
 (.ops (.op (some 22) (.mv (.t 6)) (.op (some 23) (.bin .add (.t 22) (.c (.int .i64 1))) (.op (some 6) (.mv (.t 23)) (.nil))))))
def c25_1 : AC := b25_1
@[simp] theorem e25_1 {Γ : Tab} {V : Nat → Bool} {ρ : Type} (k : AX → St → Option ρ) (s : St) : eval Γ c25_1 V ρ k s = eval Γ b25_1 V ρ k s := rfl
def c25 : AF := AF.mk 55 [.t 2, .t 3] (.seq (.ops (.op (some 2) (.mv (.c (.lst true []))) (.op (some 3) (.mv (.c (.int .i64 0))) (.nil))))
 (.seq (.ops (.op (some 7) (.bslh 1 (.str []) 0 []) (.op (some 4) (.mv (.t 7)) (.nil))))
 (.seq (.seq (.ops (.op (some 8) (.mv (.t 0)) (.op (some 9) (.bin .eql (.t 8) (.c (.str [47]))) (.nil))))
 (.cond (.t 9) (.seq (.ops (.op (some 10) (.mv (.t 4)) (.op (some 2) (.mv (.t 10)) (.op (some 3) (.mv (.c (.int .i64 0))) (.nil)))))
 (.ret)) (.skip)))
 (.seq (.seq (.ops (.op (some 11) (.mv (.t 0)) (.op (some 12) (.bin .eql (.t 11) (.c (.str []))) (.op (some 13) (.mv (.t 12)) (.sc 17 false 13 14 16 (.op (some 14) (.mv (.t 0)) (.op (some 15) (.idxs (.t 14) (.c (.int .i64 0))) (.op (some 16) (.bin .neq (.t 15) (.c (.int .u8 47))) (.nil)))) (.t 16) (.nil))))))
 (.cond (.t 17) (.seq (.ops (.op (some 2) (.mv (.c (.lst true []))) (.op (some 3) (.mv (.c (.int .i64 60))) (.nil))))
 (.ret)) (.skip)))
 (.seq (.ops (.op (some 5) (.mv (.c (.int .i64 1))) (.nil)))
 (.seq (.seq (.ops (.op (some 6) (.mv (.c (.int .i64 1))) (.nil)))
 (.block 0 (.loop [4, 5, 6] [(2, 6), (18, 53)] [(4, 1)] [(.exit 0, [4]), (.ret, [2, 3])] c25_1)))
 (.seq (.ops (.op (some 54) (.mv (.t 4)) (.op (some 2) (.mv (.t 54)) (.op (some 3) (.mv (.c (.int .i64 0))) (.nil)))))
 (.ret))))))))

theorem ok25 : okF Try.prog 25 c25 = true := by kernel_rfl

/-- catacomb/catacombref06.Above -/
def b26_1 : AC := .seq (.seq (.ops (.op (some 33) (.mv (.t 9)) (.op (some 34) (.mv (.t 5)) (.op (some 35) (.len false (.t 34)) (.op (some 36) (.bin .lss (.t 33) (.t 35)) (.nil))))))
 (.cond (.t 36) (.skip) (.exit 0)))
 (.seq (.block 1 (.seq (.ops (.op (some 39) (.mv (.t 5)) (.op (some 40) (.mv (.t 9)) (.op (some 41) (.iad 1 (.t 39) (.t 40)) (.op (some 42) (.load 1 false (.t 41)) (.op (some 43) (.mv (.t 7)) (.op (some 44) (.mv (.t 9)) (.op (some 45) (.iad 1 (.t 43) (.t 44)) (.op (some 46) (.load 1 false (.t 45)) (.op (some 47) (.bin .neq (.t 42) (.t 46)) (.nil)))))))))))
 (.cond (.t 47) (.seq (.ops (.op (some 4) (.mv (.c (.bool false))) (.nil)))
 (.ret)) (.skip))))
 (.ops (.op (some 37) (.mv (.t 9)) (.op (some 38) (.bin .add (.t 37) (.c (.int .i64 1))) (.op (some 9) (.mv (.t 38)) (.nil))))))
def c26_1 : AC := b26_1
@[simp] theorem e26_1 {Γ : Tab} {V : Nat → Bool} {ρ : Type} (k : AX → St → Option ρ) (s : St) : eval Γ c26_1 V ρ k s = eval Γ b26_1 V ρ k s := rfl
def c26 : AF := AF.mk 48 [.t 4] (.seq (.ops (.op (some 4) (.mv (.c (.bool false))) (.nil)))
 (.seq (.ops (.op (some 11) (.mv (.t 0)) (.op (some 12) (.call 25 [(.t 11)]) (.op (some 10) (.mv (.t 12)) (.op (some 13) (.ext (.t 10) 0) (.op (some 14) (.ext (.t 10) 1) (.op (some 5) (.mv (.t 13)) (.op (some 6) (.mv (.t 14)) (.nil)))))))))
 (.seq (.ops (.op (some 16) (.mv (.t 1)) (.op (some 17) (.call 25 [(.t 16)]) (.op (some 15) (.mv (.t 17)) (.op (some 18) (.ext (.t 15) 0) (.op (some 19) (.ext (.t 15) 1) (.op (some 7) (.mv (.t 18)) (.op (some 8) (.mv (.t 19)) (.nil)))))))))
 (.seq (.seq (.ops (.op (some 20) (.mv (.t 6)) (.op (some 21) (.bin .neq (.t 20) (.c (.int .i64 0))) (.op (some 22) (.mv (.t 21)) (.sc 25 false 22 23 24 (.op (some 23) (.mv (.t 8)) (.op (some 24) (.bin .neq (.t 23) (.c (.int .i64 0))) (.nil))) (.t 24) (.op (some 26) (.mv (.t 25)) (.sc 32 false 26 27 31 (.op (some 27) (.mv (.t 5)) (.op (some 28) (.len false (.t 27)) (.op (some 29) (.mv (.t 7)) (.op (some 30) (.len false (.t 29)) (.op (some 31) (.bin .gtr (.t 28) (.t 30)) (.nil)))))) (.t 31) (.nil))))))))
 (.cond (.t 32) (.seq (.ops (.op (some 4) (.mv (.c (.bool false))) (.nil)))
 (.ret)) (.skip)))
 (.seq (.seq (.ops (.op (some 9) (.mv (.c (.int .i64 0))) (.nil)))
 (.block 0 (.loop [9] [(4, 4), (9, 9), (33, 47)] [] [(.exit 0, []), (.ret, [4])] c26_1)))
 (.seq (.ops (.op (some 4) (.mv (.c (.bool true))) (.nil)))
 (.ret)))))))

theorem ok26 : okF Try.prog 26 c26 = true := by kernel_rfl

/-- catacomb/shard.Cut -/
def c27 : AF := AF.mk 68 [.t 6, .t 7] (.seq (.ops (.op (some 6) (.mv (.c (.lst true []))) (.op (some 7) (.mv (.c (.int .i64 0))) (.nil))))
 (.seq (.seq (.ops (.op (some 14) (.mv (.t 2)) (.op (some 15) (.call 34 [(.t 14)]) (.op (some 16) (.un .not (.t 15)) (.nil)))))
 (.cond (.t 16) (.seq (.ops (.op (some 17) (.mv (.t 0)) (.op (some 6) (.mv (.t 17)) (.op (some 7) (.mv (.c (.int .i64 1))) (.nil)))))
 (.ret)) (.skip)))
 (.seq (.ops (.op (some 19) (.mv (.t 0)) (.op (some 20) (.mv (.t 1)) (.op (some 21) (.call 20 [(.t 19), (.t 20)]) (.op (some 18) (.mv (.t 21)) (.op (some 22) (.ext (.t 18) 0) (.op (some 23) (.ext (.t 18) 1) (.op (some 8) (.mv (.t 22)) (.op (some 9) (.mv (.t 23)) (.nil))))))))))
 (.seq (.seq (.ops (.op (some 24) (.mv (.t 9)) (.op (some 25) (.bin .neq (.t 24) (.c (.int .i64 0))) (.nil))))
 (.cond (.t 25) (.seq (.ops (.op (some 26) (.mv (.t 0)) (.op (some 27) (.mv (.t 9)) (.op (some 6) (.mv (.t 26)) (.op (some 7) (.mv (.t 27)) (.nil))))))
 (.ret)) (.skip)))
 (.seq (.ops (.op (some 29) (.mv (.t 0)) (.op (some 30) (.mv (.t 1)) (.op (some 31) (.call 48 [(.t 29), (.t 30)]) (.op (some 28) (.mv (.t 31)) (.op (some 32) (.ext (.t 28) 0) (.op (some 33) (.ext (.t 28) 1) (.op (some 10) (.mv (.t 32)) (.op (some 11) (.mv (.t 33)) (.nil))))))))))
 (.seq (.block 0 (.seq (.ops (.op (some 35) (.mv (.t 11)) (.op (some 34) (.mv (.t 35)) (.nil))))
 (.cond (.t 34) (.seq (.ops (.op (some 36) (.mv (.t 0)) (.op (some 6) (.mv (.t 36)) (.op (some 7) (.mv (.c (.int .i64 71))) (.nil)))))
 (.ret)) (.seq (.ops (.op (some 38) (.mv (.t 0)) (.op (some 39) (.len false (.t 38)) (.op (some 40) (.bin .geq (.t 39) (.c (.int .i64 16))) (.op (some 41) (.mv (.t 40)) (.sc 48 false 41 42 47 (.op (some 42) (.mv (.t 0)) (.op (some 43) (.mv (.t 8)) (.op (some 44) (.iad 3 (.t 42) (.t 43)) (.op (some 45) (.fad 2 (.t 44)) (.op (some 46) (.load 1 false (.t 45)) (.op (some 47) (.bin .geq (.t 46) (.c (.int .i64 1099511627776))) (.nil))))))) (.t 47) (.op (some 37) (.mv (.t 48)) (.nil))))))))
 (.cond (.t 37) (.seq (.ops (.op (some 49) (.mv (.t 0)) (.op (some 6) (.mv (.t 49)) (.op (some 7) (.mv (.c (.int .i64 76))) (.nil)))))
 (.ret)) (.skip))))))
 (.seq (.ops (.op (some 50) (.mv (.t 0)) (.op (some 51) (.mv (.t 8)) (.op (some 52) (.iad 3 (.t 50) (.t 51)) (.op (some 53) (.fad 2 (.t 52)) (.op (some 54) (.load 1 false (.t 53)) (.op (some 55) (.bin .add (.t 54) (.c (.int .i64 1))) (.op (some 12) (.alloc [.int .i64 0]) (.op none (.store 1 (.t 12) (.t 55)) (.nil))))))))))
 (.seq (.ops (.op (some 56) (.mv (.t 0)) (.op (some 57) (.mv (.t 8)) (.op (some 58) (.mkf (.func 50) [] [(.t 12)]) (.op (some 59) (.call 49 [(.t 56), (.t 57), (.t 58)]) (.op (some 13) (.mv (.t 59)) (.nil)))))))
 (.seq (.ops (.op (some 60) (.mv (.t 13)) (.op (some 61) (.mv (.t 10)) (.op (some 62) (.mv (.t 1)) (.op (some 63) (.mv (.t 2)) (.op (some 64) (.load 1 false (.t 12)) (.op (some 65) (.build [.str [], .int .i64 0, .int .i64 0] [(0, 1, (.t 62)), (1, 1, (.t 63)), (2, 1, (.t 64))]) (.op (some 66) (.bslh 3 (.agg [.str [], .int .i64 0, .int .i64 0]) 1 [(0, (.t 65))]) (.op (some 67) (.call 51 [(.t 60), (.t 61), (.t 66)]) (.op (some 6) (.mv (.t 67)) (.op (some 7) (.mv (.c (.int .i64 0))) (.nil))))))))))))
 (.ret))))))))))

theorem ok27 : okF Try.prog 27 c27 = true := by kernel_rfl

/-- catacomb/shard.Join -/
def c28 : AF := AF.mk 70 [.t 4, .t 5] (.seq (.ops (.op (some 4) (.mv (.c (.lst true []))) (.op (some 5) (.mv (.c (.int .i64 0))) (.nil))))
 (.seq (.seq (.ops (.op (some 16) (.mv (.t 1)) (.op (some 17) (.call 33 [(.t 16)]) (.op (some 6) (.mv (.t 17)) (.nil)))))
 (.seq (.ops (.op (some 18) (.mv (.t 6)) (.op (some 19) (.bin .neq (.t 18) (.c (.int .i64 0))) (.nil))))
 (.cond (.t 19) (.seq (.ops (.op (some 20) (.mv (.t 0)) (.op (some 21) (.mv (.t 6)) (.op (some 4) (.mv (.t 20)) (.op (some 5) (.mv (.t 21)) (.nil))))))
 (.ret)) (.skip))))
 (.seq (.ops (.op (some 23) (.mv (.t 0)) (.op (some 24) (.mv (.t 1)) (.op (some 25) (.call 48 [(.t 23), (.t 24)]) (.op (some 22) (.mv (.t 25)) (.op (some 26) (.ext (.t 22) 0) (.op (some 27) (.ext (.t 22) 1) (.op (some 7) (.mv (.t 26)) (.op (some 8) (.mv (.t 27)) (.nil))))))))))
 (.seq (.seq (.ops (.op (some 28) (.mv (.t 8)) (.op (some 29) (.un .not (.t 28)) (.op (some 30) (.mv (.t 29)) (.sc 33 false 30 31 32 (.op (some 31) (.mv (.t 7)) (.op (some 32) (.bin .eql (.t 31) (.c (.int .i64 0))) (.nil))) (.t 32) (.nil))))))
 (.cond (.t 33) (.seq (.ops (.op (some 34) (.mv (.t 0)) (.op (some 4) (.mv (.t 34)) (.op (some 5) (.mv (.c (.int .i64 180))) (.nil)))))
 (.ret)) (.skip)))
 (.seq (.ops (.op (some 36) (.mv (.t 1)) (.op (some 37) (.call 52 [(.t 36)]) (.op (some 35) (.mv (.t 37)) (.op (some 38) (.ext (.t 35) 0) (.op (some 39) (.ext (.t 35) 1) (.op (some 40) (.ext (.t 35) 2) (.op (some 9) (.mv (.t 38)) (.op (some 10) (.mv (.t 39)) (.op (some 11) (.mv (.t 40)) (.nil)))))))))))
 (.seq (.ops (.op (some 42) (.mv (.t 0)) (.op (some 43) (.mv (.t 10)) (.op (some 44) (.call 20 [(.t 42), (.t 43)]) (.op (some 41) (.mv (.t 44)) (.op (some 45) (.ext (.t 41) 0) (.op (some 46) (.ext (.t 41) 1) (.op (some 12) (.mv (.t 45)) (.op (some 13) (.mv (.t 46)) (.nil))))))))))
 (.seq (.ops (.op (some 47) (.mv (.t 0)) (.op (some 48) (.mv (.t 7)) (.op (some 49) (.iad 3 (.t 47) (.t 48)) (.op (some 50) (.fad 2 (.t 49)) (.op (some 51) (.load 1 false (.t 50)) (.op (some 52) (.mv (.t 0)) (.op (some 53) (.mv (.t 12)) (.op (some 54) (.iad 3 (.t 52) (.t 53)) (.op (some 55) (.fad 2 (.t 54)) (.op (some 56) (.load 1 false (.t 55)) (.op (some 57) (.mm true [(.t 51), (.t 56)]) (.op (some 14) (.alloc [.int .i64 0]) (.op none (.store 1 (.t 14) (.t 57)) (.nil)))))))))))))))
 (.seq (.seq (.ops (.op (some 58) (.load 1 false (.t 14)) (.op (some 59) (.bin .geq (.t 58) (.c (.int .i64 1099511627776))) (.nil))))
 (.cond (.t 59) (.seq (.ops (.op (some 60) (.mv (.t 0)) (.op (some 4) (.mv (.t 60)) (.op (some 5) (.mv (.c (.int .i64 76))) (.nil)))))
 (.ret)) (.skip)))
 (.seq (.ops (.op (some 61) (.mv (.t 0)) (.op (some 62) (.mv (.t 12)) (.op (some 63) (.mkf (.func 53) [] [(.t 14)]) (.op (some 64) (.call 49 [(.t 61), (.t 62), (.t 63)]) (.op (some 15) (.mv (.t 64)) (.nil)))))))
 (.seq (.ops (.op (some 65) (.mv (.t 15)) (.op (some 66) (.mv (.t 7)) (.op (some 67) (.mv (.t 7)) (.op (some 68) (.bin .add (.t 67) (.c (.int .i64 1))) (.op (some 69) (.call 54 [(.t 65), (.t 66), (.t 68)]) (.op (some 4) (.mv (.t 69)) (.op (some 5) (.mv (.c (.int .i64 0))) (.nil)))))))))
 (.ret)))))))))))

theorem ok28 : okF Try.prog 28 c28 = true := by kernel_rfl

/-- catacomb/shard.Move -/
def c29 : AF := AF.mk 43 [.t 6, .t 7] (.seq (.ops (.op (some 5) (.box (.t 2)) (.op (some 6) (.mv (.c (.lst true []))) (.op (some 7) (.mv (.c (.int .i64 0))) (.nil)))))
 (.seq (.seq (.ops (.op (some 11) (.load 1 false (.t 5)) (.op (some 12) (.call 34 [(.t 11)]) (.op (some 13) (.un .not (.t 12)) (.nil)))))
 (.cond (.t 13) (.seq (.ops (.op (some 14) (.mv (.t 0)) (.op (some 6) (.mv (.t 14)) (.op (some 7) (.mv (.c (.int .i64 1))) (.nil)))))
 (.ret)) (.skip)))
 (.seq (.seq (.ops (.op (some 15) (.mv (.t 1)) (.op (some 16) (.call 33 [(.t 15)]) (.op (some 8) (.mv (.t 16)) (.nil)))))
 (.seq (.ops (.op (some 17) (.mv (.t 8)) (.op (some 18) (.bin .neq (.t 17) (.c (.int .i64 0))) (.nil))))
 (.cond (.t 18) (.seq (.ops (.op (some 19) (.mv (.t 0)) (.op (some 20) (.mv (.t 8)) (.op (some 6) (.mv (.t 19)) (.op (some 7) (.mv (.t 20)) (.nil))))))
 (.ret)) (.skip))))
 (.seq (.ops (.op (some 22) (.mv (.t 0)) (.op (some 23) (.mv (.t 1)) (.op (some 24) (.call 48 [(.t 22), (.t 23)]) (.op (some 21) (.mv (.t 24)) (.op (some 25) (.ext (.t 21) 0) (.op (some 26) (.ext (.t 21) 1) (.op (some 9) (.mv (.t 25)) (.op (some 10) (.mv (.t 26)) (.nil))))))))))
 (.seq (.block 0 (.seq (.ops (.op (some 28) (.mv (.t 10)) (.op (some 29) (.un .not (.t 28)) (.op (some 27) (.mv (.t 29)) (.nil)))))
 (.cond (.t 27) (.seq (.ops (.op (some 30) (.mv (.t 0)) (.op (some 6) (.mv (.t 30)) (.op (some 7) (.mv (.c (.int .i64 180))) (.nil)))))
 (.ret)) (.seq (.ops (.op (some 32) (.mv (.t 0)) (.op (some 33) (.mv (.t 9)) (.op (some 34) (.iad 3 (.t 32) (.t 33)) (.op (some 35) (.fad 2 (.t 34)) (.op (some 36) (.load 1 false (.t 35)) (.op (some 37) (.bin .geq (.t 36) (.c (.int .i64 1099511627776))) (.op (some 31) (.mv (.t 37)) (.nil)))))))))
 (.cond (.t 31) (.seq (.ops (.op (some 38) (.mv (.t 0)) (.op (some 6) (.mv (.t 38)) (.op (some 7) (.mv (.c (.int .i64 76))) (.nil)))))
 (.ret)) (.skip))))))
 (.seq (.ops (.op (some 39) (.mv (.t 0)) (.op (some 40) (.mv (.t 9)) (.op (some 41) (.mkf (.func 55) [] [(.t 5)]) (.op (some 42) (.call 49 [(.t 39), (.t 40), (.t 41)]) (.op (some 6) (.mv (.t 42)) (.op (some 7) (.mv (.c (.int .i64 0))) (.nil))))))))
 (.ret)))))))

theorem ok29 : okF Try.prog 29 c29 = true := by kernel_rfl

/-- catacomb/shard.Right$1 -/
def c30 : AF := AF.mk 10 [.t 4] (.seq (.ops (.op (some 2) (.box (.t 0)) (.op (some 3) (.box (.t 1)) (.op (some 4) (.mv (.c (.int .i64 0))) (.nil)))))
 (.seq (.ops (.op (some 5) (.fad 0 (.t 2)) (.op (some 6) (.load 1 false (.t 5)) (.op (some 7) (.fad 0 (.t 3)) (.op (some 8) (.load 1 false (.t 7)) (.op (some 9) (.call 31 [(.t 6), (.t 8)]) (.op (some 4) (.mv (.t 9)) (.nil))))))))
 (.ret)))

theorem ok30 : okF Try.prog 30 c30 = true := by kernel_rfl

/-- strings.Compare -/
def c31 : AF := AF.mk 8 [.t 4] (.seq (.ops (.op (some 4) (.mv (.c (.int .i64 0))) (.nil)))
 (.seq (.ops (.op (some 5) (.mv (.t 0)) (.op (some 6) (.mv (.t 1)) (.op (some 7) (.call 56 [(.t 5), (.t 6)]) (.op (some 4) (.mv (.t 7)) (.nil))))))
 (.ret)))

theorem ok31 : okF Try.prog 31 c31 = true := by kernel_rfl

/-- catacomb/shard.Right$2 -/
def c32 : AF := AF.mk 23 [.t 2] (.seq (.ops (.op (some 1) (.box (.t 0)) (.op (some 2) (.mv (.c (.bool false))) (.nil))))
 (.seq (.ops (.op (some 3) (.fad 0 (.t 1)) (.op (some 4) (.load 1 false (.t 3)) (.op (some 5) (.call 33 [(.t 4)]) (.op (some 6) (.bin .neq (.t 5) (.c (.int .i64 0))) (.op (some 7) (.mv (.t 6)) (.sc 12 false 7 8 11 (.op (some 8) (.fad 1 (.t 1)) (.op (some 9) (.load 1 false (.t 8)) (.op (some 10) (.call 34 [(.t 9)]) (.op (some 11) (.un .not (.t 10)) (.nil))))) (.t 11) (.op (some 13) (.mv (.t 12)) (.sc 17 false 13 14 16 (.op (some 14) (.fad 2 (.t 1)) (.op (some 15) (.load 1 false (.t 14)) (.op (some 16) (.bin .lss (.t 15) (.c (.int .i64 1))) (.nil)))) (.t 16) (.op (some 18) (.mv (.t 17)) (.sc 22 false 18 19 21 (.op (some 19) (.fad 2 (.t 1)) (.op (some 20) (.load 1 false (.t 19)) (.op (some 21) (.bin .gtr (.t 20) (.c (.int .i64 1099511627776))) (.nil)))) (.t 21) (.op (some 2) (.mv (.t 22)) (.nil)))))))))))))
 (.ret)))

theorem ok32 : okF Try.prog 32 c32 = true := by kernel_rfl

/-- catacomb/shard.path -/
def c33 : AF := AF.mk 11 [.t 2] (.seq (.ops (.op (some 2) (.mv (.c (.int .i64 0))) (.nil)))
 (.seq (.ops (.op (some 6) (.mv (.t 0)) (.op (some 7) (.call 57 [(.t 6)]) (.op (some 5) (.mv (.t 7)) (.op (some 8) (.ext (.t 5) 0) (.op (some 9) (.ext (.t 5) 1) (.op (some 3) (.mv (.t 8)) (.op (some 4) (.mv (.t 9)) (.nil)))))))))
 (.seq (.ops (.op (some 10) (.mv (.t 4)) (.op (some 2) (.mv (.t 10)) (.nil))))
 (.ret))))

theorem ok33 : okF Try.prog 33 c33 = true := by kernel_rfl

/-- catacomb/shard.group -/
def c34 : AF := AF.mk 9 [.t 2] (.seq (.ops (.op (some 2) (.mv (.c (.bool false))) (.nil)))
 (.seq (.ops (.op (some 3) (.mv (.t 0)) (.op (some 4) (.bin .geq (.t 3) (.c (.int .i64 0))) (.op (some 5) (.mv (.t 4)) (.sc 8 true 5 6 7 (.op (some 6) (.mv (.t 0)) (.op (some 7) (.bin .lss (.t 6) (.c (.int .i64 8))) (.nil))) (.t 7) (.op (some 2) (.mv (.t 8)) (.nil)))))))
 (.ret)))

theorem ok34 : okF Try.prog 34 c34 = true := by kernel_rfl

/-- catacomb/shard.Right$3 -/
def c35 : AF := AF.mk 10 [.t 4] (.seq (.ops (.op (some 2) (.box (.t 0)) (.op (some 3) (.box (.t 1)) (.op (some 4) (.mv (.c (.bool false))) (.nil)))))
 (.seq (.ops (.op (some 5) (.fad 0 (.t 2)) (.op (some 6) (.load 1 false (.t 5)) (.op (some 7) (.fad 0 (.t 3)) (.op (some 8) (.load 1 false (.t 7)) (.op (some 9) (.bin .eql (.t 6) (.t 8)) (.op (some 4) (.mv (.t 9)) (.nil))))))))
 (.ret)))

theorem ok35 : okF Try.prog 35 c35 = true := by kernel_rfl

/-- slices.IsSortedFunc[[]catacomb/api.Piece,catacomb/api.Piece] -/
def b36_1 : AC := .seq (.seq (.ops (.op (some 9) (.mv (.t 5)) (.op (some 10) (.bin .gtr (.t 9) (.c (.int .i64 0))) (.nil))))
 (.cond (.t 10) (.skip) (.exit 0)))
 (.seq (.block 1 (.seq (.ops (.op (some 13) (.mv (.t 1)) (.op (some 14) (.mv (.t 0)) (.op (some 15) (.mv (.t 5)) (.op (some 16) (.iad 3 (.t 14) (.t 15)) (.op (some 17) (.load 3 true (.t 16)) (.op (some 18) (.mv (.t 0)) (.op (some 19) (.mv (.t 5)) (.op (some 20) (.bin .sub (.t 19) (.c (.int .i64 1))) (.op (some 21) (.iad 3 (.t 18) (.t 20)) (.op (some 22) (.load 3 true (.t 21)) (.op (some 23) (.callv (.t 13) [(.t 17), (.t 22)]) (.op (some 24) (.bin .lss (.t 23) (.c (.int .i64 0))) (.nil))))))))))))))
 (.cond (.t 24) (.seq (.ops (.op (some 4) (.mv (.c (.bool false))) (.nil)))
 (.ret)) (.skip))))
 (.ops (.op (some 11) (.mv (.t 5)) (.op (some 12) (.bin .sub (.t 11) (.c (.int .i64 1))) (.op (some 5) (.mv (.t 12)) (.nil))))))
def c36_1 : AC := b36_1
@[simp] theorem e36_1 {Γ : Tab} {V : Nat → Bool} {ρ : Type} (k : AX → St → Option ρ) (s : St) : eval Γ c36_1 V ρ k s = eval Γ b36_1 V ρ k s := rfl
def c36 : AF := AF.mk 25 [.t 4] (.seq (.ops (.op (some 4) (.mv (.c (.bool false))) (.nil)))
 (.seq (.seq (.ops (.op (some 6) (.mv (.t 0)) (.op (some 7) (.len false (.t 6)) (.op (some 8) (.bin .sub (.t 7) (.c (.int .i64 1))) (.op (some 5) (.mv (.t 8)) (.nil))))))
 (.block 0 (.loop [5] [(4, 5), (9, 24)] [] [(.exit 0, []), (.ret, [4])] c36_1)))
 (.seq (.ops (.op (some 4) (.mv (.c (.bool true))) (.nil)))
 (.ret))))

theorem ok36 : okF Try.prog 36 c36 = true := by kernel_rfl

/-- slices.ContainsFunc[[]catacomb/api.Piece,catacomb/api.Piece] -/
def c37 : AF := AF.mk 9 [.t 4] (.seq (.ops (.op (some 4) (.mv (.c (.bool false))) (.nil)))
 (.seq (.ops (.op (some 5) (.mv (.t 0)) (.op (some 6) (.mv (.t 1)) (.op (some 7) (.call 58 [(.t 5), (.t 6)]) (.op (some 8) (.bin .geq (.t 7) (.c (.int .i64 0))) (.op (some 4) (.mv (.t 8)) (.nil)))))))
 (.ret)))

theorem ok37 : okF Try.prog 37 c37 = true := by kernel_rfl

/-- slices.CompactFunc[[]catacomb/api.Piece,catacomb/api.Piece] -/
def b38_1 : AC := .seq (.seq (.ops (.op (some 32) (.mv (.t 7)) (.op (some 33) (.mv (.t 6)) (.op (some 34) (.len false (.t 33)) (.op (some 35) (.bin .lss (.t 32) (.t 34)) (.nil))))))
 (.cond (.t 35) (.skip) (.exit 2)))
 (.seq (.block 3 (.seq (.ops (.op (some 38) (.mv (.t 1)) (.op (some 39) (.mv (.t 6)) (.op (some 40) (.mv (.t 7)) (.op (some 41) (.iad 3 (.t 39) (.t 40)) (.op (some 42) (.load 3 true (.t 41)) (.op (some 43) (.mv (.t 6)) (.op (some 44) (.mv (.t 7)) (.op (some 45) (.bin .sub (.t 44) (.c (.int .i64 1))) (.op (some 46) (.iad 3 (.t 43) (.t 45)) (.op (some 47) (.load 3 true (.t 46)) (.op (some 48) (.callv (.t 38) [(.t 42), (.t 47)]) (.op (some 49) (.un .not (.t 48)) (.nil))))))))))))))
 (.cond (.t 49) (.seq (.ops (.op (some 50) (.mv (.t 0)) (.op (some 51) (.mv (.t 5)) (.op (some 52) (.mv (.t 6)) (.op (some 53) (.mv (.t 7)) (.op (some 54) (.iad 3 (.t 52) (.t 53)) (.op (some 55) (.load 3 true (.t 54)) (.op (some 56) (.iad 3 (.t 50) (.t 51)) (.op none (.store 3 (.t 56) (.t 55)) (.nil))))))))))
 (.ops (.op (some 57) (.mv (.t 5)) (.op (some 58) (.bin .add (.t 57) (.c (.int .i64 1))) (.op (some 5) (.mv (.t 58)) (.nil)))))) (.skip))))
 (.ops (.op (some 36) (.mv (.t 7)) (.op (some 37) (.bin .add (.t 36) (.c (.int .i64 1))) (.op (some 7) (.mv (.t 37)) (.nil))))))
def c38_1 : AC := b38_1
@[simp] theorem e38_1 {Γ : Tab} {V : Nat → Bool} {ρ : Type} (k : AX → St → Option ρ) (s : St) : eval Γ c38_1 V ρ k s = eval Γ b38_1 V ρ k s := rfl
def b38_2 : AC := .seq (.seq (.ops (.op (some 12) (.mv (.t 5)) (.op (some 13) (.mv (.t 0)) (.op (some 14) (.len false (.t 13)) (.op (some 15) (.bin .lss (.t 12) (.t 14)) (.nil))))))
 (.cond (.t 15) (.skip) (.exit 0)))
 (.seq (.block 1 (.seq (.ops (.op (some 18) (.mv (.t 1)) (.op (some 19) (.mv (.t 0)) (.op (some 20) (.mv (.t 5)) (.op (some 21) (.iad 3 (.t 19) (.t 20)) (.op (some 22) (.load 3 true (.t 21)) (.op (some 23) (.mv (.t 0)) (.op (some 24) (.mv (.t 5)) (.op (some 25) (.bin .sub (.t 24) (.c (.int .i64 1))) (.op (some 26) (.iad 3 (.t 23) (.t 25)) (.op (some 27) (.load 3 true (.t 26)) (.op (some 28) (.callv (.t 18) [(.t 22), (.t 27)]) (.nil)))))))))))))
 (.cond (.t 28) (.seq (.ops (.op (some 29) (.mv (.t 0)) (.op (some 30) (.mv (.t 5)) (.op (some 31) (.sll 3 (.t 29) (some (.t 30)) none none) (.op (some 6) (.mv (.t 31)) (.nil))))))
 (.seq (.seq (.ops (.op (some 7) (.mv (.c (.int .i64 1))) (.nil)))
 (.block 2 (.loop [5, 7] [(5, 5), (7, 7), (32, 58)] [] [(.exit 2, [5])] c38_1)))
 (.seq (.ops (.op (some 59) (.mv (.t 0)) (.op (some 60) (.mv (.t 5)) (.op (some 61) (.sll 3 (.t 59) (some (.t 60)) none none) (.op none (.clr 3 (.agg [.str [], .int .i64 0, .int .i64 0]) (.t 61)) (.nil))))))
 (.seq (.ops (.op (some 62) (.mv (.t 0)) (.op (some 63) (.mv (.t 5)) (.op (some 64) (.sll 3 (.t 62) none (some (.t 63)) none) (.op (some 4) (.mv (.t 64)) (.nil))))))
 (.ret))))) (.skip))))
 (.ops (.op (some 16) (.mv (.t 5)) (.op (some 17) (.bin .add (.t 16) (.c (.int .i64 1))) (.op (some 5) (.mv (.t 17)) (.nil))))))
def c38_2 : AC := b38_2
@[simp] theorem e38_2 {Γ : Tab} {V : Nat → Bool} {ρ : Type} (k : AX → St → Option ρ) (s : St) : eval Γ c38_2 V ρ k s = eval Γ b38_2 V ρ k s := rfl
def c38 : AF := AF.mk 66 [.t 4] (.seq (.ops (.op (some 4) (.mv (.c (.lst true []))) (.nil)))
 (.seq (.seq (.ops (.op (some 8) (.mv (.t 0)) (.op (some 9) (.len false (.t 8)) (.op (some 10) (.bin .lss (.t 9) (.c (.int .i64 2))) (.nil)))))
 (.cond (.t 10) (.seq (.ops (.op (some 11) (.mv (.t 0)) (.op (some 4) (.mv (.t 11)) (.nil))))
 (.ret)) (.skip)))
 (.seq (.seq (.ops (.op (some 5) (.mv (.c (.int .i64 1))) (.nil)))
 (.block 0 (.loop [5] [(4, 7), (12, 64)] [] [(.exit 0, []), (.ret, [4])] c38_2)))
 (.seq (.ops (.op (some 65) (.mv (.t 0)) (.op (some 4) (.mv (.t 65)) (.nil))))
 (.ret)))))

theorem ok38 : okF Try.prog 38 c38 = true := by kernel_rfl

/-- catacomb/catacombref18.Cut -/
def b40_1 : AC := .seq (.seq (.ops (.op (some 58) (.mv (.t 13)) (.op (some 59) (.mv (.t 0)) (.op (some 60) (.len false (.t 59)) (.op (some 61) (.bin .lss (.t 58) (.t 60)) (.nil))))))
 (.cond (.t 61) (.skip) (.exit 0)))
 (.seq (.block 1 (.seq (.seq (.ops (.op (some 64) (.mv (.t 12)) (.op (some 65) (.un .not (.t 64)) (.op (some 66) (.mv (.t 65)) (.sc 74 true 66 67 73 (.op (some 67) (.mv (.t 0)) (.op (some 68) (.mv (.t 13)) (.op (some 69) (.iad 3 (.t 67) (.t 68)) (.op (some 70) (.fad 0 (.t 69)) (.op (some 71) (.load 1 false (.t 70)) (.op (some 72) (.mv (.t 1)) (.op (some 73) (.bin .gtr (.t 71) (.t 72)) (.nil)))))))) (.t 73) (.nil))))))
 (.cond (.t 74) (.seq (.ops (.op (some 75) (.mv (.t 11)) (.op (some 76) (.load 3 true (.t 10)) (.op (some 77) (.bslh 3 (.agg [.str [], .int .i64 0, .int .i64 0]) 1 [(0, (.t 76))]) (.op (some 78) (.app 3 32 (.t 75) (.t 77)) (.op (some 11) (.mv (.t 78)) (.nil)))))))
 (.ops (.op (some 12) (.mv (.c (.bool true))) (.nil)))) (.skip)))
 (.seq (.ops (.op (some 79) (.mv (.t 0)) (.op (some 80) (.mv (.t 13)) (.op (some 81) (.iad 3 (.t 79) (.t 80)) (.op (some 82) (.load 3 true (.t 81)) (.op (some 14) (.alloc [.str [], .int .i64 0, .int .i64 0]) (.op none (.store 3 (.t 14) (.t 82)) (.nil))))))))
 (.seq (.seq (.ops (.op (some 83) (.mv (.t 13)) (.op (some 84) (.mv (.t 8)) (.op (some 85) (.bin .eql (.t 83) (.t 84)) (.nil)))))
 (.cond (.t 85) (.ops (.op (some 86) (.fad 2 (.t 14)) (.op (some 87) (.load 1 false (.t 86)) (.op (some 88) (.bin .add (.t 87) (.c (.int .i64 1))) (.op (some 89) (.fad 2 (.t 14)) (.op none (.store 1 (.t 89) (.t 88)) (.nil))))))) (.skip)))
 (.ops (.op (some 90) (.mv (.t 11)) (.op (some 91) (.load 3 true (.t 14)) (.op (some 92) (.bslh 3 (.agg [.str [], .int .i64 0, .int .i64 0]) 1 [(0, (.t 91))]) (.op (some 93) (.app 3 32 (.t 90) (.t 92)) (.op (some 11) (.mv (.t 93)) (.nil)))))))))))
 (.ops (.op (some 62) (.mv (.t 13)) (.op (some 63) (.bin .add (.t 62) (.c (.int .i64 1))) (.op (some 13) (.mv (.t 63)) (.nil))))))
def c40_1 : AC := b40_1
@[simp] theorem e40_1 {Γ : Tab} {V : Nat → Bool} {ρ : Type} (k : AX → St → Option ρ) (s : St) : eval Γ c40_1 V ρ k s = eval Γ b40_1 V ρ k s := rfl
def c40 : AF := AF.mk 101 [.t 6, .t 7] (.seq (.ops (.op (some 6) (.mv (.c (.lst true []))) (.op (some 7) (.mv (.c (.int .i64 0))) (.nil))))
 (.seq (.seq (.ops (.op (some 15) (.mv (.t 2)) (.op (some 16) (.bin .lss (.t 15) (.c (.int .i64 0))) (.op (some 17) (.mv (.t 16)) (.sc 20 false 17 18 19 (.op (some 18) (.mv (.t 2)) (.op (some 19) (.bin .geq (.t 18) (.c (.int .i64 8))) (.nil))) (.t 19) (.nil))))))
 (.cond (.t 20) (.seq (.ops (.op (some 21) (.mv (.t 0)) (.op (some 6) (.mv (.t 21)) (.op (some 7) (.mv (.c (.int .i64 1))) (.nil)))))
 (.ret)) (.skip)))
 (.seq (.ops (.op (some 23) (.mv (.t 0)) (.op (some 24) (.mv (.t 1)) (.op (some 25) (.call 21 [(.t 23), (.t 24)]) (.op (some 22) (.mv (.t 25)) (.op (some 26) (.ext (.t 22) 0) (.op (some 27) (.ext (.t 22) 1) (.op (some 8) (.mv (.t 26)) (.op (some 9) (.mv (.t 27)) (.nil))))))))))
 (.seq (.seq (.ops (.op (some 28) (.mv (.t 9)) (.op (some 29) (.bin .neq (.t 28) (.c (.int .i64 0))) (.nil))))
 (.cond (.t 29) (.seq (.ops (.op (some 30) (.mv (.t 0)) (.op (some 31) (.mv (.t 9)) (.op (some 6) (.mv (.t 30)) (.op (some 7) (.mv (.t 31)) (.nil))))))
 (.ret)) (.skip)))
 (.seq (.seq (.ops (.op (some 32) (.mv (.t 0)) (.op (some 33) (.mv (.t 1)) (.op (some 34) (.call 59 [(.t 32), (.t 33)]) (.op (some 35) (.bin .geq (.t 34) (.c (.int .i64 0))) (.nil))))))
 (.cond (.t 35) (.seq (.ops (.op (some 36) (.mv (.t 0)) (.op (some 6) (.mv (.t 36)) (.op (some 7) (.mv (.c (.int .i64 71))) (.nil)))))
 (.ret)) (.skip)))
 (.seq (.seq (.ops (.op (some 37) (.mv (.t 0)) (.op (some 38) (.len false (.t 37)) (.op (some 39) (.bin .geq (.t 38) (.c (.int .i64 16))) (.op (some 40) (.mv (.t 39)) (.sc 47 false 40 41 46 (.op (some 41) (.mv (.t 0)) (.op (some 42) (.mv (.t 8)) (.op (some 43) (.iad 3 (.t 41) (.t 42)) (.op (some 44) (.fad 2 (.t 43)) (.op (some 45) (.load 1 false (.t 44)) (.op (some 46) (.bin .geq (.t 45) (.c (.int .i64 1099511627776))) (.nil))))))) (.t 46) (.nil)))))))
 (.cond (.t 47) (.seq (.ops (.op (some 48) (.mv (.t 0)) (.op (some 6) (.mv (.t 48)) (.op (some 7) (.mv (.c (.int .i64 76))) (.nil)))))
 (.ret)) (.skip)))
 (.seq (.ops (.op (some 49) (.mv (.t 1)) (.op (some 50) (.mv (.t 2)) (.op (some 51) (.mv (.t 0)) (.op (some 52) (.mv (.t 8)) (.op (some 53) (.iad 3 (.t 51) (.t 52)) (.op (some 54) (.fad 2 (.t 53)) (.op (some 55) (.load 1 false (.t 54)) (.op (some 56) (.bin .add (.t 55) (.c (.int .i64 1))) (.op (some 57) (.build [.str [], .int .i64 0, .int .i64 0] [(0, 1, (.t 49)), (1, 1, (.t 50)), (2, 1, (.t 56))]) (.op (some 10) (.alloc [.str [], .int .i64 0, .int .i64 0]) (.op none (.store 3 (.t 10) (.t 57)) (.nil)))))))))))))
 (.seq (.ops (.op (some 11) (.mv (.c (.lst true []))) (.nil)))
 (.seq (.ops (.op (some 12) (.mv (.c (.bool false))) (.nil)))
 (.seq (.seq (.ops (.op (some 13) (.mv (.c (.int .i64 0))) (.nil)))
 (.block 0 (.loop [11, 12, 13] [(11, 14), (58, 93)] [(11, 3)] [(.exit 0, [11, 12])] c40_1)))
 (.seq (.seq (.ops (.op (some 94) (.mv (.t 12)) (.op (some 95) (.un .not (.t 94)) (.nil))))
 (.cond (.t 95) (.ops (.op (some 96) (.mv (.t 11)) (.op (some 97) (.load 3 true (.t 10)) (.op (some 98) (.bslh 3 (.agg [.str [], .int .i64 0, .int .i64 0]) 1 [(0, (.t 97))]) (.op (some 99) (.app 3 32 (.t 96) (.t 98)) (.op (some 11) (.mv (.t 99)) (.nil))))))) (.skip)))
 (.seq (.ops (.op (some 100) (.mv (.t 11)) (.op (some 6) (.mv (.t 100)) (.op (some 7) (.mv (.c (.int .i64 0))) (.nil)))))
 (.ret)))))))))))))

theorem ok40 : okF Try.prog 40 c40 = true := by kernel_rfl

/-- catacomb/catacombref18.Join -/
def b41_1 : AC := .seq (.seq (.ops (.op (some 62) (.mv (.t 16)) (.op (some 63) (.mv (.t 0)) (.op (some 64) (.len false (.t 63)) (.op (some 65) (.bin .lss (.t 62) (.t 64)) (.nil))))))
 (.cond (.t 65) (.skip) (.exit 0)))
 (.seq (.block 1 (.seq (.ops (.op (some 68) (.mv (.t 0)) (.op (some 69) (.mv (.t 16)) (.op (some 70) (.iad 3 (.t 68) (.t 69)) (.op (some 71) (.load 3 true (.t 70)) (.op (some 17) (.alloc [.str [], .int .i64 0, .int .i64 0]) (.op none (.store 3 (.t 17) (.t 71)) (.nil))))))))
 (.seq (.seq (.ops (.op (some 72) (.mv (.t 16)) (.op (some 73) (.mv (.t 12)) (.op (some 74) (.bin .eql (.t 72) (.t 73)) (.nil)))))
 (.cond (.t 74) (.ops (.op (some 75) (.mv (.t 14)) (.op (some 76) (.bin .add (.t 75) (.c (.int .i64 1))) (.op (some 77) (.fad 2 (.t 17)) (.op none (.store 1 (.t 77) (.t 76)) (.nil)))))) (.skip)))
 (.seq (.ops (.op (some 78) (.mv (.t 16)) (.op (some 79) (.mv (.t 8)) (.op (some 80) (.bin .neq (.t 78) (.t 79)) (.nil)))))
 (.cond (.t 80) (.ops (.op (some 81) (.mv (.t 15)) (.op (some 82) (.load 3 true (.t 17)) (.op (some 83) (.bslh 3 (.agg [.str [], .int .i64 0, .int .i64 0]) 1 [(0, (.t 82))]) (.op (some 84) (.app 3 32 (.t 81) (.t 83)) (.op (some 15) (.mv (.t 84)) (.nil))))))) (.skip))))))
 (.ops (.op (some 66) (.mv (.t 16)) (.op (some 67) (.bin .add (.t 66) (.c (.int .i64 1))) (.op (some 16) (.mv (.t 67)) (.nil))))))
def c41_1 : AC := b41_1
@[simp] theorem e41_1 {Γ : Tab} {V : Nat → Bool} {ρ : Type} (k : AX → St → Option ρ) (s : St) : eval Γ c41_1 V ρ k s = eval Γ b41_1 V ρ k s := rfl
def c41 : AF := AF.mk 86 [.t 4, .t 5] (.seq (.ops (.op (some 4) (.mv (.c (.lst true []))) (.op (some 5) (.mv (.c (.int .i64 0))) (.nil))))
 (.seq (.ops (.op (some 19) (.mv (.t 1)) (.op (some 20) (.call 25 [(.t 19)]) (.op (some 18) (.mv (.t 20)) (.op (some 21) (.ext (.t 18) 0) (.op (some 22) (.ext (.t 18) 1) (.op (some 6) (.mv (.t 21)) (.op (some 7) (.mv (.t 22)) (.nil)))))))))
 (.seq (.seq (.ops (.op (some 23) (.mv (.t 7)) (.op (some 24) (.bin .neq (.t 23) (.c (.int .i64 0))) (.nil))))
 (.cond (.t 24) (.seq (.ops (.op (some 25) (.mv (.t 0)) (.op (some 4) (.mv (.t 25)) (.op (some 5) (.mv (.c (.int .i64 60))) (.nil)))))
 (.ret)) (.skip)))
 (.seq (.ops (.op (some 26) (.mv (.t 0)) (.op (some 27) (.mv (.t 1)) (.op (some 28) (.call 59 [(.t 26), (.t 27)]) (.op (some 8) (.mv (.t 28)) (.nil))))))
 (.seq (.seq (.ops (.op (some 29) (.mv (.t 8)) (.op (some 30) (.bin .lss (.t 29) (.c (.int .i64 0))) (.op (some 31) (.mv (.t 30)) (.sc 34 false 31 32 33 (.op (some 32) (.mv (.t 1)) (.op (some 33) (.bin .eql (.t 32) (.c (.str [47]))) (.nil))) (.t 33) (.nil))))))
 (.cond (.t 34) (.seq (.ops (.op (some 35) (.mv (.t 0)) (.op (some 4) (.mv (.t 35)) (.op (some 5) (.mv (.c (.int .i64 180))) (.nil)))))
 (.ret)) (.skip)))
 (.seq (.ops (.op (some 37) (.mv (.t 1)) (.op (some 38) (.call 60 [(.t 37)]) (.op (some 36) (.mv (.t 38)) (.op (some 39) (.ext (.t 36) 0) (.op (some 40) (.ext (.t 36) 1) (.op (some 41) (.ext (.t 36) 2) (.op (some 9) (.mv (.t 39)) (.op (some 10) (.mv (.t 40)) (.op (some 11) (.mv (.t 41)) (.nil)))))))))))
 (.seq (.ops (.op (some 43) (.mv (.t 0)) (.op (some 44) (.mv (.t 10)) (.op (some 45) (.call 21 [(.t 43), (.t 44)]) (.op (some 42) (.mv (.t 45)) (.op (some 46) (.ext (.t 42) 0) (.op (some 47) (.ext (.t 42) 1) (.op (some 12) (.mv (.t 46)) (.op (some 13) (.mv (.t 47)) (.nil))))))))))
 (.seq (.ops (.op (some 48) (.mv (.t 0)) (.op (some 49) (.mv (.t 8)) (.op (some 50) (.iad 3 (.t 48) (.t 49)) (.op (some 51) (.fad 2 (.t 50)) (.op (some 52) (.load 1 false (.t 51)) (.op (some 53) (.mv (.t 0)) (.op (some 54) (.mv (.t 12)) (.op (some 55) (.iad 3 (.t 53) (.t 54)) (.op (some 56) (.fad 2 (.t 55)) (.op (some 57) (.load 1 false (.t 56)) (.op (some 58) (.mm true [(.t 52), (.t 57)]) (.op (some 14) (.mv (.t 58)) (.nil))))))))))))))
 (.seq (.seq (.ops (.op (some 59) (.mv (.t 14)) (.op (some 60) (.bin .geq (.t 59) (.c (.int .i64 1099511627776))) (.nil))))
 (.cond (.t 60) (.seq (.ops (.op (some 61) (.mv (.t 0)) (.op (some 4) (.mv (.t 61)) (.op (some 5) (.mv (.c (.int .i64 76))) (.nil)))))
 (.ret)) (.skip)))
 (.seq (.ops (.op (some 15) (.mv (.c (.lst true []))) (.nil)))
 (.seq (.seq (.ops (.op (some 16) (.mv (.c (.int .i64 0))) (.nil)))
 (.block 0 (.loop [15, 16] [(15, 17), (62, 84)] [(15, 3)] [(.exit 0, [15])] c41_1)))
 (.seq (.ops (.op (some 85) (.mv (.t 15)) (.op (some 4) (.mv (.t 85)) (.op (some 5) (.mv (.c (.int .i64 0))) (.nil)))))
 (.ret)))))))))))))

theorem ok41 : okF Try.prog 41 c41 = true := by kernel_rfl

/-- catacomb/catacombref18.Move -/
def c42 : AF := AF.mk 56 [.t 6, .t 7] (.seq (.ops (.op (some 6) (.mv (.c (.lst true []))) (.op (some 7) (.mv (.c (.int .i64 0))) (.nil))))
 (.seq (.seq (.ops (.op (some 12) (.mv (.t 2)) (.op (some 13) (.bin .lss (.t 12) (.c (.int .i64 0))) (.op (some 14) (.mv (.t 13)) (.sc 17 false 14 15 16 (.op (some 15) (.mv (.t 2)) (.op (some 16) (.bin .geq (.t 15) (.c (.int .i64 8))) (.nil))) (.t 16) (.nil))))))
 (.cond (.t 17) (.seq (.ops (.op (some 18) (.mv (.t 0)) (.op (some 6) (.mv (.t 18)) (.op (some 7) (.mv (.c (.int .i64 1))) (.nil)))))
 (.ret)) (.skip)))
 (.seq (.ops (.op (some 20) (.mv (.t 1)) (.op (some 21) (.call 25 [(.t 20)]) (.op (some 19) (.mv (.t 21)) (.op (some 22) (.ext (.t 19) 0) (.op (some 23) (.ext (.t 19) 1) (.op (some 8) (.mv (.t 22)) (.op (some 9) (.mv (.t 23)) (.nil)))))))))
 (.seq (.seq (.ops (.op (some 24) (.mv (.t 9)) (.op (some 25) (.bin .neq (.t 24) (.c (.int .i64 0))) (.nil))))
 (.cond (.t 25) (.seq (.ops (.op (some 26) (.mv (.t 0)) (.op (some 6) (.mv (.t 26)) (.op (some 7) (.mv (.c (.int .i64 60))) (.nil)))))
 (.ret)) (.skip)))
 (.seq (.ops (.op (some 27) (.mv (.t 0)) (.op (some 28) (.mv (.t 1)) (.op (some 29) (.call 59 [(.t 27), (.t 28)]) (.op (some 10) (.mv (.t 29)) (.nil))))))
 (.seq (.seq (.ops (.op (some 30) (.mv (.t 10)) (.op (some 31) (.bin .lss (.t 30) (.c (.int .i64 0))) (.nil))))
 (.cond (.t 31) (.seq (.ops (.op (some 32) (.mv (.t 0)) (.op (some 6) (.mv (.t 32)) (.op (some 7) (.mv (.c (.int .i64 180))) (.nil)))))
 (.ret)) (.skip)))
 (.seq (.seq (.ops (.op (some 33) (.mv (.t 0)) (.op (some 34) (.mv (.t 10)) (.op (some 35) (.iad 3 (.t 33) (.t 34)) (.op (some 36) (.fad 2 (.t 35)) (.op (some 37) (.load 1 false (.t 36)) (.op (some 38) (.bin .geq (.t 37) (.c (.int .i64 1099511627776))) (.nil))))))))
 (.cond (.t 38) (.seq (.ops (.op (some 39) (.mv (.t 0)) (.op (some 6) (.mv (.t 39)) (.op (some 7) (.mv (.c (.int .i64 76))) (.nil)))))
 (.ret)) (.skip)))
 (.seq (.ops (.op (some 40) (.bslh 3 (.agg [.str [], .int .i64 0, .int .i64 0]) 0 []) (.op (some 41) (.mv (.t 0)) (.op (some 42) (.app 3 32 (.t 40) (.t 41)) (.op (some 11) (.mv (.t 42)) (.nil))))))
 (.seq (.ops (.op (some 43) (.mv (.t 11)) (.op (some 44) (.mv (.t 10)) (.op (some 45) (.mv (.t 1)) (.op (some 46) (.mv (.t 2)) (.op (some 47) (.mv (.t 0)) (.op (some 48) (.mv (.t 10)) (.op (some 49) (.iad 3 (.t 47) (.t 48)) (.op (some 50) (.fad 2 (.t 49)) (.op (some 51) (.load 1 false (.t 50)) (.op (some 52) (.bin .add (.t 51) (.c (.int .i64 1))) (.op (some 53) (.build [.str [], .int .i64 0, .int .i64 0] [(0, 1, (.t 45)), (1, 1, (.t 46)), (2, 1, (.t 52))]) (.op (some 54) (.iad 3 (.t 43) (.t 44)) (.op none (.store 3 (.t 54) (.t 53)) (.nil)))))))))))))))
 (.seq (.ops (.op (some 55) (.mv (.t 11)) (.op (some 6) (.mv (.t 55)) (.op (some 7) (.mv (.c (.int .i64 0))) (.nil)))))
 (.ret)))))))))))

theorem ok42 : okF Try.prog 42 c42 = true := by kernel_rfl

/-- catacomb/shard.all[catacomb/api.Piece] -/
def b43_1 : AC := .seq (.ops (.op (some 11) (.bin .lss (.t 10) (.t 9)) (.nil)))
 (.seq (.cond (.t 11) (.skip) (.exit 0))
 (.seq (.block 1 (.seq (.ops (.op (some 12) (.mv (.t 10)) (.op (some 13) (.iad 3 (.t 8) (.t 10)) (.op (some 14) (.load 3 true (.t 13)) (.op (some 7) (.alloc [.str [], .int .i64 0, .int .i64 0]) (.op (some 6) (.mv (.t 12)) (.op none (.store 3 (.t 7) (.t 14)) (.nil))))))))
 (.seq (.ops (.op (some 15) (.mv (.t 1)) (.op (some 16) (.load 3 true (.t 7)) (.op (some 17) (.callv (.t 15) [(.t 16)]) (.nil)))))
 (.cond (.t 17) (.ops (.op (some 18) (.mv (.t 5)) (.op (some 19) (.mv (.t 6)) (.op (some 20) (.bslh 1 (.int .i64 0) 1 [(0, (.t 19))]) (.op (some 21) (.app 1 8 (.t 18) (.t 20)) (.op (some 5) (.mv (.t 21)) (.nil))))))) (.skip)))))
 (.ops (.op (some 22) (.bin .add (.t 10) (.c (.int .i64 1))) (.op (some 10) (.mv (.t 22)) (.nil))))))
def c43_1 : AC := b43_1
@[simp] theorem e43_1 {Γ : Tab} {V : Nat → Bool} {ρ : Type} (k : AX → St → Option ρ) (s : St) : eval Γ c43_1 V ρ k s = eval Γ b43_1 V ρ k s := rfl
def c43 : AF := AF.mk 24 [.t 4] (.seq (.ops (.op (some 4) (.mv (.c (.lst true []))) (.nil)))
 (.seq (.ops (.op (some 5) (.mv (.c (.lst true []))) (.nil)))
 (.seq (.seq (.ops (.op (some 8) (.mv (.t 0)) (.op (some 9) (.len false (.t 8)) (.op (some 10) (.mv (.c (.int .i64 0))) (.nil)))))
 (.block 0 (.loop [5, 10] [(5, 7), (10, 22)] [(5, 1)] [(.exit 0, [5])] c43_1)))
 (.seq (.ops (.op (some 23) (.mv (.t 5)) (.op (some 4) (.mv (.t 23)) (.nil))))
 (.ret)))))

theorem ok43 : okF Try.prog 43 c43 = true := by kernel_rfl

/-- catacomb/shard.Of$1 -/
def c44 : AF := AF.mk 8 [.t 3] (.seq (.ops (.op (some 2) (.box (.t 0)) (.op (some 3) (.mv (.c (.bool false))) (.nil))))
 (.seq (.ops (.op (some 4) (.fad 0 (.t 2)) (.op (some 5) (.load 1 false (.t 4)) (.op (some 6) (.load 1 false (.t 1)) (.op (some 7) (.call 45 [(.t 5), (.t 6)]) (.op (some 3) (.mv (.t 7)) (.nil)))))))
 (.ret)))

theorem ok44 : okF Try.prog 44 c44 = true := by kernel_rfl

/-- catacomb/name.Above -/
def c45 : AF := AF.mk 40 [.t 4] (.seq (.ops (.op (some 4) (.mv (.c (.bool false))) (.nil)))
 (.seq (.ops (.op (some 10) (.mv (.t 0)) (.op (some 11) (.call 57 [(.t 10)]) (.op (some 9) (.mv (.t 11)) (.op (some 12) (.ext (.t 9) 0) (.op (some 13) (.ext (.t 9) 1) (.op (some 5) (.mv (.t 12)) (.op (some 6) (.mv (.t 13)) (.nil)))))))))
 (.seq (.ops (.op (some 15) (.mv (.t 1)) (.op (some 16) (.call 57 [(.t 15)]) (.op (some 14) (.mv (.t 16)) (.op (some 17) (.ext (.t 14) 0) (.op (some 18) (.ext (.t 14) 1) (.op (some 7) (.mv (.t 17)) (.op (some 8) (.mv (.t 18)) (.nil)))))))))
 (.seq (.ops (.op (some 19) (.mv (.t 6)) (.op (some 20) (.bin .eql (.t 19) (.c (.int .i64 0))) (.op (some 21) (.mv (.t 20)) (.sc 24 true 21 22 23 (.op (some 22) (.mv (.t 8)) (.op (some 23) (.bin .eql (.t 22) (.c (.int .i64 0))) (.nil))) (.t 23) (.op (some 25) (.mv (.t 24)) (.sc 31 true 25 26 30 (.op (some 26) (.mv (.t 5)) (.op (some 27) (.len false (.t 26)) (.op (some 28) (.mv (.t 7)) (.op (some 29) (.len false (.t 28)) (.op (some 30) (.bin .leq (.t 27) (.t 29)) (.nil)))))) (.t 30) (.op (some 32) (.mv (.t 31)) (.sc 39 true 32 33 38 (.op (some 33) (.mv (.t 5)) (.op (some 34) (.mv (.t 7)) (.op (some 35) (.mv (.t 5)) (.op (some 36) (.len false (.t 35)) (.op (some 37) (.sll 1 (.t 34) none (some (.t 36)) none) (.op (some 38) (.call 61 [(.t 33), (.t 37)]) (.nil))))))) (.t 38) (.op (some 4) (.mv (.t 39)) (.nil)))))))))))
 (.ret)))))

theorem ok45 : okF Try.prog 45 c45 = true := by kernel_rfl

/-- catacomb/shard.Below$1 -/
def c46 : AF := AF.mk 8 [.t 3] (.seq (.ops (.op (some 2) (.box (.t 0)) (.op (some 3) (.mv (.c (.bool false))) (.nil))))
 (.seq (.ops (.op (some 4) (.load 1 false (.t 1)) (.op (some 5) (.fad 0 (.t 2)) (.op (some 6) (.load 1 false (.t 5)) (.op (some 7) (.call 45 [(.t 4), (.t 6)]) (.op (some 3) (.mv (.t 7)) (.nil)))))))
 (.ret)))

theorem ok46 : okF Try.prog 46 c46 = true := by kernel_rfl

/-- catacomb/catacombref06.Right -/
def b47_1 : AC := .seq (.seq (.ops (.op (some 20) (.mv (.t 3)) (.op (some 21) (.mv (.t 0)) (.op (some 22) (.len true (.t 21)) (.op (some 23) (.bin .lss (.t 20) (.t 22)) (.nil))))))
 (.cond (.t 23) (.skip) (.exit 0)))
 (.seq (.block 1 (.seq (.ops (.op (some 26) (.mv (.t 0)) (.op (some 27) (.mv (.t 3)) (.op (some 28) (.idxs (.t 26) (.t 27)) (.op (some 29) (.bin .lss (.t 28) (.c (.int .u8 32))) (.op (some 30) (.mv (.t 29)) (.sc 35 false 30 31 34 (.op (some 31) (.mv (.t 0)) (.op (some 32) (.mv (.t 3)) (.op (some 33) (.idxs (.t 31) (.t 32)) (.op (some 34) (.bin .eql (.t 33) (.c (.int .u8 47))) (.nil))))) (.t 34) (.nil))))))))
 (.cond (.t 35) (.seq (.ops (.op (some 2) (.mv (.c (.bool false))) (.nil)))
 (.ret)) (.skip))))
 (.ops (.op (some 24) (.mv (.t 3)) (.op (some 25) (.bin .add (.t 24) (.c (.int .i64 1))) (.op (some 3) (.mv (.t 25)) (.nil))))))
def c47_1 : AC := b47_1
@[simp] theorem e47_1 {Γ : Tab} {V : Nat → Bool} {ρ : Type} (k : AX → St → Option ρ) (s : St) : eval Γ c47_1 V ρ k s = eval Γ b47_1 V ρ k s := rfl
def c47 : AF := AF.mk 36 [.t 2] (.seq (.ops (.op (some 2) (.mv (.c (.bool false))) (.nil)))
 (.seq (.seq (.ops (.op (some 4) (.mv (.t 0)) (.op (some 5) (.len true (.t 4)) (.op (some 6) (.bin .lss (.t 5) (.c (.int .i64 1))) (.op (some 7) (.mv (.t 6)) (.sc 11 false 7 8 10 (.op (some 8) (.mv (.t 0)) (.op (some 9) (.len true (.t 8)) (.op (some 10) (.bin .gtr (.t 9) (.c (.int .i64 32))) (.nil)))) (.t 10) (.op (some 12) (.mv (.t 11)) (.sc 15 false 12 13 14 (.op (some 13) (.mv (.t 0)) (.op (some 14) (.bin .eql (.t 13) (.c (.str [46]))) (.nil))) (.t 14) (.op (some 16) (.mv (.t 15)) (.sc 19 false 16 17 18 (.op (some 17) (.mv (.t 0)) (.op (some 18) (.bin .eql (.t 17) (.c (.str [46, 46]))) (.nil))) (.t 18) (.nil)))))))))))
 (.cond (.t 19) (.seq (.ops (.op (some 2) (.mv (.c (.bool false))) (.nil)))
 (.ret)) (.skip)))
 (.seq (.seq (.ops (.op (some 3) (.mv (.c (.int .i64 0))) (.nil)))
 (.block 0 (.loop [3] [(2, 3), (20, 35)] [] [(.exit 0, []), (.ret, [2])] c47_1)))
 (.seq (.ops (.op (some 2) (.mv (.c (.bool true))) (.nil)))
 (.ret)))))

theorem ok47 : okF Try.prog 47 c47 = true := by kernel_rfl

/-- catacomb/shard.place -/
def c48 : AF := AF.mk 11 [.t 4, .t 5] (.seq (.ops (.op (some 4) (.mv (.c (.int .i64 0))) (.op (some 5) (.mv (.c (.bool false))) (.nil))))
 (.seq (.ops (.op (some 6) (.mv (.t 0)) (.op (some 7) (.mv (.t 1)) (.op (some 8) (.call 62 [(.t 6), (.t 7), (.c (.fn (.func 63) [] []))]) (.op (some 9) (.ext (.t 8) 0) (.op (some 10) (.ext (.t 8) 1) (.op (some 4) (.mv (.t 9)) (.op (some 5) (.mv (.t 10)) (.nil)))))))))
 (.ret)))

theorem ok48 : okF Try.prog 48 c48 = true := by kernel_rfl

/-- catacomb/shard.change[catacomb/api.Piece] -/
def c49 : AF := AF.mk 16 [.t 6] (.seq (.ops (.op (some 6) (.mv (.c (.lst true []))) (.nil)))
 (.seq (.ops (.op (some 8) (.mv (.t 0)) (.op (some 9) (.call 39 [(.t 8)]) (.op (some 7) (.mv (.t 9)) (.nil)))))
 (.seq (.ops (.op (some 10) (.mv (.t 2)) (.op (some 11) (.mv (.t 7)) (.op (some 12) (.mv (.t 1)) (.op (some 13) (.iad 3 (.t 11) (.t 12)) (.op (some 14) (.callv (.t 10) [(.t 13)]) (.nil)))))))
 (.seq (.ops (.op (some 15) (.mv (.t 7)) (.op (some 6) (.mv (.t 15)) (.nil))))
 (.ret)))))

theorem ok49 : okF Try.prog 49 c49 = true := by kernel_rfl

/-- catacomb/shard.Cut$1 -/
def c50 : AF := AF.mk 7 [] (.ops (.op (some 3) (.mv (.t 0)) (.op (some 4) (.load 1 false (.t 1)) (.op (some 5) (.nck (.t 3)) (.op (some 6) (.fad 2 (.t 5)) (.op none (.store 1 (.t 6) (.t 4)) (.nil)))))))

theorem ok50 : okF Try.prog 50 c50 = true := by kernel_rfl

/-- catacomb/name.Last -/
def c52 : AF := AF.mk 31 [.t 2, .t 3, .t 4] (.seq (.ops (.op (some 2) (.mv (.c (.str []))) (.op (some 3) (.mv (.c (.str []))) (.op (some 4) (.mv (.c (.int .i64 0))) (.nil)))))
 (.seq (.ops (.op (some 9) (.mv (.t 0)) (.op (some 10) (.call 57 [(.t 9)]) (.op (some 8) (.mv (.t 10)) (.op (some 11) (.ext (.t 8) 0) (.op (some 12) (.ext (.t 8) 1) (.op (some 5) (.mv (.t 11)) (.op (some 6) (.mv (.t 12)) (.nil)))))))))
 (.seq (.seq (.ops (.op (some 13) (.mv (.t 6)) (.op (some 14) (.bin .neq (.t 13) (.c (.int .i64 0))) (.op (some 15) (.mv (.t 14)) (.sc 19 false 15 16 18 (.op (some 16) (.mv (.t 5)) (.op (some 17) (.len false (.t 16)) (.op (some 18) (.bin .eql (.t 17) (.c (.int .i64 0))) (.nil)))) (.t 18) (.nil))))))
 (.cond (.t 19) (.seq (.ops (.op (some 2) (.mv (.c (.str []))) (.op (some 3) (.mv (.c (.str []))) (.op (some 4) (.mv (.c (.int .i64 60))) (.nil)))))
 (.ret)) (.skip)))
 (.seq (.ops (.op (some 20) (.mv (.t 5)) (.op (some 21) (.len false (.t 20)) (.op (some 22) (.bin .sub (.t 21) (.c (.int .i64 1))) (.op (some 7) (.mv (.t 22)) (.nil))))))
 (.seq (.ops (.op (some 23) (.mv (.t 5)) (.op (some 24) (.mv (.t 7)) (.op (some 25) (.iad 1 (.t 23) (.t 24)) (.op (some 26) (.load 1 false (.t 25)) (.op (some 27) (.mv (.t 5)) (.op (some 28) (.mv (.t 7)) (.op (some 29) (.sll 1 (.t 27) none (some (.t 28)) none) (.op (some 30) (.callp 66 [(.t 29)]) (.op (some 2) (.mv (.t 26)) (.op (some 3) (.mv (.t 30)) (.op (some 4) (.mv (.c (.int .i64 0))) (.nil)))))))))))))
 (.ret))))))

theorem ok52 : okF Try.prog 52 c52 = true := by kernel_rfl

/-- catacomb/shard.Join$1 -/
def c53 : AF := AF.mk 8 [] (.ops (.op (some 3) (.mv (.t 0)) (.op (some 4) (.load 1 false (.t 1)) (.op (some 5) (.bin .add (.t 4) (.c (.int .i64 1))) (.op (some 6) (.nck (.t 3)) (.op (some 7) (.fad 2 (.t 6)) (.op none (.store 1 (.t 7) (.t 5)) (.nil))))))))

theorem ok53 : okF Try.prog 53 c53 = true := by kernel_rfl

/-- catacomb/shard.Move$1 -/
def c55 : AF := AF.mk 15 [] (.ops (.op (some 3) (.mv (.t 0)) (.op (some 4) (.mv (.t 0)) (.op (some 5) (.load 1 false (.t 1)) (.op (some 6) (.mv (.t 0)) (.op (some 7) (.nck (.t 6)) (.op (some 8) (.fad 2 (.t 7)) (.op (some 9) (.load 1 false (.t 8)) (.op (some 10) (.bin .add (.t 9) (.c (.int .i64 1))) (.op (some 11) (.nck (.t 3)) (.op (some 12) (.fad 1 (.t 11)) (.op none (.store 1 (.t 12) (.t 5)) (.op (some 13) (.nck (.t 4)) (.op (some 14) (.fad 2 (.t 13)) (.op none (.store 1 (.t 14) (.t 10)) (.nil))))))))))))))))

theorem ok55 : okF Try.prog 55 c55 = true := by kernel_rfl

/-- internal/bytealg.CompareString -/
def c56 : AF := AF.mk 8 [.t 4] (.seq (.ops (.op (some 4) (.mv (.c (.int .i64 0))) (.nil)))
 (.seq (.ops (.op (some 5) (.mv (.t 0)) (.op (some 6) (.mv (.t 1)) (.op (some 7) (.call 67 [(.t 5), (.t 6)]) (.op (some 4) (.mv (.t 7)) (.nil))))))
 (.ret)))

theorem ok56 : okF Try.prog 56 c56 = true := by kernel_rfl

/-- slices.IndexFunc[[]catacomb/api.Piece,catacomb/api.Piece] -/
def b58_1 : AC := .seq (.ops (.op (some 9) (.bin .lss (.t 8) (.t 7)) (.nil)))
 (.seq (.cond (.t 9) (.skip) (.exit 0))
 (.seq (.block 1 (.seq (.ops (.op (some 10) (.mv (.t 8)) (.op (some 5) (.mv (.t 10)) (.nil))))
 (.seq (.ops (.op (some 11) (.mv (.t 1)) (.op (some 12) (.mv (.t 0)) (.op (some 13) (.mv (.t 5)) (.op (some 14) (.iad 3 (.t 12) (.t 13)) (.op (some 15) (.load 3 true (.t 14)) (.op (some 16) (.callv (.t 11) [(.t 15)]) (.nil))))))))
 (.cond (.t 16) (.seq (.ops (.op (some 17) (.mv (.t 5)) (.op (some 4) (.mv (.t 17)) (.nil))))
 (.ret)) (.skip)))))
 (.ops (.op (some 18) (.bin .add (.t 8) (.c (.int .i64 1))) (.op (some 8) (.mv (.t 18)) (.nil))))))
def c58_1 : AC := b58_1
@[simp] theorem e58_1 {Γ : Tab} {V : Nat → Bool} {ρ : Type} (k : AX → St → Option ρ) (s : St) : eval Γ c58_1 V ρ k s = eval Γ b58_1 V ρ k s := rfl
def c58 : AF := AF.mk 19 [.t 4] (.seq (.ops (.op (some 4) (.mv (.c (.int .i64 0))) (.nil)))
 (.seq (.seq (.ops (.op (some 6) (.mv (.t 0)) (.op (some 7) (.len false (.t 6)) (.op (some 8) (.mv (.c (.int .i64 0))) (.nil)))))
 (.block 0 (.loop [8] [(4, 5), (8, 18)] [] [(.exit 0, []), (.ret, [4])] c58_1)))
 (.seq (.ops (.op (some 4) (.mv (.c (.int .i64 (-1)))) (.nil)))
 (.ret))))

theorem ok58 : okF Try.prog 58 c58 = true := by kernel_rfl

/-- catacomb/catacombref18.place -/
def b59_1 : AC := .seq (.seq (.ops (.op (some 6) (.mv (.t 5)) (.op (some 7) (.mv (.t 0)) (.op (some 8) (.len false (.t 7)) (.op (some 9) (.bin .lss (.t 6) (.t 8)) (.nil))))))
 (.cond (.t 9) (.skip) (.exit 0)))
 (.seq (.block 1 (.seq (.ops (.op (some 12) (.mv (.t 0)) (.op (some 13) (.mv (.t 5)) (.op (some 14) (.iad 3 (.t 12) (.t 13)) (.op (some 15) (.fad 0 (.t 14)) (.op (some 16) (.load 1 false (.t 15)) (.op (some 17) (.mv (.t 1)) (.op (some 18) (.bin .eql (.t 16) (.t 17)) (.nil)))))))))
 (.cond (.t 18) (.seq (.ops (.op (some 19) (.mv (.t 5)) (.op (some 4) (.mv (.t 19)) (.nil))))
 (.ret)) (.skip))))
 (.ops (.op (some 10) (.mv (.t 5)) (.op (some 11) (.bin .add (.t 10) (.c (.int .i64 1))) (.op (some 5) (.mv (.t 11)) (.nil))))))
def c59_1 : AC := b59_1
@[simp] theorem e59_1 {Γ : Tab} {V : Nat → Bool} {ρ : Type} (k : AX → St → Option ρ) (s : St) : eval Γ c59_1 V ρ k s = eval Γ b59_1 V ρ k s := rfl
def c59 : AF := AF.mk 20 [.t 4] (.seq (.ops (.op (some 4) (.mv (.c (.int .i64 0))) (.nil)))
 (.seq (.seq (.ops (.op (some 5) (.mv (.c (.int .i64 0))) (.nil)))
 (.block 0 (.loop [5] [(4, 19)] [] [(.exit 0, []), (.ret, [4])] c59_1)))
 (.seq (.ops (.op (some 4) (.mv (.c (.int .i64 (-1)))) (.nil)))
 (.ret))))

theorem ok59 : okF Try.prog 59 c59 = true := by kernel_rfl

/-- catacomb/catacombref06.Last -/
def c60 : AF := AF.mk 31 [.t 2, .t 3, .t 4] (.seq (.ops (.op (some 2) (.mv (.c (.str []))) (.op (some 3) (.mv (.c (.str []))) (.op (some 4) (.mv (.c (.int .i64 0))) (.nil)))))
 (.seq (.ops (.op (some 8) (.mv (.t 0)) (.op (some 9) (.call 25 [(.t 8)]) (.op (some 7) (.mv (.t 9)) (.op (some 10) (.ext (.t 7) 0) (.op (some 11) (.ext (.t 7) 1) (.op (some 5) (.mv (.t 10)) (.op (some 6) (.mv (.t 11)) (.nil)))))))))
 (.seq (.seq (.ops (.op (some 12) (.mv (.t 6)) (.op (some 13) (.bin .neq (.t 12) (.c (.int .i64 0))) (.op (some 14) (.mv (.t 13)) (.sc 18 false 14 15 17 (.op (some 15) (.mv (.t 5)) (.op (some 16) (.len false (.t 15)) (.op (some 17) (.bin .eql (.t 16) (.c (.int .i64 0))) (.nil)))) (.t 17) (.nil))))))
 (.cond (.t 18) (.seq (.ops (.op (some 2) (.mv (.c (.str []))) (.op (some 3) (.mv (.c (.str []))) (.op (some 4) (.mv (.c (.int .i64 60))) (.nil)))))
 (.ret)) (.skip)))
 (.seq (.ops (.op (some 19) (.mv (.t 5)) (.op (some 20) (.mv (.t 5)) (.op (some 21) (.len false (.t 20)) (.op (some 22) (.bin .sub (.t 21) (.c (.int .i64 1))) (.op (some 23) (.iad 1 (.t 19) (.t 22)) (.op (some 24) (.load 1 false (.t 23)) (.op (some 25) (.mv (.t 5)) (.op (some 26) (.mv (.t 5)) (.op (some 27) (.len false (.t 26)) (.op (some 28) (.bin .sub (.t 27) (.c (.int .i64 1))) (.op (some 29) (.sll 1 (.t 25) none (some (.t 28)) none) (.op (some 30) (.callp 70 [(.t 29)]) (.op (some 2) (.mv (.t 24)) (.op (some 3) (.mv (.t 30)) (.op (some 4) (.mv (.c (.int .i64 0))) (.nil)))))))))))))))))
 (.ret)))))

theorem ok60 : okF Try.prog 60 c60 = true := by kernel_rfl

/-- slices.Equal[[]string,string] -/
def b61_1 : AC := .seq (.ops (.op (some 14) (.bin .lss (.t 13) (.t 12)) (.nil)))
 (.seq (.cond (.t 14) (.skip) (.exit 0))
 (.seq (.block 1 (.seq (.ops (.op (some 15) (.mv (.t 13)) (.op (some 5) (.mv (.t 15)) (.nil))))
 (.seq (.ops (.op (some 16) (.mv (.t 0)) (.op (some 17) (.mv (.t 5)) (.op (some 18) (.iad 1 (.t 16) (.t 17)) (.op (some 19) (.load 1 false (.t 18)) (.op (some 20) (.mv (.t 1)) (.op (some 21) (.mv (.t 5)) (.op (some 22) (.iad 1 (.t 20) (.t 21)) (.op (some 23) (.load 1 false (.t 22)) (.op (some 24) (.bin .neq (.t 19) (.t 23)) (.nil)))))))))))
 (.cond (.t 24) (.seq (.ops (.op (some 4) (.mv (.c (.bool false))) (.nil)))
 (.ret)) (.skip)))))
 (.ops (.op (some 25) (.bin .add (.t 13) (.c (.int .i64 1))) (.op (some 13) (.mv (.t 25)) (.nil))))))
def c61_1 : AC := b61_1
@[simp] theorem e61_1 {Γ : Tab} {V : Nat → Bool} {ρ : Type} (k : AX → St → Option ρ) (s : St) : eval Γ c61_1 V ρ k s = eval Γ b61_1 V ρ k s := rfl
def c61 : AF := AF.mk 26 [.t 4] (.seq (.ops (.op (some 4) (.mv (.c (.bool false))) (.nil)))
 (.seq (.seq (.ops (.op (some 6) (.mv (.t 0)) (.op (some 7) (.len false (.t 6)) (.op (some 8) (.mv (.t 1)) (.op (some 9) (.len false (.t 8)) (.op (some 10) (.bin .neq (.t 7) (.t 9)) (.nil)))))))
 (.cond (.t 10) (.seq (.ops (.op (some 4) (.mv (.c (.bool false))) (.nil)))
 (.ret)) (.skip)))
 (.seq (.seq (.ops (.op (some 11) (.mv (.t 0)) (.op (some 12) (.len false (.t 11)) (.op (some 13) (.mv (.c (.int .i64 0))) (.nil)))))
 (.block 0 (.loop [13] [(4, 5), (13, 25)] [] [(.exit 0, []), (.ret, [4])] c61_1)))
 (.seq (.ops (.op (some 4) (.mv (.c (.bool true))) (.nil)))
 (.ret)))))

theorem ok61 : okF Try.prog 61 c61 = true := by kernel_rfl

/-- slices.BinarySearchFunc[[]catacomb/api.Piece,catacomb/api.Piece,string] -/
def b62_1 : AC := .seq (.seq (.ops (.op (some 15) (.mv (.t 9)) (.op (some 16) (.mv (.t 10)) (.op (some 17) (.bin .lss (.t 15) (.t 16)) (.nil)))))
 (.cond (.t 17) (.skip) (.exit 0)))
 (.block 1 (.seq (.ops (.op (some 18) (.mv (.t 9)) (.op (some 19) (.mv (.t 10)) (.op (some 20) (.bin .add (.t 18) (.t 19)) (.op (some 21) (.conv .u64 (.t 20)) (.op (some 22) (.bin .shr (.t 21) (.c (.int .u64 1))) (.op (some 23) (.conv .i64 (.t 22)) (.op (some 11) (.mv (.t 23)) (.nil)))))))))
 (.seq (.ops (.op (some 24) (.mv (.t 2)) (.op (some 25) (.mv (.t 0)) (.op (some 26) (.mv (.t 11)) (.op (some 27) (.iad 3 (.t 25) (.t 26)) (.op (some 28) (.load 3 true (.t 27)) (.op (some 29) (.mv (.t 1)) (.op (some 30) (.callv (.t 24) [(.t 28), (.t 29)]) (.op (some 31) (.bin .lss (.t 30) (.c (.int .i64 0))) (.nil))))))))))
 (.cond (.t 31) (.ops (.op (some 32) (.mv (.t 11)) (.op (some 33) (.bin .add (.t 32) (.c (.int .i64 1))) (.op (some 9) (.mv (.t 33)) (.nil))))) (.ops (.op (some 34) (.mv (.t 11)) (.op (some 10) (.mv (.t 34)) (.nil))))))))
def c62_1 : AC := b62_1
@[simp] theorem e62_1 {Γ : Tab} {V : Nat → Bool} {ρ : Type} (k : AX → St → Option ρ) (s : St) : eval Γ c62_1 V ρ k s = eval Γ b62_1 V ρ k s := rfl
def c62 : AF := AF.mk 49 [.t 6, .t 7] (.seq (.ops (.op (some 6) (.mv (.c (.int .i64 0))) (.op (some 7) (.mv (.c (.bool false))) (.nil))))
 (.seq (.ops (.op (some 12) (.mv (.t 0)) (.op (some 13) (.len false (.t 12)) (.op (some 8) (.mv (.t 13)) (.nil)))))
 (.seq (.ops (.op (some 14) (.mv (.t 8)) (.op (some 9) (.mv (.c (.int .i64 0))) (.op (some 10) (.mv (.t 14)) (.nil)))))
 (.seq (.block 0 (.loop [9, 10] [(9, 11), (15, 34)] [] [(.exit 0, [9])] c62_1))
 (.seq (.ops (.op (some 35) (.mv (.t 9)) (.op (some 36) (.mv (.t 9)) (.op (some 37) (.mv (.t 8)) (.op (some 38) (.bin .lss (.t 36) (.t 37)) (.op (some 39) (.mv (.t 38)) (.sc 48 true 39 40 47 (.op (some 40) (.mv (.t 2)) (.op (some 41) (.mv (.t 0)) (.op (some 42) (.mv (.t 9)) (.op (some 43) (.iad 3 (.t 41) (.t 42)) (.op (some 44) (.load 3 true (.t 43)) (.op (some 45) (.mv (.t 1)) (.op (some 46) (.callv (.t 40) [(.t 44), (.t 45)]) (.op (some 47) (.bin .eql (.t 46) (.c (.int .i64 0))) (.nil))))))))) (.t 47) (.op (some 6) (.mv (.t 35)) (.op (some 7) (.mv (.t 48)) (.nil))))))))))
 (.ret))))))

theorem ok62 : okF Try.prog 62 c62 = true := by kernel_rfl

/-- catacomb/shard.place$1 -/
def c63 : AF := AF.mk 9 [.t 4] (.seq (.ops (.op (some 2) (.box (.t 0)) (.op (some 4) (.mv (.c (.int .i64 0))) (.nil))))
 (.seq (.ops (.op (some 5) (.fad 0 (.t 2)) (.op (some 6) (.load 1 false (.t 5)) (.op (some 7) (.mv (.t 1)) (.op (some 8) (.call 31 [(.t 6), (.t 7)]) (.op (some 4) (.mv (.t 8)) (.nil)))))))
 (.ret)))

theorem ok63 : okF Try.prog 63 c63 = true := by kernel_rfl

/-- catacomb/name.Join -/
def c66 : AF := AF.mk 9 [.t 2] (.seq (.ops (.op (some 2) (.mv (.c (.str []))) (.nil)))
 (.seq (.seq (.ops (.op (some 3) (.mv (.t 0)) (.op (some 4) (.len false (.t 3)) (.op (some 5) (.bin .eql (.t 4) (.c (.int .i64 0))) (.nil)))))
 (.cond (.t 5) (.seq (.ops (.op (some 2) (.mv (.c (.str [47]))) (.nil)))
 (.ret)) (.skip)))
 (.seq (.ops (.op (some 6) (.mv (.t 0)) (.op (some 7) (.call 72 [(.t 6), (.c (.str [47]))]) (.op (some 8) (.bin .add (.c (.str [47])) (.t 7)) (.op (some 2) (.mv (.t 8)) (.nil))))))
 (.ret))))

theorem ok66 : okF Try.prog 66 c66 = true := by kernel_rfl

/-- catacomb/name.pieces -/
def c68 : AF := AF.mk 4 [.t 2] (.seq (.ops (.op (some 1) (.box (.t 0)) (.op (some 2) (.mv (.c (.nilf))) (.nil))))
 (.seq (.ops (.op (some 3) (.mkf (.func 73) [] [(.t 1)]) (.op (some 2) (.mv (.t 3)) (.nil))))
 (.ret)))

theorem ok68 : okF Try.prog 68 c68 = true := by kernel_rfl

/-- catacomb/catacombref06.Join -/
def b70_1 : AC := .seq (.seq (.ops (.op (some 8) (.mv (.t 4)) (.op (some 9) (.mv (.t 0)) (.op (some 10) (.len false (.t 9)) (.op (some 11) (.bin .lss (.t 8) (.t 10)) (.nil))))))
 (.cond (.t 11) (.skip) (.exit 0)))
 (.seq (.block 1 (.ops (.op (some 14) (.mv (.t 3)) (.op (some 15) (.bin .add (.t 14) (.c (.str [47]))) (.op (some 16) (.mv (.t 0)) (.op (some 17) (.mv (.t 4)) (.op (some 18) (.iad 1 (.t 16) (.t 17)) (.op (some 19) (.load 1 false (.t 18)) (.op (some 20) (.bin .add (.t 15) (.t 19)) (.op (some 3) (.mv (.t 20)) (.nil)))))))))))
 (.ops (.op (some 12) (.mv (.t 4)) (.op (some 13) (.bin .add (.t 12) (.c (.int .i64 1))) (.op (some 4) (.mv (.t 13)) (.nil))))))
def c70_1 : AC := b70_1
@[simp] theorem e70_1 {Γ : Tab} {V : Nat → Bool} {ρ : Type} (k : AX → St → Option ρ) (s : St) : eval Γ c70_1 V ρ k s = eval Γ b70_1 V ρ k s := rfl
def c70 : AF := AF.mk 22 [.t 2] (.seq (.ops (.op (some 2) (.mv (.c (.str []))) (.nil)))
 (.seq (.seq (.ops (.op (some 5) (.mv (.t 0)) (.op (some 6) (.len false (.t 5)) (.op (some 7) (.bin .eql (.t 6) (.c (.int .i64 0))) (.nil)))))
 (.cond (.t 7) (.seq (.ops (.op (some 2) (.mv (.c (.str [47]))) (.nil)))
 (.ret)) (.skip)))
 (.seq (.ops (.op (some 3) (.mv (.c (.str []))) (.nil)))
 (.seq (.seq (.ops (.op (some 4) (.mv (.c (.int .i64 0))) (.nil)))
 (.block 0 (.loop [3, 4] [(3, 4), (8, 20)] [] [(.exit 0, [3])] c70_1)))
 (.seq (.ops (.op (some 21) (.mv (.t 3)) (.op (some 2) (.mv (.t 21)) (.nil))))
 (.ret))))))

theorem ok70 : okF Try.prog 70 c70 = true := by kernel_rfl

/-- strings.CutPrefix -/
def c74 : AF := AF.mk 11 [.t 4, .t 5] (.seq (.ops (.op (some 4) (.mv (.c (.str []))) (.op (some 5) (.mv (.c (.bool false))) (.nil))))
 (.seq (.ops (.op (some 6) (.mv (.t 0)) (.op (some 7) (.mv (.t 1)) (.op (some 8) (.call 80 [(.t 6), (.t 7)]) (.op (some 9) (.ext (.t 8) 0) (.op (some 10) (.ext (.t 8) 1) (.op (some 4) (.mv (.t 9)) (.op (some 5) (.mv (.t 10)) (.nil)))))))))
 (.ret)))

theorem ok74 : okF Try.prog 74 c74 = true := by kernel_rfl

/-- strings.IndexByte -/
def c75 : AF := AF.mk 8 [.t 4] (.seq (.ops (.op (some 4) (.mv (.c (.int .i64 0))) (.nil)))
 (.seq (.ops (.op (some 5) (.mv (.t 0)) (.op (some 6) (.mv (.t 1)) (.op (some 7) (.call 81 [(.t 5), (.t 6)]) (.op (some 4) (.mv (.t 7)) (.nil))))))
 (.ret)))

theorem ok75 : okF Try.prog 75 c75 = true := by kernel_rfl

/-- internal/stringslite.CutPrefix -/
def c80 : AF := AF.mk 15 [.t 4, .t 5] (.seq (.ops (.op (some 4) (.mv (.c (.str []))) (.op (some 5) (.mv (.c (.bool false))) (.nil))))
 (.seq (.seq (.ops (.op (some 6) (.mv (.t 0)) (.op (some 7) (.mv (.t 1)) (.op (some 8) (.call 84 [(.t 6), (.t 7)]) (.op (some 9) (.un .not (.t 8)) (.nil))))))
 (.cond (.t 9) (.seq (.ops (.op (some 10) (.mv (.t 0)) (.op (some 4) (.mv (.t 10)) (.op (some 5) (.mv (.c (.bool false))) (.nil)))))
 (.ret)) (.skip)))
 (.seq (.ops (.op (some 11) (.mv (.t 0)) (.op (some 12) (.mv (.t 1)) (.op (some 13) (.len true (.t 12)) (.op (some 14) (.sls (.t 11) (some (.t 13)) none) (.op (some 4) (.mv (.t 14)) (.op (some 5) (.mv (.c (.bool true))) (.nil))))))))
 (.ret))))

theorem ok80 : okF Try.prog 80 c80 = true := by kernel_rfl

/-- internal/stringslite.HasPrefix -/
def c84 : AF := AF.mk 18 [.t 4] (.seq (.ops (.op (some 4) (.mv (.c (.bool false))) (.nil)))
 (.seq (.ops (.op (some 5) (.mv (.t 0)) (.op (some 6) (.len true (.t 5)) (.op (some 7) (.mv (.t 1)) (.op (some 8) (.len true (.t 7)) (.op (some 9) (.bin .geq (.t 6) (.t 8)) (.op (some 10) (.mv (.t 9)) (.sc 17 true 10 11 16 (.op (some 11) (.mv (.t 0)) (.op (some 12) (.mv (.t 1)) (.op (some 13) (.len true (.t 12)) (.op (some 14) (.sls (.t 11) none (some (.t 13))) (.op (some 15) (.mv (.t 1)) (.op (some 16) (.bin .eql (.t 14) (.t 15)) (.nil))))))) (.t 16) (.op (some 4) (.mv (.t 17)) (.nil))))))))))
 (.ret)))

theorem ok84 : okF Try.prog 84 c84 = true := by kernel_rfl

end Go.Proofs.Ytlooipgkklaijaa
