/-
  Literals of functions, for the abstract machine; that they are meant.
-/
import Derived.Test.YtgefdmkmobaefaaProg
import Derived.Test.YtgefdmkmobaefaaAmGU
import Derived.Test.YtgefdmkmobaefaaAmGS
import Derived.KernelRfl
set_option linter.unusedSimpArgs false
set_option linter.unusedVariables false
namespace Go.Proofs.Ytgefdmkmobaefaa
open Go.Am
def b3_1 : AC := .seq (.seq (.ops (.op (some 56) (.mv (.t 9)) (.op (some 57) (.mv (.t 1)) (.op (some 58) (.mv (.t 8)) (.op (some 59) (.iad 3 (.t 57) (.t 58)) (.op (some 60) (.fad 2 (.t 59)) (.op (some 61) (.load 1 false (.t 60)) (.op (some 62) (.len false (.t 61)) (.op (some 63) (.bin .lss (.t 56) (.t 62)) (.nil))))))))))
 (.cond (.t 63) (.skip) (.exit 2)))
 (.seq (.block 3 (.seq (.ops (.op (some 66) (.mv (.t 1)) (.op (some 67) (.mv (.t 8)) (.op (some 68) (.iad 3 (.t 66) (.t 67)) (.op (some 69) (.fad 2 (.t 68)) (.op (some 70) (.load 1 false (.t 69)) (.op (some 71) (.mv (.t 9)) (.op (some 72) (.iad 1 (.t 70) (.t 71)) (.op (some 73) (.load 1 false (.t 72)) (.op (some 74) (.len true (.t 73)) (.op (some 75) (.bin .gtr (.t 74) (.c (.int .i64 400))) (.nil))))))))))))
 (.cond (.t 75) (.seq (.ops (.op (some 76) (.mv (.t 5)) (.op (some 4) (.mv (.t 76)) (.nil))))
 (.ret)) (.skip))))
 (.ops (.op (some 64) (.mv (.t 9)) (.op (some 65) (.bin .add (.t 64) (.c (.int .i64 1))) (.op (some 9) (.mv (.t 65)) (.nil))))))
def c3_1 : AC := b3_1
@[simp] theorem e3_1 {Γ : Tab} {V : Nat → Bool} {ρ : Type} (k : AX → St → Option ρ) (s : St) : eval Γ c3_1 V ρ k s = eval Γ b3_1 V ρ k s := rfl
def b3_2 : AC := .seq (.seq (.ops (.op (some 33) (.mv (.t 8)) (.op (some 34) (.mv (.t 1)) (.op (some 35) (.len false (.t 34)) (.op (some 36) (.bin .lss (.t 33) (.t 35)) (.nil))))))
 (.cond (.t 36) (.skip) (.exit 0)))
 (.seq (.block 1 (.seq (.seq (.ops (.op (some 39) (.mv (.t 1)) (.op (some 40) (.mv (.t 8)) (.op (some 41) (.iad 3 (.t 39) (.t 40)) (.op (some 42) (.fad 1 (.t 41)) (.op (some 43) (.load 1 false (.t 42)) (.op (some 44) (.len false (.t 43)) (.op (some 45) (.bin .gtr (.t 44) (.c (.int .i64 10))) (.op (some 46) (.mv (.t 45)) (.sc 54 false 46 47 53 (.op (some 47) (.mv (.t 1)) (.op (some 48) (.mv (.t 8)) (.op (some 49) (.iad 3 (.t 47) (.t 48)) (.op (some 50) (.fad 2 (.t 49)) (.op (some 51) (.load 1 false (.t 50)) (.op (some 52) (.len false (.t 51)) (.op (some 53) (.bin .gtr (.t 52) (.c (.int .i64 10))) (.nil)))))))) (.t 53) (.nil)))))))))))
 (.cond (.t 54) (.seq (.ops (.op (some 55) (.mv (.t 5)) (.op (some 4) (.mv (.t 55)) (.nil))))
 (.ret)) (.skip)))
 (.seq (.seq (.ops (.op (some 9) (.mv (.c (.int .i64 0))) (.nil)))
 (.block 2 (.loop [9] [(4, 4), (9, 9), (56, 76)] [] [(.exit 2, []), (.ret, [4])] c3_1)))
 (.seq (.ops (.op (some 78) (.load 3 true (.t 6)) (.op (some 79) (.mv (.t 1)) (.op (some 80) (.mv (.t 8)) (.op (some 81) (.iad 3 (.t 79) (.t 80)) (.op (some 82) (.fad 1 (.t 81)) (.op (some 83) (.load 1 false (.t 82)) (.op (some 84) (.mv (.t 1)) (.op (some 85) (.mv (.t 8)) (.op (some 86) (.iad 3 (.t 84) (.t 85)) (.op (some 87) (.fad 2 (.t 86)) (.op (some 88) (.load 1 false (.t 87)) (.op (some 89) (.callp 12 [(.t 78), (.t 83), (.t 88)]) (.op (some 77) (.mv (.t 89)) (.op (some 90) (.ext (.t 77) 0) (.op (some 91) (.ext (.t 77) 1) (.op (some 92) (.ext (.t 77) 2) (.op (some 93) (.ext (.t 77) 3) (.op (some 10) (.alloc [.int .i64 0, .int .i64 0, .lst true []]) (.op none (.store 3 (.t 10) (.t 90)) (.op (some 11) (.mv (.t 91)) (.op (some 12) (.mv (.t 92)) (.op (some 13) (.mv (.t 93)) (.nil))))))))))))))))))))))))
 (.seq (.ops (.op (some 95) (.load 3 true (.t 7)) (.op (some 96) (.mv (.t 1)) (.op (some 97) (.mv (.t 8)) (.op (some 98) (.iad 3 (.t 96) (.t 97)) (.op (some 99) (.fad 1 (.t 98)) (.op (some 100) (.load 1 false (.t 99)) (.op (some 101) (.mv (.t 1)) (.op (some 102) (.mv (.t 8)) (.op (some 103) (.iad 3 (.t 101) (.t 102)) (.op (some 104) (.fad 2 (.t 103)) (.op (some 105) (.load 1 false (.t 104)) (.op (some 106) (.callp 13 [(.t 95), (.t 100), (.t 105)]) (.op (some 94) (.mv (.t 106)) (.op (some 107) (.ext (.t 94) 0) (.op (some 108) (.ext (.t 94) 1) (.op (some 109) (.ext (.t 94) 2) (.op (some 110) (.ext (.t 94) 3) (.op (some 14) (.alloc [.int .i64 0, .int .i64 0, .lst true []]) (.op none (.store 3 (.t 14) (.t 107)) (.op (some 15) (.mv (.t 108)) (.op (some 16) (.mv (.t 109)) (.op (some 17) (.mv (.t 110)) (.nil))))))))))))))))))))))))
 (.seq (.ops (.op (some 111) (.load 3 true (.t 10)) (.op (some 112) (.load 3 true (.t 14)) (.op (some 113) (.call 14 [(.t 111), (.t 112)]) (.op (some 18) (.mv (.t 113)) (.nil))))))
 (.seq (.ops (.op (some 114) (.mv (.t 12)) (.op (some 115) (.mv (.t 16)) (.op (some 116) (.call 15 [(.t 114), (.t 115)]) (.op (some 19) (.mv (.t 116)) (.nil))))))
 (.seq (.seq (.ops (.op (some 117) (.mv (.t 18)) (.op (some 118) (.un .not (.t 117)) (.op (some 119) (.mv (.t 118)) (.sc 122 false 119 120 121 (.op (some 120) (.mv (.t 19)) (.op (some 121) (.un .not (.t 120)) (.nil))) (.t 121) (.op (some 123) (.mv (.t 122)) (.sc 127 false 123 124 126 (.op (some 124) (.mv (.t 11)) (.op (some 125) (.mv (.t 15)) (.op (some 126) (.bin .neq (.t 124) (.t 125)) (.nil)))) (.t 126) (.op (some 128) (.mv (.t 127)) (.sc 132 false 128 129 131 (.op (some 129) (.mv (.t 13)) (.op (some 130) (.mv (.t 17)) (.op (some 131) (.bin .neq (.t 129) (.t 130)) (.nil)))) (.t 131) (.nil))))))))))
 (.cond (.t 132) (.seq (.ops (.op (some 4) (.mv (.c (.bool false))) (.nil)))
 (.ret)) (.skip)))
 (.seq (.ops (.op (some 133) (.load 3 true (.t 10)) (.op none (.store 3 (.t 6) (.t 133)) (.nil))))
 (.ops (.op (some 134) (.load 3 true (.t 14)) (.op none (.store 3 (.t 7) (.t 134)) (.nil)))))))))))))
 (.ops (.op (some 37) (.mv (.t 8)) (.op (some 38) (.bin .add (.t 37) (.c (.int .i64 1))) (.op (some 8) (.mv (.t 38)) (.nil))))))
def c3_2 : AC := b3_2
@[simp] theorem e3_2 {Γ : Tab} {V : Nat → Bool} {ρ : Type} (k : AX → St → Option ρ) (s : St) : eval Γ c3_2 V ρ k s = eval Γ b3_2 V ρ k s := rfl
def c3 : AF := AF.mk 136 [.t 4] (.seq (.ops (.op (some 4) (.mv (.c (.bool false))) (.nil)))
 (.seq (.ops (.op (some 20) (.call 10 []) (.op (some 5) (.mv (.t 20)) (.nil))))
 (.seq (.seq (.ops (.op (some 21) (.mv (.t 1)) (.op (some 22) (.len false (.t 21)) (.op (some 23) (.bin .gtr (.t 22) (.c (.int .i64 30))) (.nil)))))
 (.cond (.t 23) (.seq (.ops (.op (some 24) (.mv (.t 5)) (.op (some 4) (.mv (.t 24)) (.nil))))
 (.ret)) (.skip)))
 (.seq (.ops (.op (some 25) (.mv (.t 0)) (.op (some 26) (.conv .i64 (.t 25)) (.op (some 27) (.bin .rem (.t 26) (.c (.int .i64 8))) (.op (some 28) (.call 11 [(.t 27)]) (.op (some 6) (.alloc [.int .i64 0, .int .i64 0, .lst true []]) (.op none (.store 3 (.t 6) (.t 28)) (.nil))))))))
 (.seq (.ops (.op (some 29) (.mv (.t 0)) (.op (some 30) (.conv .i64 (.t 29)) (.op (some 31) (.bin .rem (.t 30) (.c (.int .i64 8))) (.op (some 32) (.build [.int .i64 0, .int .i64 0, .lst true []] [(0, 1, (.t 31))]) (.op (some 7) (.alloc [.int .i64 0, .int .i64 0, .lst true []]) (.op none (.store 3 (.t 7) (.t 32)) (.nil))))))))
 (.seq (.seq (.ops (.op (some 8) (.mv (.c (.int .i64 0))) (.nil)))
 (.block 0 (.loop [8] [(4, 4), (8, 19), (33, 134)] [] [(.exit 0, []), (.ret, [4])] c3_2)))
 (.seq (.ops (.op (some 135) (.mv (.t 5)) (.op (some 4) (.mv (.t 135)) (.nil))))
 (.ret))))))))

theorem ok3 : okF Try.prog 3 c3 = true := by kernel_rfl

def b4_1 : AC := .seq (.seq (.ops (.op (some 44) (.mv (.t 9)) (.op (some 45) (.bin .lss (.t 44) (.c (.int .i64 1000))) (.op (some 46) (.mv (.t 45)) (.sc 51 true 46 47 50 (.op (some 47) (.fad 2 (.t 6)) (.op (some 48) (.load 1 false (.t 47)) (.op (some 49) (.len false (.t 48)) (.op (some 50) (.bin .gtr (.t 49) (.c (.int .i64 0))) (.nil))))) (.t 50) (.nil))))))
 (.cond (.t 51) (.skip) (.exit 2)))
 (.seq (.block 3 (.seq (.ops (.op (some 10) (.mv (.c (.int .i64 0))) (.nil)))
 (.seq (.ops (.op (some 11) (.mv (.c (.bool false))) (.nil)))
 (.seq (.seq (.ops (.op (some 54) (.mv (.t 7)) (.op (some 55) (.mv (.t 1)) (.op (some 56) (.len false (.t 55)) (.op (some 57) (.bin .lss (.t 54) (.t 56)) (.nil))))))
 (.cond (.t 57) (.seq (.ops (.op (some 58) (.mv (.t 1)) (.op (some 59) (.mv (.t 7)) (.op (some 60) (.iad 1 (.t 58) (.t 59)) (.op (some 61) (.load 1 false (.t 60)) (.op (some 62) (.conv .i64 (.t 61)) (.op (some 63) (.fad 2 (.t 6)) (.op (some 64) (.load 1 false (.t 63)) (.op (some 65) (.len false (.t 64)) (.op (some 66) (.bin .rem (.t 62) (.t 65)) (.op (some 10) (.mv (.t 66)) (.nil))))))))))))
 (.seq (.ops (.op (some 67) (.mv (.t 1)) (.op (some 68) (.mv (.t 7)) (.op (some 69) (.iad 1 (.t 67) (.t 68)) (.op (some 70) (.load 1 false (.t 69)) (.op (some 71) (.bin .geq (.t 70) (.c (.int .u8 200))) (.op (some 72) (.mv (.t 71)) (.sc 75 true 72 73 74 (.op (some 73) (.mv (.t 9)) (.op (some 74) (.bin .lss (.t 73) (.c (.int .i64 50))) (.nil))) (.t 74) (.op (some 11) (.mv (.t 75)) (.nil))))))))))
 (.ops (.op (some 76) (.mv (.t 7)) (.op (some 77) (.bin .add (.t 76) (.c (.int .i64 1))) (.op (some 7) (.mv (.t 77)) (.nil))))))) (.skip)))
 (.ops (.op (some 78) (.load 5 true (.t 6)) (.op (some 79) (.mv (.t 10)) (.op (some 80) (.mv (.t 11)) (.op (some 81) (.call 18 [(.t 78), (.t 79), (.t 80)]) (.op none (.store 5 (.t 6) (.t 81)) (.nil)))))))))))
 (.ops (.op (some 52) (.mv (.t 9)) (.op (some 53) (.bin .add (.t 52) (.c (.int .i64 1))) (.op (some 9) (.mv (.t 53)) (.nil))))))
def c4_1 : AC := b4_1
@[simp] theorem e4_1 {Γ : Tab} {V : Nat → Bool} {ρ : Type} (k : AX → St → Option ρ) (s : St) : eval Γ c4_1 V ρ k s = eval Γ b4_1 V ρ k s := rfl
def b4_2 : AC := .seq (.seq (.ops (.op (some 87) (.mv (.t 13)) (.op (some 88) (.fad 1 (.t 12)) (.op (some 89) (.load 1 false (.t 88)) (.op (some 90) (.len false (.t 89)) (.op (some 91) (.bin .lss (.t 87) (.t 90)) (.nil)))))))
 (.cond (.t 91) (.skip) (.exit 4)))
 (.seq (.block 5 (.seq (.ops (.op (some 94) (.fad 4 (.t 6)) (.op (some 95) (.load 1 false (.t 94)) (.op (some 96) (.fad 1 (.t 12)) (.op (some 97) (.load 1 false (.t 96)) (.op (some 98) (.mv (.t 13)) (.op (some 99) (.iad 1 (.t 97) (.t 98)) (.op (some 100) (.load 1 false (.t 99)) (.op (some 101) (.iad 1 (.t 95) (.t 100)) (.op (some 102) (.load 1 false (.t 101)) (.op (some 14) (.mv (.t 102)) (.nil))))))))))))
 (.seq (.ops (.op (some 103) (.mv (.t 14)) (.op (some 104) (.len false (.t 103)) (.op (some 105) (.bin .eql (.t 104) (.c (.int .i64 0))) (.op (some 106) (.mv (.t 105)) (.sc 116 false 106 107 115 (.op (some 107) (.mv (.t 14)) (.op (some 108) (.mv (.t 14)) (.op (some 109) (.len false (.t 108)) (.op (some 110) (.bin .sub (.t 109) (.c (.int .i64 1))) (.op (some 111) (.iad 1 (.t 107) (.t 110)) (.op (some 112) (.load 1 false (.t 111)) (.op (some 113) (.fad 0 (.t 12)) (.op (some 114) (.load 1 false (.t 113)) (.op (some 115) (.bin .neq (.t 112) (.t 114)) (.nil)))))))))) (.t 115) (.nil)))))))
 (.cond (.t 116) (.seq (.ops (.op (some 4) (.mv (.c (.bool false))) (.nil)))
 (.ret)) (.skip)))))
 (.ops (.op (some 92) (.mv (.t 13)) (.op (some 93) (.bin .add (.t 92) (.c (.int .i64 1))) (.op (some 13) (.mv (.t 93)) (.nil))))))
def c4_2 : AC := b4_2
@[simp] theorem e4_2 {Γ : Tab} {V : Nat → Bool} {ρ : Type} (k : AX → St → Option ρ) (s : St) : eval Γ c4_2 V ρ k s = eval Γ b4_2 V ρ k s := rfl
def b4_3 : AC := .seq (.seq (.ops (.op (some 26) (.mv (.t 8)) (.op (some 27) (.mv (.t 0)) (.op (some 28) (.len false (.t 27)) (.op (some 29) (.bin .lss (.t 26) (.t 28)) (.nil))))))
 (.cond (.t 29) (.skip) (.exit 0)))
 (.seq (.block 1 (.seq (.ops (.op (some 32) (.load 5 true (.t 6)) (.op (some 33) (.mv (.t 0)) (.op (some 34) (.mv (.t 8)) (.op (some 35) (.iad 6 (.t 33) (.t 34)) (.op (some 36) (.load 6 true (.t 35)) (.op (some 37) (.call 17 [(.t 32), (.t 36)]) (.op none (.store 5 (.t 6) (.t 37)) (.nil)))))))))
 (.seq (.seq (.ops (.op (some 38) (.fad 3 (.t 6)) (.op (some 39) (.load 1 false (.t 38)) (.op (some 40) (.len false (.t 39)) (.op (some 41) (.mv (.t 8)) (.op (some 42) (.bin .add (.t 41) (.c (.int .i64 1))) (.op (some 43) (.bin .neq (.t 40) (.t 42)) (.nil))))))))
 (.cond (.t 43) (.seq (.ops (.op (some 4) (.mv (.c (.bool false))) (.nil)))
 (.ret)) (.skip)))
 (.seq (.seq (.ops (.op (some 9) (.mv (.c (.int .i64 0))) (.nil)))
 (.block 2 (.loopA [(6, 0, 3), (6, 1, 3), (6, 2, 5), (6, 3, 3), (6, 4, 1)] [7, 9] [(7, 7), (9, 11), (44, 81)] [] [(.exit 2, [7])] c4_1)))
 (.seq (.ops (.op (some 82) (.fad 3 (.t 6)) (.op (some 83) (.load 1 false (.t 82)) (.op (some 84) (.mv (.t 8)) (.op (some 85) (.iad 3 (.t 83) (.t 84)) (.op (some 86) (.load 3 true (.t 85)) (.op (some 12) (.alloc [.int .i64 0, .lst true [], .lst true []]) (.op none (.store 3 (.t 12) (.t 86)) (.nil)))))))))
 (.seq (.ops (.op (some 13) (.mv (.c (.int .i64 0))) (.nil)))
 (.block 4 (.loop [13] [(4, 4), (13, 14), (87, 116)] [] [(.exit 4, []), (.ret, [4])] c4_2))))))))
 (.ops (.op (some 30) (.mv (.t 8)) (.op (some 31) (.bin .add (.t 30) (.c (.int .i64 1))) (.op (some 8) (.mv (.t 31)) (.nil))))))
def c4_3 : AC := b4_3
@[simp] theorem e4_3 {Γ : Tab} {V : Nat → Bool} {ρ : Type} (k : AX → St → Option ρ) (s : St) : eval Γ c4_3 V ρ k s = eval Γ b4_3 V ρ k s := rfl
def c4 : AF := AF.mk 118 [.t 4] (.seq (.ops (.op (some 4) (.mv (.c (.bool false))) (.nil)))
 (.seq (.ops (.op (some 15) (.call 10 []) (.op (some 5) (.mv (.t 15)) (.nil))))
 (.seq (.seq (.ops (.op (some 16) (.mv (.t 0)) (.op (some 17) (.len false (.t 16)) (.op (some 18) (.bin .gtr (.t 17) (.c (.int .i64 20))) (.op (some 19) (.mv (.t 18)) (.sc 23 false 19 20 22 (.op (some 20) (.mv (.t 1)) (.op (some 21) (.len false (.t 20)) (.op (some 22) (.bin .gtr (.t 21) (.c (.int .i64 400))) (.nil)))) (.t 22) (.nil)))))))
 (.cond (.t 23) (.seq (.ops (.op (some 24) (.mv (.t 5)) (.op (some 4) (.mv (.t 24)) (.nil))))
 (.ret)) (.skip)))
 (.seq (.ops (.op (some 25) (.call 16 []) (.op (some 6) (.alloc [.lst true [], .lst true [], .lst true [], .lst true [], .lst true []]) (.op none (.store 5 (.t 6) (.t 25)) (.nil)))))
 (.seq (.ops (.op (some 7) (.mv (.c (.int .i64 0))) (.nil)))
 (.seq (.seq (.ops (.op (some 8) (.mv (.c (.int .i64 0))) (.nil)))
 (.block 0 (.loopA [(6, 0, 3), (6, 1, 3), (6, 2, 5), (6, 3, 3), (6, 4, 1)] [7, 8] [(4, 4), (7, 14), (26, 116)] [] [(.exit 0, []), (.ret, [4])] c4_3)))
 (.seq (.ops (.op (some 117) (.mv (.t 5)) (.op (some 4) (.mv (.t 117)) (.nil))))
 (.ret))))))))

theorem ok4 : okF Try.prog 4 c4 = true := by kernel_rfl

def b5_1 : AC := .seq (.seq (.ops (.op (some 43) (.mv (.t 9)) (.op (some 44) (.mv (.t 0)) (.op (some 45) (.len false (.t 44)) (.op (some 46) (.bin .lss (.t 43) (.t 45)) (.nil))))))
 (.cond (.t 46) (.skip) (.exit 0)))
 (.seq (.block 1 (.ops (.op (some 49) (.load 5 true (.t 8)) (.op (some 50) (.mv (.t 0)) (.op (some 51) (.mv (.t 9)) (.op (some 52) (.iad 6 (.t 50) (.t 51)) (.op (some 53) (.load 6 true (.t 52)) (.op (some 54) (.call 19 [(.t 49), (.t 53)]) (.op none (.store 5 (.t 8) (.t 54)) (.nil))))))))))
 (.ops (.op (some 47) (.mv (.t 9)) (.op (some 48) (.bin .add (.t 47) (.c (.int .i64 1))) (.op (some 9) (.mv (.t 48)) (.nil))))))
def c5_1 : AC := b5_1
@[simp] theorem e5_1 {Γ : Tab} {V : Nat → Bool} {ρ : Type} (k : AX → St → Option ρ) (s : St) : eval Γ c5_1 V ρ k s = eval Γ b5_1 V ρ k s := rfl
def b5_2 : AC := .seq (.seq (.ops (.op (some 110) (.mv (.t 17)) (.op (some 111) (.mv (.t 10)) (.op (some 112) (.len false (.t 111)) (.op (some 113) (.bin .lss (.t 110) (.t 112)) (.nil))))))
 (.cond (.t 113) (.skip) (.exit 4)))
 (.seq (.block 5 (.seq (.ops (.op (some 116) (.mv (.t 10)) (.op (some 117) (.mv (.t 17)) (.op (some 118) (.iad 5 (.t 116) (.t 117)) (.op (some 119) (.load 5 true (.t 118)) (.op (some 18) (.alloc [.int .i64 0, .int .i64 0, .int .i64 0, .lst true [], .lst true []]) (.op none (.store 5 (.t 18) (.t 119)) (.nil))))))))
 (.seq (.ops (.op (some 120) (.load 3 true (.t 12)) (.op (some 121) (.load 3 true (.t 13)) (.op (some 122) (.load 5 true (.t 18)) (.op (some 123) (.call 28 [(.t 120), (.t 121), (.t 122)]) (.op (some 19) (.mv (.t 123)) (.nil)))))))
 (.seq (.ops (.op (some 124) (.mv (.t 19)) (.op (some 125) (.un .not (.t 124)) (.nil))))
 (.cond (.t 125) (.seq (.ops (.op (some 6) (.mv (.c (.bool false))) (.nil)))
 (.ret)) (.skip))))))
 (.ops (.op (some 114) (.mv (.t 17)) (.op (some 115) (.bin .add (.t 114) (.c (.int .i64 1))) (.op (some 17) (.mv (.t 115)) (.nil))))))
def c5_2 : AC := b5_2
@[simp] theorem e5_2 {Γ : Tab} {V : Nat → Bool} {ρ : Type} (k : AX → St → Option ρ) (s : St) : eval Γ c5_2 V ρ k s = eval Γ b5_2 V ρ k s := rfl
def b5_3 : AC := .seq (.seq (.ops (.op (some 62) (.mv (.t 11)) (.op (some 63) (.bin .lss (.t 62) (.c (.int .i64 4))) (.nil))))
 (.cond (.t 63) (.skip) (.exit 2)))
 (.seq (.block 3 (.seq (.ops (.op (some 66) (.fad 0 (.t 8)) (.op (some 67) (.load 1 false (.t 66)) (.op (some 68) (.mv (.t 11)) (.op (some 69) (.iad 3 (.t 67) (.t 68)) (.op (some 70) (.load 3 true (.t 69)) (.op (some 12) (.alloc [.int .i64 0, .int .i64 0, .lst true []]) (.op none (.store 3 (.t 12) (.t 70)) (.nil)))))))))
 (.seq (.ops (.op (some 71) (.fad 1 (.t 8)) (.op (some 72) (.load 1 false (.t 71)) (.op (some 73) (.mv (.t 11)) (.op (some 74) (.iad 3 (.t 72) (.t 73)) (.op (some 75) (.load 3 true (.t 74)) (.op (some 13) (.alloc [.int .i64 0, .lst true [], .lst true []]) (.op none (.store 3 (.t 13) (.t 75)) (.nil)))))))))
 (.seq (.ops (.op (some 76) (.load 3 true (.t 12)) (.op (some 77) (.callp 20 [(.t 76)]) (.op (some 78) (.load 3 true (.t 12)) (.op (some 79) (.callp 21 [(.t 78)]) (.op (some 80) (.callp 15 [(.t 77), (.t 79)]) (.op (some 14) (.mv (.t 80)) (.nil))))))))
 (.seq (.ops (.op (some 81) (.load 3 true (.t 13)) (.op (some 82) (.callp 22 [(.t 81)]) (.op (some 83) (.load 3 true (.t 13)) (.op (some 84) (.callp 23 [(.t 83)]) (.op (some 85) (.callp 15 [(.t 82), (.t 84)]) (.op (some 15) (.mv (.t 85)) (.nil))))))))
 (.seq (.ops (.op (some 86) (.load 3 true (.t 12)) (.op (some 87) (.callp 24 [(.t 86)]) (.op (some 88) (.load 3 true (.t 12)) (.op (some 89) (.callp 25 [(.t 88)]) (.op (some 90) (.callp 14 [(.t 87), (.t 89)]) (.op (some 16) (.mv (.t 90)) (.nil))))))))
 (.seq (.seq (.ops (.op (some 91) (.mv (.t 14)) (.op (some 92) (.un .not (.t 91)) (.op (some 93) (.mv (.t 92)) (.sc 96 false 93 94 95 (.op (some 94) (.mv (.t 15)) (.op (some 95) (.un .not (.t 94)) (.nil))) (.t 95) (.op (some 97) (.mv (.t 96)) (.sc 100 false 97 98 99 (.op (some 98) (.mv (.t 16)) (.op (some 99) (.un .not (.t 98)) (.nil))) (.t 99) (.op (some 101) (.mv (.t 100)) (.sc 109 false 101 102 108 (.op (some 102) (.load 3 true (.t 13)) (.op (some 103) (.mv (.t 2)) (.op (some 104) (.callp 26 [(.t 102), (.t 103)]) (.op (some 105) (.load 3 true (.t 13)) (.op (some 106) (.mv (.t 2)) (.op (some 107) (.callp 27 [(.t 105), (.t 106)]) (.op (some 108) (.beq true (.t 104) (.t 107)) (.nil)))))))) (.t 108) (.nil))))))))))
 (.cond (.t 109) (.seq (.ops (.op (some 6) (.mv (.c (.bool false))) (.nil)))
 (.ret)) (.skip)))
 (.seq (.ops (.op (some 17) (.mv (.c (.int .i64 0))) (.nil)))
 (.block 4 (.loop [17] [(6, 6), (17, 19), (110, 125)] [] [(.exit 4, []), (.ret, [6])] c5_2))))))))))
 (.ops (.op (some 64) (.mv (.t 11)) (.op (some 65) (.bin .add (.t 64) (.c (.int .i64 1))) (.op (some 11) (.mv (.t 65)) (.nil))))))
def c5_3 : AC := b5_3
@[simp] theorem e5_3 {Γ : Tab} {V : Nat → Bool} {ρ : Type} (k : AX → St → Option ρ) (s : St) : eval Γ c5_3 V ρ k s = eval Γ b5_3 V ρ k s := rfl
def c5 : AF := AF.mk 127 [.t 6] (.seq (.ops (.op (some 4) (.rbox (.t 1)) (.op (some 6) (.mv (.c (.bool false))) (.nil))))
 (.seq (.ops (.op (some 20) (.call 10 []) (.op (some 7) (.mv (.t 20)) (.nil))))
 (.seq (.seq (.ops (.op (some 21) (.mv (.t 0)) (.op (some 22) (.len false (.t 21)) (.op (some 23) (.bin .gtr (.t 22) (.c (.int .i64 60))) (.op (some 24) (.mv (.t 23)) (.sc 29 false 24 25 28 (.op (some 25) (.fad 3 (.t 4)) (.op (some 26) (.loadr 1 false (.t 25)) (.op (some 27) (.len false (.t 26)) (.op (some 28) (.bin .gtr (.t 27) (.c (.int .i64 60))) (.nil))))) (.t 28) (.op (some 30) (.mv (.t 29)) (.sc 35 false 30 31 34 (.op (some 31) (.fad 4 (.t 4)) (.op (some 32) (.loadr 1 false (.t 31)) (.op (some 33) (.len false (.t 32)) (.op (some 34) (.bin .gtr (.t 33) (.c (.int .i64 400))) (.nil))))) (.t 34) (.op (some 36) (.mv (.t 35)) (.sc 40 false 36 37 39 (.op (some 37) (.mv (.t 2)) (.op (some 38) (.len true (.t 37)) (.op (some 39) (.bin .gtr (.t 38) (.c (.int .i64 400))) (.nil)))) (.t 39) (.nil)))))))))))
 (.cond (.t 40) (.seq (.ops (.op (some 41) (.mv (.t 7)) (.op (some 6) (.mv (.t 41)) (.nil))))
 (.ret)) (.skip)))
 (.seq (.ops (.op (some 42) (.call 16 []) (.op (some 8) (.alloc [.lst true [], .lst true [], .lst true [], .lst true [], .lst true []]) (.op none (.store 5 (.t 8) (.t 42)) (.nil)))))
 (.seq (.seq (.ops (.op (some 9) (.mv (.c (.int .i64 0))) (.nil)))
 (.block 0 (.loopA [(8, 0, 3), (8, 1, 3), (8, 2, 5), (8, 3, 3), (8, 4, 1)] [9] [(9, 9), (43, 54)] [] [(.exit 0, [])] c5_1)))
 (.seq (.ops (.op (some 55) (.bsl 5 (.agg [.int .i64 0, .int .i64 0, .int .i64 0, .lst true [], .lst true []]) 0 []) (.op (some 56) (.fad 2 (.t 8)) (.op (some 57) (.load 1 false (.t 56)) (.op (some 58) (.app 5 72 (.t 55) (.t 57)) (.op (some 59) (.loadr 5 true (.t 4)) (.op (some 60) (.bsl 5 (.agg [.int .i64 0, .int .i64 0, .int .i64 0, .lst true [], .lst true []]) 1 [(0, (.t 59))]) (.op (some 61) (.app 5 72 (.t 58) (.t 60)) (.op (some 10) (.mv (.t 61)) (.nil))))))))))
 (.seq (.seq (.ops (.op (some 11) (.mv (.c (.int .i64 0))) (.nil)))
 (.block 2 (.loop [11] [(6, 6), (11, 19), (62, 125)] [] [(.exit 2, []), (.ret, [6])] c5_3)))
 (.seq (.ops (.op (some 126) (.mv (.t 7)) (.op (some 6) (.mv (.t 126)) (.nil))))
 (.ret)))))))))

theorem ok5 : okF Try.prog 5 c5 = true := by kernel_rfl

def b6_1 : AC := .seq (.seq (.ops (.op (some 13) (.mv (.t 5)) (.op (some 14) (.mv (.t 0)) (.op (some 15) (.len false (.t 14)) (.op (some 16) (.bin .lss (.t 13) (.t 15)) (.nil))))))
 (.cond (.t 16) (.skip) (.exit 0)))
 (.seq (.block 1 (.seq (.ops (.op (some 19) (.load 5 true (.t 4)) (.op (some 20) (.mv (.t 0)) (.op (some 21) (.mv (.t 5)) (.op (some 22) (.iad 6 (.t 20) (.t 21)) (.op (some 23) (.load 6 true (.t 22)) (.op (some 24) (.call 19 [(.t 19), (.t 23)]) (.op none (.store 5 (.t 4) (.t 24)) (.nil)))))))))
 (.seq (.ops (.op (some 25) (.load 5 true (.t 4)) (.op (some 26) (.call 29 [(.t 25)]) (.op (some 6) (.mv (.t 26)) (.nil)))))
 (.seq (.ops (.op (some 27) (.mv (.t 6)) (.op (some 28) (.un .not (.t 27)) (.nil))))
 (.cond (.t 28) (.seq (.ops (.op (some 2) (.mv (.c (.bool false))) (.nil)))
 (.ret)) (.skip))))))
 (.ops (.op (some 17) (.mv (.t 5)) (.op (some 18) (.bin .add (.t 17) (.c (.int .i64 1))) (.op (some 5) (.mv (.t 18)) (.nil))))))
def c6_1 : AC := b6_1
@[simp] theorem e6_1 {Γ : Tab} {V : Nat → Bool} {ρ : Type} (k : AX → St → Option ρ) (s : St) : eval Γ c6_1 V ρ k s = eval Γ b6_1 V ρ k s := rfl
def c6 : AF := AF.mk 30 [.t 2] (.seq (.ops (.op (some 2) (.mv (.c (.bool false))) (.nil)))
 (.seq (.ops (.op (some 7) (.call 10 []) (.op (some 3) (.mv (.t 7)) (.nil))))
 (.seq (.seq (.ops (.op (some 8) (.mv (.t 0)) (.op (some 9) (.len false (.t 8)) (.op (some 10) (.bin .gtr (.t 9) (.c (.int .i64 60))) (.nil)))))
 (.cond (.t 10) (.seq (.ops (.op (some 11) (.mv (.t 3)) (.op (some 2) (.mv (.t 11)) (.nil))))
 (.ret)) (.skip)))
 (.seq (.ops (.op (some 12) (.call 16 []) (.op (some 4) (.alloc [.lst true [], .lst true [], .lst true [], .lst true [], .lst true []]) (.op none (.store 5 (.t 4) (.t 12)) (.nil)))))
 (.seq (.seq (.ops (.op (some 5) (.mv (.c (.int .i64 0))) (.nil)))
 (.block 0 (.loopA [(4, 0, 3), (4, 1, 3), (4, 2, 5), (4, 3, 3), (4, 4, 1)] [5] [(2, 2), (5, 6), (13, 28)] [] [(.exit 0, []), (.ret, [2])] c6_1)))
 (.seq (.ops (.op (some 29) (.mv (.t 3)) (.op (some 2) (.mv (.t 29)) (.nil))))
 (.ret)))))))

theorem ok6 : okF Try.prog 6 c6 = true := by kernel_rfl

def b7_1 : AC := .seq (.seq (.ops (.op (some 18) (.mv (.t 5)) (.op (some 19) (.mv (.t 0)) (.op (some 20) (.len false (.t 19)) (.op (some 21) (.bin .lss (.t 18) (.t 20)) (.nil))))))
 (.cond (.t 21) (.skip) (.exit 0)))
 (.seq (.block 1 (.ops (.op (some 24) (.load 5 true (.t 4)) (.op (some 25) (.mv (.t 0)) (.op (some 26) (.mv (.t 5)) (.op (some 27) (.iad 6 (.t 25) (.t 26)) (.op (some 28) (.load 6 true (.t 27)) (.op (some 29) (.call 19 [(.t 24), (.t 28)]) (.op none (.store 5 (.t 4) (.t 29)) (.nil))))))))))
 (.ops (.op (some 22) (.mv (.t 5)) (.op (some 23) (.bin .add (.t 22) (.c (.int .i64 1))) (.op (some 5) (.mv (.t 23)) (.nil))))))
def c7_1 : AC := b7_1
@[simp] theorem e7_1 {Γ : Tab} {V : Nat → Bool} {ρ : Type} (k : AX → St → Option ρ) (s : St) : eval Γ c7_1 V ρ k s = eval Γ b7_1 V ρ k s := rfl
def b7_2 : AC := .seq (.seq (.ops (.op (some 42) (.mv (.t 7)) (.op (some 43) (.bin .lss (.t 42) (.c (.int .i64 4))) (.nil))))
 (.cond (.t 43) (.skip) (.exit 2)))
 (.seq (.block 3 (.seq (.ops (.op (some 46) (.fad 0 (.t 4)) (.op (some 47) (.load 1 false (.t 46)) (.op (some 48) (.mv (.t 7)) (.op (some 49) (.iad 3 (.t 47) (.t 48)) (.op (some 50) (.fad 2 (.t 49)) (.op (some 51) (.load 1 false (.t 50)) (.op (some 52) (.len false (.t 51)) (.op (some 53) (.bin .gtr (.t 52) (.c (.int .i64 0))) (.op (some 54) (.mv (.t 53)) (.sc 63 false 54 55 62 (.op (some 55) (.fad 1 (.t 4)) (.op (some 56) (.load 1 false (.t 55)) (.op (some 57) (.mv (.t 7)) (.op (some 58) (.iad 3 (.t 56) (.t 57)) (.op (some 59) (.fad 1 (.t 58)) (.op (some 60) (.load 1 false (.t 59)) (.op (some 61) (.len false (.t 60)) (.op (some 62) (.bin .gtr (.t 61) (.c (.int .i64 0))) (.nil))))))))) (.t 62) (.nil))))))))))))
 (.cond (.t 63) (.seq (.ops (.op (some 2) (.mv (.c (.bool false))) (.nil)))
 (.ret)) (.skip))))
 (.ops (.op (some 44) (.mv (.t 7)) (.op (some 45) (.bin .add (.t 44) (.c (.int .i64 1))) (.op (some 7) (.mv (.t 45)) (.nil))))))
def c7_2 : AC := b7_2
@[simp] theorem e7_2 {Γ : Tab} {V : Nat → Bool} {ρ : Type} (k : AX → St → Option ρ) (s : St) : eval Γ c7_2 V ρ k s = eval Γ b7_2 V ρ k s := rfl
def b7_3 : AC := .seq (.seq (.ops (.op (some 71) (.mv (.t 10)) (.op (some 72) (.bin .lss (.t 71) (.c (.int .i64 4))) (.nil))))
 (.cond (.t 72) (.skip) (.exit 6)))
 (.seq (.block 7 (.seq (.ops (.op (some 75) (.fad 4 (.t 4)) (.op (some 76) (.load 1 false (.t 75)) (.op (some 77) (.mv (.t 10)) (.op (some 78) (.iad 1 (.t 76) (.t 77)) (.op (some 79) (.load 1 false (.t 78)) (.op (some 80) (.fad 3 (.t 4)) (.op (some 81) (.load 1 false (.t 80)) (.op (some 82) (.mv (.t 8)) (.op (some 83) (.iad 3 (.t 81) (.t 82)) (.op (some 84) (.fad 0 (.t 83)) (.op (some 85) (.load 1 false (.t 84)) (.op (some 86) (.callp 31 [(.t 79), (.t 85)]) (.op (some 11) (.mv (.t 86)) (.nil)))))))))))))))
 (.seq (.ops (.op (some 87) (.mv (.t 11)) (.nil)))
 (.cond (.t 87) (.ops (.op (some 88) (.mv (.t 9)) (.op (some 89) (.bin .add (.t 88) (.c (.int .i64 1))) (.op (some 9) (.mv (.t 89)) (.nil))))) (.skip)))))
 (.ops (.op (some 73) (.mv (.t 10)) (.op (some 74) (.bin .add (.t 73) (.c (.int .i64 1))) (.op (some 10) (.mv (.t 74)) (.nil))))))
def c7_3 : AC := b7_3
@[simp] theorem e7_3 {Γ : Tab} {V : Nat → Bool} {ρ : Type} (k : AX → St → Option ρ) (s : St) : eval Γ c7_3 V ρ k s = eval Γ b7_3 V ρ k s := rfl
def b7_4 : AC := .seq (.seq (.ops (.op (some 64) (.mv (.t 8)) (.op (some 65) (.fad 3 (.t 4)) (.op (some 66) (.load 1 false (.t 65)) (.op (some 67) (.len false (.t 66)) (.op (some 68) (.bin .lss (.t 64) (.t 67)) (.nil)))))))
 (.cond (.t 68) (.skip) (.exit 4)))
 (.seq (.block 5 (.seq (.ops (.op (some 9) (.mv (.c (.int .i64 0))) (.nil)))
 (.seq (.seq (.ops (.op (some 10) (.mv (.c (.int .i64 0))) (.nil)))
 (.block 6 (.loop [9, 10] [(9, 11), (71, 89)] [] [(.exit 6, [9])] c7_3)))
 (.seq (.ops (.op (some 90) (.mv (.t 9)) (.op (some 91) (.bin .neq (.t 90) (.c (.int .i64 0))) (.op (some 92) (.mv (.t 91)) (.sc 102 true 92 93 101 (.op (some 93) (.mv (.t 9)) (.op (some 94) (.fad 3 (.t 4)) (.op (some 95) (.load 1 false (.t 94)) (.op (some 96) (.mv (.t 8)) (.op (some 97) (.iad 3 (.t 95) (.t 96)) (.op (some 98) (.fad 1 (.t 97)) (.op (some 99) (.load 1 false (.t 98)) (.op (some 100) (.len false (.t 99)) (.op (some 101) (.bin .neq (.t 93) (.t 100)) (.nil)))))))))) (.t 101) (.nil))))))
 (.cond (.t 102) (.seq (.ops (.op (some 2) (.mv (.c (.bool false))) (.nil)))
 (.ret)) (.skip))))))
 (.ops (.op (some 69) (.mv (.t 8)) (.op (some 70) (.bin .add (.t 69) (.c (.int .i64 1))) (.op (some 8) (.mv (.t 70)) (.nil))))))
def c7_4 : AC := b7_4
@[simp] theorem e7_4 {Γ : Tab} {V : Nat → Bool} {ρ : Type} (k : AX → St → Option ρ) (s : St) : eval Γ c7_4 V ρ k s = eval Γ b7_4 V ρ k s := rfl
def c7 : AF := AF.mk 104 [.t 2] (.seq (.ops (.op (some 2) (.mv (.c (.bool false))) (.nil)))
 (.seq (.ops (.op (some 12) (.call 10 []) (.op (some 3) (.mv (.t 12)) (.nil))))
 (.seq (.seq (.ops (.op (some 13) (.mv (.t 0)) (.op (some 14) (.len false (.t 13)) (.op (some 15) (.bin .gtr (.t 14) (.c (.int .i64 60))) (.nil)))))
 (.cond (.t 15) (.seq (.ops (.op (some 16) (.mv (.t 3)) (.op (some 2) (.mv (.t 16)) (.nil))))
 (.ret)) (.skip)))
 (.seq (.ops (.op (some 17) (.call 16 []) (.op (some 4) (.alloc [.lst true [], .lst true [], .lst true [], .lst true [], .lst true []]) (.op none (.store 5 (.t 4) (.t 17)) (.nil)))))
 (.seq (.seq (.ops (.op (some 5) (.mv (.c (.int .i64 0))) (.nil)))
 (.block 0 (.loopA [(4, 0, 3), (4, 1, 3), (4, 2, 5), (4, 3, 3), (4, 4, 1)] [5] [(5, 5), (18, 29)] [] [(.exit 0, [])] c7_1)))
 (.seq (.ops (.op (some 30) (.load 5 true (.t 4)) (.op (some 31) (.call 30 [(.t 30), (.c (.int .i64 6))]) (.op none (.store 5 (.t 4) (.t 31)) (.nil)))))
 (.seq (.ops (.op (some 32) (.load 5 true (.t 4)) (.op (some 33) (.call 29 [(.t 32)]) (.op (some 6) (.mv (.t 33)) (.nil)))))
 (.seq (.seq (.ops (.op (some 34) (.mv (.t 6)) (.op (some 35) (.un .not (.t 34)) (.op (some 36) (.mv (.t 35)) (.sc 41 false 36 37 40 (.op (some 37) (.fad 2 (.t 4)) (.op (some 38) (.load 1 false (.t 37)) (.op (some 39) (.len false (.t 38)) (.op (some 40) (.bin .gtr (.t 39) (.c (.int .i64 0))) (.nil))))) (.t 40) (.nil))))))
 (.cond (.t 41) (.seq (.ops (.op (some 2) (.mv (.c (.bool false))) (.nil)))
 (.ret)) (.skip)))
 (.seq (.seq (.ops (.op (some 7) (.mv (.c (.int .i64 0))) (.nil)))
 (.block 2 (.loop [7] [(2, 2), (7, 7), (42, 63)] [] [(.exit 2, []), (.ret, [2])] c7_2)))
 (.seq (.seq (.ops (.op (some 8) (.mv (.c (.int .i64 0))) (.nil)))
 (.block 4 (.loop [8] [(2, 2), (8, 11), (64, 102)] [] [(.exit 4, []), (.ret, [2])] c7_4)))
 (.seq (.ops (.op (some 103) (.mv (.t 3)) (.op (some 2) (.mv (.t 103)) (.nil))))
 (.ret))))))))))))

theorem ok7 : okF Try.prog 7 c7 = true := by kernel_rfl

def b8_1 : AC := .seq (.seq (.ops (.op (some 31) (.mv (.t 7)) (.op (some 32) (.mv (.t 0)) (.op (some 33) (.len false (.t 32)) (.op (some 34) (.bin .lss (.t 31) (.t 33)) (.nil))))))
 (.cond (.t 34) (.skip) (.exit 0)))
 (.seq (.block 1 (.ops (.op (some 37) (.load 5 true (.t 6)) (.op (some 38) (.mv (.t 0)) (.op (some 39) (.mv (.t 7)) (.op (some 40) (.iad 6 (.t 38) (.t 39)) (.op (some 41) (.load 6 true (.t 40)) (.op (some 42) (.call 19 [(.t 37), (.t 41)]) (.op none (.store 5 (.t 6) (.t 42)) (.nil))))))))))
 (.ops (.op (some 35) (.mv (.t 7)) (.op (some 36) (.bin .add (.t 35) (.c (.int .i64 1))) (.op (some 7) (.mv (.t 36)) (.nil))))))
def c8_1 : AC := b8_1
@[simp] theorem e8_1 {Γ : Tab} {V : Nat → Bool} {ρ : Type} (k : AX → St → Option ρ) (s : St) : eval Γ c8_1 V ρ k s = eval Γ b8_1 V ρ k s := rfl
def b8_2 : AC := .seq (.seq (.ops (.op (some 54) (.mv (.t 12)) (.op (some 55) (.fad 2 (.t 10)) (.op (some 56) (.load 1 false (.t 55)) (.op (some 57) (.len false (.t 56)) (.op (some 58) (.bin .lss (.t 54) (.t 57)) (.nil)))))))
 (.cond (.t 58) (.skip) (.exit 4)))
 (.seq (.block 5 (.seq (.ops (.op (some 62) (.load 3 true (.t 10)) (.op (some 63) (.fad 2 (.t 10)) (.op (some 64) (.load 1 false (.t 63)) (.op (some 65) (.mv (.t 12)) (.op (some 66) (.iad 5 (.t 64) (.t 65)) (.op (some 67) (.fad 0 (.t 66)) (.op (some 68) (.fad 0 (.t 67)) (.op (some 69) (.load 1 false (.t 68)) (.op (some 70) (.callp 32 [(.t 62), (.t 69)]) (.op (some 61) (.mv (.t 70)) (.op (some 71) (.ext (.t 61) 0) (.op (some 72) (.ext (.t 61) 1) (.op (some 13) (.alloc [.int .i64 0, .int .i64 0, .lst true []]) (.op none (.store 3 (.t 13) (.t 71)) (.op (some 14) (.mv (.t 72)) (.nil)))))))))))))))))
 (.seq (.ops (.op (some 73) (.fad 2 (.t 10)) (.op (some 74) (.load 1 false (.t 73)) (.op (some 75) (.mv (.t 12)) (.op (some 76) (.iad 5 (.t 74) (.t 75)) (.op (some 77) (.fad 3 (.t 76)) (.op (some 78) (.load 1 false (.t 77)) (.op (some 15) (.mv (.t 78)) (.nil)))))))))
 (.seq (.seq (.ops (.op (some 79) (.mv (.t 15)) (.op (some 80) (.mv (.t 14)) (.op (some 81) (.len false (.t 80)) (.op (some 82) (.bin .eql (.t 81) (.c (.int .i64 0))) (.op (some 83) (.beq true (.t 79) (.t 82)) (.op (some 84) (.mv (.t 83)) (.sc 94 false 84 85 93 (.op (some 85) (.mv (.t 15)) (.op (some 86) (.fad 2 (.t 13)) (.op (some 87) (.load 1 false (.t 86)) (.op (some 88) (.len false (.t 87)) (.op (some 89) (.fad 2 (.t 10)) (.op (some 90) (.load 1 false (.t 89)) (.op (some 91) (.len false (.t 90)) (.op (some 92) (.bin .eql (.t 88) (.t 91)) (.op (some 93) (.beq true (.t 85) (.t 92)) (.nil)))))))))) (.t 93) (.nil)))))))))
 (.cond (.t 94) (.seq (.ops (.op (some 4) (.mv (.c (.bool false))) (.nil)))
 (.ret)) (.skip)))
 (.seq (.ops (.op (some 95) (.mv (.t 15)) (.op (some 96) (.un .not (.t 95)) (.nil))))
 (.cond (.t 96) (.ops (.op (some 97) (.mv (.t 8)) (.op (some 98) (.fad 2 (.t 10)) (.op (some 99) (.load 1 false (.t 98)) (.op (some 100) (.mv (.t 12)) (.op (some 101) (.iad 5 (.t 99) (.t 100)) (.op (some 102) (.fad 0 (.t 101)) (.op (some 103) (.fad 0 (.t 102)) (.op (some 104) (.load 1 false (.t 103)) (.op (some 105) (.bslh 1 (.int .i64 0) 1 [(0, (.t 104))]) (.op (some 106) (.app 1 8 (.t 97) (.t 105)) (.op (some 8) (.mv (.t 106)) (.nil))))))))))))) (.skip)))))))
 (.ops (.op (some 59) (.mv (.t 12)) (.op (some 60) (.bin .add (.t 59) (.c (.int .i64 1))) (.op (some 12) (.mv (.t 60)) (.nil))))))
def c8_2 : AC := b8_2
@[simp] theorem e8_2 {Γ : Tab} {V : Nat → Bool} {ρ : Type} (k : AX → St → Option ρ) (s : St) : eval Γ c8_2 V ρ k s = eval Γ b8_2 V ρ k s := rfl
def b8_3 : AC := .seq (.seq (.ops (.op (some 43) (.mv (.t 9)) (.op (some 44) (.bin .lss (.t 43) (.c (.int .i64 4))) (.nil))))
 (.cond (.t 44) (.skip) (.exit 2)))
 (.seq (.block 3 (.seq (.ops (.op (some 47) (.fad 0 (.t 6)) (.op (some 48) (.load 1 false (.t 47)) (.op (some 49) (.mv (.t 9)) (.op (some 50) (.iad 3 (.t 48) (.t 49)) (.op (some 51) (.load 3 true (.t 50)) (.op (some 10) (.alloc [.int .i64 0, .int .i64 0, .lst true []]) (.op none (.store 3 (.t 10) (.t 51)) (.nil)))))))))
 (.seq (.ops (.op (some 52) (.load 3 true (.t 10)) (.op (some 53) (.call 24 [(.t 52)]) (.op (some 11) (.alloc [.int .i64 0, .int .i64 0, .lst true []]) (.op none (.store 3 (.t 11) (.t 53)) (.nil))))))
 (.seq (.seq (.ops (.op (some 12) (.mv (.c (.int .i64 0))) (.nil)))
 (.block 4 (.loop [8, 12] [(4, 4), (8, 8), (12, 15), (54, 106)] [(8, 1)] [(.exit 4, [8]), (.ret, [4])] c8_2)))
 (.seq (.seq (.ops (.op (some 107) (.fad 2 (.t 11)) (.op (some 108) (.load 1 false (.t 107)) (.op (some 109) (.len false (.t 108)) (.op (some 110) (.load 3 true (.t 10)) (.op (some 111) (.callp 33 [(.t 110)]) (.op (some 112) (.bin .add (.t 109) (.t 111)) (.op (some 113) (.fad 2 (.t 10)) (.op (some 114) (.load 1 false (.t 113)) (.op (some 115) (.len false (.t 114)) (.op (some 116) (.bin .neq (.t 112) (.t 115)) (.nil))))))))))))
 (.cond (.t 116) (.seq (.ops (.op (some 4) (.mv (.c (.bool false))) (.nil)))
 (.ret)) (.skip)))
 (.ops (.op (some 117) (.fad 0 (.t 6)) (.op (some 118) (.load 1 false (.t 117)) (.op (some 119) (.mv (.t 9)) (.op (some 120) (.load 3 true (.t 11)) (.op (some 121) (.iad 3 (.t 118) (.t 119)) (.op none (.store 3 (.t 121) (.t 120)) (.nil)))))))))))))
 (.ops (.op (some 45) (.mv (.t 9)) (.op (some 46) (.bin .add (.t 45) (.c (.int .i64 1))) (.op (some 9) (.mv (.t 46)) (.nil))))))
def c8_3 : AC := b8_3
@[simp] theorem e8_3 {Γ : Tab} {V : Nat → Bool} {ρ : Type} (k : AX → St → Option ρ) (s : St) : eval Γ c8_3 V ρ k s = eval Γ b8_3 V ρ k s := rfl
def b8_4 : AC := .seq (.seq (.ops (.op (some 122) (.mv (.t 16)) (.op (some 123) (.mv (.t 1)) (.op (some 124) (.len false (.t 123)) (.op (some 125) (.bin .lss (.t 122) (.t 124)) (.nil))))))
 (.cond (.t 125) (.skip) (.exit 6)))
 (.seq (.block 7 (.ops (.op (some 128) (.load 5 true (.t 6)) (.op (some 129) (.mv (.t 1)) (.op (some 130) (.mv (.t 16)) (.op (some 131) (.iad 6 (.t 129) (.t 130)) (.op (some 132) (.load 6 true (.t 131)) (.op (some 133) (.call 19 [(.t 128), (.t 132)]) (.op none (.store 5 (.t 6) (.t 133)) (.nil))))))))))
 (.ops (.op (some 126) (.mv (.t 16)) (.op (some 127) (.bin .add (.t 126) (.c (.int .i64 1))) (.op (some 16) (.mv (.t 127)) (.nil))))))
def c8_4 : AC := b8_4
@[simp] theorem e8_4 {Γ : Tab} {V : Nat → Bool} {ρ : Type} (k : AX → St → Option ρ) (s : St) : eval Γ c8_4 V ρ k s = eval Γ b8_4 V ρ k s := rfl
def b8_5 : AC := .seq (.seq (.ops (.op (some 140) (.mv (.t 18)) (.op (some 141) (.mv (.t 8)) (.op (some 142) (.len false (.t 141)) (.op (some 143) (.bin .lss (.t 140) (.t 142)) (.nil))))))
 (.cond (.t 143) (.skip) (.exit 10)))
 (.seq (.block 11 (.seq (.ops (.op (some 146) (.fad 4 (.t 6)) (.op (some 147) (.load 1 false (.t 146)) (.op (some 148) (.mv (.t 17)) (.op (some 149) (.iad 1 (.t 147) (.t 148)) (.op (some 150) (.load 1 false (.t 149)) (.op (some 151) (.mv (.t 8)) (.op (some 152) (.mv (.t 18)) (.op (some 153) (.iad 1 (.t 151) (.t 152)) (.op (some 154) (.load 1 false (.t 153)) (.op (some 155) (.callp 31 [(.t 150), (.t 154)]) (.op (some 19) (.mv (.t 155)) (.nil)))))))))))))
 (.seq (.ops (.op (some 156) (.mv (.t 19)) (.nil)))
 (.cond (.t 156) (.seq (.ops (.op (some 4) (.mv (.c (.bool false))) (.nil)))
 (.ret)) (.skip)))))
 (.ops (.op (some 144) (.mv (.t 18)) (.op (some 145) (.bin .add (.t 144) (.c (.int .i64 1))) (.op (some 18) (.mv (.t 145)) (.nil))))))
def c8_5 : AC := b8_5
@[simp] theorem e8_5 {Γ : Tab} {V : Nat → Bool} {ρ : Type} (k : AX → St → Option ρ) (s : St) : eval Γ c8_5 V ρ k s = eval Γ b8_5 V ρ k s := rfl
def b8_6 : AC := .seq (.seq (.ops (.op (some 136) (.mv (.t 17)) (.op (some 137) (.bin .lss (.t 136) (.c (.int .i64 4))) (.nil))))
 (.cond (.t 137) (.skip) (.exit 8)))
 (.seq (.block 9 (.seq (.ops (.op (some 18) (.mv (.c (.int .i64 0))) (.nil)))
 (.block 10 (.loop [18] [(4, 4), (18, 19), (140, 156)] [] [(.exit 10, []), (.ret, [4])] c8_5))))
 (.ops (.op (some 138) (.mv (.t 17)) (.op (some 139) (.bin .add (.t 138) (.c (.int .i64 1))) (.op (some 17) (.mv (.t 139)) (.nil))))))
def c8_6 : AC := b8_6
@[simp] theorem e8_6 {Γ : Tab} {V : Nat → Bool} {ρ : Type} (k : AX → St → Option ρ) (s : St) : eval Γ c8_6 V ρ k s = eval Γ b8_6 V ρ k s := rfl
def c8 : AF := AF.mk 158 [.t 4] (.seq (.ops (.op (some 4) (.mv (.c (.bool false))) (.nil)))
 (.seq (.ops (.op (some 20) (.call 10 []) (.op (some 5) (.mv (.t 20)) (.nil))))
 (.seq (.seq (.ops (.op (some 21) (.mv (.t 0)) (.op (some 22) (.len false (.t 21)) (.op (some 23) (.bin .gtr (.t 22) (.c (.int .i64 60))) (.op (some 24) (.mv (.t 23)) (.sc 28 false 24 25 27 (.op (some 25) (.mv (.t 1)) (.op (some 26) (.len false (.t 25)) (.op (some 27) (.bin .gtr (.t 26) (.c (.int .i64 60))) (.nil)))) (.t 27) (.nil)))))))
 (.cond (.t 28) (.seq (.ops (.op (some 29) (.mv (.t 5)) (.op (some 4) (.mv (.t 29)) (.nil))))
 (.ret)) (.skip)))
 (.seq (.ops (.op (some 30) (.call 16 []) (.op (some 6) (.alloc [.lst true [], .lst true [], .lst true [], .lst true [], .lst true []]) (.op none (.store 5 (.t 6) (.t 30)) (.nil)))))
 (.seq (.seq (.ops (.op (some 7) (.mv (.c (.int .i64 0))) (.nil)))
 (.block 0 (.loopA [(6, 0, 3), (6, 1, 3), (6, 2, 5), (6, 3, 3), (6, 4, 1)] [7] [(7, 7), (31, 42)] [] [(.exit 0, [])] c8_1)))
 (.seq (.ops (.op (some 8) (.mv (.c (.lst true []))) (.nil)))
 (.seq (.seq (.ops (.op (some 9) (.mv (.c (.int .i64 0))) (.nil)))
 (.block 2 (.loop [8, 9] [(4, 4), (8, 15), (43, 121)] [(8, 1)] [(.exit 2, [8]), (.ret, [4])] c8_3)))
 (.seq (.seq (.ops (.op (some 16) (.mv (.c (.int .i64 0))) (.nil)))
 (.block 6 (.loopA [(6, 0, 3), (6, 1, 3), (6, 2, 5), (6, 3, 3), (6, 4, 1)] [16] [(16, 16), (122, 133)] [] [(.exit 6, [])] c8_4)))
 (.seq (.ops (.op (some 134) (.load 5 true (.t 6)) (.op (some 135) (.call 30 [(.t 134), (.c (.int .i64 6))]) (.op none (.store 5 (.t 6) (.t 135)) (.nil)))))
 (.seq (.seq (.ops (.op (some 17) (.mv (.c (.int .i64 0))) (.nil)))
 (.block 8 (.loop [17] [(4, 4), (17, 19), (136, 156)] [] [(.exit 8, []), (.ret, [4])] c8_6)))
 (.seq (.ops (.op (some 157) (.mv (.t 5)) (.op (some 4) (.mv (.t 157)) (.nil))))
 (.ret))))))))))))

theorem ok8 : okF Try.prog 8 c8 = true := by kernel_rfl

def c10 : AF := AF.mk 323 [.t 0] (.seq (.ops (.op (some 0) (.mv (.c (.bool false))) (.nil)))
 (.seq (.ops (.op (some 48) (.call 11 [(.c (.int .i64 3))]) (.op (some 49) (.bslh 1 (.int .i64 0) 2 [(0, (.c (.int .i64 1))), (1, (.c (.int .i64 2)))]) (.op (some 50) (.bslh 1 (.str []) 2 [(0, (.c (.str [47, 97]))), (1, (.c (.str [47, 98])))]) (.op (some 51) (.call 12 [(.t 48), (.t 49), (.t 50)]) (.op (some 47) (.mv (.t 51)) (.op (some 52) (.ext (.t 47) 0) (.op (some 53) (.ext (.t 47) 1) (.op (some 54) (.ext (.t 47) 2) (.op (some 55) (.ext (.t 47) 3) (.op (some 1) (.alloc [.int .i64 0, .int .i64 0, .lst true []]) (.op none (.store 3 (.t 1) (.t 52)) (.op (some 2) (.mv (.t 53)) (.op (some 3) (.mv (.t 54)) (.op (some 4) (.mv (.t 55)) (.nil))))))))))))))))
 (.seq (.ops (.op (some 57) (.load 3 true (.t 1)) (.op (some 58) (.bslh 1 (.int .i64 0) 2 [(0, (.c (.int .i64 2))), (1, (.c (.int .i64 1)))]) (.op (some 59) (.bslh 1 (.str []) 2 [(0, (.c (.str [47, 97]))), (1, (.c (.str [47, 98])))]) (.op (some 60) (.call 12 [(.t 57), (.t 58), (.t 59)]) (.op (some 56) (.mv (.t 60)) (.op (some 61) (.ext (.t 56) 0) (.op (some 62) (.ext (.t 56) 1) (.op (some 63) (.ext (.t 56) 2) (.op (some 64) (.ext (.t 56) 3) (.op (some 5) (.alloc [.int .i64 0, .int .i64 0, .lst true []]) (.op none (.store 3 (.t 5) (.t 61)) (.op (some 6) (.mv (.t 62)) (.op (some 7) (.mv (.t 63)) (.op (some 8) (.mv (.t 64)) (.nil))))))))))))))))
 (.seq (.ops (.op (some 66) (.load 3 true (.t 1)) (.op (some 67) (.bslh 1 (.int .i64 0) 1 [(0, (.c (.int .i64 2)))]) (.op (some 68) (.bslh 1 (.str []) 1 [(0, (.c (.str [97])))]) (.op (some 69) (.call 12 [(.t 66), (.t 67), (.t 68)]) (.op (some 65) (.mv (.t 69)) (.op (some 70) (.ext (.t 65) 0) (.op (some 71) (.ext (.t 65) 1) (.op (some 72) (.ext (.t 65) 2) (.op (some 73) (.ext (.t 65) 3) (.op (some 9) (.alloc [.int .i64 0, .int .i64 0, .lst true []]) (.op none (.store 3 (.t 9) (.t 70)) (.op (some 10) (.mv (.t 71)) (.op (some 11) (.mv (.t 72)) (.op (some 12) (.mv (.t 73)) (.nil))))))))))))))))
 (.seq (.seq (.ops (.op (some 74) (.mv (.t 3)) (.op (some 75) (.len false (.t 74)) (.op (some 76) (.bin .neq (.t 75) (.c (.int .i64 2))) (.nil)))))
 (.cond (.t 76) (.seq (.ops (.op (some 0) (.mv (.c (.bool false))) (.nil)))
 (.ret)) (.skip)))
 (.seq (.ops (.op (some 78) (.callp 36 [(.c (.int .i64 1))]) (.op (some 79) (.mv (.t 3)) (.op (some 80) (.iad 5 (.t 79) (.c (.int .i64 0))) (.op (some 81) (.load 5 true (.t 80)) (.op (some 82) (.callp 35 [(.t 78), (.t 81)]) (.op (some 77) (.mv (.t 82)) (.op (some 83) (.ext (.t 77) 0) (.op (some 84) (.ext (.t 77) 1) (.op (some 85) (.ext (.t 77) 2) (.op (some 13) (.alloc [.int .i64 0, .lst true [], .lst true []]) (.op none (.store 3 (.t 13) (.t 83)) (.op (some 14) (.mv (.t 84)) (.op (some 15) (.mv (.t 85)) (.nil)))))))))))))))
 (.seq (.ops (.op (some 87) (.callp 36 [(.c (.int .i64 2))]) (.op (some 88) (.mv (.t 3)) (.op (some 89) (.iad 5 (.t 88) (.c (.int .i64 1))) (.op (some 90) (.load 5 true (.t 89)) (.op (some 91) (.callp 35 [(.t 87), (.t 90)]) (.op (some 86) (.mv (.t 91)) (.op (some 92) (.ext (.t 86) 0) (.op (some 93) (.ext (.t 86) 1) (.op (some 94) (.ext (.t 86) 2) (.op (some 16) (.alloc [.int .i64 0, .lst true [], .lst true []]) (.op none (.store 3 (.t 16) (.t 92)) (.op (some 17) (.mv (.t 93)) (.op (some 18) (.mv (.t 94)) (.nil)))))))))))))))
 (.seq (.ops (.op (some 96) (.load 3 true (.t 13)) (.op (some 97) (.bslh 1 (.int .i64 0) 1 [(0, (.c (.int .i64 99)))]) (.op (some 98) (.bslo 1 (.int .u8 0) 4 [(0, (.c (.int .u8 47))), (1, (.c (.int .u8 97))), (2, (.c (.int .u8 47))), (3, (.c (.int .u8 99)))]) (.op (some 99) (.csl (.t 98)) (.op (some 100) (.build [.int .i64 0, .int .i64 0, .int .i64 0, .lst true [], .lst true []] [(0, 1, (.c (.int .i64 3))), (1, 1, (.c (.int .i64 1))), (2, 1, (.c (.int .i64 1))), (3, 1, (.t 97)), (4, 1, (.t 99))]) (.op (some 101) (.call 35 [(.t 96), (.t 100)]) (.op (some 95) (.mv (.t 101)) (.op (some 102) (.ext (.t 95) 0) (.op (some 103) (.ext (.t 95) 1) (.op (some 104) (.ext (.t 95) 2) (.op (some 19) (.alloc [.int .i64 0, .lst true [], .lst true []]) (.op none (.store 3 (.t 19) (.t 102)) (.op (some 20) (.mv (.t 103)) (.op (some 21) (.mv (.t 104)) (.nil))))))))))))))))
 (.seq (.ops (.op (some 106) (.load 3 true (.t 1)) (.op (some 107) (.mv (.t 2)) (.op (some 108) (.callp 38 [(.c (.int .i64 1)), (.c (.int .i64 3)), (.c (.int .i64 2)), (.t 107)]) (.op (some 109) (.callp 37 [(.t 106), (.t 108)]) (.op (some 105) (.mv (.t 109)) (.op (some 110) (.ext (.t 105) 0) (.op (some 111) (.ext (.t 105) 1) (.op (some 22) (.alloc [.int .i64 0, .int .i64 0, .lst true []]) (.op none (.store 3 (.t 22) (.t 110)) (.op (some 23) (.mv (.t 111)) (.nil))))))))))))
 (.seq (.ops (.op (some 113) (.load 3 true (.t 22)) (.op (some 114) (.mv (.t 2)) (.op (some 115) (.callp 38 [(.c (.int .i64 2)), (.c (.int .i64 3)), (.c (.int .i64 2)), (.t 114)]) (.op (some 116) (.callp 37 [(.t 113), (.t 115)]) (.op (some 112) (.mv (.t 116)) (.op (some 117) (.ext (.t 112) 0) (.op (some 118) (.ext (.t 112) 1) (.op (some 24) (.alloc [.int .i64 0, .int .i64 0, .lst true []]) (.op none (.store 3 (.t 24) (.t 117)) (.op (some 25) (.mv (.t 118)) (.nil))))))))))))
 (.seq (.ops (.op (some 120) (.load 3 true (.t 13)) (.op (some 121) (.mv (.t 2)) (.op (some 122) (.callp 38 [(.c (.int .i64 3)), (.c (.int .i64 1)), (.c (.int .i64 4)), (.t 121)]) (.op (some 123) (.callp 35 [(.t 120), (.t 122)]) (.op (some 119) (.mv (.t 123)) (.op (some 124) (.ext (.t 119) 0) (.op (some 125) (.ext (.t 119) 1) (.op (some 126) (.ext (.t 119) 2) (.op none (.store 3 (.t 13) (.t 124)) (.op (some 26) (.mv (.t 125)) (.op (some 27) (.mv (.t 126)) (.nil)))))))))))))
 (.seq (.ops (.op (some 128) (.load 3 true (.t 13)) (.op (some 129) (.mv (.t 2)) (.op (some 130) (.callp 38 [(.c (.int .i64 3)), (.c (.int .i64 1)), (.c (.int .i64 4)), (.t 129)]) (.op (some 131) (.callp 35 [(.t 128), (.t 130)]) (.op (some 127) (.mv (.t 131)) (.op (some 132) (.ext (.t 127) 0) (.op (some 133) (.ext (.t 127) 1) (.op (some 134) (.ext (.t 127) 2) (.op none (.store 3 (.t 13) (.t 132)) (.op (some 28) (.mv (.t 133)) (.op (some 29) (.mv (.t 134)) (.nil)))))))))))))
 (.seq (.ops (.op (some 136) (.load 3 true (.t 24)) (.op (some 137) (.mv (.t 2)) (.op (some 138) (.callp 38 [(.c (.int .i64 1)), (.c (.int .i64 3)), (.c (.int .i64 5)), (.t 137)]) (.op (some 139) (.callp 37 [(.t 136), (.t 138)]) (.op (some 135) (.mv (.t 139)) (.op (some 140) (.ext (.t 135) 0) (.op (some 141) (.ext (.t 135) 1) (.op (some 30) (.alloc [.int .i64 0, .int .i64 0, .lst true []]) (.op none (.store 3 (.t 30) (.t 140)) (.op (some 31) (.mv (.t 141)) (.nil))))))))))))
 (.seq (.ops (.op (some 143) (.load 3 true (.t 30)) (.op (some 144) (.mv (.t 2)) (.op (some 145) (.callp 38 [(.c (.int .i64 2)), (.c (.int .i64 3)), (.c (.int .i64 5)), (.t 144)]) (.op (some 146) (.callp 37 [(.t 143), (.t 145)]) (.op (some 142) (.mv (.t 146)) (.op (some 147) (.ext (.t 142) 0) (.op (some 148) (.ext (.t 142) 1) (.op (some 32) (.alloc [.int .i64 0, .int .i64 0, .lst true []]) (.op none (.store 3 (.t 32) (.t 147)) (.op (some 33) (.mv (.t 148)) (.nil))))))))))))
 (.seq (.ops (.op (some 150) (.load 3 true (.t 1)) (.op (some 151) (.mv (.t 2)) (.op (some 152) (.callp 38 [(.c (.int .i64 2)), (.c (.int .i64 3)), (.c (.int .i64 3)), (.t 151)]) (.op (some 153) (.callp 37 [(.t 150), (.t 152)]) (.op (some 149) (.mv (.t 153)) (.op (some 154) (.ext (.t 149) 0) (.op (some 155) (.ext (.t 149) 1) (.op (some 34) (.alloc [.int .i64 0, .int .i64 0, .lst true []]) (.op none (.store 3 (.t 34) (.t 154)) (.op (some 35) (.mv (.t 155)) (.nil))))))))))))
 (.seq (.ops (.op (some 157) (.load 3 true (.t 1)) (.op (some 158) (.call 24 [(.t 157)]) (.op (some 159) (.mv (.t 2)) (.op (some 160) (.call 38 [(.c (.int .i64 2)), (.c (.int .i64 3)), (.c (.int .i64 7)), (.t 159)]) (.op (some 161) (.call 37 [(.t 158), (.t 160)]) (.op (some 156) (.mv (.t 161)) (.op (some 162) (.ext (.t 156) 0) (.op (some 163) (.ext (.t 156) 1) (.op (some 36) (.alloc [.int .i64 0, .int .i64 0, .lst true []]) (.op none (.store 3 (.t 36) (.t 162)) (.op (some 37) (.mv (.t 163)) (.nil)))))))))))))
 (.seq (.ops (.op (some 164) (.mv (.t 14)) (.op (some 165) (.mv (.t 2)) (.op (some 166) (.call 38 [(.c (.int .i64 1)), (.c (.int .i64 3)), (.c (.int .i64 2)), (.t 165)]) (.op (some 167) (.bslh 5 (.agg [.int .i64 0, .int .i64 0, .int .i64 0, .lst true [], .lst true []]) 1 [(0, (.t 166))]) (.op (some 168) (.call 15 [(.t 164), (.t 167)]) (.op (some 38) (.mv (.t 168)) (.nil))))))))
 (.seq (.ops (.op (some 169) (.mv (.t 17)) (.op (some 170) (.mv (.t 2)) (.op (some 171) (.call 38 [(.c (.int .i64 2)), (.c (.int .i64 3)), (.c (.int .i64 2)), (.t 170)]) (.op (some 172) (.bslh 5 (.agg [.int .i64 0, .int .i64 0, .int .i64 0, .lst true [], .lst true []]) 1 [(0, (.t 171))]) (.op (some 173) (.call 15 [(.t 169), (.t 172)]) (.op (some 39) (.mv (.t 173)) (.nil))))))))
 (.seq (.ops (.op (some 174) (.mv (.t 20)) (.op (some 175) (.call 38 [(.c (.int .i64 1)), (.c (.int .i64 3)), (.c (.int .i64 3)), (.c (.int .i64 99))]) (.op (some 176) (.bslh 5 (.agg [.int .i64 0, .int .i64 0, .int .i64 0, .lst true [], .lst true []]) 1 [(0, (.t 175))]) (.op (some 177) (.call 15 [(.t 174), (.t 176)]) (.op (some 40) (.mv (.t 177)) (.nil)))))))
 (.seq (.ops (.op (some 178) (.mv (.t 25)) (.op (some 179) (.mv (.t 2)) (.op (some 180) (.call 38 [(.c (.int .i64 3)), (.c (.int .i64 1)), (.c (.int .i64 4)), (.t 179)]) (.op (some 181) (.mv (.t 2)) (.op (some 182) (.call 38 [(.c (.int .i64 3)), (.c (.int .i64 2)), (.c (.int .i64 4)), (.t 181)]) (.op (some 183) (.bslh 5 (.agg [.int .i64 0, .int .i64 0, .int .i64 0, .lst true [], .lst true []]) 2 [(0, (.t 180)), (1, (.t 182))]) (.op (some 184) (.call 15 [(.t 178), (.t 183)]) (.op (some 41) (.mv (.t 184)) (.nil))))))))))
 (.seq (.ops (.op (some 185) (.mv (.t 26)) (.op (some 186) (.mv (.t 2)) (.op (some 187) (.call 38 [(.c (.int .i64 1)), (.c (.int .i64 3)), (.c (.int .i64 5)), (.t 186)]) (.op (some 188) (.bslh 5 (.agg [.int .i64 0, .int .i64 0, .int .i64 0, .lst true [], .lst true []]) 1 [(0, (.t 187))]) (.op (some 189) (.call 15 [(.t 185), (.t 188)]) (.op (some 42) (.mv (.t 189)) (.nil))))))))
 (.seq (.ops (.op (some 190) (.mv (.t 26)) (.op (some 191) (.mv (.t 28)) (.op (some 192) (.call 15 [(.t 190), (.t 191)]) (.op (some 43) (.mv (.t 192)) (.nil))))))
 (.seq (.ops (.op (some 193) (.mv (.t 35)) (.op (some 194) (.mv (.t 2)) (.op (some 195) (.call 38 [(.c (.int .i64 3)), (.c (.int .i64 1)), (.c (.int .i64 6)), (.t 194)]) (.op (some 196) (.mv (.t 2)) (.op (some 197) (.call 38 [(.c (.int .i64 3)), (.c (.int .i64 2)), (.c (.int .i64 6)), (.t 196)]) (.op (some 198) (.bslh 5 (.agg [.int .i64 0, .int .i64 0, .int .i64 0, .lst true [], .lst true []]) 2 [(0, (.t 195)), (1, (.t 197))]) (.op (some 199) (.call 15 [(.t 193), (.t 198)]) (.op (some 44) (.mv (.t 199)) (.nil))))))))))
 (.seq (.ops (.op (some 200) (.mv (.t 37)) (.op (some 201) (.mv (.t 2)) (.op (some 202) (.call 38 [(.c (.int .i64 3)), (.c (.int .i64 2)), (.c (.int .i64 6)), (.t 201)]) (.op (some 203) (.bslh 5 (.agg [.int .i64 0, .int .i64 0, .int .i64 0, .lst true [], .lst true []]) 1 [(0, (.t 202))]) (.op (some 204) (.call 15 [(.t 200), (.t 203)]) (.op (some 45) (.mv (.t 204)) (.nil))))))))
 (.seq (.ops (.op (some 205) (.load 3 true (.t 16)) (.op (some 206) (.call 22 [(.t 205)]) (.op (some 207) (.mv (.t 2)) (.op (some 208) (.call 38 [(.c (.int .i64 2)), (.c (.int .i64 3)), (.c (.int .i64 7)), (.t 207)]) (.op (some 209) (.bslh 5 (.agg [.int .i64 0, .int .i64 0, .int .i64 0, .lst true [], .lst true []]) 1 [(0, (.t 208))]) (.op (some 210) (.call 15 [(.t 206), (.t 209)]) (.op (some 46) (.mv (.t 210)) (.nil)))))))))
 (.seq (.seq (.ops (.op (some 211) (.mv (.t 38)) (.op (some 212) (.un .not (.t 211)) (.op (some 213) (.mv (.t 212)) (.sc 216 false 213 214 215 (.op (some 214) (.mv (.t 39)) (.op (some 215) (.un .not (.t 214)) (.nil))) (.t 215) (.op (some 217) (.mv (.t 216)) (.sc 220 false 217 218 219 (.op (some 218) (.mv (.t 40)) (.op (some 219) (.un .not (.t 218)) (.nil))) (.t 219) (.op (some 221) (.mv (.t 220)) (.sc 224 false 221 222 223 (.op (some 222) (.mv (.t 41)) (.op (some 223) (.un .not (.t 222)) (.nil))) (.t 223) (.op (some 225) (.mv (.t 224)) (.sc 228 false 225 226 227 (.op (some 226) (.mv (.t 42)) (.op (some 227) (.un .not (.t 226)) (.nil))) (.t 227) (.op (some 229) (.mv (.t 228)) (.sc 232 false 229 230 231 (.op (some 230) (.mv (.t 43)) (.op (some 231) (.un .not (.t 230)) (.nil))) (.t 231) (.op (some 233) (.mv (.t 232)) (.sc 236 false 233 234 235 (.op (some 234) (.mv (.t 44)) (.op (some 235) (.un .not (.t 234)) (.nil))) (.t 235) (.op (some 237) (.mv (.t 236)) (.sc 240 false 237 238 239 (.op (some 238) (.mv (.t 45)) (.op (some 239) (.un .not (.t 238)) (.nil))) (.t 239) (.op (some 241) (.mv (.t 240)) (.sc 244 false 241 242 243 (.op (some 242) (.mv (.t 46)) (.op (some 243) (.un .not (.t 242)) (.nil))) (.t 243) (.nil))))))))))))))))))))
 (.cond (.t 244) (.seq (.ops (.op (some 0) (.mv (.c (.bool false))) (.nil)))
 (.ret)) (.skip)))
 (.seq (.ops (.op (some 245) (.mv (.t 2)) (.op (some 246) (.bin .eql (.t 245) (.c (.int .i64 11))) (.op (some 247) (.mv (.t 246)) (.sc 250 true 247 248 249 (.op (some 248) (.mv (.t 4)) (.op (some 249) (.bin .eql (.t 248) (.c (.int .i64 0))) (.nil))) (.t 249) (.op (some 251) (.mv (.t 250)) (.sc 254 true 251 252 253 (.op (some 252) (.mv (.t 8)) (.op (some 253) (.bin .eql (.t 252) (.c (.int .i64 1))) (.nil))) (.t 253) (.op (some 255) (.mv (.t 254)) (.sc 258 true 255 256 257 (.op (some 256) (.mv (.t 12)) (.op (some 257) (.bin .eql (.t 256) (.c (.int .i64 60))) (.nil))) (.t 257) (.op (some 259) (.mv (.t 258)) (.sc 262 true 259 260 261 (.op (some 260) (.mv (.t 15)) (.op (some 261) (.bin .eql (.t 260) (.c (.int .i64 0))) (.nil))) (.t 261) (.op (some 263) (.mv (.t 262)) (.sc 266 true 263 264 265 (.op (some 264) (.mv (.t 18)) (.op (some 265) (.bin .eql (.t 264) (.c (.int .i64 0))) (.nil))) (.t 265) (.op (some 267) (.mv (.t 266)) (.sc 270 true 267 268 269 (.op (some 268) (.mv (.t 27)) (.op (some 269) (.bin .eql (.t 268) (.c (.int .i64 11))) (.nil))) (.t 269) (.op (some 271) (.mv (.t 270)) (.sc 274 true 271 272 273 (.op (some 272) (.mv (.t 29)) (.op (some 273) (.bin .eql (.t 272) (.c (.int .i64 0))) (.nil))) (.t 273) (.op (some 275) (.mv (.t 274)) (.sc 282 true 275 276 281 (.op (some 276) (.mv (.t 23)) (.op (some 277) (.len false (.t 276)) (.op (some 278) (.mv (.t 31)) (.op (some 279) (.len false (.t 278)) (.op (some 280) (.bin .add (.t 277) (.t 279)) (.op (some 281) (.bin .eql (.t 280) (.c (.int .i64 0))) (.nil))))))) (.t 281) (.op (some 283) (.mv (.t 282)) (.sc 288 true 283 284 287 (.op (some 284) (.fad 2 (.t 24)) (.op (some 285) (.load 1 false (.t 284)) (.op (some 286) (.len false (.t 285)) (.op (some 287) (.bin .eql (.t 286) (.c (.int .i64 1))) (.nil))))) (.t 287) (.op (some 289) (.mv (.t 288)) (.sc 295 true 289 290 294 (.op (some 290) (.fad 2 (.t 24)) (.op (some 291) (.load 1 false (.t 290)) (.op (some 292) (.iad 5 (.t 291) (.c (.int .i64 0))) (.op (some 293) (.fad 3 (.t 292)) (.op (some 294) (.load 1 false (.t 293)) (.nil)))))) (.t 294) (.op (some 296) (.mv (.t 295)) (.sc 301 true 296 297 300 (.op (some 297) (.fad 2 (.t 30)) (.op (some 298) (.load 1 false (.t 297)) (.op (some 299) (.len false (.t 298)) (.op (some 300) (.bin .eql (.t 299) (.c (.int .i64 1))) (.nil))))) (.t 300) (.op (some 302) (.mv (.t 301)) (.sc 307 true 302 303 306 (.op (some 303) (.fad 2 (.t 32)) (.op (some 304) (.load 1 false (.t 303)) (.op (some 305) (.len false (.t 304)) (.op (some 306) (.bin .eql (.t 305) (.c (.int .i64 0))) (.nil))))) (.t 306) (.op (some 308) (.mv (.t 307)) (.sc 313 true 308 309 312 (.op (some 309) (.fad 1 (.t 13)) (.op (some 310) (.load 1 false (.t 309)) (.op (some 311) (.len false (.t 310)) (.op (some 312) (.bin .eql (.t 311) (.c (.int .i64 0))) (.nil))))) (.t 312) (.op (some 314) (.mv (.t 313)) (.sc 317 true 314 315 316 (.op (some 315) (.load 3 true (.t 16)) (.op (some 316) (.call 26 [(.t 315), (.c (.str [47, 98, 47, 120]))]) (.nil))) (.t 316) (.op (some 318) (.mv (.t 317)) (.sc 322 true 318 319 321 (.op (some 319) (.load 3 true (.t 16)) (.op (some 320) (.call 26 [(.t 319), (.c (.str [47, 99]))]) (.op (some 321) (.un .not (.t 320)) (.nil)))) (.t 321) (.op (some 0) (.mv (.t 322)) (.nil)))))))))))))))))))))))))))))))))))
 (.ret))))))))))))))))))))))))))))

theorem ok10 : okF Try.prog 10 c10 = true := by kernel_rfl

def c11 : AF := AF.mk 5 [.cell 2 3 true] (.seq (.ops (.op (some 2) (.alloc [.int .i64 0, .int .i64 0, .lst true []]) (.nil)))
 (.seq (.ops (.op (some 3) (.mv (.t 0)) (.op (some 4) (.build [.int .i64 0, .int .i64 0, .lst true []] [(0, 1, (.t 3))]) (.op none (.store 3 (.t 2) (.t 4)) (.nil)))))
 (.ret)))

theorem ok11 : okF Try.prog 11 c11 = true := by kernel_rfl

def b12_1 : AC := .seq (.ops (.op (some 49) (.bin .lss (.t 48) (.t 47)) (.nil)))
 (.seq (.cond (.t 49) (.skip) (.exit 0))
 (.seq (.block 1 (.seq (.ops (.op (some 50) (.mv (.t 48)) (.op (some 51) (.iad 1 (.t 46) (.t 48)) (.op (some 52) (.load 1 false (.t 51)) (.op (some 13) (.mv (.t 50)) (.op (some 14) (.mv (.t 52)) (.nil)))))))
 (.ops (.op (some 53) (.mv (.t 12)) (.op (some 54) (.fad 0 (.t 3)) (.op (some 55) (.load 1 false (.t 54)) (.op (some 56) (.mv (.t 14)) (.op (some 57) (.fad 0 (.t 11)) (.op (some 58) (.load 1 false (.t 57)) (.op (some 59) (.mv (.t 2)) (.op (some 60) (.mv (.t 13)) (.op (some 61) (.iad 1 (.t 59) (.t 60)) (.op (some 62) (.load 1 false (.t 61)) (.op (some 63) (.callp 43 [(.t 55), (.t 56), (.t 58), (.t 62)]) (.op (some 64) (.bsl 5 (.agg [.int .i64 0, .int .i64 0, .int .i64 0, .lst true [], .lst true []]) 1 [(0, (.t 63))]) (.op (some 65) (.app 5 72 (.t 53) (.t 64)) (.op (some 12) (.mv (.t 65)) (.nil))))))))))))))))))
 (.ops (.op (some 66) (.bin .add (.t 48) (.c (.int .i64 1))) (.op (some 48) (.mv (.t 66)) (.nil))))))
def c12_1 : AC := b12_1
@[simp] theorem e12_1 {Γ : Tab} {V : Nat → Bool} {ρ : Type} (k : AX → St → Option ρ) (s : St) : eval Γ c12_1 V ρ k s = eval Γ b12_1 V ρ k s := rfl
def c12 : AF := AF.mk 71 [.cell 6 3 true, .t 7, .t 8, .t 9] (.seq (.ops (.op (some 3) (.box (.t 0)) (.op (some 6) (.alloc [.int .i64 0, .int .i64 0, .lst true []]) (.op (some 7) (.mv (.c (.int .i64 0))) (.op (some 8) (.mv (.c (.lst true []))) (.op (some 9) (.mv (.c (.int .i64 0))) (.nil)))))))
 (.seq (.seq (.ops (.op (some 15) (.load 3 true (.t 3)) (.op (some 16) (.mv (.t 1)) (.op (some 17) (.mv (.t 2)) (.op (some 18) (.call 39 [(.t 15), (.t 16), (.t 17)]) (.op (some 10) (.mv (.t 18)) (.nil)))))))
 (.seq (.ops (.op (some 19) (.mv (.t 10)) (.op (some 20) (.bin .neq (.t 19) (.c (.int .i64 0))) (.nil))))
 (.cond (.t 20) (.seq (.ops (.op (some 21) (.load 3 true (.t 3)) (.op (some 22) (.mv (.t 10)) (.op none (.store 3 (.t 6) (.t 21)) (.op (some 7) (.mv (.c (.int .i64 0))) (.op (some 8) (.mv (.c (.lst true []))) (.op (some 9) (.mv (.t 22)) (.nil))))))))
 (.ret)) (.skip))))
 (.seq (.ops (.op (some 23) (.fad 1 (.t 3)) (.op (some 24) (.load 1 false (.t 23)) (.op (some 25) (.bin .add (.t 24) (.c (.int .i64 1))) (.op (some 26) (.fad 1 (.t 3)) (.op none (.store 1 (.t 26) (.t 25)) (.nil)))))))
 (.seq (.ops (.op (some 27) (.fad 1 (.t 3)) (.op (some 28) (.load 1 false (.t 27)) (.op (some 29) (.bin .mul (.t 28) (.c (.int .i64 8))) (.op (some 30) (.fad 0 (.t 3)) (.op (some 31) (.load 1 false (.t 30)) (.op (some 32) (.bin .add (.t 29) (.t 31)) (.op (some 33) (.mv (.t 1)) (.op (some 34) (.callq 40 [(.t 33)]) (.op (some 35) (.mv (.t 2)) (.op (some 36) (.callq 41 [(.t 35)]) (.op (some 37) (.build [.int .i64 0, .lst true [], .lst true []] [(0, 1, (.t 32)), (1, 1, (.t 34)), (2, 1, (.t 36))]) (.op (some 11) (.alloc [.int .i64 0, .lst true [], .lst true []]) (.op none (.store 3 (.t 11) (.t 37)) (.nil)))))))))))))))
 (.seq (.ops (.op (some 38) (.fad 2 (.t 3)) (.op (some 39) (.load 1 false (.t 38)) (.op (some 40) (.calla 42 [(.t 39)]) (.op (some 41) (.load 3 true (.t 11)) (.op (some 42) (.build [.int .i64 0, .lst true [], .lst true [], .bool false, .lst true []] [(0, 3, (.t 41))]) (.op (some 43) (.bsl 5 (.agg [.int .i64 0, .lst true [], .lst true [], .bool false, .lst true []]) 1 [(0, (.t 42))]) (.op (some 44) (.app 5 88 (.t 40) (.t 43)) (.op (some 45) (.fad 2 (.t 3)) (.op none (.store 1 (.t 45) (.t 44)) (.nil)))))))))))
 (.seq (.ops (.op (some 12) (.mv (.c (.lst true []))) (.nil)))
 (.seq (.seq (.ops (.op (some 46) (.mv (.t 1)) (.op (some 47) (.len false (.t 46)) (.op (some 48) (.mv (.c (.int .i64 0))) (.nil)))))
 (.block 0 (.loop [12, 48] [(12, 14), (48, 66)] [(12, 5)] [(.exit 0, [12])] c12_1)))
 (.seq (.ops (.op (some 67) (.load 3 true (.t 3)) (.op (some 68) (.fad 0 (.t 11)) (.op (some 69) (.loadx 1 false (.t 68) 6) (.op (some 70) (.mv (.t 12)) (.op none (.storer 3 (.t 6) (.t 67)) (.op (some 7) (.mv (.t 69)) (.op (some 8) (.mv (.t 70)) (.op (some 9) (.mv (.c (.int .i64 0))) (.nil))))))))))
 (.ret)))))))))

theorem ok12 : okF Try.prog 12 c12 = true := by kernel_rfl

def b15_1 : AC := .seq (.seq (.ops (.op (some 12) (.mv (.t 5)) (.op (some 13) (.mv (.t 0)) (.op (some 14) (.len false (.t 13)) (.op (some 15) (.bin .lss (.t 12) (.t 14)) (.nil))))))
 (.cond (.t 15) (.skip) (.exit 0)))
 (.seq (.block 1 (.seq (.ops (.op (some 18) (.mv (.t 0)) (.op (some 19) (.mv (.t 5)) (.op (some 20) (.iad 5 (.t 18) (.t 19)) (.op (some 21) (.fad 3 (.t 20)) (.op (some 22) (.load 1 false (.t 21)) (.op (some 23) (.mv (.t 1)) (.op (some 24) (.mv (.t 5)) (.op (some 25) (.iad 5 (.t 23) (.t 24)) (.op (some 26) (.fad 3 (.t 25)) (.op (some 27) (.load 1 false (.t 26)) (.op (some 28) (.callp 45 [(.t 22), (.t 27)]) (.op (some 6) (.mv (.t 28)) (.nil))))))))))))))
 (.seq (.ops (.op (some 29) (.mv (.t 6)) (.op (some 30) (.un .not (.t 29)) (.op (some 31) (.mv (.t 30)) (.sc 43 false 31 32 42 (.op (some 32) (.mv (.t 0)) (.op (some 33) (.mv (.t 5)) (.op (some 34) (.iad 5 (.t 32) (.t 33)) (.op (some 35) (.fad 0 (.t 34)) (.op (some 36) (.load 1 false (.t 35)) (.op (some 37) (.mv (.t 1)) (.op (some 38) (.mv (.t 5)) (.op (some 39) (.iad 5 (.t 37) (.t 38)) (.op (some 40) (.fad 0 (.t 39)) (.op (some 41) (.load 1 false (.t 40)) (.op (some 42) (.bin .neq (.t 36) (.t 41)) (.nil)))))))))))) (.t 42) (.op (some 44) (.mv (.t 43)) (.sc 56 false 44 45 55 (.op (some 45) (.mv (.t 0)) (.op (some 46) (.mv (.t 5)) (.op (some 47) (.iad 5 (.t 45) (.t 46)) (.op (some 48) (.fad 1 (.t 47)) (.op (some 49) (.load 1 false (.t 48)) (.op (some 50) (.mv (.t 1)) (.op (some 51) (.mv (.t 5)) (.op (some 52) (.iad 5 (.t 50) (.t 51)) (.op (some 53) (.fad 1 (.t 52)) (.op (some 54) (.load 1 false (.t 53)) (.op (some 55) (.bin .neq (.t 49) (.t 54)) (.nil)))))))))))) (.t 55) (.op (some 57) (.mv (.t 56)) (.sc 69 false 57 58 68 (.op (some 58) (.mv (.t 0)) (.op (some 59) (.mv (.t 5)) (.op (some 60) (.iad 5 (.t 58) (.t 59)) (.op (some 61) (.fad 2 (.t 60)) (.op (some 62) (.load 1 false (.t 61)) (.op (some 63) (.mv (.t 1)) (.op (some 64) (.mv (.t 5)) (.op (some 65) (.iad 5 (.t 63) (.t 64)) (.op (some 66) (.fad 2 (.t 65)) (.op (some 67) (.load 1 false (.t 66)) (.op (some 68) (.bin .neq (.t 62) (.t 67)) (.nil)))))))))))) (.t 68) (.op (some 70) (.mv (.t 69)) (.sc 84 false 70 71 83 (.op (some 71) (.mv (.t 0)) (.op (some 72) (.mv (.t 5)) (.op (some 73) (.iad 5 (.t 71) (.t 72)) (.op (some 74) (.fad 4 (.t 73)) (.op (some 75) (.load 1 false (.t 74)) (.op (some 76) (.bts (.t 75)) (.op (some 77) (.mv (.t 1)) (.op (some 78) (.mv (.t 5)) (.op (some 79) (.iad 5 (.t 77) (.t 78)) (.op (some 80) (.fad 4 (.t 79)) (.op (some 81) (.load 1 false (.t 80)) (.op (some 82) (.bts (.t 81)) (.op (some 83) (.bin .neq (.t 76) (.t 82)) (.nil)))))))))))))) (.t 83) (.nil))))))))))))
 (.cond (.t 84) (.seq (.ops (.op (some 4) (.mv (.c (.bool false))) (.nil)))
 (.ret)) (.skip)))))
 (.ops (.op (some 16) (.mv (.t 5)) (.op (some 17) (.bin .add (.t 16) (.c (.int .i64 1))) (.op (some 5) (.mv (.t 17)) (.nil))))))
def c15_1 : AC := b15_1
@[simp] theorem e15_1 {Γ : Tab} {V : Nat → Bool} {ρ : Type} (k : AX → St → Option ρ) (s : St) : eval Γ c15_1 V ρ k s = eval Γ b15_1 V ρ k s := rfl
def c15 : AF := AF.mk 85 [.t 4] (.seq (.ops (.op (some 4) (.mv (.c (.bool false))) (.nil)))
 (.seq (.seq (.ops (.op (some 7) (.mv (.t 0)) (.op (some 8) (.len false (.t 7)) (.op (some 9) (.mv (.t 1)) (.op (some 10) (.len false (.t 9)) (.op (some 11) (.bin .neq (.t 8) (.t 10)) (.nil)))))))
 (.cond (.t 11) (.seq (.ops (.op (some 4) (.mv (.c (.bool false))) (.nil)))
 (.ret)) (.skip)))
 (.seq (.seq (.ops (.op (some 5) (.mv (.c (.int .i64 0))) (.nil)))
 (.block 0 (.loop [5] [(4, 6), (12, 84)] [] [(.exit 0, []), (.ret, [4])] c15_1)))
 (.seq (.ops (.op (some 4) (.mv (.c (.bool true))) (.nil)))
 (.ret)))))

theorem ok15 : okF Try.prog 15 c15 = true := by kernel_rfl

def b16_1 : AC := .seq (.seq (.ops (.op (some 3) (.mv (.t 2)) (.op (some 4) (.bin .lss (.t 3) (.c (.int .i64 4))) (.nil))))
 (.cond (.t 4) (.skip) (.exit 0)))
 (.seq (.block 1 (.seq (.ops (.op (some 7) (.fad 0 (.t 1)) (.op (some 8) (.load 1 false (.t 7)) (.op (some 9) (.mv (.t 2)) (.op (some 10) (.callp 11 [(.t 9)]) (.op (some 11) (.bsl 3 (.agg [.int .i64 0, .int .i64 0, .lst true []]) 1 [(0, (.t 10))]) (.op (some 12) (.app 3 40 (.t 8) (.t 11)) (.op (some 13) (.fad 0 (.t 1)) (.op none (.store 1 (.t 13) (.t 12)) (.nil))))))))))
 (.seq (.ops (.op (some 14) (.fad 1 (.t 1)) (.op (some 15) (.load 1 false (.t 14)) (.op (some 16) (.mv (.t 2)) (.op (some 17) (.callp 36 [(.t 16)]) (.op (some 18) (.bsl 3 (.agg [.int .i64 0, .lst true [], .lst true []]) 1 [(0, (.t 17))]) (.op (some 19) (.app 3 56 (.t 15) (.t 18)) (.op (some 20) (.fad 1 (.t 1)) (.op none (.store 1 (.t 20) (.t 19)) (.nil))))))))))
 (.ops (.op (some 21) (.fad 4 (.t 1)) (.op (some 22) (.load 1 false (.t 21)) (.op (some 23) (.bslh 1 (.lst true []) 1 [(0, (.c (.lst true [])))]) (.op (some 24) (.app 1 24 (.t 22) (.t 23)) (.op (some 25) (.fad 4 (.t 1)) (.op none (.store 1 (.t 25) (.t 24)) (.nil)))))))))))
 (.ops (.op (some 5) (.mv (.t 2)) (.op (some 6) (.bin .add (.t 5) (.c (.int .i64 1))) (.op (some 2) (.mv (.t 6)) (.nil))))))
def c16_1 : AC := b16_1
@[simp] theorem e16_1 {Γ : Tab} {V : Nat → Bool} {ρ : Type} (k : AX → St → Option ρ) (s : St) : eval Γ c16_1 V ρ k s = eval Γ b16_1 V ρ k s := rfl
def c16 : AF := AF.mk 27 [.cell 0 5 true] (.seq (.ops (.op (some 0) (.alloc [.lst true [], .lst true [], .lst true [], .lst true [], .lst true []]) (.nil)))
 (.seq (.ops (.op (some 1) (.alloc [.lst true [], .lst true [], .lst true [], .lst true [], .lst true []]) (.nil)))
 (.seq (.seq (.ops (.op (some 2) (.mv (.c (.int .i64 0))) (.nil)))
 (.block 0 (.loopA [(1, 0, 3), (1, 1, 3), (1, 4, 1)] [2] [(2, 25)] [] [(.exit 0, [])] c16_1)))
 (.seq (.ops (.op (some 26) (.load 5 true (.t 1)) (.op none (.store 5 (.t 0) (.t 26)) (.nil))))
 (.ret)))))

theorem ok16 : okF Try.prog 16 c16 = true := by kernel_rfl

def b17_1 : AC := .seq (.seq (.ops (.op (some 19) (.mv (.t 8)) (.op (some 20) (.bin .lss (.t 19) (.c (.int .i64 4))) (.nil))))
 (.cond (.t 20) (.skip) (.exit 0)))
 (.seq (.block 1 (.seq (.seq (.ops (.op (some 23) (.mv (.t 7)) (.op (some 24) (.bin .rem (.t 23) (.c (.int .i64 2))) (.op (some 25) (.bin .eql (.t 24) (.c (.int .i64 1))) (.nil)))))
 (.cond (.t 25) (.seq (.ops (.op (some 26) (.mv (.t 5)) (.op (some 27) (.mv (.t 8)) (.op (some 28) (.bslh 1 (.int .i64 0) 1 [(0, (.t 27))]) (.op (some 29) (.app 1 8 (.t 26) (.t 28)) (.op (some 5) (.mv (.t 29)) (.nil)))))))
 (.ops (.op (some 30) (.mv (.t 6)) (.op (some 31) (.mv (.t 5)) (.op (some 32) (.len false (.t 31)) (.op (some 33) (.bin .rem (.t 32) (.c (.int .i64 3))) (.op (some 34) (.fad 3 (.t 3)) (.op (some 35) (.iada 3 1 (.t 34) (.t 33)) (.op (some 36) (.load 1 false (.t 35)) (.op (some 37) (.mv (.t 8)) (.op (some 38) (.conv .u8 (.t 37)) (.op (some 39) (.bin .add (.t 36) (.t 38)) (.op (some 40) (.call 46 [(.t 39)]) (.op (some 41) (.bslh 1 (.str []) 1 [(0, (.t 40))]) (.op (some 42) (.app 1 16 (.t 30) (.t 41)) (.op (some 6) (.mv (.t 42)) (.nil))))))))))))))))) (.skip)))
 (.ops (.op (some 43) (.mv (.t 7)) (.op (some 44) (.bin .quo (.t 43) (.c (.int .i64 2))) (.op (some 7) (.mv (.t 44)) (.nil)))))))
 (.ops (.op (some 21) (.mv (.t 8)) (.op (some 22) (.bin .add (.t 21) (.c (.int .i64 1))) (.op (some 8) (.mv (.t 22)) (.nil))))))
def c17_1 : AC := b17_1
@[simp] theorem e17_1 {Γ : Tab} {V : Nat → Bool} {ρ : Type} (k : AX → St → Option ρ) (s : St) : eval Γ c17_1 V ρ k s = eval Γ b17_1 V ρ k s := rfl
def c17 : AF := AF.mk 81 [.cell 4 5 true] (.seq (.ops (.op (some 2) (.box (.t 0)) (.op (some 3) (.box (.t 1)) (.op (some 4) (.alloc [.lst true [], .lst true [], .lst true [], .lst true [], .lst true []]) (.nil)))))
 (.seq (.ops (.op (some 5) (.mv (.c (.lst true []))) (.nil)))
 (.seq (.ops (.op (some 6) (.mv (.c (.lst true []))) (.nil)))
 (.seq (.ops (.op (some 14) (.fad 2 (.t 3)) (.op (some 15) (.load 1 false (.t 14)) (.op (some 16) (.conv .i64 (.t 15)) (.op (some 17) (.bin .rem (.t 16) (.c (.int .i64 15))) (.op (some 18) (.bin .add (.t 17) (.c (.int .i64 1))) (.op (some 7) (.mv (.t 18)) (.nil))))))))
 (.seq (.seq (.ops (.op (some 8) (.mv (.c (.int .i64 0))) (.nil)))
 (.block 0 (.loop [5, 6, 7, 8] [(5, 8), (19, 44)] [(5, 1), (6, 1)] [(.exit 0, [5, 6])] c17_1)))
 (.seq (.ops (.op (some 45) (.fad 1 (.t 3)) (.op (some 46) (.load 1 false (.t 45)) (.op (some 47) (.conv .i64 (.t 46)) (.op (some 48) (.bin .rem (.t 47) (.c (.int .i64 4))) (.op (some 9) (.mv (.t 48)) (.nil)))))))
 (.seq (.ops (.op (some 50) (.fad 0 (.t 2)) (.op (some 51) (.load 1 false (.t 50)) (.op (some 52) (.mv (.t 9)) (.op (some 53) (.iad 3 (.t 51) (.t 52)) (.op (some 54) (.load 3 true (.t 53)) (.op (some 55) (.mv (.t 5)) (.op (some 56) (.mv (.t 6)) (.op (some 57) (.call 12 [(.t 54), (.t 55), (.t 56)]) (.op (some 49) (.mv (.t 57)) (.op (some 58) (.ext (.t 49) 0) (.op (some 59) (.ext (.t 49) 1) (.op (some 60) (.ext (.t 49) 2) (.op (some 61) (.ext (.t 49) 3) (.op (some 10) (.alloc [.int .i64 0, .int .i64 0, .lst true []]) (.op none (.store 3 (.t 10) (.t 58)) (.op (some 11) (.mv (.t 59)) (.op (some 12) (.mv (.t 60)) (.op (some 13) (.mv (.t 61)) (.nil))))))))))))))))))))
 (.seq (.ops (.op (some 62) (.fad 0 (.t 2)) (.op (some 63) (.load 1 false (.t 62)) (.op (some 64) (.mv (.t 9)) (.op (some 65) (.load 3 true (.t 10)) (.op (some 66) (.iad 3 (.t 63) (.t 64)) (.op none (.store 3 (.t 66) (.t 65)) (.nil))))))))
 (.seq (.seq (.ops (.op (some 67) (.mv (.t 13)) (.op (some 68) (.bin .eql (.t 67) (.c (.int .i64 0))) (.nil))))
 (.cond (.t 68) (.ops (.op (some 69) (.fad 3 (.t 2)) (.op (some 70) (.load 1 false (.t 69)) (.op (some 71) (.mv (.t 11)) (.op (some 72) (.mv (.t 5)) (.op (some 73) (.mv (.t 6)) (.op (some 74) (.build [.int .i64 0, .lst true [], .lst true []] [(0, 1, (.t 71)), (1, 1, (.t 72)), (2, 1, (.t 73))]) (.op (some 75) (.bslh 3 (.agg [.int .i64 0, .lst true [], .lst true []]) 1 [(0, (.t 74))]) (.op (some 76) (.app 3 56 (.t 70) (.t 75)) (.op (some 77) (.fad 3 (.t 2)) (.op none (.store 1 (.t 77) (.t 76)) (.nil)))))))))))) (.skip)))
 (.seq (.ops (.op (some 78) (.load 5 true (.t 2)) (.op (some 79) (.mv (.t 12)) (.op (some 80) (.call 47 [(.t 78), (.t 79)]) (.op none (.store 5 (.t 4) (.t 80)) (.nil))))))
 (.ret)))))))))))

theorem ok17 : okF Try.prog 17 c17 = true := by kernel_rfl

def c18 : AF := AF.mk 104 [.cell 6 5 true] (.seq (.ops (.op (some 3) (.box (.t 0)) (.op (some 6) (.alloc [.lst true [], .lst true [], .lst true [], .lst true [], .lst true []]) (.nil))))
 (.seq (.ops (.op (some 14) (.fad 2 (.t 3)) (.op (some 15) (.load 1 false (.t 14)) (.op (some 16) (.mv (.t 1)) (.op (some 17) (.iad 5 (.t 15) (.t 16)) (.op (some 18) (.load 5 true (.t 17)) (.op (some 7) (.alloc [.int .i64 0, .int .i64 0, .int .i64 0, .lst true [], .lst true []]) (.op none (.store 5 (.t 7) (.t 18)) (.nil)))))))))
 (.seq (.seq (.ops (.op (some 19) (.mv (.t 2)) (.op (some 20) (.un .not (.t 19)) (.nil))))
 (.cond (.t 20) (.seq (.ops (.op (some 8) (.mv (.c (.lst true []))) (.nil)))
 (.seq (.ops (.op (some 21) (.mv (.t 8)) (.op (some 22) (.fad 2 (.t 3)) (.op (some 23) (.load 1 false (.t 22)) (.op (some 24) (.mv (.t 1)) (.op (some 25) (.sll 5 (.t 23) none (some (.t 24)) none) (.op (some 26) (.app 5 72 (.t 21) (.t 25)) (.op (some 8) (.mv (.t 26)) (.nil)))))))))
 (.seq (.ops (.op (some 27) (.mv (.t 8)) (.op (some 28) (.fad 2 (.t 3)) (.op (some 29) (.load 1 false (.t 28)) (.op (some 30) (.mv (.t 1)) (.op (some 31) (.bin .add (.t 30) (.c (.int .i64 1))) (.op (some 32) (.sll 5 (.t 29) (some (.t 31)) none none) (.op (some 33) (.app 5 72 (.t 27) (.t 32)) (.op (some 8) (.mv (.t 33)) (.nil))))))))))
 (.ops (.op (some 34) (.mv (.t 8)) (.op (some 35) (.fad 2 (.t 3)) (.op none (.store 1 (.t 35) (.t 34)) (.nil)))))))) (.skip)))
 (.seq (.seq (.ops (.op (some 36) (.fad 1 (.t 7)) (.op (some 37) (.load 1 false (.t 36)) (.op (some 38) (.bin .lss (.t 37) (.c (.int .i64 0))) (.op (some 39) (.mv (.t 38)) (.sc 43 false 39 40 42 (.op (some 40) (.fad 1 (.t 7)) (.op (some 41) (.load 1 false (.t 40)) (.op (some 42) (.bin .geq (.t 41) (.c (.int .i64 4))) (.nil)))) (.t 42) (.nil)))))))
 (.cond (.t 43) (.seq (.ops (.op (some 44) (.load 5 true (.t 3)) (.op none (.store 5 (.t 6) (.t 44)) (.nil))))
 (.ret)) (.skip)))
 (.seq (.ops (.op (some 46) (.fad 0 (.t 3)) (.op (some 47) (.load 1 false (.t 46)) (.op (some 48) (.fad 1 (.t 7)) (.op (some 49) (.load 1 false (.t 48)) (.op (some 50) (.iad 3 (.t 47) (.t 49)) (.op (some 51) (.load 3 true (.t 50)) (.op (some 52) (.load 5 true (.t 7)) (.op (some 53) (.callp 37 [(.t 51), (.t 52)]) (.op (some 45) (.mv (.t 53)) (.op (some 54) (.ext (.t 45) 0) (.op (some 55) (.ext (.t 45) 1) (.op (some 9) (.alloc [.int .i64 0, .int .i64 0, .lst true []]) (.op none (.store 3 (.t 9) (.t 54)) (.op (some 10) (.mv (.t 55)) (.nil))))))))))))))))
 (.seq (.ops (.op (some 56) (.fad 0 (.t 3)) (.op (some 57) (.load 1 false (.t 56)) (.op (some 58) (.fad 1 (.t 7)) (.op (some 59) (.load 1 false (.t 58)) (.op (some 60) (.load 3 true (.t 9)) (.op (some 61) (.iad 3 (.t 57) (.t 59)) (.op none (.store 3 (.t 61) (.t 60)) (.nil)))))))))
 (.seq (.ops (.op (some 62) (.load 5 true (.t 3)) (.op (some 63) (.mv (.t 10)) (.op (some 64) (.call 47 [(.t 62), (.t 63)]) (.op none (.store 5 (.t 3) (.t 64)) (.nil))))))
 (.seq (.ops (.op (some 66) (.fad 1 (.t 3)) (.op (some 67) (.load 1 false (.t 66)) (.op (some 68) (.fad 1 (.t 7)) (.op (some 69) (.load 1 false (.t 68)) (.op (some 70) (.iad 3 (.t 67) (.t 69)) (.op (some 71) (.load 3 true (.t 70)) (.op (some 72) (.load 5 true (.t 7)) (.op (some 73) (.callp 35 [(.t 71), (.t 72)]) (.op (some 65) (.mv (.t 73)) (.op (some 74) (.ext (.t 65) 0) (.op (some 75) (.ext (.t 65) 1) (.op (some 76) (.ext (.t 65) 2) (.op (some 11) (.alloc [.int .i64 0, .lst true [], .lst true []]) (.op none (.store 3 (.t 11) (.t 74)) (.op (some 12) (.mv (.t 75)) (.op (some 13) (.mv (.t 76)) (.nil))))))))))))))))))
 (.seq (.ops (.op (some 77) (.fad 1 (.t 3)) (.op (some 78) (.load 1 false (.t 77)) (.op (some 79) (.fad 1 (.t 7)) (.op (some 80) (.load 1 false (.t 79)) (.op (some 81) (.load 3 true (.t 11)) (.op (some 82) (.iad 3 (.t 78) (.t 80)) (.op none (.store 3 (.t 82) (.t 81)) (.nil)))))))))
 (.seq (.seq (.ops (.op (some 83) (.mv (.t 13)) (.op (some 84) (.bin .neq (.t 83) (.c (.int .i64 0))) (.nil))))
 (.cond (.t 84) (.ops (.op (some 85) (.fad 4 (.t 3)) (.op (some 86) (.loadv 1 false 85) (.op (some 87) (.fad 1 (.t 7)) (.op (some 88) (.loadv 1 false 87) (.op (some 89) (.bsl 1 (.int .i64 0) 0 []) (.op (some 90) (.fad 4 (.t 3)) (.op (some 91) (.load 1 false (.t 90)) (.op (some 92) (.fad 1 (.t 7)) (.op (some 93) (.load 1 false (.t 92)) (.op (some 94) (.iad 1 (.t 91) (.t 93)) (.op (some 95) (.load 1 false (.t 94)) (.op (some 96) (.app 1 8 (.t 89) (.t 95)) (.op (some 97) (.mv (.t 13)) (.op (some 98) (.bsl 1 (.int .i64 0) 1 [(0, (.t 97))]) (.op (some 99) (.app 1 8 (.t 96) (.t 98)) (.op (some 100) (.iad 1 (.t 86) (.t 88)) (.op none (.store 1 (.t 100) (.t 99)) (.nil))))))))))))))))))) (.skip)))
 (.seq (.ops (.op (some 101) (.load 5 true (.t 3)) (.op (some 102) (.mv (.t 12)) (.op (some 103) (.call 47 [(.t 101), (.t 102)]) (.op none (.store 5 (.t 6) (.t 103)) (.nil))))))
 (.ret))))))))))))

theorem ok18 : okF Try.prog 18 c18 = true := by kernel_rfl

def c19 : AF := AF.mk 137 [.cell 4 5 true] (.seq (.ops (.op (some 2) (.box (.t 0)) (.op (some 3) (.rbox (.t 1)) (.op (some 4) (.alloc [.lst true [], .lst true [], .lst true [], .lst true [], .lst true []]) (.nil)))))
 (.seq (.ops (.op (some 11) (.fad 1 (.t 3)) (.op (some 12) (.loadr 1 false (.t 11)) (.op (some 13) (.conv .i64 (.t 12)) (.op (some 14) (.bin .rem (.t 13) (.c (.int .i64 4))) (.op (some 5) (.mv (.t 14)) (.nil)))))))
 (.seq (.ops (.op (some 15) (.fad 0 (.t 3)) (.op (some 16) (.loadr 1 false (.t 15)) (.op (some 17) (.bin .rem (.t 16) (.c (.int .u8 16))) (.op (some 6) (.mv (.t 17)) (.nil))))))
 (.seq (.seq (.ops (.op (some 18) (.mv (.t 6)) (.nil)))
 (.block 0 (.seq (.seq (.ops (.op (some 20) (.bin .eql (.t 18) (.c (.int .u8 0))) (.op (some 19) (.mv (.t 20)) (.nil))))
 (.cond (.t 19) (.skip) (.seq (.ops (.op (some 21) (.bin .eql (.t 18) (.c (.int .u8 1))) (.op (some 19) (.mv (.t 21)) (.nil))))
 (.cond (.t 19) (.skip) (.ops (.op (some 22) (.bin .eql (.t 18) (.c (.int .u8 2))) (.op (some 19) (.mv (.t 22)) (.nil))))))))
 (.cond (.t 19) (.seq (.ops (.op (some 23) (.load 5 true (.t 2)) (.op (some 24) (.loadr 6 true (.t 3)) (.op (some 25) (.call 17 [(.t 23), (.t 24)]) (.op none (.store 5 (.t 4) (.t 25)) (.nil))))))
 (.ret)) (.seq (.ops (.op (some 27) (.bin .eql (.t 18) (.c (.int .u8 3))) (.op (some 26) (.mv (.t 27)) (.nil))))
 (.cond (.t 26) (.seq (.ops (.op (some 28) (.load 5 true (.t 2)) (.op (some 29) (.fad 0 (.t 2)) (.op (some 30) (.load 1 false (.t 29)) (.op (some 31) (.mv (.t 5)) (.op (some 32) (.iad 3 (.t 30) (.t 31)) (.op (some 33) (.load 3 true (.t 32)) (.op (some 34) (.callp 20 [(.t 33)]) (.op (some 35) (.call 47 [(.t 28), (.t 34)]) (.op none (.store 5 (.t 4) (.t 35)) (.nil)))))))))))
 (.ret)) (.seq (.ops (.op (some 37) (.bin .eql (.t 18) (.c (.int .u8 4))) (.op (some 36) (.mv (.t 37)) (.nil))))
 (.cond (.t 36) (.seq (.ops (.op (some 38) (.load 5 true (.t 2)) (.op (some 39) (.fad 1 (.t 2)) (.op (some 40) (.load 1 false (.t 39)) (.op (some 41) (.mv (.t 5)) (.op (some 42) (.iad 3 (.t 40) (.t 41)) (.op (some 43) (.load 3 true (.t 42)) (.op (some 44) (.callp 22 [(.t 43)]) (.op (some 45) (.call 47 [(.t 38), (.t 44)]) (.op none (.store 5 (.t 4) (.t 45)) (.nil)))))))))))
 (.ret)) (.seq (.ops (.op (some 47) (.bin .eql (.t 18) (.c (.int .u8 5))) (.op (some 46) (.mv (.t 47)) (.nil))))
 (.cond (.t 46) (.seq (.seq (.ops (.op (some 48) (.fad 0 (.t 2)) (.op (some 49) (.load 1 false (.t 48)) (.op (some 50) (.mv (.t 5)) (.op (some 51) (.iad 3 (.t 49) (.t 50)) (.op (some 52) (.fad 2 (.t 51)) (.op (some 53) (.load 1 false (.t 52)) (.op (some 54) (.len false (.t 53)) (.op (some 55) (.bin .eql (.t 54) (.c (.int .i64 0))) (.nil))))))))))
 (.cond (.t 55) (.seq (.ops (.op (some 56) (.load 5 true (.t 2)) (.op none (.store 5 (.t 4) (.t 56)) (.nil))))
 (.ret)) (.skip)))
 (.seq (.ops (.op (some 58) (.fad 0 (.t 2)) (.op (some 59) (.load 1 false (.t 58)) (.op (some 60) (.mv (.t 5)) (.op (some 61) (.iad 3 (.t 59) (.t 60)) (.op (some 62) (.load 3 true (.t 61)) (.op (some 63) (.fad 0 (.t 2)) (.op (some 64) (.load 1 false (.t 63)) (.op (some 65) (.mv (.t 5)) (.op (some 66) (.iad 3 (.t 64) (.t 65)) (.op (some 67) (.fad 2 (.t 66)) (.op (some 68) (.load 1 false (.t 67)) (.op (some 69) (.iad 5 (.t 68) (.c (.int .i64 0))) (.op (some 70) (.fad 0 (.t 69)) (.op (some 71) (.fad 0 (.t 70)) (.op (some 72) (.load 1 false (.t 71)) (.op (some 73) (.callp 32 [(.t 62), (.t 72)]) (.op (some 57) (.mv (.t 73)) (.op (some 74) (.ext (.t 57) 0) (.op (some 75) (.ext (.t 57) 1) (.op (some 7) (.alloc [.int .i64 0, .int .i64 0, .lst true []]) (.op none (.store 3 (.t 7) (.t 74)) (.op (some 8) (.mv (.t 75)) (.nil))))))))))))))))))))))))
 (.seq (.ops (.op (some 76) (.fad 0 (.t 2)) (.op (some 77) (.load 1 false (.t 76)) (.op (some 78) (.mv (.t 5)) (.op (some 79) (.load 3 true (.t 7)) (.op (some 80) (.iad 3 (.t 77) (.t 78)) (.op none (.store 3 (.t 80) (.t 79)) (.nil))))))))
 (.seq (.ops (.op (some 81) (.load 5 true (.t 2)) (.op (some 82) (.mv (.t 8)) (.op (some 83) (.call 47 [(.t 81), (.t 82)]) (.op none (.store 5 (.t 4) (.t 83)) (.nil))))))
 (.ret))))) (.seq (.ops (.op (some 85) (.bin .eql (.t 18) (.c (.int .u8 6))) (.op (some 84) (.mv (.t 85)) (.nil))))
 (.cond (.t 84) (.seq (.ops (.op (some 86) (.fad 0 (.t 2)) (.op (some 87) (.load 1 false (.t 86)) (.op (some 88) (.mv (.t 5)) (.op (some 89) (.fad 0 (.t 2)) (.op (some 90) (.load 1 false (.t 89)) (.op (some 91) (.mv (.t 5)) (.op (some 92) (.iad 3 (.t 90) (.t 91)) (.op (some 93) (.load 3 true (.t 92)) (.op (some 94) (.callp 24 [(.t 93)]) (.op (some 95) (.iad 3 (.t 87) (.t 88)) (.op none (.store 3 (.t 95) (.t 94)) (.nil)))))))))))))
 (.seq (.ops (.op (some 96) (.load 5 true (.t 2)) (.op none (.store 5 (.t 4) (.t 96)) (.nil))))
 (.ret))) (.skip)))))))))))))
 (.seq (.seq (.ops (.op (some 97) (.fad 2 (.t 2)) (.op (some 98) (.load 1 false (.t 97)) (.op (some 99) (.len false (.t 98)) (.op (some 100) (.bin .eql (.t 99) (.c (.int .i64 0))) (.nil))))))
 (.cond (.t 100) (.seq (.ops (.op (some 101) (.load 5 true (.t 2)) (.op none (.store 5 (.t 4) (.t 101)) (.nil))))
 (.ret)) (.skip)))
 (.seq (.ops (.op (some 102) (.fad 2 (.t 3)) (.op (some 103) (.loadr 1 false (.t 102)) (.op (some 104) (.conv .i64 (.t 103)) (.op (some 105) (.fad 1 (.t 3)) (.op (some 106) (.loadr 1 false (.t 105)) (.op (some 107) (.conv .i64 (.t 106)) (.op (some 108) (.bin .mul (.c (.int .i64 256)) (.t 107)) (.op (some 109) (.bin .add (.t 104) (.t 108)) (.op (some 110) (.fad 2 (.t 2)) (.op (some 111) (.load 1 false (.t 110)) (.op (some 112) (.len false (.t 111)) (.op (some 113) (.bin .rem (.t 109) (.t 112)) (.op (some 9) (.mv (.t 113)) (.nil)))))))))))))))
 (.seq (.seq (.ops (.op (some 114) (.mv (.t 6)) (.op (some 115) (.bin .eql (.t 114) (.c (.int .u8 7))) (.nil))))
 (.cond (.t 115) (.seq (.ops (.op (some 10) (.mv (.c (.lst true []))) (.nil)))
 (.seq (.ops (.op (some 116) (.mv (.t 10)) (.op (some 117) (.fad 2 (.t 2)) (.op (some 118) (.load 1 false (.t 117)) (.op (some 119) (.mv (.t 9)) (.op (some 120) (.sll 5 (.t 118) none (some (.t 119)) none) (.op (some 121) (.app 5 72 (.t 116) (.t 120)) (.op (some 10) (.mv (.t 121)) (.nil)))))))))
 (.seq (.ops (.op (some 122) (.mv (.t 10)) (.op (some 123) (.fad 2 (.t 2)) (.op (some 124) (.load 1 false (.t 123)) (.op (some 125) (.mv (.t 9)) (.op (some 126) (.bin .add (.t 125) (.c (.int .i64 1))) (.op (some 127) (.sll 5 (.t 124) (some (.t 126)) none none) (.op (some 128) (.app 5 72 (.t 122) (.t 127)) (.op (some 10) (.mv (.t 128)) (.nil))))))))))
 (.seq (.ops (.op (some 129) (.mv (.t 10)) (.op (some 130) (.fad 2 (.t 2)) (.op none (.store 1 (.t 130) (.t 129)) (.nil)))))
 (.seq (.ops (.op (some 131) (.load 5 true (.t 2)) (.op none (.store 5 (.t 4) (.t 131)) (.nil))))
 (.ret)))))) (.skip)))
 (.seq (.ops (.op (some 132) (.load 5 true (.t 2)) (.op (some 133) (.mv (.t 9)) (.op (some 134) (.mv (.t 6)) (.op (some 135) (.bin .eql (.t 134) (.c (.int .u8 8))) (.op (some 136) (.call 18 [(.t 132), (.t 133), (.t 135)]) (.op none (.store 5 (.t 4) (.t 136)) (.nil))))))))
 (.ret)))))))))

theorem ok19 : okF Try.prog 19 c19 = true := by kernel_rfl

def b20_1 : AC := .seq (.ops (.op (some 20) (.bin .lss (.t 19) (.t 18)) (.nil)))
 (.seq (.cond (.t 20) (.skip) (.exit 2))
 (.seq (.block 3 (.seq (.ops (.op (some 21) (.mv (.t 19)) (.op (some 22) (.iad 1 (.t 17) (.t 19)) (.op (some 23) (.load 1 false (.t 22)) (.op (some 6) (.mv (.t 21)) (.op (some 7) (.mv (.t 23)) (.nil)))))))
 (.block 4 (.seq (.ops (.op (some 41) (.fad 4 (.t 5)) (.op (some 42) (.load 1 false (.t 41)) (.op (some 43) (.mv (.t 7)) (.op (some 44) (.call 48 [(.t 42), (.t 43)]) (.op (some 40) (.mv (.t 44)) (.nil)))))))
 (.cond (.t 40) (.skip) (.seq (.ops (.op (some 46) (.fad 3 (.t 5)) (.op (some 47) (.load 1 false (.t 46)) (.op (some 45) (.mv (.t 47)) (.nil)))))
 (.cond (.t 45) (.ops (.op (some 48) (.mv (.t 3)) (.op (some 49) (.fad 0 (.t 1)) (.op (some 50) (.loadr 1 false (.t 49)) (.op (some 51) (.mv (.t 7)) (.op (some 52) (.fad 0 (.t 5)) (.op (some 53) (.fad 0 (.t 52)) (.op (some 54) (.load 1 false (.t 53)) (.op (some 55) (.call 49 [(.t 50), (.t 51), (.c (.int .i64 4)), (.t 54)]) (.op (some 56) (.bslh 5 (.agg [.int .i64 0, .int .i64 0, .int .i64 0, .lst true [], .lst true []]) 1 [(0, (.t 55))]) (.op (some 57) (.app 5 72 (.t 48) (.t 56)) (.op (some 3) (.mv (.t 57)) (.nil))))))))))))) (.ops (.op (some 24) (.mv (.t 3)) (.op (some 25) (.fad 0 (.t 1)) (.op (some 26) (.loadr 1 false (.t 25)) (.op (some 27) (.mv (.t 7)) (.op (some 28) (.fad 0 (.t 5)) (.op (some 29) (.fad 0 (.t 28)) (.op (some 30) (.load 1 false (.t 29)) (.op (some 31) (.fad 0 (.t 5)) (.op (some 32) (.fad 2 (.t 31)) (.op (some 33) (.load 1 false (.t 32)) (.op (some 34) (.mv (.t 6)) (.op (some 35) (.iad 1 (.t 33) (.t 34)) (.op (some 36) (.load 1 false (.t 35)) (.op (some 37) (.callp 43 [(.t 26), (.t 27), (.t 30), (.t 36)]) (.op (some 38) (.bsl 5 (.agg [.int .i64 0, .int .i64 0, .int .i64 0, .lst true [], .lst true []]) 1 [(0, (.t 37))]) (.op (some 39) (.app 5 72 (.t 24) (.t 38)) (.op (some 3) (.mv (.t 39)) (.nil))))))))))))))))))))))))))
 (.ops (.op (some 58) (.bin .add (.t 19) (.c (.int .i64 1))) (.op (some 19) (.mv (.t 58)) (.nil))))))
def c20_1 : AC := b20_1
@[simp] theorem e20_1 {Γ : Tab} {V : Nat → Bool} {ρ : Type} (k : AX → St → Option ρ) (s : St) : eval Γ c20_1 V ρ k s = eval Γ b20_1 V ρ k s := rfl
def b20_2 : AC := .seq (.ops (.op (some 12) (.bin .lss (.t 11) (.t 10)) (.nil)))
 (.seq (.cond (.t 12) (.skip) (.exit 0))
 (.seq (.block 1 (.seq (.ops (.op (some 13) (.iad 5 (.t 9) (.t 11)) (.op (some 14) (.load 5 true (.t 13)) (.op (some 5) (.alloc [.int .i64 0, .lst true [], .lst true [], .bool false, .lst true []]) (.op none (.store 5 (.t 5) (.t 14)) (.nil))))))
 (.seq (.ops (.op (some 15) (.fad 0 (.t 5)) (.op (some 16) (.fad 1 (.t 15)) (.op (some 17) (.load 1 false (.t 16)) (.op (some 18) (.len false (.t 17)) (.op (some 19) (.mv (.c (.int .i64 0))) (.nil)))))))
 (.block 2 (.loop [3, 19] [(3, 3), (6, 7), (19, 58)] [(3, 5)] [(.exit 2, [3])] c20_1)))))
 (.ops (.op (some 59) (.bin .add (.t 11) (.c (.int .i64 1))) (.op (some 11) (.mv (.t 59)) (.nil))))))
def c20_2 : AC := b20_2
@[simp] theorem e20_2 {Γ : Tab} {V : Nat → Bool} {ρ : Type} (k : AX → St → Option ρ) (s : St) : eval Γ c20_2 V ρ k s = eval Γ b20_2 V ρ k s := rfl
def c20 : AF := AF.mk 61 [.t 2] (.seq (.ops (.op (some 1) (.rbox (.t 0)) (.op (some 2) (.mv (.c (.lst true []))) (.nil))))
 (.seq (.ops (.op (some 3) (.mv (.c (.lst true []))) (.nil)))
 (.seq (.seq (.ops (.op (some 8) (.fad 2 (.t 1)) (.op (some 9) (.loadr 1 false (.t 8)) (.op (some 10) (.len false (.t 9)) (.op (some 11) (.mv (.c (.int .i64 0))) (.nil))))))
 (.block 0 (.loop [3, 11] [(3, 3), (5, 7), (11, 59)] [(3, 5)] [(.exit 0, [3])] c20_2)))
 (.seq (.ops (.op (some 60) (.mv (.t 3)) (.op (some 2) (.mv (.t 60)) (.nil))))
 (.ret)))))

theorem ok20 : okF Try.prog 20 c20 = true := by kernel_rfl

def b22_1 : AC := .seq (.ops (.op (some 10) (.bin .lss (.t 9) (.t 8)) (.nil)))
 (.seq (.cond (.t 10) (.skip) (.exit 0))
 (.seq (.block 1 (.seq (.ops (.op (some 11) (.iad 2 (.t 7) (.t 9)) (.op (some 12) (.load 2 true (.t 11)) (.op (some 5) (.alloc [.int .i64 0, .str []]) (.op none (.store 2 (.t 5) (.t 12)) (.nil))))))
 (.ops (.op (some 13) (.mv (.t 3)) (.op (some 14) (.fad 0 (.t 1)) (.op (some 15) (.loadr 1 false (.t 14)) (.op (some 16) (.fad 0 (.t 5)) (.op (some 17) (.load 1 false (.t 16)) (.op (some 18) (.bin .rem (.t 17) (.c (.int .i64 8))) (.op (some 19) (.fad 0 (.t 5)) (.op (some 20) (.load 1 false (.t 19)) (.op (some 21) (.call 49 [(.t 15), (.t 18), (.c (.int .i64 7)), (.t 20)]) (.op (some 22) (.bslh 5 (.agg [.int .i64 0, .int .i64 0, .int .i64 0, .lst true [], .lst true []]) 1 [(0, (.t 21))]) (.op (some 23) (.app 5 72 (.t 13) (.t 22)) (.op (some 3) (.mv (.t 23)) (.nil))))))))))))))))
 (.ops (.op (some 24) (.bin .add (.t 9) (.c (.int .i64 1))) (.op (some 9) (.mv (.t 24)) (.nil))))))
def c22_1 : AC := b22_1
@[simp] theorem e22_1 {Γ : Tab} {V : Nat → Bool} {ρ : Type} (k : AX → St → Option ρ) (s : St) : eval Γ c22_1 V ρ k s = eval Γ b22_1 V ρ k s := rfl
def c22 : AF := AF.mk 26 [.t 2] (.seq (.ops (.op (some 1) (.rbox (.t 0)) (.op (some 2) (.mv (.c (.lst true []))) (.nil))))
 (.seq (.ops (.op (some 3) (.mv (.c (.lst true []))) (.nil)))
 (.seq (.seq (.ops (.op (some 6) (.fad 1 (.t 1)) (.op (some 7) (.loadr 1 false (.t 6)) (.op (some 8) (.len false (.t 7)) (.op (some 9) (.mv (.c (.int .i64 0))) (.nil))))))
 (.block 0 (.loop [3, 9] [(3, 3), (5, 5), (9, 24)] [(3, 5)] [(.exit 0, [3])] c22_1)))
 (.seq (.ops (.op (some 25) (.mv (.t 3)) (.op (some 2) (.mv (.t 25)) (.nil))))
 (.ret)))))

theorem ok22 : okF Try.prog 22 c22 = true := by kernel_rfl

def b23_1 : AC := .seq (.seq (.ops (.op (some 5) (.mv (.t 4)) (.op (some 6) (.fad 1 (.t 1)) (.op (some 7) (.loadr 1 false (.t 6)) (.op (some 8) (.len false (.t 7)) (.op (some 9) (.bin .lss (.t 5) (.t 8)) (.nil)))))))
 (.cond (.t 9) (.skip) (.exit 0)))
 (.seq (.block 1 (.ops (.op (some 12) (.mv (.t 3)) (.op (some 13) (.fad 0 (.t 1)) (.op (some 14) (.loadr 1 false (.t 13)) (.op (some 15) (.fad 1 (.t 1)) (.op (some 16) (.loadr 1 false (.t 15)) (.op (some 17) (.mv (.t 4)) (.op (some 18) (.iad 2 (.t 16) (.t 17)) (.op (some 19) (.fad 0 (.t 18)) (.op (some 20) (.load 1 false (.t 19)) (.op (some 21) (.bin .rem (.t 20) (.c (.int .i64 8))) (.op (some 22) (.fad 1 (.t 1)) (.op (some 23) (.loadr 1 false (.t 22)) (.op (some 24) (.mv (.t 4)) (.op (some 25) (.iad 2 (.t 23) (.t 24)) (.op (some 26) (.fad 0 (.t 25)) (.op (some 27) (.load 1 false (.t 26)) (.op (some 28) (.callp 38 [(.t 14), (.t 21), (.c (.int .i64 7)), (.t 27)]) (.op (some 29) (.bsl 5 (.agg [.int .i64 0, .int .i64 0, .int .i64 0, .lst true [], .lst true []]) 1 [(0, (.t 28))]) (.op (some 30) (.app 5 72 (.t 12) (.t 29)) (.op (some 3) (.mv (.t 30)) (.nil)))))))))))))))))))))))
 (.ops (.op (some 10) (.mv (.t 4)) (.op (some 11) (.bin .add (.t 10) (.c (.int .i64 1))) (.op (some 4) (.mv (.t 11)) (.nil))))))
def c23_1 : AC := b23_1
@[simp] theorem e23_1 {Γ : Tab} {V : Nat → Bool} {ρ : Type} (k : AX → St → Option ρ) (s : St) : eval Γ c23_1 V ρ k s = eval Γ b23_1 V ρ k s := rfl
def c23 : AF := AF.mk 32 [.t 2] (.seq (.ops (.op (some 1) (.rbox (.t 0)) (.op (some 2) (.mv (.c (.lst true []))) (.nil))))
 (.seq (.ops (.op (some 3) (.mv (.c (.lst true []))) (.nil)))
 (.seq (.seq (.ops (.op (some 4) (.mv (.c (.int .i64 0))) (.nil)))
 (.block 0 (.loop [3, 4] [(3, 30)] [(3, 5)] [(.exit 0, [3])] c23_1)))
 (.seq (.ops (.op (some 31) (.mv (.t 3)) (.op (some 2) (.mv (.t 31)) (.nil))))
 (.ret)))))

def c24 : AF := AF.mk 9 [.cell 2 3 true] (.seq (.ops (.op (some 1) (.box (.t 0)) (.op (some 2) (.alloc [.int .i64 0, .int .i64 0, .lst true []]) (.nil))))
 (.seq (.ops (.op (some 3) (.fad 2 (.t 1)) (.op (some 4) (.load 1 false (.t 3)) (.op (some 5) (.call 42 [(.t 4)]) (.op (some 6) (.call 51 [(.t 5), (.c (.fn (.func 52) [] []))]) (.op (some 7) (.fad 2 (.t 1)) (.op none (.store 1 (.t 7) (.t 6)) (.nil))))))))
 (.seq (.ops (.op (some 8) (.load 3 true (.t 1)) (.op none (.store 3 (.t 2) (.t 8)) (.nil))))
 (.ret))))

theorem ok24 : okF Try.prog 24 c24 = true := by kernel_rfl

def c26 : AF := AF.mk 13 [.t 4] (.seq (.ops (.op (some 2) (.rbox (.t 0)) (.op (some 3) (.box (.t 1)) (.op (some 4) (.mv (.c (.bool false))) (.nil)))))
 (.seq (.ops (.op (some 5) (.load 1 false (.t 3)) (.op (some 6) (.call 53 [(.t 5)]) (.op (some 7) (.mv (.t 6)) (.sc 12 true 7 8 11 (.op (some 8) (.fad 1 (.t 2)) (.op (some 9) (.loadr 1 false (.t 8)) (.op (some 10) (.mkf (.func 55) [] [(.t 3)]) (.op (some 11) (.call 54 [(.t 9), (.t 10)]) (.nil))))) (.t 11) (.op (some 4) (.mv (.t 12)) (.nil)))))))
 (.ret)))

theorem ok26 : okF Try.prog 26 c26 = true := by kernel_rfl

def b29_1 : AC := .seq (.seq (.ops (.op (some 22) (.mv (.t 4)) (.op (some 23) (.fad 4 (.t 1)) (.op (some 24) (.load 1 false (.t 23)) (.op (some 25) (.mv (.t 3)) (.op (some 26) (.iad 1 (.t 24) (.t 25)) (.op (some 27) (.load 1 false (.t 26)) (.op (some 28) (.len false (.t 27)) (.op (some 29) (.bin .lss (.t 22) (.t 28)) (.nil))))))))))
 (.cond (.t 29) (.skip) (.exit 2)))
 (.seq (.block 3 (.seq (.ops (.op (some 32) (.fad 4 (.t 1)) (.op (some 33) (.load 1 false (.t 32)) (.op (some 34) (.mv (.t 3)) (.op (some 35) (.iad 1 (.t 33) (.t 34)) (.op (some 36) (.load 1 false (.t 35)) (.op (some 37) (.mv (.t 4)) (.op (some 38) (.sll 1 (.t 36) none (some (.t 37)) none) (.op (some 39) (.fad 4 (.t 1)) (.op (some 40) (.load 1 false (.t 39)) (.op (some 41) (.mv (.t 3)) (.op (some 42) (.iad 1 (.t 40) (.t 41)) (.op (some 43) (.load 1 false (.t 42)) (.op (some 44) (.mv (.t 4)) (.op (some 45) (.iad 1 (.t 43) (.t 44)) (.op (some 46) (.load 1 false (.t 45)) (.op (some 47) (.callp 31 [(.t 38), (.t 46)]) (.op (some 5) (.mv (.t 47)) (.nil)))))))))))))))))))
 (.seq (.ops (.op (some 48) (.mv (.t 5)) (.nil)))
 (.cond (.t 48) (.seq (.ops (.op (some 2) (.mv (.c (.bool false))) (.nil)))
 (.ret)) (.skip)))))
 (.ops (.op (some 30) (.mv (.t 4)) (.op (some 31) (.bin .add (.t 30) (.c (.int .i64 1))) (.op (some 4) (.mv (.t 31)) (.nil))))))
def c29_1 : AC := b29_1
@[simp] theorem e29_1 {Γ : Tab} {V : Nat → Bool} {ρ : Type} (k : AX → St → Option ρ) (s : St) : eval Γ c29_1 V ρ k s = eval Γ b29_1 V ρ k s := rfl
def b29_2 : AC := .seq (.seq (.ops (.op (some 61) (.mv (.t 8)) (.op (some 62) (.mv (.t 7)) (.op (some 63) (.bin .lss (.t 61) (.t 62)) (.nil)))))
 (.cond (.t 63) (.skip) (.exit 6)))
 (.seq (.block 7 (.seq (.ops (.op (some 66) (.mv (.t 6)) (.op (some 67) (.mv (.t 7)) (.op (some 68) (.iad 2 (.t 66) (.t 67)) (.op (some 69) (.fad 1 (.t 68)) (.op (some 70) (.load 1 false (.t 69)) (.op (some 71) (.mv (.t 6)) (.op (some 72) (.mv (.t 8)) (.op (some 73) (.iad 2 (.t 71) (.t 72)) (.op (some 74) (.fad 1 (.t 73)) (.op (some 75) (.load 1 false (.t 74)) (.op (some 76) (.callp 57 [(.t 70), (.t 75)]) (.op (some 9) (.mv (.t 76)) (.nil))))))))))))))
 (.seq (.ops (.op (some 77) (.mv (.t 9)) (.op (some 78) (.mv (.t 77)) (.sc 90 false 78 79 89 (.op (some 79) (.mv (.t 6)) (.op (some 80) (.mv (.t 7)) (.op (some 81) (.iad 2 (.t 79) (.t 80)) (.op (some 82) (.fad 0 (.t 81)) (.op (some 83) (.load 1 false (.t 82)) (.op (some 84) (.mv (.t 6)) (.op (some 85) (.mv (.t 8)) (.op (some 86) (.iad 2 (.t 84) (.t 85)) (.op (some 87) (.fad 0 (.t 86)) (.op (some 88) (.load 1 false (.t 87)) (.op (some 89) (.bin .eql (.t 83) (.t 88)) (.nil)))))))))))) (.t 89) (.nil)))))
 (.cond (.t 90) (.seq (.ops (.op (some 2) (.mv (.c (.bool false))) (.nil)))
 (.ret)) (.skip)))))
 (.ops (.op (some 64) (.mv (.t 8)) (.op (some 65) (.bin .add (.t 64) (.c (.int .i64 1))) (.op (some 8) (.mv (.t 65)) (.nil))))))
def c29_2 : AC := b29_2
@[simp] theorem e29_2 {Γ : Tab} {V : Nat → Bool} {ρ : Type} (k : AX → St → Option ρ) (s : St) : eval Γ c29_2 V ρ k s = eval Γ b29_2 V ρ k s := rfl
def b29_3 : AC := .seq (.seq (.ops (.op (some 55) (.mv (.t 7)) (.op (some 56) (.mv (.t 6)) (.op (some 57) (.len false (.t 56)) (.op (some 58) (.bin .lss (.t 55) (.t 57)) (.nil))))))
 (.cond (.t 58) (.skip) (.exit 4)))
 (.seq (.block 5 (.seq (.ops (.op (some 8) (.mv (.c (.int .i64 0))) (.nil)))
 (.block 6 (.loop [8] [(2, 2), (8, 9), (61, 90)] [] [(.exit 6, []), (.ret, [2])] c29_2))))
 (.ops (.op (some 59) (.mv (.t 7)) (.op (some 60) (.bin .add (.t 59) (.c (.int .i64 1))) (.op (some 7) (.mv (.t 60)) (.nil))))))
def c29_3 : AC := b29_3
@[simp] theorem e29_3 {Γ : Tab} {V : Nat → Bool} {ρ : Type} (k : AX → St → Option ρ) (s : St) : eval Γ c29_3 V ρ k s = eval Γ b29_3 V ρ k s := rfl
def b29_4 : AC := .seq (.seq (.ops (.op (some 18) (.mv (.t 3)) (.op (some 19) (.bin .lss (.t 18) (.c (.int .i64 4))) (.nil))))
 (.cond (.t 19) (.skip) (.exit 0)))
 (.seq (.block 1 (.seq (.seq (.ops (.op (some 4) (.mv (.c (.int .i64 0))) (.nil)))
 (.block 2 (.loop [4] [(2, 2), (4, 5), (22, 48)] [] [(.exit 2, []), (.ret, [2])] c29_1)))
 (.seq (.ops (.op (some 49) (.fad 1 (.t 1)) (.op (some 50) (.load 1 false (.t 49)) (.op (some 51) (.mv (.t 3)) (.op (some 52) (.iad 3 (.t 50) (.t 51)) (.op (some 53) (.fad 1 (.t 52)) (.op (some 54) (.load 1 false (.t 53)) (.op (some 6) (.mv (.t 54)) (.nil)))))))))
 (.seq (.ops (.op (some 7) (.mv (.c (.int .i64 0))) (.nil)))
 (.block 4 (.loop [7] [(2, 2), (7, 9), (55, 90)] [] [(.exit 4, []), (.ret, [2])] c29_3))))))
 (.ops (.op (some 20) (.mv (.t 3)) (.op (some 21) (.bin .add (.t 20) (.c (.int .i64 1))) (.op (some 3) (.mv (.t 21)) (.nil))))))
def c29_4 : AC := b29_4
@[simp] theorem e29_4 {Γ : Tab} {V : Nat → Bool} {ρ : Type} (k : AX → St → Option ρ) (s : St) : eval Γ c29_4 V ρ k s = eval Γ b29_4 V ρ k s := rfl
def b29_5 : AC := .seq (.seq (.ops (.op (some 103) (.mv (.t 14)) (.op (some 104) (.bin .lss (.t 103) (.c (.int .i64 4))) (.nil))))
 (.cond (.t 104) (.skip) (.exit 10)))
 (.seq (.block 11 (.seq (.ops (.op (some 107) (.fad 4 (.t 1)) (.op (some 108) (.load 1 false (.t 107)) (.op (some 109) (.mv (.t 14)) (.op (some 110) (.iad 1 (.t 108) (.t 109)) (.op (some 111) (.load 1 false (.t 110)) (.op (some 112) (.fad 0 (.t 11)) (.op (some 113) (.load 1 false (.t 112)) (.op (some 114) (.callp 31 [(.t 111), (.t 113)]) (.op (some 15) (.mv (.t 114)) (.nil)))))))))))
 (.seq (.ops (.op (some 115) (.fad 1 (.t 11)) (.op (some 116) (.load 1 false (.t 115)) (.op (some 117) (.mv (.t 14)) (.op (some 118) (.call 31 [(.t 116), (.t 117)]) (.op (some 16) (.mv (.t 118)) (.nil)))))))
 (.seq (.ops (.op (some 119) (.fad 1 (.t 1)) (.op (some 120) (.load 1 false (.t 119)) (.op (some 121) (.mv (.t 14)) (.op (some 122) (.iad 3 (.t 120) (.t 121)) (.op (some 123) (.load 3 true (.t 122)) (.op (some 124) (.fad 0 (.t 11)) (.op (some 125) (.load 1 false (.t 124)) (.op (some 126) (.callp 62 [(.t 123), (.t 125)]) (.op (some 17) (.mv (.t 126)) (.nil)))))))))))
 (.seq (.seq (.ops (.op (some 127) (.mv (.t 15)) (.op (some 128) (.mv (.t 127)) (.sc 131 true 128 129 130 (.op (some 129) (.mv (.t 16)) (.op (some 130) (.un .not (.t 129)) (.nil))) (.t 130) (.nil)))))
 (.cond (.t 131) (.seq (.ops (.op (some 2) (.mv (.c (.bool false))) (.nil)))
 (.ret)) (.skip)))
 (.seq (.ops (.op (some 132) (.mv (.t 12)) (.op (some 133) (.mv (.t 132)) (.sc 135 false 133 134 134 (.op (some 134) (.mv (.t 15)) (.nil)) (.t 134) (.op (some 12) (.mv (.t 135)) (.nil))))))
 (.ops (.op (some 136) (.mv (.t 13)) (.op (some 137) (.mv (.t 136)) (.sc 146 true 137 138 145 (.op (some 138) (.mv (.t 16)) (.op (some 139) (.un .not (.t 138)) (.op (some 140) (.mv (.t 139)) (.sc 142 false 140 141 141 (.op (some 141) (.mv (.t 15)) (.nil)) (.t 141) (.op (some 143) (.mv (.t 142)) (.sc 145 false 143 144 144 (.op (some 144) (.mv (.t 17)) (.nil)) (.t 144) (.nil))))))) (.t 145) (.op (some 13) (.mv (.t 146)) (.nil))))))))))))
 (.ops (.op (some 105) (.mv (.t 14)) (.op (some 106) (.bin .add (.t 105) (.c (.int .i64 1))) (.op (some 14) (.mv (.t 106)) (.nil))))))
def c29_5 : AC := b29_5
@[simp] theorem e29_5 {Γ : Tab} {V : Nat → Bool} {ρ : Type} (k : AX → St → Option ρ) (s : St) : eval Γ c29_5 V ρ k s = eval Γ b29_5 V ρ k s := rfl
def b29_6 : AC := .seq (.seq (.ops (.op (some 91) (.mv (.t 10)) (.op (some 92) (.fad 3 (.t 1)) (.op (some 93) (.load 1 false (.t 92)) (.op (some 94) (.len false (.t 93)) (.op (some 95) (.bin .lss (.t 91) (.t 94)) (.nil)))))))
 (.cond (.t 95) (.skip) (.exit 8)))
 (.seq (.block 9 (.seq (.ops (.op (some 98) (.fad 3 (.t 1)) (.op (some 99) (.load 1 false (.t 98)) (.op (some 100) (.mv (.t 10)) (.op (some 101) (.iad 3 (.t 99) (.t 100)) (.op (some 102) (.load 3 true (.t 101)) (.op (some 11) (.alloc [.int .i64 0, .lst true [], .lst true []]) (.op none (.store 3 (.t 11) (.t 102)) (.nil)))))))))
 (.seq (.ops (.op (some 12) (.mv (.c (.bool false))) (.nil)))
 (.seq (.ops (.op (some 13) (.mv (.c (.bool true))) (.nil)))
 (.seq (.seq (.ops (.op (some 14) (.mv (.c (.int .i64 0))) (.nil)))
 (.block 10 (.loop [12, 13, 14] [(2, 2), (12, 17), (103, 146)] [] [(.exit 10, [12, 13]), (.ret, [2])] c29_5)))
 (.seq (.ops (.op (some 147) (.mv (.t 12)) (.op (some 148) (.mv (.t 147)) (.sc 151 true 148 149 150 (.op (some 149) (.mv (.t 13)) (.op (some 150) (.un .not (.t 149)) (.nil))) (.t 150) (.nil)))))
 (.cond (.t 151) (.seq (.ops (.op (some 2) (.mv (.c (.bool false))) (.nil)))
 (.ret)) (.skip))))))))
 (.ops (.op (some 96) (.mv (.t 10)) (.op (some 97) (.bin .add (.t 96) (.c (.int .i64 1))) (.op (some 10) (.mv (.t 97)) (.nil))))))
def c29_6 : AC := b29_6
@[simp] theorem e29_6 {Γ : Tab} {V : Nat → Bool} {ρ : Type} (k : AX → St → Option ρ) (s : St) : eval Γ c29_6 V ρ k s = eval Γ b29_6 V ρ k s := rfl
def c29 : AF := AF.mk 152 [.t 2] (.seq (.ops (.op (some 1) (.box (.t 0)) (.op (some 2) (.mv (.c (.bool false))) (.nil))))
 (.seq (.seq (.ops (.op (some 3) (.mv (.c (.int .i64 0))) (.nil)))
 (.block 0 (.loop [3] [(2, 9), (18, 90)] [] [(.exit 0, []), (.ret, [2])] c29_4)))
 (.seq (.seq (.ops (.op (some 10) (.mv (.c (.int .i64 0))) (.nil)))
 (.block 8 (.loop [10] [(2, 2), (10, 17), (91, 151)] [] [(.exit 8, []), (.ret, [2])] c29_6)))
 (.seq (.ops (.op (some 2) (.mv (.c (.bool true))) (.nil)))
 (.ret)))))

theorem ok29 : okF Try.prog 29 c29 = true := by kernel_rfl

def b31_1 : AC := .seq (.seq (.ops (.op (some 6) (.mv (.t 5)) (.op (some 7) (.mv (.t 0)) (.op (some 8) (.len false (.t 7)) (.op (some 9) (.bin .lss (.t 6) (.t 8)) (.nil))))))
 (.cond (.t 9) (.skip) (.exit 0)))
 (.seq (.block 1 (.seq (.ops (.op (some 12) (.mv (.t 0)) (.op (some 13) (.mv (.t 5)) (.op (some 14) (.iad 1 (.t 12) (.t 13)) (.op (some 15) (.load 1 false (.t 14)) (.op (some 16) (.mv (.t 1)) (.op (some 17) (.bin .eql (.t 15) (.t 16)) (.nil))))))))
 (.cond (.t 17) (.seq (.ops (.op (some 4) (.mv (.c (.bool true))) (.nil)))
 (.ret)) (.skip))))
 (.ops (.op (some 10) (.mv (.t 5)) (.op (some 11) (.bin .add (.t 10) (.c (.int .i64 1))) (.op (some 5) (.mv (.t 11)) (.nil))))))
def c31_1 : AC := b31_1
@[simp] theorem e31_1 {Γ : Tab} {V : Nat → Bool} {ρ : Type} (k : AX → St → Option ρ) (s : St) : eval Γ c31_1 V ρ k s = eval Γ b31_1 V ρ k s := rfl
def c31 : AF := AF.mk 18 [.t 4] (.seq (.ops (.op (some 4) (.mv (.c (.bool false))) (.nil)))
 (.seq (.seq (.ops (.op (some 5) (.mv (.c (.int .i64 0))) (.nil)))
 (.block 0 (.loop [5] [(4, 17)] [] [(.exit 0, []), (.ret, [4])] c31_1)))
 (.seq (.ops (.op (some 4) (.mv (.c (.bool false))) (.nil)))
 (.ret))))

theorem ok31 : okF Try.prog 31 c31 = true := by kernel_rfl

def c32 : AF := AF.mk 38 [.cell 4 3 true, .t 5] (.seq (.ops (.op (some 2) (.box (.t 0)) (.op (some 4) (.alloc [.int .i64 0, .int .i64 0, .lst true []]) (.op (some 5) (.mv (.c (.lst true []))) (.nil)))))
 (.seq (.ops (.op (some 9) (.load 3 true (.t 2)) (.op (some 10) (.mv (.t 1)) (.op (some 11) (.call 63 [(.t 9), (.t 10)]) (.op (some 6) (.mv (.t 11)) (.nil))))))
 (.seq (.seq (.ops (.op (some 12) (.mv (.t 6)) (.op (some 13) (.bin .lss (.t 12) (.c (.int .i64 0))) (.op (some 14) (.mv (.t 13)) (.sc 21 false 14 15 20 (.op (some 15) (.fad 2 (.t 2)) (.op (some 16) (.load 1 false (.t 15)) (.op (some 17) (.mv (.t 6)) (.op (some 18) (.iad 5 (.t 16) (.t 17)) (.op (some 19) (.fad 3 (.t 18)) (.op (some 20) (.load 1 false (.t 19)) (.nil))))))) (.t 20) (.nil))))))
 (.cond (.t 21) (.seq (.ops (.op (some 22) (.load 3 true (.t 2)) (.op none (.store 3 (.t 4) (.t 22)) (.op (some 5) (.mv (.c (.lst true []))) (.nil)))))
 (.ret)) (.skip)))
 (.seq (.ops (.op (some 23) (.fad 2 (.t 2)) (.op (some 24) (.load 1 false (.t 23)) (.op (some 25) (.call 42 [(.t 24)]) (.op (some 26) (.fad 2 (.t 2)) (.op none (.store 1 (.t 26) (.t 25)) (.nil)))))))
 (.seq (.ops (.op (some 27) (.load 3 true (.t 2)) (.op (some 28) (.mv (.t 6)) (.op (some 29) (.build [.int .i64 0, .int .i64 0, .lst true [], .int .i64 0, .int .i64 0] [(0, 3, (.t 27)), (3, 1, (.t 28)), (4, 1, (.c (.int .i64 0)))]) (.op (some 30) (.box (.t 29)) (.op (some 7) (.mv (.t 30)) (.nil)))))))
 (.seq (.ops (.op (some 31) (.mv (.t 7)) (.op (some 32) (.call 64 [(.t 31)]) (.op (some 8) (.mv (.t 32)) (.nil)))))
 (.seq (.ops (.op (some 33) (.mv (.t 7)) (.op (some 34) (.nck (.t 33)) (.op (some 35) (.fad 0 (.t 34)) (.op (some 36) (.load 3 true (.t 35)) (.op (some 37) (.mv (.t 8)) (.op none (.store 3 (.t 4) (.t 36)) (.op (some 5) (.mv (.t 37)) (.nil)))))))))
 (.ret))))))))

theorem ok32 : okF Try.prog 32 c32 = true := by kernel_rfl

def c35 : AF := AF.mk 134 [.cell 4 3 true, .t 5, .t 6] (.seq (.ops (.op (some 2) (.box (.t 0)) (.op (some 3) (.box (.t 1)) (.op (some 4) (.alloc [.int .i64 0, .lst true [], .lst true []]) (.op (some 5) (.mv (.c (.lst true []))) (.op (some 6) (.mv (.c (.int .i64 0))) (.nil)))))))
 (.seq (.seq (.ops (.op (some 13) (.fad 1 (.t 3)) (.op (some 14) (.load 1 false (.t 13)) (.op (some 15) (.fad 0 (.t 2)) (.op (some 16) (.load 1 false (.t 15)) (.op (some 17) (.bin .neq (.t 14) (.t 16)) (.op (some 18) (.mv (.t 17)) (.sc 23 false 18 19 22 (.op (some 19) (.fad 3 (.t 3)) (.op (some 20) (.load 1 false (.t 19)) (.op (some 21) (.len false (.t 20)) (.op (some 22) (.bin .neq (.t 21) (.c (.int .i64 1))) (.nil))))) (.t 22) (.nil)))))))))
 (.cond (.t 23) (.seq (.ops (.op (some 24) (.load 3 true (.t 2)) (.op none (.store 3 (.t 4) (.t 24)) (.op (some 5) (.mv (.c (.lst true []))) (.op (some 6) (.mv (.c (.int .i64 0))) (.nil))))))
 (.ret)) (.skip)))
 (.seq (.ops (.op (some 25) (.fad 3 (.t 3)) (.op (some 26) (.load 1 false (.t 25)) (.op (some 27) (.iad 1 (.t 26) (.c (.int .i64 0))) (.op (some 28) (.load 1 false (.t 27)) (.op (some 7) (.alloc [.int .i64 0]) (.op none (.store 1 (.t 7) (.t 28)) (.nil))))))))
 (.seq (.ops (.op (some 29) (.fad 2 (.t 2)) (.op (some 30) (.load 1 false (.t 29)) (.op (some 31) (.load 1 false (.t 7)) (.op (some 32) (.call 48 [(.t 30), (.t 31)]) (.op (some 8) (.mv (.t 32)) (.nil)))))))
 (.seq (.ops (.op (some 33) (.fad 1 (.t 2)) (.op (some 34) (.load 1 false (.t 33)) (.op (some 35) (.mkf (.func 67) [] [(.t 7)]) (.op (some 36) (.call 66 [(.t 34), (.t 35)]) (.op (some 9) (.alloc [.int .i64 0]) (.op none (.store 1 (.t 9) (.t 36)) (.nil))))))))
 (.seq (.ops (.op (some 37) (.mkf (.func 68) [] [(.t 2), (.t 3), (.t 7)]) (.op (some 10) (.mv (.t 37)) (.nil))))
 (.seq (.ops (.op (some 38) (.mkf (.func 69) [] [(.t 2), (.t 9)]) (.op (some 11) (.mv (.t 38)) (.nil))))
 (.seq (.block 0 (.seq (.seq (.ops (.op (some 40) (.fad 2 (.t 3)) (.op (some 41) (.load 1 false (.t 40)) (.op (some 42) (.bin .eql (.t 41) (.c (.int .i64 1))) (.op (some 43) (.mv (.t 42)) (.sc 45 true 43 44 44 (.op (some 44) (.mv (.t 8)) (.nil)) (.t 44) (.op (some 39) (.mv (.t 45)) (.nil))))))))
 (.cond (.t 39) (.skip) (.ops (.op (some 46) (.fad 2 (.t 3)) (.op (some 47) (.load 1 false (.t 46)) (.op (some 48) (.bin .eql (.t 47) (.c (.int .i64 4))) (.op (some 49) (.mv (.t 48)) (.sc 52 true 49 50 51 (.op (some 50) (.load 1 false (.t 9)) (.op (some 51) (.bin .lss (.t 50) (.c (.int .i64 0))) (.nil))) (.t 51) (.op (some 53) (.mv (.t 52)) (.sc 55 true 53 54 54 (.op (some 54) (.mv (.t 8)) (.nil)) (.t 54) (.op (some 39) (.mv (.t 55)) (.nil))))))))))))
 (.cond (.t 39) (.seq (.ops (.op (some 56) (.load 3 true (.t 2)) (.op (some 57) (.mv (.t 10)) (.op (some 58) (.callr (.t 57) [(.c (.int .i64 5))]) (.op none (.store 3 (.t 4) (.t 56)) (.op (some 5) (.mv (.t 58)) (.op (some 6) (.mv (.c (.int .i64 0))) (.nil))))))))
 (.ret)) (.seq (.ops (.op (some 60) (.fad 2 (.t 3)) (.op (some 61) (.load 1 false (.t 60)) (.op (some 62) (.bin .eql (.t 61) (.c (.int .i64 1))) (.op (some 63) (.mv (.t 62)) (.sc 66 true 63 64 65 (.op (some 64) (.load 1 false (.t 9)) (.op (some 65) (.bin .geq (.t 64) (.c (.int .i64 0))) (.nil))) (.t 65) (.op (some 59) (.mv (.t 66)) (.nil))))))))
 (.cond (.t 59) (.seq (.ops (.op (some 67) (.load 3 true (.t 2)) (.op (some 68) (.mv (.t 10)) (.op (some 69) (.callr (.t 68) [(.c (.int .i64 2))]) (.op none (.store 3 (.t 4) (.t 67)) (.op (some 5) (.mv (.t 69)) (.op (some 6) (.mv (.c (.int .i64 0))) (.nil))))))))
 (.ret)) (.seq (.ops (.op (some 71) (.fad 2 (.t 3)) (.op (some 72) (.load 1 false (.t 71)) (.op (some 73) (.bin .eql (.t 72) (.c (.int .i64 1))) (.op (some 70) (.mv (.t 73)) (.nil))))))
 (.cond (.t 70) (.seq (.ops (.op (some 74) (.fad 4 (.t 3)) (.op (some 75) (.load 1 false (.t 74)) (.op (some 76) (.bts (.t 75)) (.op (some 12) (.mv (.t 76)) (.nil))))))
 (.seq (.seq (.ops (.op (some 77) (.mv (.t 12)) (.op (some 78) (.call 53 [(.t 77)]) (.op (some 79) (.un .not (.t 78)) (.op (some 80) (.mv (.t 79)) (.sc 84 false 80 81 83 (.op (some 81) (.load 3 true (.t 2)) (.op (some 82) (.mv (.t 12)) (.op (some 83) (.call 26 [(.t 81), (.t 82)]) (.nil)))) (.t 83) (.nil)))))))
 (.cond (.t 84) (.seq (.ops (.op (some 85) (.load 3 true (.t 2)) (.op (some 86) (.mv (.t 10)) (.op (some 87) (.callr (.t 86) [(.c (.int .i64 3))]) (.op none (.store 3 (.t 4) (.t 85)) (.op (some 5) (.mv (.t 87)) (.op (some 6) (.mv (.c (.int .i64 0))) (.nil))))))))
 (.ret)) (.skip)))
 (.seq (.ops (.op (some 88) (.fad 1 (.t 2)) (.op (some 89) (.load 1 false (.t 88)) (.op (some 90) (.calla 71 [(.t 89)]) (.op (some 91) (.load 1 false (.t 7)) (.op (some 92) (.mv (.t 12)) (.op (some 93) (.build [.int .i64 0, .str []] [(0, 1, (.t 91)), (1, 1, (.t 92))]) (.op (some 94) (.bsl 2 (.agg [.int .i64 0, .str []]) 1 [(0, (.t 93))]) (.op (some 95) (.app 2 24 (.t 90) (.t 94)) (.op (some 96) (.fad 1 (.t 2)) (.op none (.store 1 (.t 96) (.t 95)) (.nil))))))))))))
 (.seq (.ops (.op (some 97) (.load 3 true (.t 2)) (.op (some 98) (.mv (.t 10)) (.op (some 99) (.callr (.t 98) [(.c (.int .i64 2))]) (.op none (.store 3 (.t 4) (.t 97)) (.op (some 5) (.mv (.t 99)) (.op (some 6) (.mv (.c (.int .i64 0))) (.nil))))))))
 (.ret))))) (.seq (.ops (.op (some 101) (.fad 2 (.t 3)) (.op (some 102) (.load 1 false (.t 101)) (.op (some 103) (.bin .eql (.t 102) (.c (.int .i64 4))) (.op (some 104) (.mv (.t 103)) (.sc 107 true 104 105 106 (.op (some 105) (.load 1 false (.t 9)) (.op (some 106) (.bin .geq (.t 105) (.c (.int .i64 0))) (.nil))) (.t 106) (.op (some 100) (.mv (.t 107)) (.nil))))))))
 (.cond (.t 100) (.seq (.ops (.op (some 108) (.mv (.t 11)) (.op (some 109) (.callra (.t 108) []) (.op (some 110) (.fad 2 (.t 2)) (.op (some 111) (.load 1 false (.t 110)) (.op (some 112) (.calla 40 [(.t 111)]) (.op (some 113) (.load 1 false (.t 7)) (.op (some 114) (.bsl 1 (.int .i64 0) 1 [(0, (.t 113))]) (.op (some 115) (.app 1 8 (.t 112) (.t 114)) (.op (some 116) (.fad 1 (.t 2)) (.op none (.store 1 (.t 116) (.t 109)) (.op (some 117) (.fad 2 (.t 2)) (.op none (.store 1 (.t 117) (.t 115)) (.nil))))))))))))))
 (.seq (.ops (.op (some 118) (.load 3 true (.t 2)) (.op (some 119) (.mv (.t 10)) (.op (some 120) (.callr (.t 119) [(.c (.int .i64 5))]) (.op (some 121) (.loadx 1 false (.t 7) 4) (.op none (.storer 3 (.t 4) (.t 118)) (.op (some 5) (.mv (.t 120)) (.op (some 6) (.mv (.t 121)) (.nil)))))))))
 (.ret))) (.seq (.ops (.op (some 123) (.fad 2 (.t 3)) (.op (some 124) (.load 1 false (.t 123)) (.op (some 125) (.bin .eql (.t 124) (.c (.int .i64 6))) (.op (some 126) (.mv (.t 125)) (.sc 129 true 126 127 128 (.op (some 127) (.load 1 false (.t 9)) (.op (some 128) (.bin .geq (.t 127) (.c (.int .i64 0))) (.nil))) (.t 128) (.op (some 122) (.mv (.t 129)) (.nil))))))))
 (.cond (.t 122) (.ops (.op (some 130) (.mv (.t 11)) (.op (some 131) (.callv (.t 130) []) (.op (some 132) (.fad 1 (.t 2)) (.op none (.store 1 (.t 132) (.t 131)) (.nil)))))) (.skip))))))))))))
 (.seq (.ops (.op (some 133) (.load 3 true (.t 2)) (.op none (.store 3 (.t 4) (.t 133)) (.op (some 5) (.mv (.c (.lst true []))) (.op (some 6) (.mv (.c (.int .i64 0))) (.nil))))))
 (.ret))))))))))

theorem ok35 : okF Try.prog 35 c35 = true := by kernel_rfl

def c36 : AF := AF.mk 5 [.cell 2 3 true] (.seq (.ops (.op (some 2) (.alloc [.int .i64 0, .lst true [], .lst true []]) (.nil)))
 (.seq (.ops (.op (some 3) (.mv (.t 0)) (.op (some 4) (.build [.int .i64 0, .lst true [], .lst true []] [(0, 1, (.t 3))]) (.op none (.store 3 (.t 2) (.t 4)) (.nil)))))
 (.ret)))

theorem ok36 : okF Try.prog 36 c36 = true := by kernel_rfl

def c37 : AF := AF.mk 98 [.cell 4 3 true, .t 5] (.seq (.ops (.op (some 2) (.box (.t 0)) (.op (some 3) (.rbox (.t 1)) (.op (some 4) (.alloc [.int .i64 0, .int .i64 0, .lst true []]) (.op (some 5) (.mv (.c (.lst true []))) (.nil))))))
 (.seq (.ops (.op (some 11) (.mkm) (.op none (.mput (.t 11) (.c (.int .i64 2)) (.c (.fn (.func 72) [] []))) (.op none (.mput (.t 11) (.c (.int .i64 3)) (.c (.fn (.func 64) [] []))) (.op none (.mput (.t 11) (.c (.int .i64 5)) (.c (.fn (.func 73) [] []))) (.op none (.mput (.t 11) (.c (.int .i64 7)) (.c (.fn (.func 74) [] []))) (.op (some 12) (.mv (.t 11)) (.op (some 6) (.mv (.t 12)) (.nil)))))))))
 (.seq (.ops (.op (some 13) (.mv (.t 6)) (.op (some 14) (.fad 2 (.t 3)) (.op (some 15) (.loadr 1 false (.t 14)) (.op (some 16) (.mget (.nilf) (.t 13) (.t 15)) (.op (some 7) (.mv (.t 16)) (.nil)))))))
 (.seq (.seq (.ops (.op (some 17) (.fad 1 (.t 3)) (.op (some 18) (.loadr 1 false (.t 17)) (.op (some 19) (.fad 0 (.t 2)) (.op (some 20) (.load 1 false (.t 19)) (.op (some 21) (.bin .neq (.t 18) (.t 20)) (.op (some 22) (.mv (.t 21)) (.sc 27 false 22 23 26 (.op (some 23) (.fad 3 (.t 3)) (.op (some 24) (.loadr 1 false (.t 23)) (.op (some 25) (.len false (.t 24)) (.op (some 26) (.bin .neq (.t 25) (.c (.int .i64 1))) (.nil))))) (.t 26) (.op (some 28) (.mv (.t 27)) (.sc 31 false 28 29 30 (.op (some 29) (.mv (.t 7)) (.op (some 30) (.isnil .fn false (.t 29)) (.nil))) (.t 30) (.nil)))))))))))
 (.cond (.t 31) (.seq (.ops (.op (some 32) (.load 3 true (.t 2)) (.op none (.store 3 (.t 4) (.t 32)) (.op (some 5) (.mv (.c (.lst true []))) (.nil)))))
 (.ret)) (.skip)))
 (.seq (.ops (.op (some 33) (.load 3 true (.t 2)) (.op (some 34) (.fad 3 (.t 3)) (.op (some 35) (.loadr 1 false (.t 34)) (.op (some 36) (.iad 1 (.t 35) (.c (.int .i64 0))) (.op (some 37) (.load 1 false (.t 36)) (.op (some 38) (.callp 63 [(.t 33), (.t 37)]) (.op (some 8) (.mv (.t 38)) (.nil)))))))))
 (.seq (.block 0 (.seq (.ops (.op (some 40) (.mv (.t 8)) (.op (some 41) (.bin .lss (.t 40) (.c (.int .i64 0))) (.op (some 42) (.mv (.t 41)) (.sc 51 true 42 43 50 (.op (some 43) (.fad 2 (.t 3)) (.op (some 44) (.loadr 1 false (.t 43)) (.op (some 45) (.bin .eql (.t 44) (.c (.int .i64 2))) (.op (some 46) (.mv (.t 45)) (.sc 50 false 46 47 49 (.op (some 47) (.fad 2 (.t 3)) (.op (some 48) (.loadr 1 false (.t 47)) (.op (some 49) (.bin .eql (.t 48) (.c (.int .i64 7))) (.nil)))) (.t 49) (.nil)))))) (.t 50) (.op (some 39) (.mv (.t 51)) (.nil)))))))
 (.cond (.t 39) (.seq (.ops (.op (some 52) (.load 3 true (.t 2)) (.op (some 53) (.fad 0 (.t 2)) (.op (some 54) (.load 1 false (.t 53)) (.op (some 55) (.fad 0 (.t 3)) (.op (some 56) (.loadr 1 false (.t 55)) (.op (some 57) (.fad 3 (.t 3)) (.op (some 58) (.loadr 1 false (.t 57)) (.op (some 59) (.iad 1 (.t 58) (.c (.int .i64 0))) (.op (some 60) (.load 1 false (.t 59)) (.op (some 61) (.callp 49 [(.t 54), (.t 56), (.c (.int .i64 6)), (.t 60)]) (.op (some 62) (.bsl 5 (.agg [.int .i64 0, .int .i64 0, .int .i64 0, .lst true [], .lst true []]) 1 [(0, (.t 61))]) (.op none (.store 3 (.t 4) (.t 52)) (.op (some 5) (.mv (.t 62)) (.nil)))))))))))))))
 (.ret)) (.seq (.ops (.op (some 64) (.mv (.t 8)) (.op (some 65) (.bin .lss (.t 64) (.c (.int .i64 0))) (.op (some 66) (.mv (.t 65)) (.sc 78 false 66 67 77 (.op (some 67) (.fad 2 (.t 2)) (.op (some 68) (.load 1 false (.t 67)) (.op (some 69) (.mv (.t 8)) (.op (some 70) (.iad 5 (.t 68) (.t 69)) (.op (some 71) (.fad 0 (.t 70)) (.op (some 72) (.fad 1 (.t 71)) (.op (some 73) (.load 1 false (.t 72)) (.op (some 74) (.fad 0 (.t 3)) (.op (some 75) (.loadr 1 false (.t 74)) (.op (some 76) (.callp 48 [(.t 73), (.t 75)]) (.op (some 77) (.un .not (.t 76)) (.nil)))))))))))) (.t 77) (.op (some 63) (.mv (.t 78)) (.nil)))))))
 (.cond (.t 63) (.seq (.ops (.op (some 79) (.load 3 true (.t 2)) (.op none (.store 3 (.t 4) (.t 79)) (.op (some 5) (.mv (.c (.lst true []))) (.nil)))))
 (.ret)) (.skip))))))
 (.seq (.ops (.op (some 80) (.fad 2 (.t 2)) (.op (some 81) (.load 1 false (.t 80)) (.op (some 82) (.call 42 [(.t 81)]) (.op (some 83) (.fad 2 (.t 2)) (.op none (.store 1 (.t 83) (.t 82)) (.nil)))))))
 (.seq (.ops (.op (some 84) (.load 3 true (.t 2)) (.op (some 85) (.mv (.t 8)) (.op (some 86) (.fad 0 (.t 3)) (.op (some 87) (.loadr 1 false (.t 86)) (.op (some 88) (.build [.int .i64 0, .int .i64 0, .lst true [], .int .i64 0, .int .i64 0] [(0, 3, (.t 84)), (3, 1, (.t 85)), (4, 1, (.t 87))]) (.op (some 89) (.box (.t 88)) (.op (some 9) (.mv (.t 89)) (.nil)))))))))
 (.seq (.ops (.op (some 90) (.mv (.t 7)) (.op (some 91) (.mv (.t 9)) (.op (some 92) (.callv (.t 90) [(.t 91)]) (.op (some 10) (.mv (.t 92)) (.nil))))))
 (.seq (.ops (.op (some 93) (.mv (.t 9)) (.op (some 94) (.nck (.t 93)) (.op (some 95) (.fad 0 (.t 94)) (.op (some 96) (.load 3 true (.t 95)) (.op (some 97) (.mv (.t 10)) (.op none (.store 3 (.t 4) (.t 96)) (.op (some 5) (.mv (.t 97)) (.nil)))))))))
 (.ret)))))))))))

theorem ok37 : okF Try.prog 37 c37 = true := by kernel_rfl

def c38 : AF := AF.mk 15 [.cell 8 5 true] (.seq (.ops (.op (some 8) (.alloc [.int .i64 0, .int .i64 0, .int .i64 0, .lst true [], .lst true []]) (.nil)))
 (.seq (.ops (.op (some 9) (.mv (.t 0)) (.op (some 10) (.mv (.t 1)) (.op (some 11) (.mv (.t 2)) (.op (some 12) (.mv (.t 3)) (.op (some 13) (.bslh 1 (.int .i64 0) 1 [(0, (.t 12))]) (.op (some 14) (.build [.int .i64 0, .int .i64 0, .int .i64 0, .lst true [], .lst true []] [(0, 1, (.t 9)), (1, 1, (.t 10)), (2, 1, (.t 11)), (3, 1, (.t 13))]) (.op none (.store 5 (.t 8) (.t 14)) (.nil)))))))))
 (.ret)))

theorem ok38 : okF Try.prog 38 c38 = true := by kernel_rfl

def b39_1 : AC := .seq (.ops (.op (some 22) (.bin .lss (.t 21) (.t 20)) (.nil)))
 (.seq (.cond (.t 22) (.skip) (.exit 0))
 (.seq (.block 1 (.seq (.ops (.op (some 23) (.mv (.t 21)) (.op (some 24) (.iad 1 (.t 19) (.t 21)) (.op (some 25) (.load 1 false (.t 24)) (.op (some 7) (.mv (.t 23)) (.op (some 8) (.mv (.t 25)) (.nil)))))))
 (.seq (.ops (.op (some 26) (.mv (.t 8)) (.op (some 27) (.bin .lss (.t 26) (.c (.int .i64 0))) (.op (some 28) (.mv (.t 27)) (.sc 31 false 28 29 30 (.op (some 29) (.mv (.t 8)) (.op (some 30) (.bin .geq (.t 29) (.c (.int .i64 8))) (.nil))) (.t 30) (.op (some 32) (.mv (.t 31)) (.sc 44 false 32 33 43 (.op (some 33) (.mv (.t 7)) (.op (some 34) (.bin .gtr (.t 33) (.c (.int .i64 0))) (.op (some 35) (.mv (.t 34)) (.sc 43 true 35 36 42 (.op (some 36) (.mv (.t 1)) (.op (some 37) (.mv (.t 7)) (.op (some 38) (.bin .sub (.t 37) (.c (.int .i64 1))) (.op (some 39) (.iad 1 (.t 36) (.t 38)) (.op (some 40) (.load 1 false (.t 39)) (.op (some 41) (.mv (.t 8)) (.op (some 42) (.bin .geq (.t 40) (.t 41)) (.nil)))))))) (.t 42) (.nil))))) (.t 43) (.nil))))))))
 (.cond (.t 44) (.seq (.ops (.op (some 6) (.mv (.c (.int .i64 1))) (.nil)))
 (.ret)) (.skip)))))
 (.ops (.op (some 45) (.bin .add (.t 21) (.c (.int .i64 1))) (.op (some 21) (.mv (.t 45)) (.nil))))))
def c39_1 : AC := b39_1
@[simp] theorem e39_1 {Γ : Tab} {V : Nat → Bool} {ρ : Type} (k : AX → St → Option ρ) (s : St) : eval Γ c39_1 V ρ k s = eval Γ b39_1 V ρ k s := rfl
def c39 : AF := AF.mk 59 [.t 6] (.seq (.ops (.op (some 3) (.rbox (.t 0)) (.op (some 6) (.mv (.c (.int .i64 0))) (.nil))))
 (.seq (.seq (.ops (.op (some 9) (.mv (.t 1)) (.op (some 10) (.len false (.t 9)) (.op (some 11) (.bin .eql (.t 10) (.c (.int .i64 0))) (.op (some 12) (.mv (.t 11)) (.sc 18 false 12 13 17 (.op (some 13) (.mv (.t 1)) (.op (some 14) (.len false (.t 13)) (.op (some 15) (.mv (.t 2)) (.op (some 16) (.len false (.t 15)) (.op (some 17) (.bin .neq (.t 14) (.t 16)) (.nil)))))) (.t 17) (.nil)))))))
 (.cond (.t 18) (.seq (.ops (.op (some 6) (.mv (.c (.int .i64 1))) (.nil)))
 (.ret)) (.skip)))
 (.seq (.seq (.ops (.op (some 19) (.mv (.t 1)) (.op (some 20) (.len false (.t 19)) (.op (some 21) (.mv (.c (.int .i64 0))) (.nil)))))
 (.block 0 (.loop [21] [(6, 8), (21, 45)] [] [(.exit 0, []), (.ret, [6])] c39_1)))
 (.seq (.block 2 (.seq (.ops (.op (some 47) (.mv (.t 2)) (.op (some 48) (.call 75 [(.t 47), (.c (.fn (.func 76) [] []))]) (.op (some 46) (.mv (.t 48)) (.nil)))))
 (.cond (.t 46) (.seq (.ops (.op (some 6) (.mv (.c (.int .i64 60))) (.nil)))
 (.ret)) (.seq (.ops (.op (some 50) (.fad 2 (.t 3)) (.op (some 51) (.loadr 1 false (.t 50)) (.op (some 52) (.len false (.t 51)) (.op (some 53) (.bin .geq (.t 52) (.c (.int .i64 16))) (.op (some 54) (.mv (.t 53)) (.sc 58 false 54 55 57 (.op (some 55) (.fad 1 (.t 3)) (.op (some 56) (.loadr 1 false (.t 55)) (.op (some 57) (.bin .geq (.t 56) (.c (.int .i64 4294967296))) (.nil)))) (.t 57) (.op (some 49) (.mv (.t 58)) (.nil)))))))))
 (.cond (.t 49) (.seq (.ops (.op (some 6) (.mv (.c (.int .i64 76))) (.nil)))
 (.ret)) (.skip))))))
 (.seq (.ops (.op (some 6) (.mv (.c (.int .i64 0))) (.nil)))
 (.ret))))))

theorem ok39 : okF Try.prog 39 c39 = true := by kernel_rfl

def c43 : AF := AF.mk 18 [.cell 8 5 true] (.seq (.ops (.op (some 8) (.alloc [.int .i64 0, .int .i64 0, .int .i64 0, .lst true [], .lst true []]) (.nil)))
 (.seq (.ops (.op (some 10) (.mv (.t 0)) (.op (some 11) (.mv (.t 1)) (.op (some 12) (.mv (.t 2)) (.op (some 13) (.call 49 [(.t 10), (.t 11), (.c (.int .i64 1)), (.t 12)]) (.op (some 9) (.alloc [.int .i64 0, .int .i64 0, .int .i64 0, .lst true [], .lst true []]) (.op none (.store 5 (.t 9) (.t 13)) (.nil))))))))
 (.seq (.ops (.op (some 14) (.mv (.t 3)) (.op (some 15) (.stb (.t 14)) (.op (some 16) (.fad 4 (.t 9)) (.op none (.store 1 (.t 16) (.t 15)) (.nil))))))
 (.seq (.ops (.op (some 17) (.load 5 true (.t 9)) (.op none (.store 5 (.t 8) (.t 17)) (.nil))))
 (.ret)))))

theorem ok43 : okF Try.prog 43 c43 = true := by kernel_rfl

def b45_1 : AC := .seq (.seq (.ops (.op (some 11) (.mv (.t 5)) (.op (some 12) (.mv (.t 0)) (.op (some 13) (.len false (.t 12)) (.op (some 14) (.bin .lss (.t 11) (.t 13)) (.nil))))))
 (.cond (.t 14) (.skip) (.exit 0)))
 (.seq (.block 1 (.seq (.ops (.op (some 17) (.mv (.t 0)) (.op (some 18) (.mv (.t 5)) (.op (some 19) (.iad 1 (.t 17) (.t 18)) (.op (some 20) (.load 1 false (.t 19)) (.op (some 21) (.mv (.t 1)) (.op (some 22) (.mv (.t 5)) (.op (some 23) (.iad 1 (.t 21) (.t 22)) (.op (some 24) (.load 1 false (.t 23)) (.op (some 25) (.bin .neq (.t 20) (.t 24)) (.nil)))))))))))
 (.cond (.t 25) (.seq (.ops (.op (some 4) (.mv (.c (.bool false))) (.nil)))
 (.ret)) (.skip))))
 (.ops (.op (some 15) (.mv (.t 5)) (.op (some 16) (.bin .add (.t 15) (.c (.int .i64 1))) (.op (some 5) (.mv (.t 16)) (.nil))))))
def c45_1 : AC := b45_1
@[simp] theorem e45_1 {Γ : Tab} {V : Nat → Bool} {ρ : Type} (k : AX → St → Option ρ) (s : St) : eval Γ c45_1 V ρ k s = eval Γ b45_1 V ρ k s := rfl
def c45 : AF := AF.mk 26 [.t 4] (.seq (.ops (.op (some 4) (.mv (.c (.bool false))) (.nil)))
 (.seq (.seq (.ops (.op (some 6) (.mv (.t 0)) (.op (some 7) (.len false (.t 6)) (.op (some 8) (.mv (.t 1)) (.op (some 9) (.len false (.t 8)) (.op (some 10) (.bin .neq (.t 7) (.t 9)) (.nil)))))))
 (.cond (.t 10) (.seq (.ops (.op (some 4) (.mv (.c (.bool false))) (.nil)))
 (.ret)) (.skip)))
 (.seq (.seq (.ops (.op (some 5) (.mv (.c (.int .i64 0))) (.nil)))
 (.block 0 (.loop [5] [(4, 5), (11, 25)] [] [(.exit 0, []), (.ret, [4])] c45_1)))
 (.seq (.ops (.op (some 4) (.mv (.c (.bool true))) (.nil)))
 (.ret)))))

theorem ok45 : okF Try.prog 45 c45 = true := by kernel_rfl

def c46 : AF := AF.mk 13 [.t 2] (.seq (.ops (.op (some 2) (.mv (.c (.str []))) (.nil)))
 (.seq (.ops (.op (some 4) (.bslh 1 (.str []) 8 [(0, (.c (.str [47, 97]))), (1, (.c (.str [47, 98]))), (2, (.c (.str [47, 97, 47, 98]))), (3, (.c (.str [47, 99]))), (4, (.c (.str [47, 100, 47, 101]))), (5, (.c (.str [47, 100]))), (6, (.c (.str [47, 101]))), (7, (.c (.str [47, 102, 47, 103])))]) (.op (some 3) (.mv (.t 4)) (.nil))))
 (.seq (.ops (.op (some 5) (.mv (.t 3)) (.op (some 6) (.mv (.t 0)) (.op (some 7) (.conv .i64 (.t 6)) (.op (some 8) (.mv (.t 3)) (.op (some 9) (.len false (.t 8)) (.op (some 10) (.bin .rem (.t 7) (.t 9)) (.op (some 11) (.iad 1 (.t 5) (.t 10)) (.op (some 12) (.load 1 false (.t 11)) (.op (some 2) (.mv (.t 12)) (.nil)))))))))))
 (.ret))))

theorem ok46 : okF Try.prog 46 c46 = true := by kernel_rfl

def b47_1 : AC := .seq (.seq (.ops (.op (some 6) (.mv (.t 5)) (.op (some 7) (.mv (.t 1)) (.op (some 8) (.len false (.t 7)) (.op (some 9) (.bin .lss (.t 6) (.t 8)) (.op (some 10) (.mv (.t 9)) (.sc 15 true 10 11 14 (.op (some 11) (.fad 2 (.t 2)) (.op (some 12) (.load 1 false (.t 11)) (.op (some 13) (.len false (.t 12)) (.op (some 14) (.bin .lss (.t 13) (.c (.int .i64 200))) (.nil))))) (.t 14) (.nil))))))))
 (.cond (.t 15) (.skip) (.exit 0)))
 (.seq (.block 1 (.ops (.op (some 18) (.fad 2 (.t 2)) (.op (some 19) (.load 1 false (.t 18)) (.op (some 20) (.mv (.t 1)) (.op (some 21) (.mv (.t 5)) (.op (some 22) (.iad 5 (.t 20) (.t 21)) (.op (some 23) (.load 5 true (.t 22)) (.op (some 24) (.bsl 5 (.agg [.int .i64 0, .int .i64 0, .int .i64 0, .lst true [], .lst true []]) 1 [(0, (.t 23))]) (.op (some 25) (.app 5 72 (.t 19) (.t 24)) (.op (some 26) (.fad 2 (.t 2)) (.op none (.store 1 (.t 26) (.t 25)) (.nil)))))))))))))
 (.ops (.op (some 16) (.mv (.t 5)) (.op (some 17) (.bin .add (.t 16) (.c (.int .i64 1))) (.op (some 5) (.mv (.t 17)) (.nil))))))
def c47_1 : AC := b47_1
@[simp] theorem e47_1 {Γ : Tab} {V : Nat → Bool} {ρ : Type} (k : AX → St → Option ρ) (s : St) : eval Γ c47_1 V ρ k s = eval Γ b47_1 V ρ k s := rfl
def c47 : AF := AF.mk 28 [.cell 4 5 true] (.seq (.ops (.op (some 2) (.box (.t 0)) (.op (some 4) (.alloc [.lst true [], .lst true [], .lst true [], .lst true [], .lst true []]) (.nil))))
 (.seq (.seq (.ops (.op (some 5) (.mv (.c (.int .i64 0))) (.nil)))
 (.block 0 (.loopA [(2, 2, 5)] [5] [(5, 26)] [] [(.exit 0, [])] c47_1)))
 (.seq (.ops (.op (some 27) (.load 5 true (.t 2)) (.op none (.store 5 (.t 4) (.t 27)) (.nil))))
 (.ret))))

theorem ok47 : okF Try.prog 47 c47 = true := by kernel_rfl

def c48 : AF := AF.mk 9 [.t 4] (.seq (.ops (.op (some 4) (.mv (.c (.bool false))) (.nil)))
 (.seq (.ops (.op (some 5) (.mv (.t 0)) (.op (some 6) (.mv (.t 1)) (.op (some 7) (.call 78 [(.t 5), (.t 6)]) (.op (some 8) (.bin .geq (.t 7) (.c (.int .i64 0))) (.op (some 4) (.mv (.t 8)) (.nil)))))))
 (.ret)))

theorem ok48 : okF Try.prog 48 c48 = true := by kernel_rfl

def c49 : AF := AF.mk 15 [.cell 8 5 true] (.seq (.ops (.op (some 8) (.alloc [.int .i64 0, .int .i64 0, .int .i64 0, .lst true [], .lst true []]) (.nil)))
 (.seq (.ops (.op (some 9) (.mv (.t 0)) (.op (some 10) (.mv (.t 1)) (.op (some 11) (.mv (.t 2)) (.op (some 12) (.mv (.t 3)) (.op (some 13) (.bslh 1 (.int .i64 0) 1 [(0, (.t 12))]) (.op (some 14) (.build [.int .i64 0, .int .i64 0, .int .i64 0, .lst true [], .lst true []] [(0, 1, (.t 9)), (1, 1, (.t 10)), (2, 1, (.t 11)), (3, 1, (.t 13))]) (.op none (.store 5 (.t 8) (.t 14)) (.nil)))))))))
 (.ret)))

theorem ok49 : okF Try.prog 49 c49 = true := by kernel_rfl

def b51_1 : AC := .seq (.seq (.ops (.op (some 16) (.mv (.t 6)) (.op (some 17) (.mv (.t 0)) (.op (some 18) (.len false (.t 17)) (.op (some 19) (.bin .lss (.t 16) (.t 18)) (.nil))))))
 (.cond (.t 19) (.skip) (.exit 0)))
 (.seq (.block 1 (.seq (.ops (.op (some 22) (.mv (.t 0)) (.op (some 23) (.mv (.t 6)) (.op (some 24) (.iad 5 (.t 22) (.t 23)) (.op (some 25) (.load 5 true (.t 24)) (.op (some 7) (.alloc [.int .i64 0, .lst true [], .lst true [], .bool false, .lst true []]) (.op none (.store 5 (.t 7) (.t 25)) (.nil))))))))
 (.seq (.ops (.op (some 26) (.mv (.t 1)) (.op (some 27) (.load 5 true (.t 7)) (.op (some 28) (.callv (.t 26) [(.t 27)]) (.op (some 29) (.un .not (.t 28)) (.nil))))))
 (.cond (.t 29) (.seq (.ops (.op (some 30) (.mv (.t 0)) (.op (some 31) (.mv (.t 5)) (.op (some 32) (.load 5 true (.t 7)) (.op (some 33) (.iad 5 (.t 30) (.t 31)) (.op none (.store 5 (.t 33) (.t 32)) (.nil)))))))
 (.ops (.op (some 34) (.mv (.t 5)) (.op (some 35) (.bin .add (.t 34) (.c (.int .i64 1))) (.op (some 5) (.mv (.t 35)) (.nil)))))) (.skip)))))
 (.ops (.op (some 20) (.mv (.t 6)) (.op (some 21) (.bin .add (.t 20) (.c (.int .i64 1))) (.op (some 6) (.mv (.t 21)) (.nil))))))
def c51_1 : AC := b51_1
@[simp] theorem e51_1 {Γ : Tab} {V : Nat → Bool} {ρ : Type} (k : AX → St → Option ρ) (s : St) : eval Γ c51_1 V ρ k s = eval Γ b51_1 V ρ k s := rfl
def c51 : AF := AF.mk 42 [.t 4] (.seq (.ops (.op (some 4) (.mv (.c (.lst true []))) (.nil)))
 (.seq (.ops (.op (some 8) (.mv (.t 0)) (.op (some 9) (.mv (.t 1)) (.op (some 10) (.call 79 [(.t 8), (.t 9)]) (.op (some 5) (.mv (.t 10)) (.nil))))))
 (.seq (.seq (.ops (.op (some 11) (.mv (.t 5)) (.op (some 12) (.bin .eql (.t 11) (.c (.int .i64 (-1)))) (.nil))))
 (.cond (.t 12) (.seq (.ops (.op (some 13) (.mv (.t 0)) (.op (some 4) (.mv (.t 13)) (.nil))))
 (.ret)) (.skip)))
 (.seq (.seq (.ops (.op (some 14) (.mv (.t 5)) (.op (some 15) (.bin .add (.t 14) (.c (.int .i64 1))) (.op (some 6) (.mv (.t 15)) (.nil)))))
 (.block 0 (.loop [5, 6] [(5, 7), (16, 35)] [] [(.exit 0, [5])] c51_1)))
 (.seq (.ops (.op (some 36) (.mv (.t 0)) (.op (some 37) (.mv (.t 5)) (.op (some 38) (.sll 5 (.t 36) (some (.t 37)) none none) (.op none (.clr 5 (.agg [.int .i64 0, .lst true [], .lst true [], .bool false, .lst true []]) (.t 38)) (.nil))))))
 (.seq (.ops (.op (some 39) (.mv (.t 0)) (.op (some 40) (.mv (.t 5)) (.op (some 41) (.sll 5 (.t 39) none (some (.t 40)) none) (.op (some 4) (.mv (.t 41)) (.nil))))))
 (.ret)))))))

theorem ok51 : okF Try.prog 51 c51 = true := by kernel_rfl

def c52 : AF := AF.mk 6 [.t 2] (.seq (.ops (.op (some 1) (.rbox (.t 0)) (.op (some 2) (.mv (.c (.bool false))) (.nil))))
 (.seq (.ops (.op (some 3) (.fad 3 (.t 1)) (.op (some 4) (.loadr 1 false (.t 3)) (.op (some 5) (.un .not (.t 4)) (.op (some 2) (.mv (.t 5)) (.nil))))))
 (.ret)))

theorem ok52 : okF Try.prog 52 c52 = true := by kernel_rfl

def c53 : AF := AF.mk 12 [.t 2] (.seq (.ops (.op (some 2) (.mv (.c (.bool false))) (.nil)))
 (.seq (.ops (.op (some 6) (.mv (.t 0)) (.op (some 7) (.call 80 [(.t 6)]) (.op (some 5) (.mv (.t 7)) (.op (some 8) (.ext (.t 5) 0) (.op (some 9) (.ext (.t 5) 1) (.op (some 3) (.mv (.t 8)) (.op (some 4) (.mv (.t 9)) (.nil)))))))))
 (.seq (.ops (.op (some 10) (.mv (.t 4)) (.op (some 11) (.bin .eql (.t 10) (.c (.int .i64 0))) (.op (some 2) (.mv (.t 11)) (.nil)))))
 (.ret))))

theorem ok53 : okF Try.prog 53 c53 = true := by kernel_rfl

def c54 : AF := AF.mk 9 [.t 4] (.seq (.ops (.op (some 4) (.mv (.c (.bool false))) (.nil)))
 (.seq (.ops (.op (some 5) (.mv (.t 0)) (.op (some 6) (.mv (.t 1)) (.op (some 7) (.call 66 [(.t 5), (.t 6)]) (.op (some 8) (.bin .geq (.t 7) (.c (.int .i64 0))) (.op (some 4) (.mv (.t 8)) (.nil)))))))
 (.ret)))

theorem ok54 : okF Try.prog 54 c54 = true := by kernel_rfl

def c55 : AF := AF.mk 8 [.t 3] (.seq (.ops (.op (some 2) (.rbox (.t 0)) (.op (some 3) (.mv (.c (.bool false))) (.nil))))
 (.seq (.ops (.op (some 4) (.fad 1 (.t 2)) (.op (some 5) (.loadr 1 false (.t 4)) (.op (some 6) (.load 1 false (.t 1)) (.op (some 7) (.call 56 [(.t 5), (.t 6)]) (.op (some 3) (.mv (.t 7)) (.nil)))))))
 (.ret)))

theorem ok55 : okF Try.prog 55 c55 = true := by kernel_rfl

def c56 : AF := AF.mk 13 [.t 4] (.seq (.ops (.op (some 4) (.mv (.c (.bool false))) (.nil)))
 (.seq (.ops (.op (some 5) (.mv (.t 0)) (.op (some 6) (.mv (.t 1)) (.op (some 7) (.call 81 [(.t 5), (.t 6)]) (.op (some 8) (.mv (.t 7)) (.sc 12 false 8 9 11 (.op (some 9) (.mv (.t 1)) (.op (some 10) (.mv (.t 0)) (.op (some 11) (.call 81 [(.t 9), (.t 10)]) (.nil)))) (.t 11) (.op (some 4) (.mv (.t 12)) (.nil))))))))
 (.ret)))

theorem ok56 : okF Try.prog 56 c56 = true := by kernel_rfl

def c57 : AF := AF.mk 17 [.t 4] (.seq (.ops (.op (some 4) (.mv (.c (.bool false))) (.nil)))
 (.seq (.ops (.op (some 7) (.mv (.t 0)) (.op (some 8) (.mv (.t 1)) (.op (some 9) (.call 82 [(.t 7), (.t 8)]) (.op (some 5) (.mv (.t 9)) (.nil))))))
 (.seq (.ops (.op (some 10) (.mv (.t 1)) (.op (some 11) (.mv (.t 0)) (.op (some 12) (.call 82 [(.t 10), (.t 11)]) (.op (some 6) (.mv (.t 12)) (.nil))))))
 (.seq (.ops (.op (some 13) (.mv (.t 5)) (.op (some 14) (.mv (.t 13)) (.sc 16 false 14 15 15 (.op (some 15) (.mv (.t 6)) (.nil)) (.t 15) (.op (some 4) (.mv (.t 16)) (.nil))))))
 (.ret)))))

theorem ok57 : okF Try.prog 57 c57 = true := by kernel_rfl

def b62_1 : AC := .seq (.seq (.ops (.op (some 6) (.mv (.t 5)) (.op (some 7) (.fad 1 (.t 2)) (.op (some 8) (.loadr 1 false (.t 7)) (.op (some 9) (.len false (.t 8)) (.op (some 10) (.bin .lss (.t 6) (.t 9)) (.nil)))))))
 (.cond (.t 10) (.skip) (.exit 0)))
 (.seq (.block 1 (.seq (.ops (.op (some 13) (.fad 1 (.t 2)) (.op (some 14) (.loadr 1 false (.t 13)) (.op (some 15) (.mv (.t 5)) (.op (some 16) (.iad 2 (.t 14) (.t 15)) (.op (some 17) (.fad 0 (.t 16)) (.op (some 18) (.load 1 false (.t 17)) (.op (some 19) (.mv (.t 1)) (.op (some 20) (.bin .eql (.t 18) (.t 19)) (.nil))))))))))
 (.cond (.t 20) (.seq (.ops (.op (some 4) (.mv (.c (.bool true))) (.nil)))
 (.ret)) (.skip))))
 (.ops (.op (some 11) (.mv (.t 5)) (.op (some 12) (.bin .add (.t 11) (.c (.int .i64 1))) (.op (some 5) (.mv (.t 12)) (.nil))))))
def c62_1 : AC := b62_1
@[simp] theorem e62_1 {Γ : Tab} {V : Nat → Bool} {ρ : Type} (k : AX → St → Option ρ) (s : St) : eval Γ c62_1 V ρ k s = eval Γ b62_1 V ρ k s := rfl
def c62 : AF := AF.mk 21 [.t 4] (.seq (.ops (.op (some 2) (.rbox (.t 0)) (.op (some 4) (.mv (.c (.bool false))) (.nil))))
 (.seq (.seq (.ops (.op (some 5) (.mv (.c (.int .i64 0))) (.nil)))
 (.block 0 (.loop [5] [(4, 20)] [] [(.exit 0, []), (.ret, [4])] c62_1)))
 (.seq (.ops (.op (some 4) (.mv (.c (.bool false))) (.nil)))
 (.ret))))

theorem ok62 : okF Try.prog 62 c62 = true := by kernel_rfl

def c63 : AF := AF.mk 9 [.t 4] (.seq (.ops (.op (some 2) (.rbox (.t 0)) (.op (some 3) (.box (.t 1)) (.op (some 4) (.mv (.c (.int .i64 0))) (.nil)))))
 (.seq (.ops (.op (some 5) (.fad 2 (.t 2)) (.op (some 6) (.loadr 1 false (.t 5)) (.op (some 7) (.mkf (.func 89) [] [(.t 3)]) (.op (some 8) (.call 79 [(.t 6), (.t 7)]) (.op (some 4) (.mv (.t 8)) (.nil)))))))
 (.ret)))

theorem ok63 : okF Try.prog 63 c63 = true := by kernel_rfl

def c64 : AF := AF.mk 14 [.t 2] (.seq (.ops (.op (some 2) (.mv (.c (.lst true []))) (.nil)))
 (.seq (.seq (.ops (.op (some 4) (.mv (.t 0)) (.op (some 5) (.call 90 [(.t 4)]) (.op (some 6) (.nck (.t 5)) (.op (some 7) (.fad 3 (.t 6)) (.op (some 8) (.load 1 false (.t 7)) (.nil)))))))
 (.cond (.t 8) (.seq (.ops (.op (some 2) (.mv (.c (.lst true []))) (.nil)))
 (.ret)) (.skip)))
 (.seq (.ops (.op (some 9) (.mv (.t 0)) (.op (some 10) (.call 91 [(.t 9), (.c (.int .i64 6))]) (.op (some 3) (.mv (.t 10)) (.nil)))))
 (.seq (.ops (.op (some 11) (.mv (.t 0)) (.op (some 12) (.call 92 [(.t 11)]) (.nil))))
 (.seq (.ops (.op (some 13) (.mv (.t 3)) (.op (some 2) (.mv (.t 13)) (.nil))))
 (.ret))))))

theorem ok64 : okF Try.prog 64 c64 = true := by kernel_rfl

def b66_1 : AC := .seq (.ops (.op (some 9) (.bin .lss (.t 8) (.t 7)) (.nil)))
 (.seq (.cond (.t 9) (.skip) (.exit 0))
 (.seq (.block 1 (.seq (.ops (.op (some 10) (.mv (.t 8)) (.op (some 5) (.mv (.t 10)) (.nil))))
 (.seq (.ops (.op (some 11) (.mv (.t 1)) (.op (some 12) (.mv (.t 0)) (.op (some 13) (.mv (.t 5)) (.op (some 14) (.iad 2 (.t 12) (.t 13)) (.op (some 15) (.load 2 true (.t 14)) (.op (some 16) (.callv (.t 11) [(.t 15)]) (.nil))))))))
 (.cond (.t 16) (.seq (.ops (.op (some 17) (.mv (.t 5)) (.op (some 4) (.mv (.t 17)) (.nil))))
 (.ret)) (.skip)))))
 (.ops (.op (some 18) (.bin .add (.t 8) (.c (.int .i64 1))) (.op (some 8) (.mv (.t 18)) (.nil))))))
def c66_1 : AC := b66_1
@[simp] theorem e66_1 {Γ : Tab} {V : Nat → Bool} {ρ : Type} (k : AX → St → Option ρ) (s : St) : eval Γ c66_1 V ρ k s = eval Γ b66_1 V ρ k s := rfl
def c66 : AF := AF.mk 19 [.t 4] (.seq (.ops (.op (some 4) (.mv (.c (.int .i64 0))) (.nil)))
 (.seq (.seq (.ops (.op (some 6) (.mv (.t 0)) (.op (some 7) (.len false (.t 6)) (.op (some 8) (.mv (.c (.int .i64 0))) (.nil)))))
 (.block 0 (.loop [8] [(4, 5), (8, 18)] [] [(.exit 0, []), (.ret, [4])] c66_1)))
 (.seq (.ops (.op (some 4) (.mv (.c (.int .i64 (-1)))) (.nil)))
 (.ret))))

theorem ok66 : okF Try.prog 66 c66 = true := by kernel_rfl

def c67 : AF := AF.mk 8 [.t 3] (.seq (.ops (.op (some 2) (.rbox (.t 0)) (.op (some 3) (.mv (.c (.bool false))) (.nil))))
 (.seq (.ops (.op (some 4) (.fad 0 (.t 2)) (.op (some 5) (.loadr 1 false (.t 4)) (.op (some 6) (.load 1 false (.t 1)) (.op (some 7) (.bin .eql (.t 5) (.t 6)) (.op (some 3) (.mv (.t 7)) (.nil)))))))
 (.ret)))

theorem ok67 : okF Try.prog 67 c67 = true := by kernel_rfl

def c68 : AF := AF.mk 14 [.t 5] (.seq (.ops (.op (some 5) (.mv (.c (.lst true []))) (.nil)))
 (.seq (.ops (.op (some 6) (.fad 0 (.t 1)) (.op (some 7) (.load 1 false (.t 6)) (.op (some 8) (.fad 0 (.t 2)) (.op (some 9) (.load 1 false (.t 8)) (.op (some 10) (.mv (.t 0)) (.op (some 11) (.load 1 false (.t 3)) (.op (some 12) (.call 49 [(.t 7), (.t 9), (.t 10), (.t 11)]) (.op (some 13) (.bslh 5 (.agg [.int .i64 0, .int .i64 0, .int .i64 0, .lst true [], .lst true []]) 1 [(0, (.t 12))]) (.op (some 5) (.mv (.t 13)) (.nil)))))))))))
 (.ret)))

theorem ok68 : okF Try.prog 68 c68 = true := by kernel_rfl

def c69 : AF := AF.mk 10 [.t 2] (.seq (.ops (.op (some 2) (.mv (.c (.lst true []))) (.nil)))
 (.seq (.ops (.op (some 3) (.fad 1 (.t 0)) (.op (some 4) (.load 1 false (.t 3)) (.op (some 5) (.calla 71 [(.t 4)]) (.op (some 6) (.load 1 false (.t 1)) (.op (some 7) (.load 1 false (.t 1)) (.op (some 8) (.bin .add (.t 7) (.c (.int .i64 1))) (.op (some 9) (.call 70 [(.t 5), (.t 6), (.t 8)]) (.op (some 2) (.mv (.t 9)) (.nil))))))))))
 (.ret)))

theorem ok69 : okF Try.prog 69 c69 = true := by kernel_rfl

def c72 : AF := AF.mk 24 [.t 2] (.seq (.ops (.op (some 2) (.mv (.c (.lst true []))) (.nil)))
 (.seq (.seq (.ops (.op (some 4) (.mv (.t 0)) (.op (some 5) (.call 90 [(.t 4)]) (.op (some 3) (.mv (.t 5)) (.nil)))))
 (.block 0 (.seq (.ops (.op (some 7) (.mv (.t 3)) (.op (some 8) (.nck (.t 7)) (.op (some 9) (.fad 3 (.t 8)) (.op (some 10) (.load 1 false (.t 9)) (.op (some 6) (.mv (.t 10)) (.nil)))))))
 (.cond (.t 6) (.seq (.ops (.op (some 11) (.mv (.t 0)) (.op (some 12) (.call 74 [(.t 11)]) (.op (some 2) (.mv (.t 12)) (.nil)))))
 (.ret)) (.seq (.ops (.op (some 14) (.mv (.t 0)) (.op (some 15) (.call 93 [(.t 14)]) (.op (some 13) (.mv (.t 15)) (.nil)))))
 (.cond (.t 13) (.seq (.ops (.op (some 16) (.mv (.t 3)) (.op (some 17) (.mv (.t 3)) (.op (some 18) (.nck (.t 16)) (.op (some 19) (.fad 3 (.t 18)) (.op none (.store 1 (.t 19) (.c (.bool true))) (.op (some 20) (.nck (.t 17)) (.op (some 21) (.fad 4 (.t 20)) (.op none (.store 1 (.t 21) (.c (.lst true []))) (.nil))))))))))
 (.seq (.ops (.op (some 22) (.mv (.t 0)) (.op (some 23) (.call 91 [(.t 22), (.c (.int .i64 4))]) (.op (some 2) (.mv (.t 23)) (.nil)))))
 (.ret))) (.skip)))))))
 (.seq (.ops (.op (some 2) (.mv (.c (.lst true []))) (.nil)))
 (.ret))))

theorem ok72 : okF Try.prog 72 c72 = true := by kernel_rfl

def c73 : AF := AF.mk 14 [.t 2] (.seq (.ops (.op (some 2) (.mv (.c (.lst true []))) (.nil)))
 (.seq (.seq (.ops (.op (some 3) (.mv (.t 0)) (.op (some 4) (.call 90 [(.t 3)]) (.op (some 5) (.nck (.t 4)) (.op (some 6) (.fad 3 (.t 5)) (.op (some 7) (.load 1 false (.t 6)) (.op (some 8) (.mv (.t 7)) (.sc 11 true 8 9 10 (.op (some 9) (.mv (.t 0)) (.op (some 10) (.call 93 [(.t 9)]) (.nil))) (.t 10) (.nil)))))))))
 (.cond (.t 11) (.ops (.op (some 12) (.mv (.t 0)) (.op (some 13) (.call 92 [(.t 12)]) (.nil)))) (.skip)))
 (.seq (.ops (.op (some 2) (.mv (.c (.lst true []))) (.nil)))
 (.ret))))

theorem ok73 : okF Try.prog 73 c73 = true := by kernel_rfl

def c74 : AF := AF.mk 26 [.t 2] (.seq (.ops (.op (some 2) (.mv (.c (.lst true []))) (.nil)))
 (.seq (.seq (.ops (.op (some 3) (.mv (.t 0)) (.op (some 4) (.call 90 [(.t 3)]) (.op (some 5) (.nck (.t 4)) (.op (some 6) (.fad 3 (.t 5)) (.op (some 7) (.load 1 false (.t 6)) (.op (some 8) (.un .not (.t 7)) (.nil))))))))
 (.cond (.t 8) (.seq (.ops (.op (some 2) (.mv (.c (.lst true []))) (.nil)))
 (.ret)) (.skip)))
 (.seq (.ops (.op (some 9) (.mv (.t 0)) (.op (some 10) (.nck (.t 9)) (.op (some 11) (.fad 0 (.t 10)) (.op (some 12) (.fad 0 (.t 11)) (.op (some 13) (.load 1 false (.t 12)) (.op (some 14) (.mv (.t 0)) (.op (some 15) (.nck (.t 14)) (.op (some 16) (.fad 4 (.t 15)) (.op (some 17) (.load 1 false (.t 16)) (.op (some 18) (.mv (.t 0)) (.op (some 19) (.calls 90 [(.t 18)]) (.op (some 20) (.nck (.t 19)) (.op (some 21) (.fad 0 (.t 20)) (.op (some 22) (.fad 0 (.t 21)) (.op (some 23) (.load 1 false (.t 22)) (.op (some 24) (.callp 49 [(.t 13), (.t 17), (.c (.int .i64 4)), (.t 23)]) (.op (some 25) (.bsl 5 (.agg [.int .i64 0, .int .i64 0, .int .i64 0, .lst true [], .lst true []]) 1 [(0, (.t 24))]) (.op (some 2) (.mv (.t 25)) (.nil))))))))))))))))))))
 (.ret))))

theorem ok74 : okF Try.prog 74 c74 = true := by kernel_rfl

def c75 : AF := AF.mk 9 [.t 4] (.seq (.ops (.op (some 4) (.mv (.c (.bool false))) (.nil)))
 (.seq (.ops (.op (some 5) (.mv (.t 0)) (.op (some 6) (.mv (.t 1)) (.op (some 7) (.call 94 [(.t 5), (.t 6)]) (.op (some 8) (.bin .geq (.t 7) (.c (.int .i64 0))) (.op (some 4) (.mv (.t 8)) (.nil)))))))
 (.ret)))

theorem ok75 : okF Try.prog 75 c75 = true := by kernel_rfl

def c76 : AF := AF.mk 6 [.t 2] (.seq (.ops (.op (some 2) (.mv (.c (.bool false))) (.nil)))
 (.seq (.ops (.op (some 3) (.mv (.t 0)) (.op (some 4) (.call 53 [(.t 3)]) (.op (some 5) (.un .not (.t 4)) (.op (some 2) (.mv (.t 5)) (.nil))))))
 (.ret)))

theorem ok76 : okF Try.prog 76 c76 = true := by kernel_rfl

def b77_1 : AC := .seq (.seq (.ops (.op (some 18) (.mv (.t 6)) (.op (some 19) (.mv (.t 0)) (.op (some 20) (.len true (.t 19)) (.op (some 21) (.bin .leq (.t 18) (.t 20)) (.nil))))))
 (.cond (.t 21) (.skip) (.exit 0)))
 (.seq (.block 1 (.seq (.seq (.ops (.op (some 24) (.mv (.t 6)) (.op (some 25) (.mv (.t 0)) (.op (some 26) (.len true (.t 25)) (.op (some 27) (.bin .lss (.t 24) (.t 26)) (.op (some 28) (.mv (.t 27)) (.sc 33 true 28 29 32 (.op (some 29) (.mv (.t 0)) (.op (some 30) (.mv (.t 6)) (.op (some 31) (.idxs (.t 29) (.t 30)) (.op (some 32) (.bin .neq (.t 31) (.c (.int .u8 47))) (.nil))))) (.t 32) (.nil))))))))
 (.cond (.t 33) (.exit 1) (.skip)))
 (.seq (.seq (.ops (.op (some 34) (.mv (.t 0)) (.op (some 35) (.mv (.t 5)) (.op (some 36) (.mv (.t 6)) (.op (some 37) (.sls (.t 34) (some (.t 35)) (some (.t 36))) (.op (some 38) (.call 95 [(.t 37)]) (.op (some 39) (.un .not (.t 38)) (.op (some 40) (.mv (.t 39)) (.sc 44 false 40 41 43 (.op (some 41) (.mv (.t 4)) (.op (some 42) (.len false (.t 41)) (.op (some 43) (.bin .eql (.t 42) (.c (.int .i64 12))) (.nil)))) (.t 43) (.nil))))))))))
 (.cond (.t 44) (.seq (.ops (.op (some 2) (.mv (.c (.lst true []))) (.op (some 3) (.mv (.c (.int .i64 60))) (.nil))))
 (.ret)) (.skip)))
 (.seq (.ops (.op (some 45) (.mv (.t 4)) (.op (some 46) (.mv (.t 0)) (.op (some 47) (.mv (.t 5)) (.op (some 48) (.mv (.t 6)) (.op (some 49) (.sls (.t 46) (some (.t 47)) (some (.t 48))) (.op (some 50) (.bslh 1 (.str []) 1 [(0, (.t 49))]) (.op (some 51) (.app 1 16 (.t 45) (.t 50)) (.op (some 4) (.mv (.t 51)) (.nil))))))))))
 (.ops (.op (some 52) (.mv (.t 6)) (.op (some 53) (.bin .add (.t 52) (.c (.int .i64 1))) (.op (some 5) (.mv (.t 53)) (.nil)))))))))
 (.ops (.op (some 22) (.mv (.t 6)) (.op (some 23) (.bin .add (.t 22) (.c (.int .i64 1))) (.op (some 6) (.mv (.t 23)) (.nil))))))
def c77_1 : AC := b77_1
@[simp] theorem e77_1 {Γ : Tab} {V : Nat → Bool} {ρ : Type} (k : AX → St → Option ρ) (s : St) : eval Γ c77_1 V ρ k s = eval Γ b77_1 V ρ k s := rfl
def c77 : AF := AF.mk 55 [.t 2, .t 3] (.seq (.ops (.op (some 2) (.mv (.c (.lst true []))) (.op (some 3) (.mv (.c (.int .i64 0))) (.nil))))
 (.seq (.ops (.op (some 7) (.bslh 1 (.str []) 0 []) (.op (some 4) (.mv (.t 7)) (.nil))))
 (.seq (.seq (.ops (.op (some 8) (.mv (.t 0)) (.op (some 9) (.bin .eql (.t 8) (.c (.str [47]))) (.nil))))
 (.cond (.t 9) (.seq (.ops (.op (some 10) (.mv (.t 4)) (.op (some 2) (.mv (.t 10)) (.op (some 3) (.mv (.c (.int .i64 0))) (.nil)))))
 (.ret)) (.skip)))
 (.seq (.seq (.ops (.op (some 11) (.mv (.t 0)) (.op (some 12) (.bin .eql (.t 11) (.c (.str []))) (.op (some 13) (.mv (.t 12)) (.sc 17 false 13 14 16 (.op (some 14) (.mv (.t 0)) (.op (some 15) (.idxs (.t 14) (.c (.int .i64 0))) (.op (some 16) (.bin .neq (.t 15) (.c (.int .u8 47))) (.nil)))) (.t 16) (.nil))))))
 (.cond (.t 17) (.seq (.ops (.op (some 2) (.mv (.c (.lst true []))) (.op (some 3) (.mv (.c (.int .i64 60))) (.nil))))
 (.ret)) (.skip)))
 (.seq (.ops (.op (some 5) (.mv (.c (.int .i64 1))) (.nil)))
 (.seq (.seq (.ops (.op (some 6) (.mv (.c (.int .i64 1))) (.nil)))
 (.block 0 (.loop [4, 5, 6] [(2, 6), (18, 53)] [(4, 1)] [(.exit 0, [4]), (.ret, [2, 3])] c77_1)))
 (.seq (.ops (.op (some 54) (.mv (.t 4)) (.op (some 2) (.mv (.t 54)) (.op (some 3) (.mv (.c (.int .i64 0))) (.nil)))))
 (.ret))))))))

theorem ok77 : okF Try.prog 77 c77 = true := by kernel_rfl

def b78_1 : AC := .seq (.ops (.op (some 9) (.bin .lss (.t 8) (.t 7)) (.nil)))
 (.seq (.cond (.t 9) (.skip) (.exit 0))
 (.seq (.block 1 (.seq (.ops (.op (some 10) (.mv (.t 8)) (.op (some 5) (.mv (.t 10)) (.nil))))
 (.seq (.ops (.op (some 11) (.mv (.t 1)) (.op (some 12) (.mv (.t 0)) (.op (some 13) (.mv (.t 5)) (.op (some 14) (.iad 1 (.t 12) (.t 13)) (.op (some 15) (.load 1 false (.t 14)) (.op (some 16) (.bin .eql (.t 11) (.t 15)) (.nil))))))))
 (.cond (.t 16) (.seq (.ops (.op (some 17) (.mv (.t 5)) (.op (some 4) (.mv (.t 17)) (.nil))))
 (.ret)) (.skip)))))
 (.ops (.op (some 18) (.bin .add (.t 8) (.c (.int .i64 1))) (.op (some 8) (.mv (.t 18)) (.nil))))))
def c78_1 : AC := b78_1
@[simp] theorem e78_1 {Γ : Tab} {V : Nat → Bool} {ρ : Type} (k : AX → St → Option ρ) (s : St) : eval Γ c78_1 V ρ k s = eval Γ b78_1 V ρ k s := rfl
def c78 : AF := AF.mk 19 [.t 4] (.seq (.ops (.op (some 4) (.mv (.c (.int .i64 0))) (.nil)))
 (.seq (.seq (.ops (.op (some 6) (.mv (.t 0)) (.op (some 7) (.len false (.t 6)) (.op (some 8) (.mv (.c (.int .i64 0))) (.nil)))))
 (.block 0 (.loop [8] [(4, 5), (8, 18)] [] [(.exit 0, []), (.ret, [4])] c78_1)))
 (.seq (.ops (.op (some 4) (.mv (.c (.int .i64 (-1)))) (.nil)))
 (.ret))))

theorem ok78 : okF Try.prog 78 c78 = true := by kernel_rfl

def b79_1 : AC := .seq (.ops (.op (some 9) (.bin .lss (.t 8) (.t 7)) (.nil)))
 (.seq (.cond (.t 9) (.skip) (.exit 0))
 (.seq (.block 1 (.seq (.ops (.op (some 10) (.mv (.t 8)) (.op (some 5) (.mv (.t 10)) (.nil))))
 (.seq (.ops (.op (some 11) (.mv (.t 1)) (.op (some 12) (.mv (.t 0)) (.op (some 13) (.mv (.t 5)) (.op (some 14) (.iad 5 (.t 12) (.t 13)) (.op (some 15) (.load 5 true (.t 14)) (.op (some 16) (.callv (.t 11) [(.t 15)]) (.nil))))))))
 (.cond (.t 16) (.seq (.ops (.op (some 17) (.mv (.t 5)) (.op (some 4) (.mv (.t 17)) (.nil))))
 (.ret)) (.skip)))))
 (.ops (.op (some 18) (.bin .add (.t 8) (.c (.int .i64 1))) (.op (some 8) (.mv (.t 18)) (.nil))))))
def c79_1 : AC := b79_1
@[simp] theorem e79_1 {Γ : Tab} {V : Nat → Bool} {ρ : Type} (k : AX → St → Option ρ) (s : St) : eval Γ c79_1 V ρ k s = eval Γ b79_1 V ρ k s := rfl
def c79 : AF := AF.mk 19 [.t 4] (.seq (.ops (.op (some 4) (.mv (.c (.int .i64 0))) (.nil)))
 (.seq (.seq (.ops (.op (some 6) (.mv (.t 0)) (.op (some 7) (.len false (.t 6)) (.op (some 8) (.mv (.c (.int .i64 0))) (.nil)))))
 (.block 0 (.loop [8] [(4, 5), (8, 18)] [] [(.exit 0, []), (.ret, [4])] c79_1)))
 (.seq (.ops (.op (some 4) (.mv (.c (.int .i64 (-1)))) (.nil)))
 (.ret))))

theorem ok79 : okF Try.prog 79 c79 = true := by kernel_rfl

def c81 : AF := AF.mk 40 [.t 4] (.seq (.ops (.op (some 4) (.mv (.c (.bool false))) (.nil)))
 (.seq (.ops (.op (some 10) (.mv (.t 0)) (.op (some 11) (.call 80 [(.t 10)]) (.op (some 9) (.mv (.t 11)) (.op (some 12) (.ext (.t 9) 0) (.op (some 13) (.ext (.t 9) 1) (.op (some 5) (.mv (.t 12)) (.op (some 6) (.mv (.t 13)) (.nil)))))))))
 (.seq (.ops (.op (some 15) (.mv (.t 1)) (.op (some 16) (.call 80 [(.t 15)]) (.op (some 14) (.mv (.t 16)) (.op (some 17) (.ext (.t 14) 0) (.op (some 18) (.ext (.t 14) 1) (.op (some 7) (.mv (.t 17)) (.op (some 8) (.mv (.t 18)) (.nil)))))))))
 (.seq (.ops (.op (some 19) (.mv (.t 6)) (.op (some 20) (.bin .eql (.t 19) (.c (.int .i64 0))) (.op (some 21) (.mv (.t 20)) (.sc 24 true 21 22 23 (.op (some 22) (.mv (.t 8)) (.op (some 23) (.bin .eql (.t 22) (.c (.int .i64 0))) (.nil))) (.t 23) (.op (some 25) (.mv (.t 24)) (.sc 31 true 25 26 30 (.op (some 26) (.mv (.t 5)) (.op (some 27) (.len false (.t 26)) (.op (some 28) (.mv (.t 7)) (.op (some 29) (.len false (.t 28)) (.op (some 30) (.bin .leq (.t 27) (.t 29)) (.nil)))))) (.t 30) (.op (some 32) (.mv (.t 31)) (.sc 39 true 32 33 38 (.op (some 33) (.mv (.t 5)) (.op (some 34) (.mv (.t 7)) (.op (some 35) (.mv (.t 5)) (.op (some 36) (.len false (.t 35)) (.op (some 37) (.sll 1 (.t 34) none (some (.t 36)) none) (.op (some 38) (.call 98 [(.t 33), (.t 37)]) (.nil))))))) (.t 38) (.op (some 4) (.mv (.t 39)) (.nil)))))))))))
 (.ret)))))

theorem ok81 : okF Try.prog 81 c81 = true := by kernel_rfl

def b82_1 : AC := .seq (.seq (.ops (.op (some 33) (.mv (.t 9)) (.op (some 34) (.mv (.t 5)) (.op (some 35) (.len false (.t 34)) (.op (some 36) (.bin .lss (.t 33) (.t 35)) (.nil))))))
 (.cond (.t 36) (.skip) (.exit 0)))
 (.seq (.block 1 (.seq (.ops (.op (some 39) (.mv (.t 5)) (.op (some 40) (.mv (.t 9)) (.op (some 41) (.iad 1 (.t 39) (.t 40)) (.op (some 42) (.load 1 false (.t 41)) (.op (some 43) (.mv (.t 7)) (.op (some 44) (.mv (.t 9)) (.op (some 45) (.iad 1 (.t 43) (.t 44)) (.op (some 46) (.load 1 false (.t 45)) (.op (some 47) (.bin .neq (.t 42) (.t 46)) (.nil)))))))))))
 (.cond (.t 47) (.seq (.ops (.op (some 4) (.mv (.c (.bool false))) (.nil)))
 (.ret)) (.skip))))
 (.ops (.op (some 37) (.mv (.t 9)) (.op (some 38) (.bin .add (.t 37) (.c (.int .i64 1))) (.op (some 9) (.mv (.t 38)) (.nil))))))
def c82_1 : AC := b82_1
@[simp] theorem e82_1 {Γ : Tab} {V : Nat → Bool} {ρ : Type} (k : AX → St → Option ρ) (s : St) : eval Γ c82_1 V ρ k s = eval Γ b82_1 V ρ k s := rfl
def c82 : AF := AF.mk 48 [.t 4] (.seq (.ops (.op (some 4) (.mv (.c (.bool false))) (.nil)))
 (.seq (.ops (.op (some 11) (.mv (.t 0)) (.op (some 12) (.call 77 [(.t 11)]) (.op (some 10) (.mv (.t 12)) (.op (some 13) (.ext (.t 10) 0) (.op (some 14) (.ext (.t 10) 1) (.op (some 5) (.mv (.t 13)) (.op (some 6) (.mv (.t 14)) (.nil)))))))))
 (.seq (.ops (.op (some 16) (.mv (.t 1)) (.op (some 17) (.call 77 [(.t 16)]) (.op (some 15) (.mv (.t 17)) (.op (some 18) (.ext (.t 15) 0) (.op (some 19) (.ext (.t 15) 1) (.op (some 7) (.mv (.t 18)) (.op (some 8) (.mv (.t 19)) (.nil)))))))))
 (.seq (.seq (.ops (.op (some 20) (.mv (.t 6)) (.op (some 21) (.bin .neq (.t 20) (.c (.int .i64 0))) (.op (some 22) (.mv (.t 21)) (.sc 25 false 22 23 24 (.op (some 23) (.mv (.t 8)) (.op (some 24) (.bin .neq (.t 23) (.c (.int .i64 0))) (.nil))) (.t 24) (.op (some 26) (.mv (.t 25)) (.sc 32 false 26 27 31 (.op (some 27) (.mv (.t 5)) (.op (some 28) (.len false (.t 27)) (.op (some 29) (.mv (.t 7)) (.op (some 30) (.len false (.t 29)) (.op (some 31) (.bin .gtr (.t 28) (.t 30)) (.nil)))))) (.t 31) (.nil))))))))
 (.cond (.t 32) (.seq (.ops (.op (some 4) (.mv (.c (.bool false))) (.nil)))
 (.ret)) (.skip)))
 (.seq (.seq (.ops (.op (some 9) (.mv (.c (.int .i64 0))) (.nil)))
 (.block 0 (.loop [9] [(4, 4), (9, 9), (33, 47)] [] [(.exit 0, []), (.ret, [4])] c82_1)))
 (.seq (.ops (.op (some 4) (.mv (.c (.bool true))) (.nil)))
 (.ret)))))))

theorem ok82 : okF Try.prog 82 c82 = true := by kernel_rfl

def c89 : AF := AF.mk 9 [.t 3] (.seq (.ops (.op (some 2) (.rbox (.t 0)) (.op (some 3) (.mv (.c (.bool false))) (.nil))))
 (.seq (.ops (.op (some 4) (.fad 0 (.t 2)) (.op (some 5) (.fad 0 (.t 4)) (.op (some 6) (.loadr 1 false (.t 5)) (.op (some 7) (.load 1 false (.t 1)) (.op (some 8) (.bin .eql (.t 6) (.t 7)) (.op (some 3) (.mv (.t 8)) (.nil))))))))
 (.ret)))

theorem ok89 : okF Try.prog 89 c89 = true := by kernel_rfl

def c90 : AF := AF.mk 13 [.t 2] (.seq (.ops (.op (some 2) (.mv (.c (.nilp))) (.nil)))
 (.seq (.ops (.op (some 3) (.mv (.t 0)) (.op (some 4) (.nck (.t 3)) (.op (some 5) (.fad 0 (.t 4)) (.op (some 6) (.fad 2 (.t 5)) (.op (some 7) (.load 1 false (.t 6)) (.op (some 8) (.mv (.t 0)) (.op (some 9) (.nck (.t 8)) (.op (some 10) (.fad 3 (.t 9)) (.op (some 11) (.load 1 false (.t 10)) (.op (some 12) (.iad 5 (.t 7) (.t 11)) (.op (some 2) (.mv (.t 12)) (.nil)))))))))))))
 (.ret)))

theorem ok90 : okF Try.prog 90 c90 = true := by kernel_rfl

def b91_1 : AC := .seq (.ops (.op (some 16) (.bin .lss (.t 15) (.t 14)) (.nil)))
 (.seq (.cond (.t 16) (.skip) (.exit 0))
 (.seq (.block 1 (.seq (.ops (.op (some 17) (.iad 1 (.t 13) (.t 15)) (.op (some 18) (.load 1 false (.t 17)) (.op (some 7) (.mv (.t 18)) (.nil)))))
 (.ops (.op (some 19) (.mv (.t 5)) (.op (some 20) (.mv (.t 0)) (.op (some 21) (.nck (.t 20)) (.op (some 22) (.fad 0 (.t 21)) (.op (some 23) (.fad 0 (.t 22)) (.op (some 24) (.load 1 false (.t 23)) (.op (some 25) (.mv (.t 7)) (.op (some 26) (.mv (.t 1)) (.op (some 27) (.mv (.t 0)) (.op (some 28) (.calls 90 [(.t 27)]) (.op (some 29) (.nck (.t 28)) (.op (some 30) (.fad 0 (.t 29)) (.op (some 31) (.fad 0 (.t 30)) (.op (some 32) (.load 1 false (.t 31)) (.op (some 33) (.callp 49 [(.t 24), (.t 25), (.t 26), (.t 32)]) (.op (some 34) (.bsl 5 (.agg [.int .i64 0, .int .i64 0, .int .i64 0, .lst true [], .lst true []]) 1 [(0, (.t 33))]) (.op (some 35) (.app 5 72 (.t 19) (.t 34)) (.op (some 5) (.mv (.t 35)) (.nil))))))))))))))))))))))
 (.ops (.op (some 36) (.bin .add (.t 15) (.c (.int .i64 1))) (.op (some 15) (.mv (.t 36)) (.nil))))))
def c91_1 : AC := b91_1
@[simp] theorem e91_1 {Γ : Tab} {V : Nat → Bool} {ρ : Type} (k : AX → St → Option ρ) (s : St) : eval Γ c91_1 V ρ k s = eval Γ b91_1 V ρ k s := rfl
def c91 : AF := AF.mk 38 [.t 4] (.seq (.ops (.op (some 4) (.mv (.c (.lst true []))) (.nil)))
 (.seq (.ops (.op (some 5) (.mv (.c (.lst true []))) (.nil)))
 (.seq (.seq (.ops (.op (some 8) (.mv (.t 0)) (.op (some 9) (.call 90 [(.t 8)]) (.op (some 10) (.nck (.t 9)) (.op (some 11) (.fad 0 (.t 10)) (.op (some 12) (.fad 1 (.t 11)) (.op (some 13) (.load 1 false (.t 12)) (.op (some 14) (.len false (.t 13)) (.op (some 15) (.mv (.c (.int .i64 0))) (.nil))))))))))
 (.block 0 (.loop [5, 15] [(5, 5), (7, 7), (15, 36)] [(5, 5)] [(.exit 0, [5])] c91_1)))
 (.seq (.ops (.op (some 37) (.mv (.t 5)) (.op (some 4) (.mv (.t 37)) (.nil))))
 (.ret)))))

theorem ok91 : okF Try.prog 91 c91 = true := by kernel_rfl

def c92 : AF := AF.mk 21 [] (.ops (.op (some 2) (.mv (.t 0)) (.op (some 3) (.mv (.t 0)) (.op (some 4) (.nck (.t 3)) (.op (some 5) (.fad 0 (.t 4)) (.op (some 6) (.fad 2 (.t 5)) (.op (some 7) (.load 1 false (.t 6)) (.op (some 8) (.mv (.t 0)) (.op (some 9) (.nck (.t 8)) (.op (some 10) (.fad 3 (.t 9)) (.op (some 11) (.load 1 false (.t 10)) (.op (some 12) (.mv (.t 0)) (.op (some 13) (.nck (.t 12)) (.op (some 14) (.fad 3 (.t 13)) (.op (some 15) (.load 1 false (.t 14)) (.op (some 16) (.bin .add (.t 15) (.c (.int .i64 1))) (.op (some 17) (.call 99 [(.t 7), (.t 11), (.t 16)]) (.op (some 18) (.nck (.t 2)) (.op (some 19) (.fad 0 (.t 18)) (.op (some 20) (.fad 2 (.t 19)) (.op none (.store 1 (.t 20) (.t 17)) (.nil))))))))))))))))))))))

theorem ok92 : okF Try.prog 92 c92 = true := by kernel_rfl

def c93 : AF := AF.mk 49 [.t 2] (.seq (.ops (.op (some 2) (.mv (.c (.bool false))) (.nil)))
 (.seq (.ops (.op (some 6) (.mv (.t 0)) (.op (some 7) (.call 90 [(.t 6)]) (.op (some 3) (.mv (.t 7)) (.nil)))))
 (.seq (.seq (.ops (.op (some 9) (.mv (.t 3)) (.op (some 10) (.nck (.t 9)) (.op (some 11) (.fad 4 (.t 10)) (.op (some 12) (.load 1 false (.t 11)) (.op (some 13) (.mv (.t 0)) (.op (some 14) (.nck (.t 13)) (.op (some 15) (.fad 4 (.t 14)) (.op (some 16) (.load 1 false (.t 15)) (.op (some 17) (.callp 100 [(.t 12), (.t 16)]) (.op (some 8) (.mv (.t 17)) (.op (some 18) (.ext (.t 8) 0) (.op (some 19) (.ext (.t 8) 1) (.op (some 4) (.mv (.t 18)) (.op (some 5) (.mv (.t 19)) (.nil))))))))))))))))
 (.seq (.ops (.op (some 20) (.mv (.t 5)) (.op (some 21) (.un .not (.t 20)) (.nil))))
 (.cond (.t 21) (.ops (.op (some 22) (.mv (.t 3)) (.op (some 23) (.mv (.t 3)) (.op (some 24) (.nck (.t 23)) (.op (some 25) (.fad 4 (.t 24)) (.op (some 26) (.load 1 false (.t 25)) (.op (some 27) (.calla 40 [(.t 26)]) (.op (some 28) (.mv (.t 4)) (.op (some 29) (.mv (.t 0)) (.op (some 30) (.nck (.t 29)) (.op (some 31) (.fad 4 (.t 30)) (.op (some 32) (.load 1 false (.t 31)) (.op (some 33) (.bsl 1 (.int .i64 0) 1 [(0, (.t 32))]) (.op (some 34) (.call 101 [(.t 27), (.t 28), (.t 33)]) (.op (some 35) (.nck (.t 22)) (.op (some 36) (.fad 4 (.t 35)) (.op none (.store 1 (.t 36) (.t 34)) (.nil)))))))))))))))))) (.skip))))
 (.seq (.ops (.op (some 37) (.mv (.t 3)) (.op (some 38) (.nck (.t 37)) (.op (some 39) (.fad 4 (.t 38)) (.op (some 40) (.load 1 false (.t 39)) (.op (some 41) (.len false (.t 40)) (.op (some 42) (.mv (.t 3)) (.op (some 43) (.nck (.t 42)) (.op (some 44) (.fad 0 (.t 43)) (.op (some 45) (.fad 1 (.t 44)) (.op (some 46) (.load 1 false (.t 45)) (.op (some 47) (.len false (.t 46)) (.op (some 48) (.bin .eql (.t 41) (.t 47)) (.op (some 2) (.mv (.t 48)) (.nil)))))))))))))))
 (.ret)))))

theorem ok93 : okF Try.prog 93 c93 = true := by kernel_rfl

def b94_1 : AC := .seq (.ops (.op (some 9) (.bin .lss (.t 8) (.t 7)) (.nil)))
 (.seq (.cond (.t 9) (.skip) (.exit 0))
 (.seq (.block 1 (.seq (.ops (.op (some 10) (.mv (.t 8)) (.op (some 5) (.mv (.t 10)) (.nil))))
 (.seq (.ops (.op (some 11) (.mv (.t 1)) (.op (some 12) (.mv (.t 0)) (.op (some 13) (.mv (.t 5)) (.op (some 14) (.iad 1 (.t 12) (.t 13)) (.op (some 15) (.load 1 false (.t 14)) (.op (some 16) (.callv (.t 11) [(.t 15)]) (.nil))))))))
 (.cond (.t 16) (.seq (.ops (.op (some 17) (.mv (.t 5)) (.op (some 4) (.mv (.t 17)) (.nil))))
 (.ret)) (.skip)))))
 (.ops (.op (some 18) (.bin .add (.t 8) (.c (.int .i64 1))) (.op (some 8) (.mv (.t 18)) (.nil))))))
def c94_1 : AC := b94_1
@[simp] theorem e94_1 {Γ : Tab} {V : Nat → Bool} {ρ : Type} (k : AX → St → Option ρ) (s : St) : eval Γ c94_1 V ρ k s = eval Γ b94_1 V ρ k s := rfl
def c94 : AF := AF.mk 19 [.t 4] (.seq (.ops (.op (some 4) (.mv (.c (.int .i64 0))) (.nil)))
 (.seq (.seq (.ops (.op (some 6) (.mv (.t 0)) (.op (some 7) (.len false (.t 6)) (.op (some 8) (.mv (.c (.int .i64 0))) (.nil)))))
 (.block 0 (.loop [8] [(4, 5), (8, 18)] [] [(.exit 0, []), (.ret, [4])] c94_1)))
 (.seq (.ops (.op (some 4) (.mv (.c (.int .i64 (-1)))) (.nil)))
 (.ret))))

theorem ok94 : okF Try.prog 94 c94 = true := by kernel_rfl

def b95_1 : AC := .seq (.seq (.ops (.op (some 20) (.mv (.t 3)) (.op (some 21) (.mv (.t 0)) (.op (some 22) (.len true (.t 21)) (.op (some 23) (.bin .lss (.t 20) (.t 22)) (.nil))))))
 (.cond (.t 23) (.skip) (.exit 0)))
 (.seq (.block 1 (.seq (.ops (.op (some 26) (.mv (.t 0)) (.op (some 27) (.mv (.t 3)) (.op (some 28) (.idxs (.t 26) (.t 27)) (.op (some 29) (.bin .lss (.t 28) (.c (.int .u8 32))) (.op (some 30) (.mv (.t 29)) (.sc 35 false 30 31 34 (.op (some 31) (.mv (.t 0)) (.op (some 32) (.mv (.t 3)) (.op (some 33) (.idxs (.t 31) (.t 32)) (.op (some 34) (.bin .eql (.t 33) (.c (.int .u8 47))) (.nil))))) (.t 34) (.nil))))))))
 (.cond (.t 35) (.seq (.ops (.op (some 2) (.mv (.c (.bool false))) (.nil)))
 (.ret)) (.skip))))
 (.ops (.op (some 24) (.mv (.t 3)) (.op (some 25) (.bin .add (.t 24) (.c (.int .i64 1))) (.op (some 3) (.mv (.t 25)) (.nil))))))
def c95_1 : AC := b95_1
@[simp] theorem e95_1 {Γ : Tab} {V : Nat → Bool} {ρ : Type} (k : AX → St → Option ρ) (s : St) : eval Γ c95_1 V ρ k s = eval Γ b95_1 V ρ k s := rfl
def c95 : AF := AF.mk 36 [.t 2] (.seq (.ops (.op (some 2) (.mv (.c (.bool false))) (.nil)))
 (.seq (.seq (.ops (.op (some 4) (.mv (.t 0)) (.op (some 5) (.len true (.t 4)) (.op (some 6) (.bin .lss (.t 5) (.c (.int .i64 1))) (.op (some 7) (.mv (.t 6)) (.sc 11 false 7 8 10 (.op (some 8) (.mv (.t 0)) (.op (some 9) (.len true (.t 8)) (.op (some 10) (.bin .gtr (.t 9) (.c (.int .i64 32))) (.nil)))) (.t 10) (.op (some 12) (.mv (.t 11)) (.sc 15 false 12 13 14 (.op (some 13) (.mv (.t 0)) (.op (some 14) (.bin .eql (.t 13) (.c (.str [46]))) (.nil))) (.t 14) (.op (some 16) (.mv (.t 15)) (.sc 19 false 16 17 18 (.op (some 17) (.mv (.t 0)) (.op (some 18) (.bin .eql (.t 17) (.c (.str [46, 46]))) (.nil))) (.t 18) (.nil)))))))))))
 (.cond (.t 19) (.seq (.ops (.op (some 2) (.mv (.c (.bool false))) (.nil)))
 (.ret)) (.skip)))
 (.seq (.seq (.ops (.op (some 3) (.mv (.c (.int .i64 0))) (.nil)))
 (.block 0 (.loop [3] [(2, 3), (20, 35)] [] [(.exit 0, []), (.ret, [2])] c95_1)))
 (.seq (.ops (.op (some 2) (.mv (.c (.bool true))) (.nil)))
 (.ret)))))

theorem ok95 : okF Try.prog 95 c95 = true := by kernel_rfl

def c96 : AF := AF.mk 4 [.t 2] (.seq (.ops (.op (some 1) (.box (.t 0)) (.op (some 2) (.mv (.c (.nilf))) (.nil))))
 (.seq (.ops (.op (some 3) (.mkf (.func 102) [] [(.t 1)]) (.op (some 2) (.mv (.t 3)) (.nil))))
 (.ret)))

theorem ok96 : okF Try.prog 96 c96 = true := by kernel_rfl

def b98_1 : AC := .seq (.ops (.op (some 14) (.bin .lss (.t 13) (.t 12)) (.nil)))
 (.seq (.cond (.t 14) (.skip) (.exit 0))
 (.seq (.block 1 (.seq (.ops (.op (some 15) (.mv (.t 13)) (.op (some 5) (.mv (.t 15)) (.nil))))
 (.seq (.ops (.op (some 16) (.mv (.t 0)) (.op (some 17) (.mv (.t 5)) (.op (some 18) (.iad 1 (.t 16) (.t 17)) (.op (some 19) (.load 1 false (.t 18)) (.op (some 20) (.mv (.t 1)) (.op (some 21) (.mv (.t 5)) (.op (some 22) (.iad 1 (.t 20) (.t 21)) (.op (some 23) (.load 1 false (.t 22)) (.op (some 24) (.bin .neq (.t 19) (.t 23)) (.nil)))))))))))
 (.cond (.t 24) (.seq (.ops (.op (some 4) (.mv (.c (.bool false))) (.nil)))
 (.ret)) (.skip)))))
 (.ops (.op (some 25) (.bin .add (.t 13) (.c (.int .i64 1))) (.op (some 13) (.mv (.t 25)) (.nil))))))
def c98_1 : AC := b98_1
@[simp] theorem e98_1 {Γ : Tab} {V : Nat → Bool} {ρ : Type} (k : AX → St → Option ρ) (s : St) : eval Γ c98_1 V ρ k s = eval Γ b98_1 V ρ k s := rfl
def c98 : AF := AF.mk 26 [.t 4] (.seq (.ops (.op (some 4) (.mv (.c (.bool false))) (.nil)))
 (.seq (.seq (.ops (.op (some 6) (.mv (.t 0)) (.op (some 7) (.len false (.t 6)) (.op (some 8) (.mv (.t 1)) (.op (some 9) (.len false (.t 8)) (.op (some 10) (.bin .neq (.t 7) (.t 9)) (.nil)))))))
 (.cond (.t 10) (.seq (.ops (.op (some 4) (.mv (.c (.bool false))) (.nil)))
 (.ret)) (.skip)))
 (.seq (.seq (.ops (.op (some 11) (.mv (.t 0)) (.op (some 12) (.len false (.t 11)) (.op (some 13) (.mv (.c (.int .i64 0))) (.nil)))))
 (.block 0 (.loop [13] [(4, 5), (13, 25)] [] [(.exit 0, []), (.ret, [4])] c98_1)))
 (.seq (.ops (.op (some 4) (.mv (.c (.bool true))) (.nil)))
 (.ret)))))

theorem ok98 : okF Try.prog 98 c98 = true := by kernel_rfl

def b100_1 : AC := .seq (.seq (.ops (.op (some 13) (.mv (.t 7)) (.op (some 14) (.mv (.t 8)) (.op (some 15) (.bin .lss (.t 13) (.t 14)) (.nil)))))
 (.cond (.t 15) (.skip) (.exit 0)))
 (.block 1 (.seq (.ops (.op (some 16) (.mv (.t 7)) (.op (some 17) (.mv (.t 8)) (.op (some 18) (.bin .add (.t 16) (.t 17)) (.op (some 19) (.conv .u64 (.t 18)) (.op (some 20) (.bin .shr (.t 19) (.c (.int .u64 1))) (.op (some 21) (.conv .i64 (.t 20)) (.op (some 9) (.mv (.t 21)) (.nil)))))))))
 (.seq (.ops (.op (some 22) (.mv (.t 0)) (.op (some 23) (.mv (.t 9)) (.op (some 24) (.iad 1 (.t 22) (.t 23)) (.op (some 25) (.load 1 false (.t 24)) (.op (some 26) (.mv (.t 1)) (.op (some 27) (.call 105 [(.t 25), (.t 26)]) (.nil))))))))
 (.cond (.t 27) (.ops (.op (some 28) (.mv (.t 9)) (.op (some 29) (.bin .add (.t 28) (.c (.int .i64 1))) (.op (some 7) (.mv (.t 29)) (.nil))))) (.ops (.op (some 30) (.mv (.t 9)) (.op (some 8) (.mv (.t 30)) (.nil))))))))
def c100_1 : AC := b100_1
@[simp] theorem e100_1 {Γ : Tab} {V : Nat → Bool} {ρ : Type} (k : AX → St → Option ρ) (s : St) : eval Γ c100_1 V ρ k s = eval Γ b100_1 V ρ k s := rfl
def c100 : AF := AF.mk 54 [.t 4, .t 5] (.seq (.ops (.op (some 4) (.mv (.c (.int .i64 0))) (.op (some 5) (.mv (.c (.bool false))) (.nil))))
 (.seq (.ops (.op (some 10) (.mv (.t 0)) (.op (some 11) (.len false (.t 10)) (.op (some 6) (.mv (.t 11)) (.nil)))))
 (.seq (.ops (.op (some 12) (.mv (.t 6)) (.op (some 7) (.mv (.c (.int .i64 0))) (.op (some 8) (.mv (.t 12)) (.nil)))))
 (.seq (.block 0 (.loop [7, 8] [(7, 9), (13, 30)] [] [(.exit 0, [7])] c100_1))
 (.seq (.ops (.op (some 31) (.mv (.t 7)) (.op (some 32) (.mv (.t 7)) (.op (some 33) (.mv (.t 6)) (.op (some 34) (.bin .lss (.t 32) (.t 33)) (.op (some 35) (.mv (.t 34)) (.sc 53 true 35 36 52 (.op (some 36) (.mv (.t 0)) (.op (some 37) (.mv (.t 7)) (.op (some 38) (.iad 1 (.t 36) (.t 37)) (.op (some 39) (.load 1 false (.t 38)) (.op (some 40) (.mv (.t 1)) (.op (some 41) (.bin .eql (.t 39) (.t 40)) (.op (some 42) (.mv (.t 41)) (.sc 52 false 42 43 51 (.op (some 43) (.mv (.t 0)) (.op (some 44) (.mv (.t 7)) (.op (some 45) (.iad 1 (.t 43) (.t 44)) (.op (some 46) (.load 1 false (.t 45)) (.op (some 47) (.call 106 [(.t 46)]) (.op (some 48) (.mv (.t 47)) (.sc 51 true 48 49 50 (.op (some 49) (.mv (.t 1)) (.op (some 50) (.call 106 [(.t 49)]) (.nil))) (.t 50) (.nil)))))))) (.t 51) (.nil))))))))) (.t 52) (.op (some 4) (.mv (.t 31)) (.op (some 5) (.mv (.t 53)) (.nil))))))))))
 (.ret))))))

theorem ok100 : okF Try.prog 100 c100 = true := by kernel_rfl

def c103 : AF := AF.mk 11 [.t 4, .t 5] (.seq (.ops (.op (some 4) (.mv (.c (.str []))) (.op (some 5) (.mv (.c (.bool false))) (.nil))))
 (.seq (.ops (.op (some 6) (.mv (.t 0)) (.op (some 7) (.mv (.t 1)) (.op (some 8) (.call 109 [(.t 6), (.t 7)]) (.op (some 9) (.ext (.t 8) 0) (.op (some 10) (.ext (.t 8) 1) (.op (some 4) (.mv (.t 9)) (.op (some 5) (.mv (.t 10)) (.nil)))))))))
 (.ret)))

theorem ok103 : okF Try.prog 103 c103 = true := by kernel_rfl

def c104 : AF := AF.mk 8 [.t 4] (.seq (.ops (.op (some 4) (.mv (.c (.int .i64 0))) (.nil)))
 (.seq (.ops (.op (some 5) (.mv (.t 0)) (.op (some 6) (.mv (.t 1)) (.op (some 7) (.call 110 [(.t 5), (.t 6)]) (.op (some 4) (.mv (.t 7)) (.nil))))))
 (.ret)))

theorem ok104 : okF Try.prog 104 c104 = true := by kernel_rfl

def c105 : AF := AF.mk 17 [.t 4] (.seq (.ops (.op (some 4) (.mv (.c (.bool false))) (.nil)))
 (.seq (.ops (.op (some 5) (.mv (.t 0)) (.op (some 6) (.call 111 [(.t 5)]) (.op (some 7) (.mv (.t 6)) (.sc 11 true 7 8 10 (.op (some 8) (.mv (.t 1)) (.op (some 9) (.call 111 [(.t 8)]) (.op (some 10) (.un .not (.t 9)) (.nil)))) (.t 10) (.op (some 12) (.mv (.t 11)) (.sc 16 false 12 13 15 (.op (some 13) (.mv (.t 0)) (.op (some 14) (.mv (.t 1)) (.op (some 15) (.bin .lss (.t 13) (.t 14)) (.nil)))) (.t 15) (.op (some 4) (.mv (.t 16)) (.nil)))))))))
 (.ret)))

theorem ok105 : okF Try.prog 105 c105 = true := by kernel_rfl

def c106 : AF := AF.mk 6 [.t 2] (.seq (.ops (.op (some 2) (.mv (.c (.bool false))) (.nil)))
 (.seq (.ops (.op (some 3) (.mv (.t 0)) (.op (some 4) (.mv (.t 0)) (.op (some 5) (.bin .neq (.t 3) (.t 4)) (.op (some 2) (.mv (.t 5)) (.nil))))))
 (.ret)))

theorem ok106 : okF Try.prog 106 c106 = true := by kernel_rfl

def c109 : AF := AF.mk 15 [.t 4, .t 5] (.seq (.ops (.op (some 4) (.mv (.c (.str []))) (.op (some 5) (.mv (.c (.bool false))) (.nil))))
 (.seq (.seq (.ops (.op (some 6) (.mv (.t 0)) (.op (some 7) (.mv (.t 1)) (.op (some 8) (.call 113 [(.t 6), (.t 7)]) (.op (some 9) (.un .not (.t 8)) (.nil))))))
 (.cond (.t 9) (.seq (.ops (.op (some 10) (.mv (.t 0)) (.op (some 4) (.mv (.t 10)) (.op (some 5) (.mv (.c (.bool false))) (.nil)))))
 (.ret)) (.skip)))
 (.seq (.ops (.op (some 11) (.mv (.t 0)) (.op (some 12) (.mv (.t 1)) (.op (some 13) (.len true (.t 12)) (.op (some 14) (.sls (.t 11) (some (.t 13)) none) (.op (some 4) (.mv (.t 14)) (.op (some 5) (.mv (.c (.bool true))) (.nil))))))))
 (.ret))))

theorem ok109 : okF Try.prog 109 c109 = true := by kernel_rfl

def c111 : AF := AF.mk 6 [.t 2] (.seq (.ops (.op (some 2) (.mv (.c (.bool false))) (.nil)))
 (.seq (.ops (.op (some 3) (.mv (.t 0)) (.op (some 4) (.mv (.t 0)) (.op (some 5) (.bin .neq (.t 3) (.t 4)) (.op (some 2) (.mv (.t 5)) (.nil))))))
 (.ret)))

theorem ok111 : okF Try.prog 111 c111 = true := by kernel_rfl

def c113 : AF := AF.mk 18 [.t 4] (.seq (.ops (.op (some 4) (.mv (.c (.bool false))) (.nil)))
 (.seq (.ops (.op (some 5) (.mv (.t 0)) (.op (some 6) (.len true (.t 5)) (.op (some 7) (.mv (.t 1)) (.op (some 8) (.len true (.t 7)) (.op (some 9) (.bin .geq (.t 6) (.t 8)) (.op (some 10) (.mv (.t 9)) (.sc 17 true 10 11 16 (.op (some 11) (.mv (.t 0)) (.op (some 12) (.mv (.t 1)) (.op (some 13) (.len true (.t 12)) (.op (some 14) (.sls (.t 11) none (some (.t 13))) (.op (some 15) (.mv (.t 1)) (.op (some 16) (.bin .eql (.t 14) (.t 15)) (.nil))))))) (.t 16) (.op (some 4) (.mv (.t 17)) (.nil))))))))))
 (.ret)))

theorem ok113 : okF Try.prog 113 c113 = true := by kernel_rfl

end Go.Proofs.Ytgefdmkmobaefaa
