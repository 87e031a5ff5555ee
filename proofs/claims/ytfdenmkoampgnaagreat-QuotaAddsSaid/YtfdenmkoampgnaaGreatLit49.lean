/-
  Literals of functions, for the abstract machine; that they are meant.
-/
import Derived.Test.YtfdenmkoampgnaaGreatProg
import Derived.Test.YtfdenmkoampgnaaGreatAmGU
import Derived.Test.YtfdenmkoampgnaaGreatAmGS
import Derived.KernelRfl
set_option linter.unusedSimpArgs false
set_option linter.unusedVariables false
namespace Go.Proofs.YtfdenmkoampgnaaGreat
open Go.Am
/-- catacomb/catacomblaw09.QuotaAdds -/
def b3_1 : AC := .seq (.seq (.ops (.op (some 86) (.mv (.t 24)) (.op (some 87) (.mv (.t 13)) (.op (some 88) (.len false (.t 87)) (.op (some 89) (.bin .lss (.t 86) (.t 88)) (.nil))))))
 (.cond (.t 89) (.skip) (.exit 0)))
 (.seq (.block 1 (.ops (.op (some 92) (.mv (.t 23)) (.op (some 93) (.mv (.t 92)) (.sc 101 false 93 94 100 (.op (some 94) (.mv (.t 13)) (.op (some 95) (.mv (.t 24)) (.op (some 96) (.iad 3 (.t 94) (.t 95)) (.op (some 97) (.fad 0 (.t 96)) (.op (some 98) (.load 1 false (.t 97)) (.op (some 99) (.mv (.t 19)) (.op (some 100) (.bin .eql (.t 98) (.t 99)) (.nil)))))))) (.t 100) (.op (some 23) (.mv (.t 101)) (.nil)))))))
 (.ops (.op (some 90) (.mv (.t 24)) (.op (some 91) (.bin .add (.t 90) (.c (.int .i64 1))) (.op (some 24) (.mv (.t 91)) (.nil))))))
def c3_1 : AC := b3_1
@[simp] theorem e3_1 {Γ : Tab} {V : Nat → Bool} {ρ : Type} (k : AX → St → Option ρ) (s : St) : eval Γ c3_1 V ρ k s = eval Γ b3_1 V ρ k s := rfl
def c3 : AF := AF.mk 119 [.t 10] (.seq (.ops (.op (some 10) (.mv (.c (.bool false))) (.nil)))
 (.seq (.ops (.op (some 25) (.call 4 []) (.op (some 11) (.mv (.t 25)) (.nil))))
 (.seq (.seq (.ops (.op (some 26) (.mv (.t 0)) (.op (some 27) (.call 5 [(.t 26)]) (.nil))))
 (.cond (.t 27) (.seq (.ops (.op (some 28) (.mv (.t 11)) (.op (some 10) (.mv (.t 28)) (.nil))))
 (.ret)) (.skip)))
 (.seq (.ops (.op (some 29) (.mv (.t 0)) (.op (some 30) (.call 6 [(.t 29)]) (.op (some 12) (.alloc [.lst true [], .int .i64 0, .int .i64 0]) (.op none (.store 3 (.t 12) (.t 30)) (.nil))))))
 (.seq (.ops (.op (some 31) (.load 3 true (.t 12)) (.op (some 32) (.mv (.t 1)) (.op (some 33) (.call 7 [(.t 31), (.t 32)]) (.op (some 13) (.mv (.t 33)) (.nil))))))
 (.seq (.ops (.op (some 34) (.load 3 true (.t 12)) (.op (some 35) (.mv (.t 2)) (.op (some 36) (.call 8 [(.t 34), (.t 35)]) (.op (some 14) (.mv (.t 36)) (.nil))))))
 (.seq (.ops (.op (some 38) (.load 3 true (.t 12)) (.op (some 39) (.mv (.t 14)) (.op (some 40) (.mv (.t 3)) (.op (some 41) (.callp 10 [(.t 40)]) (.op (some 42) (.mv (.t 4)) (.op (some 43) (.conv .i64 (.t 42)) (.op (some 44) (.bin .rem (.t 43) (.c (.int .i64 2))) (.op (some 45) (.bin .add (.t 44) (.c (.int .i64 1))) (.op (some 46) (.callp 9 [(.t 38), (.t 39), (.t 41), (.t 45)]) (.op (some 37) (.mv (.t 46)) (.op (some 47) (.ext (.t 37) 0) (.op (some 48) (.ext (.t 37) 1) (.op (some 49) (.ext (.t 37) 2) (.op (some 15) (.alloc [.lst true [], .int .i64 0, .int .i64 0]) (.op none (.store 3 (.t 15) (.t 47)) (.op (some 16) (.mv (.t 48)) (.op (some 17) (.mv (.t 49)) (.nil)))))))))))))))))))
 (.seq (.seq (.ops (.op (some 50) (.mv (.t 17)) (.op (some 51) (.bin .eql (.t 50) (.c (.int .i64 0))) (.op (some 52) (.mv (.t 51)) (.sc 62 true 52 53 61 (.op (some 53) (.load 3 true (.t 15)) (.op (some 54) (.mv (.t 13)) (.op (some 55) (.callp 11 [(.t 53), (.t 54)]) (.op (some 56) (.load 3 true (.t 12)) (.op (some 57) (.mv (.t 13)) (.op (some 58) (.mv (.t 14)) (.op (some 59) (.callp 12 [(.t 56), (.t 57), (.t 58), (.c (.int .i64 1)), (.c (.int .i64 0))]) (.op (some 60) (.bin .eql (.t 59) (.c (.int .i64 0))) (.op (some 61) (.beq true (.t 55) (.t 60)) (.nil)))))))))) (.t 61) (.nil))))))
 (.cond (.t 62) (.seq (.ops (.op (some 10) (.mv (.c (.bool false))) (.nil)))
 (.ret)) (.skip)))
 (.seq (.ops (.op (some 64) (.load 3 true (.t 12)) (.op (some 65) (.mv (.t 14)) (.op (some 66) (.mv (.t 3)) (.op (some 67) (.callp 10 [(.t 66)]) (.op (some 68) (.callp 13 [(.t 64), (.t 65), (.t 67)]) (.op (some 63) (.mv (.t 68)) (.op (some 69) (.ext (.t 63) 0) (.op (some 70) (.ext (.t 63) 1) (.op (some 71) (.ext (.t 63) 2) (.op (some 18) (.alloc [.lst true [], .int .i64 0, .int .i64 0]) (.op none (.store 3 (.t 18) (.t 69)) (.op (some 19) (.mv (.t 70)) (.op (some 20) (.mv (.t 71)) (.nil)))))))))))))))
 (.seq (.seq (.ops (.op (some 72) (.mv (.t 20)) (.op (some 73) (.bin .neq (.t 72) (.c (.int .i64 0))) (.nil))))
 (.cond (.t 73) (.seq (.ops (.op (some 74) (.mv (.t 11)) (.op (some 75) (.mv (.t 74)) (.sc 79 true 75 76 78 (.op (some 76) (.load 3 true (.t 12)) (.op (some 77) (.mv (.t 13)) (.op (some 78) (.call 11 [(.t 76), (.t 77)]) (.nil)))) (.t 78) (.op (some 10) (.mv (.t 79)) (.nil))))))
 (.ret)) (.skip)))
 (.seq (.ops (.op (some 81) (.load 3 true (.t 12)) (.op (some 82) (.mv (.t 19)) (.op (some 83) (.call 14 [(.t 81), (.t 82)]) (.op (some 80) (.mv (.t 83)) (.op (some 84) (.ext (.t 80) 0) (.op (some 85) (.ext (.t 80) 1) (.op (some 21) (.alloc [.int .i64 0, .int .i64 0, .int .i64 0, .lst true [], .lst true [], .int .i64 0]) (.op none (.store 6 (.t 21) (.t 84)) (.op (some 22) (.mv (.t 85)) (.nil)))))))))))
 (.seq (.ops (.op (some 23) (.mv (.c (.bool false))) (.nil)))
 (.seq (.seq (.ops (.op (some 24) (.mv (.c (.int .i64 0))) (.nil)))
 (.block 0 (.loop [23, 24] [(23, 24), (86, 101)] [] [(.exit 0, [23])] c3_1)))
 (.seq (.ops (.op (some 102) (.mv (.t 11)) (.op (some 103) (.mv (.t 102)) (.sc 105 true 103 104 104 (.op (some 104) (.mv (.t 22)) (.nil)) (.t 104) (.op (some 106) (.mv (.t 105)) (.sc 118 true 106 107 117 (.op (some 107) (.fad 1 (.t 21)) (.op (some 108) (.load 1 false (.t 107)) (.op (some 109) (.bin .eql (.t 108) (.c (.int .i64 2))) (.op (some 110) (.mv (.t 109)) (.sc 112 true 110 111 111 (.op (some 111) (.mv (.t 23)) (.nil)) (.t 111) (.op (some 113) (.mv (.t 112)) (.sc 117 false 113 114 116 (.op (some 114) (.load 3 true (.t 18)) (.op (some 115) (.mv (.t 13)) (.op (some 116) (.call 11 [(.t 114), (.t 115)]) (.nil)))) (.t 116) (.nil)))))))) (.t 117) (.op (some 10) (.mv (.t 118)) (.nil))))))))
 (.ret)))))))))))))))

theorem ok3 : okF Tryz.prog 3 c3 = true := by kernel_rfl

/-- catacomb/catacomblaw09.head -/
def c4 : AF := AF.mk 188 [.t 0] (.seq (.ops (.op (some 0) (.mv (.c (.bool false))) (.nil)))
 (.seq (.ops (.op (some 21) (.call 15 []) (.op (some 1) (.alloc [.lst true [], .int .i64 0, .int .i64 0]) (.op none (.store 3 (.t 1) (.t 21)) (.nil)))))
 (.seq (.ops (.op (some 23) (.load 3 true (.t 1)) (.op (some 24) (.call 16 [(.t 23), (.c (.int .i64 2))]) (.op (some 22) (.mv (.t 24)) (.op (some 25) (.ext (.t 22) 0) (.op (some 26) (.ext (.t 22) 1) (.op (some 2) (.mv (.t 25)) (.op (some 3) (.mv (.t 26)) (.nil)))))))))
 (.seq (.ops (.op (some 28) (.load 3 true (.t 1)) (.op (some 29) (.call 16 [(.t 28), (.c (.int .i64 1))]) (.op (some 27) (.mv (.t 29)) (.op (some 30) (.ext (.t 27) 0) (.op (some 31) (.ext (.t 27) 1) (.op (some 4) (.mv (.t 30)) (.op (some 5) (.mv (.t 31)) (.nil)))))))))
 (.seq (.ops (.op (some 33) (.load 3 true (.t 1)) (.op (some 34) (.call 16 [(.t 33), (.c (.int .i64 3))]) (.op (some 32) (.mv (.t 34)) (.op (some 35) (.ext (.t 32) 0) (.op (some 36) (.ext (.t 32) 1) (.op (some 6) (.mv (.t 35)) (.op (some 7) (.mv (.t 36)) (.nil)))))))))
 (.seq (.ops (.op (some 38) (.load 3 true (.t 1)) (.op (some 39) (.call 17 [(.t 38), (.c (.lst true [])), (.c (.int .i64 2)), (.c (.int .i64 3)), (.c (.int .i64 9))]) (.op (some 37) (.mv (.t 39)) (.op (some 40) (.ext (.t 37) 0) (.op (some 41) (.ext (.t 37) 1) (.op (some 8) (.mv (.t 40)) (.op (some 9) (.mv (.t 41)) (.nil)))))))))
 (.seq (.ops (.op (some 43) (.load 3 true (.t 1)) (.op (some 44) (.mv (.t 8)) (.op (some 45) (.call 17 [(.t 43), (.t 44), (.c (.int .i64 2)), (.c (.int .i64 1)), (.c (.int .i64 9))]) (.op (some 42) (.mv (.t 45)) (.op (some 46) (.ext (.t 42) 0) (.op (some 47) (.ext (.t 42) 1) (.op (some 10) (.mv (.t 46)) (.op (some 11) (.mv (.t 47)) (.nil))))))))))
 (.seq (.ops (.op (some 49) (.load 3 true (.t 1)) (.op (some 50) (.mv (.t 8)) (.op (some 51) (.call 17 [(.t 49), (.t 50), (.c (.int .i64 2)), (.c (.int .i64 2)), (.c (.int .i64 4))]) (.op (some 48) (.mv (.t 51)) (.op (some 52) (.ext (.t 48) 0) (.op (some 53) (.ext (.t 48) 1) (.op (some 12) (.mv (.t 52)) (.op (some 13) (.mv (.t 53)) (.nil))))))))))
 (.seq (.ops (.op (some 55) (.load 3 true (.t 1)) (.op (some 56) (.mv (.t 8)) (.op (some 57) (.call 17 [(.t 55), (.t 56), (.c (.int .i64 3)), (.c (.int .i64 9)), (.c (.int .i64 9))]) (.op (some 54) (.mv (.t 57)) (.op (some 58) (.ext (.t 54) 0) (.op (some 59) (.ext (.t 54) 1) (.op (some 14) (.mv (.t 58)) (.op (some 15) (.mv (.t 59)) (.nil))))))))))
 (.seq (.ops (.op (some 61) (.load 3 true (.t 1)) (.op (some 62) (.mv (.t 8)) (.op (some 63) (.call 17 [(.t 61), (.t 62), (.c (.int .i64 9)), (.c (.int .i64 9)), (.c (.int .i64 9))]) (.op (some 60) (.mv (.t 63)) (.op (some 64) (.ext (.t 60) 0) (.op (some 65) (.ext (.t 60) 1) (.op (some 16) (.mv (.t 64)) (.op (some 17) (.mv (.t 65)) (.nil))))))))))
 (.seq (.ops (.op (some 67) (.load 3 true (.t 1)) (.op (some 68) (.mv (.t 8)) (.op (some 69) (.call 17 [(.t 67), (.t 68), (.c (.int .i64 2)), (.c (.int .i64 (-1))), (.c (.int .i64 0))]) (.op (some 66) (.mv (.t 69)) (.op (some 70) (.ext (.t 66) 0) (.op (some 71) (.ext (.t 66) 1) (.op (some 18) (.mv (.t 70)) (.op (some 19) (.mv (.t 71)) (.nil))))))))))
 (.seq (.ops (.op (some 72) (.mv (.t 8)) (.op (some 73) (.build [.int .i64 0, .int .i64 0, .int .i64 0] [(0, 1, (.c (.int .i64 2))), (1, 1, (.c (.int .i64 3))), (2, 1, (.c (.int .i64 9)))]) (.op (some 74) (.bslh 3 (.agg [.int .i64 0, .int .i64 0, .int .i64 0]) 1 [(0, (.t 73))]) (.op (some 75) (.call 18 [(.t 72), (.t 74)]) (.op (some 20) (.mv (.t 75)) (.nil)))))))
 (.seq (.seq (.ops (.op (some 76) (.mv (.t 20)) (.op (some 77) (.un .not (.t 76)) (.op (some 78) (.mv (.t 77)) (.sc 81 false 78 79 80 (.op (some 79) (.mv (.t 2)) (.op (some 80) (.bin .neq (.t 79) (.c (.int .i64 2))) (.nil))) (.t 80) (.op (some 82) (.mv (.t 81)) (.sc 85 false 82 83 84 (.op (some 83) (.mv (.t 3)) (.op (some 84) (.bin .neq (.t 83) (.c (.int .i64 5))) (.nil))) (.t 84) (.op (some 86) (.mv (.t 85)) (.sc 89 false 86 87 88 (.op (some 87) (.mv (.t 4)) (.op (some 88) (.bin .neq (.t 87) (.c (.int .i64 3))) (.nil))) (.t 88) (.op (some 90) (.mv (.t 89)) (.sc 93 false 90 91 92 (.op (some 91) (.mv (.t 5)) (.op (some 92) (.bin .neq (.t 91) (.c (.int .i64 5))) (.nil))) (.t 92) (.op (some 94) (.mv (.t 93)) (.sc 97 false 94 95 96 (.op (some 95) (.mv (.t 6)) (.op (some 96) (.bin .neq (.t 95) (.c (.int .i64 0))) (.nil))) (.t 96) (.op (some 98) (.mv (.t 97)) (.sc 101 false 98 99 100 (.op (some 99) (.mv (.t 7)) (.op (some 100) (.bin .neq (.t 99) (.c (.int .i64 0))) (.nil))) (.t 100) (.op (some 102) (.mv (.t 101)) (.sc 105 false 102 103 104 (.op (some 103) (.mv (.t 9)) (.op (some 104) (.bin .neq (.t 103) (.c (.int .i64 0))) (.nil))) (.t 104) (.op (some 106) (.mv (.t 105)) (.sc 109 false 106 107 108 (.op (some 107) (.mv (.t 11)) (.op (some 108) (.bin .neq (.t 107) (.c (.int .i64 90))) (.nil))) (.t 108) (.op (some 110) (.mv (.t 109)) (.sc 113 false 110 111 112 (.op (some 111) (.mv (.t 13)) (.op (some 112) (.bin .neq (.t 111) (.c (.int .i64 90))) (.nil))) (.t 112) (.op (some 114) (.mv (.t 113)) (.sc 117 false 114 115 116 (.op (some 115) (.mv (.t 15)) (.op (some 116) (.bin .neq (.t 115) (.c (.int .i64 73))) (.nil))) (.t 116) (.op (some 118) (.mv (.t 117)) (.sc 121 false 118 119 120 (.op (some 119) (.mv (.t 17)) (.op (some 120) (.bin .neq (.t 119) (.c (.int .i64 70))) (.nil))) (.t 120) (.op (some 122) (.mv (.t 121)) (.sc 126 false 122 123 125 (.op (some 123) (.mv (.t 18)) (.op (some 124) (.len false (.t 123)) (.op (some 125) (.bin .neq (.t 124) (.c (.int .i64 0))) (.nil)))) (.t 125) (.op (some 127) (.mv (.t 126)) (.sc 130 false 127 128 129 (.op (some 128) (.mv (.t 19)) (.op (some 129) (.bin .neq (.t 128) (.c (.int .i64 0))) (.nil))) (.t 129) (.nil))))))))))))))))))))))))))))))
 (.cond (.t 130) (.seq (.ops (.op (some 0) (.mv (.c (.bool false))) (.nil)))
 (.ret)) (.skip)))
 (.seq (.ops (.op (some 131) (.load 3 true (.t 1)) (.op (some 132) (.mv (.t 8)) (.op (some 133) (.call 19 [(.t 131), (.t 132), (.c (.int .i64 4))]) (.op (some 134) (.bin .eql (.t 133) (.c (.int .i64 2))) (.op (some 135) (.mv (.t 134)) (.sc 140 true 135 136 139 (.op (some 136) (.load 3 true (.t 1)) (.op (some 137) (.mv (.t 8)) (.op (some 138) (.call 19 [(.t 136), (.t 137), (.c (.int .i64 1))]) (.op (some 139) (.bin .eql (.t 138) (.c (.int .i64 0))) (.nil))))) (.t 139) (.op (some 141) (.mv (.t 140)) (.sc 145 true 141 142 144 (.op (some 142) (.load 3 true (.t 1)) (.op (some 143) (.mv (.t 8)) (.op (some 144) (.call 20 [(.t 142), (.t 143), (.c (.int .i64 1)), (.c (.int .i64 4))]) (.nil)))) (.t 144) (.op (some 146) (.mv (.t 145)) (.sc 151 true 146 147 150 (.op (some 147) (.load 3 true (.t 1)) (.op (some 148) (.mv (.t 8)) (.op (some 149) (.call 20 [(.t 147), (.t 148), (.c (.int .i64 2)), (.c (.int .i64 4))]) (.op (some 150) (.un .not (.t 149)) (.nil))))) (.t 150) (.op (some 152) (.mv (.t 151)) (.sc 157 true 152 153 156 (.op (some 153) (.load 3 true (.t 1)) (.op (some 154) (.mv (.t 8)) (.op (some 155) (.call 12 [(.t 153), (.t 154), (.c (.int .i64 4)), (.c (.int .i64 1)), (.c (.int .i64 4))]) (.op (some 156) (.bin .eql (.t 155) (.c (.int .i64 0))) (.nil))))) (.t 156) (.op (some 158) (.mv (.t 157)) (.sc 163 true 158 159 162 (.op (some 159) (.load 3 true (.t 1)) (.op (some 160) (.mv (.t 8)) (.op (some 161) (.call 12 [(.t 159), (.t 160), (.c (.int .i64 4)), (.c (.int .i64 2)), (.c (.int .i64 0))]) (.op (some 162) (.bin .eql (.t 161) (.c (.int .i64 90))) (.nil))))) (.t 162) (.op (some 164) (.mv (.t 163)) (.sc 169 true 164 165 168 (.op (some 165) (.load 3 true (.t 1)) (.op (some 166) (.mv (.t 8)) (.op (some 167) (.call 12 [(.t 165), (.t 166), (.c (.int .i64 4)), (.c (.int .i64 0)), (.c (.int .i64 5))]) (.op (some 168) (.bin .eql (.t 167) (.c (.int .i64 90))) (.nil))))) (.t 168) (.op (some 170) (.mv (.t 169)) (.sc 175 true 170 171 174 (.op (some 171) (.load 3 true (.t 1)) (.op (some 172) (.mv (.t 8)) (.op (some 173) (.call 12 [(.t 171), (.t 172), (.c (.int .i64 1)), (.c (.int .i64 99)), (.c (.int .i64 99))]) (.op (some 174) (.bin .eql (.t 173) (.c (.int .i64 0))) (.nil))))) (.t 174) (.op (some 176) (.mv (.t 175)) (.sc 180 true 176 177 179 (.op (some 177) (.load 3 true (.t 1)) (.op (some 178) (.mv (.t 8)) (.op (some 179) (.call 11 [(.t 177), (.t 178)]) (.nil)))) (.t 179) (.op (some 181) (.mv (.t 180)) (.sc 187 true 181 182 186 (.op (some 182) (.load 3 true (.t 1)) (.op (some 183) (.build [.int .i64 0, .int .i64 0, .int .i64 0] [(0, 1, (.c (.int .i64 3))), (1, 1, (.c (.int .i64 9))), (2, 1, (.c (.int .i64 9)))]) (.op (some 184) (.bslh 3 (.agg [.int .i64 0, .int .i64 0, .int .i64 0]) 1 [(0, (.t 183))]) (.op (some 185) (.call 11 [(.t 182), (.t 184)]) (.op (some 186) (.un .not (.t 185)) (.nil)))))) (.t 186) (.op (some 0) (.mv (.t 187)) (.nil)))))))))))))))))))))))))
 (.ret)))))))))))))))

theorem ok4 : okF Tryz.prog 4 c4 = true := by kernel_rfl

/-- catacomb/catacomblaw07.Great -/
def b5_1 : AC := .seq (.seq (.ops (.op (some 7) (.mv (.t 3)) (.op (some 8) (.mv (.t 0)) (.op (some 9) (.len false (.t 8)) (.op (some 10) (.bin .lss (.t 7) (.t 9)) (.nil))))))
 (.cond (.t 10) (.skip) (.exit 0)))
 (.seq (.block 1 (.seq (.ops (.op (some 13) (.mv (.t 0)) (.op (some 14) (.mv (.t 3)) (.op (some 15) (.iad 6 (.t 13) (.t 14)) (.op (some 16) (.fad 5 (.t 15)) (.op (some 17) (.load 1 false (.t 16)) (.op (some 18) (.len false (.t 17)) (.op (some 19) (.bin .gtr (.t 18) (.c (.int .i64 5000))) (.nil)))))))))
 (.cond (.t 19) (.seq (.ops (.op (some 2) (.mv (.c (.bool true))) (.nil)))
 (.ret)) (.skip))))
 (.ops (.op (some 11) (.mv (.t 3)) (.op (some 12) (.bin .add (.t 11) (.c (.int .i64 1))) (.op (some 3) (.mv (.t 12)) (.nil))))))
def c5_1 : AC := b5_1
@[simp] theorem e5_1 {Γ : Tab} {V : Nat → Bool} {ρ : Type} (k : AX → St → Option ρ) (s : St) : eval Γ c5_1 V ρ k s = eval Γ b5_1 V ρ k s := rfl
def c5 : AF := AF.mk 20 [.t 2] (.seq (.ops (.op (some 2) (.mv (.c (.bool false))) (.nil)))
 (.seq (.seq (.ops (.op (some 4) (.mv (.t 0)) (.op (some 5) (.len false (.t 4)) (.op (some 6) (.bin .gtr (.t 5) (.c (.int .i64 60))) (.nil)))))
 (.cond (.t 6) (.seq (.ops (.op (some 2) (.mv (.c (.bool true))) (.nil)))
 (.ret)) (.skip)))
 (.seq (.seq (.ops (.op (some 3) (.mv (.c (.int .i64 0))) (.nil)))
 (.block 0 (.loop [3] [(2, 3), (7, 19)] [] [(.exit 0, []), (.ret, [2])] c5_1)))
 (.seq (.ops (.op (some 2) (.mv (.c (.bool false))) (.nil)))
 (.ret)))))

theorem ok5 : okF Tryz.prog 5 c5 = true := by kernel_rfl

/-- catacomb/catacomblaw07.Made -/
def b6_1 : AC := .seq (.seq (.ops (.op (some 9) (.mv (.t 4)) (.op (some 10) (.mv (.t 0)) (.op (some 11) (.len false (.t 10)) (.op (some 12) (.bin .lss (.t 9) (.t 11)) (.nil))))))
 (.cond (.t 12) (.skip) (.exit 0)))
 (.seq (.block 1 (.seq (.ops (.op (some 16) (.load 3 true (.t 3)) (.op (some 17) (.mv (.t 0)) (.op (some 18) (.mv (.t 4)) (.op (some 19) (.iad 6 (.t 17) (.t 18)) (.op (some 20) (.load 6 true (.t 19)) (.op (some 21) (.callp 22 [(.t 16), (.t 20)]) (.op (some 15) (.mv (.t 21)) (.op (some 22) (.ext (.t 15) 0) (.op (some 23) (.ext (.t 15) 1) (.op (some 24) (.ext (.t 15) 2) (.op (some 5) (.alloc [.lst true [], .int .i64 0, .int .i64 0]) (.op none (.store 3 (.t 5) (.t 22)) (.op (some 6) (.mv (.t 23)) (.op (some 7) (.mv (.t 24)) (.nil))))))))))))))))
 (.ops (.op (some 25) (.load 3 true (.t 5)) (.op none (.store 3 (.t 3) (.t 25)) (.nil))))))
 (.ops (.op (some 13) (.mv (.t 4)) (.op (some 14) (.bin .add (.t 13) (.c (.int .i64 1))) (.op (some 4) (.mv (.t 14)) (.nil))))))
def c6_1 : AC := b6_1
@[simp] theorem e6_1 {Γ : Tab} {V : Nat → Bool} {ρ : Type} (k : AX → St → Option ρ) (s : St) : eval Γ c6_1 V ρ k s = eval Γ b6_1 V ρ k s := rfl
def c6 : AF := AF.mk 27 [.cell 2 3 true] (.seq (.ops (.op (some 2) (.alloc [.lst true [], .int .i64 0, .int .i64 0]) (.nil)))
 (.seq (.ops (.op (some 8) (.call 21 []) (.op (some 3) (.alloc [.lst true [], .int .i64 0, .int .i64 0]) (.op none (.store 3 (.t 3) (.t 8)) (.nil)))))
 (.seq (.seq (.ops (.op (some 4) (.mv (.c (.int .i64 0))) (.nil)))
 (.block 0 (.loop [4] [(4, 7), (9, 25)] [] [(.exit 0, [])] c6_1)))
 (.seq (.ops (.op (some 26) (.load 3 true (.t 3)) (.op none (.store 3 (.t 2) (.t 26)) (.nil))))
 (.ret)))))

theorem ok6 : okF Tryz.prog 6 c6 = true := by kernel_rfl

/-- catacomb/catacomblaw09.Quotas -/
def b7_1 : AC := .seq (.seq (.ops (.op (some 9) (.mv (.t 6)) (.op (some 10) (.mv (.t 1)) (.op (some 11) (.len false (.t 10)) (.op (some 12) (.bin .lss (.t 9) (.t 11)) (.op (some 13) (.mv (.t 12)) (.sc 16 true 13 14 15 (.op (some 14) (.mv (.t 6)) (.op (some 15) (.bin .lss (.t 14) (.c (.int .i64 20))) (.nil))) (.t 15) (.nil))))))))
 (.cond (.t 16) (.skip) (.exit 0)))
 (.seq (.block 1 (.seq (.ops (.op (some 20) (.loadr 3 true (.t 2)) (.op (some 21) (.mv (.t 5)) (.op (some 22) (.loadr 3 true (.t 2)) (.op (some 23) (.mv (.t 1)) (.op (some 24) (.mv (.t 6)) (.op (some 25) (.iad 3 (.t 23) (.t 24)) (.op (some 26) (.fad 0 (.t 25)) (.op (some 27) (.load 1 false (.t 26)) (.op (some 28) (.callp 24 [(.t 22), (.t 27)]) (.op (some 29) (.mv (.t 1)) (.op (some 30) (.mv (.t 6)) (.op (some 31) (.iad 3 (.t 29) (.t 30)) (.op (some 32) (.fad 1 (.t 31)) (.op (some 33) (.load 1 false (.t 32)) (.op (some 34) (.conv .i64 (.t 33)) (.op (some 35) (.mv (.t 1)) (.op (some 36) (.mv (.t 6)) (.op (some 37) (.iad 3 (.t 35) (.t 36)) (.op (some 38) (.fad 2 (.t 37)) (.op (some 39) (.load 1 false (.t 38)) (.op (some 40) (.conv .i64 (.t 39)) (.op (some 41) (.bin .mul (.c (.int .i64 8)) (.t 40)) (.op (some 42) (.callp 23 [(.t 20), (.t 21), (.t 28), (.t 34), (.t 41)]) (.op (some 19) (.mv (.t 42)) (.op (some 43) (.ext (.t 19) 0) (.op (some 44) (.ext (.t 19) 1) (.op (some 7) (.mv (.t 43)) (.op (some 8) (.mv (.t 44)) (.nil))))))))))))))))))))))))))))))
 (.ops (.op (some 45) (.mv (.t 7)) (.op (some 5) (.mv (.t 45)) (.nil))))))
 (.ops (.op (some 17) (.mv (.t 6)) (.op (some 18) (.bin .add (.t 17) (.c (.int .i64 1))) (.op (some 6) (.mv (.t 18)) (.nil))))))
def c7_1 : AC := b7_1
@[simp] theorem e7_1 {Γ : Tab} {V : Nat → Bool} {ρ : Type} (k : AX → St → Option ρ) (s : St) : eval Γ c7_1 V ρ k s = eval Γ b7_1 V ρ k s := rfl
def c7 : AF := AF.mk 47 [.t 4] (.seq (.ops (.op (some 2) (.rbox (.t 0)) (.op (some 4) (.mv (.c (.lst true []))) (.nil))))
 (.seq (.ops (.op (some 5) (.mv (.c (.lst true []))) (.nil)))
 (.seq (.seq (.ops (.op (some 6) (.mv (.c (.int .i64 0))) (.nil)))
 (.block 0 (.loop [5, 6] [(5, 45)] [] [(.exit 0, [5])] c7_1)))
 (.seq (.ops (.op (some 46) (.mv (.t 5)) (.op (some 4) (.mv (.t 46)) (.nil))))
 (.ret)))))

theorem ok7 : okF Tryz.prog 7 c7 = true := by kernel_rfl

/-- catacomb/catacomblaw09.Dir -/
def c8 : AF := AF.mk 24 [.t 4] (.seq (.ops (.op (some 2) (.rbox (.t 0)) (.op (some 4) (.mv (.c (.int .i64 0))) (.nil))))
 (.seq (.ops (.op (some 8) (.loadr 3 true (.t 2)) (.op (some 9) (.mv (.t 1)) (.op (some 10) (.call 24 [(.t 8), (.t 9)]) (.op (some 5) (.mv (.t 10)) (.nil))))))
 (.seq (.ops (.op (some 12) (.loadr 3 true (.t 2)) (.op (some 13) (.mv (.t 5)) (.op (some 14) (.call 14 [(.t 12), (.t 13)]) (.op (some 11) (.mv (.t 14)) (.op (some 15) (.ext (.t 11) 0) (.op (some 16) (.ext (.t 11) 1) (.op (some 6) (.alloc [.int .i64 0, .int .i64 0, .int .i64 0, .lst true [], .lst true [], .int .i64 0]) (.op none (.store 6 (.t 6) (.t 15)) (.op (some 7) (.mv (.t 16)) (.nil)))))))))))
 (.seq (.seq (.ops (.op (some 17) (.mv (.t 7)) (.op (some 18) (.mv (.t 17)) (.sc 22 true 18 19 21 (.op (some 19) (.fad 1 (.t 6)) (.op (some 20) (.load 1 false (.t 19)) (.op (some 21) (.bin .eql (.t 20) (.c (.int .i64 2))) (.nil)))) (.t 21) (.nil)))))
 (.cond (.t 22) (.seq (.ops (.op (some 23) (.mv (.t 5)) (.op (some 4) (.mv (.t 23)) (.nil))))
 (.ret)) (.skip)))
 (.seq (.ops (.op (some 4) (.mv (.c (.int .i64 1))) (.nil)))
 (.ret))))))

theorem ok8 : okF Tryz.prog 8 c8 = true := by kernel_rfl

/-- catacomb/tree.Add -/
def c9 : AF := AF.mk 83 [.cell 8 3 true, .t 9, .t 10] (.seq (.ops (.op (some 4) (.rbox (.t 0)) (.op (some 8) (.alloc [.lst true [], .int .i64 0, .int .i64 0]) (.op (some 9) (.mv (.c (.int .i64 0))) (.op (some 10) (.mv (.c (.int .i64 0))) (.nil))))))
 (.seq (.seq (.ops (.op (some 14) (.mv (.t 3)) (.op (some 15) (.bin .neq (.t 14) (.c (.int .i64 1))) (.op (some 16) (.mv (.t 15)) (.sc 19 true 16 17 18 (.op (some 17) (.mv (.t 3)) (.op (some 18) (.bin .neq (.t 17) (.c (.int .i64 2))) (.nil))) (.t 18) (.nil))))))
 (.cond (.t 19) (.seq (.ops (.op (some 20) (.loadr 3 true (.t 4)) (.op none (.store 3 (.t 8) (.t 20)) (.op (some 9) (.mv (.c (.int .i64 0))) (.op (some 10) (.mv (.c (.int .i64 1))) (.nil))))))
 (.ret)) (.skip)))
 (.seq (.ops (.op (some 21) (.loadr 3 true (.t 4)) (.op (some 22) (.build [.lst true [], .int .i64 0, .int .i64 0] [(0, 3, (.t 21))]) (.op (some 23) (.box (.t 22)) (.op (some 11) (.mv (.t 23)) (.nil))))))
 (.seq (.seq (.ops (.op (some 24) (.mv (.t 11)) (.op (some 25) (.mv (.t 1)) (.op (some 26) (.mv (.t 2)) (.op (some 27) (.call 25 [(.t 24), (.t 25), (.t 26)]) (.op (some 12) (.mv (.t 27)) (.nil)))))))
 (.seq (.ops (.op (some 28) (.mv (.t 12)) (.op (some 29) (.bin .neq (.t 28) (.c (.int .i64 0))) (.nil))))
 (.cond (.t 29) (.seq (.ops (.op (some 30) (.loadr 3 true (.t 4)) (.op (some 31) (.mv (.t 12)) (.op none (.store 3 (.t 8) (.t 30)) (.op (some 9) (.mv (.c (.int .i64 0))) (.op (some 10) (.mv (.t 31)) (.nil)))))))
 (.ret)) (.skip))))
 (.seq (.seq (.ops (.op (some 32) (.mv (.t 11)) (.op (some 33) (.nck (.t 32)) (.op (some 34) (.fad 0 (.t 33)) (.op (some 35) (.fad 0 (.t 34)) (.op (some 36) (.load 1 false (.t 35)) (.op (some 37) (.len false (.t 36)) (.op (some 38) (.bin .geq (.t 37) (.c (.int .i64 200))) (.op (some 39) (.mv (.t 38)) (.sc 46 false 39 40 45 (.op (some 40) (.mv (.t 11)) (.op (some 41) (.nck (.t 40)) (.op (some 42) (.fad 0 (.t 41)) (.op (some 43) (.fad 1 (.t 42)) (.op (some 44) (.load 1 false (.t 43)) (.op (some 45) (.bin .geq (.t 44) (.c (.int .i64 1099511627776))) (.nil))))))) (.t 45) (.nil)))))))))))
 (.cond (.t 46) (.seq (.ops (.op (some 47) (.loadr 3 true (.t 4)) (.op none (.store 3 (.t 8) (.t 47)) (.op (some 9) (.mv (.c (.int .i64 0))) (.op (some 10) (.mv (.c (.int .i64 76))) (.nil))))))
 (.ret)) (.skip)))
 (.seq (.ops (.op (some 48) (.mv (.t 11)) (.op (some 49) (.nck (.t 48)) (.op (some 50) (.fad 0 (.t 49)) (.op (some 51) (.fad 1 (.t 50)) (.op (some 52) (.load 1 false (.t 51)) (.op (some 53) (.mv (.t 3)) (.op (some 54) (.build [.int .i64 0, .int .i64 0, .int .i64 0, .lst true [], .lst true [], .int .i64 0] [(0, 1, (.t 52)), (1, 1, (.t 53)), (2, 1, (.c (.int .i64 1)))]) (.op (some 13) (.alloc [.int .i64 0, .int .i64 0, .int .i64 0, .lst true [], .lst true [], .int .i64 0]) (.op none (.store 6 (.t 13) (.t 54)) (.nil)))))))))))
 (.seq (.seq (.ops (.op (some 55) (.mv (.t 3)) (.op (some 56) (.bin .eql (.t 55) (.c (.int .i64 2))) (.nil))))
 (.cond (.t 56) (.ops (.op (some 57) (.mv (.t 1)) (.op (some 58) (.fad 5 (.t 13)) (.op none (.store 1 (.t 58) (.t 57)) (.nil))))) (.skip)))
 (.seq (.ops (.op (some 59) (.mv (.t 11)) (.op (some 60) (.nck (.t 59)) (.op (some 61) (.fad 0 (.t 60)) (.op (some 62) (.fad 1 (.t 61)) (.op (some 63) (.load 1 false (.t 62)) (.op (some 64) (.bin .add (.t 63) (.c (.int .i64 1))) (.op (some 65) (.nck (.t 59)) (.op (some 66) (.fad 0 (.t 65)) (.op (some 67) (.fad 1 (.t 66)) (.op none (.store 1 (.t 67) (.t 64)) (.nil))))))))))))
 (.seq (.ops (.op (some 68) (.mv (.t 11)) (.op (some 69) (.load 6 true (.t 13)) (.op (some 70) (.call 26 [(.t 68), (.t 69)]) (.nil)))))
 (.seq (.ops (.op (some 71) (.mv (.t 11)) (.op (some 72) (.mv (.t 1)) (.op (some 73) (.mv (.t 2)) (.op (some 74) (.fad 0 (.t 13)) (.op (some 75) (.load 1 false (.t 74)) (.op (some 76) (.call 27 [(.t 71), (.t 72), (.t 73), (.t 75)]) (.nil))))))))
 (.seq (.ops (.op (some 77) (.mv (.t 11)) (.op (some 78) (.nck (.t 77)) (.op (some 79) (.fad 0 (.t 78)) (.op (some 80) (.load 3 true (.t 79)) (.op (some 81) (.fad 0 (.t 13)) (.op (some 82) (.loadx 1 false (.t 81) 8) (.op none (.storer 3 (.t 8) (.t 80)) (.op (some 9) (.mv (.t 82)) (.op (some 10) (.mv (.c (.int .i64 0))) (.nil)))))))))))
 (.ret))))))))))))

theorem ok9 : okF Tryz.prog 9 c9 = true := by kernel_rfl

/-- catacomb/catacomblaw07.Name -/
def c10 : AF := AF.mk 11 [.t 2] (.seq (.ops (.op (some 2) (.mv (.c (.str []))) (.nil)))
 (.seq (.ops (.op (some 4) (.bslh 1 (.str []) 6 [(0, (.c (.str [97]))), (1, (.c (.str [98]))), (2, (.c (.str [99]))), (3, (.c (.str [100]))), (4, (.c (.str [101]))), (5, (.c (.str [46, 46])))]) (.op (some 3) (.mv (.t 4)) (.nil))))
 (.seq (.ops (.op (some 5) (.mv (.t 3)) (.op (some 6) (.mv (.t 0)) (.op (some 7) (.conv .i64 (.t 6)) (.op (some 8) (.bin .rem (.t 7) (.c (.int .i64 6))) (.op (some 9) (.iad 1 (.t 5) (.t 8)) (.op (some 10) (.load 1 false (.t 9)) (.op (some 2) (.mv (.t 10)) (.nil)))))))))
 (.ret))))

theorem ok10 : okF Tryz.prog 10 c10 = true := by kernel_rfl

/-- catacomb/quota.Right -/
def b11_1 : AC := .seq (.ops (.op (some 14) (.bin .lss (.t 13) (.t 12)) (.nil)))
 (.seq (.cond (.t 14) (.skip) (.exit 0))
 (.seq (.block 1 (.seq (.ops (.op (some 15) (.mv (.t 13)) (.op (some 16) (.iad 3 (.t 11) (.t 13)) (.op (some 17) (.load 3 true (.t 16)) (.op (some 6) (.alloc [.int .i64 0, .int .i64 0, .int .i64 0]) (.op (some 5) (.mv (.t 15)) (.op none (.store 3 (.t 6) (.t 17)) (.nil))))))))
 (.seq (.ops (.op (some 19) (.loadr 3 true (.t 2)) (.op (some 20) (.fad 0 (.t 6)) (.op (some 21) (.load 1 false (.t 20)) (.op (some 22) (.call 28 [(.t 19), (.t 21)]) (.op (some 18) (.mv (.t 22)) (.op (some 23) (.ext (.t 18) 0) (.op (some 24) (.ext (.t 18) 1) (.op (some 7) (.alloc [.int .i64 0, .int .i64 0, .int .i64 0, .lst true [], .lst true [], .int .i64 0]) (.op none (.store 6 (.t 7) (.t 23)) (.op (some 8) (.mv (.t 24)) (.nil))))))))))))
 (.seq (.ops (.op (some 26) (.loadr 3 true (.t 2)) (.op (some 27) (.fad 0 (.t 6)) (.op (some 28) (.load 1 false (.t 27)) (.op (some 29) (.call 16 [(.t 26), (.t 28)]) (.op (some 25) (.mv (.t 29)) (.op (some 30) (.ext (.t 25) 0) (.op (some 31) (.ext (.t 25) 1) (.op (some 9) (.mv (.t 30)) (.op (some 10) (.mv (.t 31)) (.nil)))))))))))
 (.seq (.ops (.op (some 32) (.mv (.t 8)) (.op (some 33) (.un .not (.t 32)) (.op (some 34) (.mv (.t 33)) (.sc 38 false 34 35 37 (.op (some 35) (.fad 1 (.t 7)) (.op (some 36) (.load 1 false (.t 35)) (.op (some 37) (.bin .neq (.t 36) (.c (.int .i64 2))) (.nil)))) (.t 37) (.op (some 39) (.mv (.t 38)) (.sc 44 false 39 40 43 (.op (some 40) (.mv (.t 9)) (.op (some 41) (.fad 1 (.t 6)) (.op (some 42) (.load 1 false (.t 41)) (.op (some 43) (.bin .gtr (.t 40) (.t 42)) (.nil))))) (.t 43) (.op (some 45) (.mv (.t 44)) (.sc 50 false 45 46 49 (.op (some 46) (.mv (.t 10)) (.op (some 47) (.fad 2 (.t 6)) (.op (some 48) (.load 1 false (.t 47)) (.op (some 49) (.bin .gtr (.t 46) (.t 48)) (.nil))))) (.t 49) (.op (some 51) (.mv (.t 50)) (.sc 65 false 51 52 64 (.op (some 52) (.mv (.t 5)) (.op (some 53) (.bin .gtr (.t 52) (.c (.int .i64 0))) (.op (some 54) (.mv (.t 53)) (.sc 64 true 54 55 63 (.op (some 55) (.mv (.t 1)) (.op (some 56) (.mv (.t 5)) (.op (some 57) (.bin .sub (.t 56) (.c (.int .i64 1))) (.op (some 58) (.iad 3 (.t 55) (.t 57)) (.op (some 59) (.fad 0 (.t 58)) (.op (some 60) (.load 1 false (.t 59)) (.op (some 61) (.fad 0 (.t 6)) (.op (some 62) (.load 1 false (.t 61)) (.op (some 63) (.bin .geq (.t 60) (.t 62)) (.nil)))))))))) (.t 63) (.nil))))) (.t 64) (.nil))))))))))))
 (.cond (.t 65) (.seq (.ops (.op (some 4) (.mv (.c (.bool false))) (.nil)))
 (.ret)) (.skip)))))))
 (.ops (.op (some 66) (.bin .add (.t 13) (.c (.int .i64 1))) (.op (some 13) (.mv (.t 66)) (.nil))))))
def c11_1 : AC := b11_1
@[simp] theorem e11_1 {Γ : Tab} {V : Nat → Bool} {ρ : Type} (k : AX → St → Option ρ) (s : St) : eval Γ c11_1 V ρ k s = eval Γ b11_1 V ρ k s := rfl
def c11 : AF := AF.mk 70 [.t 4] (.seq (.ops (.op (some 2) (.rbox (.t 0)) (.op (some 4) (.mv (.c (.bool false))) (.nil))))
 (.seq (.seq (.ops (.op (some 11) (.mv (.t 1)) (.op (some 12) (.len false (.t 11)) (.op (some 13) (.mv (.c (.int .i64 0))) (.nil)))))
 (.block 0 (.loop [13] [(4, 10), (13, 66)] [] [(.exit 0, []), (.ret, [4])] c11_1)))
 (.seq (.ops (.op (some 67) (.mv (.t 1)) (.op (some 68) (.len false (.t 67)) (.op (some 69) (.bin .leq (.t 68) (.c (.int .i64 16))) (.op (some 4) (.mv (.t 69)) (.nil))))))
 (.ret))))

theorem ok11 : okF Tryz.prog 11 c11 = true := by kernel_rfl

/-- catacomb/quota.May -/
def c12 : AF := AF.mk 17 [.t 10] (.seq (.ops (.op (some 5) (.box (.t 0)) (.op (some 6) (.box (.t 1)) (.op (some 8) (.box (.t 3)) (.op (some 9) (.box (.t 4)) (.op (some 10) (.mv (.c (.int .i64 0))) (.nil)))))))
 (.seq (.ops (.op (some 11) (.alloc [.int .i64 0]) (.op none (.store 1 (.t 11) (.c (.int .i64 0))) (.nil))))
 (.seq (.ops (.op (some 12) (.load 3 true (.t 5)) (.op (some 13) (.mv (.t 2)) (.op (some 14) (.mkf (.func 30) [] [(.t 6), (.t 5), (.t 8), (.t 9), (.t 11)]) (.op (some 15) (.call 29 [(.t 12), (.t 13), (.t 14)]) (.nil))))))
 (.seq (.ops (.op (some 16) (.load 1 false (.t 11)) (.op (some 10) (.mv (.t 16)) (.nil))))
 (.ret)))))

theorem ok12 : okF Tryz.prog 12 c12 = true := by kernel_rfl

/-- catacomb/tree.Un -/
def c13 : AF := AF.mk 51 [.cell 6 3 true, .t 7, .t 8] (.seq (.ops (.op (some 3) (.rbox (.t 0)) (.op (some 6) (.alloc [.lst true [], .int .i64 0, .int .i64 0]) (.op (some 7) (.mv (.c (.int .i64 0))) (.op (some 8) (.mv (.c (.int .i64 0))) (.nil))))))
 (.seq (.ops (.op (some 15) (.loadr 3 true (.t 3)) (.op (some 16) (.mv (.t 1)) (.op (some 17) (.mv (.t 2)) (.op (some 18) (.call 32 [(.t 15), (.t 16), (.t 17)]) (.op (some 14) (.mv (.t 18)) (.op (some 19) (.ext (.t 14) 0) (.op (some 20) (.ext (.t 14) 1) (.op (some 9) (.mv (.t 19)) (.op (some 10) (.mv (.t 20)) (.nil)))))))))))
 (.seq (.seq (.ops (.op (some 21) (.mv (.t 10)) (.op (some 22) (.bin .neq (.t 21) (.c (.int .i64 0))) (.nil))))
 (.cond (.t 22) (.seq (.ops (.op (some 23) (.loadr 3 true (.t 3)) (.op (some 24) (.mv (.t 10)) (.op none (.store 3 (.t 6) (.t 23)) (.op (some 7) (.mv (.c (.int .i64 0))) (.op (some 8) (.mv (.t 24)) (.nil)))))))
 (.ret)) (.skip)))
 (.seq (.ops (.op (some 25) (.loadr 3 true (.t 3)) (.op (some 26) (.build [.lst true [], .int .i64 0, .int .i64 0] [(0, 3, (.t 25))]) (.op (some 27) (.box (.t 26)) (.op (some 11) (.mv (.t 27)) (.nil))))))
 (.seq (.ops (.op (some 29) (.mv (.t 11)) (.op (some 30) (.mv (.t 9)) (.op (some 31) (.call 33 [(.t 29), (.t 30)]) (.op (some 28) (.mv (.t 31)) (.op (some 32) (.ext (.t 28) 0) (.op (some 33) (.ext (.t 28) 1) (.op (some 12) (.alloc [.int .i64 0, .int .i64 0, .int .i64 0, .lst true [], .lst true [], .int .i64 0]) (.op none (.store 6 (.t 12) (.t 32)) (.op (some 13) (.mv (.t 33)) (.nil)))))))))))
 (.seq (.seq (.ops (.op (some 34) (.fad 4 (.t 12)) (.op (some 35) (.load 1 false (.t 34)) (.op (some 36) (.len false (.t 35)) (.op (some 37) (.bin .gtr (.t 36) (.c (.int .i64 0))) (.nil))))))
 (.cond (.t 37) (.seq (.ops (.op (some 38) (.loadr 3 true (.t 3)) (.op none (.store 3 (.t 6) (.t 38)) (.op (some 7) (.mv (.c (.int .i64 0))) (.op (some 8) (.mv (.c (.int .i64 74))) (.nil))))))
 (.ret)) (.skip)))
 (.seq (.ops (.op (some 39) (.mv (.t 11)) (.op (some 40) (.mv (.t 1)) (.op (some 41) (.mv (.t 2)) (.op (some 42) (.call 34 [(.t 39), (.t 40), (.t 41)]) (.nil))))))
 (.seq (.ops (.op (some 43) (.mv (.t 11)) (.op (some 44) (.load 6 true (.t 12)) (.op (some 45) (.call 35 [(.t 43), (.t 44)]) (.nil)))))
 (.seq (.ops (.op (some 46) (.mv (.t 11)) (.op (some 47) (.nck (.t 46)) (.op (some 48) (.fad 0 (.t 47)) (.op (some 49) (.load 3 true (.t 48)) (.op (some 50) (.mv (.t 9)) (.op none (.store 3 (.t 6) (.t 49)) (.op (some 7) (.mv (.t 50)) (.op (some 8) (.mv (.c (.int .i64 0))) (.nil))))))))))
 (.ret))))))))))

theorem ok13 : okF Tryz.prog 13 c13 = true := by kernel_rfl

/-- catacomb/catacombref07.Get -/
def c14 : AF := AF.mk 18 [.cell 4 6 true, .t 5] (.seq (.ops (.op (some 2) (.rbox (.t 0)) (.op (some 4) (.alloc [.int .i64 0, .int .i64 0, .int .i64 0, .lst true [], .lst true [], .int .i64 0]) (.op (some 5) (.mv (.c (.bool false))) (.nil)))))
 (.seq (.ops (.op (some 7) (.loadr 3 true (.t 2)) (.op (some 8) (.mv (.t 1)) (.op (some 9) (.call 36 [(.t 7), (.t 8)]) (.op (some 6) (.mv (.t 9)) (.nil))))))
 (.seq (.seq (.ops (.op (some 10) (.mv (.t 6)) (.op (some 11) (.bin .lss (.t 10) (.c (.int .i64 0))) (.nil))))
 (.cond (.t 11) (.seq (.ops (.op (some 12) (.build [.int .i64 0, .int .i64 0, .int .i64 0, .lst true [], .lst true [], .int .i64 0] []) (.op none (.store 6 (.t 4) (.t 12)) (.op (some 5) (.mv (.c (.bool false))) (.nil)))))
 (.ret)) (.skip)))
 (.seq (.ops (.op (some 13) (.fad 0 (.t 2)) (.op (some 14) (.loadr 1 false (.t 13)) (.op (some 15) (.mv (.t 6)) (.op (some 16) (.iad 6 (.t 14) (.t 15)) (.op (some 17) (.load 6 true (.t 16)) (.op none (.store 6 (.t 4) (.t 17)) (.op (some 5) (.mv (.c (.bool true))) (.nil)))))))))
 (.ret)))))

theorem ok14 : okF Tryz.prog 14 c14 = true := by kernel_rfl

/-- catacomb/catacomblaw09.small -/
def c15 : AF := AF.mk 34 [.cell 0 3 true] (.seq (.ops (.op (some 0) (.alloc [.lst true [], .int .i64 0, .int .i64 0]) (.nil)))
 (.seq (.ops (.op (some 5) (.call 21 []) (.op (some 6) (.call 37 [(.t 5), (.c (.int .i64 1)), (.c (.str [97])), (.c (.int .i64 2))]) (.op (some 4) (.mv (.t 6)) (.op (some 7) (.ext (.t 4) 0) (.op (some 8) (.ext (.t 4) 1) (.op (some 9) (.ext (.t 4) 2) (.op (some 1) (.alloc [.lst true [], .int .i64 0, .int .i64 0]) (.op none (.store 3 (.t 1) (.t 7)) (.op (some 2) (.mv (.t 8)) (.op (some 3) (.mv (.t 9)) (.nil))))))))))))
 (.seq (.ops (.op (some 11) (.load 3 true (.t 1)) (.op (some 12) (.call 37 [(.t 11), (.c (.int .i64 2)), (.c (.str [102])), (.c (.int .i64 1))]) (.op (some 10) (.mv (.t 12)) (.op (some 13) (.ext (.t 10) 0) (.op (some 14) (.ext (.t 10) 1) (.op (some 15) (.ext (.t 10) 2) (.op none (.store 3 (.t 1) (.t 13)) (.nil)))))))))
 (.seq (.ops (.op (some 17) (.load 3 true (.t 1)) (.op (some 18) (.call 38 [(.t 17), (.c (.int .i64 3)), (.c (.int .i64 2)), (.c (.str [103]))]) (.op (some 16) (.mv (.t 18)) (.op (some 19) (.ext (.t 16) 0) (.op (some 20) (.ext (.t 16) 1) (.op none (.store 3 (.t 1) (.t 19)) (.nil))))))))
 (.seq (.ops (.op (some 22) (.load 3 true (.t 1)) (.op (some 23) (.call 37 [(.t 22), (.c (.int .i64 2)), (.c (.str [100])), (.c (.int .i64 2))]) (.op (some 21) (.mv (.t 23)) (.op (some 24) (.ext (.t 21) 0) (.op (some 25) (.ext (.t 21) 1) (.op (some 26) (.ext (.t 21) 2) (.op none (.store 3 (.t 1) (.t 24)) (.nil)))))))))
 (.seq (.ops (.op (some 28) (.load 3 true (.t 1)) (.op (some 29) (.bslh 1 (.int .u8 0) 5 [(0, (.c (.int .u8 1))), (1, (.c (.int .u8 2))), (2, (.c (.int .u8 3))), (3, (.c (.int .u8 4))), (4, (.c (.int .u8 5)))]) (.op (some 30) (.call 39 [(.t 28), (.c (.int .i64 3)), (.t 29)]) (.op (some 27) (.mv (.t 30)) (.op (some 31) (.ext (.t 27) 0) (.op (some 32) (.ext (.t 27) 1) (.op none (.store 3 (.t 1) (.t 31)) (.nil)))))))))
 (.seq (.ops (.op (some 33) (.load 3 true (.t 1)) (.op none (.store 3 (.t 0) (.t 33)) (.nil))))
 (.ret))))))))

theorem ok15 : okF Tryz.prog 15 c15 = true := by kernel_rfl

/-- catacomb/quota.Used -/
def c16 : AF := AF.mk 31 [.t 4, .t 5] (.seq (.ops (.op (some 2) (.box (.t 0)) (.op (some 4) (.mv (.c (.int .i64 0))) (.op (some 5) (.mv (.c (.int .i64 0))) (.nil)))))
 (.seq (.ops (.op (some 11) (.mkm) (.op (some 6) (.alloc [.nilm]) (.op none (.store 1 (.t 6) (.t 11)) (.nil)))))
 (.seq (.ops (.op (some 7) (.alloc [.int .i64 0]) (.op none (.store 1 (.t 7) (.c (.int .i64 0))) (.nil))))
 (.seq (.ops (.op (some 8) (.alloc [.nilf]) (.nil)))
 (.seq (.ops (.op (some 12) (.mkf (.func 40) [] [(.t 2), (.t 7), (.t 6), (.t 8)]) (.op none (.store 1 (.t 8) (.t 12)) (.nil))))
 (.seq (.seq (.ops (.op (some 14) (.load 3 true (.t 2)) (.op (some 15) (.mv (.t 1)) (.op (some 16) (.call 28 [(.t 14), (.t 15)]) (.op (some 13) (.mv (.t 16)) (.op (some 17) (.ext (.t 13) 0) (.op (some 18) (.ext (.t 13) 1) (.op (some 9) (.alloc [.int .i64 0, .int .i64 0, .int .i64 0, .lst true [], .lst true [], .int .i64 0]) (.op none (.store 6 (.t 9) (.t 17)) (.op (some 10) (.mv (.t 18)) (.nil)))))))))))
 (.seq (.ops (.op (some 19) (.mv (.t 10)) (.op (some 20) (.mv (.t 19)) (.sc 24 true 20 21 23 (.op (some 21) (.fad 1 (.t 9)) (.op (some 22) (.load 1 false (.t 21)) (.op (some 23) (.bin .eql (.t 22) (.c (.int .i64 2))) (.nil)))) (.t 23) (.nil)))))
 (.cond (.t 24) (.ops (.op (some 25) (.load 1 false (.t 8)) (.op (some 26) (.mv (.t 1)) (.op (some 27) (.callv (.t 25) [(.t 26)]) (.nil))))) (.skip))))
 (.seq (.ops (.op (some 28) (.load 1 false (.t 6)) (.op (some 29) (.mlen (.t 28)) (.op (some 30) (.load 1 false (.t 7)) (.op (some 4) (.mv (.t 29)) (.op (some 5) (.mv (.t 30)) (.nil)))))))
 (.ret))))))))

theorem ok16 : okF Tryz.prog 16 c16 = true := by kernel_rfl

/-- catacomb/quota.Set -/
def c17 : AF := AF.mk 88 [.t 10, .t 11] (.seq (.ops (.op (some 5) (.rbox (.t 0)) (.op (some 10) (.mv (.c (.lst true []))) (.op (some 11) (.mv (.c (.int .i64 0))) (.nil)))))
 (.seq (.ops (.op (some 20) (.loadr 3 true (.t 5)) (.op (some 21) (.mv (.t 2)) (.op (some 22) (.call 28 [(.t 20), (.t 21)]) (.op (some 19) (.mv (.t 22)) (.op (some 23) (.ext (.t 19) 0) (.op (some 24) (.ext (.t 19) 1) (.op (some 12) (.alloc [.int .i64 0, .int .i64 0, .int .i64 0, .lst true [], .lst true [], .int .i64 0]) (.op none (.store 6 (.t 12) (.t 23)) (.op (some 13) (.mv (.t 24)) (.nil)))))))))))
 (.seq (.seq (.ops (.op (some 25) (.mv (.t 13)) (.op (some 26) (.un .not (.t 25)) (.nil))))
 (.cond (.t 26) (.seq (.ops (.op (some 27) (.mv (.t 1)) (.op (some 10) (.mv (.t 27)) (.op (some 11) (.mv (.c (.int .i64 70))) (.nil)))))
 (.ret)) (.skip)))
 (.seq (.seq (.ops (.op (some 28) (.fad 1 (.t 12)) (.op (some 29) (.load 1 false (.t 28)) (.op (some 30) (.bin .neq (.t 29) (.c (.int .i64 2))) (.nil)))))
 (.cond (.t 30) (.seq (.ops (.op (some 31) (.mv (.t 1)) (.op (some 10) (.mv (.t 31)) (.op (some 11) (.mv (.c (.int .i64 73))) (.nil)))))
 (.ret)) (.skip)))
 (.seq (.ops (.op (some 33) (.mv (.t 1)) (.op (some 34) (.mv (.t 2)) (.op (some 35) (.call 31 [(.t 33), (.t 34)]) (.op (some 32) (.mv (.t 35)) (.op (some 36) (.ext (.t 32) 0) (.op (some 37) (.ext (.t 32) 1) (.op (some 14) (.mv (.t 36)) (.op (some 15) (.mv (.t 37)) (.nil))))))))))
 (.seq (.seq (.ops (.op (some 38) (.mv (.t 3)) (.op (some 39) (.bin .lss (.t 38) (.c (.int .i64 0))) (.nil))))
 (.cond (.t 39) (.seq (.seq (.ops (.op (some 40) (.mv (.t 15)) (.nil)))
 (.cond (.t 40) (.ops (.op (some 41) (.mv (.t 1)) (.op (some 42) (.call 42 [(.t 41)]) (.op (some 43) (.mv (.t 14)) (.op (some 44) (.mv (.t 14)) (.op (some 45) (.bin .add (.t 44) (.c (.int .i64 1))) (.op (some 46) (.call 41 [(.t 42), (.t 43), (.t 45)]) (.op (some 1) (.mv (.t 46)) (.nil))))))))) (.skip)))
 (.seq (.ops (.op (some 47) (.mv (.t 1)) (.op (some 10) (.mv (.t 47)) (.op (some 11) (.mv (.c (.int .i64 0))) (.nil)))))
 (.ret))) (.skip)))
 (.seq (.ops (.op (some 48) (.mv (.t 2)) (.op (some 49) (.mv (.t 3)) (.op (some 50) (.mv (.t 4)) (.op (some 51) (.build [.int .i64 0, .int .i64 0, .int .i64 0] [(0, 1, (.t 48)), (1, 1, (.t 49)), (2, 1, (.t 50))]) (.op (some 16) (.alloc [.int .i64 0, .int .i64 0, .int .i64 0]) (.op none (.store 3 (.t 16) (.t 51)) (.nil))))))))
 (.seq (.seq (.ops (.op (some 53) (.loadr 3 true (.t 5)) (.op (some 54) (.mv (.t 2)) (.op (some 55) (.call 16 [(.t 53), (.t 54)]) (.op (some 52) (.mv (.t 55)) (.op (some 56) (.ext (.t 52) 0) (.op (some 57) (.ext (.t 52) 1) (.op (some 17) (.mv (.t 56)) (.op (some 18) (.mv (.t 57)) (.nil))))))))))
 (.block 0 (.seq (.ops (.op (some 59) (.mv (.t 17)) (.op (some 60) (.mv (.t 3)) (.op (some 61) (.bin .gtr (.t 59) (.t 60)) (.op (some 62) (.mv (.t 61)) (.sc 66 false 62 63 65 (.op (some 63) (.mv (.t 18)) (.op (some 64) (.mv (.t 4)) (.op (some 65) (.bin .gtr (.t 63) (.t 64)) (.nil)))) (.t 65) (.op (some 58) (.mv (.t 66)) (.nil))))))))
 (.cond (.t 58) (.seq (.ops (.op (some 67) (.mv (.t 1)) (.op (some 10) (.mv (.t 67)) (.op (some 11) (.mv (.c (.int .i64 90))) (.nil)))))
 (.ret)) (.seq (.ops (.op (some 69) (.mv (.t 15)) (.op (some 68) (.mv (.t 69)) (.nil))))
 (.cond (.t 68) (.seq (.ops (.op (some 70) (.mv (.t 1)) (.op (some 71) (.call 42 [(.t 70)]) (.op (some 1) (.mv (.t 71)) (.nil)))))
 (.seq (.ops (.op (some 72) (.mv (.t 1)) (.op (some 73) (.mv (.t 14)) (.op (some 74) (.load 3 true (.t 16)) (.op (some 75) (.iad 3 (.t 72) (.t 73)) (.op none (.store 3 (.t 75) (.t 74)) (.nil)))))))
 (.seq (.ops (.op (some 76) (.mv (.t 1)) (.op (some 10) (.mv (.t 76)) (.op (some 11) (.mv (.c (.int .i64 0))) (.nil)))))
 (.ret)))) (.seq (.ops (.op (some 78) (.mv (.t 1)) (.op (some 79) (.len false (.t 78)) (.op (some 80) (.bin .geq (.t 79) (.c (.int .i64 16))) (.op (some 77) (.mv (.t 80)) (.nil))))))
 (.cond (.t 77) (.seq (.ops (.op (some 81) (.mv (.t 1)) (.op (some 10) (.mv (.t 81)) (.op (some 11) (.mv (.c (.int .i64 76))) (.nil)))))
 (.ret)) (.skip)))))))))
 (.seq (.ops (.op (some 82) (.mv (.t 1)) (.op (some 83) (.calla 42 [(.t 82)]) (.op (some 84) (.mv (.t 14)) (.op (some 85) (.load 3 true (.t 16)) (.op (some 86) (.bsl 3 (.agg [.int .i64 0, .int .i64 0, .int .i64 0]) 1 [(0, (.t 85))]) (.op (some 87) (.call 43 [(.t 83), (.t 84), (.t 86)]) (.op (some 10) (.mv (.t 87)) (.op (some 11) (.mv (.c (.int .i64 0))) (.nil))))))))))
 (.ret))))))))))

theorem ok17 : okF Tryz.prog 17 c17 = true := by kernel_rfl

/-- catacomb/catacombref09.Same -/
def b18_1 : AC := .seq (.seq (.ops (.op (some 11) (.mv (.t 5)) (.op (some 12) (.mv (.t 0)) (.op (some 13) (.len false (.t 12)) (.op (some 14) (.bin .lss (.t 11) (.t 13)) (.nil))))))
 (.cond (.t 14) (.skip) (.exit 0)))
 (.seq (.block 1 (.seq (.ops (.op (some 17) (.mv (.t 0)) (.op (some 18) (.mv (.t 5)) (.op (some 19) (.iad 3 (.t 17) (.t 18)) (.op (some 20) (.load 3 true (.t 19)) (.op (some 21) (.mv (.t 1)) (.op (some 22) (.mv (.t 5)) (.op (some 23) (.iad 3 (.t 21) (.t 22)) (.op (some 24) (.load 3 true (.t 23)) (.op (some 25) (.seq true [0, 0, 0] (.t 20) (.t 24)) (.nil)))))))))))
 (.cond (.t 25) (.seq (.ops (.op (some 4) (.mv (.c (.bool false))) (.nil)))
 (.ret)) (.skip))))
 (.ops (.op (some 15) (.mv (.t 5)) (.op (some 16) (.bin .add (.t 15) (.c (.int .i64 1))) (.op (some 5) (.mv (.t 16)) (.nil))))))
def c18_1 : AC := b18_1
@[simp] theorem e18_1 {Γ : Tab} {V : Nat → Bool} {ρ : Type} (k : AX → St → Option ρ) (s : St) : eval Γ c18_1 V ρ k s = eval Γ b18_1 V ρ k s := rfl
def c18 : AF := AF.mk 26 [.t 4] (.seq (.ops (.op (some 4) (.mv (.c (.bool false))) (.nil)))
 (.seq (.seq (.ops (.op (some 6) (.mv (.t 0)) (.op (some 7) (.len false (.t 6)) (.op (some 8) (.mv (.t 1)) (.op (some 9) (.len false (.t 8)) (.op (some 10) (.bin .neq (.t 7) (.t 9)) (.nil)))))))
 (.cond (.t 10) (.seq (.ops (.op (some 4) (.mv (.c (.bool false))) (.nil)))
 (.ret)) (.skip)))
 (.seq (.seq (.ops (.op (some 5) (.mv (.c (.int .i64 0))) (.nil)))
 (.block 0 (.loop [5] [(4, 5), (11, 25)] [] [(.exit 0, []), (.ret, [4])] c18_1)))
 (.seq (.ops (.op (some 4) (.mv (.c (.bool true))) (.nil)))
 (.ret)))))

theorem ok18 : okF Tryz.prog 18 c18 = true := by kernel_rfl

/-- catacomb/quota.Domain -/
def c19 : AF := AF.mk 13 [.t 6] (.seq (.ops (.op (some 3) (.rbox (.t 0)) (.op (some 4) (.box (.t 1)) (.op (some 6) (.mv (.c (.int .i64 0))) (.nil)))))
 (.seq (.ops (.op (some 7) (.alloc [.int .i64 0]) (.op none (.store 1 (.t 7) (.c (.int .i64 0))) (.nil))))
 (.seq (.ops (.op (some 8) (.loadr 3 true (.t 3)) (.op (some 9) (.mv (.t 2)) (.op (some 10) (.mkf (.func 44) [] [(.t 4), (.t 7)]) (.op (some 11) (.call 29 [(.t 8), (.t 9), (.t 10)]) (.nil))))))
 (.seq (.ops (.op (some 12) (.load 1 false (.t 7)) (.op (some 6) (.mv (.t 12)) (.nil))))
 (.ret)))))

theorem ok19 : okF Tryz.prog 19 c19 = true := by kernel_rfl

/-- catacomb/quota.Cross -/
def c20 : AF := AF.mk 18 [.t 8] (.seq (.ops (.op (some 4) (.rbox (.t 0)) (.op (some 8) (.mv (.c (.bool false))) (.nil))))
 (.seq (.ops (.op (some 9) (.loadr 3 true (.t 4)) (.op (some 10) (.mv (.t 1)) (.op (some 11) (.mv (.t 2)) (.op (some 12) (.callp 19 [(.t 9), (.t 10), (.t 11)]) (.op (some 13) (.loadr 3 true (.t 4)) (.op (some 14) (.mv (.t 1)) (.op (some 15) (.mv (.t 3)) (.op (some 16) (.callp 19 [(.t 13), (.t 14), (.t 15)]) (.op (some 17) (.bin .neq (.t 12) (.t 16)) (.op (some 8) (.mv (.t 17)) (.nil))))))))))))
 (.ret)))

theorem ok20 : okF Tryz.prog 20 c20 = true := by kernel_rfl

/-- catacomb/catacombref07.New -/
def c21 : AF := AF.mk 4 [.cell 0 3 true] (.seq (.ops (.op (some 0) (.alloc [.lst true [], .int .i64 0, .int .i64 0]) (.nil)))
 (.seq (.ops (.op (some 1) (.build [.int .i64 0, .int .i64 0, .int .i64 0, .lst true [], .lst true [], .int .i64 0] [(0, 1, (.c (.int .i64 1))), (1, 1, (.c (.int .i64 2))), (5, 1, (.c (.int .i64 1)))]) (.op (some 2) (.bslh 6 (.agg [.int .i64 0, .int .i64 0, .int .i64 0, .lst true [], .lst true [], .int .i64 0]) 1 [(0, (.t 1))]) (.op (some 3) (.build [.lst true [], .int .i64 0, .int .i64 0] [(0, 1, (.t 2)), (1, 1, (.c (.int .i64 2))), (2, 1, (.c (.int .i64 1)))]) (.op none (.store 3 (.t 0) (.t 3)) (.nil))))))
 (.ret)))

theorem ok21 : okF Tryz.prog 21 c21 = true := by kernel_rfl

/-- catacomb/catacomblaw07.Done -/
def c22 : AF := AF.mk 123 [.cell 4 3 true, .t 5, .t 6] (.seq (.ops (.op (some 2) (.rbox (.t 0)) (.op (some 3) (.rbox (.t 1)) (.op (some 4) (.alloc [.lst true [], .int .i64 0, .int .i64 0]) (.op (some 5) (.mv (.c (.int .i64 0))) (.op (some 6) (.mv (.c (.int .i64 0))) (.nil)))))))
 (.seq (.ops (.op (some 26) (.loadr 3 true (.t 2)) (.op (some 27) (.fad 1 (.t 3)) (.op (some 28) (.loadr 1 false (.t 27)) (.op (some 29) (.call 24 [(.t 26), (.t 28)]) (.op (some 7) (.mv (.t 29)) (.nil)))))))
 (.seq (.ops (.op (some 30) (.loadr 3 true (.t 2)) (.op (some 31) (.fad 2 (.t 3)) (.op (some 32) (.loadr 1 false (.t 31)) (.op (some 33) (.call 24 [(.t 30), (.t 32)]) (.op (some 8) (.mv (.t 33)) (.nil)))))))
 (.seq (.ops (.op (some 34) (.fad 3 (.t 3)) (.op (some 35) (.loadr 1 false (.t 34)) (.op (some 36) (.call 10 [(.t 35)]) (.op (some 9) (.mv (.t 36)) (.nil))))))
 (.seq (.ops (.op (some 37) (.fad 4 (.t 3)) (.op (some 38) (.loadr 1 false (.t 37)) (.op (some 39) (.call 10 [(.t 38)]) (.op (some 10) (.mv (.t 39)) (.nil))))))
 (.seq (.seq (.ops (.op (some 40) (.fad 0 (.t 3)) (.op (some 41) (.loadr 1 false (.t 40)) (.op (some 42) (.bin .rem (.t 41) (.c (.int .u8 8))) (.nil)))))
 (.block 0 (.seq (.seq (.ops (.op (some 44) (.bin .eql (.t 42) (.c (.int .u8 0))) (.op (some 43) (.mv (.t 44)) (.nil))))
 (.cond (.t 43) (.skip) (.ops (.op (some 45) (.bin .eql (.t 42) (.c (.int .u8 1))) (.op (some 43) (.mv (.t 45)) (.nil))))))
 (.cond (.t 43) (.seq (.ops (.op (some 47) (.loadr 3 true (.t 2)) (.op (some 48) (.mv (.t 7)) (.op (some 49) (.mv (.t 9)) (.op (some 50) (.fad 4 (.t 3)) (.op (some 51) (.loadr 1 false (.t 50)) (.op (some 52) (.conv .i64 (.t 51)) (.op (some 53) (.bin .rem (.t 52) (.c (.int .i64 2))) (.op (some 54) (.bin .add (.t 53) (.c (.int .i64 1))) (.op (some 55) (.call 37 [(.t 47), (.t 48), (.t 49), (.t 54)]) (.op (some 46) (.mv (.t 55)) (.op (some 56) (.ext (.t 46) 0) (.op (some 57) (.ext (.t 46) 1) (.op (some 58) (.ext (.t 46) 2) (.op (some 11) (.alloc [.lst true [], .int .i64 0, .int .i64 0]) (.op none (.store 3 (.t 11) (.t 56)) (.op (some 12) (.mv (.t 57)) (.op (some 13) (.mv (.t 58)) (.nil)))))))))))))))))))
 (.seq (.ops (.op (some 59) (.load 3 true (.t 11)) (.op (some 60) (.mv (.t 12)) (.op (some 61) (.mv (.t 13)) (.op none (.store 3 (.t 4) (.t 59)) (.op (some 5) (.mv (.t 60)) (.op (some 6) (.mv (.t 61)) (.nil))))))))
 (.ret))) (.seq (.ops (.op (some 63) (.bin .eql (.t 42) (.c (.int .u8 2))) (.op (some 62) (.mv (.t 63)) (.nil))))
 (.cond (.t 62) (.seq (.ops (.op (some 65) (.loadr 3 true (.t 2)) (.op (some 66) (.mv (.t 8)) (.op (some 67) (.mv (.t 7)) (.op (some 68) (.mv (.t 9)) (.op (some 69) (.call 38 [(.t 65), (.t 66), (.t 67), (.t 68)]) (.op (some 64) (.mv (.t 69)) (.op (some 70) (.ext (.t 64) 0) (.op (some 71) (.ext (.t 64) 1) (.op (some 14) (.alloc [.lst true [], .int .i64 0, .int .i64 0]) (.op none (.store 3 (.t 14) (.t 70)) (.op (some 15) (.mv (.t 71)) (.nil)))))))))))))
 (.seq (.ops (.op (some 72) (.load 3 true (.t 14)) (.op (some 73) (.mv (.t 15)) (.op none (.store 3 (.t 4) (.t 72)) (.op (some 5) (.mv (.c (.int .i64 0))) (.op (some 6) (.mv (.t 73)) (.nil)))))))
 (.ret))) (.seq (.ops (.op (some 75) (.bin .eql (.t 42) (.c (.int .u8 3))) (.op (some 74) (.mv (.t 75)) (.nil))))
 (.cond (.t 74) (.seq (.ops (.op (some 77) (.loadr 3 true (.t 2)) (.op (some 78) (.mv (.t 7)) (.op (some 79) (.mv (.t 9)) (.op (some 80) (.call 45 [(.t 77), (.t 78), (.t 79)]) (.op (some 76) (.mv (.t 80)) (.op (some 81) (.ext (.t 76) 0) (.op (some 82) (.ext (.t 76) 1) (.op (some 83) (.ext (.t 76) 2) (.op (some 16) (.alloc [.lst true [], .int .i64 0, .int .i64 0]) (.op none (.store 3 (.t 16) (.t 81)) (.op (some 17) (.mv (.t 82)) (.op (some 18) (.mv (.t 83)) (.nil))))))))))))))
 (.seq (.ops (.op (some 84) (.load 3 true (.t 16)) (.op (some 85) (.mv (.t 17)) (.op (some 86) (.mv (.t 18)) (.op none (.store 3 (.t 4) (.t 84)) (.op (some 5) (.mv (.t 85)) (.op (some 6) (.mv (.t 86)) (.nil))))))))
 (.ret))) (.seq (.seq (.ops (.op (some 88) (.bin .eql (.t 42) (.c (.int .u8 4))) (.op (some 87) (.mv (.t 88)) (.nil))))
 (.cond (.t 87) (.skip) (.ops (.op (some 89) (.bin .eql (.t 42) (.c (.int .u8 5))) (.op (some 87) (.mv (.t 89)) (.nil))))))
 (.cond (.t 87) (.seq (.ops (.op (some 91) (.loadr 3 true (.t 2)) (.op (some 92) (.mv (.t 7)) (.op (some 93) (.mv (.t 9)) (.op (some 94) (.mv (.t 8)) (.op (some 95) (.mv (.t 10)) (.op (some 96) (.call 46 [(.t 91), (.t 92), (.t 93), (.t 94), (.t 95)]) (.op (some 90) (.mv (.t 96)) (.op (some 97) (.ext (.t 90) 0) (.op (some 98) (.ext (.t 90) 1) (.op (some 99) (.ext (.t 90) 2) (.op (some 19) (.alloc [.lst true [], .int .i64 0, .int .i64 0]) (.op none (.store 3 (.t 19) (.t 97)) (.op (some 20) (.mv (.t 98)) (.op (some 21) (.mv (.t 99)) (.nil))))))))))))))))
 (.seq (.ops (.op (some 100) (.load 3 true (.t 19)) (.op (some 101) (.mv (.t 20)) (.op (some 102) (.mv (.t 21)) (.op none (.store 3 (.t 4) (.t 100)) (.op (some 5) (.mv (.t 101)) (.op (some 6) (.mv (.t 102)) (.nil))))))))
 (.ret))) (.seq (.ops (.op (some 104) (.bin .eql (.t 42) (.c (.int .u8 6))) (.op (some 103) (.mv (.t 104)) (.nil))))
 (.cond (.t 103) (.seq (.ops (.op (some 106) (.loadr 3 true (.t 2)) (.op (some 107) (.mv (.t 7)) (.op (some 108) (.fad 5 (.t 3)) (.op (some 109) (.loadr 1 false (.t 108)) (.op (some 110) (.call 39 [(.t 106), (.t 107), (.t 109)]) (.op (some 105) (.mv (.t 110)) (.op (some 111) (.ext (.t 105) 0) (.op (some 112) (.ext (.t 105) 1) (.op (some 22) (.alloc [.lst true [], .int .i64 0, .int .i64 0]) (.op none (.store 3 (.t 22) (.t 111)) (.op (some 23) (.mv (.t 112)) (.nil)))))))))))))
 (.seq (.ops (.op (some 113) (.load 3 true (.t 22)) (.op (some 114) (.mv (.t 23)) (.op none (.store 3 (.t 4) (.t 113)) (.op (some 5) (.mv (.c (.int .i64 0))) (.op (some 6) (.mv (.t 114)) (.nil)))))))
 (.ret))) (.skip)))))))))))))
 (.seq (.ops (.op (some 116) (.loadr 3 true (.t 2)) (.op (some 117) (.mv (.t 7)) (.op (some 118) (.call 47 [(.t 116), (.t 117)]) (.op (some 115) (.mv (.t 118)) (.op (some 119) (.ext (.t 115) 0) (.op (some 120) (.ext (.t 115) 1) (.op (some 24) (.alloc [.lst true [], .int .i64 0, .int .i64 0]) (.op none (.store 3 (.t 24) (.t 119)) (.op (some 25) (.mv (.t 120)) (.nil)))))))))))
 (.seq (.ops (.op (some 121) (.load 3 true (.t 24)) (.op (some 122) (.mv (.t 25)) (.op none (.store 3 (.t 4) (.t 121)) (.op (some 5) (.mv (.c (.int .i64 0))) (.op (some 6) (.mv (.t 122)) (.nil)))))))
 (.ret)))))))))

theorem ok22 : okF Tryz.prog 22 c22 = true := by kernel_rfl

/-- catacomb/catacombref09.Set -/
def b23_1 : AC := .seq (.seq (.ops (.op (some 70) (.mv (.t 19)) (.op (some 71) (.mv (.t 1)) (.op (some 72) (.len false (.t 71)) (.op (some 73) (.bin .lss (.t 70) (.t 72)) (.nil))))))
 (.cond (.t 73) (.skip) (.exit 0)))
 (.seq (.block 1 (.seq (.seq (.ops (.op (some 76) (.mv (.t 18)) (.op (some 77) (.un .not (.t 76)) (.op (some 78) (.mv (.t 77)) (.sc 86 true 78 79 85 (.op (some 79) (.mv (.t 1)) (.op (some 80) (.mv (.t 19)) (.op (some 81) (.iad 3 (.t 79) (.t 80)) (.op (some 82) (.fad 0 (.t 81)) (.op (some 83) (.load 1 false (.t 82)) (.op (some 84) (.mv (.t 2)) (.op (some 85) (.bin .geq (.t 83) (.t 84)) (.nil)))))))) (.t 85) (.nil))))))
 (.cond (.t 86) (.seq (.ops (.op (some 87) (.mv (.t 17)) (.op (some 88) (.mv (.t 2)) (.op (some 89) (.mv (.t 3)) (.op (some 90) (.mv (.t 4)) (.op (some 91) (.build [.int .i64 0, .int .i64 0, .int .i64 0] [(0, 1, (.t 88)), (1, 1, (.t 89)), (2, 1, (.t 90))]) (.op (some 92) (.bslh 3 (.agg [.int .i64 0, .int .i64 0, .int .i64 0]) 1 [(0, (.t 91))]) (.op (some 93) (.app 3 24 (.t 87) (.t 92)) (.op (some 17) (.mv (.t 93)) (.nil))))))))))
 (.ops (.op (some 18) (.mv (.c (.bool true))) (.nil)))) (.skip)))
 (.seq (.ops (.op (some 94) (.mv (.t 1)) (.op (some 95) (.mv (.t 19)) (.op (some 96) (.iad 3 (.t 94) (.t 95)) (.op (some 97) (.fad 0 (.t 96)) (.op (some 98) (.load 1 false (.t 97)) (.op (some 99) (.mv (.t 2)) (.op (some 100) (.bin .neq (.t 98) (.t 99)) (.nil)))))))))
 (.cond (.t 100) (.ops (.op (some 101) (.mv (.t 17)) (.op (some 102) (.mv (.t 1)) (.op (some 103) (.mv (.t 19)) (.op (some 104) (.iad 3 (.t 102) (.t 103)) (.op (some 105) (.load 3 true (.t 104)) (.op (some 106) (.bslh 3 (.agg [.int .i64 0, .int .i64 0, .int .i64 0]) 1 [(0, (.t 105))]) (.op (some 107) (.app 3 24 (.t 101) (.t 106)) (.op (some 17) (.mv (.t 107)) (.nil)))))))))) (.skip)))))
 (.ops (.op (some 74) (.mv (.t 19)) (.op (some 75) (.bin .add (.t 74) (.c (.int .i64 1))) (.op (some 19) (.mv (.t 75)) (.nil))))))
def c23_1 : AC := b23_1
@[simp] theorem e23_1 {Γ : Tab} {V : Nat → Bool} {ρ : Type} (k : AX → St → Option ρ) (s : St) : eval Γ c23_1 V ρ k s = eval Γ b23_1 V ρ k s := rfl
def c23 : AF := AF.mk 118 [.t 10, .t 11] (.seq (.ops (.op (some 5) (.rbox (.t 0)) (.op (some 10) (.mv (.c (.lst true []))) (.op (some 11) (.mv (.c (.int .i64 0))) (.nil)))))
 (.seq (.ops (.op (some 21) (.loadr 3 true (.t 5)) (.op (some 22) (.mv (.t 2)) (.op (some 23) (.call 14 [(.t 21), (.t 22)]) (.op (some 20) (.mv (.t 23)) (.op (some 24) (.ext (.t 20) 0) (.op (some 25) (.ext (.t 20) 1) (.op (some 12) (.alloc [.int .i64 0, .int .i64 0, .int .i64 0, .lst true [], .lst true [], .int .i64 0]) (.op none (.store 6 (.t 12) (.t 24)) (.op (some 13) (.mv (.t 25)) (.nil)))))))))))
 (.seq (.seq (.ops (.op (some 26) (.mv (.t 13)) (.op (some 27) (.un .not (.t 26)) (.nil))))
 (.cond (.t 27) (.seq (.ops (.op (some 28) (.mv (.t 1)) (.op (some 10) (.mv (.t 28)) (.op (some 11) (.mv (.c (.int .i64 70))) (.nil)))))
 (.ret)) (.skip)))
 (.seq (.ops (.op (some 29) (.loadr 3 true (.t 5)) (.op (some 30) (.mv (.t 2)) (.op (some 31) (.call 48 [(.t 29), (.t 30)]) (.op (some 14) (.mv (.t 31)) (.nil))))))
 (.seq (.seq (.ops (.op (some 32) (.mv (.t 14)) (.op (some 33) (.un .not (.t 32)) (.nil))))
 (.cond (.t 33) (.seq (.ops (.op (some 34) (.mv (.t 1)) (.op (some 10) (.mv (.t 34)) (.op (some 11) (.mv (.c (.int .i64 73))) (.nil)))))
 (.ret)) (.skip)))
 (.seq (.ops (.op (some 36) (.loadr 3 true (.t 5)) (.op (some 37) (.mv (.t 2)) (.op (some 38) (.call 49 [(.t 36), (.t 37)]) (.op (some 35) (.mv (.t 38)) (.op (some 39) (.ext (.t 35) 0) (.op (some 40) (.ext (.t 35) 1) (.op (some 15) (.mv (.t 39)) (.op (some 16) (.mv (.t 40)) (.nil))))))))))
 (.seq (.seq (.ops (.op (some 41) (.mv (.t 3)) (.op (some 42) (.bin .geq (.t 41) (.c (.int .i64 0))) (.op (some 43) (.mv (.t 42)) (.sc 52 true 43 44 51 (.op (some 44) (.mv (.t 15)) (.op (some 45) (.mv (.t 3)) (.op (some 46) (.bin .gtr (.t 44) (.t 45)) (.op (some 47) (.mv (.t 46)) (.sc 51 false 47 48 50 (.op (some 48) (.mv (.t 16)) (.op (some 49) (.mv (.t 4)) (.op (some 50) (.bin .gtr (.t 48) (.t 49)) (.nil)))) (.t 50) (.nil)))))) (.t 51) (.nil))))))
 (.cond (.t 52) (.seq (.ops (.op (some 53) (.mv (.t 1)) (.op (some 10) (.mv (.t 53)) (.op (some 11) (.mv (.c (.int .i64 90))) (.nil)))))
 (.ret)) (.skip)))
 (.seq (.seq (.ops (.op (some 54) (.mv (.t 3)) (.op (some 55) (.bin .geq (.t 54) (.c (.int .i64 0))) (.op (some 56) (.mv (.t 55)) (.sc 61 true 56 57 60 (.op (some 57) (.mv (.t 1)) (.op (some 58) (.mv (.t 2)) (.op (some 59) (.call 50 [(.t 57), (.t 58)]) (.op (some 60) (.bin .lss (.t 59) (.c (.int .i64 0))) (.nil))))) (.t 60) (.op (some 62) (.mv (.t 61)) (.sc 66 true 62 63 65 (.op (some 63) (.mv (.t 1)) (.op (some 64) (.len false (.t 63)) (.op (some 65) (.bin .geq (.t 64) (.c (.int .i64 16))) (.nil)))) (.t 65) (.nil))))))))
 (.cond (.t 66) (.seq (.ops (.op (some 67) (.mv (.t 1)) (.op (some 10) (.mv (.t 67)) (.op (some 11) (.mv (.c (.int .i64 76))) (.nil)))))
 (.ret)) (.skip)))
 (.seq (.ops (.op (some 17) (.mv (.c (.lst true []))) (.nil)))
 (.seq (.ops (.op (some 68) (.mv (.t 3)) (.op (some 69) (.bin .lss (.t 68) (.c (.int .i64 0))) (.op (some 18) (.mv (.t 69)) (.nil)))))
 (.seq (.seq (.ops (.op (some 19) (.mv (.c (.int .i64 0))) (.nil)))
 (.block 0 (.loop [17, 18, 19] [(17, 19), (70, 107)] [(17, 3)] [(.exit 0, [17, 18])] c23_1)))
 (.seq (.seq (.ops (.op (some 108) (.mv (.t 18)) (.op (some 109) (.un .not (.t 108)) (.nil))))
 (.cond (.t 109) (.ops (.op (some 110) (.mv (.t 17)) (.op (some 111) (.mv (.t 2)) (.op (some 112) (.mv (.t 3)) (.op (some 113) (.mv (.t 4)) (.op (some 114) (.build [.int .i64 0, .int .i64 0, .int .i64 0] [(0, 1, (.t 111)), (1, 1, (.t 112)), (2, 1, (.t 113))]) (.op (some 115) (.bslh 3 (.agg [.int .i64 0, .int .i64 0, .int .i64 0]) 1 [(0, (.t 114))]) (.op (some 116) (.app 3 24 (.t 110) (.t 115)) (.op (some 17) (.mv (.t 116)) (.nil)))))))))) (.skip)))
 (.seq (.ops (.op (some 117) (.mv (.t 17)) (.op (some 10) (.mv (.t 117)) (.op (some 11) (.mv (.c (.int .i64 0))) (.nil)))))
 (.ret))))))))))))))

theorem ok23 : okF Tryz.prog 23 c23 = true := by kernel_rfl

/-- catacomb/catacomblaw07.Node -/
def c24 : AF := AF.mk 26 [.t 4] (.seq (.ops (.op (some 2) (.rbox (.t 0)) (.op (some 4) (.mv (.c (.int .i64 0))) (.nil))))
 (.seq (.ops (.op (some 6) (.mv (.t 1)) (.op (some 7) (.conv .i64 (.t 6)) (.op (some 8) (.fad 0 (.t 2)) (.op (some 9) (.loadr 1 false (.t 8)) (.op (some 10) (.len false (.t 9)) (.op (some 11) (.bin .add (.t 10) (.c (.int .i64 1))) (.op (some 12) (.bin .rem (.t 7) (.t 11)) (.op (some 5) (.mv (.t 12)) (.nil))))))))))
 (.seq (.seq (.ops (.op (some 13) (.mv (.t 5)) (.op (some 14) (.fad 0 (.t 2)) (.op (some 15) (.loadr 1 false (.t 14)) (.op (some 16) (.len false (.t 15)) (.op (some 17) (.bin .lss (.t 13) (.t 16)) (.nil)))))))
 (.cond (.t 17) (.seq (.ops (.op (some 18) (.fad 0 (.t 2)) (.op (some 19) (.loadr 1 false (.t 18)) (.op (some 20) (.mv (.t 5)) (.op (some 21) (.iad 6 (.t 19) (.t 20)) (.op (some 22) (.fad 0 (.t 21)) (.op (some 23) (.load 1 false (.t 22)) (.op (some 4) (.mv (.t 23)) (.nil)))))))))
 (.ret)) (.skip)))
 (.seq (.ops (.op (some 24) (.fad 1 (.t 2)) (.op (some 25) (.loadr 1 false (.t 24)) (.op (some 4) (.mv (.t 25)) (.nil)))))
 (.ret)))))

theorem ok24 : okF Tryz.prog 24 c24 = true := by kernel_rfl

/-- (*catacomb/tree.grove).may -/
def c25 : AF := AF.mk 48 [.t 6] (.seq (.ops (.op (some 6) (.mv (.c (.int .i64 0))) (.nil)))
 (.seq (.ops (.op (some 12) (.mv (.t 0)) (.op (some 13) (.mv (.t 1)) (.op (some 14) (.call 51 [(.t 12), (.t 13)]) (.op (some 11) (.mv (.t 14)) (.op (some 15) (.ext (.t 11) 0) (.op (some 16) (.ext (.t 11) 1) (.op (some 7) (.alloc [.int .i64 0, .int .i64 0, .int .i64 0, .lst true [], .lst true [], .int .i64 0]) (.op none (.store 6 (.t 7) (.t 15)) (.op (some 8) (.mv (.t 16)) (.nil)))))))))))
 (.seq (.seq (.ops (.op (some 17) (.mv (.t 8)) (.op (some 18) (.bin .neq (.t 17) (.c (.int .i64 0))) (.nil))))
 (.cond (.t 18) (.seq (.ops (.op (some 19) (.mv (.t 8)) (.op (some 6) (.mv (.t 19)) (.nil))))
 (.ret)) (.skip)))
 (.seq (.seq (.ops (.op (some 20) (.mv (.t 2)) (.op (some 21) (.call 52 [(.t 20)]) (.op (some 22) (.un .not (.t 21)) (.nil)))))
 (.cond (.t 22) (.seq (.ops (.op (some 6) (.mv (.c (.int .i64 60))) (.nil)))
 (.ret)) (.skip)))
 (.seq (.seq (.ops (.op (some 24) (.load 6 true (.t 7)) (.op (some 25) (.mv (.t 2)) (.op (some 26) (.call 53 [(.t 24), (.t 25)]) (.op (some 23) (.mv (.t 26)) (.op (some 27) (.ext (.t 23) 0) (.op (some 28) (.ext (.t 23) 1) (.op (some 9) (.mv (.t 27)) (.op (some 10) (.mv (.t 28)) (.nil))))))))))
 (.seq (.ops (.op (some 29) (.mv (.t 10)) (.nil)))
 (.cond (.t 29) (.seq (.ops (.op (some 6) (.mv (.c (.int .i64 71))) (.nil)))
 (.ret)) (.skip))))
 (.seq (.seq (.ops (.op (some 30) (.fad 4 (.t 7)) (.op (some 31) (.load 1 false (.t 30)) (.op (some 32) (.len false (.t 31)) (.op (some 33) (.bin .geq (.t 32) (.c (.int .i64 64))) (.op (some 34) (.mv (.t 33)) (.sc 39 false 34 35 38 (.op (some 35) (.mv (.t 0)) (.op (some 36) (.mv (.t 1)) (.op (some 37) (.call 54 [(.t 35), (.t 36)]) (.op (some 38) (.bin .geq (.t 37) (.c (.int .i64 12))) (.nil))))) (.t 38) (.op (some 40) (.mv (.t 39)) (.sc 47 false 40 41 46 (.op (some 41) (.mv (.t 0)) (.op (some 42) (.nck (.t 41)) (.op (some 43) (.fad 0 (.t 42)) (.op (some 44) (.fad 2 (.t 43)) (.op (some 45) (.load 1 false (.t 44)) (.op (some 46) (.bin .geq (.t 45) (.c (.int .i64 1099511627776))) (.nil))))))) (.t 46) (.nil))))))))))
 (.cond (.t 47) (.seq (.ops (.op (some 6) (.mv (.c (.int .i64 76))) (.nil)))
 (.ret)) (.skip)))
 (.seq (.ops (.op (some 6) (.mv (.c (.int .i64 0))) (.nil)))
 (.ret))))))))

theorem ok25 : okF Tryz.prog 25 c25 = true := by kernel_rfl

/-- (*catacomb/tree.grove).put -/
def c26 : AF := AF.mk 45 [] (.gho (.seq (.ops (.op (some 3) (.rbox (.t 1)) (.nil)))
 (.seq (.ops (.op (some 7) (.mv (.t 0)) (.op (some 8) (.fad 0 (.t 3)) (.op (some 9) (.loadr 1 false (.t 8)) (.op (some 10) (.call 55 [(.t 7), (.t 9)]) (.op (some 6) (.mv (.t 10)) (.op (some 11) (.ext (.t 6) 0) (.op (some 12) (.ext (.t 6) 1) (.op (some 4) (.mv (.t 11)) (.op (some 5) (.mv (.t 12)) (.nil)))))))))))
 (.seq (.ops (.op (some 13) (.mv (.t 0)) (.op (some 14) (.mv (.t 0)) (.op (some 15) (.nck (.t 14)) (.op (some 16) (.fad 0 (.t 15)) (.op (some 17) (.fad 0 (.t 16)) (.op (some 18) (.load 1 false (.t 17)) (.op (some 19) (.call 56 [(.t 18)]) (.op (some 20) (.nck (.t 13)) (.op (some 21) (.fad 0 (.t 20)) (.op (some 22) (.fad 0 (.t 21)) (.op none (.store 1 (.t 22) (.t 19)) (.nil)))))))))))))
 (.seq (.seq (.ops (.op (some 23) (.mv (.t 5)) (.nil)))
 (.cond (.t 23) (.seq (.ops (.op (some 24) (.mv (.t 0)) (.op (some 25) (.nck (.t 24)) (.op (some 26) (.fad 0 (.t 25)) (.op (some 27) (.fad 0 (.t 26)) (.op (some 28) (.load 1 false (.t 27)) (.op (some 29) (.mv (.t 4)) (.op (some 30) (.loadr 6 true (.t 3)) (.op (some 31) (.iad 6 (.t 28) (.t 29)) (.op none (.store 6 (.t 31) (.t 30)) (.nil)))))))))))
 (.ret)) (.skip)))
 (.ops (.op (some 32) (.mv (.t 0)) (.op (some 33) (.mv (.t 0)) (.op (some 34) (.nck (.t 33)) (.op (some 35) (.fad 0 (.t 34)) (.op (some 36) (.fad 0 (.t 35)) (.op (some 37) (.load 1 false (.t 36)) (.op (some 38) (.mv (.t 4)) (.op (some 39) (.loadr 6 true (.t 3)) (.op (some 40) (.bsl 6 (.agg [.int .i64 0, .int .i64 0, .int .i64 0, .lst true [], .lst true [], .int .i64 0]) 1 [(0, (.t 39))]) (.op (some 41) (.call 57 [(.t 37), (.t 38), (.t 40)]) (.op (some 42) (.nck (.t 32)) (.op (some 43) (.fad 0 (.t 42)) (.op (some 44) (.fad 0 (.t 43)) (.op none (.store 1 (.t 44) (.t 41)) (.nil)))))))))))))))))))) [(0, 0)])

theorem ok26 : okF Tryz.prog 26 c26 = true := by kernel_rfl

/-- (*catacomb/tree.grove).enter -/
def c27 : AF := AF.mk 51 [] (.seq (.ops (.op (some 13) (.mv (.t 0)) (.op (some 14) (.mv (.t 1)) (.op (some 15) (.call 33 [(.t 13), (.t 14)]) (.op (some 12) (.mv (.t 15)) (.op (some 16) (.ext (.t 12) 0) (.op (some 17) (.ext (.t 12) 1) (.op (some 8) (.alloc [.int .i64 0, .int .i64 0, .int .i64 0, .lst true [], .lst true [], .int .i64 0]) (.op none (.store 6 (.t 8) (.t 16)) (.op (some 9) (.mv (.t 17)) (.nil)))))))))))
 (.seq (.ops (.op (some 19) (.load 6 true (.t 8)) (.op (some 20) (.mv (.t 2)) (.op (some 21) (.call 53 [(.t 19), (.t 20)]) (.op (some 18) (.mv (.t 21)) (.op (some 22) (.ext (.t 18) 0) (.op (some 23) (.ext (.t 18) 1) (.op (some 10) (.mv (.t 22)) (.op (some 11) (.mv (.t 23)) (.nil))))))))))
 (.seq (.gho (.ops (.op (some 24) (.fad 4 (.t 8)) (.op (some 25) (.load 1 false (.t 24)) (.op (some 26) (.calla 59 [(.t 25)]) (.op (some 27) (.mv (.t 10)) (.op (some 28) (.mv (.t 2)) (.op (some 29) (.mv (.t 3)) (.op (some 30) (.mv (.t 0)) (.op (some 31) (.nck (.t 30)) (.op (some 32) (.fad 0 (.t 31)) (.op (some 33) (.fad 2 (.t 32)) (.op (some 34) (.load 1 false (.t 33)) (.op (some 35) (.build [.str [], .int .i64 0, .int .i64 0] [(0, 1, (.t 28)), (1, 1, (.t 29)), (2, 1, (.t 34))]) (.op (some 36) (.bsl 3 (.agg [.str [], .int .i64 0, .int .i64 0]) 1 [(0, (.t 35))]) (.op (some 37) (.call 58 [(.t 26), (.t 27), (.t 36)]) (.op (some 38) (.fad 4 (.t 8)) (.op none (.store 1 (.t 38) (.t 37)) (.nil)))))))))))))))))) [(8, 4)])
 (.seq (.ops (.op (some 39) (.mv (.t 0)) (.op (some 40) (.nck (.t 39)) (.op (some 41) (.fad 0 (.t 40)) (.op (some 42) (.fad 2 (.t 41)) (.op (some 43) (.load 1 false (.t 42)) (.op (some 44) (.bin .add (.t 43) (.c (.int .i64 1))) (.op (some 45) (.nck (.t 39)) (.op (some 46) (.fad 0 (.t 45)) (.op (some 47) (.fad 2 (.t 46)) (.op none (.store 1 (.t 47) (.t 44)) (.nil))))))))))))
 (.ops (.op (some 48) (.mv (.t 0)) (.op (some 49) (.load 6 true (.t 8)) (.op (some 50) (.call 26 [(.t 48), (.t 49)]) (.nil)))))))))

theorem ok27 : okF Tryz.prog 27 c27 = true := by kernel_rfl

/-- catacomb/tree.Get -/
def c28 : AF := AF.mk 13 [.cell 4 6 true, .t 5] (.seq (.ops (.op (some 2) (.rbox (.t 0)) (.op (some 4) (.alloc [.int .i64 0, .int .i64 0, .int .i64 0, .lst true [], .lst true [], .int .i64 0]) (.op (some 5) (.mv (.c (.bool false))) (.nil)))))
 (.seq (.ops (.op (some 6) (.loadr 3 true (.t 2)) (.op (some 7) (.build [.lst true [], .int .i64 0, .int .i64 0] [(0, 3, (.t 6))]) (.op (some 8) (.box (.t 7)) (.op (some 9) (.mv (.t 1)) (.op (some 10) (.call 33 [(.t 8), (.t 9)]) (.op (some 11) (.ext (.t 10) 0) (.op (some 12) (.ext (.t 10) 1) (.op none (.store 6 (.t 4) (.t 11)) (.op (some 5) (.mv (.t 12)) (.nil)))))))))))
 (.ret)))

theorem ok28 : okF Tryz.prog 28 c28 = true := by kernel_rfl

/-- catacomb/quota.up -/
def b29_1 : AC := .seq (.seq (.ops (.op (some 8) (.mv (.t 2)) (.op (some 9) (.mv (.t 1)) (.op (some 10) (.callv (.t 8) [(.t 9)]) (.op (some 11) (.mv (.t 10)) (.sc 14 true 11 12 13 (.op (some 12) (.mv (.t 1)) (.op (some 13) (.bin .neq (.t 12) (.c (.int .i64 1))) (.nil))) (.t 13) (.nil)))))))
 (.cond (.t 14) (.skip) (.exit 0)))
 (.block 1 (.seq (.ops (.op (some 16) (.loadr 3 true (.t 3)) (.op (some 17) (.mv (.t 1)) (.op (some 18) (.call 28 [(.t 16), (.t 17)]) (.op (some 15) (.mv (.t 18)) (.op (some 19) (.ext (.t 15) 0) (.op (some 20) (.ext (.t 15) 1) (.op (some 6) (.alloc [.int .i64 0, .int .i64 0, .int .i64 0, .lst true [], .lst true [], .int .i64 0]) (.op none (.store 6 (.t 6) (.t 19)) (.op (some 7) (.mv (.t 20)) (.nil)))))))))))
 (.ops (.op (some 21) (.fad 5 (.t 6)) (.op (some 22) (.load 1 false (.t 21)) (.op (some 1) (.mv (.t 22)) (.nil)))))))
def c29_1 : AC := b29_1
@[simp] theorem e29_1 {Γ : Tab} {V : Nat → Bool} {ρ : Type} (k : AX → St → Option ρ) (s : St) : eval Γ c29_1 V ρ k s = eval Γ b29_1 V ρ k s := rfl
def c29 : AF := AF.mk 23 [] (.seq (.ops (.op (some 3) (.rbox (.t 0)) (.nil)))
 (.block 0 (.loop [1] [(1, 1), (6, 22)] [] [(.exit 0, [])] c29_1)))

theorem ok29 : okF Tryz.prog 29 c29 = true := by kernel_rfl

/-- catacomb/quota.May$1 -/
def c30 : AF := AF.mk 47 [.t 7] (.seq (.ops (.op (some 7) (.mv (.c (.bool false))) (.nil)))
 (.seq (.seq (.ops (.op (some 13) (.load 1 false (.t 1)) (.op (some 14) (.mv (.t 0)) (.op (some 15) (.call 31 [(.t 13), (.t 14)]) (.op (some 12) (.mv (.t 15)) (.op (some 16) (.ext (.t 12) 0) (.op (some 17) (.ext (.t 12) 1) (.op (some 8) (.mv (.t 16)) (.op (some 9) (.mv (.t 17)) (.nil))))))))))
 (.seq (.ops (.op (some 18) (.mv (.t 9)) (.nil)))
 (.cond (.t 18) (.seq (.ops (.op (some 20) (.load 3 true (.t 2)) (.op (some 21) (.mv (.t 0)) (.op (some 22) (.call 16 [(.t 20), (.t 21)]) (.op (some 19) (.mv (.t 22)) (.op (some 23) (.ext (.t 19) 0) (.op (some 24) (.ext (.t 19) 1) (.op (some 10) (.mv (.t 23)) (.op (some 11) (.mv (.t 24)) (.nil))))))))))
 (.seq (.ops (.op (some 25) (.mv (.t 10)) (.op (some 26) (.load 1 false (.t 3)) (.op (some 27) (.bin .add (.t 25) (.t 26)) (.op (some 28) (.load 1 false (.t 1)) (.op (some 29) (.mv (.t 8)) (.op (some 30) (.iad 3 (.t 28) (.t 29)) (.op (some 31) (.fad 1 (.t 30)) (.op (some 32) (.load 1 false (.t 31)) (.op (some 33) (.bin .gtr (.t 27) (.t 32)) (.op (some 34) (.mv (.t 33)) (.sc 44 false 34 35 43 (.op (some 35) (.mv (.t 11)) (.op (some 36) (.load 1 false (.t 4)) (.op (some 37) (.bin .add (.t 35) (.t 36)) (.op (some 38) (.load 1 false (.t 1)) (.op (some 39) (.mv (.t 8)) (.op (some 40) (.iad 3 (.t 38) (.t 39)) (.op (some 41) (.fad 2 (.t 40)) (.op (some 42) (.load 1 false (.t 41)) (.op (some 43) (.bin .gtr (.t 37) (.t 42)) (.nil)))))))))) (.t 43) (.nil)))))))))))))
 (.cond (.t 44) (.ops (.op none (.store 1 (.t 5) (.c (.int .i64 90))) (.nil))) (.skip)))) (.skip))))
 (.seq (.ops (.op (some 45) (.load 1 false (.t 5)) (.op (some 46) (.bin .eql (.t 45) (.c (.int .i64 0))) (.op (some 7) (.mv (.t 46)) (.nil)))))
 (.ret))))

theorem ok30 : okF Tryz.prog 30 c30 = true := by kernel_rfl

/-- catacomb/quota.place -/
def c31 : AF := AF.mk 11 [.t 4, .t 5] (.seq (.ops (.op (some 4) (.mv (.c (.int .i64 0))) (.op (some 5) (.mv (.c (.bool false))) (.nil))))
 (.seq (.ops (.op (some 6) (.mv (.t 0)) (.op (some 7) (.mv (.t 1)) (.op (some 8) (.call 60 [(.t 6), (.t 7), (.c (.fn (.func 61) [] []))]) (.op (some 9) (.ext (.t 8) 0) (.op (some 10) (.ext (.t 8) 1) (.op (some 4) (.mv (.t 9)) (.op (some 5) (.mv (.t 10)) (.nil)))))))))
 (.ret)))

theorem ok31 : okF Tryz.prog 31 c31 = true := by kernel_rfl

/-- catacomb/tree.Look -/
def c32 : AF := AF.mk 40 [.t 6, .t 7] (.seq (.ops (.op (some 3) (.rbox (.t 0)) (.op (some 6) (.mv (.c (.int .i64 0))) (.op (some 7) (.mv (.c (.int .i64 0))) (.nil)))))
 (.seq (.ops (.op (some 13) (.loadr 3 true (.t 3)) (.op (some 14) (.build [.lst true [], .int .i64 0, .int .i64 0] [(0, 3, (.t 13))]) (.op (some 15) (.box (.t 14)) (.op (some 16) (.mv (.t 1)) (.op (some 17) (.call 51 [(.t 15), (.t 16)]) (.op (some 12) (.mv (.t 17)) (.op (some 18) (.ext (.t 12) 0) (.op (some 19) (.ext (.t 12) 1) (.op (some 8) (.alloc [.int .i64 0, .int .i64 0, .int .i64 0, .lst true [], .lst true [], .int .i64 0]) (.op none (.store 6 (.t 8) (.t 18)) (.op (some 9) (.mv (.t 19)) (.nil)))))))))))))
 (.seq (.seq (.ops (.op (some 20) (.mv (.t 9)) (.op (some 21) (.bin .neq (.t 20) (.c (.int .i64 0))) (.nil))))
 (.cond (.t 21) (.seq (.ops (.op (some 22) (.mv (.t 9)) (.op (some 6) (.mv (.c (.int .i64 0))) (.op (some 7) (.mv (.t 22)) (.nil)))))
 (.ret)) (.skip)))
 (.seq (.seq (.ops (.op (some 23) (.mv (.t 2)) (.op (some 24) (.call 52 [(.t 23)]) (.op (some 25) (.un .not (.t 24)) (.nil)))))
 (.cond (.t 25) (.seq (.ops (.op (some 6) (.mv (.c (.int .i64 0))) (.op (some 7) (.mv (.c (.int .i64 60))) (.nil))))
 (.ret)) (.skip)))
 (.seq (.ops (.op (some 27) (.load 6 true (.t 8)) (.op (some 28) (.mv (.t 2)) (.op (some 29) (.call 53 [(.t 27), (.t 28)]) (.op (some 26) (.mv (.t 29)) (.op (some 30) (.ext (.t 26) 0) (.op (some 31) (.ext (.t 26) 1) (.op (some 10) (.mv (.t 30)) (.op (some 11) (.mv (.t 31)) (.nil))))))))))
 (.seq (.seq (.ops (.op (some 32) (.mv (.t 11)) (.op (some 33) (.un .not (.t 32)) (.nil))))
 (.cond (.t 33) (.seq (.ops (.op (some 6) (.mv (.c (.int .i64 0))) (.op (some 7) (.mv (.c (.int .i64 70))) (.nil))))
 (.ret)) (.skip)))
 (.seq (.ops (.op (some 34) (.fad 4 (.t 8)) (.op (some 35) (.load 1 false (.t 34)) (.op (some 36) (.mv (.t 10)) (.op (some 37) (.iad 3 (.t 35) (.t 36)) (.op (some 38) (.fad 1 (.t 37)) (.op (some 39) (.load 1 false (.t 38)) (.op (some 6) (.mv (.t 39)) (.op (some 7) (.mv (.c (.int .i64 0))) (.nil))))))))))
 (.ret))))))))

theorem ok32 : okF Tryz.prog 32 c32 = true := by kernel_rfl

/-- (*catacomb/tree.grove).get -/
def c33 : AF := AF.mk 25 [.cell 4 6 true, .t 5] (.seq (.ops (.op (some 4) (.alloc [.int .i64 0, .int .i64 0, .int .i64 0, .lst true [], .lst true [], .int .i64 0]) (.op (some 5) (.mv (.c (.bool false))) (.nil))))
 (.seq (.ops (.op (some 9) (.mv (.t 0)) (.op (some 10) (.mv (.t 1)) (.op (some 11) (.call 55 [(.t 9), (.t 10)]) (.op (some 8) (.mv (.t 11)) (.op (some 12) (.ext (.t 8) 0) (.op (some 13) (.ext (.t 8) 1) (.op (some 6) (.mv (.t 12)) (.op (some 7) (.mv (.t 13)) (.nil))))))))))
 (.seq (.seq (.ops (.op (some 14) (.mv (.t 7)) (.op (some 15) (.un .not (.t 14)) (.nil))))
 (.cond (.t 15) (.seq (.ops (.op (some 16) (.build [.int .i64 0, .int .i64 0, .int .i64 0, .lst true [], .lst true [], .int .i64 0] []) (.op none (.store 6 (.t 4) (.t 16)) (.op (some 5) (.mv (.c (.bool false))) (.nil)))))
 (.ret)) (.skip)))
 (.seq (.ops (.op (some 17) (.mv (.t 0)) (.op (some 18) (.nck (.t 17)) (.op (some 19) (.fad 0 (.t 18)) (.op (some 20) (.fad 0 (.t 19)) (.op (some 21) (.load 1 false (.t 20)) (.op (some 22) (.mv (.t 6)) (.op (some 23) (.iad 6 (.t 21) (.t 22)) (.op (some 24) (.load 6 true (.t 23)) (.op none (.store 6 (.t 4) (.t 24)) (.op (some 5) (.mv (.c (.bool true))) (.nil))))))))))))
 (.ret)))))

theorem ok33 : okF Tryz.prog 33 c33 = true := by kernel_rfl

/-- (*catacomb/tree.grove).leave -/
def c34 : AF := AF.mk 34 [] (.seq (.ops (.op (some 11) (.mv (.t 0)) (.op (some 12) (.mv (.t 1)) (.op (some 13) (.call 33 [(.t 11), (.t 12)]) (.op (some 10) (.mv (.t 13)) (.op (some 14) (.ext (.t 10) 0) (.op (some 15) (.ext (.t 10) 1) (.op (some 6) (.alloc [.int .i64 0, .int .i64 0, .int .i64 0, .lst true [], .lst true [], .int .i64 0]) (.op none (.store 6 (.t 6) (.t 14)) (.op (some 7) (.mv (.t 15)) (.nil)))))))))))
 (.seq (.ops (.op (some 17) (.load 6 true (.t 6)) (.op (some 18) (.mv (.t 2)) (.op (some 19) (.call 53 [(.t 17), (.t 18)]) (.op (some 16) (.mv (.t 19)) (.op (some 20) (.ext (.t 16) 0) (.op (some 21) (.ext (.t 16) 1) (.op (some 8) (.mv (.t 20)) (.op (some 9) (.mv (.t 21)) (.nil))))))))))
 (.seq (.ops (.op (some 22) (.mv (.t 9)) (.nil)))
 (.cond (.t 22) (.seq (.gho (.ops (.op (some 23) (.fad 4 (.t 6)) (.op (some 24) (.load 1 false (.t 23)) (.op (some 25) (.call 59 [(.t 24)]) (.op (some 26) (.mv (.t 8)) (.op (some 27) (.mv (.t 8)) (.op (some 28) (.bin .add (.t 27) (.c (.int .i64 1))) (.op (some 29) (.call 63 [(.t 25), (.t 26), (.t 28)]) (.op (some 30) (.fad 4 (.t 6)) (.op none (.store 1 (.t 30) (.t 29)) (.nil))))))))))) [(6, 4)])
 (.ops (.op (some 31) (.mv (.t 0)) (.op (some 32) (.load 6 true (.t 6)) (.op (some 33) (.call 26 [(.t 31), (.t 32)]) (.nil)))))) (.skip)))))

theorem ok34 : okF Tryz.prog 34 c34 = true := by kernel_rfl

/-- (*catacomb/tree.grove).unnamed -/
def c35 : AF := AF.mk 18 [] (.seq (.ops (.op (some 3) (.box (.t 1)) (.nil)))
 (.seq (.seq (.ops (.op (some 4) (.fad 1 (.t 3)) (.op (some 5) (.load 1 false (.t 4)) (.op (some 6) (.bin .eql (.t 5) (.c (.int .i64 2))) (.nil)))))
 (.cond (.t 6) (.seq (.ops (.op (some 7) (.mv (.t 0)) (.op (some 8) (.fad 0 (.t 3)) (.op (some 9) (.load 1 false (.t 8)) (.op (some 10) (.call 64 [(.t 7), (.t 9)]) (.nil))))))
 (.ret)) (.skip)))
 (.seq (.ops (.op (some 11) (.fad 2 (.t 3)) (.op (some 12) (.load 1 false (.t 11)) (.op (some 13) (.bin .sub (.t 12) (.c (.int .i64 1))) (.op (some 14) (.fad 2 (.t 3)) (.op none (.store 1 (.t 14) (.t 13)) (.nil)))))))
 (.ops (.op (some 15) (.mv (.t 0)) (.op (some 16) (.load 6 true (.t 3)) (.op (some 17) (.call 26 [(.t 15), (.t 16)]) (.nil))))))))

theorem ok35 : okF Tryz.prog 35 c35 = true := by kernel_rfl

/-- catacomb/catacombref07.place -/
def b36_1 : AC := .seq (.seq (.ops (.op (some 6) (.mv (.t 5)) (.op (some 7) (.fad 0 (.t 2)) (.op (some 8) (.loadr 1 false (.t 7)) (.op (some 9) (.len false (.t 8)) (.op (some 10) (.bin .lss (.t 6) (.t 9)) (.nil)))))))
 (.cond (.t 10) (.skip) (.exit 0)))
 (.seq (.block 1 (.seq (.ops (.op (some 13) (.fad 0 (.t 2)) (.op (some 14) (.loadr 1 false (.t 13)) (.op (some 15) (.mv (.t 5)) (.op (some 16) (.iad 6 (.t 14) (.t 15)) (.op (some 17) (.fad 0 (.t 16)) (.op (some 18) (.load 1 false (.t 17)) (.op (some 19) (.mv (.t 1)) (.op (some 20) (.bin .eql (.t 18) (.t 19)) (.nil))))))))))
 (.cond (.t 20) (.seq (.ops (.op (some 21) (.mv (.t 5)) (.op (some 4) (.mv (.t 21)) (.nil))))
 (.ret)) (.skip))))
 (.ops (.op (some 11) (.mv (.t 5)) (.op (some 12) (.bin .add (.t 11) (.c (.int .i64 1))) (.op (some 5) (.mv (.t 12)) (.nil))))))
def c36_1 : AC := b36_1
@[simp] theorem e36_1 {Γ : Tab} {V : Nat → Bool} {ρ : Type} (k : AX → St → Option ρ) (s : St) : eval Γ c36_1 V ρ k s = eval Γ b36_1 V ρ k s := rfl
def c36 : AF := AF.mk 22 [.t 4] (.seq (.ops (.op (some 2) (.rbox (.t 0)) (.op (some 4) (.mv (.c (.int .i64 0))) (.nil))))
 (.seq (.seq (.ops (.op (some 5) (.mv (.c (.int .i64 0))) (.nil)))
 (.block 0 (.loop [5] [(4, 21)] [] [(.exit 0, []), (.ret, [4])] c36_1)))
 (.seq (.ops (.op (some 4) (.mv (.c (.int .i64 (-1)))) (.nil)))
 (.ret))))

theorem ok36 : okF Tryz.prog 36 c36 = true := by kernel_rfl

/-- catacomb/catacombref07.Add -/
def c37 : AF := AF.mk 60 [.cell 8 3 true, .t 9, .t 10] (.seq (.ops (.op (some 4) (.box (.t 0)) (.op (some 8) (.alloc [.lst true [], .int .i64 0, .int .i64 0]) (.op (some 9) (.mv (.c (.int .i64 0))) (.op (some 10) (.mv (.c (.int .i64 0))) (.nil))))))
 (.seq (.seq (.ops (.op (some 13) (.mv (.t 3)) (.op (some 14) (.bin .neq (.t 13) (.c (.int .i64 1))) (.op (some 15) (.mv (.t 14)) (.sc 18 true 15 16 17 (.op (some 16) (.mv (.t 3)) (.op (some 17) (.bin .neq (.t 16) (.c (.int .i64 2))) (.nil))) (.t 17) (.nil))))))
 (.cond (.t 18) (.seq (.ops (.op (some 19) (.load 3 true (.t 4)) (.op none (.store 3 (.t 8) (.t 19)) (.op (some 9) (.mv (.c (.int .i64 0))) (.op (some 10) (.mv (.c (.int .i64 1))) (.nil))))))
 (.ret)) (.skip)))
 (.seq (.ops (.op (some 20) (.load 3 true (.t 4)) (.op (some 21) (.mv (.t 1)) (.op (some 22) (.mv (.t 2)) (.op (some 23) (.call 65 [(.t 20), (.t 21), (.t 22)]) (.op (some 11) (.mv (.t 23)) (.nil)))))))
 (.seq (.seq (.ops (.op (some 24) (.mv (.t 11)) (.op (some 25) (.bin .neq (.t 24) (.c (.int .i64 0))) (.nil))))
 (.cond (.t 25) (.seq (.ops (.op (some 26) (.load 3 true (.t 4)) (.op (some 27) (.mv (.t 11)) (.op none (.store 3 (.t 8) (.t 26)) (.op (some 9) (.mv (.c (.int .i64 0))) (.op (some 10) (.mv (.t 27)) (.nil)))))))
 (.ret)) (.skip)))
 (.seq (.seq (.ops (.op (some 28) (.fad 0 (.t 4)) (.op (some 29) (.load 1 false (.t 28)) (.op (some 30) (.len false (.t 29)) (.op (some 31) (.bin .geq (.t 30) (.c (.int .i64 200))) (.op (some 32) (.mv (.t 31)) (.sc 36 false 32 33 35 (.op (some 33) (.fad 1 (.t 4)) (.op (some 34) (.load 1 false (.t 33)) (.op (some 35) (.bin .geq (.t 34) (.c (.int .i64 1099511627776))) (.nil)))) (.t 35) (.nil))))))))
 (.cond (.t 36) (.seq (.ops (.op (some 37) (.load 3 true (.t 4)) (.op none (.store 3 (.t 8) (.t 37)) (.op (some 9) (.mv (.c (.int .i64 0))) (.op (some 10) (.mv (.c (.int .i64 76))) (.nil))))))
 (.ret)) (.skip)))
 (.seq (.ops (.op (some 38) (.fad 1 (.t 4)) (.op (some 39) (.load 1 false (.t 38)) (.op (some 40) (.mv (.t 3)) (.op (some 41) (.build [.int .i64 0, .int .i64 0, .int .i64 0, .lst true [], .lst true [], .int .i64 0] [(0, 1, (.t 39)), (1, 1, (.t 40)), (2, 1, (.c (.int .i64 1)))]) (.op (some 12) (.alloc [.int .i64 0, .int .i64 0, .int .i64 0, .lst true [], .lst true [], .int .i64 0]) (.op none (.store 6 (.t 12) (.t 41)) (.nil))))))))
 (.seq (.seq (.ops (.op (some 42) (.mv (.t 3)) (.op (some 43) (.bin .eql (.t 42) (.c (.int .i64 2))) (.nil))))
 (.cond (.t 43) (.ops (.op (some 44) (.mv (.t 1)) (.op (some 45) (.fad 5 (.t 12)) (.op none (.store 1 (.t 45) (.t 44)) (.nil))))) (.skip)))
 (.seq (.ops (.op (some 46) (.fad 1 (.t 4)) (.op (some 47) (.load 1 false (.t 46)) (.op (some 48) (.bin .add (.t 47) (.c (.int .i64 1))) (.op (some 49) (.fad 1 (.t 4)) (.op none (.store 1 (.t 49) (.t 48)) (.nil)))))))
 (.seq (.ops (.op (some 50) (.load 3 true (.t 4)) (.op (some 51) (.load 6 true (.t 12)) (.op (some 52) (.callp 67 [(.t 50), (.t 51)]) (.op (some 53) (.mv (.t 1)) (.op (some 54) (.mv (.t 2)) (.op (some 55) (.fad 0 (.t 12)) (.op (some 56) (.load 1 false (.t 55)) (.op (some 57) (.callp 66 [(.t 52), (.t 53), (.t 54), (.t 56)]) (.op (some 58) (.fad 0 (.t 12)) (.op (some 59) (.loadx 1 false (.t 58) 8) (.op none (.storer 3 (.t 8) (.t 57)) (.op (some 9) (.mv (.t 59)) (.op (some 10) (.mv (.c (.int .i64 0))) (.nil)))))))))))))))
 (.ret))))))))))

theorem ok37 : okF Tryz.prog 37 c37 = true := by kernel_rfl

/-- catacomb/catacombref07.Ln -/
def c38 : AF := AF.mk 55 [.cell 8 3 true, .t 9] (.seq (.ops (.op (some 4) (.rbox (.t 0)) (.op (some 8) (.alloc [.lst true [], .int .i64 0, .int .i64 0]) (.op (some 9) (.mv (.c (.int .i64 0))) (.nil)))))
 (.seq (.ops (.op (some 14) (.loadr 3 true (.t 4)) (.op (some 15) (.mv (.t 1)) (.op (some 16) (.call 14 [(.t 14), (.t 15)]) (.op (some 13) (.mv (.t 16)) (.op (some 17) (.ext (.t 13) 0) (.op (some 18) (.ext (.t 13) 1) (.op (some 10) (.alloc [.int .i64 0, .int .i64 0, .int .i64 0, .lst true [], .lst true [], .int .i64 0]) (.op none (.store 6 (.t 10) (.t 17)) (.op (some 11) (.mv (.t 18)) (.nil)))))))))))
 (.seq (.seq (.ops (.op (some 19) (.mv (.t 11)) (.op (some 20) (.un .not (.t 19)) (.op (some 21) (.mv (.t 20)) (.sc 30 false 21 22 29 (.op (some 22) (.fad 1 (.t 10)) (.op (some 23) (.load 1 false (.t 22)) (.op (some 24) (.bin .eql (.t 23) (.c (.int .i64 1))) (.op (some 25) (.mv (.t 24)) (.sc 29 true 25 26 28 (.op (some 26) (.fad 2 (.t 10)) (.op (some 27) (.load 1 false (.t 26)) (.op (some 28) (.bin .eql (.t 27) (.c (.int .i64 0))) (.nil)))) (.t 28) (.nil)))))) (.t 29) (.nil))))))
 (.cond (.t 30) (.seq (.ops (.op (some 31) (.loadr 3 true (.t 4)) (.op none (.store 3 (.t 8) (.t 31)) (.op (some 9) (.mv (.c (.int .i64 70))) (.nil)))))
 (.ret)) (.skip)))
 (.seq (.seq (.ops (.op (some 32) (.fad 1 (.t 10)) (.op (some 33) (.load 1 false (.t 32)) (.op (some 34) (.bin .eql (.t 33) (.c (.int .i64 2))) (.nil)))))
 (.cond (.t 34) (.seq (.ops (.op (some 35) (.loadr 3 true (.t 4)) (.op none (.store 3 (.t 8) (.t 35)) (.op (some 9) (.mv (.c (.int .i64 72))) (.nil)))))
 (.ret)) (.skip)))
 (.seq (.ops (.op (some 36) (.loadr 3 true (.t 4)) (.op (some 37) (.mv (.t 2)) (.op (some 38) (.mv (.t 3)) (.op (some 39) (.call 65 [(.t 36), (.t 37), (.t 38)]) (.op (some 12) (.mv (.t 39)) (.nil)))))))
 (.seq (.seq (.ops (.op (some 40) (.mv (.t 12)) (.op (some 41) (.bin .neq (.t 40) (.c (.int .i64 0))) (.nil))))
 (.cond (.t 41) (.seq (.ops (.op (some 42) (.loadr 3 true (.t 4)) (.op (some 43) (.mv (.t 12)) (.op none (.store 3 (.t 8) (.t 42)) (.op (some 9) (.mv (.t 43)) (.nil))))))
 (.ret)) (.skip)))
 (.seq (.ops (.op (some 44) (.fad 2 (.t 10)) (.op (some 45) (.load 1 false (.t 44)) (.op (some 46) (.bin .add (.t 45) (.c (.int .i64 1))) (.op (some 47) (.fad 2 (.t 10)) (.op none (.store 1 (.t 47) (.t 46)) (.nil)))))))
 (.seq (.ops (.op (some 48) (.loadr 3 true (.t 4)) (.op (some 49) (.load 6 true (.t 10)) (.op (some 50) (.call 67 [(.t 48), (.t 49)]) (.op (some 51) (.mv (.t 2)) (.op (some 52) (.mv (.t 3)) (.op (some 53) (.mv (.t 1)) (.op (some 54) (.call 66 [(.t 50), (.t 51), (.t 52), (.t 53)]) (.op none (.store 3 (.t 8) (.t 54)) (.op (some 9) (.mv (.c (.int .i64 0))) (.nil)))))))))))
 (.ret)))))))))

theorem ok38 : okF Tryz.prog 38 c38 = true := by kernel_rfl

/-- catacomb/catacombref07.Put -/
def c39 : AF := AF.mk 34 [.cell 6 3 true, .t 7] (.seq (.ops (.op (some 3) (.rbox (.t 0)) (.op (some 6) (.alloc [.lst true [], .int .i64 0, .int .i64 0]) (.op (some 7) (.mv (.c (.int .i64 0))) (.nil)))))
 (.seq (.ops (.op (some 11) (.loadr 3 true (.t 3)) (.op (some 12) (.mv (.t 1)) (.op (some 13) (.call 14 [(.t 11), (.t 12)]) (.op (some 10) (.mv (.t 13)) (.op (some 14) (.ext (.t 10) 0) (.op (some 15) (.ext (.t 10) 1) (.op (some 8) (.alloc [.int .i64 0, .int .i64 0, .int .i64 0, .lst true [], .lst true [], .int .i64 0]) (.op none (.store 6 (.t 8) (.t 14)) (.op (some 9) (.mv (.t 15)) (.nil)))))))))))
 (.seq (.seq (.ops (.op (some 16) (.mv (.t 9)) (.op (some 17) (.un .not (.t 16)) (.nil))))
 (.cond (.t 17) (.seq (.ops (.op (some 18) (.loadr 3 true (.t 3)) (.op none (.store 3 (.t 6) (.t 18)) (.op (some 7) (.mv (.c (.int .i64 70))) (.nil)))))
 (.ret)) (.skip)))
 (.seq (.seq (.ops (.op (some 19) (.fad 1 (.t 8)) (.op (some 20) (.load 1 false (.t 19)) (.op (some 21) (.bin .eql (.t 20) (.c (.int .i64 2))) (.nil)))))
 (.cond (.t 21) (.seq (.ops (.op (some 22) (.loadr 3 true (.t 3)) (.op none (.store 3 (.t 6) (.t 22)) (.op (some 7) (.mv (.c (.int .i64 72))) (.nil)))))
 (.ret)) (.skip)))
 (.seq (.seq (.ops (.op (some 23) (.mv (.t 2)) (.op (some 24) (.len false (.t 23)) (.op (some 25) (.bin .gtr (.t 24) (.c (.int .i64 4096))) (.nil)))))
 (.cond (.t 25) (.seq (.ops (.op (some 26) (.loadr 3 true (.t 3)) (.op none (.store 3 (.t 6) (.t 26)) (.op (some 7) (.mv (.c (.int .i64 2))) (.nil)))))
 (.ret)) (.skip)))
 (.seq (.ops (.op (some 27) (.bslh 1 (.int .u8 0) 0 []) (.op (some 28) (.mv (.t 2)) (.op (some 29) (.app 1 1 (.t 27) (.t 28)) (.op (some 30) (.fad 3 (.t 8)) (.op none (.store 1 (.t 30) (.t 29)) (.nil)))))))
 (.seq (.ops (.op (some 31) (.loadr 3 true (.t 3)) (.op (some 32) (.load 6 true (.t 8)) (.op (some 33) (.call 67 [(.t 31), (.t 32)]) (.op none (.store 3 (.t 6) (.t 33)) (.op (some 7) (.mv (.c (.int .i64 0))) (.nil)))))))
 (.ret))))))))

theorem ok39 : okF Tryz.prog 39 c39 = true := by kernel_rfl

/-- catacomb/quota.Used$1 -/
def b40_1 : AC := .seq (.ops (.op (some 25) (.bin .lss (.t 24) (.t 23)) (.nil)))
 (.seq (.cond (.t 25) (.skip) (.exit 0))
 (.seq (.block 1 (.seq (.ops (.op (some 26) (.iad 3 (.t 22) (.t 24)) (.op (some 27) (.load 3 true (.t 26)) (.op (some 9) (.alloc [.str [], .int .i64 0, .int .i64 0]) (.op none (.store 3 (.t 9) (.t 27)) (.nil))))))
 (.seq (.ops (.op (some 28) (.load 1 false (.t 3)) (.op (some 29) (.fad 1 (.t 9)) (.op (some 30) (.load 1 false (.t 29)) (.op (some 31) (.mget (.bool false) (.t 28) (.t 30)) (.op (some 32) (.un .not (.t 31)) (.nil)))))))
 (.cond (.t 32) (.seq (.ops (.op (some 33) (.load 1 false (.t 3)) (.op (some 34) (.fad 1 (.t 9)) (.op (some 35) (.load 1 false (.t 34)) (.op none (.mput (.t 33) (.t 35) (.c (.bool true))) (.nil))))))
 (.ops (.op (some 36) (.load 1 false (.t 4)) (.op (some 37) (.fad 1 (.t 9)) (.op (some 38) (.load 1 false (.t 37)) (.op (some 39) (.callv (.t 36) [(.t 38)]) (.nil))))))) (.skip)))))
 (.ops (.op (some 40) (.bin .add (.t 24) (.c (.int .i64 1))) (.op (some 24) (.mv (.t 40)) (.nil))))))
def c40_1 : AC := b40_1
@[simp] theorem e40_1 {Γ : Tab} {V : Nat → Bool} {ρ : Type} (k : AX → St → Option ρ) (s : St) : eval Γ c40_1 V ρ k s = eval Γ b40_1 V ρ k s := rfl
def c40 : AF := AF.mk 41 [] (.seq (.ops (.op (some 11) (.load 3 true (.t 1)) (.op (some 12) (.mv (.t 0)) (.op (some 13) (.call 28 [(.t 11), (.t 12)]) (.op (some 10) (.mv (.t 13)) (.op (some 14) (.ext (.t 10) 0) (.op (some 15) (.ext (.t 10) 1) (.op (some 6) (.alloc [.int .i64 0, .int .i64 0, .int .i64 0, .lst true [], .lst true [], .int .i64 0]) (.op none (.store 6 (.t 6) (.t 14)) (.op (some 7) (.mv (.t 15)) (.nil)))))))))))
 (.seq (.ops (.op (some 16) (.load 1 false (.t 2)) (.op (some 17) (.fad 3 (.t 6)) (.op (some 18) (.load 1 false (.t 17)) (.op (some 19) (.len false (.t 18)) (.op (some 20) (.bin .add (.t 16) (.t 19)) (.op none (.store 1 (.t 2) (.t 20)) (.nil))))))))
 (.seq (.ops (.op (some 21) (.fad 4 (.t 6)) (.op (some 22) (.load 1 false (.t 21)) (.op (some 23) (.len false (.t 22)) (.op (some 24) (.mv (.c (.int .i64 0))) (.nil))))))
 (.block 0 (.loop [24] [(9, 9), (24, 40)] [] [(.exit 0, [])] c40_1)))))

theorem ok40 : okF Tryz.prog 40 c40 = true := by kernel_rfl

/-- catacomb/quota.Domain$1 -/
def c44 : AF := AF.mk 17 [.t 4] (.seq (.ops (.op (some 4) (.mv (.c (.bool false))) (.nil)))
 (.seq (.seq (.ops (.op (some 8) (.load 1 false (.t 1)) (.op (some 9) (.mv (.t 0)) (.op (some 10) (.call 31 [(.t 8), (.t 9)]) (.op (some 7) (.mv (.t 10)) (.op (some 11) (.ext (.t 7) 0) (.op (some 12) (.ext (.t 7) 1) (.op (some 5) (.mv (.t 11)) (.op (some 6) (.mv (.t 12)) (.nil))))))))))
 (.seq (.ops (.op (some 13) (.mv (.t 6)) (.nil)))
 (.cond (.t 13) (.ops (.op (some 14) (.mv (.t 0)) (.op none (.store 1 (.t 2) (.t 14)) (.nil)))) (.skip))))
 (.seq (.ops (.op (some 15) (.load 1 false (.t 2)) (.op (some 16) (.bin .eql (.t 15) (.c (.int .i64 0))) (.op (some 4) (.mv (.t 16)) (.nil)))))
 (.ret))))

theorem ok44 : okF Tryz.prog 44 c44 = true := by kernel_rfl

/-- catacomb/catacombref07.Un -/
def c45 : AF := AF.mk 42 [.cell 6 3 true, .t 7, .t 8] (.seq (.ops (.op (some 3) (.rbox (.t 0)) (.op (some 6) (.alloc [.lst true [], .int .i64 0, .int .i64 0]) (.op (some 7) (.mv (.c (.int .i64 0))) (.op (some 8) (.mv (.c (.int .i64 0))) (.nil))))))
 (.seq (.ops (.op (some 14) (.loadr 3 true (.t 3)) (.op (some 15) (.mv (.t 1)) (.op (some 16) (.mv (.t 2)) (.op (some 17) (.call 70 [(.t 14), (.t 15), (.t 16)]) (.op (some 13) (.mv (.t 17)) (.op (some 18) (.ext (.t 13) 0) (.op (some 19) (.ext (.t 13) 1) (.op (some 9) (.mv (.t 18)) (.op (some 10) (.mv (.t 19)) (.nil)))))))))))
 (.seq (.seq (.ops (.op (some 20) (.mv (.t 10)) (.op (some 21) (.bin .neq (.t 20) (.c (.int .i64 0))) (.nil))))
 (.cond (.t 21) (.seq (.ops (.op (some 22) (.loadr 3 true (.t 3)) (.op (some 23) (.mv (.t 10)) (.op none (.store 3 (.t 6) (.t 22)) (.op (some 7) (.mv (.c (.int .i64 0))) (.op (some 8) (.mv (.t 23)) (.nil)))))))
 (.ret)) (.skip)))
 (.seq (.ops (.op (some 25) (.loadr 3 true (.t 3)) (.op (some 26) (.mv (.t 9)) (.op (some 27) (.call 14 [(.t 25), (.t 26)]) (.op (some 24) (.mv (.t 27)) (.op (some 28) (.ext (.t 24) 0) (.op (some 29) (.ext (.t 24) 1) (.op (some 11) (.alloc [.int .i64 0, .int .i64 0, .int .i64 0, .lst true [], .lst true [], .int .i64 0]) (.op none (.store 6 (.t 11) (.t 28)) (.op (some 12) (.mv (.t 29)) (.nil)))))))))))
 (.seq (.seq (.ops (.op (some 30) (.fad 4 (.t 11)) (.op (some 31) (.load 1 false (.t 30)) (.op (some 32) (.len false (.t 31)) (.op (some 33) (.bin .gtr (.t 32) (.c (.int .i64 0))) (.nil))))))
 (.cond (.t 33) (.seq (.ops (.op (some 34) (.loadr 3 true (.t 3)) (.op none (.store 3 (.t 6) (.t 34)) (.op (some 7) (.mv (.c (.int .i64 0))) (.op (some 8) (.mv (.c (.int .i64 74))) (.nil))))))
 (.ret)) (.skip)))
 (.seq (.ops (.op (some 35) (.loadr 3 true (.t 3)) (.op (some 36) (.mv (.t 1)) (.op (some 37) (.mv (.t 2)) (.op (some 38) (.call 72 [(.t 35), (.t 36), (.t 37)]) (.op (some 39) (.mv (.t 9)) (.op (some 40) (.call 71 [(.t 38), (.t 39)]) (.op (some 41) (.mv (.t 9)) (.op none (.store 3 (.t 6) (.t 40)) (.op (some 7) (.mv (.t 41)) (.op (some 8) (.mv (.c (.int .i64 0))) (.nil))))))))))))
 (.ret)))))))

theorem ok45 : okF Tryz.prog 45 c45 = true := by kernel_rfl

/-- catacomb/catacombref07.Mv -/
def c46 : AF := AF.mk 151 [.cell 10 3 true, .t 11, .t 12] (.seq (.ops (.op (some 5) (.rbox (.t 0)) (.op (some 10) (.alloc [.lst true [], .int .i64 0, .int .i64 0]) (.op (some 11) (.mv (.c (.int .i64 0))) (.op (some 12) (.mv (.c (.int .i64 0))) (.nil))))))
 (.seq (.ops (.op (some 23) (.loadr 3 true (.t 5)) (.op (some 24) (.mv (.t 1)) (.op (some 25) (.mv (.t 2)) (.op (some 26) (.call 70 [(.t 23), (.t 24), (.t 25)]) (.op (some 22) (.mv (.t 26)) (.op (some 27) (.ext (.t 22) 0) (.op (some 28) (.ext (.t 22) 1) (.op (some 13) (.mv (.t 27)) (.op (some 14) (.mv (.t 28)) (.nil)))))))))))
 (.seq (.seq (.ops (.op (some 29) (.mv (.t 14)) (.op (some 30) (.bin .neq (.t 29) (.c (.int .i64 0))) (.nil))))
 (.cond (.t 30) (.seq (.ops (.op (some 31) (.loadr 3 true (.t 5)) (.op (some 32) (.mv (.t 14)) (.op none (.store 3 (.t 10) (.t 31)) (.op (some 11) (.mv (.c (.int .i64 0))) (.op (some 12) (.mv (.t 32)) (.nil)))))))
 (.ret)) (.skip)))
 (.seq (.ops (.op (some 34) (.loadr 3 true (.t 5)) (.op (some 35) (.mv (.t 3)) (.op (some 36) (.call 73 [(.t 34), (.t 35)]) (.op (some 33) (.mv (.t 36)) (.op (some 37) (.ext (.t 33) 0) (.op (some 38) (.ext (.t 33) 1) (.op (some 15) (.alloc [.int .i64 0, .int .i64 0, .int .i64 0, .lst true [], .lst true [], .int .i64 0]) (.op none (.store 6 (.t 15) (.t 37)) (.op (some 14) (.mv (.t 38)) (.nil)))))))))))
 (.seq (.seq (.ops (.op (some 39) (.mv (.t 14)) (.op (some 40) (.bin .neq (.t 39) (.c (.int .i64 0))) (.nil))))
 (.cond (.t 40) (.seq (.ops (.op (some 41) (.loadr 3 true (.t 5)) (.op (some 42) (.mv (.t 14)) (.op none (.store 3 (.t 10) (.t 41)) (.op (some 11) (.mv (.c (.int .i64 0))) (.op (some 12) (.mv (.t 42)) (.nil)))))))
 (.ret)) (.skip)))
 (.seq (.seq (.ops (.op (some 43) (.mv (.t 4)) (.op (some 44) (.call 74 [(.t 43)]) (.op (some 45) (.un .not (.t 44)) (.nil)))))
 (.cond (.t 45) (.seq (.ops (.op (some 46) (.loadr 3 true (.t 5)) (.op none (.store 3 (.t 10) (.t 46)) (.op (some 11) (.mv (.c (.int .i64 0))) (.op (some 12) (.mv (.c (.int .i64 60))) (.nil))))))
 (.ret)) (.skip)))
 (.seq (.ops (.op (some 16) (.mv (.c (.int .i64 0))) (.nil)))
 (.seq (.ops (.op (some 47) (.load 6 true (.t 15)) (.op (some 48) (.mv (.t 4)) (.op (some 49) (.call 75 [(.t 47), (.t 48)]) (.op (some 17) (.mv (.t 49)) (.nil))))))
 (.seq (.seq (.ops (.op (some 50) (.mv (.t 17)) (.op (some 51) (.bin .geq (.t 50) (.c (.int .i64 0))) (.nil))))
 (.cond (.t 51) (.ops (.op (some 52) (.fad 4 (.t 15)) (.op (some 53) (.load 1 false (.t 52)) (.op (some 54) (.mv (.t 17)) (.op (some 55) (.iad 3 (.t 53) (.t 54)) (.op (some 56) (.fad 1 (.t 55)) (.op (some 57) (.load 1 false (.t 56)) (.op (some 16) (.mv (.t 57)) (.nil))))))))) (.skip)))
 (.seq (.seq (.ops (.op (some 58) (.mv (.t 16)) (.op (some 59) (.mv (.t 13)) (.op (some 60) (.bin .eql (.t 58) (.t 59)) (.nil)))))
 (.cond (.t 60) (.seq (.ops (.op (some 61) (.loadr 3 true (.t 5)) (.op none (.store 3 (.t 10) (.t 61)) (.op (some 11) (.mv (.c (.int .i64 0))) (.op (some 12) (.mv (.c (.int .i64 0))) (.nil))))))
 (.ret)) (.skip)))
 (.seq (.ops (.op (some 63) (.loadr 3 true (.t 5)) (.op (some 64) (.mv (.t 13)) (.op (some 65) (.call 14 [(.t 63), (.t 64)]) (.op (some 62) (.mv (.t 65)) (.op (some 66) (.ext (.t 62) 0) (.op (some 67) (.ext (.t 62) 1) (.op (some 18) (.alloc [.int .i64 0, .int .i64 0, .int .i64 0, .lst true [], .lst true [], .int .i64 0]) (.op none (.store 6 (.t 18) (.t 66)) (.op (some 19) (.mv (.t 67)) (.nil)))))))))))
 (.seq (.seq (.ops (.op (some 68) (.fad 1 (.t 18)) (.op (some 69) (.load 1 false (.t 68)) (.op (some 70) (.bin .eql (.t 69) (.c (.int .i64 2))) (.op (some 71) (.mv (.t 70)) (.sc 76 true 71 72 75 (.op (some 72) (.loadr 3 true (.t 5)) (.op (some 73) (.mv (.t 3)) (.op (some 74) (.mv (.t 13)) (.op (some 75) (.call 76 [(.t 72), (.t 73), (.t 74)]) (.nil))))) (.t 75) (.nil)))))))
 (.cond (.t 76) (.seq (.ops (.op (some 77) (.loadr 3 true (.t 5)) (.op none (.store 3 (.t 10) (.t 77)) (.op (some 11) (.mv (.c (.int .i64 0))) (.op (some 12) (.mv (.c (.int .i64 75))) (.nil))))))
 (.ret)) (.skip)))
 (.seq (.ops (.op (some 78) (.loadr 3 true (.t 5)) (.op (some 79) (.load 6 true (.t 18)) (.op (some 80) (.mv (.t 16)) (.op (some 81) (.call 77 [(.t 78), (.t 79), (.t 80)]) (.op (some 14) (.mv (.t 81)) (.nil)))))))
 (.seq (.seq (.ops (.op (some 82) (.mv (.t 14)) (.op (some 83) (.bin .neq (.t 82) (.c (.int .i64 0))) (.nil))))
 (.cond (.t 83) (.seq (.ops (.op (some 84) (.loadr 3 true (.t 5)) (.op (some 85) (.mv (.t 14)) (.op none (.store 3 (.t 10) (.t 84)) (.op (some 11) (.mv (.c (.int .i64 0))) (.op (some 12) (.mv (.t 85)) (.nil)))))))
 (.ret)) (.skip)))
 (.seq (.ops (.op (some 86) (.loadr 3 true (.t 5)) (.op (some 87) (.mv (.t 3)) (.op (some 88) (.call 78 [(.t 86), (.t 87)]) (.op (some 20) (.mv (.t 88)) (.nil))))))
 (.seq (.seq (.ops (.op (some 89) (.mv (.t 16)) (.op (some 90) (.bin .eql (.t 89) (.c (.int .i64 0))) (.op (some 91) (.mv (.t 90)) (.sc 95 true 91 92 94 (.op (some 92) (.mv (.t 3)) (.op (some 93) (.mv (.t 1)) (.op (some 94) (.bin .neq (.t 92) (.t 93)) (.nil)))) (.t 94) (.op (some 96) (.mv (.t 95)) (.sc 101 true 96 97 100 (.op (some 97) (.fad 4 (.t 15)) (.op (some 98) (.load 1 false (.t 97)) (.op (some 99) (.len false (.t 98)) (.op (some 100) (.bin .geq (.t 99) (.c (.int .i64 64))) (.nil))))) (.t 100) (.op (some 102) (.mv (.t 101)) (.sc 105 false 102 103 104 (.op (some 103) (.mv (.t 20)) (.op (some 104) (.bin .geq (.t 103) (.c (.int .i64 12))) (.nil))) (.t 104) (.op (some 106) (.mv (.t 105)) (.sc 118 false 106 107 117 (.op (some 107) (.fad 1 (.t 18)) (.op (some 108) (.load 1 false (.t 107)) (.op (some 109) (.bin .eql (.t 108) (.c (.int .i64 2))) (.op (some 110) (.mv (.t 109)) (.sc 117 true 110 111 116 (.op (some 111) (.loadr 3 true (.t 5)) (.op (some 112) (.mv (.t 13)) (.op (some 113) (.mv (.t 20)) (.op (some 114) (.bin .add (.t 113) (.c (.int .i64 1))) (.op (some 115) (.call 79 [(.t 111), (.t 112), (.t 114)]) (.op (some 116) (.bin .gtr (.t 115) (.c (.int .i64 12))) (.nil))))))) (.t 116) (.nil)))))) (.t 117) (.op (some 119) (.mv (.t 118)) (.sc 123 false 119 120 122 (.op (some 120) (.fad 2 (.t 5)) (.op (some 121) (.loadr 1 false (.t 120)) (.op (some 122) (.bin .geq (.t 121) (.c (.int .i64 1099511627776))) (.nil)))) (.t 122) (.nil))))))))))))))
 (.cond (.t 123) (.seq (.ops (.op (some 124) (.loadr 3 true (.t 5)) (.op none (.store 3 (.t 10) (.t 124)) (.op (some 11) (.mv (.c (.int .i64 0))) (.op (some 12) (.mv (.c (.int .i64 76))) (.nil))))))
 (.ret)) (.skip)))
 (.seq (.ops (.op (some 125) (.loadr 3 true (.t 5)) (.op (some 126) (.mv (.t 1)) (.op (some 127) (.mv (.t 2)) (.op (some 128) (.call 72 [(.t 125), (.t 126), (.t 127)]) (.op (some 21) (.alloc [.lst true [], .int .i64 0, .int .i64 0]) (.op none (.store 3 (.t 21) (.t 128)) (.nil))))))))
 (.seq (.seq (.ops (.op (some 129) (.mv (.t 16)) (.op (some 130) (.bin .neq (.t 129) (.c (.int .i64 0))) (.nil))))
 (.cond (.t 130) (.ops (.op (some 131) (.load 3 true (.t 21)) (.op (some 132) (.mv (.t 3)) (.op (some 133) (.mv (.t 4)) (.op (some 134) (.call 72 [(.t 131), (.t 132), (.t 133)]) (.op (some 135) (.mv (.t 16)) (.op (some 136) (.call 71 [(.t 134), (.t 135)]) (.op none (.store 3 (.t 21) (.t 136)) (.nil))))))))) (.skip)))
 (.seq (.seq (.ops (.op (some 137) (.fad 1 (.t 18)) (.op (some 138) (.load 1 false (.t 137)) (.op (some 139) (.bin .eql (.t 138) (.c (.int .i64 2))) (.nil)))))
 (.cond (.t 139) (.seq (.ops (.op (some 140) (.mv (.t 3)) (.op (some 141) (.fad 5 (.t 18)) (.op none (.store 1 (.t 141) (.t 140)) (.nil)))))
 (.ops (.op (some 142) (.load 3 true (.t 21)) (.op (some 143) (.load 6 true (.t 18)) (.op (some 144) (.call 67 [(.t 142), (.t 143)]) (.op none (.store 3 (.t 21) (.t 144)) (.nil))))))) (.skip)))
 (.seq (.ops (.op (some 145) (.load 3 true (.t 21)) (.op (some 146) (.mv (.t 3)) (.op (some 147) (.mv (.t 4)) (.op (some 148) (.mv (.t 13)) (.op (some 149) (.call 66 [(.t 145), (.t 146), (.t 147), (.t 148)]) (.op (some 150) (.mv (.t 16)) (.op none (.store 3 (.t 10) (.t 149)) (.op (some 11) (.mv (.t 150)) (.op (some 12) (.mv (.c (.int .i64 0))) (.nil)))))))))))
 (.ret)))))))))))))))))))))

theorem ok46 : okF Tryz.prog 46 c46 = true := by kernel_rfl

/-- catacomb/catacombref07.Free -/
def c47 : AF := AF.mk 28 [.cell 4 3 true, .t 5] (.seq (.ops (.op (some 2) (.rbox (.t 0)) (.op (some 4) (.alloc [.lst true [], .int .i64 0, .int .i64 0]) (.op (some 5) (.mv (.c (.int .i64 0))) (.nil)))))
 (.seq (.ops (.op (some 9) (.loadr 3 true (.t 2)) (.op (some 10) (.mv (.t 1)) (.op (some 11) (.call 14 [(.t 9), (.t 10)]) (.op (some 8) (.mv (.t 11)) (.op (some 12) (.ext (.t 8) 0) (.op (some 13) (.ext (.t 8) 1) (.op (some 6) (.alloc [.int .i64 0, .int .i64 0, .int .i64 0, .lst true [], .lst true [], .int .i64 0]) (.op none (.store 6 (.t 6) (.t 12)) (.op (some 7) (.mv (.t 13)) (.nil)))))))))))
 (.seq (.seq (.ops (.op (some 14) (.mv (.t 7)) (.op (some 15) (.un .not (.t 14)) (.nil))))
 (.cond (.t 15) (.seq (.ops (.op (some 16) (.loadr 3 true (.t 2)) (.op none (.store 3 (.t 4) (.t 16)) (.op (some 5) (.mv (.c (.int .i64 70))) (.nil)))))
 (.ret)) (.skip)))
 (.seq (.seq (.ops (.op (some 17) (.fad 1 (.t 6)) (.op (some 18) (.load 1 false (.t 17)) (.op (some 19) (.bin .eql (.t 18) (.c (.int .i64 2))) (.nil)))))
 (.cond (.t 19) (.seq (.ops (.op (some 20) (.loadr 3 true (.t 2)) (.op none (.store 3 (.t 4) (.t 20)) (.op (some 5) (.mv (.c (.int .i64 72))) (.nil)))))
 (.ret)) (.skip)))
 (.seq (.seq (.ops (.op (some 21) (.fad 2 (.t 6)) (.op (some 22) (.load 1 false (.t 21)) (.op (some 23) (.bin .gtr (.t 22) (.c (.int .i64 0))) (.nil)))))
 (.cond (.t 23) (.seq (.ops (.op (some 24) (.loadr 3 true (.t 2)) (.op none (.store 3 (.t 4) (.t 24)) (.op (some 5) (.mv (.c (.int .i64 71))) (.nil)))))
 (.ret)) (.skip)))
 (.seq (.ops (.op (some 25) (.loadr 3 true (.t 2)) (.op (some 26) (.mv (.t 1)) (.op (some 27) (.call 80 [(.t 25), (.t 26)]) (.op none (.store 3 (.t 4) (.t 27)) (.op (some 5) (.mv (.c (.int .i64 0))) (.nil)))))))
 (.ret)))))))

theorem ok47 : okF Tryz.prog 47 c47 = true := by kernel_rfl

/-- catacomb/catacombref09.dir -/
def c48 : AF := AF.mk 19 [.t 4] (.seq (.ops (.op (some 2) (.rbox (.t 0)) (.op (some 4) (.mv (.c (.bool false))) (.nil))))
 (.seq (.ops (.op (some 8) (.loadr 3 true (.t 2)) (.op (some 9) (.mv (.t 1)) (.op (some 10) (.call 14 [(.t 8), (.t 9)]) (.op (some 7) (.mv (.t 10)) (.op (some 11) (.ext (.t 7) 0) (.op (some 12) (.ext (.t 7) 1) (.op (some 5) (.alloc [.int .i64 0, .int .i64 0, .int .i64 0, .lst true [], .lst true [], .int .i64 0]) (.op none (.store 6 (.t 5) (.t 11)) (.op (some 6) (.mv (.t 12)) (.nil)))))))))))
 (.seq (.ops (.op (some 13) (.mv (.t 6)) (.op (some 14) (.mv (.t 13)) (.sc 18 true 14 15 17 (.op (some 15) (.fad 1 (.t 5)) (.op (some 16) (.load 1 false (.t 15)) (.op (some 17) (.bin .eql (.t 16) (.c (.int .i64 2))) (.nil)))) (.t 17) (.op (some 4) (.mv (.t 18)) (.nil))))))
 (.ret))))

theorem ok48 : okF Tryz.prog 48 c48 = true := by kernel_rfl

/-- catacomb/catacombref09.Used -/
def b49_1 : AC := .seq (.seq (.ops (.op (some 19) (.mv (.t 10)) (.op (some 20) (.mv (.t 7)) (.op (some 21) (.len false (.t 20)) (.op (some 22) (.bin .lss (.t 19) (.t 21)) (.nil))))))
 (.cond (.t 22) (.skip) (.exit 0)))
 (.seq (.block 1 (.seq (.ops (.op (some 25) (.mv (.t 7)) (.op (some 26) (.mv (.t 10)) (.op (some 27) (.iad 1 (.t 25) (.t 26)) (.op (some 28) (.load 1 false (.t 27)) (.nil))))))
 (.cond (.t 28) (.seq (.ops (.op (some 29) (.mv (.t 8)) (.op (some 30) (.bin .add (.t 29) (.c (.int .i64 1))) (.op (some 8) (.mv (.t 30)) (.nil)))))
 (.ops (.op (some 31) (.mv (.t 9)) (.op (some 32) (.fad 0 (.t 2)) (.op (some 33) (.loadr 1 false (.t 32)) (.op (some 34) (.mv (.t 10)) (.op (some 35) (.iad 6 (.t 33) (.t 34)) (.op (some 36) (.fad 3 (.t 35)) (.op (some 37) (.load 1 false (.t 36)) (.op (some 38) (.len false (.t 37)) (.op (some 39) (.bin .add (.t 31) (.t 38)) (.op (some 9) (.mv (.t 39)) (.nil))))))))))))) (.skip))))
 (.ops (.op (some 23) (.mv (.t 10)) (.op (some 24) (.bin .add (.t 23) (.c (.int .i64 1))) (.op (some 10) (.mv (.t 24)) (.nil))))))
def c49_1 : AC := b49_1
@[simp] theorem e49_1 {Γ : Tab} {V : Nat → Bool} {ρ : Type} (k : AX → St → Option ρ) (s : St) : eval Γ c49_1 V ρ k s = eval Γ b49_1 V ρ k s := rfl
def c49 : AF := AF.mk 42 [.t 4, .t 5] (.seq (.ops (.op (some 2) (.rbox (.t 0)) (.op (some 4) (.mv (.c (.int .i64 0))) (.op (some 5) (.mv (.c (.int .i64 0))) (.nil)))))
 (.seq (.ops (.op (some 11) (.loadr 3 true (.t 2)) (.op (some 12) (.mv (.t 1)) (.op (some 13) (.call 48 [(.t 11), (.t 12)]) (.op (some 6) (.mv (.t 13)) (.nil))))))
 (.seq (.seq (.ops (.op (some 14) (.mv (.t 6)) (.op (some 15) (.un .not (.t 14)) (.nil))))
 (.cond (.t 15) (.seq (.ops (.op (some 4) (.mv (.c (.int .i64 0))) (.op (some 5) (.mv (.c (.int .i64 0))) (.nil))))
 (.ret)) (.skip)))
 (.seq (.ops (.op (some 16) (.loadr 3 true (.t 2)) (.op (some 17) (.mv (.t 1)) (.op (some 18) (.call 81 [(.t 16), (.t 17)]) (.op (some 7) (.mv (.t 18)) (.nil))))))
 (.seq (.ops (.op (some 8) (.mv (.c (.int .i64 0))) (.nil)))
 (.seq (.ops (.op (some 9) (.mv (.c (.int .i64 0))) (.nil)))
 (.seq (.seq (.ops (.op (some 10) (.mv (.c (.int .i64 0))) (.nil)))
 (.block 0 (.loop [8, 9, 10] [(8, 10), (19, 39)] [] [(.exit 0, [8, 9])] c49_1)))
 (.seq (.ops (.op (some 40) (.mv (.t 8)) (.op (some 41) (.mv (.t 9)) (.op (some 4) (.mv (.t 40)) (.op (some 5) (.mv (.t 41)) (.nil))))))
 (.ret)))))))))

theorem ok49 : okF Tryz.prog 49 c49 = true := by kernel_rfl

/-- catacomb/catacombref09.find -/
def b50_1 : AC := .seq (.seq (.ops (.op (some 6) (.mv (.t 5)) (.op (some 7) (.mv (.t 0)) (.op (some 8) (.len false (.t 7)) (.op (some 9) (.bin .lss (.t 6) (.t 8)) (.nil))))))
 (.cond (.t 9) (.skip) (.exit 0)))
 (.seq (.block 1 (.seq (.ops (.op (some 12) (.mv (.t 0)) (.op (some 13) (.mv (.t 5)) (.op (some 14) (.iad 3 (.t 12) (.t 13)) (.op (some 15) (.fad 0 (.t 14)) (.op (some 16) (.load 1 false (.t 15)) (.op (some 17) (.mv (.t 1)) (.op (some 18) (.bin .eql (.t 16) (.t 17)) (.nil)))))))))
 (.cond (.t 18) (.seq (.ops (.op (some 19) (.mv (.t 5)) (.op (some 4) (.mv (.t 19)) (.nil))))
 (.ret)) (.skip))))
 (.ops (.op (some 10) (.mv (.t 5)) (.op (some 11) (.bin .add (.t 10) (.c (.int .i64 1))) (.op (some 5) (.mv (.t 11)) (.nil))))))
def c50_1 : AC := b50_1
@[simp] theorem e50_1 {Γ : Tab} {V : Nat → Bool} {ρ : Type} (k : AX → St → Option ρ) (s : St) : eval Γ c50_1 V ρ k s = eval Γ b50_1 V ρ k s := rfl
def c50 : AF := AF.mk 20 [.t 4] (.seq (.ops (.op (some 4) (.mv (.c (.int .i64 0))) (.nil)))
 (.seq (.seq (.ops (.op (some 5) (.mv (.c (.int .i64 0))) (.nil)))
 (.block 0 (.loop [5] [(4, 19)] [] [(.exit 0, []), (.ret, [4])] c50_1)))
 (.seq (.ops (.op (some 4) (.mv (.c (.int .i64 (-1)))) (.nil)))
 (.ret))))

theorem ok50 : okF Tryz.prog 50 c50 = true := by kernel_rfl

/-- (*catacomb/tree.grove).dir -/
def c51 : AF := AF.mk 24 [.cell 4 6 true, .t 5] (.seq (.ops (.op (some 4) (.alloc [.int .i64 0, .int .i64 0, .int .i64 0, .lst true [], .lst true [], .int .i64 0]) (.op (some 5) (.mv (.c (.int .i64 0))) (.nil))))
 (.seq (.ops (.op (some 9) (.mv (.t 0)) (.op (some 10) (.mv (.t 1)) (.op (some 11) (.call 33 [(.t 9), (.t 10)]) (.op (some 8) (.mv (.t 11)) (.op (some 12) (.ext (.t 8) 0) (.op (some 13) (.ext (.t 8) 1) (.op (some 6) (.alloc [.int .i64 0, .int .i64 0, .int .i64 0, .lst true [], .lst true [], .int .i64 0]) (.op none (.store 6 (.t 6) (.t 12)) (.op (some 7) (.mv (.t 13)) (.nil)))))))))))
 (.block 0 (.seq (.ops (.op (some 16) (.mv (.t 7)) (.op (some 17) (.un .not (.t 16)) (.op (some 15) (.mv (.t 17)) (.nil)))))
 (.cond (.t 15) (.seq (.ops (.op (some 18) (.build [.int .i64 0, .int .i64 0, .int .i64 0, .lst true [], .lst true [], .int .i64 0] []) (.op none (.store 6 (.t 4) (.t 18)) (.op (some 5) (.mv (.c (.int .i64 70))) (.nil)))))
 (.ret)) (.seq (.ops (.op (some 20) (.fad 1 (.t 6)) (.op (some 21) (.load 1 false (.t 20)) (.op (some 22) (.bin .neq (.t 21) (.c (.int .i64 2))) (.op (some 19) (.mv (.t 22)) (.nil))))))
 (.cond (.t 19) (.seq (.ops (.op (some 23) (.build [.int .i64 0, .int .i64 0, .int .i64 0, .lst true [], .lst true [], .int .i64 0] []) (.op none (.store 6 (.t 4) (.t 23)) (.op (some 5) (.mv (.c (.int .i64 73))) (.nil)))))
 (.ret)) (.seq (.ops (.op (some 14) (.load 6 true (.t 6)) (.op none (.store 6 (.t 4) (.t 14)) (.op (some 5) (.mv (.c (.int .i64 0))) (.nil)))))
 (.ret)))))))))

theorem ok51 : okF Tryz.prog 51 c51 = true := by kernel_rfl

/-- catacomb/tree.ent -/
def c53 : AF := AF.mk 12 [.t 4, .t 5] (.seq (.ops (.op (some 2) (.rbox (.t 0)) (.op (some 4) (.mv (.c (.int .i64 0))) (.op (some 5) (.mv (.c (.bool false))) (.nil)))))
 (.seq (.ops (.op (some 6) (.fad 4 (.t 2)) (.op (some 7) (.loadr 1 false (.t 6)) (.op (some 8) (.mv (.t 1)) (.op (some 9) (.call 82 [(.t 7), (.t 8), (.c (.fn (.func 83) [] []))]) (.op (some 10) (.ext (.t 9) 0) (.op (some 11) (.ext (.t 9) 1) (.op (some 4) (.mv (.t 10)) (.op (some 5) (.mv (.t 11)) (.nil))))))))))
 (.ret)))

theorem ok53 : okF Tryz.prog 53 c53 = true := by kernel_rfl

/-- (*catacomb/tree.grove).depth -/
def c54 : AF := AF.mk 10 [.t 4] (.seq (.ops (.op (some 4) (.mv (.c (.int .i64 0))) (.nil)))
 (.seq (.ops (.op (some 5) (.mv (.t 0)) (.op (some 6) (.mv (.t 1)) (.op (some 7) (.call 85 [(.t 5), (.t 6)]) (.op (some 8) (.len false (.t 7)) (.op (some 9) (.bin .sub (.t 8) (.c (.int .i64 1))) (.op (some 4) (.mv (.t 9)) (.nil))))))))
 (.ret)))

theorem ok54 : okF Tryz.prog 54 c54 = true := by kernel_rfl

/-- (*catacomb/tree.grove).at -/
def c55 : AF := AF.mk 15 [.t 4, .t 5] (.seq (.ops (.op (some 4) (.mv (.c (.int .i64 0))) (.op (some 5) (.mv (.c (.bool false))) (.nil))))
 (.seq (.ops (.op (some 6) (.mv (.t 0)) (.op (some 7) (.nck (.t 6)) (.op (some 8) (.fad 0 (.t 7)) (.op (some 9) (.fad 0 (.t 8)) (.op (some 10) (.load 1 false (.t 9)) (.op (some 11) (.mv (.t 1)) (.op (some 12) (.call 86 [(.t 10), (.t 11), (.c (.fn (.func 87) [] []))]) (.op (some 13) (.ext (.t 12) 0) (.op (some 14) (.ext (.t 12) 1) (.op (some 4) (.mv (.t 13)) (.op (some 5) (.mv (.t 14)) (.nil)))))))))))))
 (.ret)))

theorem ok55 : okF Tryz.prog 55 c55 = true := by kernel_rfl

/-- slices.BinarySearchFunc[[]catacomb/api.Quota,catacomb/api.Quota,int] -/
def b60_1 : AC := .seq (.seq (.ops (.op (some 15) (.mv (.t 9)) (.op (some 16) (.mv (.t 10)) (.op (some 17) (.bin .lss (.t 15) (.t 16)) (.nil)))))
 (.cond (.t 17) (.skip) (.exit 0)))
 (.block 1 (.seq (.ops (.op (some 18) (.mv (.t 9)) (.op (some 19) (.mv (.t 10)) (.op (some 20) (.bin .add (.t 18) (.t 19)) (.op (some 21) (.conv .u64 (.t 20)) (.op (some 22) (.bin .shr (.t 21) (.c (.int .u64 1))) (.op (some 23) (.conv .i64 (.t 22)) (.op (some 11) (.mv (.t 23)) (.nil)))))))))
 (.seq (.ops (.op (some 24) (.mv (.t 2)) (.op (some 25) (.mv (.t 0)) (.op (some 26) (.mv (.t 11)) (.op (some 27) (.iad 3 (.t 25) (.t 26)) (.op (some 28) (.load 3 true (.t 27)) (.op (some 29) (.mv (.t 1)) (.op (some 30) (.callv (.t 24) [(.t 28), (.t 29)]) (.op (some 31) (.bin .lss (.t 30) (.c (.int .i64 0))) (.nil))))))))))
 (.cond (.t 31) (.ops (.op (some 32) (.mv (.t 11)) (.op (some 33) (.bin .add (.t 32) (.c (.int .i64 1))) (.op (some 9) (.mv (.t 33)) (.nil))))) (.ops (.op (some 34) (.mv (.t 11)) (.op (some 10) (.mv (.t 34)) (.nil))))))))
def c60_1 : AC := b60_1
@[simp] theorem e60_1 {Γ : Tab} {V : Nat → Bool} {ρ : Type} (k : AX → St → Option ρ) (s : St) : eval Γ c60_1 V ρ k s = eval Γ b60_1 V ρ k s := rfl
def c60 : AF := AF.mk 49 [.t 6, .t 7] (.seq (.ops (.op (some 6) (.mv (.c (.int .i64 0))) (.op (some 7) (.mv (.c (.bool false))) (.nil))))
 (.seq (.ops (.op (some 12) (.mv (.t 0)) (.op (some 13) (.len false (.t 12)) (.op (some 8) (.mv (.t 13)) (.nil)))))
 (.seq (.ops (.op (some 14) (.mv (.t 8)) (.op (some 9) (.mv (.c (.int .i64 0))) (.op (some 10) (.mv (.t 14)) (.nil)))))
 (.seq (.block 0 (.loop [9, 10] [(9, 11), (15, 34)] [] [(.exit 0, [9])] c60_1))
 (.seq (.ops (.op (some 35) (.mv (.t 9)) (.op (some 36) (.mv (.t 9)) (.op (some 37) (.mv (.t 8)) (.op (some 38) (.bin .lss (.t 36) (.t 37)) (.op (some 39) (.mv (.t 38)) (.sc 48 true 39 40 47 (.op (some 40) (.mv (.t 2)) (.op (some 41) (.mv (.t 0)) (.op (some 42) (.mv (.t 9)) (.op (some 43) (.iad 3 (.t 41) (.t 42)) (.op (some 44) (.load 3 true (.t 43)) (.op (some 45) (.mv (.t 1)) (.op (some 46) (.callv (.t 40) [(.t 44), (.t 45)]) (.op (some 47) (.bin .eql (.t 46) (.c (.int .i64 0))) (.nil))))))))) (.t 47) (.op (some 6) (.mv (.t 35)) (.op (some 7) (.mv (.t 48)) (.nil))))))))))
 (.ret))))))

theorem ok60 : okF Tryz.prog 60 c60 = true := by kernel_rfl

/-- catacomb/quota.place$1 -/
def c61 : AF := AF.mk 9 [.t 4] (.seq (.ops (.op (some 2) (.rbox (.t 0)) (.op (some 4) (.mv (.c (.int .i64 0))) (.nil))))
 (.seq (.ops (.op (some 5) (.fad 0 (.t 2)) (.op (some 6) (.loadr 1 false (.t 5)) (.op (some 7) (.mv (.t 1)) (.op (some 8) (.call 62 [(.t 6), (.t 7)]) (.op (some 4) (.mv (.t 8)) (.nil)))))))
 (.ret)))

theorem ok61 : okF Tryz.prog 61 c61 = true := by kernel_rfl

/-- cmp.Compare[int] -/
def c62 : AF := AF.mk 20 [.t 4] (.seq (.ops (.op (some 4) (.mv (.c (.int .i64 0))) (.nil)))
 (.seq (.ops (.op (some 7) (.mv (.t 0)) (.op (some 8) (.call 92 [(.t 7)]) (.op (some 5) (.mv (.t 8)) (.nil)))))
 (.seq (.ops (.op (some 9) (.mv (.t 1)) (.op (some 10) (.call 92 [(.t 9)]) (.op (some 6) (.mv (.t 10)) (.nil)))))
 (.seq (.seq (.ops (.op (some 11) (.mv (.t 5)) (.nil)))
 (.cond (.t 11) (.seq (.seq (.ops (.op (some 12) (.mv (.t 6)) (.nil)))
 (.cond (.t 12) (.seq (.ops (.op (some 4) (.mv (.c (.int .i64 0))) (.nil)))
 (.ret)) (.skip)))
 (.seq (.ops (.op (some 4) (.mv (.c (.int .i64 (-1)))) (.nil)))
 (.ret))) (.skip)))
 (.seq (.seq (.ops (.op (some 13) (.mv (.t 6)) (.nil)))
 (.cond (.t 13) (.seq (.ops (.op (some 4) (.mv (.c (.int .i64 1))) (.nil)))
 (.ret)) (.skip)))
 (.seq (.seq (.ops (.op (some 14) (.mv (.t 0)) (.op (some 15) (.mv (.t 1)) (.op (some 16) (.bin .lss (.t 14) (.t 15)) (.nil)))))
 (.cond (.t 16) (.seq (.ops (.op (some 4) (.mv (.c (.int .i64 (-1)))) (.nil)))
 (.ret)) (.skip)))
 (.seq (.seq (.ops (.op (some 17) (.mv (.t 0)) (.op (some 18) (.mv (.t 1)) (.op (some 19) (.bin .gtr (.t 17) (.t 18)) (.nil)))))
 (.cond (.t 19) (.seq (.ops (.op (some 4) (.mv (.c (.int .i64 1))) (.nil)))
 (.ret)) (.skip)))
 (.seq (.ops (.op (some 4) (.mv (.c (.int .i64 0))) (.nil)))
 (.ret)))))))))

theorem ok62 : okF Tryz.prog 62 c62 = true := by kernel_rfl

/-- (*catacomb/tree.grove).drop -/
def c64 : AF := AF.mk 27 [] (.gho (.seq (.ops (.op (some 7) (.mv (.t 0)) (.op (some 8) (.mv (.t 1)) (.op (some 9) (.call 55 [(.t 7), (.t 8)]) (.op (some 6) (.mv (.t 9)) (.op (some 10) (.ext (.t 6) 0) (.op (some 11) (.ext (.t 6) 1) (.op (some 4) (.mv (.t 10)) (.op (some 5) (.mv (.t 11)) (.nil))))))))))
 (.seq (.ops (.op (some 12) (.mv (.t 5)) (.nil)))
 (.cond (.t 12) (.ops (.op (some 13) (.mv (.t 0)) (.op (some 14) (.mv (.t 0)) (.op (some 15) (.nck (.t 14)) (.op (some 16) (.fad 0 (.t 15)) (.op (some 17) (.fad 0 (.t 16)) (.op (some 18) (.load 1 false (.t 17)) (.op (some 19) (.call 56 [(.t 18)]) (.op (some 20) (.mv (.t 4)) (.op (some 21) (.mv (.t 4)) (.op (some 22) (.bin .add (.t 21) (.c (.int .i64 1))) (.op (some 23) (.call 93 [(.t 19), (.t 20), (.t 22)]) (.op (some 24) (.nck (.t 13)) (.op (some 25) (.fad 0 (.t 24)) (.op (some 26) (.fad 0 (.t 25)) (.op none (.store 1 (.t 26) (.t 23)) (.nil))))))))))))))))) (.skip)))) [(0, 0)])

theorem ok64 : okF Tryz.prog 64 c64 = true := by kernel_rfl

/-- catacomb/catacombref07.enter -/
def c65 : AF := AF.mk 28 [.t 6] (.seq (.ops (.op (some 3) (.rbox (.t 0)) (.op (some 6) (.mv (.c (.int .i64 0))) (.nil))))
 (.seq (.ops (.op (some 10) (.loadr 3 true (.t 3)) (.op (some 11) (.mv (.t 1)) (.op (some 12) (.call 73 [(.t 10), (.t 11)]) (.op (some 9) (.mv (.t 12)) (.op (some 13) (.ext (.t 9) 0) (.op (some 14) (.ext (.t 9) 1) (.op (some 7) (.alloc [.int .i64 0, .int .i64 0, .int .i64 0, .lst true [], .lst true [], .int .i64 0]) (.op none (.store 6 (.t 7) (.t 13)) (.op (some 8) (.mv (.t 14)) (.nil)))))))))))
 (.seq (.seq (.ops (.op (some 15) (.mv (.t 8)) (.op (some 16) (.bin .neq (.t 15) (.c (.int .i64 0))) (.nil))))
 (.cond (.t 16) (.seq (.ops (.op (some 17) (.mv (.t 8)) (.op (some 6) (.mv (.t 17)) (.nil))))
 (.ret)) (.skip)))
 (.seq (.seq (.ops (.op (some 18) (.mv (.t 2)) (.op (some 19) (.call 74 [(.t 18)]) (.op (some 20) (.un .not (.t 19)) (.nil)))))
 (.cond (.t 20) (.seq (.ops (.op (some 6) (.mv (.c (.int .i64 60))) (.nil)))
 (.ret)) (.skip)))
 (.seq (.seq (.ops (.op (some 21) (.load 6 true (.t 7)) (.op (some 22) (.mv (.t 2)) (.op (some 23) (.call 75 [(.t 21), (.t 22)]) (.op (some 24) (.bin .geq (.t 23) (.c (.int .i64 0))) (.nil))))))
 (.cond (.t 24) (.seq (.ops (.op (some 6) (.mv (.c (.int .i64 71))) (.nil)))
 (.ret)) (.skip)))
 (.seq (.seq (.ops (.op (some 25) (.loadr 3 true (.t 3)) (.op (some 26) (.load 6 true (.t 7)) (.op (some 27) (.call 94 [(.t 25), (.t 26)]) (.nil)))))
 (.cond (.t 27) (.seq (.ops (.op (some 6) (.mv (.c (.int .i64 76))) (.nil)))
 (.ret)) (.skip)))
 (.seq (.ops (.op (some 6) (.mv (.c (.int .i64 0))) (.nil)))
 (.ret))))))))

theorem ok65 : okF Tryz.prog 65 c65 = true := by kernel_rfl

/-- catacomb/catacombref07.entered -/
def b66_1 : AC := .seq (.seq (.ops (.op (some 26) (.mv (.t 14)) (.op (some 27) (.fad 4 (.t 9)) (.op (some 28) (.load 1 false (.t 27)) (.op (some 29) (.len false (.t 28)) (.op (some 30) (.bin .lss (.t 26) (.t 29)) (.nil)))))))
 (.cond (.t 30) (.skip) (.exit 0)))
 (.seq (.block 1 (.seq (.seq (.ops (.op (some 33) (.mv (.t 13)) (.op (some 34) (.un .not (.t 33)) (.op (some 35) (.mv (.t 34)) (.sc 44 true 35 36 43 (.op (some 36) (.fad 4 (.t 9)) (.op (some 37) (.load 1 false (.t 36)) (.op (some 38) (.mv (.t 14)) (.op (some 39) (.iad 3 (.t 37) (.t 38)) (.op (some 40) (.fad 0 (.t 39)) (.op (some 41) (.load 1 false (.t 40)) (.op (some 42) (.mv (.t 2)) (.op (some 43) (.bin .gtr (.t 41) (.t 42)) (.nil))))))))) (.t 43) (.nil))))))
 (.cond (.t 44) (.seq (.ops (.op (some 45) (.mv (.t 12)) (.op (some 46) (.load 3 true (.t 11)) (.op (some 47) (.bslh 3 (.agg [.str [], .int .i64 0, .int .i64 0]) 1 [(0, (.t 46))]) (.op (some 48) (.app 3 32 (.t 45) (.t 47)) (.op (some 12) (.mv (.t 48)) (.nil)))))))
 (.ops (.op (some 13) (.mv (.c (.bool true))) (.nil)))) (.skip)))
 (.ops (.op (some 49) (.mv (.t 12)) (.op (some 50) (.fad 4 (.t 9)) (.op (some 51) (.load 1 false (.t 50)) (.op (some 52) (.mv (.t 14)) (.op (some 53) (.iad 3 (.t 51) (.t 52)) (.op (some 54) (.load 3 true (.t 53)) (.op (some 55) (.bslh 3 (.agg [.str [], .int .i64 0, .int .i64 0]) 1 [(0, (.t 54))]) (.op (some 56) (.app 3 32 (.t 49) (.t 55)) (.op (some 12) (.mv (.t 56)) (.nil)))))))))))))
 (.ops (.op (some 31) (.mv (.t 14)) (.op (some 32) (.bin .add (.t 31) (.c (.int .i64 1))) (.op (some 14) (.mv (.t 32)) (.nil))))))
def c66_1 : AC := b66_1
@[simp] theorem e66_1 {Γ : Tab} {V : Nat → Bool} {ρ : Type} (k : AX → St → Option ρ) (s : St) : eval Γ c66_1 V ρ k s = eval Γ b66_1 V ρ k s := rfl
def c66 : AF := AF.mk 72 [.cell 8 3 true] (.seq (.ops (.op (some 4) (.box (.t 0)) (.op (some 8) (.alloc [.lst true [], .int .i64 0, .int .i64 0]) (.nil))))
 (.seq (.ops (.op (some 16) (.load 3 true (.t 4)) (.op (some 17) (.mv (.t 1)) (.op (some 18) (.call 14 [(.t 16), (.t 17)]) (.op (some 15) (.mv (.t 18)) (.op (some 19) (.ext (.t 15) 0) (.op (some 20) (.ext (.t 15) 1) (.op (some 9) (.alloc [.int .i64 0, .int .i64 0, .int .i64 0, .lst true [], .lst true [], .int .i64 0]) (.op none (.store 6 (.t 9) (.t 19)) (.op (some 10) (.mv (.t 20)) (.nil)))))))))))
 (.seq (.ops (.op (some 21) (.mv (.t 2)) (.op (some 22) (.mv (.t 3)) (.op (some 23) (.fad 2 (.t 4)) (.op (some 24) (.load 1 false (.t 23)) (.op (some 25) (.build [.str [], .int .i64 0, .int .i64 0] [(0, 1, (.t 21)), (1, 1, (.t 22)), (2, 1, (.t 24))]) (.op (some 11) (.alloc [.str [], .int .i64 0, .int .i64 0]) (.op none (.store 3 (.t 11) (.t 25)) (.nil)))))))))
 (.seq (.ops (.op (some 12) (.mv (.c (.lst true []))) (.nil)))
 (.seq (.ops (.op (some 13) (.mv (.c (.bool false))) (.nil)))
 (.seq (.seq (.ops (.op (some 14) (.mv (.c (.int .i64 0))) (.nil)))
 (.block 0 (.loop [12, 13, 14] [(12, 14), (26, 56)] [(12, 3)] [(.exit 0, [12, 13])] c66_1)))
 (.seq (.seq (.ops (.op (some 57) (.mv (.t 13)) (.op (some 58) (.un .not (.t 57)) (.nil))))
 (.cond (.t 58) (.ops (.op (some 59) (.mv (.t 12)) (.op (some 60) (.load 3 true (.t 11)) (.op (some 61) (.bslh 3 (.agg [.str [], .int .i64 0, .int .i64 0]) 1 [(0, (.t 60))]) (.op (some 62) (.app 3 32 (.t 59) (.t 61)) (.op (some 12) (.mv (.t 62)) (.nil))))))) (.skip)))
 (.seq (.ops (.op (some 63) (.mv (.t 12)) (.op (some 64) (.fad 4 (.t 9)) (.op none (.store 1 (.t 64) (.t 63)) (.nil)))))
 (.seq (.ops (.op (some 65) (.fad 2 (.t 4)) (.op (some 66) (.load 1 false (.t 65)) (.op (some 67) (.bin .add (.t 66) (.c (.int .i64 1))) (.op (some 68) (.fad 2 (.t 4)) (.op none (.store 1 (.t 68) (.t 67)) (.nil)))))))
 (.seq (.ops (.op (some 69) (.load 3 true (.t 4)) (.op (some 70) (.load 6 true (.t 9)) (.op (some 71) (.call 67 [(.t 69), (.t 70)]) (.op none (.store 3 (.t 8) (.t 71)) (.nil))))))
 (.ret)))))))))))

theorem ok66 : okF Tryz.prog 66 c66 = true := by kernel_rfl

/-- catacomb/catacombref07.with -/
def b67_1 : AC := .seq (.seq (.ops (.op (some 8) (.mv (.t 7)) (.op (some 9) (.fad 0 (.t 2)) (.op (some 10) (.load 1 false (.t 9)) (.op (some 11) (.len false (.t 10)) (.op (some 12) (.bin .lss (.t 8) (.t 11)) (.nil)))))))
 (.cond (.t 12) (.skip) (.exit 0)))
 (.seq (.block 1 (.seq (.seq (.ops (.op (some 15) (.mv (.t 6)) (.op (some 16) (.un .not (.t 15)) (.op (some 17) (.mv (.t 16)) (.sc 27 true 17 18 26 (.op (some 18) (.fad 0 (.t 2)) (.op (some 19) (.load 1 false (.t 18)) (.op (some 20) (.mv (.t 7)) (.op (some 21) (.iad 6 (.t 19) (.t 20)) (.op (some 22) (.fad 0 (.t 21)) (.op (some 23) (.load 1 false (.t 22)) (.op (some 24) (.fad 0 (.t 3)) (.op (some 25) (.loadr 1 false (.t 24)) (.op (some 26) (.bin .geq (.t 23) (.t 25)) (.nil)))))))))) (.t 26) (.nil))))))
 (.cond (.t 27) (.seq (.ops (.op (some 28) (.mv (.t 5)) (.op (some 29) (.loadr 6 true (.t 3)) (.op (some 30) (.bslh 6 (.agg [.int .i64 0, .int .i64 0, .int .i64 0, .lst true [], .lst true [], .int .i64 0]) 1 [(0, (.t 29))]) (.op (some 31) (.app 6 80 (.t 28) (.t 30)) (.op (some 5) (.mv (.t 31)) (.nil)))))))
 (.ops (.op (some 6) (.mv (.c (.bool true))) (.nil)))) (.skip)))
 (.seq (.ops (.op (some 32) (.fad 0 (.t 2)) (.op (some 33) (.load 1 false (.t 32)) (.op (some 34) (.mv (.t 7)) (.op (some 35) (.iad 6 (.t 33) (.t 34)) (.op (some 36) (.fad 0 (.t 35)) (.op (some 37) (.load 1 false (.t 36)) (.op (some 38) (.fad 0 (.t 3)) (.op (some 39) (.loadr 1 false (.t 38)) (.op (some 40) (.bin .neq (.t 37) (.t 39)) (.nil)))))))))))
 (.cond (.t 40) (.ops (.op (some 41) (.mv (.t 5)) (.op (some 42) (.fad 0 (.t 2)) (.op (some 43) (.load 1 false (.t 42)) (.op (some 44) (.mv (.t 7)) (.op (some 45) (.iad 6 (.t 43) (.t 44)) (.op (some 46) (.load 6 true (.t 45)) (.op (some 47) (.bslh 6 (.agg [.int .i64 0, .int .i64 0, .int .i64 0, .lst true [], .lst true [], .int .i64 0]) 1 [(0, (.t 46))]) (.op (some 48) (.app 6 80 (.t 41) (.t 47)) (.op (some 5) (.mv (.t 48)) (.nil))))))))))) (.skip)))))
 (.ops (.op (some 13) (.mv (.t 7)) (.op (some 14) (.bin .add (.t 13) (.c (.int .i64 1))) (.op (some 7) (.mv (.t 14)) (.nil))))))
def c67_1 : AC := b67_1
@[simp] theorem e67_1 {Γ : Tab} {V : Nat → Bool} {ρ : Type} (k : AX → St → Option ρ) (s : St) : eval Γ c67_1 V ρ k s = eval Γ b67_1 V ρ k s := rfl
def c67 : AF := AF.mk 58 [.cell 4 3 true] (.seq (.ops (.op (some 2) (.box (.t 0)) (.op (some 3) (.rbox (.t 1)) (.op (some 4) (.alloc [.lst true [], .int .i64 0, .int .i64 0]) (.nil)))))
 (.seq (.ops (.op (some 5) (.mv (.c (.lst true []))) (.nil)))
 (.seq (.ops (.op (some 6) (.mv (.c (.bool false))) (.nil)))
 (.seq (.seq (.ops (.op (some 7) (.mv (.c (.int .i64 0))) (.nil)))
 (.block 0 (.loop [5, 6, 7] [(5, 48)] [(5, 6)] [(.exit 0, [5, 6])] c67_1)))
 (.seq (.seq (.ops (.op (some 49) (.mv (.t 6)) (.op (some 50) (.un .not (.t 49)) (.nil))))
 (.cond (.t 50) (.ops (.op (some 51) (.mv (.t 5)) (.op (some 52) (.loadr 6 true (.t 3)) (.op (some 53) (.bslh 6 (.agg [.int .i64 0, .int .i64 0, .int .i64 0, .lst true [], .lst true [], .int .i64 0]) 1 [(0, (.t 52))]) (.op (some 54) (.app 6 80 (.t 51) (.t 53)) (.op (some 5) (.mv (.t 54)) (.nil))))))) (.skip)))
 (.seq (.ops (.op (some 55) (.mv (.t 5)) (.op (some 56) (.fad 0 (.t 2)) (.op none (.store 1 (.t 56) (.t 55)) (.nil)))))
 (.seq (.ops (.op (some 57) (.load 3 true (.t 2)) (.op none (.store 3 (.t 4) (.t 57)) (.nil))))
 (.ret))))))))

theorem ok67 : okF Tryz.prog 67 c67 = true := by kernel_rfl

/-- catacomb/catacombref07.Look -/
def c70 : AF := AF.mk 34 [.t 6, .t 7] (.seq (.ops (.op (some 3) (.rbox (.t 0)) (.op (some 6) (.mv (.c (.int .i64 0))) (.op (some 7) (.mv (.c (.int .i64 0))) (.nil)))))
 (.seq (.ops (.op (some 12) (.loadr 3 true (.t 3)) (.op (some 13) (.mv (.t 1)) (.op (some 14) (.call 73 [(.t 12), (.t 13)]) (.op (some 11) (.mv (.t 14)) (.op (some 15) (.ext (.t 11) 0) (.op (some 16) (.ext (.t 11) 1) (.op (some 8) (.alloc [.int .i64 0, .int .i64 0, .int .i64 0, .lst true [], .lst true [], .int .i64 0]) (.op none (.store 6 (.t 8) (.t 15)) (.op (some 9) (.mv (.t 16)) (.nil)))))))))))
 (.seq (.seq (.ops (.op (some 17) (.mv (.t 9)) (.op (some 18) (.bin .neq (.t 17) (.c (.int .i64 0))) (.nil))))
 (.cond (.t 18) (.seq (.ops (.op (some 19) (.mv (.t 9)) (.op (some 6) (.mv (.c (.int .i64 0))) (.op (some 7) (.mv (.t 19)) (.nil)))))
 (.ret)) (.skip)))
 (.seq (.seq (.ops (.op (some 20) (.mv (.t 2)) (.op (some 21) (.call 74 [(.t 20)]) (.op (some 22) (.un .not (.t 21)) (.nil)))))
 (.cond (.t 22) (.seq (.ops (.op (some 6) (.mv (.c (.int .i64 0))) (.op (some 7) (.mv (.c (.int .i64 60))) (.nil))))
 (.ret)) (.skip)))
 (.seq (.ops (.op (some 23) (.load 6 true (.t 8)) (.op (some 24) (.mv (.t 2)) (.op (some 25) (.call 75 [(.t 23), (.t 24)]) (.op (some 10) (.mv (.t 25)) (.nil))))))
 (.seq (.seq (.ops (.op (some 26) (.mv (.t 10)) (.op (some 27) (.bin .lss (.t 26) (.c (.int .i64 0))) (.nil))))
 (.cond (.t 27) (.seq (.ops (.op (some 6) (.mv (.c (.int .i64 0))) (.op (some 7) (.mv (.c (.int .i64 70))) (.nil))))
 (.ret)) (.skip)))
 (.seq (.ops (.op (some 28) (.fad 4 (.t 8)) (.op (some 29) (.load 1 false (.t 28)) (.op (some 30) (.mv (.t 10)) (.op (some 31) (.iad 3 (.t 29) (.t 30)) (.op (some 32) (.fad 1 (.t 31)) (.op (some 33) (.load 1 false (.t 32)) (.op (some 6) (.mv (.t 33)) (.op (some 7) (.mv (.c (.int .i64 0))) (.nil))))))))))
 (.ret))))))))

theorem ok70 : okF Tryz.prog 70 c70 = true := by kernel_rfl

/-- catacomb/catacombref07.unnamed -/
def c71 : AF := AF.mk 26 [.cell 4 3 true] (.seq (.ops (.op (some 2) (.rbox (.t 0)) (.op (some 4) (.alloc [.lst true [], .int .i64 0, .int .i64 0]) (.nil))))
 (.seq (.ops (.op (some 8) (.loadr 3 true (.t 2)) (.op (some 9) (.mv (.t 1)) (.op (some 10) (.call 14 [(.t 8), (.t 9)]) (.op (some 7) (.mv (.t 10)) (.op (some 11) (.ext (.t 7) 0) (.op (some 12) (.ext (.t 7) 1) (.op (some 5) (.alloc [.int .i64 0, .int .i64 0, .int .i64 0, .lst true [], .lst true [], .int .i64 0]) (.op none (.store 6 (.t 5) (.t 11)) (.op (some 6) (.mv (.t 12)) (.nil)))))))))))
 (.seq (.seq (.ops (.op (some 13) (.fad 1 (.t 5)) (.op (some 14) (.load 1 false (.t 13)) (.op (some 15) (.bin .eql (.t 14) (.c (.int .i64 2))) (.nil)))))
 (.cond (.t 15) (.seq (.ops (.op (some 16) (.loadr 3 true (.t 2)) (.op (some 17) (.mv (.t 1)) (.op (some 18) (.call 80 [(.t 16), (.t 17)]) (.op none (.store 3 (.t 4) (.t 18)) (.nil))))))
 (.ret)) (.skip)))
 (.seq (.ops (.op (some 19) (.fad 2 (.t 5)) (.op (some 20) (.load 1 false (.t 19)) (.op (some 21) (.bin .sub (.t 20) (.c (.int .i64 1))) (.op (some 22) (.fad 2 (.t 5)) (.op none (.store 1 (.t 22) (.t 21)) (.nil)))))))
 (.seq (.ops (.op (some 23) (.loadr 3 true (.t 2)) (.op (some 24) (.load 6 true (.t 5)) (.op (some 25) (.call 67 [(.t 23), (.t 24)]) (.op none (.store 3 (.t 4) (.t 25)) (.nil))))))
 (.ret))))))

theorem ok71 : okF Tryz.prog 71 c71 = true := by kernel_rfl

/-- catacomb/catacombref07.left -/
def b72_1 : AC := .seq (.seq (.ops (.op (some 17) (.mv (.t 10)) (.op (some 18) (.fad 4 (.t 7)) (.op (some 19) (.load 1 false (.t 18)) (.op (some 20) (.len false (.t 19)) (.op (some 21) (.bin .lss (.t 17) (.t 20)) (.nil)))))))
 (.cond (.t 21) (.skip) (.exit 0)))
 (.seq (.block 1 (.seq (.ops (.op (some 24) (.fad 4 (.t 7)) (.op (some 25) (.load 1 false (.t 24)) (.op (some 26) (.mv (.t 10)) (.op (some 27) (.iad 3 (.t 25) (.t 26)) (.op (some 28) (.fad 0 (.t 27)) (.op (some 29) (.load 1 false (.t 28)) (.op (some 30) (.mv (.t 2)) (.op (some 31) (.bin .neq (.t 29) (.t 30)) (.nil))))))))))
 (.cond (.t 31) (.ops (.op (some 32) (.mv (.t 9)) (.op (some 33) (.fad 4 (.t 7)) (.op (some 34) (.load 1 false (.t 33)) (.op (some 35) (.mv (.t 10)) (.op (some 36) (.iad 3 (.t 34) (.t 35)) (.op (some 37) (.load 3 true (.t 36)) (.op (some 38) (.bslh 3 (.agg [.str [], .int .i64 0, .int .i64 0]) 1 [(0, (.t 37))]) (.op (some 39) (.app 3 32 (.t 32) (.t 38)) (.op (some 9) (.mv (.t 39)) (.nil))))))))))) (.skip))))
 (.ops (.op (some 22) (.mv (.t 10)) (.op (some 23) (.bin .add (.t 22) (.c (.int .i64 1))) (.op (some 10) (.mv (.t 23)) (.nil))))))
def c72_1 : AC := b72_1
@[simp] theorem e72_1 {Γ : Tab} {V : Nat → Bool} {ρ : Type} (k : AX → St → Option ρ) (s : St) : eval Γ c72_1 V ρ k s = eval Γ b72_1 V ρ k s := rfl
def c72 : AF := AF.mk 45 [.cell 6 3 true] (.seq (.ops (.op (some 3) (.rbox (.t 0)) (.op (some 6) (.alloc [.lst true [], .int .i64 0, .int .i64 0]) (.nil))))
 (.seq (.ops (.op (some 12) (.loadr 3 true (.t 3)) (.op (some 13) (.mv (.t 1)) (.op (some 14) (.call 14 [(.t 12), (.t 13)]) (.op (some 11) (.mv (.t 14)) (.op (some 15) (.ext (.t 11) 0) (.op (some 16) (.ext (.t 11) 1) (.op (some 7) (.alloc [.int .i64 0, .int .i64 0, .int .i64 0, .lst true [], .lst true [], .int .i64 0]) (.op none (.store 6 (.t 7) (.t 15)) (.op (some 8) (.mv (.t 16)) (.nil)))))))))))
 (.seq (.ops (.op (some 9) (.mv (.c (.lst true []))) (.nil)))
 (.seq (.seq (.ops (.op (some 10) (.mv (.c (.int .i64 0))) (.nil)))
 (.block 0 (.loop [9, 10] [(9, 10), (17, 39)] [(9, 3)] [(.exit 0, [9])] c72_1)))
 (.seq (.ops (.op (some 40) (.mv (.t 9)) (.op (some 41) (.fad 4 (.t 7)) (.op none (.store 1 (.t 41) (.t 40)) (.nil)))))
 (.seq (.ops (.op (some 42) (.loadr 3 true (.t 3)) (.op (some 43) (.load 6 true (.t 7)) (.op (some 44) (.call 67 [(.t 42), (.t 43)]) (.op none (.store 3 (.t 6) (.t 44)) (.nil))))))
 (.ret)))))))

theorem ok72 : okF Tryz.prog 72 c72 = true := by kernel_rfl

/-- catacomb/catacombref07.dir -/
def c73 : AF := AF.mk 22 [.cell 4 6 true, .t 5] (.seq (.ops (.op (some 2) (.rbox (.t 0)) (.op (some 4) (.alloc [.int .i64 0, .int .i64 0, .int .i64 0, .lst true [], .lst true [], .int .i64 0]) (.op (some 5) (.mv (.c (.int .i64 0))) (.nil)))))
 (.seq (.ops (.op (some 9) (.loadr 3 true (.t 2)) (.op (some 10) (.mv (.t 1)) (.op (some 11) (.call 14 [(.t 9), (.t 10)]) (.op (some 8) (.mv (.t 11)) (.op (some 12) (.ext (.t 8) 0) (.op (some 13) (.ext (.t 8) 1) (.op (some 6) (.alloc [.int .i64 0, .int .i64 0, .int .i64 0, .lst true [], .lst true [], .int .i64 0]) (.op none (.store 6 (.t 6) (.t 12)) (.op (some 7) (.mv (.t 13)) (.nil)))))))))))
 (.seq (.seq (.ops (.op (some 14) (.mv (.t 7)) (.op (some 15) (.un .not (.t 14)) (.nil))))
 (.cond (.t 15) (.seq (.ops (.op (some 16) (.build [.int .i64 0, .int .i64 0, .int .i64 0, .lst true [], .lst true [], .int .i64 0] []) (.op none (.store 6 (.t 4) (.t 16)) (.op (some 5) (.mv (.c (.int .i64 70))) (.nil)))))
 (.ret)) (.skip)))
 (.seq (.seq (.ops (.op (some 17) (.fad 1 (.t 6)) (.op (some 18) (.load 1 false (.t 17)) (.op (some 19) (.bin .neq (.t 18) (.c (.int .i64 2))) (.nil)))))
 (.cond (.t 19) (.seq (.ops (.op (some 20) (.build [.int .i64 0, .int .i64 0, .int .i64 0, .lst true [], .lst true [], .int .i64 0] []) (.op none (.store 6 (.t 4) (.t 20)) (.op (some 5) (.mv (.c (.int .i64 73))) (.nil)))))
 (.ret)) (.skip)))
 (.seq (.ops (.op (some 21) (.load 6 true (.t 6)) (.op none (.store 6 (.t 4) (.t 21)) (.op (some 5) (.mv (.c (.int .i64 0))) (.nil)))))
 (.ret))))))

theorem ok73 : okF Tryz.prog 73 c73 = true := by kernel_rfl

/-- catacomb/catacombref06.Right -/
def b74_1 : AC := .seq (.seq (.ops (.op (some 20) (.mv (.t 3)) (.op (some 21) (.mv (.t 0)) (.op (some 22) (.len true (.t 21)) (.op (some 23) (.bin .lss (.t 20) (.t 22)) (.nil))))))
 (.cond (.t 23) (.skip) (.exit 0)))
 (.seq (.block 1 (.seq (.ops (.op (some 26) (.mv (.t 0)) (.op (some 27) (.mv (.t 3)) (.op (some 28) (.idxs (.t 26) (.t 27)) (.op (some 29) (.bin .lss (.t 28) (.c (.int .u8 32))) (.op (some 30) (.mv (.t 29)) (.sc 35 false 30 31 34 (.op (some 31) (.mv (.t 0)) (.op (some 32) (.mv (.t 3)) (.op (some 33) (.idxs (.t 31) (.t 32)) (.op (some 34) (.bin .eql (.t 33) (.c (.int .u8 47))) (.nil))))) (.t 34) (.nil))))))))
 (.cond (.t 35) (.seq (.ops (.op (some 2) (.mv (.c (.bool false))) (.nil)))
 (.ret)) (.skip))))
 (.ops (.op (some 24) (.mv (.t 3)) (.op (some 25) (.bin .add (.t 24) (.c (.int .i64 1))) (.op (some 3) (.mv (.t 25)) (.nil))))))
def c74_1 : AC := b74_1
@[simp] theorem e74_1 {Γ : Tab} {V : Nat → Bool} {ρ : Type} (k : AX → St → Option ρ) (s : St) : eval Γ c74_1 V ρ k s = eval Γ b74_1 V ρ k s := rfl
def c74 : AF := AF.mk 36 [.t 2] (.seq (.ops (.op (some 2) (.mv (.c (.bool false))) (.nil)))
 (.seq (.seq (.ops (.op (some 4) (.mv (.t 0)) (.op (some 5) (.len true (.t 4)) (.op (some 6) (.bin .lss (.t 5) (.c (.int .i64 1))) (.op (some 7) (.mv (.t 6)) (.sc 11 false 7 8 10 (.op (some 8) (.mv (.t 0)) (.op (some 9) (.len true (.t 8)) (.op (some 10) (.bin .gtr (.t 9) (.c (.int .i64 32))) (.nil)))) (.t 10) (.op (some 12) (.mv (.t 11)) (.sc 15 false 12 13 14 (.op (some 13) (.mv (.t 0)) (.op (some 14) (.bin .eql (.t 13) (.c (.str [46]))) (.nil))) (.t 14) (.op (some 16) (.mv (.t 15)) (.sc 19 false 16 17 18 (.op (some 17) (.mv (.t 0)) (.op (some 18) (.bin .eql (.t 17) (.c (.str [46, 46]))) (.nil))) (.t 18) (.nil)))))))))))
 (.cond (.t 19) (.seq (.ops (.op (some 2) (.mv (.c (.bool false))) (.nil)))
 (.ret)) (.skip)))
 (.seq (.seq (.ops (.op (some 3) (.mv (.c (.int .i64 0))) (.nil)))
 (.block 0 (.loop [3] [(2, 3), (20, 35)] [] [(.exit 0, []), (.ret, [2])] c74_1)))
 (.seq (.ops (.op (some 2) (.mv (.c (.bool true))) (.nil)))
 (.ret)))))

theorem ok74 : okF Tryz.prog 74 c74 = true := by kernel_rfl

/-- catacomb/catacombref07.named -/
def b75_1 : AC := .seq (.seq (.ops (.op (some 6) (.mv (.t 5)) (.op (some 7) (.fad 4 (.t 2)) (.op (some 8) (.loadr 1 false (.t 7)) (.op (some 9) (.len false (.t 8)) (.op (some 10) (.bin .lss (.t 6) (.t 9)) (.nil)))))))
 (.cond (.t 10) (.skip) (.exit 0)))
 (.seq (.block 1 (.seq (.ops (.op (some 13) (.fad 4 (.t 2)) (.op (some 14) (.loadr 1 false (.t 13)) (.op (some 15) (.mv (.t 5)) (.op (some 16) (.iad 3 (.t 14) (.t 15)) (.op (some 17) (.fad 0 (.t 16)) (.op (some 18) (.load 1 false (.t 17)) (.op (some 19) (.mv (.t 1)) (.op (some 20) (.bin .eql (.t 18) (.t 19)) (.nil))))))))))
 (.cond (.t 20) (.seq (.ops (.op (some 21) (.mv (.t 5)) (.op (some 4) (.mv (.t 21)) (.nil))))
 (.ret)) (.skip))))
 (.ops (.op (some 11) (.mv (.t 5)) (.op (some 12) (.bin .add (.t 11) (.c (.int .i64 1))) (.op (some 5) (.mv (.t 12)) (.nil))))))
def c75_1 : AC := b75_1
@[simp] theorem e75_1 {Γ : Tab} {V : Nat → Bool} {ρ : Type} (k : AX → St → Option ρ) (s : St) : eval Γ c75_1 V ρ k s = eval Γ b75_1 V ρ k s := rfl
def c75 : AF := AF.mk 22 [.t 4] (.seq (.ops (.op (some 2) (.rbox (.t 0)) (.op (some 4) (.mv (.c (.int .i64 0))) (.nil))))
 (.seq (.seq (.ops (.op (some 5) (.mv (.c (.int .i64 0))) (.nil)))
 (.block 0 (.loop [5] [(4, 21)] [] [(.exit 0, []), (.ret, [4])] c75_1)))
 (.seq (.ops (.op (some 4) (.mv (.c (.int .i64 (-1)))) (.nil)))
 (.ret))))

theorem ok75 : okF Tryz.prog 75 c75 = true := by kernel_rfl

/-- catacomb/catacombref07.Below -/
def b76_1 : AC := .seq (.seq (.ops (.op (some 10) (.mv (.t 7)) (.op (some 11) (.fad 0 (.t 3)) (.op (some 12) (.loadr 1 false (.t 11)) (.op (some 13) (.len false (.t 12)) (.op (some 14) (.bin .leq (.t 10) (.t 13)) (.nil)))))))
 (.cond (.t 14) (.skip) (.exit 0)))
 (.seq (.block 1 (.seq (.seq (.ops (.op (some 17) (.mv (.t 1)) (.op (some 18) (.mv (.t 2)) (.op (some 19) (.bin .eql (.t 17) (.t 18)) (.nil)))))
 (.cond (.t 19) (.seq (.ops (.op (some 6) (.mv (.c (.bool true))) (.nil)))
 (.ret)) (.skip)))
 (.seq (.seq (.ops (.op (some 20) (.mv (.t 1)) (.op (some 21) (.bin .eql (.t 20) (.c (.int .i64 1))) (.nil))))
 (.cond (.t 21) (.seq (.ops (.op (some 6) (.mv (.c (.bool false))) (.nil)))
 (.ret)) (.skip)))
 (.seq (.ops (.op (some 23) (.loadr 3 true (.t 3)) (.op (some 24) (.mv (.t 1)) (.op (some 25) (.call 14 [(.t 23), (.t 24)]) (.op (some 22) (.mv (.t 25)) (.op (some 26) (.ext (.t 22) 0) (.op (some 27) (.ext (.t 22) 1) (.op (some 8) (.alloc [.int .i64 0, .int .i64 0, .int .i64 0, .lst true [], .lst true [], .int .i64 0]) (.op none (.store 6 (.t 8) (.t 26)) (.op (some 9) (.mv (.t 27)) (.nil)))))))))))
 (.ops (.op (some 28) (.fad 5 (.t 8)) (.op (some 29) (.load 1 false (.t 28)) (.op (some 1) (.mv (.t 29)) (.nil)))))))))
 (.ops (.op (some 15) (.mv (.t 7)) (.op (some 16) (.bin .add (.t 15) (.c (.int .i64 1))) (.op (some 7) (.mv (.t 16)) (.nil))))))
def c76_1 : AC := b76_1
@[simp] theorem e76_1 {Γ : Tab} {V : Nat → Bool} {ρ : Type} (k : AX → St → Option ρ) (s : St) : eval Γ c76_1 V ρ k s = eval Γ b76_1 V ρ k s := rfl
def c76 : AF := AF.mk 30 [.t 6] (.seq (.ops (.op (some 3) (.rbox (.t 0)) (.op (some 6) (.mv (.c (.bool false))) (.nil))))
 (.seq (.seq (.ops (.op (some 7) (.mv (.c (.int .i64 0))) (.nil)))
 (.block 0 (.loop [1, 7] [(1, 1), (6, 29)] [] [(.exit 0, []), (.ret, [6])] c76_1)))
 (.seq (.ops (.op (some 6) (.mv (.c (.bool false))) (.nil)))
 (.ret))))

theorem ok76 : okF Tryz.prog 76 c76 = true := by kernel_rfl

/-- catacomb/catacombref07.clash -/
def c77 : AF := AF.mk 37 [.t 6] (.seq (.ops (.op (some 3) (.rbox (.t 0)) (.op (some 4) (.rbox (.t 1)) (.op (some 6) (.mv (.c (.int .i64 0))) (.nil)))))
 (.seq (.ops (.op (some 10) (.loadr 3 true (.t 3)) (.op (some 11) (.mv (.t 2)) (.op (some 12) (.call 14 [(.t 10), (.t 11)]) (.op (some 9) (.mv (.t 12)) (.op (some 13) (.ext (.t 9) 0) (.op (some 14) (.ext (.t 9) 1) (.op (some 7) (.alloc [.int .i64 0, .int .i64 0, .int .i64 0, .lst true [], .lst true [], .int .i64 0]) (.op none (.store 6 (.t 7) (.t 13)) (.op (some 8) (.mv (.t 14)) (.nil)))))))))))
 (.seq (.seq (.ops (.op (some 15) (.mv (.t 8)) (.op (some 16) (.un .not (.t 15)) (.nil))))
 (.cond (.t 16) (.seq (.ops (.op (some 6) (.mv (.c (.int .i64 0))) (.nil)))
 (.ret)) (.skip)))
 (.seq (.seq (.ops (.op (some 17) (.fad 1 (.t 4)) (.op (some 18) (.loadr 1 false (.t 17)) (.op (some 19) (.bin .eql (.t 18) (.c (.int .i64 2))) (.op (some 20) (.mv (.t 19)) (.sc 24 true 20 21 23 (.op (some 21) (.fad 1 (.t 7)) (.op (some 22) (.load 1 false (.t 21)) (.op (some 23) (.bin .neq (.t 22) (.c (.int .i64 2))) (.nil)))) (.t 23) (.nil)))))))
 (.cond (.t 24) (.seq (.ops (.op (some 6) (.mv (.c (.int .i64 73))) (.nil)))
 (.ret)) (.skip)))
 (.seq (.seq (.ops (.op (some 25) (.fad 1 (.t 4)) (.op (some 26) (.loadr 1 false (.t 25)) (.op (some 27) (.bin .neq (.t 26) (.c (.int .i64 2))) (.op (some 28) (.mv (.t 27)) (.sc 32 true 28 29 31 (.op (some 29) (.fad 1 (.t 7)) (.op (some 30) (.load 1 false (.t 29)) (.op (some 31) (.bin .eql (.t 30) (.c (.int .i64 2))) (.nil)))) (.t 31) (.nil)))))))
 (.cond (.t 32) (.seq (.ops (.op (some 6) (.mv (.c (.int .i64 72))) (.nil)))
 (.ret)) (.skip)))
 (.seq (.seq (.ops (.op (some 33) (.fad 4 (.t 7)) (.op (some 34) (.load 1 false (.t 33)) (.op (some 35) (.len false (.t 34)) (.op (some 36) (.bin .gtr (.t 35) (.c (.int .i64 0))) (.nil))))))
 (.cond (.t 36) (.seq (.ops (.op (some 6) (.mv (.c (.int .i64 74))) (.nil)))
 (.ret)) (.skip)))
 (.seq (.ops (.op (some 6) (.mv (.c (.int .i64 0))) (.nil)))
 (.ret))))))))

theorem ok77 : okF Tryz.prog 77 c77 = true := by kernel_rfl

/-- catacomb/catacombref07.depth -/
def b78_1 : AC := .seq (.seq (.ops (.op (some 8) (.mv (.t 1)) (.op (some 9) (.bin .neq (.t 8) (.c (.int .i64 1))) (.op (some 10) (.mv (.t 9)) (.sc 13 true 10 11 12 (.op (some 11) (.mv (.t 5)) (.op (some 12) (.bin .leq (.t 11) (.c (.int .i64 200))) (.nil))) (.t 12) (.nil))))))
 (.cond (.t 13) (.skip) (.exit 0)))
 (.block 1 (.seq (.ops (.op (some 15) (.loadr 3 true (.t 2)) (.op (some 16) (.mv (.t 1)) (.op (some 17) (.call 14 [(.t 15), (.t 16)]) (.op (some 14) (.mv (.t 17)) (.op (some 18) (.ext (.t 14) 0) (.op (some 19) (.ext (.t 14) 1) (.op (some 6) (.alloc [.int .i64 0, .int .i64 0, .int .i64 0, .lst true [], .lst true [], .int .i64 0]) (.op none (.store 6 (.t 6) (.t 18)) (.op (some 7) (.mv (.t 19)) (.nil)))))))))))
 (.seq (.ops (.op (some 20) (.fad 5 (.t 6)) (.op (some 21) (.load 1 false (.t 20)) (.op (some 1) (.mv (.t 21)) (.nil)))))
 (.ops (.op (some 22) (.mv (.t 5)) (.op (some 23) (.bin .add (.t 22) (.c (.int .i64 1))) (.op (some 5) (.mv (.t 23)) (.nil))))))))
def c78_1 : AC := b78_1
@[simp] theorem e78_1 {Γ : Tab} {V : Nat → Bool} {ρ : Type} (k : AX → St → Option ρ) (s : St) : eval Γ c78_1 V ρ k s = eval Γ b78_1 V ρ k s := rfl
def c78 : AF := AF.mk 25 [.t 4] (.seq (.ops (.op (some 2) (.rbox (.t 0)) (.op (some 4) (.mv (.c (.int .i64 0))) (.nil))))
 (.seq (.ops (.op (some 5) (.mv (.c (.int .i64 0))) (.nil)))
 (.seq (.block 0 (.loop [1, 5] [(1, 1), (5, 23)] [] [(.exit 0, [5])] c78_1))
 (.seq (.ops (.op (some 24) (.mv (.t 5)) (.op (some 4) (.mv (.t 24)) (.nil))))
 (.ret)))))

theorem ok78 : okF Tryz.prog 78 c78 = true := by kernel_rfl

/-- catacomb/catacombref07.high -/
def b79_1 : AC := .seq (.seq (.ops (.op (some 15) (.mv (.t 9)) (.op (some 16) (.fad 0 (.t 3)) (.op (some 17) (.loadr 1 false (.t 16)) (.op (some 18) (.len false (.t 17)) (.op (some 19) (.bin .lss (.t 15) (.t 18)) (.nil)))))))
 (.cond (.t 19) (.skip) (.exit 0)))
 (.seq (.block 1 (.seq (.ops (.op (some 22) (.fad 0 (.t 3)) (.op (some 23) (.loadr 1 false (.t 22)) (.op (some 24) (.mv (.t 9)) (.op (some 25) (.iad 6 (.t 23) (.t 24)) (.op (some 26) (.load 6 true (.t 25)) (.op (some 10) (.alloc [.int .i64 0, .int .i64 0, .int .i64 0, .lst true [], .lst true [], .int .i64 0]) (.op none (.store 6 (.t 10) (.t 26)) (.nil)))))))))
 (.seq (.ops (.op (some 27) (.fad 1 (.t 10)) (.op (some 28) (.load 1 false (.t 27)) (.op (some 29) (.bin .eql (.t 28) (.c (.int .i64 2))) (.op (some 30) (.mv (.t 29)) (.sc 36 true 30 31 35 (.op (some 31) (.loadr 3 true (.t 3)) (.op (some 32) (.fad 0 (.t 10)) (.op (some 33) (.load 1 false (.t 32)) (.op (some 34) (.mv (.t 1)) (.op (some 35) (.call 76 [(.t 31), (.t 33), (.t 34)]) (.nil)))))) (.t 35) (.nil)))))))
 (.cond (.t 36) (.seq (.ops (.op (some 37) (.mv (.t 2)) (.op (some 38) (.loadr 3 true (.t 3)) (.op (some 39) (.fad 0 (.t 10)) (.op (some 40) (.load 1 false (.t 39)) (.op (some 41) (.call 78 [(.t 38), (.t 40)]) (.op (some 42) (.bin .add (.t 37) (.t 41)) (.op (some 43) (.mv (.t 8)) (.op (some 44) (.bin .sub (.t 42) (.t 43)) (.op (some 11) (.mv (.t 44)) (.nil)))))))))))
 (.seq (.seq (.ops (.op (some 45) (.fad 4 (.t 10)) (.op (some 46) (.load 1 false (.t 45)) (.op (some 47) (.len false (.t 46)) (.op (some 48) (.bin .gtr (.t 47) (.c (.int .i64 0))) (.nil))))))
 (.cond (.t 48) (.ops (.op (some 49) (.mv (.t 11)) (.op (some 50) (.bin .add (.t 49) (.c (.int .i64 1))) (.op (some 11) (.mv (.t 50)) (.nil))))) (.skip)))
 (.ops (.op (some 51) (.mv (.t 7)) (.op (some 52) (.mv (.t 11)) (.op (some 53) (.mm true [(.t 51), (.t 52)]) (.op (some 7) (.mv (.t 53)) (.nil)))))))) (.skip)))))
 (.ops (.op (some 20) (.mv (.t 9)) (.op (some 21) (.bin .add (.t 20) (.c (.int .i64 1))) (.op (some 9) (.mv (.t 21)) (.nil))))))
def c79_1 : AC := b79_1
@[simp] theorem e79_1 {Γ : Tab} {V : Nat → Bool} {ρ : Type} (k : AX → St → Option ρ) (s : St) : eval Γ c79_1 V ρ k s = eval Γ b79_1 V ρ k s := rfl
def c79 : AF := AF.mk 55 [.t 6] (.seq (.ops (.op (some 3) (.rbox (.t 0)) (.op (some 6) (.mv (.c (.int .i64 0))) (.nil))))
 (.seq (.ops (.op (some 7) (.mv (.c (.int .i64 0))) (.nil)))
 (.seq (.ops (.op (some 12) (.loadr 3 true (.t 3)) (.op (some 13) (.mv (.t 1)) (.op (some 14) (.call 78 [(.t 12), (.t 13)]) (.op (some 8) (.mv (.t 14)) (.nil))))))
 (.seq (.seq (.ops (.op (some 9) (.mv (.c (.int .i64 0))) (.nil)))
 (.block 0 (.loop [7, 9] [(7, 7), (9, 11), (15, 53)] [] [(.exit 0, [7])] c79_1)))
 (.seq (.ops (.op (some 54) (.mv (.t 7)) (.op (some 6) (.mv (.t 54)) (.nil))))
 (.ret))))))

theorem ok79 : okF Tryz.prog 79 c79 = true := by kernel_rfl

/-- catacomb/catacombref07.without -/
def b80_1 : AC := .seq (.seq (.ops (.op (some 7) (.mv (.t 6)) (.op (some 8) (.fad 0 (.t 2)) (.op (some 9) (.load 1 false (.t 8)) (.op (some 10) (.len false (.t 9)) (.op (some 11) (.bin .lss (.t 7) (.t 10)) (.nil)))))))
 (.cond (.t 11) (.skip) (.exit 0)))
 (.seq (.block 1 (.seq (.ops (.op (some 14) (.fad 0 (.t 2)) (.op (some 15) (.load 1 false (.t 14)) (.op (some 16) (.mv (.t 6)) (.op (some 17) (.iad 6 (.t 15) (.t 16)) (.op (some 18) (.fad 0 (.t 17)) (.op (some 19) (.load 1 false (.t 18)) (.op (some 20) (.mv (.t 1)) (.op (some 21) (.bin .neq (.t 19) (.t 20)) (.nil))))))))))
 (.cond (.t 21) (.ops (.op (some 22) (.mv (.t 5)) (.op (some 23) (.fad 0 (.t 2)) (.op (some 24) (.load 1 false (.t 23)) (.op (some 25) (.mv (.t 6)) (.op (some 26) (.iad 6 (.t 24) (.t 25)) (.op (some 27) (.load 6 true (.t 26)) (.op (some 28) (.bslh 6 (.agg [.int .i64 0, .int .i64 0, .int .i64 0, .lst true [], .lst true [], .int .i64 0]) 1 [(0, (.t 27))]) (.op (some 29) (.app 6 80 (.t 22) (.t 28)) (.op (some 5) (.mv (.t 29)) (.nil))))))))))) (.skip))))
 (.ops (.op (some 12) (.mv (.t 6)) (.op (some 13) (.bin .add (.t 12) (.c (.int .i64 1))) (.op (some 6) (.mv (.t 13)) (.nil))))))
def c80_1 : AC := b80_1
@[simp] theorem e80_1 {Γ : Tab} {V : Nat → Bool} {ρ : Type} (k : AX → St → Option ρ) (s : St) : eval Γ c80_1 V ρ k s = eval Γ b80_1 V ρ k s := rfl
def c80 : AF := AF.mk 33 [.cell 4 3 true] (.seq (.ops (.op (some 2) (.box (.t 0)) (.op (some 4) (.alloc [.lst true [], .int .i64 0, .int .i64 0]) (.nil))))
 (.seq (.ops (.op (some 5) (.mv (.c (.lst true []))) (.nil)))
 (.seq (.seq (.ops (.op (some 6) (.mv (.c (.int .i64 0))) (.nil)))
 (.block 0 (.loop [5, 6] [(5, 29)] [(5, 6)] [(.exit 0, [5])] c80_1)))
 (.seq (.ops (.op (some 30) (.mv (.t 5)) (.op (some 31) (.fad 0 (.t 2)) (.op none (.store 1 (.t 31) (.t 30)) (.nil)))))
 (.seq (.ops (.op (some 32) (.load 3 true (.t 2)) (.op none (.store 3 (.t 4) (.t 32)) (.nil))))
 (.ret))))))

theorem ok80 : okF Tryz.prog 80 c80 = true := by kernel_rfl

/-- catacomb/catacombref09.under -/
def b81_1 : AC := .seq (.seq (.ops (.op (some 44) (.mv (.t 9)) (.op (some 45) (.fad 0 (.t 2)) (.op (some 46) (.loadr 1 false (.t 45)) (.op (some 47) (.mv (.t 8)) (.op (some 48) (.iad 6 (.t 46) (.t 47)) (.op (some 49) (.fad 4 (.t 48)) (.op (some 50) (.load 1 false (.t 49)) (.op (some 51) (.len false (.t 50)) (.op (some 52) (.bin .lss (.t 44) (.t 51)) (.nil)))))))))))
 (.cond (.t 52) (.skip) (.exit 4)))
 (.seq (.block 5 (.seq (.ops (.op (some 55) (.loadr 3 true (.t 2)) (.op (some 56) (.fad 0 (.t 2)) (.op (some 57) (.loadr 1 false (.t 56)) (.op (some 58) (.mv (.t 8)) (.op (some 59) (.iad 6 (.t 57) (.t 58)) (.op (some 60) (.fad 4 (.t 59)) (.op (some 61) (.load 1 false (.t 60)) (.op (some 62) (.mv (.t 9)) (.op (some 63) (.iad 3 (.t 61) (.t 62)) (.op (some 64) (.fad 1 (.t 63)) (.op (some 65) (.load 1 false (.t 64)) (.op (some 66) (.callp 96 [(.t 55), (.t 65)]) (.op (some 10) (.mv (.t 66)) (.nil)))))))))))))))
 (.seq (.ops (.op (some 67) (.mv (.t 10)) (.op (some 68) (.bin .geq (.t 67) (.c (.int .i64 0))) (.op (some 69) (.mv (.t 68)) (.sc 75 true 69 70 74 (.op (some 70) (.mv (.t 5)) (.op (some 71) (.mv (.t 10)) (.op (some 72) (.iad 1 (.t 70) (.t 71)) (.op (some 73) (.load 1 false (.t 72)) (.op (some 74) (.un .not (.t 73)) (.nil)))))) (.t 74) (.nil))))))
 (.cond (.t 75) (.seq (.ops (.op (some 76) (.mv (.t 5)) (.op (some 77) (.mv (.t 10)) (.op (some 78) (.iad 1 (.t 76) (.t 77)) (.op none (.store 1 (.t 78) (.c (.bool true))) (.nil))))))
 (.ops (.op (some 7) (.mv (.c (.bool true))) (.nil)))) (.skip)))))
 (.ops (.op (some 53) (.mv (.t 9)) (.op (some 54) (.bin .add (.t 53) (.c (.int .i64 1))) (.op (some 9) (.mv (.t 54)) (.nil))))))
def c81_1 : AC := b81_1
@[simp] theorem e81_1 {Γ : Tab} {V : Nat → Bool} {ρ : Type} (k : AX → St → Option ρ) (s : St) : eval Γ c81_1 V ρ k s = eval Γ b81_1 V ρ k s := rfl
def b81_2 : AC := .seq (.seq (.ops (.op (some 22) (.mv (.t 8)) (.op (some 23) (.fad 0 (.t 2)) (.op (some 24) (.loadr 1 false (.t 23)) (.op (some 25) (.len false (.t 24)) (.op (some 26) (.bin .lss (.t 22) (.t 25)) (.nil)))))))
 (.cond (.t 26) (.skip) (.exit 2)))
 (.seq (.block 3 (.seq (.seq (.ops (.op (some 29) (.mv (.t 5)) (.op (some 30) (.mv (.t 8)) (.op (some 31) (.iad 1 (.t 29) (.t 30)) (.op (some 32) (.load 1 false (.t 31)) (.op (some 33) (.un .not (.t 32)) (.op (some 34) (.mv (.t 33)) (.sc 43 true 34 35 42 (.op (some 35) (.fad 0 (.t 2)) (.op (some 36) (.loadr 1 false (.t 35)) (.op (some 37) (.mv (.t 8)) (.op (some 38) (.iad 6 (.t 36) (.t 37)) (.op (some 39) (.fad 0 (.t 38)) (.op (some 40) (.load 1 false (.t 39)) (.op (some 41) (.mv (.t 1)) (.op (some 42) (.bin .neq (.t 40) (.t 41)) (.nil))))))))) (.t 42) (.nil)))))))))
 (.cond (.t 43) (.exit 3) (.skip)))
 (.seq (.ops (.op (some 9) (.mv (.c (.int .i64 0))) (.nil)))
 (.block 4 (.loop [7, 9] [(7, 7), (9, 10), (44, 78)] [] [(.exit 4, [7])] c81_1)))))
 (.ops (.op (some 27) (.mv (.t 8)) (.op (some 28) (.bin .add (.t 27) (.c (.int .i64 1))) (.op (some 8) (.mv (.t 28)) (.nil))))))
def c81_2 : AC := b81_2
@[simp] theorem e81_2 {Γ : Tab} {V : Nat → Bool} {ρ : Type} (k : AX → St → Option ρ) (s : St) : eval Γ c81_2 V ρ k s = eval Γ b81_2 V ρ k s := rfl
def b81_3 : AC := .seq (.seq (.ops (.op (some 15) (.mv (.t 6)) (.op (some 16) (.fad 0 (.t 2)) (.op (some 17) (.loadr 1 false (.t 16)) (.op (some 18) (.len false (.t 17)) (.op (some 19) (.bin .lss (.t 15) (.t 18)) (.nil)))))))
 (.cond (.t 19) (.skip) (.exit 0)))
 (.seq (.block 1 (.seq (.ops (.op (some 7) (.mv (.c (.bool false))) (.nil)))
 (.seq (.seq (.ops (.op (some 8) (.mv (.c (.int .i64 0))) (.nil)))
 (.block 2 (.loop [7, 8] [(7, 10), (22, 78)] [] [(.exit 2, [7])] c81_2)))
 (.seq (.ops (.op (some 79) (.mv (.t 7)) (.op (some 80) (.un .not (.t 79)) (.nil))))
 (.cond (.t 80) (.seq (.ops (.op (some 81) (.mv (.t 5)) (.op (some 4) (.mv (.t 81)) (.nil))))
 (.ret)) (.skip))))))
 (.ops (.op (some 20) (.mv (.t 6)) (.op (some 21) (.bin .add (.t 20) (.c (.int .i64 1))) (.op (some 6) (.mv (.t 21)) (.nil))))))
def c81_3 : AC := b81_3
@[simp] theorem e81_3 {Γ : Tab} {V : Nat → Bool} {ρ : Type} (k : AX → St → Option ρ) (s : St) : eval Γ c81_3 V ρ k s = eval Γ b81_3 V ρ k s := rfl
def c81 : AF := AF.mk 83 [.t 4] (.seq (.ops (.op (some 2) (.rbox (.t 0)) (.op (some 4) (.mv (.c (.lst true []))) (.nil))))
 (.seq (.ops (.op (some 11) (.fad 0 (.t 2)) (.op (some 12) (.loadr 1 false (.t 11)) (.op (some 13) (.len false (.t 12)) (.op (some 14) (.mks 1 1 (.bool false) (.t 13) (.t 13)) (.op (some 5) (.mv (.t 14)) (.nil)))))))
 (.seq (.seq (.ops (.op (some 6) (.mv (.c (.int .i64 0))) (.nil)))
 (.block 0 (.loop [6] [(4, 4), (6, 10), (15, 81)] [] [(.exit 0, []), (.ret, [4])] c81_3)))
 (.seq (.ops (.op (some 82) (.mv (.t 5)) (.op (some 4) (.mv (.t 82)) (.nil))))
 (.ret)))))

theorem ok81 : okF Tryz.prog 81 c81 = true := by kernel_rfl

/-- slices.BinarySearchFunc[[]catacomb/api.Ent,catacomb/api.Ent,string] -/
def b82_1 : AC := .seq (.seq (.ops (.op (some 15) (.mv (.t 9)) (.op (some 16) (.mv (.t 10)) (.op (some 17) (.bin .lss (.t 15) (.t 16)) (.nil)))))
 (.cond (.t 17) (.skip) (.exit 0)))
 (.block 1 (.seq (.ops (.op (some 18) (.mv (.t 9)) (.op (some 19) (.mv (.t 10)) (.op (some 20) (.bin .add (.t 18) (.t 19)) (.op (some 21) (.conv .u64 (.t 20)) (.op (some 22) (.bin .shr (.t 21) (.c (.int .u64 1))) (.op (some 23) (.conv .i64 (.t 22)) (.op (some 11) (.mv (.t 23)) (.nil)))))))))
 (.seq (.ops (.op (some 24) (.mv (.t 2)) (.op (some 25) (.mv (.t 0)) (.op (some 26) (.mv (.t 11)) (.op (some 27) (.iad 3 (.t 25) (.t 26)) (.op (some 28) (.load 3 true (.t 27)) (.op (some 29) (.mv (.t 1)) (.op (some 30) (.callv (.t 24) [(.t 28), (.t 29)]) (.op (some 31) (.bin .lss (.t 30) (.c (.int .i64 0))) (.nil))))))))))
 (.cond (.t 31) (.ops (.op (some 32) (.mv (.t 11)) (.op (some 33) (.bin .add (.t 32) (.c (.int .i64 1))) (.op (some 9) (.mv (.t 33)) (.nil))))) (.ops (.op (some 34) (.mv (.t 11)) (.op (some 10) (.mv (.t 34)) (.nil))))))))
def c82_1 : AC := b82_1
@[simp] theorem e82_1 {Γ : Tab} {V : Nat → Bool} {ρ : Type} (k : AX → St → Option ρ) (s : St) : eval Γ c82_1 V ρ k s = eval Γ b82_1 V ρ k s := rfl
def c82 : AF := AF.mk 49 [.t 6, .t 7] (.seq (.ops (.op (some 6) (.mv (.c (.int .i64 0))) (.op (some 7) (.mv (.c (.bool false))) (.nil))))
 (.seq (.ops (.op (some 12) (.mv (.t 0)) (.op (some 13) (.len false (.t 12)) (.op (some 8) (.mv (.t 13)) (.nil)))))
 (.seq (.ops (.op (some 14) (.mv (.t 8)) (.op (some 9) (.mv (.c (.int .i64 0))) (.op (some 10) (.mv (.t 14)) (.nil)))))
 (.seq (.block 0 (.loop [9, 10] [(9, 11), (15, 34)] [] [(.exit 0, [9])] c82_1))
 (.seq (.ops (.op (some 35) (.mv (.t 9)) (.op (some 36) (.mv (.t 9)) (.op (some 37) (.mv (.t 8)) (.op (some 38) (.bin .lss (.t 36) (.t 37)) (.op (some 39) (.mv (.t 38)) (.sc 48 true 39 40 47 (.op (some 40) (.mv (.t 2)) (.op (some 41) (.mv (.t 0)) (.op (some 42) (.mv (.t 9)) (.op (some 43) (.iad 3 (.t 41) (.t 42)) (.op (some 44) (.load 3 true (.t 43)) (.op (some 45) (.mv (.t 1)) (.op (some 46) (.callv (.t 40) [(.t 44), (.t 45)]) (.op (some 47) (.bin .eql (.t 46) (.c (.int .i64 0))) (.nil))))))))) (.t 47) (.op (some 6) (.mv (.t 35)) (.op (some 7) (.mv (.t 48)) (.nil))))))))))
 (.ret))))))

theorem ok82 : okF Tryz.prog 82 c82 = true := by kernel_rfl

/-- catacomb/tree.ent$1 -/
def c83 : AF := AF.mk 9 [.t 4] (.seq (.ops (.op (some 2) (.rbox (.t 0)) (.op (some 4) (.mv (.c (.int .i64 0))) (.nil))))
 (.seq (.ops (.op (some 5) (.fad 0 (.t 2)) (.op (some 6) (.loadr 1 false (.t 5)) (.op (some 7) (.mv (.t 1)) (.op (some 8) (.call 84 [(.t 6), (.t 7)]) (.op (some 4) (.mv (.t 8)) (.nil)))))))
 (.ret)))

theorem ok83 : okF Tryz.prog 83 c83 = true := by kernel_rfl

/-- strings.Compare -/
def c84 : AF := AF.mk 8 [.t 4] (.seq (.ops (.op (some 4) (.mv (.c (.int .i64 0))) (.nil)))
 (.seq (.ops (.op (some 5) (.mv (.t 0)) (.op (some 6) (.mv (.t 1)) (.op (some 7) (.call 97 [(.t 5), (.t 6)]) (.op (some 4) (.mv (.t 7)) (.nil))))))
 (.ret)))

theorem ok84 : okF Tryz.prog 84 c84 = true := by kernel_rfl

/-- (*catacomb/tree.grove).ups -/
def b85_1 : AC := .seq (.seq (.ops (.op (some 10) (.mv (.t 1)) (.op (some 11) (.bin .neq (.t 10) (.c (.int .i64 1))) (.op (some 12) (.mv (.t 11)) (.sc 22 true 12 13 21 (.op (some 13) (.mv (.t 5)) (.op (some 14) (.len false (.t 13)) (.op (some 15) (.mv (.t 0)) (.op (some 16) (.nck (.t 15)) (.op (some 17) (.fad 0 (.t 16)) (.op (some 18) (.fad 0 (.t 17)) (.op (some 19) (.load 1 false (.t 18)) (.op (some 20) (.len false (.t 19)) (.op (some 21) (.bin .leq (.t 14) (.t 20)) (.nil)))))))))) (.t 21) (.nil))))))
 (.cond (.t 22) (.skip) (.exit 0)))
 (.block 1 (.seq (.ops (.op (some 24) (.mv (.t 0)) (.op (some 25) (.mv (.t 1)) (.op (some 26) (.call 33 [(.t 24), (.t 25)]) (.op (some 23) (.mv (.t 26)) (.op (some 27) (.ext (.t 23) 0) (.op (some 28) (.ext (.t 23) 1) (.op (some 6) (.alloc [.int .i64 0, .int .i64 0, .int .i64 0, .lst true [], .lst true [], .int .i64 0]) (.op none (.store 6 (.t 6) (.t 27)) (.op (some 7) (.mv (.t 28)) (.nil)))))))))))
 (.seq (.seq (.ops (.op (some 29) (.mv (.t 7)) (.op (some 30) (.un .not (.t 29)) (.op (some 31) (.mv (.t 30)) (.sc 35 false 31 32 34 (.op (some 32) (.fad 1 (.t 6)) (.op (some 33) (.load 1 false (.t 32)) (.op (some 34) (.bin .neq (.t 33) (.c (.int .i64 2))) (.nil)))) (.t 34) (.nil))))))
 (.cond (.t 35) (.seq (.ops (.op (some 36) (.mv (.t 5)) (.op (some 4) (.mv (.t 36)) (.nil))))
 (.ret)) (.skip)))
 (.seq (.ops (.op (some 37) (.fad 5 (.t 6)) (.op (some 38) (.load 1 false (.t 37)) (.op (some 1) (.mv (.t 38)) (.nil)))))
 (.ops (.op (some 39) (.mv (.t 5)) (.op (some 40) (.mv (.t 1)) (.op (some 41) (.bslh 1 (.int .i64 0) 1 [(0, (.t 40))]) (.op (some 42) (.app 1 8 (.t 39) (.t 41)) (.op (some 5) (.mv (.t 42)) (.nil)))))))))))
def c85_1 : AC := b85_1
@[simp] theorem e85_1 {Γ : Tab} {V : Nat → Bool} {ρ : Type} (k : AX → St → Option ρ) (s : St) : eval Γ c85_1 V ρ k s = eval Γ b85_1 V ρ k s := rfl
def c85 : AF := AF.mk 44 [.t 4] (.seq (.ops (.op (some 4) (.mv (.c (.lst true []))) (.nil)))
 (.seq (.ops (.op (some 8) (.mv (.t 1)) (.op (some 9) (.bslo 1 (.int .i64 0) 1 [(0, (.t 8))]) (.op (some 5) (.mv (.t 9)) (.nil)))))
 (.seq (.block 0 (.loop [1, 5] [(1, 1), (4, 7), (10, 42)] [(5, 1)] [(.exit 0, [5]), (.ret, [4])] c85_1))
 (.seq (.ops (.op (some 43) (.mv (.t 5)) (.op (some 4) (.mv (.t 43)) (.nil))))
 (.ret)))))

theorem ok85 : okF Tryz.prog 85 c85 = true := by kernel_rfl

/-- slices.BinarySearchFunc[[]catacomb/api.Node,catacomb/api.Node,int] -/
def b86_1 : AC := .seq (.seq (.ops (.op (some 15) (.mv (.t 9)) (.op (some 16) (.mv (.t 10)) (.op (some 17) (.bin .lss (.t 15) (.t 16)) (.nil)))))
 (.cond (.t 17) (.skip) (.exit 0)))
 (.block 1 (.seq (.ops (.op (some 18) (.mv (.t 9)) (.op (some 19) (.mv (.t 10)) (.op (some 20) (.bin .add (.t 18) (.t 19)) (.op (some 21) (.conv .u64 (.t 20)) (.op (some 22) (.bin .shr (.t 21) (.c (.int .u64 1))) (.op (some 23) (.conv .i64 (.t 22)) (.op (some 11) (.mv (.t 23)) (.nil)))))))))
 (.seq (.ops (.op (some 24) (.mv (.t 2)) (.op (some 25) (.mv (.t 0)) (.op (some 26) (.mv (.t 11)) (.op (some 27) (.iad 6 (.t 25) (.t 26)) (.op (some 28) (.load 6 true (.t 27)) (.op (some 29) (.mv (.t 1)) (.op (some 30) (.callv (.t 24) [(.t 28), (.t 29)]) (.op (some 31) (.bin .lss (.t 30) (.c (.int .i64 0))) (.nil))))))))))
 (.cond (.t 31) (.ops (.op (some 32) (.mv (.t 11)) (.op (some 33) (.bin .add (.t 32) (.c (.int .i64 1))) (.op (some 9) (.mv (.t 33)) (.nil))))) (.ops (.op (some 34) (.mv (.t 11)) (.op (some 10) (.mv (.t 34)) (.nil))))))))
def c86_1 : AC := b86_1
@[simp] theorem e86_1 {Γ : Tab} {V : Nat → Bool} {ρ : Type} (k : AX → St → Option ρ) (s : St) : eval Γ c86_1 V ρ k s = eval Γ b86_1 V ρ k s := rfl
def c86 : AF := AF.mk 49 [.t 6, .t 7] (.seq (.ops (.op (some 6) (.mv (.c (.int .i64 0))) (.op (some 7) (.mv (.c (.bool false))) (.nil))))
 (.seq (.ops (.op (some 12) (.mv (.t 0)) (.op (some 13) (.len false (.t 12)) (.op (some 8) (.mv (.t 13)) (.nil)))))
 (.seq (.ops (.op (some 14) (.mv (.t 8)) (.op (some 9) (.mv (.c (.int .i64 0))) (.op (some 10) (.mv (.t 14)) (.nil)))))
 (.seq (.block 0 (.loop [9, 10] [(9, 11), (15, 34)] [] [(.exit 0, [9])] c86_1))
 (.seq (.ops (.op (some 35) (.mv (.t 9)) (.op (some 36) (.mv (.t 9)) (.op (some 37) (.mv (.t 8)) (.op (some 38) (.bin .lss (.t 36) (.t 37)) (.op (some 39) (.mv (.t 38)) (.sc 48 true 39 40 47 (.op (some 40) (.mv (.t 2)) (.op (some 41) (.mv (.t 0)) (.op (some 42) (.mv (.t 9)) (.op (some 43) (.iad 6 (.t 41) (.t 42)) (.op (some 44) (.load 6 true (.t 43)) (.op (some 45) (.mv (.t 1)) (.op (some 46) (.callv (.t 40) [(.t 44), (.t 45)]) (.op (some 47) (.bin .eql (.t 46) (.c (.int .i64 0))) (.nil))))))))) (.t 47) (.op (some 6) (.mv (.t 35)) (.op (some 7) (.mv (.t 48)) (.nil))))))))))
 (.ret))))))

theorem ok86 : okF Tryz.prog 86 c86 = true := by kernel_rfl

/-- (*catacomb/tree.grove).at$1 -/
def c87 : AF := AF.mk 9 [.t 4] (.seq (.ops (.op (some 2) (.rbox (.t 0)) (.op (some 4) (.mv (.c (.int .i64 0))) (.nil))))
 (.seq (.ops (.op (some 5) (.fad 0 (.t 2)) (.op (some 6) (.loadr 1 false (.t 5)) (.op (some 7) (.mv (.t 1)) (.op (some 8) (.call 62 [(.t 6), (.t 7)]) (.op (some 4) (.mv (.t 8)) (.nil)))))))
 (.ret)))

theorem ok87 : okF Tryz.prog 87 c87 = true := by kernel_rfl

/-- cmp.isNaN[int] -/
def c92 : AF := AF.mk 6 [.t 2] (.seq (.ops (.op (some 2) (.mv (.c (.bool false))) (.nil)))
 (.seq (.ops (.op (some 3) (.mv (.t 0)) (.op (some 4) (.mv (.t 0)) (.op (some 5) (.bin .neq (.t 3) (.t 4)) (.op (some 2) (.mv (.t 5)) (.nil))))))
 (.ret)))

theorem ok92 : okF Tryz.prog 92 c92 = true := by kernel_rfl

/-- catacomb/catacombref07.full -/
def c94 : AF := AF.mk 21 [.t 4] (.seq (.ops (.op (some 2) (.rbox (.t 0)) (.op (some 3) (.rbox (.t 1)) (.op (some 4) (.mv (.c (.bool false))) (.nil)))))
 (.seq (.ops (.op (some 5) (.fad 4 (.t 3)) (.op (some 6) (.loadr 1 false (.t 5)) (.op (some 7) (.len false (.t 6)) (.op (some 8) (.bin .geq (.t 7) (.c (.int .i64 64))) (.op (some 9) (.mv (.t 8)) (.sc 15 false 9 10 14 (.op (some 10) (.loadr 3 true (.t 2)) (.op (some 11) (.fad 0 (.t 3)) (.op (some 12) (.loadr 1 false (.t 11)) (.op (some 13) (.call 78 [(.t 10), (.t 12)]) (.op (some 14) (.bin .geq (.t 13) (.c (.int .i64 12))) (.nil)))))) (.t 14) (.op (some 16) (.mv (.t 15)) (.sc 20 false 16 17 19 (.op (some 17) (.fad 2 (.t 2)) (.op (some 18) (.loadr 1 false (.t 17)) (.op (some 19) (.bin .geq (.t 18) (.c (.int .i64 1099511627776))) (.nil)))) (.t 19) (.op (some 4) (.mv (.t 20)) (.nil)))))))))))
 (.ret)))

theorem ok94 : okF Tryz.prog 94 c94 = true := by kernel_rfl

/-- catacomb/catacombref09.place -/
def b96_1 : AC := .seq (.seq (.ops (.op (some 6) (.mv (.t 5)) (.op (some 7) (.fad 0 (.t 2)) (.op (some 8) (.loadr 1 false (.t 7)) (.op (some 9) (.len false (.t 8)) (.op (some 10) (.bin .lss (.t 6) (.t 9)) (.nil)))))))
 (.cond (.t 10) (.skip) (.exit 0)))
 (.seq (.block 1 (.seq (.ops (.op (some 13) (.fad 0 (.t 2)) (.op (some 14) (.loadr 1 false (.t 13)) (.op (some 15) (.mv (.t 5)) (.op (some 16) (.iad 6 (.t 14) (.t 15)) (.op (some 17) (.fad 0 (.t 16)) (.op (some 18) (.load 1 false (.t 17)) (.op (some 19) (.mv (.t 1)) (.op (some 20) (.bin .eql (.t 18) (.t 19)) (.nil))))))))))
 (.cond (.t 20) (.seq (.ops (.op (some 21) (.mv (.t 5)) (.op (some 4) (.mv (.t 21)) (.nil))))
 (.ret)) (.skip))))
 (.ops (.op (some 11) (.mv (.t 5)) (.op (some 12) (.bin .add (.t 11) (.c (.int .i64 1))) (.op (some 5) (.mv (.t 12)) (.nil))))))
def c96_1 : AC := b96_1
@[simp] theorem e96_1 {Γ : Tab} {V : Nat → Bool} {ρ : Type} (k : AX → St → Option ρ) (s : St) : eval Γ c96_1 V ρ k s = eval Γ b96_1 V ρ k s := rfl
def c96 : AF := AF.mk 22 [.t 4] (.seq (.ops (.op (some 2) (.rbox (.t 0)) (.op (some 4) (.mv (.c (.int .i64 0))) (.nil))))
 (.seq (.seq (.ops (.op (some 5) (.mv (.c (.int .i64 0))) (.nil)))
 (.block 0 (.loop [5] [(4, 21)] [] [(.exit 0, []), (.ret, [4])] c96_1)))
 (.seq (.ops (.op (some 4) (.mv (.c (.int .i64 (-1)))) (.nil)))
 (.ret))))

theorem ok96 : okF Tryz.prog 96 c96 = true := by kernel_rfl

end Go.Proofs.YtfdenmkoampgnaaGreat
