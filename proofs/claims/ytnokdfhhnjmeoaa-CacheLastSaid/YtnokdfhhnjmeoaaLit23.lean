/-
  Literals of functions, for the abstract machine; that they are meant.
-/
import Derived.Test.YtnokdfhhnjmeoaaProg
import Derived.Test.YtnokdfhhnjmeoaaAmGU
import Derived.Test.YtnokdfhhnjmeoaaAmGS
import Derived.KernelRfl
set_option linter.unusedSimpArgs false
set_option linter.unusedVariables false
namespace Go.Proofs.Ytnokdfhhnjmeoaa
open Go.Am
/-- catacomb/catacomblaw23.CacheTells -/
def b3_1 : AC := .seq (.seq (.ops (.op (some 36) (.mv (.t 10)) (.op (some 37) (.mv (.t 1)) (.op (some 38) (.len false (.t 37)) (.op (some 39) (.bin .lss (.t 36) (.t 38)) (.nil))))))
 (.cond (.t 39) (.skip) (.exit 0)))
 (.seq (.block 1 (.seq (.ops (.op (some 42) (.mv (.t 1)) (.op (some 43) (.mv (.t 10)) (.op (some 44) (.iad 6 (.t 42) (.t 43)) (.op (some 45) (.fad 1 (.t 44)) (.op (some 46) (.load 1 false (.t 45)) (.op (some 47) (.len true (.t 46)) (.op (some 48) (.bin .gtr (.t 47) (.c (.int .i64 40))) (.op (some 49) (.mv (.t 48)) (.sc 57 false 49 50 56 (.op (some 50) (.mv (.t 1)) (.op (some 51) (.mv (.t 10)) (.op (some 52) (.iad 6 (.t 50) (.t 51)) (.op (some 53) (.fad 4 (.t 52)) (.op (some 54) (.load 1 false (.t 53)) (.op (some 55) (.len false (.t 54)) (.op (some 56) (.bin .gtr (.t 55) (.c (.int .i64 100))) (.nil)))))))) (.t 56) (.nil)))))))))))
 (.cond (.t 57) (.seq (.ops (.op (some 58) (.mv (.t 9)) (.op (some 8) (.mv (.t 58)) (.nil))))
 (.ret)) (.skip))))
 (.ops (.op (some 40) (.mv (.t 10)) (.op (some 41) (.bin .add (.t 40) (.c (.int .i64 1))) (.op (some 10) (.mv (.t 41)) (.nil))))))
def c3_1 : AC := b3_1
@[simp] theorem e3_1 {Γ : Tab} {V : Nat → Bool} {ρ : Type} (k : AX → St → Option ρ) (s : St) : eval Γ c3_1 V ρ k s = eval Γ b3_1 V ρ k s := rfl
def b3_2 : AC := .seq (.seq (.ops (.op (some 64) (.mv (.t 13)) (.op (some 65) (.mv (.t 0)) (.op (some 66) (.len false (.t 65)) (.op (some 67) (.bin .lss (.t 64) (.t 66)) (.nil))))))
 (.cond (.t 67) (.skip) (.exit 2)))
 (.seq (.block 3 (.seq (.ops (.op (some 70) (.mv (.t 11)) (.op (some 71) (.mv (.t 0)) (.op (some 72) (.mv (.t 13)) (.op (some 73) (.iad 7 (.t 71) (.t 72)) (.op (some 74) (.load 7 true (.t 73)) (.op (some 75) (.call 13 [(.t 70), (.t 74)]) (.op (some 11) (.mv (.t 75)) (.nil)))))))))
 (.seq (.ops (.op (some 76) (.mv (.t 12)) (.op (some 77) (.mv (.t 0)) (.op (some 78) (.mv (.t 13)) (.op (some 79) (.iad 7 (.t 77) (.t 78)) (.op (some 80) (.load 7 true (.t 79)) (.op (some 81) (.call 14 [(.t 76), (.t 80)]) (.op (some 12) (.mv (.t 81)) (.nil)))))))))
 (.seq (.ops (.op (some 82) (.mv (.t 11)) (.op (some 83) (.mv (.t 12)) (.op (some 84) (.call 15 [(.t 82), (.t 83)]) (.op (some 85) (.un .not (.t 84)) (.op (some 86) (.mv (.t 85)) (.sc 90 false 86 87 89 (.op (some 87) (.mv (.t 11)) (.op (some 88) (.call 11 [(.t 87)]) (.op (some 89) (.un .not (.t 88)) (.nil)))) (.t 89) (.nil))))))))
 (.cond (.t 90) (.seq (.ops (.op (some 8) (.mv (.c (.bool false))) (.nil)))
 (.ret)) (.skip))))))
 (.ops (.op (some 68) (.mv (.t 13)) (.op (some 69) (.bin .add (.t 68) (.c (.int .i64 1))) (.op (some 13) (.mv (.t 69)) (.nil))))))
def c3_2 : AC := b3_2
@[simp] theorem e3_2 {Γ : Tab} {V : Nat → Bool} {ρ : Type} (k : AX → St → Option ρ) (s : St) : eval Γ c3_2 V ρ k s = eval Γ b3_2 V ρ k s := rfl
def c3 : AF := AF.mk 152 [.t 8] (.seq (.ops (.op (some 6) (.box (.t 2)) (.op (some 8) (.mv (.c (.bool false))) (.nil))))
 (.seq (.ops (.op (some 22) (.call 9 []) (.op (some 9) (.mv (.t 22)) (.nil))))
 (.seq (.seq (.ops (.op (some 23) (.mv (.t 0)) (.op (some 24) (.call 10 [(.t 23)]) (.op (some 25) (.mv (.t 24)) (.sc 29 false 25 26 28 (.op (some 26) (.load 7 true (.t 6)) (.op (some 27) (.bslh 7 (.agg [.int .u8 0, .int .i64 0, .int .i64 0, .str [], .int .i64 0, .lst true [], .int .i64 0]) 1 [(0, (.t 26))]) (.op (some 28) (.call 10 [(.t 27)]) (.nil)))) (.t 28) (.op (some 30) (.mv (.t 29)) (.sc 34 false 30 31 33 (.op (some 31) (.mv (.t 1)) (.op (some 32) (.len false (.t 31)) (.op (some 33) (.bin .gtr (.t 32) (.c (.int .i64 60))) (.nil)))) (.t 33) (.nil))))))))
 (.cond (.t 34) (.seq (.ops (.op (some 35) (.mv (.t 9)) (.op (some 8) (.mv (.t 35)) (.nil))))
 (.ret)) (.skip)))
 (.seq (.seq (.ops (.op (some 10) (.mv (.c (.int .i64 0))) (.nil)))
 (.block 0 (.loop [10] [(8, 8), (10, 10), (36, 58)] [] [(.exit 0, []), (.ret, [8])] c3_1)))
 (.seq (.seq (.ops (.op (some 59) (.mv (.t 1)) (.op (some 60) (.call 11 [(.t 59)]) (.op (some 61) (.mv (.t 1)) (.op (some 62) (.call 12 [(.t 61)]) (.op (some 63) (.beq true (.t 60) (.t 62)) (.nil)))))))
 (.cond (.t 63) (.seq (.ops (.op (some 8) (.mv (.c (.bool false))) (.nil)))
 (.ret)) (.skip)))
 (.seq (.ops (.op (some 11) (.mv (.c (.lst true []))) (.nil)))
 (.seq (.ops (.op (some 12) (.mv (.c (.lst true []))) (.nil)))
 (.seq (.seq (.ops (.op (some 13) (.mv (.c (.int .i64 0))) (.nil)))
 (.block 2 (.loop [11, 12, 13] [(8, 8), (11, 13), (64, 90)] [] [(.exit 2, [11, 12]), (.ret, [8])] c3_2)))
 (.seq (.ops (.op (some 92) (.mv (.t 11)) (.op (some 93) (.fad 1 (.t 6)) (.op (some 94) (.load 1 false (.t 93)) (.op (some 95) (.fad 2 (.t 6)) (.op (some 96) (.load 1 false (.t 95)) (.op (some 97) (.mv (.t 3)) (.op (some 98) (.call 16 [(.t 92), (.t 94), (.t 96), (.t 97)]) (.op (some 91) (.mv (.t 98)) (.op (some 99) (.ext (.t 91) 0) (.op (some 100) (.ext (.t 91) 1) (.op (some 14) (.mv (.t 99)) (.op (some 15) (.mv (.t 100)) (.nil))))))))))))))
 (.seq (.ops (.op (some 102) (.mv (.t 12)) (.op (some 103) (.fad 1 (.t 6)) (.op (some 104) (.load 1 false (.t 103)) (.op (some 105) (.fad 2 (.t 6)) (.op (some 106) (.load 1 false (.t 105)) (.op (some 107) (.mv (.t 3)) (.op (some 108) (.call 17 [(.t 102), (.t 104), (.t 106), (.t 107)]) (.op (some 101) (.mv (.t 108)) (.op (some 109) (.ext (.t 101) 0) (.op (some 110) (.ext (.t 101) 1) (.op (some 16) (.mv (.t 109)) (.op (some 17) (.mv (.t 110)) (.nil))))))))))))))
 (.seq (.ops (.op (some 112) (.mv (.t 11)) (.op (some 113) (.fad 1 (.t 6)) (.op (some 114) (.load 1 false (.t 113)) (.op (some 115) (.fad 3 (.t 6)) (.op (some 116) (.load 1 false (.t 115)) (.op (some 117) (.mv (.t 3)) (.op (some 118) (.call 18 [(.t 112), (.t 114), (.t 116), (.t 117)]) (.op (some 111) (.mv (.t 118)) (.op (some 119) (.ext (.t 111) 0) (.op (some 120) (.ext (.t 111) 1) (.op (some 18) (.mv (.t 119)) (.op (some 19) (.mv (.t 120)) (.nil))))))))))))))
 (.seq (.ops (.op (some 122) (.mv (.t 12)) (.op (some 123) (.fad 1 (.t 6)) (.op (some 124) (.load 1 false (.t 123)) (.op (some 125) (.fad 3 (.t 6)) (.op (some 126) (.load 1 false (.t 125)) (.op (some 127) (.mv (.t 3)) (.op (some 128) (.call 19 [(.t 122), (.t 124), (.t 126), (.t 127)]) (.op (some 121) (.mv (.t 128)) (.op (some 129) (.ext (.t 121) 0) (.op (some 130) (.ext (.t 121) 1) (.op (some 20) (.mv (.t 129)) (.op (some 21) (.mv (.t 130)) (.nil))))))))))))))
 (.seq (.ops (.op (some 131) (.mv (.t 9)) (.op (some 132) (.mv (.t 131)) (.sc 136 true 132 133 135 (.op (some 133) (.mv (.t 15)) (.op (some 134) (.mv (.t 17)) (.op (some 135) (.beq false (.t 133) (.t 134)) (.nil)))) (.t 135) (.op (some 137) (.mv (.t 136)) (.sc 141 true 137 138 140 (.op (some 138) (.mv (.t 14)) (.op (some 139) (.mv (.t 16)) (.op (some 140) (.call 20 [(.t 138), (.t 139)]) (.nil)))) (.t 140) (.op (some 142) (.mv (.t 141)) (.sc 146 true 142 143 145 (.op (some 143) (.mv (.t 19)) (.op (some 144) (.mv (.t 21)) (.op (some 145) (.beq false (.t 143) (.t 144)) (.nil)))) (.t 145) (.op (some 147) (.mv (.t 146)) (.sc 151 true 147 148 150 (.op (some 148) (.mv (.t 18)) (.op (some 149) (.mv (.t 20)) (.op (some 150) (.bin .eql (.t 148) (.t 149)) (.nil)))) (.t 150) (.op (some 8) (.mv (.t 151)) (.nil))))))))))))
 (.ret))))))))))))))

theorem ok3 : okF Try.prog 3 c3 = true := by kernel_rfl

/-- catacomb/catacomblaw23.CacheLast -/
def b4_1 : AC := .seq (.seq (.ops (.op (some 26) (.mv (.t 11)) (.op (some 27) (.mv (.t 0)) (.op (some 28) (.len false (.t 27)) (.op (some 29) (.bin .lss (.t 26) (.t 28)) (.nil))))))
 (.cond (.t 29) (.skip) (.exit 0)))
 (.seq (.block 1 (.seq (.ops (.op (some 32) (.mv (.t 0)) (.op (some 33) (.mv (.t 11)) (.op (some 34) (.iad 7 (.t 32) (.t 33)) (.op (some 35) (.load 7 true (.t 34)) (.op (some 12) (.alloc [.int .u8 0, .int .i64 0, .int .i64 0, .str [], .int .i64 0, .lst true [], .int .i64 0]) (.op none (.store 7 (.t 12) (.t 35)) (.nil))))))))
 (.seq (.ops (.op (some 36) (.mv (.t 8)) (.op (some 37) (.load 7 true (.t 12)) (.op (some 38) (.call 13 [(.t 36), (.t 37)]) (.op (some 8) (.mv (.t 38)) (.nil))))))
 (.seq (.ops (.op (some 39) (.fad 0 (.t 12)) (.op (some 40) (.load 1 false (.t 39)) (.op (some 41) (.bin .rem (.t 40) (.c (.int .u8 4))) (.nil)))))
 (.block 2 (.seq (.ops (.op (some 67) (.bin .eql (.t 41) (.c (.int .u8 0))) (.op (some 66) (.mv (.t 67)) (.nil))))
 (.cond (.t 66) (.seq (.ops (.op (some 68) (.fad 1 (.t 12)) (.op (some 69) (.load 1 false (.t 68)) (.op (some 70) (.fad 1 (.t 4)) (.op (some 71) (.load 1 false (.t 70)) (.op (some 72) (.bin .eql (.t 69) (.t 71)) (.op (some 73) (.mv (.t 72)) (.sc 79 true 73 74 78 (.op (some 74) (.fad 2 (.t 12)) (.op (some 75) (.load 1 false (.t 74)) (.op (some 76) (.fad 2 (.t 4)) (.op (some 77) (.load 1 false (.t 76)) (.op (some 78) (.bin .eql (.t 75) (.t 77)) (.nil)))))) (.t 78) (.nil)))))))))
 (.cond (.t 79) (.ops (.op (some 80) (.mv (.t 11)) (.op (some 9) (.mv (.t 80)) (.nil)))) (.skip))) (.seq (.ops (.op (some 82) (.bin .eql (.t 41) (.c (.int .u8 1))) (.op (some 81) (.mv (.t 82)) (.nil))))
 (.cond (.t 81) (.seq (.ops (.op (some 83) (.fad 1 (.t 12)) (.op (some 84) (.load 1 false (.t 83)) (.op (some 85) (.fad 1 (.t 4)) (.op (some 86) (.load 1 false (.t 85)) (.op (some 87) (.bin .eql (.t 84) (.t 86)) (.op (some 88) (.mv (.t 87)) (.sc 94 true 88 89 93 (.op (some 89) (.fad 3 (.t 12)) (.op (some 90) (.load 1 false (.t 89)) (.op (some 91) (.fad 3 (.t 4)) (.op (some 92) (.load 1 false (.t 91)) (.op (some 93) (.bin .eql (.t 90) (.t 92)) (.nil)))))) (.t 93) (.op (some 95) (.mv (.t 94)) (.sc 99 true 95 96 98 (.op (some 96) (.fad 3 (.t 12)) (.op (some 97) (.load 1 false (.t 96)) (.op (some 98) (.bin .neq (.t 97) (.c (.str []))) (.nil)))) (.t 98) (.nil)))))))))))
 (.cond (.t 99) (.ops (.op (some 100) (.mv (.t 11)) (.op (some 10) (.mv (.t 100)) (.nil)))) (.skip))) (.seq (.ops (.op (some 102) (.bin .eql (.t 41) (.c (.int .u8 2))) (.op (some 101) (.mv (.t 102)) (.nil))))
 (.cond (.t 101) (.seq (.ops (.op (some 103) (.fad 1 (.t 12)) (.op (some 104) (.load 1 false (.t 103)) (.op (some 105) (.fad 1 (.t 4)) (.op (some 106) (.load 1 false (.t 105)) (.op (some 107) (.bin .eql (.t 104) (.t 106)) (.nil)))))))
 (.cond (.t 107) (.seq (.ops (.op (some 9) (.mv (.c (.int .i64 (-1)))) (.nil)))
 (.ops (.op (some 10) (.mv (.c (.int .i64 (-1)))) (.nil)))) (.skip))) (.seq (.seq (.ops (.op (some 42) (.mv (.t 9)) (.op (some 43) (.bin .geq (.t 42) (.c (.int .i64 0))) (.op (some 44) (.mv (.t 43)) (.sc 53 true 44 45 52 (.op (some 45) (.mv (.t 0)) (.op (some 46) (.mv (.t 9)) (.op (some 47) (.iad 7 (.t 45) (.t 46)) (.op (some 48) (.fad 6 (.t 47)) (.op (some 49) (.load 1 false (.t 48)) (.op (some 50) (.fad 6 (.t 12)) (.op (some 51) (.load 1 false (.t 50)) (.op (some 52) (.bin .leq (.t 49) (.t 51)) (.nil))))))))) (.t 52) (.nil))))))
 (.cond (.t 53) (.ops (.op (some 9) (.mv (.c (.int .i64 (-1)))) (.nil))) (.skip)))
 (.seq (.ops (.op (some 54) (.mv (.t 10)) (.op (some 55) (.bin .geq (.t 54) (.c (.int .i64 0))) (.op (some 56) (.mv (.t 55)) (.sc 65 true 56 57 64 (.op (some 57) (.mv (.t 0)) (.op (some 58) (.mv (.t 10)) (.op (some 59) (.iad 7 (.t 57) (.t 58)) (.op (some 60) (.fad 6 (.t 59)) (.op (some 61) (.load 1 false (.t 60)) (.op (some 62) (.fad 6 (.t 12)) (.op (some 63) (.load 1 false (.t 62)) (.op (some 64) (.bin .leq (.t 61) (.t 63)) (.nil))))))))) (.t 64) (.nil))))))
 (.cond (.t 65) (.ops (.op (some 10) (.mv (.c (.int .i64 (-1)))) (.nil))) (.skip)))))))))))))))
 (.ops (.op (some 30) (.mv (.t 11)) (.op (some 31) (.bin .add (.t 30) (.c (.int .i64 1))) (.op (some 11) (.mv (.t 31)) (.nil))))))
def c4_1 : AC := b4_1
@[simp] theorem e4_1 {Γ : Tab} {V : Nat → Bool} {ρ : Type} (k : AX → St → Option ρ) (s : St) : eval Γ c4_1 V ρ k s = eval Γ b4_1 V ρ k s := rfl
def c4 : AF := AF.mk 200 [.t 6] (.seq (.ops (.op (some 4) (.box (.t 1)) (.op (some 6) (.mv (.c (.bool false))) (.nil))))
 (.seq (.ops (.op (some 17) (.call 9 []) (.op (some 7) (.mv (.t 17)) (.nil))))
 (.seq (.seq (.ops (.op (some 18) (.mv (.t 0)) (.op (some 19) (.call 10 [(.t 18)]) (.op (some 20) (.mv (.t 19)) (.sc 24 false 20 21 23 (.op (some 21) (.load 7 true (.t 4)) (.op (some 22) (.bslh 7 (.agg [.int .u8 0, .int .i64 0, .int .i64 0, .str [], .int .i64 0, .lst true [], .int .i64 0]) 1 [(0, (.t 21))]) (.op (some 23) (.call 10 [(.t 22)]) (.nil)))) (.t 23) (.nil))))))
 (.cond (.t 24) (.seq (.ops (.op (some 25) (.mv (.t 7)) (.op (some 6) (.mv (.t 25)) (.nil))))
 (.ret)) (.skip)))
 (.seq (.ops (.op (some 8) (.mv (.c (.lst true []))) (.nil)))
 (.seq (.ops (.op (some 9) (.mv (.c (.int .i64 (-1)))) (.nil)))
 (.seq (.ops (.op (some 10) (.mv (.c (.int .i64 (-1)))) (.nil)))
 (.seq (.seq (.ops (.op (some 11) (.mv (.c (.int .i64 0))) (.nil)))
 (.block 0 (.loop [8, 9, 10, 11] [(8, 12), (26, 107)] [] [(.exit 0, [8, 9, 10])] c4_1)))
 (.seq (.ops (.op (some 109) (.mv (.t 8)) (.op (some 110) (.fad 1 (.t 4)) (.op (some 111) (.load 1 false (.t 110)) (.op (some 112) (.fad 2 (.t 4)) (.op (some 113) (.load 1 false (.t 112)) (.op (some 114) (.mv (.t 2)) (.op (some 115) (.call 16 [(.t 109), (.t 111), (.t 113), (.t 114)]) (.op (some 108) (.mv (.t 115)) (.op (some 116) (.ext (.t 108) 0) (.op (some 117) (.ext (.t 108) 1) (.op (some 13) (.mv (.t 116)) (.op (some 14) (.mv (.t 117)) (.nil))))))))))))))
 (.seq (.ops (.op (some 119) (.mv (.t 8)) (.op (some 120) (.fad 1 (.t 4)) (.op (some 121) (.load 1 false (.t 120)) (.op (some 122) (.fad 3 (.t 4)) (.op (some 123) (.load 1 false (.t 122)) (.op (some 124) (.mv (.t 2)) (.op (some 125) (.call 18 [(.t 119), (.t 121), (.t 123), (.t 124)]) (.op (some 118) (.mv (.t 125)) (.op (some 126) (.ext (.t 118) 0) (.op (some 127) (.ext (.t 118) 1) (.op (some 15) (.mv (.t 126)) (.op (some 16) (.mv (.t 127)) (.nil))))))))))))))
 (.seq (.seq (.ops (.op (some 128) (.mv (.t 14)) (.op (some 129) (.mv (.t 9)) (.op (some 130) (.bin .geq (.t 129) (.c (.int .i64 0))) (.op (some 131) (.mv (.t 130)) (.sc 140 true 131 132 139 (.op (some 132) (.mv (.t 2)) (.op (some 133) (.mv (.t 0)) (.op (some 134) (.mv (.t 9)) (.op (some 135) (.mm true [(.t 134), (.c (.int .i64 0))]) (.op (some 136) (.iad 7 (.t 133) (.t 135)) (.op (some 137) (.fad 6 (.t 136)) (.op (some 138) (.load 1 false (.t 137)) (.op (some 139) (.bin .lss (.t 132) (.t 138)) (.nil))))))))) (.t 139) (.op (some 141) (.beq true (.t 128) (.t 140)) (.op (some 142) (.mv (.t 141)) (.sc 157 false 142 143 156 (.op (some 143) (.mv (.t 16)) (.op (some 144) (.mv (.t 10)) (.op (some 145) (.bin .geq (.t 144) (.c (.int .i64 0))) (.op (some 146) (.mv (.t 145)) (.sc 155 true 146 147 154 (.op (some 147) (.mv (.t 2)) (.op (some 148) (.mv (.t 0)) (.op (some 149) (.mv (.t 10)) (.op (some 150) (.mm true [(.t 149), (.c (.int .i64 0))]) (.op (some 151) (.iad 7 (.t 148) (.t 150)) (.op (some 152) (.fad 6 (.t 151)) (.op (some 153) (.load 1 false (.t 152)) (.op (some 154) (.bin .lss (.t 147) (.t 153)) (.nil))))))))) (.t 154) (.op (some 156) (.beq true (.t 143) (.t 155)) (.nil))))))) (.t 156) (.nil))))))))))
 (.cond (.t 157) (.seq (.ops (.op (some 6) (.mv (.c (.bool false))) (.nil)))
 (.ret)) (.skip)))
 (.seq (.ops (.op (some 158) (.mv (.t 7)) (.op (some 159) (.mv (.t 158)) (.sc 179 true 159 160 178 (.op (some 160) (.mv (.t 14)) (.op (some 161) (.un .not (.t 160)) (.op (some 162) (.mv (.t 161)) (.sc 166 true 162 163 165 (.op (some 163) (.mv (.t 13)) (.op (some 164) (.len false (.t 163)) (.op (some 165) (.bin .eql (.t 164) (.c (.int .i64 0))) (.nil)))) (.t 165) (.op (some 167) (.mv (.t 166)) (.sc 178 false 167 168 177 (.op (some 168) (.mv (.t 14)) (.op (some 169) (.mv (.t 168)) (.sc 177 true 169 170 176 (.op (some 170) (.mv (.t 13)) (.op (some 171) (.mv (.t 0)) (.op (some 172) (.mv (.t 9)) (.op (some 173) (.iad 7 (.t 171) (.t 172)) (.op (some 174) (.fad 5 (.t 173)) (.op (some 175) (.load 1 false (.t 174)) (.op (some 176) (.call 20 [(.t 170), (.t 175)]) (.nil)))))))) (.t 176) (.nil)))) (.t 177) (.nil))))))) (.t 178) (.op (some 180) (.mv (.t 179)) (.sc 199 true 180 181 198 (.op (some 181) (.mv (.t 16)) (.op (some 182) (.un .not (.t 181)) (.op (some 183) (.mv (.t 182)) (.sc 186 true 183 184 185 (.op (some 184) (.mv (.t 15)) (.op (some 185) (.bin .eql (.t 184) (.c (.int .i64 0))) (.nil))) (.t 185) (.op (some 187) (.mv (.t 186)) (.sc 198 false 187 188 197 (.op (some 188) (.mv (.t 16)) (.op (some 189) (.mv (.t 188)) (.sc 197 true 189 190 196 (.op (some 190) (.mv (.t 15)) (.op (some 191) (.mv (.t 0)) (.op (some 192) (.mv (.t 10)) (.op (some 193) (.iad 7 (.t 191) (.t 192)) (.op (some 194) (.fad 4 (.t 193)) (.op (some 195) (.load 1 false (.t 194)) (.op (some 196) (.bin .eql (.t 190) (.t 195)) (.nil)))))))) (.t 196) (.nil)))) (.t 197) (.nil))))))) (.t 198) (.op (some 6) (.mv (.t 199)) (.nil))))))))
 (.ret))))))))))))

theorem ok4 : okF Try.prog 4 c4 = true := by kernel_rfl

/-- catacomb/catacomblaw23.CacheApart -/
def b5_1 : AC := .seq (.seq (.ops (.op (some 21) (.mv (.t 9)) (.op (some 22) (.mv (.t 0)) (.op (some 23) (.len false (.t 22)) (.op (some 24) (.bin .lss (.t 21) (.t 23)) (.nil))))))
 (.cond (.t 24) (.skip) (.exit 0)))
 (.seq (.block 1 (.ops (.op (some 27) (.mv (.t 8)) (.op (some 28) (.mv (.t 0)) (.op (some 29) (.mv (.t 9)) (.op (some 30) (.iad 7 (.t 28) (.t 29)) (.op (some 31) (.load 7 true (.t 30)) (.op (some 32) (.call 13 [(.t 27), (.t 31)]) (.op (some 8) (.mv (.t 32)) (.nil))))))))))
 (.ops (.op (some 25) (.mv (.t 9)) (.op (some 26) (.bin .add (.t 25) (.c (.int .i64 1))) (.op (some 9) (.mv (.t 26)) (.nil))))))
def c5_1 : AC := b5_1
@[simp] theorem e5_1 {Γ : Tab} {V : Nat → Bool} {ρ : Type} (k : AX → St → Option ρ) (s : St) : eval Γ c5_1 V ρ k s = eval Γ b5_1 V ρ k s := rfl
def c5 : AF := AF.mk 108 [.t 6] (.seq (.ops (.op (some 4) (.box (.t 1)) (.op (some 5) (.box (.t 2)) (.op (some 6) (.mv (.c (.bool false))) (.nil)))))
 (.seq (.ops (.op (some 11) (.call 9 []) (.op (some 7) (.mv (.t 11)) (.nil))))
 (.seq (.seq (.ops (.op (some 12) (.mv (.t 0)) (.op (some 13) (.call 10 [(.t 12)]) (.op (some 14) (.mv (.t 13)) (.sc 19 false 14 15 18 (.op (some 15) (.load 7 true (.t 4)) (.op (some 16) (.load 7 true (.t 5)) (.op (some 17) (.bslh 7 (.agg [.int .u8 0, .int .i64 0, .int .i64 0, .str [], .int .i64 0, .lst true [], .int .i64 0]) 2 [(0, (.t 15)), (1, (.t 16))]) (.op (some 18) (.call 10 [(.t 17)]) (.nil))))) (.t 18) (.nil))))))
 (.cond (.t 19) (.seq (.ops (.op (some 20) (.mv (.t 7)) (.op (some 6) (.mv (.t 20)) (.nil))))
 (.ret)) (.skip)))
 (.seq (.ops (.op (some 8) (.mv (.c (.lst true []))) (.nil)))
 (.seq (.seq (.ops (.op (some 9) (.mv (.c (.int .i64 0))) (.nil)))
 (.block 0 (.loop [8, 9] [(8, 9), (21, 32)] [] [(.exit 0, [8])] c5_1)))
 (.seq (.ops (.op (some 33) (.fad 0 (.t 4)) (.op (some 34) (.load 1 false (.t 33)) (.op (some 35) (.bin .rem (.t 34) (.c (.int .u8 2))) (.op (some 36) (.fad 0 (.t 4)) (.op none (.store 1 (.t 36) (.t 35)) (.nil)))))))
 (.seq (.ops (.op (some 37) (.fad 0 (.t 5)) (.op (some 38) (.load 1 false (.t 37)) (.op (some 39) (.bin .rem (.t 38) (.c (.int .u8 2))) (.op (some 40) (.fad 0 (.t 5)) (.op none (.store 1 (.t 40) (.t 39)) (.nil)))))))
 (.seq (.ops (.op (some 41) (.mv (.t 8)) (.op (some 42) (.load 7 true (.t 4)) (.op (some 43) (.call 13 [(.t 41), (.t 42)]) (.op (some 10) (.mv (.t 43)) (.nil))))))
 (.seq (.seq (.ops (.op (some 44) (.mv (.t 10)) (.op (some 45) (.load 7 true (.t 4)) (.op (some 46) (.call 13 [(.t 44), (.t 45)]) (.op (some 47) (.mv (.t 10)) (.op (some 48) (.call 15 [(.t 46), (.t 47)]) (.op (some 49) (.un .not (.t 48)) (.nil))))))))
 (.cond (.t 49) (.seq (.ops (.op (some 6) (.mv (.c (.bool false))) (.nil)))
 (.ret)) (.skip)))
 (.seq (.seq (.ops (.op (some 50) (.fad 0 (.t 4)) (.op (some 51) (.load 1 false (.t 50)) (.op (some 52) (.fad 0 (.t 5)) (.op (some 53) (.load 1 false (.t 52)) (.op (some 54) (.bin .eql (.t 51) (.t 53)) (.op (some 55) (.mv (.t 54)) (.sc 61 true 55 56 60 (.op (some 56) (.fad 1 (.t 4)) (.op (some 57) (.load 1 false (.t 56)) (.op (some 58) (.fad 1 (.t 5)) (.op (some 59) (.load 1 false (.t 58)) (.op (some 60) (.bin .eql (.t 57) (.t 59)) (.nil)))))) (.t 60) (.op (some 62) (.mv (.t 61)) (.sc 85 true 62 63 84 (.op (some 63) (.fad 0 (.t 4)) (.op (some 64) (.load 1 false (.t 63)) (.op (some 65) (.bin .eql (.t 64) (.c (.int .u8 0))) (.op (some 66) (.mv (.t 65)) (.sc 72 true 66 67 71 (.op (some 67) (.fad 2 (.t 4)) (.op (some 68) (.load 1 false (.t 67)) (.op (some 69) (.fad 2 (.t 5)) (.op (some 70) (.load 1 false (.t 69)) (.op (some 71) (.bin .eql (.t 68) (.t 70)) (.nil)))))) (.t 71) (.op (some 73) (.mv (.t 72)) (.sc 84 false 73 74 83 (.op (some 74) (.fad 0 (.t 4)) (.op (some 75) (.load 1 false (.t 74)) (.op (some 76) (.bin .eql (.t 75) (.c (.int .u8 1))) (.op (some 77) (.mv (.t 76)) (.sc 83 true 77 78 82 (.op (some 78) (.fad 3 (.t 4)) (.op (some 79) (.load 1 false (.t 78)) (.op (some 80) (.fad 3 (.t 5)) (.op (some 81) (.load 1 false (.t 80)) (.op (some 82) (.bin .eql (.t 79) (.t 81)) (.nil)))))) (.t 82) (.nil)))))) (.t 83) (.nil)))))))) (.t 84) (.nil)))))))))))
 (.cond (.t 85) (.seq (.ops (.op (some 86) (.mv (.t 7)) (.op (some 87) (.mv (.t 86)) (.sc 95 true 87 88 94 (.op (some 88) (.mv (.t 10)) (.op (some 89) (.load 7 true (.t 5)) (.op (some 90) (.callp 13 [(.t 88), (.t 89)]) (.op (some 91) (.mv (.t 8)) (.op (some 92) (.load 7 true (.t 5)) (.op (some 93) (.callp 13 [(.t 91), (.t 92)]) (.op (some 94) (.callp 15 [(.t 90), (.t 93)]) (.nil)))))))) (.t 94) (.op (some 6) (.mv (.t 95)) (.nil))))))
 (.ret)) (.skip)))
 (.seq (.ops (.op (some 96) (.mv (.t 7)) (.op (some 97) (.mv (.t 96)) (.sc 107 true 97 98 106 (.op (some 98) (.mv (.t 10)) (.op (some 99) (.load 7 true (.t 5)) (.op (some 100) (.callp 13 [(.t 98), (.t 99)]) (.op (some 101) (.mv (.t 8)) (.op (some 102) (.load 7 true (.t 5)) (.op (some 103) (.callp 13 [(.t 101), (.t 102)]) (.op (some 104) (.load 7 true (.t 4)) (.op (some 105) (.callp 13 [(.t 103), (.t 104)]) (.op (some 106) (.callp 15 [(.t 100), (.t 105)]) (.nil)))))))))) (.t 106) (.op (some 6) (.mv (.t 107)) (.nil))))))
 (.ret))))))))))))

theorem ok5 : okF Try.prog 5 c5 = true := by kernel_rfl

/-- catacomb/catacomblaw23.CacheOver -/
def b6_1 : AC := .seq (.seq (.ops (.op (some 40) (.mv (.t 11)) (.op (some 41) (.mv (.t 0)) (.op (some 42) (.len false (.t 41)) (.op (some 43) (.bin .lss (.t 40) (.t 42)) (.nil))))))
 (.cond (.t 43) (.skip) (.exit 0)))
 (.seq (.block 1 (.ops (.op (some 46) (.mv (.t 10)) (.op (some 47) (.mv (.t 0)) (.op (some 48) (.mv (.t 11)) (.op (some 49) (.iad 7 (.t 47) (.t 48)) (.op (some 50) (.load 7 true (.t 49)) (.op (some 51) (.call 13 [(.t 46), (.t 50)]) (.op (some 10) (.mv (.t 51)) (.nil))))))))))
 (.ops (.op (some 44) (.mv (.t 11)) (.op (some 45) (.bin .add (.t 44) (.c (.int .i64 1))) (.op (some 11) (.mv (.t 45)) (.nil))))))
def c6_1 : AC := b6_1
@[simp] theorem e6_1 {Γ : Tab} {V : Nat → Bool} {ρ : Type} (k : AX → St → Option ρ) (s : St) : eval Γ c6_1 V ρ k s = eval Γ b6_1 V ρ k s := rfl
def b6_2 : AC := .seq (.seq (.ops (.op (some 99) (.mv (.t 22)) (.op (some 100) (.mv (.t 12)) (.op (some 101) (.len false (.t 100)) (.op (some 102) (.bin .lss (.t 99) (.t 101)) (.nil))))))
 (.cond (.t 102) (.skip) (.exit 2)))
 (.seq (.block 3 (.seq (.ops (.op (some 105) (.mv (.t 12)) (.op (some 106) (.mv (.t 22)) (.op (some 107) (.iad 6 (.t 105) (.t 106)) (.op (some 108) (.fad 5 (.t 107)) (.op (some 109) (.load 1 false (.t 108)) (.op (some 110) (.mv (.t 2)) (.op (some 111) (.bin .leq (.t 109) (.t 110)) (.nil)))))))))
 (.cond (.t 111) (.seq (.ops (.op (some 8) (.mv (.c (.bool false))) (.nil)))
 (.ret)) (.skip))))
 (.ops (.op (some 103) (.mv (.t 22)) (.op (some 104) (.bin .add (.t 103) (.c (.int .i64 1))) (.op (some 22) (.mv (.t 104)) (.nil))))))
def c6_2 : AC := b6_2
@[simp] theorem e6_2 {Γ : Tab} {V : Nat → Bool} {ρ : Type} (k : AX → St → Option ρ) (s : St) : eval Γ c6_2 V ρ k s = eval Γ b6_2 V ρ k s := rfl
def c6 : AF := AF.mk 147 [.t 8] (.seq (.ops (.op (some 5) (.box (.t 1)) (.op (some 8) (.mv (.c (.bool false))) (.nil))))
 (.seq (.ops (.op (some 23) (.call 9 []) (.op (some 9) (.mv (.t 23)) (.nil))))
 (.seq (.seq (.ops (.op (some 24) (.mv (.t 0)) (.op (some 25) (.call 10 [(.t 24)]) (.op (some 26) (.mv (.t 25)) (.sc 30 false 26 27 29 (.op (some 27) (.load 7 true (.t 5)) (.op (some 28) (.bslh 7 (.agg [.int .u8 0, .int .i64 0, .int .i64 0, .str [], .int .i64 0, .lst true [], .int .i64 0]) 1 [(0, (.t 27))]) (.op (some 29) (.call 10 [(.t 28)]) (.nil)))) (.t 29) (.op (some 31) (.mv (.t 30)) (.sc 34 false 31 32 33 (.op (some 32) (.mv (.t 2)) (.op (some 33) (.bin .gtr (.t 32) (.c (.int .i64 1099511627776))) (.nil))) (.t 33) (.op (some 35) (.mv (.t 34)) (.sc 38 false 35 36 37 (.op (some 36) (.mv (.t 2)) (.op (some 37) (.bin .lss (.t 36) (.c (.int .i64 (-1099511627776)))) (.nil))) (.t 37) (.nil))))))))))
 (.cond (.t 38) (.seq (.ops (.op (some 39) (.mv (.t 9)) (.op (some 8) (.mv (.t 39)) (.nil))))
 (.ret)) (.skip)))
 (.seq (.ops (.op (some 10) (.mv (.c (.lst true []))) (.nil)))
 (.seq (.seq (.ops (.op (some 11) (.mv (.c (.int .i64 0))) (.nil)))
 (.block 0 (.loop [10, 11] [(10, 11), (40, 51)] [] [(.exit 0, [10])] c6_1)))
 (.seq (.ops (.op (some 52) (.mv (.t 10)) (.op (some 53) (.mv (.t 2)) (.op (some 54) (.call 21 [(.t 52), (.t 53)]) (.op (some 12) (.mv (.t 54)) (.nil))))))
 (.seq (.ops (.op (some 55) (.mv (.t 2)) (.op (some 56) (.mv (.t 3)) (.op (some 57) (.conv .i64 (.t 56)) (.op (some 58) (.bin .add (.t 55) (.t 57)) (.op (some 13) (.mv (.t 58)) (.nil)))))))
 (.seq (.ops (.op (some 60) (.mv (.t 10)) (.op (some 61) (.fad 1 (.t 5)) (.op (some 62) (.load 1 false (.t 61)) (.op (some 63) (.fad 2 (.t 5)) (.op (some 64) (.load 1 false (.t 63)) (.op (some 65) (.mv (.t 13)) (.op (some 66) (.call 16 [(.t 60), (.t 62), (.t 64), (.t 65)]) (.op (some 59) (.mv (.t 66)) (.op (some 67) (.ext (.t 59) 0) (.op (some 68) (.ext (.t 59) 1) (.op (some 14) (.mv (.t 67)) (.op (some 15) (.mv (.t 68)) (.nil))))))))))))))
 (.seq (.ops (.op (some 70) (.mv (.t 12)) (.op (some 71) (.fad 1 (.t 5)) (.op (some 72) (.load 1 false (.t 71)) (.op (some 73) (.fad 2 (.t 5)) (.op (some 74) (.load 1 false (.t 73)) (.op (some 75) (.mv (.t 13)) (.op (some 76) (.call 16 [(.t 70), (.t 72), (.t 74), (.t 75)]) (.op (some 69) (.mv (.t 76)) (.op (some 77) (.ext (.t 69) 0) (.op (some 78) (.ext (.t 69) 1) (.op (some 16) (.mv (.t 77)) (.op (some 17) (.mv (.t 78)) (.nil))))))))))))))
 (.seq (.ops (.op (some 80) (.mv (.t 10)) (.op (some 81) (.fad 1 (.t 5)) (.op (some 82) (.load 1 false (.t 81)) (.op (some 83) (.fad 3 (.t 5)) (.op (some 84) (.load 1 false (.t 83)) (.op (some 85) (.mv (.t 13)) (.op (some 86) (.call 18 [(.t 80), (.t 82), (.t 84), (.t 85)]) (.op (some 79) (.mv (.t 86)) (.op (some 87) (.ext (.t 79) 0) (.op (some 88) (.ext (.t 79) 1) (.op (some 18) (.mv (.t 87)) (.op (some 19) (.mv (.t 88)) (.nil))))))))))))))
 (.seq (.ops (.op (some 90) (.mv (.t 12)) (.op (some 91) (.fad 1 (.t 5)) (.op (some 92) (.load 1 false (.t 91)) (.op (some 93) (.fad 3 (.t 5)) (.op (some 94) (.load 1 false (.t 93)) (.op (some 95) (.mv (.t 13)) (.op (some 96) (.call 18 [(.t 90), (.t 92), (.t 94), (.t 95)]) (.op (some 89) (.mv (.t 96)) (.op (some 97) (.ext (.t 89) 0) (.op (some 98) (.ext (.t 89) 1) (.op (some 20) (.mv (.t 97)) (.op (some 21) (.mv (.t 98)) (.nil))))))))))))))
 (.seq (.seq (.ops (.op (some 22) (.mv (.c (.int .i64 0))) (.nil)))
 (.block 2 (.loop [22] [(8, 8), (22, 22), (99, 111)] [] [(.exit 2, []), (.ret, [8])] c6_2)))
 (.seq (.ops (.op (some 112) (.mv (.t 9)) (.op (some 113) (.mv (.t 112)) (.sc 117 true 113 114 116 (.op (some 114) (.mv (.t 15)) (.op (some 115) (.mv (.t 17)) (.op (some 116) (.beq false (.t 114) (.t 115)) (.nil)))) (.t 116) (.op (some 118) (.mv (.t 117)) (.sc 122 true 118 119 121 (.op (some 119) (.mv (.t 14)) (.op (some 120) (.mv (.t 16)) (.op (some 121) (.call 20 [(.t 119), (.t 120)]) (.nil)))) (.t 121) (.op (some 123) (.mv (.t 122)) (.sc 127 true 123 124 126 (.op (some 124) (.mv (.t 19)) (.op (some 125) (.mv (.t 21)) (.op (some 126) (.beq false (.t 124) (.t 125)) (.nil)))) (.t 126) (.op (some 128) (.mv (.t 127)) (.sc 132 true 128 129 131 (.op (some 129) (.mv (.t 18)) (.op (some 130) (.mv (.t 20)) (.op (some 131) (.bin .eql (.t 129) (.t 130)) (.nil)))) (.t 131) (.op (some 133) (.mv (.t 132)) (.sc 139 true 133 134 138 (.op (some 134) (.mv (.t 12)) (.op (some 135) (.len false (.t 134)) (.op (some 136) (.mv (.t 10)) (.op (some 137) (.len false (.t 136)) (.op (some 138) (.bin .leq (.t 135) (.t 137)) (.nil)))))) (.t 138) (.op (some 140) (.mv (.t 139)) (.sc 146 true 140 141 145 (.op (some 141) (.mv (.t 12)) (.op (some 142) (.mv (.t 2)) (.op (some 143) (.call 21 [(.t 141), (.t 142)]) (.op (some 144) (.mv (.t 12)) (.op (some 145) (.call 15 [(.t 143), (.t 144)]) (.nil)))))) (.t 145) (.op (some 8) (.mv (.t 146)) (.nil))))))))))))))))
 (.ret))))))))))))))

theorem ok6 : okF Try.prog 6 c6 = true := by kernel_rfl

/-- catacomb/catacomblaw23.CacheForgets -/
def b7_1 : AC := .seq (.seq (.ops (.op (some 32) (.mv (.t 11)) (.op (some 33) (.mv (.t 0)) (.op (some 34) (.len false (.t 33)) (.op (some 35) (.bin .lss (.t 32) (.t 34)) (.nil))))))
 (.cond (.t 35) (.skip) (.exit 0)))
 (.seq (.block 1 (.ops (.op (some 38) (.mv (.t 10)) (.op (some 39) (.mv (.t 0)) (.op (some 40) (.mv (.t 11)) (.op (some 41) (.iad 7 (.t 39) (.t 40)) (.op (some 42) (.load 7 true (.t 41)) (.op (some 43) (.call 13 [(.t 38), (.t 42)]) (.op (some 10) (.mv (.t 43)) (.nil))))))))))
 (.ops (.op (some 36) (.mv (.t 11)) (.op (some 37) (.bin .add (.t 36) (.c (.int .i64 1))) (.op (some 11) (.mv (.t 37)) (.nil))))))
def c7_1 : AC := b7_1
@[simp] theorem e7_1 {Γ : Tab} {V : Nat → Bool} {ρ : Type} (k : AX → St → Option ρ) (s : St) : eval Γ c7_1 V ρ k s = eval Γ b7_1 V ρ k s := rfl
def b7_2 : AC := .seq (.seq (.ops (.op (some 88) (.mv (.t 22)) (.op (some 89) (.mv (.t 0)) (.op (some 90) (.len false (.t 89)) (.op (some 91) (.bin .lss (.t 88) (.t 90)) (.nil))))))
 (.cond (.t 91) (.skip) (.exit 2)))
 (.seq (.block 3 (.ops (.op (some 94) (.mv (.t 21)) (.op (some 95) (.mv (.t 0)) (.op (some 96) (.mv (.t 22)) (.op (some 97) (.iad 7 (.t 95) (.t 96)) (.op (some 98) (.fad 1 (.t 97)) (.op (some 99) (.load 1 false (.t 98)) (.op (some 100) (.call 22 [(.t 94), (.t 99)]) (.op (some 21) (.mv (.t 100)) (.nil)))))))))))
 (.ops (.op (some 92) (.mv (.t 22)) (.op (some 93) (.bin .add (.t 92) (.c (.int .i64 1))) (.op (some 22) (.mv (.t 93)) (.nil))))))
def c7_2 : AC := b7_2
@[simp] theorem e7_2 {Γ : Tab} {V : Nat → Bool} {ρ : Type} (k : AX → St → Option ρ) (s : St) : eval Γ c7_2 V ρ k s = eval Γ b7_2 V ρ k s := rfl
def c7 : AF := AF.mk 138 [.t 8] (.seq (.ops (.op (some 5) (.box (.t 1)) (.op (some 8) (.mv (.c (.bool false))) (.nil))))
 (.seq (.ops (.op (some 23) (.call 9 []) (.op (some 9) (.mv (.t 23)) (.nil))))
 (.seq (.seq (.ops (.op (some 24) (.mv (.t 0)) (.op (some 25) (.call 10 [(.t 24)]) (.op (some 26) (.mv (.t 25)) (.sc 30 false 26 27 29 (.op (some 27) (.load 7 true (.t 5)) (.op (some 28) (.bslh 7 (.agg [.int .u8 0, .int .i64 0, .int .i64 0, .str [], .int .i64 0, .lst true [], .int .i64 0]) 1 [(0, (.t 27))]) (.op (some 29) (.call 10 [(.t 28)]) (.nil)))) (.t 29) (.nil))))))
 (.cond (.t 30) (.seq (.ops (.op (some 31) (.mv (.t 9)) (.op (some 8) (.mv (.t 31)) (.nil))))
 (.ret)) (.skip)))
 (.seq (.ops (.op (some 10) (.mv (.c (.lst true []))) (.nil)))
 (.seq (.seq (.ops (.op (some 11) (.mv (.c (.int .i64 0))) (.nil)))
 (.block 0 (.loop [10, 11] [(10, 11), (32, 43)] [] [(.exit 0, [10])] c7_1)))
 (.seq (.ops (.op (some 44) (.mv (.t 10)) (.op (some 45) (.mv (.t 2)) (.op (some 46) (.call 22 [(.t 44), (.t 45)]) (.op (some 12) (.mv (.t 46)) (.nil))))))
 (.seq (.ops (.op (some 48) (.mv (.t 10)) (.op (some 49) (.fad 1 (.t 5)) (.op (some 50) (.load 1 false (.t 49)) (.op (some 51) (.fad 2 (.t 5)) (.op (some 52) (.load 1 false (.t 51)) (.op (some 53) (.mv (.t 3)) (.op (some 54) (.call 16 [(.t 48), (.t 50), (.t 52), (.t 53)]) (.op (some 47) (.mv (.t 54)) (.op (some 55) (.ext (.t 47) 0) (.op (some 56) (.ext (.t 47) 1) (.op (some 13) (.mv (.t 55)) (.op (some 14) (.mv (.t 56)) (.nil))))))))))))))
 (.seq (.ops (.op (some 58) (.mv (.t 12)) (.op (some 59) (.fad 1 (.t 5)) (.op (some 60) (.load 1 false (.t 59)) (.op (some 61) (.fad 2 (.t 5)) (.op (some 62) (.load 1 false (.t 61)) (.op (some 63) (.mv (.t 3)) (.op (some 64) (.call 16 [(.t 58), (.t 60), (.t 62), (.t 63)]) (.op (some 57) (.mv (.t 64)) (.op (some 65) (.ext (.t 57) 0) (.op (some 66) (.ext (.t 57) 1) (.op (some 15) (.mv (.t 65)) (.op (some 16) (.mv (.t 66)) (.nil))))))))))))))
 (.seq (.ops (.op (some 68) (.mv (.t 10)) (.op (some 69) (.fad 1 (.t 5)) (.op (some 70) (.load 1 false (.t 69)) (.op (some 71) (.fad 3 (.t 5)) (.op (some 72) (.load 1 false (.t 71)) (.op (some 73) (.mv (.t 3)) (.op (some 74) (.call 18 [(.t 68), (.t 70), (.t 72), (.t 73)]) (.op (some 67) (.mv (.t 74)) (.op (some 75) (.ext (.t 67) 0) (.op (some 76) (.ext (.t 67) 1) (.op (some 17) (.mv (.t 75)) (.op (some 18) (.mv (.t 76)) (.nil))))))))))))))
 (.seq (.ops (.op (some 78) (.mv (.t 12)) (.op (some 79) (.fad 1 (.t 5)) (.op (some 80) (.load 1 false (.t 79)) (.op (some 81) (.fad 3 (.t 5)) (.op (some 82) (.load 1 false (.t 81)) (.op (some 83) (.mv (.t 3)) (.op (some 84) (.call 18 [(.t 78), (.t 80), (.t 82), (.t 83)]) (.op (some 77) (.mv (.t 84)) (.op (some 85) (.ext (.t 77) 0) (.op (some 86) (.ext (.t 77) 1) (.op (some 19) (.mv (.t 85)) (.op (some 20) (.mv (.t 86)) (.nil))))))))))))))
 (.seq (.ops (.op (some 87) (.mv (.t 10)) (.op (some 21) (.mv (.t 87)) (.nil))))
 (.seq (.seq (.ops (.op (some 22) (.mv (.c (.int .i64 0))) (.nil)))
 (.block 2 (.loop [21, 22] [(21, 22), (88, 100)] [] [(.exit 2, [21])] c7_2)))
 (.seq (.seq (.ops (.op (some 101) (.mv (.t 21)) (.op (some 102) (.len false (.t 101)) (.op (some 103) (.bin .gtr (.t 102) (.c (.int .i64 0))) (.nil)))))
 (.cond (.t 103) (.seq (.ops (.op (some 8) (.mv (.c (.bool false))) (.nil)))
 (.ret)) (.skip)))
 (.seq (.seq (.ops (.op (some 104) (.fad 1 (.t 5)) (.op (some 105) (.load 1 false (.t 104)) (.op (some 106) (.mv (.t 2)) (.op (some 107) (.bin .eql (.t 105) (.t 106)) (.nil))))))
 (.cond (.t 107) (.seq (.ops (.op (some 108) (.mv (.t 9)) (.op (some 109) (.mv (.t 108)) (.sc 112 true 109 110 111 (.op (some 110) (.mv (.t 16)) (.op (some 111) (.un .not (.t 110)) (.nil))) (.t 111) (.op (some 113) (.mv (.t 112)) (.sc 116 true 113 114 115 (.op (some 114) (.mv (.t 20)) (.op (some 115) (.un .not (.t 114)) (.nil))) (.t 115) (.op (some 8) (.mv (.t 116)) (.nil))))))))
 (.ret)) (.skip)))
 (.seq (.ops (.op (some 117) (.mv (.t 9)) (.op (some 118) (.mv (.t 117)) (.sc 122 true 118 119 121 (.op (some 119) (.mv (.t 14)) (.op (some 120) (.mv (.t 16)) (.op (some 121) (.beq false (.t 119) (.t 120)) (.nil)))) (.t 121) (.op (some 123) (.mv (.t 122)) (.sc 127 true 123 124 126 (.op (some 124) (.mv (.t 13)) (.op (some 125) (.mv (.t 15)) (.op (some 126) (.call 20 [(.t 124), (.t 125)]) (.nil)))) (.t 126) (.op (some 128) (.mv (.t 127)) (.sc 132 true 128 129 131 (.op (some 129) (.mv (.t 18)) (.op (some 130) (.mv (.t 20)) (.op (some 131) (.beq false (.t 129) (.t 130)) (.nil)))) (.t 131) (.op (some 133) (.mv (.t 132)) (.sc 137 true 133 134 136 (.op (some 134) (.mv (.t 17)) (.op (some 135) (.mv (.t 19)) (.op (some 136) (.bin .eql (.t 134) (.t 135)) (.nil)))) (.t 136) (.op (some 8) (.mv (.t 137)) (.nil))))))))))))
 (.ret))))))))))))))))

theorem ok7 : okF Try.prog 7 c7 = true := by kernel_rfl

/-- catacomb/catacomblaw23.CacheRises -/
def b8_1 : AC := .seq (.seq (.ops (.op (some 69) (.mv (.t 7)) (.op (some 70) (.mv (.t 6)) (.op (some 71) (.len false (.t 70)) (.op (some 72) (.bin .lss (.t 69) (.t 71)) (.nil))))))
 (.cond (.t 72) (.skip) (.exit 2)))
 (.seq (.block 3 (.seq (.ops (.op (some 75) (.mv (.t 6)) (.op (some 76) (.mv (.t 7)) (.op (some 77) (.bin .sub (.t 76) (.c (.int .i64 1))) (.op (some 78) (.iad 6 (.t 75) (.t 77)) (.op (some 79) (.load 6 true (.t 78)) (.op (some 8) (.alloc [.int .i64 0, .str [], .int .i64 0, .int .i64 0, .lst true [], .int .i64 0]) (.op none (.store 6 (.t 8) (.t 79)) (.nil)))))))))
 (.seq (.ops (.op (some 80) (.mv (.t 6)) (.op (some 81) (.mv (.t 7)) (.op (some 82) (.iad 6 (.t 80) (.t 81)) (.op (some 83) (.load 6 true (.t 82)) (.op (some 9) (.alloc [.int .i64 0, .str [], .int .i64 0, .int .i64 0, .lst true [], .int .i64 0]) (.op none (.store 6 (.t 9) (.t 83)) (.nil))))))))
 (.seq (.ops (.op (some 84) (.fad 0 (.t 8)) (.op (some 85) (.load 1 false (.t 84)) (.op (some 86) (.fad 0 (.t 9)) (.op (some 87) (.load 1 false (.t 86)) (.op (some 88) (.bin .gtr (.t 85) (.t 87)) (.op (some 89) (.mv (.t 88)) (.sc 116 false 89 90 115 (.op (some 90) (.fad 0 (.t 8)) (.op (some 91) (.load 1 false (.t 90)) (.op (some 92) (.fad 0 (.t 9)) (.op (some 93) (.load 1 false (.t 92)) (.op (some 94) (.bin .eql (.t 91) (.t 93)) (.op (some 95) (.mv (.t 94)) (.sc 115 true 95 96 114 (.op (some 96) (.fad 1 (.t 8)) (.op (some 97) (.load 1 false (.t 96)) (.op (some 98) (.fad 1 (.t 9)) (.op (some 99) (.load 1 false (.t 98)) (.op (some 100) (.bin .gtr (.t 97) (.t 99)) (.op (some 101) (.mv (.t 100)) (.sc 114 false 101 102 113 (.op (some 102) (.fad 1 (.t 8)) (.op (some 103) (.load 1 false (.t 102)) (.op (some 104) (.fad 1 (.t 9)) (.op (some 105) (.load 1 false (.t 104)) (.op (some 106) (.bin .eql (.t 103) (.t 105)) (.op (some 107) (.mv (.t 106)) (.sc 113 true 107 108 112 (.op (some 108) (.fad 2 (.t 8)) (.op (some 109) (.load 1 false (.t 108)) (.op (some 110) (.fad 2 (.t 9)) (.op (some 111) (.load 1 false (.t 110)) (.op (some 112) (.bin .geq (.t 109) (.t 111)) (.nil)))))) (.t 112) (.nil)))))))) (.t 113) (.nil)))))))) (.t 114) (.nil)))))))) (.t 115) (.nil)))))))))
 (.cond (.t 116) (.seq (.ops (.op (some 2) (.mv (.c (.bool false))) (.nil)))
 (.ret)) (.skip))))))
 (.ops (.op (some 73) (.mv (.t 7)) (.op (some 74) (.bin .add (.t 73) (.c (.int .i64 1))) (.op (some 7) (.mv (.t 74)) (.nil))))))
def c8_1 : AC := b8_1
@[simp] theorem e8_1 {Γ : Tab} {V : Nat → Bool} {ρ : Type} (k : AX → St → Option ρ) (s : St) : eval Γ c8_1 V ρ k s = eval Γ b8_1 V ρ k s := rfl
def b8_2 : AC := .seq (.seq (.ops (.op (some 14) (.mv (.t 5)) (.op (some 15) (.mv (.t 0)) (.op (some 16) (.len false (.t 15)) (.op (some 17) (.bin .lss (.t 14) (.t 16)) (.nil))))))
 (.cond (.t 17) (.skip) (.exit 0)))
 (.seq (.block 1 (.seq (.ops (.op (some 20) (.mv (.t 4)) (.op (some 21) (.mv (.t 0)) (.op (some 22) (.mv (.t 5)) (.op (some 23) (.iad 7 (.t 21) (.t 22)) (.op (some 24) (.load 7 true (.t 23)) (.op (some 25) (.call 13 [(.t 20), (.t 24)]) (.op (some 6) (.mv (.t 25)) (.nil)))))))))
 (.seq (.seq (.ops (.op (some 26) (.mv (.t 6)) (.op (some 27) (.len false (.t 26)) (.op (some 28) (.mv (.t 4)) (.op (some 29) (.len false (.t 28)) (.op (some 30) (.bin .add (.t 29) (.c (.int .i64 1))) (.op (some 31) (.bin .gtr (.t 27) (.t 30)) (.op (some 32) (.mv (.t 31)) (.sc 47 false 32 33 46 (.op (some 33) (.mv (.t 0)) (.op (some 34) (.mv (.t 5)) (.op (some 35) (.iad 7 (.t 33) (.t 34)) (.op (some 36) (.fad 0 (.t 35)) (.op (some 37) (.load 1 false (.t 36)) (.op (some 38) (.bin .rem (.t 37) (.c (.int .u8 4))) (.op (some 39) (.bin .gtr (.t 38) (.c (.int .u8 1))) (.op (some 40) (.mv (.t 39)) (.sc 46 true 40 41 45 (.op (some 41) (.mv (.t 6)) (.op (some 42) (.len false (.t 41)) (.op (some 43) (.mv (.t 4)) (.op (some 44) (.len false (.t 43)) (.op (some 45) (.bin .gtr (.t 42) (.t 44)) (.nil)))))) (.t 45) (.nil)))))))))) (.t 46) (.op (some 48) (.mv (.t 47)) (.sc 63 false 48 49 62 (.op (some 49) (.mv (.t 0)) (.op (some 50) (.mv (.t 5)) (.op (some 51) (.iad 7 (.t 49) (.t 50)) (.op (some 52) (.fad 0 (.t 51)) (.op (some 53) (.load 1 false (.t 52)) (.op (some 54) (.bin .rem (.t 53) (.c (.int .u8 4))) (.op (some 55) (.bin .lss (.t 54) (.c (.int .u8 2))) (.op (some 56) (.mv (.t 55)) (.sc 62 true 56 57 61 (.op (some 57) (.mv (.t 6)) (.op (some 58) (.len false (.t 57)) (.op (some 59) (.mv (.t 4)) (.op (some 60) (.len false (.t 59)) (.op (some 61) (.bin .lss (.t 58) (.t 60)) (.nil)))))) (.t 61) (.nil)))))))))) (.t 62) (.op (some 64) (.mv (.t 63)) (.sc 68 false 64 65 67 (.op (some 65) (.mv (.t 6)) (.op (some 66) (.call 11 [(.t 65)]) (.op (some 67) (.un .not (.t 66)) (.nil)))) (.t 67) (.nil))))))))))))))
 (.cond (.t 68) (.seq (.ops (.op (some 2) (.mv (.c (.bool false))) (.nil)))
 (.ret)) (.skip)))
 (.seq (.seq (.ops (.op (some 7) (.mv (.c (.int .i64 1))) (.nil)))
 (.block 2 (.loop [7] [(2, 2), (7, 9), (69, 116)] [] [(.exit 2, []), (.ret, [2])] c8_1)))
 (.ops (.op (some 117) (.mv (.t 6)) (.op (some 4) (.mv (.t 117)) (.nil))))))))
 (.ops (.op (some 18) (.mv (.t 5)) (.op (some 19) (.bin .add (.t 18) (.c (.int .i64 1))) (.op (some 5) (.mv (.t 19)) (.nil))))))
def c8_2 : AC := b8_2
@[simp] theorem e8_2 {Γ : Tab} {V : Nat → Bool} {ρ : Type} (k : AX → St → Option ρ) (s : St) : eval Γ c8_2 V ρ k s = eval Γ b8_2 V ρ k s := rfl
def c8 : AF := AF.mk 119 [.t 2] (.seq (.ops (.op (some 2) (.mv (.c (.bool false))) (.nil)))
 (.seq (.ops (.op (some 10) (.call 9 []) (.op (some 3) (.mv (.t 10)) (.nil))))
 (.seq (.seq (.ops (.op (some 11) (.mv (.t 0)) (.op (some 12) (.call 10 [(.t 11)]) (.nil))))
 (.cond (.t 12) (.seq (.ops (.op (some 13) (.mv (.t 3)) (.op (some 2) (.mv (.t 13)) (.nil))))
 (.ret)) (.skip)))
 (.seq (.ops (.op (some 4) (.mv (.c (.lst true []))) (.nil)))
 (.seq (.seq (.ops (.op (some 5) (.mv (.c (.int .i64 0))) (.nil)))
 (.block 0 (.loop [4, 5] [(2, 2), (4, 9), (14, 117)] [] [(.exit 0, []), (.ret, [2])] c8_2)))
 (.seq (.ops (.op (some 118) (.mv (.t 3)) (.op (some 2) (.mv (.t 118)) (.nil))))
 (.ret)))))))

theorem ok8 : okF Try.prog 8 c8 = true := by kernel_rfl

/-- catacomb/catacomblaw23.head -/
def c9 : AF := AF.mk 112 [.t 0] (.seq (.ops (.op (some 0) (.mv (.c (.bool false))) (.nil)))
 (.seq (.ops (.op (some 11) (.bslh 1 (.int .u8 0) 1 [(0, (.c (.int .u8 1)))]) (.op (some 12) (.call 24 [(.c (.lst true [])), (.c (.int .i64 7)), (.c (.int .i64 2)), (.t 11), (.c (.int .i64 9))]) (.op (some 13) (.call 23 [(.t 12), (.c (.int .i64 3)), (.c (.str [120])), (.c (.int .i64 0)), (.c (.int .i64 5))]) (.op (some 1) (.mv (.t 13)) (.nil))))))
 (.seq (.ops (.op (some 14) (.mv (.t 1)) (.op (some 15) (.bslh 1 (.int .u8 0) 2 [(0, (.c (.int .u8 2))), (1, (.c (.int .u8 3)))]) (.op (some 16) (.call 24 [(.t 14), (.c (.int .i64 7)), (.c (.int .i64 1)), (.t 15), (.c (.int .i64 4))]) (.op (some 1) (.mv (.t 16)) (.nil))))))
 (.seq (.ops (.op (some 18) (.mv (.t 1)) (.op (some 19) (.call 16 [(.t 18), (.c (.int .i64 7)), (.c (.int .i64 1)), (.c (.int .i64 3))]) (.op (some 17) (.mv (.t 19)) (.op (some 20) (.ext (.t 17) 0) (.op (some 21) (.ext (.t 17) 1) (.op (some 2) (.mv (.t 20)) (.op (some 3) (.mv (.t 21)) (.nil)))))))))
 (.seq (.ops (.op (some 23) (.mv (.t 1)) (.op (some 24) (.call 16 [(.t 23), (.c (.int .i64 7)), (.c (.int .i64 1)), (.c (.int .i64 4))]) (.op (some 22) (.mv (.t 24)) (.op (some 25) (.ext (.t 22) 0) (.op (some 26) (.ext (.t 22) 1) (.op (some 4) (.mv (.t 25)) (.op (some 5) (.mv (.t 26)) (.nil)))))))))
 (.seq (.ops (.op (some 28) (.mv (.t 1)) (.op (some 29) (.call 18 [(.t 28), (.c (.int .i64 3)), (.c (.str [120])), (.c (.int .i64 4))]) (.op (some 27) (.mv (.t 29)) (.op (some 30) (.ext (.t 27) 0) (.op (some 31) (.ext (.t 27) 1) (.op (some 6) (.mv (.t 30)) (.op (some 7) (.mv (.t 31)) (.nil)))))))))
 (.seq (.ops (.op (some 33) (.mv (.t 1)) (.op (some 34) (.call 18 [(.t 33), (.c (.int .i64 3)), (.c (.str [121])), (.c (.int .i64 4))]) (.op (some 32) (.mv (.t 34)) (.op (some 35) (.ext (.t 32) 0) (.op (some 36) (.ext (.t 32) 1) (.op (some 8) (.mv (.t 35)) (.op (some 9) (.mv (.t 36)) (.nil)))))))))
 (.seq (.ops (.op (some 37) (.mv (.t 1)) (.op (some 38) (.call 21 [(.t 37), (.c (.int .i64 5))]) (.op (some 10) (.mv (.t 38)) (.nil)))))
 (.seq (.ops (.op (some 39) (.mv (.t 1)) (.op (some 40) (.len false (.t 39)) (.op (some 41) (.bin .eql (.t 40) (.c (.int .i64 3))) (.op (some 42) (.mv (.t 41)) (.sc 48 true 42 43 47 (.op (some 43) (.mv (.t 1)) (.op (some 44) (.iad 6 (.t 43) (.c (.int .i64 0))) (.op (some 45) (.fad 1 (.t 44)) (.op (some 46) (.load 1 false (.t 45)) (.op (some 47) (.bin .eql (.t 46) (.c (.str [120]))) (.nil)))))) (.t 47) (.op (some 49) (.mv (.t 48)) (.sc 55 true 49 50 54 (.op (some 50) (.mv (.t 1)) (.op (some 51) (.iad 6 (.t 50) (.c (.int .i64 1))) (.op (some 52) (.fad 2 (.t 51)) (.op (some 53) (.load 1 false (.t 52)) (.op (some 54) (.bin .eql (.t 53) (.c (.int .i64 1))) (.nil)))))) (.t 54) (.op (some 56) (.mv (.t 55)) (.sc 58 true 56 57 57 (.op (some 57) (.mv (.t 3)) (.nil)) (.t 57) (.op (some 59) (.mv (.t 58)) (.sc 63 true 59 60 62 (.op (some 60) (.mv (.t 2)) (.op (some 61) (.bsl 1 (.int .u8 0) 2 [(0, (.c (.int .u8 2))), (1, (.c (.int .u8 3)))]) (.op (some 62) (.callp 20 [(.t 60), (.t 61)]) (.nil)))) (.t 62) (.op (some 64) (.mv (.t 63)) (.sc 67 true 64 65 66 (.op (some 65) (.mv (.t 5)) (.op (some 66) (.un .not (.t 65)) (.nil))) (.t 66) (.op (some 68) (.mv (.t 67)) (.sc 71 true 68 69 70 (.op (some 69) (.mv (.t 6)) (.op (some 70) (.bin .eql (.t 69) (.c (.int .i64 0))) (.nil))) (.t 70) (.op (some 72) (.mv (.t 71)) (.sc 74 true 72 73 73 (.op (some 73) (.mv (.t 7)) (.nil)) (.t 73) (.op (some 75) (.mv (.t 74)) (.sc 78 true 75 76 77 (.op (some 76) (.mv (.t 9)) (.op (some 77) (.un .not (.t 76)) (.nil))) (.t 77) (.op (some 79) (.mv (.t 78)) (.sc 83 true 79 80 82 (.op (some 80) (.mv (.t 10)) (.op (some 81) (.len false (.t 80)) (.op (some 82) (.bin .eql (.t 81) (.c (.int .i64 1))) (.nil)))) (.t 82) (.op (some 84) (.mv (.t 83)) (.sc 90 true 84 85 89 (.op (some 85) (.mv (.t 10)) (.op (some 86) (.iad 6 (.t 85) (.c (.int .i64 0))) (.op (some 87) (.fad 2 (.t 86)) (.op (some 88) (.load 1 false (.t 87)) (.op (some 89) (.bin .eql (.t 88) (.c (.int .i64 2))) (.nil)))))) (.t 89) (.op (some 91) (.mv (.t 90)) (.sc 96 true 91 92 95 (.op (some 92) (.mv (.t 1)) (.op (some 93) (.callp 22 [(.t 92), (.c (.int .i64 7))]) (.op (some 94) (.len false (.t 93)) (.op (some 95) (.bin .eql (.t 94) (.c (.int .i64 1))) (.nil))))) (.t 95) (.op (some 97) (.mv (.t 96)) (.sc 100 true 97 98 99 (.op (some 98) (.mv (.t 1)) (.op (some 99) (.callp 11 [(.t 98)]) (.nil))) (.t 99) (.op (some 101) (.mv (.t 100)) (.sc 111 true 101 102 110 (.op (some 102) (.mv (.t 1)) (.op (some 103) (.iad 6 (.t 102) (.c (.int .i64 1))) (.op (some 104) (.load 6 true (.t 103)) (.op (some 105) (.mv (.t 1)) (.op (some 106) (.iad 6 (.t 105) (.c (.int .i64 0))) (.op (some 107) (.load 6 true (.t 106)) (.op (some 108) (.bsl 6 (.agg [.int .i64 0, .str [], .int .i64 0, .int .i64 0, .lst true [], .int .i64 0]) 2 [(0, (.t 104)), (1, (.t 107))]) (.op (some 109) (.callp 11 [(.t 108)]) (.op (some 110) (.un .not (.t 109)) (.nil)))))))))) (.t 110) (.op (some 0) (.mv (.t 111)) (.nil))))))))))))))))))))))))))))))))
 (.ret))))))))))

theorem ok9 : okF Try.prog 9 c9 = true := by kernel_rfl

/-- catacomb/catacomblaw23.great -/
def b10_1 : AC := .seq (.seq (.ops (.op (some 7) (.mv (.t 3)) (.op (some 8) (.mv (.t 0)) (.op (some 9) (.len false (.t 8)) (.op (some 10) (.bin .lss (.t 7) (.t 9)) (.nil))))))
 (.cond (.t 10) (.skip) (.exit 0)))
 (.seq (.block 1 (.seq (.ops (.op (some 13) (.mv (.t 0)) (.op (some 14) (.mv (.t 3)) (.op (some 15) (.iad 7 (.t 13) (.t 14)) (.op (some 16) (.fad 3 (.t 15)) (.op (some 17) (.load 1 false (.t 16)) (.op (some 18) (.len true (.t 17)) (.op (some 19) (.bin .gtr (.t 18) (.c (.int .i64 40))) (.op (some 20) (.mv (.t 19)) (.sc 28 false 20 21 27 (.op (some 21) (.mv (.t 0)) (.op (some 22) (.mv (.t 3)) (.op (some 23) (.iad 7 (.t 21) (.t 22)) (.op (some 24) (.fad 5 (.t 23)) (.op (some 25) (.load 1 false (.t 24)) (.op (some 26) (.len false (.t 25)) (.op (some 27) (.bin .gtr (.t 26) (.c (.int .i64 100))) (.nil)))))))) (.t 27) (.nil)))))))))))
 (.cond (.t 28) (.seq (.ops (.op (some 2) (.mv (.c (.bool true))) (.nil)))
 (.ret)) (.skip))))
 (.ops (.op (some 11) (.mv (.t 3)) (.op (some 12) (.bin .add (.t 11) (.c (.int .i64 1))) (.op (some 3) (.mv (.t 12)) (.nil))))))
def c10_1 : AC := b10_1
@[simp] theorem e10_1 {Γ : Tab} {V : Nat → Bool} {ρ : Type} (k : AX → St → Option ρ) (s : St) : eval Γ c10_1 V ρ k s = eval Γ b10_1 V ρ k s := rfl
def c10 : AF := AF.mk 29 [.t 2] (.seq (.ops (.op (some 2) (.mv (.c (.bool false))) (.nil)))
 (.seq (.seq (.ops (.op (some 4) (.mv (.t 0)) (.op (some 5) (.len false (.t 4)) (.op (some 6) (.bin .gtr (.t 5) (.c (.int .i64 60))) (.nil)))))
 (.cond (.t 6) (.seq (.ops (.op (some 2) (.mv (.c (.bool true))) (.nil)))
 (.ret)) (.skip)))
 (.seq (.seq (.ops (.op (some 3) (.mv (.c (.int .i64 0))) (.nil)))
 (.block 0 (.loop [3] [(2, 3), (7, 28)] [] [(.exit 0, []), (.ret, [2])] c10_1)))
 (.seq (.ops (.op (some 2) (.mv (.c (.bool false))) (.nil)))
 (.ret)))))

theorem ok10 : okF Try.prog 10 c10 = true := by kernel_rfl

/-- catacomb/cache.Right -/
def b11_1 : AC := .seq (.seq (.ops (.op (some 5) (.mv (.t 4)) (.op (some 6) (.mv (.t 0)) (.op (some 7) (.len false (.t 6)) (.op (some 8) (.bin .lss (.t 5) (.t 7)) (.nil))))))
 (.cond (.t 8) (.skip) (.exit 0)))
 (.seq (.block 1 (.ops (.op (some 11) (.mv (.t 3)) (.op (some 12) (.mv (.t 11)) (.sc 24 true 12 13 23 (.op (some 13) (.mv (.t 0)) (.op (some 14) (.mv (.t 4)) (.op (some 15) (.bin .sub (.t 14) (.c (.int .i64 1))) (.op (some 16) (.iad 6 (.t 13) (.t 15)) (.op (some 17) (.load 6 true (.t 16)) (.op (some 18) (.mv (.t 0)) (.op (some 19) (.mv (.t 4)) (.op (some 20) (.iad 6 (.t 18) (.t 19)) (.op (some 21) (.load 6 true (.t 20)) (.op (some 22) (.callp 25 [(.t 17), (.t 21)]) (.op (some 23) (.bin .lss (.t 22) (.c (.int .i64 0))) (.nil)))))))))))) (.t 23) (.op (some 3) (.mv (.t 24)) (.nil)))))))
 (.ops (.op (some 9) (.mv (.t 4)) (.op (some 10) (.bin .add (.t 9) (.c (.int .i64 1))) (.op (some 4) (.mv (.t 10)) (.nil))))))
def c11_1 : AC := b11_1
@[simp] theorem e11_1 {Γ : Tab} {V : Nat → Bool} {ρ : Type} (k : AX → St → Option ρ) (s : St) : eval Γ c11_1 V ρ k s = eval Γ b11_1 V ρ k s := rfl
def c11 : AF := AF.mk 31 [.t 2] (.seq (.ops (.op (some 2) (.mv (.c (.bool false))) (.nil)))
 (.seq (.ops (.op (some 3) (.mv (.c (.bool true))) (.nil)))
 (.seq (.seq (.ops (.op (some 4) (.mv (.c (.int .i64 1))) (.nil)))
 (.block 0 (.loop [3, 4] [(3, 24)] [] [(.exit 0, [3])] c11_1)))
 (.seq (.ops (.op (some 25) (.mv (.t 3)) (.op (some 26) (.mv (.t 25)) (.sc 30 true 26 27 29 (.op (some 27) (.mv (.t 0)) (.op (some 28) (.call 26 [(.t 27), (.c (.fn (.func 27) [] []))]) (.op (some 29) (.un .not (.t 28)) (.nil)))) (.t 29) (.op (some 2) (.mv (.t 30)) (.nil))))))
 (.ret)))))

theorem ok11 : okF Try.prog 11 c11 = true := by kernel_rfl

/-- catacomb/catacombref23.Right -/
def b12_1 : AC := .seq (.seq (.ops (.op (some 4) (.mv (.t 3)) (.op (some 5) (.mv (.t 0)) (.op (some 6) (.len false (.t 5)) (.op (some 7) (.bin .lss (.t 4) (.t 6)) (.nil))))))
 (.cond (.t 7) (.skip) (.exit 0)))
 (.seq (.block 1 (.seq (.ops (.op (some 10) (.mv (.t 0)) (.op (some 11) (.mv (.t 3)) (.op (some 12) (.iad 6 (.t 10) (.t 11)) (.op (some 13) (.load 6 true (.t 12)) (.op (some 14) (.callp 29 [(.t 13)]) (.op (some 15) (.un .not (.t 14)) (.op (some 16) (.mv (.t 15)) (.sc 32 false 16 17 31 (.op (some 17) (.mv (.t 3)) (.op (some 18) (.bin .gtr (.t 17) (.c (.int .i64 0))) (.op (some 19) (.mv (.t 18)) (.sc 31 true 19 20 30 (.op (some 20) (.mv (.t 0)) (.op (some 21) (.mv (.t 3)) (.op (some 22) (.bin .sub (.t 21) (.c (.int .i64 1))) (.op (some 23) (.iad 6 (.t 20) (.t 22)) (.op (some 24) (.load 6 true (.t 23)) (.op (some 25) (.mv (.t 0)) (.op (some 26) (.mv (.t 3)) (.op (some 27) (.iad 6 (.t 25) (.t 26)) (.op (some 28) (.load 6 true (.t 27)) (.op (some 29) (.callp 30 [(.t 24), (.t 28)]) (.op (some 30) (.un .not (.t 29)) (.nil)))))))))))) (.t 30) (.nil))))) (.t 31) (.nil))))))))))
 (.cond (.t 32) (.seq (.ops (.op (some 2) (.mv (.c (.bool false))) (.nil)))
 (.ret)) (.skip))))
 (.ops (.op (some 8) (.mv (.t 3)) (.op (some 9) (.bin .add (.t 8) (.c (.int .i64 1))) (.op (some 3) (.mv (.t 9)) (.nil))))))
def c12_1 : AC := b12_1
@[simp] theorem e12_1 {Γ : Tab} {V : Nat → Bool} {ρ : Type} (k : AX → St → Option ρ) (s : St) : eval Γ c12_1 V ρ k s = eval Γ b12_1 V ρ k s := rfl
def c12 : AF := AF.mk 33 [.t 2] (.seq (.ops (.op (some 2) (.mv (.c (.bool false))) (.nil)))
 (.seq (.seq (.ops (.op (some 3) (.mv (.c (.int .i64 0))) (.nil)))
 (.block 0 (.loop [3] [(2, 32)] [] [(.exit 0, []), (.ret, [2])] c12_1)))
 (.seq (.ops (.op (some 2) (.mv (.c (.bool true))) (.nil)))
 (.ret))))

theorem ok12 : okF Try.prog 12 c12 = true := by kernel_rfl

/-- catacomb/catacomblaw23.do -/
def c13 : AF := AF.mk 42 [.t 4] (.seq (.ops (.op (some 3) (.box (.t 1)) (.op (some 4) (.mv (.c (.lst true []))) (.nil))))
 (.seq (.seq (.ops (.op (some 5) (.fad 0 (.t 3)) (.op (some 6) (.load 1 false (.t 5)) (.op (some 7) (.bin .rem (.t 6) (.c (.int .u8 4))) (.nil)))))
 (.block 0 (.seq (.ops (.op (some 9) (.bin .eql (.t 7) (.c (.int .u8 0))) (.op (some 8) (.mv (.t 9)) (.nil))))
 (.cond (.t 8) (.seq (.ops (.op (some 10) (.mv (.t 0)) (.op (some 11) (.fad 1 (.t 3)) (.op (some 12) (.load 1 false (.t 11)) (.op (some 13) (.fad 2 (.t 3)) (.op (some 14) (.load 1 false (.t 13)) (.op (some 15) (.fad 5 (.t 3)) (.op (some 16) (.load 1 false (.t 15)) (.op (some 17) (.fad 6 (.t 3)) (.op (some 18) (.load 1 false (.t 17)) (.op (some 19) (.call 24 [(.t 10), (.t 12), (.t 14), (.t 16), (.t 18)]) (.op (some 4) (.mv (.t 19)) (.nil)))))))))))))
 (.ret)) (.seq (.ops (.op (some 21) (.bin .eql (.t 7) (.c (.int .u8 1))) (.op (some 20) (.mv (.t 21)) (.nil))))
 (.cond (.t 20) (.seq (.ops (.op (some 22) (.mv (.t 0)) (.op (some 23) (.fad 1 (.t 3)) (.op (some 24) (.load 1 false (.t 23)) (.op (some 25) (.fad 3 (.t 3)) (.op (some 26) (.load 1 false (.t 25)) (.op (some 27) (.fad 4 (.t 3)) (.op (some 28) (.load 1 false (.t 27)) (.op (some 29) (.fad 6 (.t 3)) (.op (some 30) (.load 1 false (.t 29)) (.op (some 31) (.call 23 [(.t 22), (.t 24), (.t 26), (.t 28), (.t 30)]) (.op (some 4) (.mv (.t 31)) (.nil)))))))))))))
 (.ret)) (.seq (.ops (.op (some 33) (.bin .eql (.t 7) (.c (.int .u8 2))) (.op (some 32) (.mv (.t 33)) (.nil))))
 (.cond (.t 32) (.seq (.ops (.op (some 34) (.mv (.t 0)) (.op (some 35) (.fad 1 (.t 3)) (.op (some 36) (.load 1 false (.t 35)) (.op (some 37) (.call 22 [(.t 34), (.t 36)]) (.op (some 4) (.mv (.t 37)) (.nil)))))))
 (.ret)) (.skip)))))))))
 (.seq (.ops (.op (some 38) (.mv (.t 0)) (.op (some 39) (.fad 6 (.t 3)) (.op (some 40) (.load 1 false (.t 39)) (.op (some 41) (.call 21 [(.t 38), (.t 40)]) (.op (some 4) (.mv (.t 41)) (.nil)))))))
 (.ret))))

theorem ok13 : okF Try.prog 13 c13 = true := by kernel_rfl

/-- catacomb/catacomblaw23.want -/
def c14 : AF := AF.mk 42 [.t 4] (.seq (.ops (.op (some 3) (.box (.t 1)) (.op (some 4) (.mv (.c (.lst true []))) (.nil))))
 (.seq (.seq (.ops (.op (some 5) (.fad 0 (.t 3)) (.op (some 6) (.load 1 false (.t 5)) (.op (some 7) (.bin .rem (.t 6) (.c (.int .u8 4))) (.nil)))))
 (.block 0 (.seq (.ops (.op (some 9) (.bin .eql (.t 7) (.c (.int .u8 0))) (.op (some 8) (.mv (.t 9)) (.nil))))
 (.cond (.t 8) (.seq (.ops (.op (some 10) (.mv (.t 0)) (.op (some 11) (.fad 1 (.t 3)) (.op (some 12) (.load 1 false (.t 11)) (.op (some 13) (.fad 2 (.t 3)) (.op (some 14) (.load 1 false (.t 13)) (.op (some 15) (.fad 5 (.t 3)) (.op (some 16) (.load 1 false (.t 15)) (.op (some 17) (.fad 6 (.t 3)) (.op (some 18) (.load 1 false (.t 17)) (.op (some 19) (.call 31 [(.t 10), (.t 12), (.t 14), (.t 16), (.t 18)]) (.op (some 4) (.mv (.t 19)) (.nil)))))))))))))
 (.ret)) (.seq (.ops (.op (some 21) (.bin .eql (.t 7) (.c (.int .u8 1))) (.op (some 20) (.mv (.t 21)) (.nil))))
 (.cond (.t 20) (.seq (.ops (.op (some 22) (.mv (.t 0)) (.op (some 23) (.fad 1 (.t 3)) (.op (some 24) (.load 1 false (.t 23)) (.op (some 25) (.fad 3 (.t 3)) (.op (some 26) (.load 1 false (.t 25)) (.op (some 27) (.fad 4 (.t 3)) (.op (some 28) (.load 1 false (.t 27)) (.op (some 29) (.fad 6 (.t 3)) (.op (some 30) (.load 1 false (.t 29)) (.op (some 31) (.call 32 [(.t 22), (.t 24), (.t 26), (.t 28), (.t 30)]) (.op (some 4) (.mv (.t 31)) (.nil)))))))))))))
 (.ret)) (.seq (.ops (.op (some 33) (.bin .eql (.t 7) (.c (.int .u8 2))) (.op (some 32) (.mv (.t 33)) (.nil))))
 (.cond (.t 32) (.seq (.ops (.op (some 34) (.mv (.t 0)) (.op (some 35) (.fad 1 (.t 3)) (.op (some 36) (.load 1 false (.t 35)) (.op (some 37) (.call 33 [(.t 34), (.t 36)]) (.op (some 4) (.mv (.t 37)) (.nil)))))))
 (.ret)) (.skip)))))))))
 (.seq (.ops (.op (some 38) (.mv (.t 0)) (.op (some 39) (.fad 6 (.t 3)) (.op (some 40) (.load 1 false (.t 39)) (.op (some 41) (.call 34 [(.t 38), (.t 40)]) (.op (some 4) (.mv (.t 41)) (.nil)))))))
 (.ret))))

theorem ok14 : okF Try.prog 14 c14 = true := by kernel_rfl

/-- catacomb/catacombref23.Same -/
def b15_1 : AC := .seq (.seq (.ops (.op (some 13) (.mv (.t 5)) (.op (some 14) (.mv (.t 0)) (.op (some 15) (.len false (.t 14)) (.op (some 16) (.bin .lss (.t 13) (.t 15)) (.nil))))))
 (.cond (.t 16) (.skip) (.exit 0)))
 (.seq (.block 1 (.seq (.ops (.op (some 19) (.mv (.t 0)) (.op (some 20) (.mv (.t 5)) (.op (some 21) (.iad 6 (.t 19) (.t 20)) (.op (some 22) (.load 6 true (.t 21)) (.op (some 6) (.alloc [.int .i64 0, .str [], .int .i64 0, .int .i64 0, .lst true [], .int .i64 0]) (.op none (.store 6 (.t 6) (.t 22)) (.nil))))))))
 (.seq (.ops (.op (some 23) (.mv (.t 1)) (.op (some 24) (.mv (.t 5)) (.op (some 25) (.iad 6 (.t 23) (.t 24)) (.op (some 26) (.load 6 true (.t 25)) (.op (some 7) (.alloc [.int .i64 0, .str [], .int .i64 0, .int .i64 0, .lst true [], .int .i64 0]) (.op none (.store 6 (.t 7) (.t 26)) (.nil))))))))
 (.seq (.ops (.op (some 27) (.fad 0 (.t 6)) (.op (some 28) (.load 1 false (.t 27)) (.op (some 29) (.fad 0 (.t 7)) (.op (some 30) (.load 1 false (.t 29)) (.op (some 31) (.bin .neq (.t 28) (.t 30)) (.op (some 32) (.mv (.t 31)) (.sc 38 false 32 33 37 (.op (some 33) (.fad 1 (.t 6)) (.op (some 34) (.load 1 false (.t 33)) (.op (some 35) (.fad 1 (.t 7)) (.op (some 36) (.load 1 false (.t 35)) (.op (some 37) (.bin .neq (.t 34) (.t 36)) (.nil)))))) (.t 37) (.op (some 39) (.mv (.t 38)) (.sc 45 false 39 40 44 (.op (some 40) (.fad 2 (.t 6)) (.op (some 41) (.load 1 false (.t 40)) (.op (some 42) (.fad 2 (.t 7)) (.op (some 43) (.load 1 false (.t 42)) (.op (some 44) (.bin .neq (.t 41) (.t 43)) (.nil)))))) (.t 44) (.op (some 46) (.mv (.t 45)) (.sc 52 false 46 47 51 (.op (some 47) (.fad 3 (.t 6)) (.op (some 48) (.load 1 false (.t 47)) (.op (some 49) (.fad 3 (.t 7)) (.op (some 50) (.load 1 false (.t 49)) (.op (some 51) (.bin .neq (.t 48) (.t 50)) (.nil)))))) (.t 51) (.op (some 53) (.mv (.t 52)) (.sc 59 false 53 54 58 (.op (some 54) (.fad 5 (.t 6)) (.op (some 55) (.load 1 false (.t 54)) (.op (some 56) (.fad 5 (.t 7)) (.op (some 57) (.load 1 false (.t 56)) (.op (some 58) (.bin .neq (.t 55) (.t 57)) (.nil)))))) (.t 58) (.op (some 60) (.mv (.t 59)) (.sc 67 false 60 61 66 (.op (some 61) (.fad 4 (.t 6)) (.op (some 62) (.load 1 false (.t 61)) (.op (some 63) (.fad 4 (.t 7)) (.op (some 64) (.load 1 false (.t 63)) (.op (some 65) (.call 20 [(.t 62), (.t 64)]) (.op (some 66) (.un .not (.t 65)) (.nil))))))) (.t 66) (.nil)))))))))))))))))
 (.cond (.t 67) (.seq (.ops (.op (some 4) (.mv (.c (.bool false))) (.nil)))
 (.ret)) (.skip))))))
 (.ops (.op (some 17) (.mv (.t 5)) (.op (some 18) (.bin .add (.t 17) (.c (.int .i64 1))) (.op (some 5) (.mv (.t 18)) (.nil))))))
def c15_1 : AC := b15_1
@[simp] theorem e15_1 {Γ : Tab} {V : Nat → Bool} {ρ : Type} (k : AX → St → Option ρ) (s : St) : eval Γ c15_1 V ρ k s = eval Γ b15_1 V ρ k s := rfl
def c15 : AF := AF.mk 68 [.t 4] (.seq (.ops (.op (some 4) (.mv (.c (.bool false))) (.nil)))
 (.seq (.seq (.ops (.op (some 8) (.mv (.t 0)) (.op (some 9) (.len false (.t 8)) (.op (some 10) (.mv (.t 1)) (.op (some 11) (.len false (.t 10)) (.op (some 12) (.bin .neq (.t 9) (.t 11)) (.nil)))))))
 (.cond (.t 12) (.seq (.ops (.op (some 4) (.mv (.c (.bool false))) (.nil)))
 (.ret)) (.skip)))
 (.seq (.seq (.ops (.op (some 5) (.mv (.c (.int .i64 0))) (.nil)))
 (.block 0 (.loop [5] [(4, 7), (13, 67)] [] [(.exit 0, []), (.ret, [4])] c15_1)))
 (.seq (.ops (.op (some 4) (.mv (.c (.bool true))) (.nil)))
 (.ret)))))

theorem ok15 : okF Try.prog 15 c15 = true := by kernel_rfl

/-- catacomb/cache.GetPage -/
def c16 : AF := AF.mk 18 [.t 8, .t 9] (.seq (.ops (.op (some 8) (.mv (.c (.lst true []))) (.op (some 9) (.mv (.c (.bool false))) (.nil))))
 (.seq (.ops (.op (some 10) (.mv (.t 0)) (.op (some 11) (.mv (.t 1)) (.op (some 12) (.mv (.t 2)) (.op (some 13) (.build [.int .i64 0, .str [], .int .i64 0, .int .i64 0, .lst true [], .int .i64 0] [(0, 1, (.t 11)), (2, 1, (.t 12))]) (.op (some 14) (.mv (.t 3)) (.op (some 15) (.call 35 [(.t 10), (.t 13), (.t 14), (.c (.fn (.func 36) [] []))]) (.op (some 16) (.ext (.t 15) 0) (.op (some 17) (.ext (.t 15) 1) (.op (some 8) (.mv (.t 16)) (.op (some 9) (.mv (.t 17)) (.nil))))))))))))
 (.ret)))

theorem ok16 : okF Try.prog 16 c16 = true := by kernel_rfl

/-- catacomb/catacombref23.GetPage -/
def b17_1 : AC := .seq (.seq (.ops (.op (some 11) (.mv (.t 10)) (.op (some 12) (.mv (.t 0)) (.op (some 13) (.len false (.t 12)) (.op (some 14) (.bin .lss (.t 11) (.t 13)) (.nil))))))
 (.cond (.t 14) (.skip) (.exit 0)))
 (.seq (.block 1 (.seq (.ops (.op (some 17) (.mv (.t 0)) (.op (some 18) (.mv (.t 10)) (.op (some 19) (.iad 6 (.t 17) (.t 18)) (.op (some 20) (.fad 0 (.t 19)) (.op (some 21) (.load 1 false (.t 20)) (.op (some 22) (.mv (.t 1)) (.op (some 23) (.bin .eql (.t 21) (.t 22)) (.op (some 24) (.mv (.t 23)) (.sc 31 true 24 25 30 (.op (some 25) (.mv (.t 0)) (.op (some 26) (.mv (.t 10)) (.op (some 27) (.iad 6 (.t 25) (.t 26)) (.op (some 28) (.fad 1 (.t 27)) (.op (some 29) (.load 1 false (.t 28)) (.op (some 30) (.bin .eql (.t 29) (.c (.str []))) (.nil))))))) (.t 30) (.op (some 32) (.mv (.t 31)) (.sc 40 true 32 33 39 (.op (some 33) (.mv (.t 0)) (.op (some 34) (.mv (.t 10)) (.op (some 35) (.iad 6 (.t 33) (.t 34)) (.op (some 36) (.fad 2 (.t 35)) (.op (some 37) (.load 1 false (.t 36)) (.op (some 38) (.mv (.t 2)) (.op (some 39) (.bin .eql (.t 37) (.t 38)) (.nil)))))))) (.t 39) (.op (some 41) (.mv (.t 40)) (.sc 49 true 41 42 48 (.op (some 42) (.mv (.t 3)) (.op (some 43) (.mv (.t 0)) (.op (some 44) (.mv (.t 10)) (.op (some 45) (.iad 6 (.t 43) (.t 44)) (.op (some 46) (.fad 5 (.t 45)) (.op (some 47) (.load 1 false (.t 46)) (.op (some 48) (.bin .lss (.t 42) (.t 47)) (.nil)))))))) (.t 48) (.nil)))))))))))))))
 (.cond (.t 49) (.seq (.ops (.op (some 50) (.mv (.t 0)) (.op (some 51) (.mv (.t 10)) (.op (some 52) (.iad 6 (.t 50) (.t 51)) (.op (some 53) (.fad 4 (.t 52)) (.op (some 54) (.load 1 false (.t 53)) (.op (some 8) (.mv (.t 54)) (.op (some 9) (.mv (.c (.bool true))) (.nil)))))))))
 (.ret)) (.skip))))
 (.ops (.op (some 15) (.mv (.t 10)) (.op (some 16) (.bin .add (.t 15) (.c (.int .i64 1))) (.op (some 10) (.mv (.t 16)) (.nil))))))
def c17_1 : AC := b17_1
@[simp] theorem e17_1 {Γ : Tab} {V : Nat → Bool} {ρ : Type} (k : AX → St → Option ρ) (s : St) : eval Γ c17_1 V ρ k s = eval Γ b17_1 V ρ k s := rfl
def c17 : AF := AF.mk 55 [.t 8, .t 9] (.seq (.ops (.op (some 8) (.mv (.c (.lst true []))) (.op (some 9) (.mv (.c (.bool false))) (.nil))))
 (.seq (.seq (.ops (.op (some 10) (.mv (.c (.int .i64 0))) (.nil)))
 (.block 0 (.loop [10] [(8, 54)] [] [(.exit 0, []), (.ret, [8, 9])] c17_1)))
 (.seq (.ops (.op (some 8) (.mv (.c (.lst true []))) (.op (some 9) (.mv (.c (.bool false))) (.nil))))
 (.ret))))

theorem ok17 : okF Try.prog 17 c17 = true := by kernel_rfl

/-- catacomb/cache.GetName -/
def c18 : AF := AF.mk 20 [.t 8, .t 9] (.seq (.ops (.op (some 8) (.mv (.c (.int .i64 0))) (.op (some 9) (.mv (.c (.bool false))) (.nil))))
 (.seq (.seq (.ops (.op (some 10) (.mv (.t 2)) (.op (some 11) (.bin .eql (.t 10) (.c (.str []))) (.nil))))
 (.cond (.t 11) (.seq (.ops (.op (some 8) (.mv (.c (.int .i64 0))) (.op (some 9) (.mv (.c (.bool false))) (.nil))))
 (.ret)) (.skip)))
 (.seq (.ops (.op (some 12) (.mv (.t 0)) (.op (some 13) (.mv (.t 1)) (.op (some 14) (.mv (.t 2)) (.op (some 15) (.build [.int .i64 0, .str [], .int .i64 0, .int .i64 0, .lst true [], .int .i64 0] [(0, 1, (.t 13)), (1, 1, (.t 14))]) (.op (some 16) (.mv (.t 3)) (.op (some 17) (.call 38 [(.t 12), (.t 15), (.t 16), (.c (.fn (.func 39) [] []))]) (.op (some 18) (.ext (.t 17) 0) (.op (some 19) (.ext (.t 17) 1) (.op (some 8) (.mv (.t 18)) (.op (some 9) (.mv (.t 19)) (.nil))))))))))))
 (.ret))))

theorem ok18 : okF Try.prog 18 c18 = true := by kernel_rfl

/-- catacomb/catacombref23.GetName -/
def b19_1 : AC := .seq (.seq (.ops (.op (some 11) (.mv (.t 10)) (.op (some 12) (.mv (.t 0)) (.op (some 13) (.len false (.t 12)) (.op (some 14) (.bin .lss (.t 11) (.t 13)) (.nil))))))
 (.cond (.t 14) (.skip) (.exit 0)))
 (.seq (.block 1 (.seq (.ops (.op (some 17) (.mv (.t 2)) (.op (some 18) (.bin .neq (.t 17) (.c (.str []))) (.op (some 19) (.mv (.t 18)) (.sc 27 true 19 20 26 (.op (some 20) (.mv (.t 0)) (.op (some 21) (.mv (.t 10)) (.op (some 22) (.iad 6 (.t 20) (.t 21)) (.op (some 23) (.fad 0 (.t 22)) (.op (some 24) (.load 1 false (.t 23)) (.op (some 25) (.mv (.t 1)) (.op (some 26) (.bin .eql (.t 24) (.t 25)) (.nil)))))))) (.t 26) (.op (some 28) (.mv (.t 27)) (.sc 36 true 28 29 35 (.op (some 29) (.mv (.t 0)) (.op (some 30) (.mv (.t 10)) (.op (some 31) (.iad 6 (.t 29) (.t 30)) (.op (some 32) (.fad 1 (.t 31)) (.op (some 33) (.load 1 false (.t 32)) (.op (some 34) (.mv (.t 2)) (.op (some 35) (.bin .eql (.t 33) (.t 34)) (.nil)))))))) (.t 35) (.op (some 37) (.mv (.t 36)) (.sc 45 true 37 38 44 (.op (some 38) (.mv (.t 3)) (.op (some 39) (.mv (.t 0)) (.op (some 40) (.mv (.t 10)) (.op (some 41) (.iad 6 (.t 39) (.t 40)) (.op (some 42) (.fad 5 (.t 41)) (.op (some 43) (.load 1 false (.t 42)) (.op (some 44) (.bin .lss (.t 38) (.t 43)) (.nil)))))))) (.t 44) (.nil))))))))))
 (.cond (.t 45) (.seq (.ops (.op (some 46) (.mv (.t 0)) (.op (some 47) (.mv (.t 10)) (.op (some 48) (.iad 6 (.t 46) (.t 47)) (.op (some 49) (.fad 3 (.t 48)) (.op (some 50) (.load 1 false (.t 49)) (.op (some 8) (.mv (.t 50)) (.op (some 9) (.mv (.c (.bool true))) (.nil)))))))))
 (.ret)) (.skip))))
 (.ops (.op (some 15) (.mv (.t 10)) (.op (some 16) (.bin .add (.t 15) (.c (.int .i64 1))) (.op (some 10) (.mv (.t 16)) (.nil))))))
def c19_1 : AC := b19_1
@[simp] theorem e19_1 {Γ : Tab} {V : Nat → Bool} {ρ : Type} (k : AX → St → Option ρ) (s : St) : eval Γ c19_1 V ρ k s = eval Γ b19_1 V ρ k s := rfl
def c19 : AF := AF.mk 51 [.t 8, .t 9] (.seq (.ops (.op (some 8) (.mv (.c (.int .i64 0))) (.op (some 9) (.mv (.c (.bool false))) (.nil))))
 (.seq (.seq (.ops (.op (some 10) (.mv (.c (.int .i64 0))) (.nil)))
 (.block 0 (.loop [10] [(8, 50)] [] [(.exit 0, []), (.ret, [8, 9])] c19_1)))
 (.seq (.ops (.op (some 8) (.mv (.c (.int .i64 0))) (.op (some 9) (.mv (.c (.bool false))) (.nil))))
 (.ret))))

theorem ok19 : okF Try.prog 19 c19 = true := by kernel_rfl

/-- catacomb/catacombref02.Bytes -/
def b20_1 : AC := .seq (.seq (.ops (.op (some 11) (.mv (.t 5)) (.op (some 12) (.mv (.t 0)) (.op (some 13) (.len false (.t 12)) (.op (some 14) (.bin .lss (.t 11) (.t 13)) (.nil))))))
 (.cond (.t 14) (.skip) (.exit 0)))
 (.seq (.block 1 (.seq (.ops (.op (some 17) (.mv (.t 0)) (.op (some 18) (.mv (.t 5)) (.op (some 19) (.iad 1 (.t 17) (.t 18)) (.op (some 20) (.load 1 false (.t 19)) (.op (some 21) (.mv (.t 1)) (.op (some 22) (.mv (.t 5)) (.op (some 23) (.iad 1 (.t 21) (.t 22)) (.op (some 24) (.load 1 false (.t 23)) (.op (some 25) (.bin .neq (.t 20) (.t 24)) (.nil)))))))))))
 (.cond (.t 25) (.seq (.ops (.op (some 4) (.mv (.c (.bool false))) (.nil)))
 (.ret)) (.skip))))
 (.ops (.op (some 15) (.mv (.t 5)) (.op (some 16) (.bin .add (.t 15) (.c (.int .i64 1))) (.op (some 5) (.mv (.t 16)) (.nil))))))
def c20_1 : AC := b20_1
@[simp] theorem e20_1 {Γ : Tab} {V : Nat → Bool} {ρ : Type} (k : AX → St → Option ρ) (s : St) : eval Γ c20_1 V ρ k s = eval Γ b20_1 V ρ k s := rfl
def c20 : AF := AF.mk 26 [.t 4] (.seq (.ops (.op (some 4) (.mv (.c (.bool false))) (.nil)))
 (.seq (.seq (.ops (.op (some 6) (.mv (.t 0)) (.op (some 7) (.len false (.t 6)) (.op (some 8) (.mv (.t 1)) (.op (some 9) (.len false (.t 8)) (.op (some 10) (.bin .neq (.t 7) (.t 9)) (.nil)))))))
 (.cond (.t 10) (.seq (.ops (.op (some 4) (.mv (.c (.bool false))) (.nil)))
 (.ret)) (.skip)))
 (.seq (.seq (.ops (.op (some 5) (.mv (.c (.int .i64 0))) (.nil)))
 (.block 0 (.loop [5] [(4, 5), (11, 25)] [] [(.exit 0, []), (.ret, [4])] c20_1)))
 (.seq (.ops (.op (some 4) (.mv (.c (.bool true))) (.nil)))
 (.ret)))))

theorem ok20 : okF Try.prog 20 c20 = true := by kernel_rfl

/-- catacomb/cache.Age -/
def c21 : AF := AF.mk 8 [.t 4] (.seq (.ops (.op (some 3) (.box (.t 1)) (.op (some 4) (.mv (.c (.lst true []))) (.nil))))
 (.seq (.ops (.op (some 5) (.mv (.t 0)) (.op (some 6) (.mkf (.func 41) [] [(.t 3)]) (.op (some 7) (.call 40 [(.t 5), (.t 6)]) (.op (some 4) (.mv (.t 7)) (.nil))))))
 (.ret)))

theorem ok21 : okF Try.prog 21 c21 = true := by kernel_rfl

/-- catacomb/cache.Forget -/
def c22 : AF := AF.mk 8 [.t 4] (.seq (.ops (.op (some 3) (.box (.t 1)) (.op (some 4) (.mv (.c (.lst true []))) (.nil))))
 (.seq (.ops (.op (some 5) (.mv (.t 0)) (.op (some 6) (.mkf (.func 42) [] [(.t 3)]) (.op (some 7) (.call 40 [(.t 5), (.t 6)]) (.op (some 4) (.mv (.t 7)) (.nil))))))
 (.ret)))

theorem ok22 : okF Try.prog 22 c22 = true := by kernel_rfl

/-- catacomb/cache.Name -/
def c23 : AF := AF.mk 21 [.t 10] (.seq (.ops (.op (some 10) (.mv (.c (.lst true []))) (.nil)))
 (.seq (.seq (.ops (.op (some 11) (.mv (.t 2)) (.op (some 12) (.bin .eql (.t 11) (.c (.str []))) (.nil))))
 (.cond (.t 12) (.seq (.ops (.op (some 13) (.mv (.t 0)) (.op (some 10) (.mv (.t 13)) (.nil))))
 (.ret)) (.skip)))
 (.seq (.ops (.op (some 14) (.mv (.t 0)) (.op (some 15) (.mv (.t 1)) (.op (some 16) (.mv (.t 2)) (.op (some 17) (.mv (.t 3)) (.op (some 18) (.mv (.t 4)) (.op (some 19) (.build [.int .i64 0, .str [], .int .i64 0, .int .i64 0, .lst true [], .int .i64 0] [(0, 1, (.t 15)), (1, 1, (.t 16)), (3, 1, (.t 17)), (5, 1, (.t 18))]) (.op (some 20) (.call 43 [(.t 14), (.t 19)]) (.op (some 10) (.mv (.t 20)) (.nil))))))))))
 (.ret))))

theorem ok23 : okF Try.prog 23 c23 = true := by kernel_rfl

/-- catacomb/cache.Page -/
def c24 : AF := AF.mk 19 [.t 10] (.seq (.ops (.op (some 10) (.mv (.c (.lst true []))) (.nil)))
 (.seq (.ops (.op (some 11) (.mv (.t 0)) (.op (some 12) (.mv (.t 1)) (.op (some 13) (.mv (.t 2)) (.op (some 14) (.mv (.t 3)) (.op (some 15) (.call 37 [(.t 14)]) (.op (some 16) (.mv (.t 4)) (.op (some 17) (.build [.int .i64 0, .str [], .int .i64 0, .int .i64 0, .lst true [], .int .i64 0] [(0, 1, (.t 12)), (2, 1, (.t 13)), (4, 1, (.t 15)), (5, 1, (.t 16))]) (.op (some 18) (.call 43 [(.t 11), (.t 17)]) (.op (some 10) (.mv (.t 18)) (.nil)))))))))))
 (.ret)))

theorem ok24 : okF Try.prog 24 c24 = true := by kernel_rfl

/-- catacomb/cache.order -/
def c25 : AF := AF.mk 22 [.t 4] (.seq (.ops (.op (some 2) (.box (.t 0)) (.op (some 3) (.box (.t 1)) (.op (some 4) (.mv (.c (.int .i64 0))) (.nil)))))
 (.seq (.ops (.op (some 5) (.fad 0 (.t 2)) (.op (some 6) (.load 1 false (.t 5)) (.op (some 7) (.fad 0 (.t 3)) (.op (some 8) (.load 1 false (.t 7)) (.op (some 9) (.callp 45 [(.t 6), (.t 8)]) (.op (some 10) (.fad 1 (.t 2)) (.op (some 11) (.load 1 false (.t 10)) (.op (some 12) (.fad 1 (.t 3)) (.op (some 13) (.load 1 false (.t 12)) (.op (some 14) (.callp 46 [(.t 11), (.t 13)]) (.op (some 15) (.fad 2 (.t 2)) (.op (some 16) (.load 1 false (.t 15)) (.op (some 17) (.fad 2 (.t 3)) (.op (some 18) (.load 1 false (.t 17)) (.op (some 19) (.callp 45 [(.t 16), (.t 18)]) (.op (some 20) (.bsl 1 (.int .i64 0) 3 [(0, (.t 9)), (1, (.t 14)), (2, (.t 19))]) (.op (some 21) (.callp 44 [(.t 20)]) (.op (some 4) (.mv (.t 21)) (.nil))))))))))))))))))))
 (.ret)))

theorem ok25 : okF Try.prog 25 c25 = true := by kernel_rfl

/-- slices.ContainsFunc[[]catacomb/api.Kept,catacomb/api.Kept] -/
def c26 : AF := AF.mk 9 [.t 4] (.seq (.ops (.op (some 4) (.mv (.c (.bool false))) (.nil)))
 (.seq (.ops (.op (some 5) (.mv (.t 0)) (.op (some 6) (.mv (.t 1)) (.op (some 7) (.call 47 [(.t 5), (.t 6)]) (.op (some 8) (.bin .geq (.t 7) (.c (.int .i64 0))) (.op (some 4) (.mv (.t 8)) (.nil)))))))
 (.ret)))

theorem ok26 : okF Try.prog 26 c26 = true := by kernel_rfl

/-- catacomb/cache.Right$1 -/
def c27 : AF := AF.mk 6 [.t 2] (.seq (.ops (.op (some 1) (.box (.t 0)) (.op (some 2) (.mv (.c (.bool false))) (.nil))))
 (.seq (.ops (.op (some 3) (.load 6 true (.t 1)) (.op (some 4) (.call 28 [(.t 3)]) (.op (some 5) (.un .not (.t 4)) (.op (some 2) (.mv (.t 5)) (.nil))))))
 (.ret)))

theorem ok27 : okF Try.prog 27 c27 = true := by kernel_rfl

/-- catacomb/cache.right -/
def c28 : AF := AF.mk 18 [.t 2] (.seq (.ops (.op (some 1) (.box (.t 0)) (.op (some 2) (.mv (.c (.bool false))) (.nil))))
 (.seq (.seq (.ops (.op (some 3) (.fad 1 (.t 1)) (.op (some 4) (.load 1 false (.t 3)) (.op (some 5) (.bin .eql (.t 4) (.c (.str []))) (.nil)))))
 (.cond (.t 5) (.seq (.ops (.op (some 6) (.fad 3 (.t 1)) (.op (some 7) (.load 1 false (.t 6)) (.op (some 8) (.bin .eql (.t 7) (.c (.int .i64 0))) (.op (some 2) (.mv (.t 8)) (.nil))))))
 (.ret)) (.skip)))
 (.seq (.ops (.op (some 9) (.fad 2 (.t 1)) (.op (some 10) (.load 1 false (.t 9)) (.op (some 11) (.bin .eql (.t 10) (.c (.int .i64 0))) (.op (some 12) (.mv (.t 11)) (.sc 17 true 12 13 16 (.op (some 13) (.fad 4 (.t 1)) (.op (some 14) (.load 1 false (.t 13)) (.op (some 15) (.len false (.t 14)) (.op (some 16) (.bin .eql (.t 15) (.c (.int .i64 0))) (.nil))))) (.t 16) (.op (some 2) (.mv (.t 17)) (.nil))))))))
 (.ret))))

theorem ok28 : okF Try.prog 28 c28 = true := by kernel_rfl

/-- catacomb/catacombref23.one -/
def c29 : AF := AF.mk 18 [.t 2] (.seq (.ops (.op (some 1) (.box (.t 0)) (.op (some 2) (.mv (.c (.bool false))) (.nil))))
 (.seq (.seq (.ops (.op (some 3) (.fad 1 (.t 1)) (.op (some 4) (.load 1 false (.t 3)) (.op (some 5) (.bin .eql (.t 4) (.c (.str []))) (.nil)))))
 (.cond (.t 5) (.seq (.ops (.op (some 6) (.fad 3 (.t 1)) (.op (some 7) (.load 1 false (.t 6)) (.op (some 8) (.bin .eql (.t 7) (.c (.int .i64 0))) (.op (some 2) (.mv (.t 8)) (.nil))))))
 (.ret)) (.skip)))
 (.seq (.ops (.op (some 9) (.fad 2 (.t 1)) (.op (some 10) (.load 1 false (.t 9)) (.op (some 11) (.bin .eql (.t 10) (.c (.int .i64 0))) (.op (some 12) (.mv (.t 11)) (.sc 17 true 12 13 16 (.op (some 13) (.fad 4 (.t 1)) (.op (some 14) (.load 1 false (.t 13)) (.op (some 15) (.len false (.t 14)) (.op (some 16) (.bin .eql (.t 15) (.c (.int .i64 0))) (.nil))))) (.t 16) (.op (some 2) (.mv (.t 17)) (.nil))))))))
 (.ret))))

theorem ok29 : okF Try.prog 29 c29 = true := by kernel_rfl

/-- catacomb/catacombref23.ahead -/
def c30 : AF := AF.mk 30 [.t 4] (.seq (.ops (.op (some 2) (.box (.t 0)) (.op (some 3) (.box (.t 1)) (.op (some 4) (.mv (.c (.bool false))) (.nil)))))
 (.seq (.seq (.ops (.op (some 5) (.fad 0 (.t 2)) (.op (some 6) (.load 1 false (.t 5)) (.op (some 7) (.fad 0 (.t 3)) (.op (some 8) (.load 1 false (.t 7)) (.op (some 9) (.bin .neq (.t 6) (.t 8)) (.nil)))))))
 (.cond (.t 9) (.seq (.ops (.op (some 10) (.fad 0 (.t 2)) (.op (some 11) (.load 1 false (.t 10)) (.op (some 12) (.fad 0 (.t 3)) (.op (some 13) (.load 1 false (.t 12)) (.op (some 14) (.bin .lss (.t 11) (.t 13)) (.op (some 4) (.mv (.t 14)) (.nil))))))))
 (.ret)) (.skip)))
 (.seq (.seq (.ops (.op (some 15) (.fad 1 (.t 2)) (.op (some 16) (.load 1 false (.t 15)) (.op (some 17) (.fad 1 (.t 3)) (.op (some 18) (.load 1 false (.t 17)) (.op (some 19) (.bin .neq (.t 16) (.t 18)) (.nil)))))))
 (.cond (.t 19) (.seq (.ops (.op (some 20) (.fad 1 (.t 2)) (.op (some 21) (.load 1 false (.t 20)) (.op (some 22) (.fad 1 (.t 3)) (.op (some 23) (.load 1 false (.t 22)) (.op (some 24) (.bin .lss (.t 21) (.t 23)) (.op (some 4) (.mv (.t 24)) (.nil))))))))
 (.ret)) (.skip)))
 (.seq (.ops (.op (some 25) (.fad 2 (.t 2)) (.op (some 26) (.load 1 false (.t 25)) (.op (some 27) (.fad 2 (.t 3)) (.op (some 28) (.load 1 false (.t 27)) (.op (some 29) (.bin .lss (.t 26) (.t 28)) (.op (some 4) (.mv (.t 29)) (.nil))))))))
 (.ret)))))

theorem ok30 : okF Try.prog 30 c30 = true := by kernel_rfl

/-- catacomb/catacombref23.Page -/
def c31 : AF := AF.mk 18 [.t 10] (.seq (.ops (.op (some 10) (.mv (.c (.lst true []))) (.nil)))
 (.seq (.ops (.op (some 11) (.mv (.t 0)) (.op (some 12) (.mv (.t 1)) (.op (some 13) (.mv (.t 2)) (.op (some 14) (.mv (.t 3)) (.op (some 15) (.mv (.t 4)) (.op (some 16) (.build [.int .i64 0, .str [], .int .i64 0, .int .i64 0, .lst true [], .int .i64 0] [(0, 1, (.t 12)), (2, 1, (.t 13)), (4, 1, (.t 14)), (5, 1, (.t 15))]) (.op (some 17) (.call 48 [(.t 11), (.t 16)]) (.op (some 10) (.mv (.t 17)) (.nil))))))))))
 (.ret)))

theorem ok31 : okF Try.prog 31 c31 = true := by kernel_rfl

/-- catacomb/catacombref23.Name -/
def c32 : AF := AF.mk 21 [.t 10] (.seq (.ops (.op (some 10) (.mv (.c (.lst true []))) (.nil)))
 (.seq (.seq (.ops (.op (some 11) (.mv (.t 2)) (.op (some 12) (.bin .eql (.t 11) (.c (.str []))) (.nil))))
 (.cond (.t 12) (.seq (.ops (.op (some 13) (.mv (.t 0)) (.op (some 10) (.mv (.t 13)) (.nil))))
 (.ret)) (.skip)))
 (.seq (.ops (.op (some 14) (.mv (.t 0)) (.op (some 15) (.mv (.t 1)) (.op (some 16) (.mv (.t 2)) (.op (some 17) (.mv (.t 3)) (.op (some 18) (.mv (.t 4)) (.op (some 19) (.build [.int .i64 0, .str [], .int .i64 0, .int .i64 0, .lst true [], .int .i64 0] [(0, 1, (.t 15)), (1, 1, (.t 16)), (3, 1, (.t 17)), (5, 1, (.t 18))]) (.op (some 20) (.call 48 [(.t 14), (.t 19)]) (.op (some 10) (.mv (.t 20)) (.nil))))))))))
 (.ret))))

theorem ok32 : okF Try.prog 32 c32 = true := by kernel_rfl

/-- catacomb/catacombref23.Forget -/
def b33_1 : AC := .seq (.seq (.ops (.op (some 7) (.mv (.t 6)) (.op (some 8) (.mv (.t 0)) (.op (some 9) (.len false (.t 8)) (.op (some 10) (.bin .lss (.t 7) (.t 9)) (.nil))))))
 (.cond (.t 10) (.skip) (.exit 0)))
 (.seq (.block 1 (.seq (.ops (.op (some 13) (.mv (.t 0)) (.op (some 14) (.mv (.t 6)) (.op (some 15) (.iad 6 (.t 13) (.t 14)) (.op (some 16) (.fad 0 (.t 15)) (.op (some 17) (.load 1 false (.t 16)) (.op (some 18) (.mv (.t 1)) (.op (some 19) (.bin .neq (.t 17) (.t 18)) (.nil)))))))))
 (.cond (.t 19) (.ops (.op (some 20) (.mv (.t 5)) (.op (some 21) (.mv (.t 0)) (.op (some 22) (.mv (.t 6)) (.op (some 23) (.iad 6 (.t 21) (.t 22)) (.op (some 24) (.load 6 true (.t 23)) (.op (some 25) (.bslh 6 (.agg [.int .i64 0, .str [], .int .i64 0, .int .i64 0, .lst true [], .int .i64 0]) 1 [(0, (.t 24))]) (.op (some 26) (.app 6 72 (.t 20) (.t 25)) (.op (some 5) (.mv (.t 26)) (.nil)))))))))) (.skip))))
 (.ops (.op (some 11) (.mv (.t 6)) (.op (some 12) (.bin .add (.t 11) (.c (.int .i64 1))) (.op (some 6) (.mv (.t 12)) (.nil))))))
def c33_1 : AC := b33_1
@[simp] theorem e33_1 {Γ : Tab} {V : Nat → Bool} {ρ : Type} (k : AX → St → Option ρ) (s : St) : eval Γ c33_1 V ρ k s = eval Γ b33_1 V ρ k s := rfl
def c33 : AF := AF.mk 28 [.t 4] (.seq (.ops (.op (some 4) (.mv (.c (.lst true []))) (.nil)))
 (.seq (.ops (.op (some 5) (.mv (.c (.lst true []))) (.nil)))
 (.seq (.seq (.ops (.op (some 6) (.mv (.c (.int .i64 0))) (.nil)))
 (.block 0 (.loop [5, 6] [(5, 26)] [(5, 6)] [(.exit 0, [5])] c33_1)))
 (.seq (.ops (.op (some 27) (.mv (.t 5)) (.op (some 4) (.mv (.t 27)) (.nil))))
 (.ret)))))

theorem ok33 : okF Try.prog 33 c33 = true := by kernel_rfl

/-- catacomb/catacombref23.Age -/
def b34_1 : AC := .seq (.seq (.ops (.op (some 7) (.mv (.t 6)) (.op (some 8) (.mv (.t 0)) (.op (some 9) (.len false (.t 8)) (.op (some 10) (.bin .lss (.t 7) (.t 9)) (.nil))))))
 (.cond (.t 10) (.skip) (.exit 0)))
 (.seq (.block 1 (.seq (.ops (.op (some 13) (.mv (.t 0)) (.op (some 14) (.mv (.t 6)) (.op (some 15) (.iad 6 (.t 13) (.t 14)) (.op (some 16) (.fad 5 (.t 15)) (.op (some 17) (.load 1 false (.t 16)) (.op (some 18) (.mv (.t 1)) (.op (some 19) (.bin .gtr (.t 17) (.t 18)) (.nil)))))))))
 (.cond (.t 19) (.ops (.op (some 20) (.mv (.t 5)) (.op (some 21) (.mv (.t 0)) (.op (some 22) (.mv (.t 6)) (.op (some 23) (.iad 6 (.t 21) (.t 22)) (.op (some 24) (.load 6 true (.t 23)) (.op (some 25) (.bslh 6 (.agg [.int .i64 0, .str [], .int .i64 0, .int .i64 0, .lst true [], .int .i64 0]) 1 [(0, (.t 24))]) (.op (some 26) (.app 6 72 (.t 20) (.t 25)) (.op (some 5) (.mv (.t 26)) (.nil)))))))))) (.skip))))
 (.ops (.op (some 11) (.mv (.t 6)) (.op (some 12) (.bin .add (.t 11) (.c (.int .i64 1))) (.op (some 6) (.mv (.t 12)) (.nil))))))
def c34_1 : AC := b34_1
@[simp] theorem e34_1 {Γ : Tab} {V : Nat → Bool} {ρ : Type} (k : AX → St → Option ρ) (s : St) : eval Γ c34_1 V ρ k s = eval Γ b34_1 V ρ k s := rfl
def c34 : AF := AF.mk 28 [.t 4] (.seq (.ops (.op (some 4) (.mv (.c (.lst true []))) (.nil)))
 (.seq (.ops (.op (some 5) (.mv (.c (.lst true []))) (.nil)))
 (.seq (.seq (.ops (.op (some 6) (.mv (.c (.int .i64 0))) (.nil)))
 (.block 0 (.loop [5, 6] [(5, 26)] [(5, 6)] [(.exit 0, [5])] c34_1)))
 (.seq (.ops (.op (some 27) (.mv (.t 5)) (.op (some 4) (.mv (.t 27)) (.nil))))
 (.ret)))))

theorem ok34 : okF Try.prog 34 c34 = true := by kernel_rfl

/-- catacomb/cache.get[[]byte] -/
def c35 : AF := AF.mk 37 [.t 8, .t 9] (.seq (.ops (.op (some 5) (.box (.t 1)) (.op (some 8) (.mv (.c (.lst true []))) (.op (some 9) (.mv (.c (.bool false))) (.nil)))))
 (.seq (.ops (.op (some 14) (.mv (.t 0)) (.op (some 15) (.load 6 true (.t 5)) (.op (some 16) (.call 49 [(.t 14), (.t 15), (.c (.fn (.func 25) [] []))]) (.op (some 13) (.mv (.t 16)) (.op (some 17) (.ext (.t 13) 0) (.op (some 18) (.ext (.t 13) 1) (.op (some 10) (.mv (.t 17)) (.op (some 11) (.mv (.t 18)) (.nil))))))))))
 (.seq (.seq (.ops (.op (some 19) (.mv (.t 11)) (.op (some 20) (.un .not (.t 19)) (.op (some 21) (.mv (.t 20)) (.sc 29 false 21 22 28 (.op (some 22) (.mv (.t 2)) (.op (some 23) (.mv (.t 0)) (.op (some 24) (.mv (.t 10)) (.op (some 25) (.iad 6 (.t 23) (.t 24)) (.op (some 26) (.fad 5 (.t 25)) (.op (some 27) (.load 1 false (.t 26)) (.op (some 28) (.bin .geq (.t 22) (.t 27)) (.nil)))))))) (.t 28) (.nil))))))
 (.cond (.t 29) (.seq (.ops (.op (some 12) (.mv (.c (.lst true []))) (.nil)))
 (.seq (.ops (.op (some 30) (.mv (.t 12)) (.op (some 8) (.mv (.t 30)) (.op (some 9) (.mv (.c (.bool false))) (.nil)))))
 (.ret))) (.skip)))
 (.seq (.ops (.op (some 31) (.mv (.t 3)) (.op (some 32) (.mv (.t 0)) (.op (some 33) (.mv (.t 10)) (.op (some 34) (.iad 6 (.t 32) (.t 33)) (.op (some 35) (.load 6 true (.t 34)) (.op (some 36) (.callv (.t 31) [(.t 35)]) (.op (some 8) (.mv (.t 36)) (.op (some 9) (.mv (.c (.bool true))) (.nil))))))))))
 (.ret)))))

theorem ok35 : okF Try.prog 35 c35 = true := by kernel_rfl

/-- catacomb/cache.GetPage$1 -/
def c36 : AF := AF.mk 6 [.t 2] (.seq (.ops (.op (some 1) (.box (.t 0)) (.op (some 2) (.mv (.c (.lst true []))) (.nil))))
 (.seq (.ops (.op (some 3) (.fad 4 (.t 1)) (.op (some 4) (.load 1 false (.t 3)) (.op (some 5) (.call 37 [(.t 4)]) (.op (some 2) (.mv (.t 5)) (.nil))))))
 (.ret)))

theorem ok36 : okF Try.prog 36 c36 = true := by kernel_rfl

/-- catacomb/cache.get[int] -/
def c38 : AF := AF.mk 37 [.t 8, .t 9] (.seq (.ops (.op (some 5) (.box (.t 1)) (.op (some 8) (.mv (.c (.int .i64 0))) (.op (some 9) (.mv (.c (.bool false))) (.nil)))))
 (.seq (.ops (.op (some 14) (.mv (.t 0)) (.op (some 15) (.load 6 true (.t 5)) (.op (some 16) (.call 49 [(.t 14), (.t 15), (.c (.fn (.func 25) [] []))]) (.op (some 13) (.mv (.t 16)) (.op (some 17) (.ext (.t 13) 0) (.op (some 18) (.ext (.t 13) 1) (.op (some 10) (.mv (.t 17)) (.op (some 11) (.mv (.t 18)) (.nil))))))))))
 (.seq (.seq (.ops (.op (some 19) (.mv (.t 11)) (.op (some 20) (.un .not (.t 19)) (.op (some 21) (.mv (.t 20)) (.sc 29 false 21 22 28 (.op (some 22) (.mv (.t 2)) (.op (some 23) (.mv (.t 0)) (.op (some 24) (.mv (.t 10)) (.op (some 25) (.iad 6 (.t 23) (.t 24)) (.op (some 26) (.fad 5 (.t 25)) (.op (some 27) (.load 1 false (.t 26)) (.op (some 28) (.bin .geq (.t 22) (.t 27)) (.nil)))))))) (.t 28) (.nil))))))
 (.cond (.t 29) (.seq (.ops (.op (some 12) (.mv (.c (.int .i64 0))) (.nil)))
 (.seq (.ops (.op (some 30) (.mv (.t 12)) (.op (some 8) (.mv (.t 30)) (.op (some 9) (.mv (.c (.bool false))) (.nil)))))
 (.ret))) (.skip)))
 (.seq (.ops (.op (some 31) (.mv (.t 3)) (.op (some 32) (.mv (.t 0)) (.op (some 33) (.mv (.t 10)) (.op (some 34) (.iad 6 (.t 32) (.t 33)) (.op (some 35) (.load 6 true (.t 34)) (.op (some 36) (.callv (.t 31) [(.t 35)]) (.op (some 8) (.mv (.t 36)) (.op (some 9) (.mv (.c (.bool true))) (.nil))))))))))
 (.ret)))))

theorem ok38 : okF Try.prog 38 c38 = true := by kernel_rfl

/-- catacomb/cache.GetName$1 -/
def c39 : AF := AF.mk 5 [.t 2] (.seq (.ops (.op (some 1) (.box (.t 0)) (.op (some 2) (.mv (.c (.int .i64 0))) (.nil))))
 (.seq (.ops (.op (some 3) (.fad 3 (.t 1)) (.op (some 4) (.load 1 false (.t 3)) (.op (some 2) (.mv (.t 4)) (.nil)))))
 (.ret)))

theorem ok39 : okF Try.prog 39 c39 = true := by kernel_rfl

/-- catacomb/cache.but -/
def c40 : AF := AF.mk 9 [.t 4] (.seq (.ops (.op (some 4) (.mv (.c (.lst true []))) (.nil)))
 (.seq (.ops (.op (some 5) (.mv (.t 0)) (.op (some 6) (.call 51 [(.t 5)]) (.op (some 7) (.mv (.t 1)) (.op (some 8) (.call 50 [(.t 6), (.t 7)]) (.op (some 4) (.mv (.t 8)) (.nil)))))))
 (.ret)))

theorem ok40 : okF Try.prog 40 c40 = true := by kernel_rfl

/-- catacomb/cache.Age$1 -/
def c41 : AF := AF.mk 8 [.t 3] (.seq (.ops (.op (some 2) (.box (.t 0)) (.op (some 3) (.mv (.c (.bool false))) (.nil))))
 (.seq (.ops (.op (some 4) (.fad 5 (.t 2)) (.op (some 5) (.load 1 false (.t 4)) (.op (some 6) (.load 1 false (.t 1)) (.op (some 7) (.bin .leq (.t 5) (.t 6)) (.op (some 3) (.mv (.t 7)) (.nil)))))))
 (.ret)))

theorem ok41 : okF Try.prog 41 c41 = true := by kernel_rfl

/-- catacomb/cache.Forget$1 -/
def c42 : AF := AF.mk 8 [.t 3] (.seq (.ops (.op (some 2) (.box (.t 0)) (.op (some 3) (.mv (.c (.bool false))) (.nil))))
 (.seq (.ops (.op (some 4) (.fad 0 (.t 2)) (.op (some 5) (.load 1 false (.t 4)) (.op (some 6) (.load 1 false (.t 1)) (.op (some 7) (.bin .eql (.t 5) (.t 6)) (.op (some 3) (.mv (.t 7)) (.nil)))))))
 (.ret)))

theorem ok42 : okF Try.prog 42 c42 = true := by kernel_rfl

/-- catacomb/cache.put -/
def c43 : AF := AF.mk 27 [.t 4] (.seq (.ops (.op (some 3) (.box (.t 1)) (.op (some 4) (.mv (.c (.lst true []))) (.nil))))
 (.seq (.ops (.op (some 9) (.mv (.t 0)) (.op (some 10) (.load 6 true (.t 3)) (.op (some 11) (.call 49 [(.t 9), (.t 10), (.c (.fn (.func 25) [] []))]) (.op (some 8) (.mv (.t 11)) (.op (some 12) (.ext (.t 8) 0) (.op (some 13) (.ext (.t 8) 1) (.op (some 5) (.mv (.t 12)) (.op (some 6) (.mv (.t 13)) (.nil))))))))))
 (.seq (.ops (.op (some 14) (.mv (.t 0)) (.op (some 15) (.call 51 [(.t 14)]) (.op (some 7) (.mv (.t 15)) (.nil)))))
 (.seq (.seq (.ops (.op (some 16) (.mv (.t 6)) (.nil)))
 (.cond (.t 16) (.seq (.ops (.op (some 17) (.mv (.t 7)) (.op (some 18) (.mv (.t 5)) (.op (some 19) (.load 6 true (.t 3)) (.op (some 20) (.iad 6 (.t 17) (.t 18)) (.op none (.store 6 (.t 20) (.t 19)) (.nil)))))))
 (.seq (.ops (.op (some 21) (.mv (.t 7)) (.op (some 4) (.mv (.t 21)) (.nil))))
 (.ret))) (.skip)))
 (.seq (.ops (.op (some 22) (.mv (.t 7)) (.op (some 23) (.mv (.t 5)) (.op (some 24) (.load 6 true (.t 3)) (.op (some 25) (.bslh 6 (.agg [.int .i64 0, .str [], .int .i64 0, .int .i64 0, .lst true [], .int .i64 0]) 1 [(0, (.t 24))]) (.op (some 26) (.call 52 [(.t 22), (.t 23), (.t 25)]) (.op (some 4) (.mv (.t 26)) (.nil))))))))
 (.ret))))))

theorem ok43 : okF Try.prog 43 c43 = true := by kernel_rfl

/-- cmp.Or[int] -/
def b44_1 : AC := .seq (.ops (.op (some 9) (.bin .lss (.t 8) (.t 7)) (.nil)))
 (.seq (.cond (.t 9) (.skip) (.exit 0))
 (.seq (.block 1 (.seq (.ops (.op (some 10) (.iad 1 (.t 6) (.t 8)) (.op (some 11) (.load 1 false (.t 10)) (.op (some 5) (.mv (.t 11)) (.nil)))))
 (.seq (.ops (.op (some 12) (.mv (.t 5)) (.op (some 13) (.mv (.t 3)) (.op (some 14) (.bin .neq (.t 12) (.t 13)) (.nil)))))
 (.cond (.t 14) (.seq (.ops (.op (some 15) (.mv (.t 5)) (.op (some 2) (.mv (.t 15)) (.nil))))
 (.ret)) (.skip)))))
 (.ops (.op (some 16) (.bin .add (.t 8) (.c (.int .i64 1))) (.op (some 8) (.mv (.t 16)) (.nil))))))
def c44_1 : AC := b44_1
@[simp] theorem e44_1 {Γ : Tab} {V : Nat → Bool} {ρ : Type} (k : AX → St → Option ρ) (s : St) : eval Γ c44_1 V ρ k s = eval Γ b44_1 V ρ k s := rfl
def c44 : AF := AF.mk 18 [.t 2] (.seq (.ops (.op (some 2) (.mv (.c (.int .i64 0))) (.nil)))
 (.seq (.ops (.op (some 3) (.mv (.c (.int .i64 0))) (.nil)))
 (.seq (.seq (.ops (.op (some 6) (.mv (.t 0)) (.op (some 7) (.len false (.t 6)) (.op (some 8) (.mv (.c (.int .i64 0))) (.nil)))))
 (.block 0 (.loop [8] [(2, 2), (5, 5), (8, 16)] [] [(.exit 0, []), (.ret, [2])] c44_1)))
 (.seq (.ops (.op (some 17) (.mv (.t 3)) (.op (some 2) (.mv (.t 17)) (.nil))))
 (.ret)))))

theorem ok44 : okF Try.prog 44 c44 = true := by kernel_rfl

/-- cmp.Compare[int] -/
def c45 : AF := AF.mk 20 [.t 4] (.seq (.ops (.op (some 4) (.mv (.c (.int .i64 0))) (.nil)))
 (.seq (.ops (.op (some 7) (.mv (.t 0)) (.op (some 8) (.call 53 [(.t 7)]) (.op (some 5) (.mv (.t 8)) (.nil)))))
 (.seq (.ops (.op (some 9) (.mv (.t 1)) (.op (some 10) (.call 53 [(.t 9)]) (.op (some 6) (.mv (.t 10)) (.nil)))))
 (.seq (.seq (.ops (.op (some 11) (.mv (.t 5)) (.nil)))
 (.cond (.t 11) (.seq (.seq (.ops (.op (some 12) (.mv (.t 6)) (.nil)))
 (.cond (.t 12) (.seq (.ops (.op (some 4) (.mv (.c (.int .i64 0))) (.nil)))
 (.ret)) (.skip)))
 (.seq (.ops (.op (some 4) (.mv (.c (.int .i64 (-1)))) (.nil)))
 (.ret))) (.skip)))
 (.seq (.seq (.ops (.op (some 13) (.mv (.t 6)) (.nil)))
 (.cond (.t 13) (.seq (.ops (.op (some 4) (.mv (.c (.int .i64 1))) (.nil)))
 (.ret)) (.skip)))
 (.seq (.seq (.ops (.op (some 14) (.mv (.t 0)) (.op (some 15) (.mv (.t 1)) (.op (some 16) (.bin .lss (.t 14) (.t 15)) (.nil)))))
 (.cond (.t 16) (.seq (.ops (.op (some 4) (.mv (.c (.int .i64 (-1)))) (.nil)))
 (.ret)) (.skip)))
 (.seq (.seq (.ops (.op (some 17) (.mv (.t 0)) (.op (some 18) (.mv (.t 1)) (.op (some 19) (.bin .gtr (.t 17) (.t 18)) (.nil)))))
 (.cond (.t 19) (.seq (.ops (.op (some 4) (.mv (.c (.int .i64 1))) (.nil)))
 (.ret)) (.skip)))
 (.seq (.ops (.op (some 4) (.mv (.c (.int .i64 0))) (.nil)))
 (.ret)))))))))

theorem ok45 : okF Try.prog 45 c45 = true := by kernel_rfl

/-- cmp.Compare[string] -/
def c46 : AF := AF.mk 20 [.t 4] (.seq (.ops (.op (some 4) (.mv (.c (.int .i64 0))) (.nil)))
 (.seq (.ops (.op (some 7) (.mv (.t 0)) (.op (some 8) (.call 54 [(.t 7)]) (.op (some 5) (.mv (.t 8)) (.nil)))))
 (.seq (.ops (.op (some 9) (.mv (.t 1)) (.op (some 10) (.call 54 [(.t 9)]) (.op (some 6) (.mv (.t 10)) (.nil)))))
 (.seq (.seq (.ops (.op (some 11) (.mv (.t 5)) (.nil)))
 (.cond (.t 11) (.seq (.seq (.ops (.op (some 12) (.mv (.t 6)) (.nil)))
 (.cond (.t 12) (.seq (.ops (.op (some 4) (.mv (.c (.int .i64 0))) (.nil)))
 (.ret)) (.skip)))
 (.seq (.ops (.op (some 4) (.mv (.c (.int .i64 (-1)))) (.nil)))
 (.ret))) (.skip)))
 (.seq (.seq (.ops (.op (some 13) (.mv (.t 6)) (.nil)))
 (.cond (.t 13) (.seq (.ops (.op (some 4) (.mv (.c (.int .i64 1))) (.nil)))
 (.ret)) (.skip)))
 (.seq (.seq (.ops (.op (some 14) (.mv (.t 0)) (.op (some 15) (.mv (.t 1)) (.op (some 16) (.bin .lss (.t 14) (.t 15)) (.nil)))))
 (.cond (.t 16) (.seq (.ops (.op (some 4) (.mv (.c (.int .i64 (-1)))) (.nil)))
 (.ret)) (.skip)))
 (.seq (.seq (.ops (.op (some 17) (.mv (.t 0)) (.op (some 18) (.mv (.t 1)) (.op (some 19) (.bin .gtr (.t 17) (.t 18)) (.nil)))))
 (.cond (.t 19) (.seq (.ops (.op (some 4) (.mv (.c (.int .i64 1))) (.nil)))
 (.ret)) (.skip)))
 (.seq (.ops (.op (some 4) (.mv (.c (.int .i64 0))) (.nil)))
 (.ret)))))))))

theorem ok46 : okF Try.prog 46 c46 = true := by kernel_rfl

/-- slices.IndexFunc[[]catacomb/api.Kept,catacomb/api.Kept] -/
def b47_1 : AC := .seq (.ops (.op (some 9) (.bin .lss (.t 8) (.t 7)) (.nil)))
 (.seq (.cond (.t 9) (.skip) (.exit 0))
 (.seq (.block 1 (.seq (.ops (.op (some 10) (.mv (.t 8)) (.op (some 5) (.mv (.t 10)) (.nil))))
 (.seq (.ops (.op (some 11) (.mv (.t 1)) (.op (some 12) (.mv (.t 0)) (.op (some 13) (.mv (.t 5)) (.op (some 14) (.iad 6 (.t 12) (.t 13)) (.op (some 15) (.load 6 true (.t 14)) (.op (some 16) (.callv (.t 11) [(.t 15)]) (.nil))))))))
 (.cond (.t 16) (.seq (.ops (.op (some 17) (.mv (.t 5)) (.op (some 4) (.mv (.t 17)) (.nil))))
 (.ret)) (.skip)))))
 (.ops (.op (some 18) (.bin .add (.t 8) (.c (.int .i64 1))) (.op (some 8) (.mv (.t 18)) (.nil))))))
def c47_1 : AC := b47_1
@[simp] theorem e47_1 {Γ : Tab} {V : Nat → Bool} {ρ : Type} (k : AX → St → Option ρ) (s : St) : eval Γ c47_1 V ρ k s = eval Γ b47_1 V ρ k s := rfl
def c47 : AF := AF.mk 19 [.t 4] (.seq (.ops (.op (some 4) (.mv (.c (.int .i64 0))) (.nil)))
 (.seq (.seq (.ops (.op (some 6) (.mv (.t 0)) (.op (some 7) (.len false (.t 6)) (.op (some 8) (.mv (.c (.int .i64 0))) (.nil)))))
 (.block 0 (.loop [8] [(4, 5), (8, 18)] [] [(.exit 0, []), (.ret, [4])] c47_1)))
 (.seq (.ops (.op (some 4) (.mv (.c (.int .i64 (-1)))) (.nil)))
 (.ret))))

theorem ok47 : okF Try.prog 47 c47 = true := by kernel_rfl

/-- catacomb/catacombref23.put -/
def b48_1 : AC := .seq (.seq (.ops (.op (some 7) (.mv (.t 6)) (.op (some 8) (.mv (.t 0)) (.op (some 9) (.len false (.t 8)) (.op (some 10) (.bin .lss (.t 7) (.t 9)) (.op (some 11) (.mv (.t 10)) (.sc 18 true 11 12 17 (.op (some 12) (.mv (.t 0)) (.op (some 13) (.mv (.t 6)) (.op (some 14) (.iad 6 (.t 12) (.t 13)) (.op (some 15) (.load 6 true (.t 14)) (.op (some 16) (.load 6 true (.t 3)) (.op (some 17) (.callp 30 [(.t 15), (.t 16)]) (.nil))))))) (.t 17) (.nil))))))))
 (.cond (.t 18) (.skip) (.exit 0)))
 (.block 1 (.seq (.ops (.op (some 19) (.mv (.t 5)) (.op (some 20) (.mv (.t 0)) (.op (some 21) (.mv (.t 6)) (.op (some 22) (.iad 6 (.t 20) (.t 21)) (.op (some 23) (.load 6 true (.t 22)) (.op (some 24) (.bslh 6 (.agg [.int .i64 0, .str [], .int .i64 0, .int .i64 0, .lst true [], .int .i64 0]) 1 [(0, (.t 23))]) (.op (some 25) (.app 6 72 (.t 19) (.t 24)) (.op (some 5) (.mv (.t 25)) (.nil))))))))))
 (.ops (.op (some 26) (.mv (.t 6)) (.op (some 27) (.bin .add (.t 26) (.c (.int .i64 1))) (.op (some 6) (.mv (.t 27)) (.nil)))))))
def c48_1 : AC := b48_1
@[simp] theorem e48_1 {Γ : Tab} {V : Nat → Bool} {ρ : Type} (k : AX → St → Option ρ) (s : St) : eval Γ c48_1 V ρ k s = eval Γ b48_1 V ρ k s := rfl
def b48_2 : AC := .seq (.seq (.ops (.op (some 32) (.mv (.t 6)) (.op (some 33) (.mv (.t 0)) (.op (some 34) (.len false (.t 33)) (.op (some 35) (.bin .lss (.t 32) (.t 34)) (.nil))))))
 (.cond (.t 35) (.skip) (.exit 2)))
 (.seq (.block 3 (.seq (.ops (.op (some 38) (.load 6 true (.t 3)) (.op (some 39) (.mv (.t 0)) (.op (some 40) (.mv (.t 6)) (.op (some 41) (.iad 6 (.t 39) (.t 40)) (.op (some 42) (.load 6 true (.t 41)) (.op (some 43) (.callp 30 [(.t 38), (.t 42)]) (.nil))))))))
 (.cond (.t 43) (.ops (.op (some 44) (.mv (.t 5)) (.op (some 45) (.mv (.t 0)) (.op (some 46) (.mv (.t 6)) (.op (some 47) (.iad 6 (.t 45) (.t 46)) (.op (some 48) (.load 6 true (.t 47)) (.op (some 49) (.bslh 6 (.agg [.int .i64 0, .str [], .int .i64 0, .int .i64 0, .lst true [], .int .i64 0]) 1 [(0, (.t 48))]) (.op (some 50) (.app 6 72 (.t 44) (.t 49)) (.op (some 5) (.mv (.t 50)) (.nil)))))))))) (.skip))))
 (.ops (.op (some 36) (.mv (.t 6)) (.op (some 37) (.bin .add (.t 36) (.c (.int .i64 1))) (.op (some 6) (.mv (.t 37)) (.nil))))))
def c48_2 : AC := b48_2
@[simp] theorem e48_2 {Γ : Tab} {V : Nat → Bool} {ρ : Type} (k : AX → St → Option ρ) (s : St) : eval Γ c48_2 V ρ k s = eval Γ b48_2 V ρ k s := rfl
def c48 : AF := AF.mk 52 [.t 4] (.seq (.ops (.op (some 3) (.box (.t 1)) (.op (some 4) (.mv (.c (.lst true []))) (.nil))))
 (.seq (.ops (.op (some 5) (.mv (.c (.lst true []))) (.nil)))
 (.seq (.ops (.op (some 6) (.mv (.c (.int .i64 0))) (.nil)))
 (.seq (.block 0 (.loop [5, 6] [(5, 27)] [(5, 6)] [(.exit 0, [5, 6])] c48_1))
 (.seq (.ops (.op (some 28) (.mv (.t 5)) (.op (some 29) (.load 6 true (.t 3)) (.op (some 30) (.bslh 6 (.agg [.int .i64 0, .str [], .int .i64 0, .int .i64 0, .lst true [], .int .i64 0]) 1 [(0, (.t 29))]) (.op (some 31) (.app 6 72 (.t 28) (.t 30)) (.op (some 5) (.mv (.t 31)) (.nil)))))))
 (.seq (.block 2 (.loop [5, 6] [(5, 6), (32, 50)] [(5, 6)] [(.exit 2, [5])] c48_2))
 (.seq (.ops (.op (some 51) (.mv (.t 5)) (.op (some 4) (.mv (.t 51)) (.nil))))
 (.ret))))))))

theorem ok48 : okF Try.prog 48 c48 = true := by kernel_rfl

/-- slices.BinarySearchFunc[[]catacomb/api.Kept,catacomb/api.Kept,catacomb/api.Kept] -/
def b49_1 : AC := .seq (.seq (.ops (.op (some 15) (.mv (.t 9)) (.op (some 16) (.mv (.t 10)) (.op (some 17) (.bin .lss (.t 15) (.t 16)) (.nil)))))
 (.cond (.t 17) (.skip) (.exit 0)))
 (.block 1 (.seq (.ops (.op (some 18) (.mv (.t 9)) (.op (some 19) (.mv (.t 10)) (.op (some 20) (.bin .add (.t 18) (.t 19)) (.op (some 21) (.conv .u64 (.t 20)) (.op (some 22) (.bin .shr (.t 21) (.c (.int .u64 1))) (.op (some 23) (.conv .i64 (.t 22)) (.op (some 11) (.mv (.t 23)) (.nil)))))))))
 (.seq (.ops (.op (some 24) (.mv (.t 2)) (.op (some 25) (.mv (.t 0)) (.op (some 26) (.mv (.t 11)) (.op (some 27) (.iad 6 (.t 25) (.t 26)) (.op (some 28) (.load 6 true (.t 27)) (.op (some 29) (.load 6 true (.t 4)) (.op (some 30) (.callv (.t 24) [(.t 28), (.t 29)]) (.op (some 31) (.bin .lss (.t 30) (.c (.int .i64 0))) (.nil))))))))))
 (.cond (.t 31) (.ops (.op (some 32) (.mv (.t 11)) (.op (some 33) (.bin .add (.t 32) (.c (.int .i64 1))) (.op (some 9) (.mv (.t 33)) (.nil))))) (.ops (.op (some 34) (.mv (.t 11)) (.op (some 10) (.mv (.t 34)) (.nil))))))))
def c49_1 : AC := b49_1
@[simp] theorem e49_1 {Γ : Tab} {V : Nat → Bool} {ρ : Type} (k : AX → St → Option ρ) (s : St) : eval Γ c49_1 V ρ k s = eval Γ b49_1 V ρ k s := rfl
def c49 : AF := AF.mk 49 [.t 6, .t 7] (.seq (.ops (.op (some 4) (.box (.t 1)) (.op (some 6) (.mv (.c (.int .i64 0))) (.op (some 7) (.mv (.c (.bool false))) (.nil)))))
 (.seq (.ops (.op (some 12) (.mv (.t 0)) (.op (some 13) (.len false (.t 12)) (.op (some 8) (.mv (.t 13)) (.nil)))))
 (.seq (.ops (.op (some 14) (.mv (.t 8)) (.op (some 9) (.mv (.c (.int .i64 0))) (.op (some 10) (.mv (.t 14)) (.nil)))))
 (.seq (.block 0 (.loop [9, 10] [(9, 11), (15, 34)] [] [(.exit 0, [9])] c49_1))
 (.seq (.ops (.op (some 35) (.mv (.t 9)) (.op (some 36) (.mv (.t 9)) (.op (some 37) (.mv (.t 8)) (.op (some 38) (.bin .lss (.t 36) (.t 37)) (.op (some 39) (.mv (.t 38)) (.sc 48 true 39 40 47 (.op (some 40) (.mv (.t 2)) (.op (some 41) (.mv (.t 0)) (.op (some 42) (.mv (.t 9)) (.op (some 43) (.iad 6 (.t 41) (.t 42)) (.op (some 44) (.load 6 true (.t 43)) (.op (some 45) (.load 6 true (.t 4)) (.op (some 46) (.callv (.t 40) [(.t 44), (.t 45)]) (.op (some 47) (.bin .eql (.t 46) (.c (.int .i64 0))) (.nil))))))))) (.t 47) (.op (some 6) (.mv (.t 35)) (.op (some 7) (.mv (.t 48)) (.nil))))))))))
 (.ret))))))

theorem ok49 : okF Try.prog 49 c49 = true := by kernel_rfl

/-- slices.DeleteFunc[[]catacomb/api.Kept,catacomb/api.Kept] -/
def b50_1 : AC := .seq (.seq (.ops (.op (some 16) (.mv (.t 6)) (.op (some 17) (.mv (.t 0)) (.op (some 18) (.len false (.t 17)) (.op (some 19) (.bin .lss (.t 16) (.t 18)) (.nil))))))
 (.cond (.t 19) (.skip) (.exit 0)))
 (.seq (.block 1 (.seq (.ops (.op (some 22) (.mv (.t 0)) (.op (some 23) (.mv (.t 6)) (.op (some 24) (.iad 6 (.t 22) (.t 23)) (.op (some 25) (.load 6 true (.t 24)) (.op (some 7) (.alloc [.int .i64 0, .str [], .int .i64 0, .int .i64 0, .lst true [], .int .i64 0]) (.op none (.store 6 (.t 7) (.t 25)) (.nil))))))))
 (.seq (.ops (.op (some 26) (.mv (.t 1)) (.op (some 27) (.load 6 true (.t 7)) (.op (some 28) (.callv (.t 26) [(.t 27)]) (.op (some 29) (.un .not (.t 28)) (.nil))))))
 (.cond (.t 29) (.seq (.ops (.op (some 30) (.mv (.t 0)) (.op (some 31) (.mv (.t 5)) (.op (some 32) (.load 6 true (.t 7)) (.op (some 33) (.iad 6 (.t 30) (.t 31)) (.op none (.store 6 (.t 33) (.t 32)) (.nil)))))))
 (.ops (.op (some 34) (.mv (.t 5)) (.op (some 35) (.bin .add (.t 34) (.c (.int .i64 1))) (.op (some 5) (.mv (.t 35)) (.nil)))))) (.skip)))))
 (.ops (.op (some 20) (.mv (.t 6)) (.op (some 21) (.bin .add (.t 20) (.c (.int .i64 1))) (.op (some 6) (.mv (.t 21)) (.nil))))))
def c50_1 : AC := b50_1
@[simp] theorem e50_1 {Γ : Tab} {V : Nat → Bool} {ρ : Type} (k : AX → St → Option ρ) (s : St) : eval Γ c50_1 V ρ k s = eval Γ b50_1 V ρ k s := rfl
def c50 : AF := AF.mk 42 [.t 4] (.seq (.ops (.op (some 4) (.mv (.c (.lst true []))) (.nil)))
 (.seq (.ops (.op (some 8) (.mv (.t 0)) (.op (some 9) (.mv (.t 1)) (.op (some 10) (.call 47 [(.t 8), (.t 9)]) (.op (some 5) (.mv (.t 10)) (.nil))))))
 (.seq (.seq (.ops (.op (some 11) (.mv (.t 5)) (.op (some 12) (.bin .eql (.t 11) (.c (.int .i64 (-1)))) (.nil))))
 (.cond (.t 12) (.seq (.ops (.op (some 13) (.mv (.t 0)) (.op (some 4) (.mv (.t 13)) (.nil))))
 (.ret)) (.skip)))
 (.seq (.seq (.ops (.op (some 14) (.mv (.t 5)) (.op (some 15) (.bin .add (.t 14) (.c (.int .i64 1))) (.op (some 6) (.mv (.t 15)) (.nil)))))
 (.block 0 (.loop [5, 6] [(5, 7), (16, 35)] [] [(.exit 0, [5])] c50_1)))
 (.seq (.ops (.op (some 36) (.mv (.t 0)) (.op (some 37) (.mv (.t 5)) (.op (some 38) (.sll 6 (.t 36) (some (.t 37)) none none) (.op none (.clr 6 (.agg [.int .i64 0, .str [], .int .i64 0, .int .i64 0, .lst true [], .int .i64 0]) (.t 38)) (.nil))))))
 (.seq (.ops (.op (some 39) (.mv (.t 0)) (.op (some 40) (.mv (.t 5)) (.op (some 41) (.sll 6 (.t 39) none (some (.t 40)) none) (.op (some 4) (.mv (.t 41)) (.nil))))))
 (.ret)))))))

theorem ok50 : okF Try.prog 50 c50 = true := by kernel_rfl

/-- cmp.isNaN[int] -/
def c53 : AF := AF.mk 6 [.t 2] (.seq (.ops (.op (some 2) (.mv (.c (.bool false))) (.nil)))
 (.seq (.ops (.op (some 3) (.mv (.t 0)) (.op (some 4) (.mv (.t 0)) (.op (some 5) (.bin .neq (.t 3) (.t 4)) (.op (some 2) (.mv (.t 5)) (.nil))))))
 (.ret)))

theorem ok53 : okF Try.prog 53 c53 = true := by kernel_rfl

/-- cmp.isNaN[string] -/
def c54 : AF := AF.mk 6 [.t 2] (.seq (.ops (.op (some 2) (.mv (.c (.bool false))) (.nil)))
 (.seq (.ops (.op (some 3) (.mv (.t 0)) (.op (some 4) (.mv (.t 0)) (.op (some 5) (.bin .neq (.t 3) (.t 4)) (.op (some 2) (.mv (.t 5)) (.nil))))))
 (.ret)))

theorem ok54 : okF Try.prog 54 c54 = true := by kernel_rfl

end Go.Proofs.Ytnokdfhhnjmeoaa
