/-
  Literals of functions, for the abstract machine; that they are meant.
-/
import Derived.Test.YtjblbmcgpdmahaaProg
import Derived.Test.YtjblbmcgpdmahaaAmGU
import Derived.Test.YtjblbmcgpdmahaaAmGS
import Derived.KernelRfl
set_option linter.unusedSimpArgs false
set_option linter.unusedVariables false
namespace Go.Proofs.Ytjblbmcgpdmahaa
open Go.Am
/-- catacomb/catacomblaw16.MemberTells -/
def b3_1 : AC := .seq (.seq (.ops (.op (some 200) (.mv (.t 41)) (.op (some 201) (.mv (.t 4)) (.op (some 202) (.len false (.t 201)) (.op (some 203) (.bin .lss (.t 200) (.t 202)) (.nil))))))
 (.cond (.t 203) (.skip) (.exit 0)))
 (.seq (.block 1 (.seq (.ops (.op (some 207) (.mv (.t 4)) (.op (some 208) (.mv (.t 41)) (.op (some 209) (.iad 2 (.t 207) (.t 208)) (.op (some 210) (.load 2 true (.t 209)) (.op (some 211) (.call 25 [(.t 210)]) (.op (some 206) (.mv (.t 211)) (.op (some 212) (.ext (.t 206) 0) (.op (some 213) (.ext (.t 206) 1) (.op (some 42) (.mv (.t 212)) (.op (some 43) (.mv (.t 213)) (.nil))))))))))))
 (.seq (.ops (.op (some 215) (.mv (.t 4)) (.op (some 216) (.mv (.t 41)) (.op (some 217) (.iad 2 (.t 215) (.t 216)) (.op (some 218) (.load 2 true (.t 217)) (.op (some 219) (.call 26 [(.t 218)]) (.op (some 214) (.mv (.t 219)) (.op (some 220) (.ext (.t 214) 0) (.op (some 221) (.ext (.t 214) 1) (.op (some 44) (.mv (.t 220)) (.op (some 45) (.mv (.t 221)) (.nil))))))))))))
 (.seq (.ops (.op (some 222) (.mv (.t 42)) (.op (some 223) (.mv (.t 44)) (.op (some 224) (.call 20 [(.t 222), (.t 223)]) (.op (some 46) (.mv (.t 224)) (.nil))))))
 (.seq (.ops (.op (some 225) (.mv (.t 46)) (.op (some 226) (.un .not (.t 225)) (.op (some 227) (.mv (.t 226)) (.sc 231 false 227 228 230 (.op (some 228) (.mv (.t 43)) (.op (some 229) (.mv (.t 45)) (.op (some 230) (.beq true (.t 228) (.t 229)) (.nil)))) (.t 230) (.nil))))))
 (.cond (.t 231) (.seq (.ops (.op (some 12) (.mv (.c (.bool false))) (.nil)))
 (.ret)) (.skip)))))))
 (.ops (.op (some 204) (.mv (.t 41)) (.op (some 205) (.bin .add (.t 204) (.c (.int .i64 1))) (.op (some 41) (.mv (.t 205)) (.nil))))))
def c3_1 : AC := b3_1
@[simp] theorem e3_1 {Γ : Tab} {V : Nat → Bool} {ρ : Type} (k : AX → St → Option ρ) (s : St) : eval Γ c3_1 V ρ k s = eval Γ b3_1 V ρ k s := rfl
def c3 : AF := AF.mk 233 [.t 12] (.seq (.ops (.op (some 6) (.rbox (.t 0)) (.op (some 11) (.rbox (.t 5)) (.op (some 12) (.mv (.c (.bool false))) (.nil)))))
 (.seq (.ops (.op (some 47) (.call 9 []) (.op (some 13) (.mv (.t 47)) (.nil))))
 (.seq (.ops (.op (some 48) (.loadr 4 true (.t 6)) (.op (some 49) (.mv (.t 1)) (.op (some 50) (.call 10 [(.t 48), (.t 49)]) (.op (some 14) (.mv (.t 50)) (.nil))))))
 (.seq (.ops (.op (some 51) (.loadr 4 true (.t 11)) (.op (some 52) (.mv (.t 4)) (.op (some 53) (.call 10 [(.t 51), (.t 52)]) (.op (some 15) (.mv (.t 53)) (.nil))))))
 (.seq (.ops (.op (some 54) (.mv (.t 2)) (.op (some 55) (.mv (.t 3)) (.op (some 56) (.call 11 [(.t 54), (.t 55)]) (.op (some 16) (.mv (.t 56)) (.nil))))))
 (.seq (.seq (.ops (.op (some 57) (.mv (.t 14)) (.op (some 58) (.un .not (.t 57)) (.op (some 59) (.mv (.t 58)) (.sc 62 false 59 60 61 (.op (some 60) (.mv (.t 15)) (.op (some 61) (.un .not (.t 60)) (.nil))) (.t 61) (.op (some 63) (.mv (.t 62)) (.sc 66 false 63 64 65 (.op (some 64) (.mv (.t 16)) (.op (some 65) (.un .not (.t 64)) (.nil))) (.t 65) (.nil))))))))
 (.cond (.t 66) (.seq (.ops (.op (some 67) (.mv (.t 13)) (.op (some 12) (.mv (.t 67)) (.nil))))
 (.ret)) (.skip)))
 (.seq (.ops (.op (some 69) (.loadr 4 true (.t 6)) (.op (some 70) (.mv (.t 1)) (.op (some 71) (.call 12 [(.t 69), (.t 70)]) (.op (some 68) (.mv (.t 71)) (.op (some 72) (.ext (.t 68) 0) (.op (some 73) (.ext (.t 68) 1) (.op (some 17) (.mv (.t 72)) (.op (some 18) (.mv (.t 73)) (.nil))))))))))
 (.seq (.ops (.op (some 75) (.loadr 4 true (.t 6)) (.op (some 76) (.mv (.t 1)) (.op (some 77) (.call 13 [(.t 75), (.t 76)]) (.op (some 74) (.mv (.t 77)) (.op (some 78) (.ext (.t 74) 0) (.op (some 79) (.ext (.t 74) 1) (.op (some 19) (.mv (.t 78)) (.op (some 20) (.mv (.t 79)) (.nil))))))))))
 (.seq (.ops (.op (some 81) (.loadr 4 true (.t 6)) (.op (some 82) (.mv (.t 1)) (.op (some 83) (.mv (.t 2)) (.op (some 84) (.fad 3 (.t 11)) (.op (some 85) (.loadr 1 false (.t 84)) (.op (some 86) (.call 14 [(.t 81), (.t 82), (.t 83), (.t 85)]) (.op (some 80) (.mv (.t 86)) (.op (some 87) (.ext (.t 80) 0) (.op (some 88) (.ext (.t 80) 1) (.op (some 89) (.ext (.t 80) 2) (.op (some 21) (.alloc [.int .i64 0, .int .i64 0, .lst true [], .lst true []]) (.op none (.store 4 (.t 21) (.t 87)) (.op (some 22) (.mv (.t 88)) (.op (some 23) (.mv (.t 89)) (.nil))))))))))))))))
 (.seq (.ops (.op (some 91) (.loadr 4 true (.t 6)) (.op (some 92) (.mv (.t 1)) (.op (some 93) (.mv (.t 2)) (.op (some 94) (.fad 3 (.t 11)) (.op (some 95) (.loadr 1 false (.t 94)) (.op (some 96) (.call 15 [(.t 91), (.t 92), (.t 93), (.t 95)]) (.op (some 90) (.mv (.t 96)) (.op (some 97) (.ext (.t 90) 0) (.op (some 98) (.ext (.t 90) 1) (.op (some 99) (.ext (.t 90) 2) (.op (some 24) (.alloc [.int .i64 0, .int .i64 0, .lst true [], .lst true []]) (.op none (.store 4 (.t 24) (.t 97)) (.op (some 25) (.mv (.t 98)) (.op (some 26) (.mv (.t 99)) (.nil))))))))))))))))
 (.seq (.ops (.op (some 101) (.loadr 4 true (.t 6)) (.op (some 102) (.mv (.t 1)) (.op (some 103) (.mv (.t 2)) (.op (some 104) (.mv (.t 3)) (.op (some 105) (.mv (.t 4)) (.op (some 106) (.call 16 [(.t 101), (.t 102), (.t 103), (.t 104), (.t 105)]) (.op (some 100) (.mv (.t 106)) (.op (some 107) (.ext (.t 100) 0) (.op (some 108) (.ext (.t 100) 1) (.op (some 27) (.mv (.t 107)) (.op (some 28) (.mv (.t 108)) (.nil)))))))))))))
 (.seq (.ops (.op (some 110) (.loadr 4 true (.t 6)) (.op (some 111) (.mv (.t 1)) (.op (some 112) (.mv (.t 2)) (.op (some 113) (.mv (.t 3)) (.op (some 114) (.mv (.t 4)) (.op (some 115) (.call 17 [(.t 110), (.t 111), (.t 112), (.t 113), (.t 114)]) (.op (some 109) (.mv (.t 115)) (.op (some 116) (.ext (.t 109) 0) (.op (some 117) (.ext (.t 109) 1) (.op (some 29) (.mv (.t 116)) (.op (some 30) (.mv (.t 117)) (.nil)))))))))))))
 (.seq (.ops (.op (some 119) (.loadr 4 true (.t 6)) (.op (some 120) (.mv (.t 1)) (.op (some 121) (.loadr 4 true (.t 11)) (.op (some 122) (.call 18 [(.t 119), (.t 120), (.t 121)]) (.op (some 118) (.mv (.t 122)) (.op (some 123) (.ext (.t 118) 0) (.op (some 124) (.ext (.t 118) 1) (.op (some 31) (.alloc [.int .i64 0, .int .i64 0, .lst true [], .lst true []]) (.op none (.store 4 (.t 31) (.t 123)) (.op (some 32) (.mv (.t 124)) (.nil))))))))))))
 (.seq (.ops (.op (some 126) (.loadr 4 true (.t 6)) (.op (some 127) (.mv (.t 1)) (.op (some 128) (.loadr 4 true (.t 11)) (.op (some 129) (.call 19 [(.t 126), (.t 127), (.t 128)]) (.op (some 125) (.mv (.t 129)) (.op (some 130) (.ext (.t 125) 0) (.op (some 131) (.ext (.t 125) 1) (.op (some 33) (.alloc [.int .i64 0, .int .i64 0, .lst true [], .lst true []]) (.op none (.store 4 (.t 33) (.t 130)) (.op (some 34) (.mv (.t 131)) (.nil))))))))))))
 (.seq (.ops (.op (some 132) (.mv (.t 17)) (.op (some 133) (.mv (.t 19)) (.op (some 134) (.call 20 [(.t 132), (.t 133)]) (.op (some 35) (.mv (.t 134)) (.nil))))))
 (.seq (.ops (.op (some 135) (.load 4 true (.t 21)) (.op (some 136) (.load 4 true (.t 24)) (.op (some 137) (.call 21 [(.t 135), (.t 136)]) (.op (some 36) (.mv (.t 137)) (.nil))))))
 (.seq (.ops (.op (some 138) (.mv (.t 22)) (.op (some 139) (.mv (.t 25)) (.op (some 140) (.call 22 [(.t 138), (.t 139)]) (.op (some 37) (.mv (.t 140)) (.nil))))))
 (.seq (.ops (.op (some 141) (.mv (.t 27)) (.op (some 142) (.mv (.t 29)) (.op (some 143) (.call 22 [(.t 141), (.t 142)]) (.op (some 38) (.mv (.t 143)) (.nil))))))
 (.seq (.ops (.op (some 144) (.load 4 true (.t 31)) (.op (some 145) (.load 4 true (.t 33)) (.op (some 146) (.call 21 [(.t 144), (.t 145)]) (.op (some 39) (.mv (.t 146)) (.nil))))))
 (.seq (.ops (.op (some 147) (.mv (.t 32)) (.op (some 148) (.mv (.t 34)) (.op (some 149) (.call 22 [(.t 147), (.t 148)]) (.op (some 40) (.mv (.t 149)) (.nil))))))
 (.seq (.seq (.ops (.op (some 150) (.mv (.t 35)) (.op (some 151) (.un .not (.t 150)) (.op (some 152) (.mv (.t 151)) (.sc 155 false 152 153 154 (.op (some 153) (.mv (.t 36)) (.op (some 154) (.un .not (.t 153)) (.nil))) (.t 154) (.op (some 156) (.mv (.t 155)) (.sc 159 false 156 157 158 (.op (some 157) (.mv (.t 37)) (.op (some 158) (.un .not (.t 157)) (.nil))) (.t 158) (.op (some 160) (.mv (.t 159)) (.sc 163 false 160 161 162 (.op (some 161) (.mv (.t 38)) (.op (some 162) (.un .not (.t 161)) (.nil))) (.t 162) (.op (some 164) (.mv (.t 163)) (.sc 167 false 164 165 166 (.op (some 165) (.mv (.t 39)) (.op (some 166) (.un .not (.t 165)) (.nil))) (.t 166) (.op (some 168) (.mv (.t 167)) (.sc 171 false 168 169 170 (.op (some 169) (.mv (.t 40)) (.op (some 170) (.un .not (.t 169)) (.nil))) (.t 170) (.op (some 172) (.mv (.t 171)) (.sc 176 false 172 173 175 (.op (some 173) (.mv (.t 18)) (.op (some 174) (.mv (.t 20)) (.op (some 175) (.bin .neq (.t 173) (.t 174)) (.nil)))) (.t 175) (.op (some 177) (.mv (.t 176)) (.sc 181 false 177 178 180 (.op (some 178) (.mv (.t 23)) (.op (some 179) (.mv (.t 26)) (.op (some 180) (.beq true (.t 178) (.t 179)) (.nil)))) (.t 180) (.op (some 182) (.mv (.t 181)) (.sc 186 false 182 183 185 (.op (some 183) (.mv (.t 28)) (.op (some 184) (.mv (.t 30)) (.op (some 185) (.beq true (.t 183) (.t 184)) (.nil)))) (.t 185) (.op (some 187) (.mv (.t 186)) (.sc 199 false 187 188 198 (.op (some 188) (.loadr 4 true (.t 6)) (.op (some 189) (.mv (.t 1)) (.op (some 190) (.mv (.t 2)) (.op (some 191) (.mv (.t 3)) (.op (some 192) (.callp 23 [(.t 188), (.t 189), (.t 190), (.t 191)]) (.op (some 193) (.loadr 4 true (.t 6)) (.op (some 194) (.mv (.t 1)) (.op (some 195) (.mv (.t 2)) (.op (some 196) (.mv (.t 3)) (.op (some 197) (.callp 24 [(.t 193), (.t 194), (.t 195), (.t 196)]) (.op (some 198) (.beq true (.t 192) (.t 197)) (.nil)))))))))))) (.t 198) (.nil))))))))))))))))))))))
 (.cond (.t 199) (.seq (.ops (.op (some 12) (.mv (.c (.bool false))) (.nil)))
 (.ret)) (.skip)))
 (.seq (.seq (.ops (.op (some 41) (.mv (.c (.int .i64 0))) (.nil)))
 (.block 0 (.loop [41] [(12, 12), (41, 46), (200, 231)] [] [(.exit 0, []), (.ret, [12])] c3_1)))
 (.seq (.ops (.op (some 232) (.mv (.t 13)) (.op (some 12) (.mv (.t 232)) (.nil))))
 (.ret))))))))))))))))))))))))

theorem ok3 : okF Try.prog 3 c3 = true := by kernel_rfl

/-- catacomb/catacomblaw16.MemberNext -/
def c4 : AF := AF.mk 143 [.t 10] (.seq (.ops (.op (some 5) (.rbox (.t 0)) (.op (some 10) (.mv (.c (.bool false))) (.nil))))
 (.seq (.ops (.op (some 25) (.call 9 []) (.op (some 11) (.mv (.t 25)) (.nil))))
 (.seq (.ops (.op (some 26) (.loadr 4 true (.t 5)) (.op (some 27) (.mv (.t 1)) (.op (some 28) (.call 10 [(.t 26), (.t 27)]) (.op (some 12) (.mv (.t 28)) (.nil))))))
 (.seq (.seq (.ops (.op (some 29) (.mv (.t 12)) (.op (some 30) (.un .not (.t 29)) (.op (some 31) (.mv (.t 30)) (.sc 34 false 31 32 33 (.op (some 32) (.mv (.t 3)) (.op (some 33) (.bin .lss (.t 32) (.c (.int .i64 0))) (.nil))) (.t 33) (.op (some 35) (.mv (.t 34)) (.sc 38 false 35 36 37 (.op (some 36) (.mv (.t 3)) (.op (some 37) (.bin .gtr (.t 36) (.c (.int .i64 1000000))) (.nil))) (.t 37) (.nil))))))))
 (.cond (.t 38) (.seq (.ops (.op (some 39) (.mv (.t 11)) (.op (some 10) (.mv (.t 39)) (.nil))))
 (.ret)) (.skip)))
 (.seq (.ops (.op (some 40) (.fad 0 (.t 5)) (.op (some 41) (.loadr 1 false (.t 40)) (.op (some 42) (.mv (.t 2)) (.op (some 43) (.conv .i64 (.t 42)) (.op (some 44) (.mv (.t 1)) (.op (some 45) (.len false (.t 44)) (.op (some 46) (.bin .add (.t 45) (.c (.int .i64 1))) (.op (some 47) (.bin .rem (.t 43) (.t 46)) (.op (some 48) (.bin .add (.t 41) (.t 47)) (.op (some 13) (.mv (.t 48)) (.nil))))))))))))
 (.seq (.ops (.op (some 50) (.loadr 4 true (.t 5)) (.op (some 51) (.mv (.t 1)) (.op (some 52) (.mv (.t 13)) (.op (some 53) (.mv (.t 3)) (.op (some 54) (.mv (.t 4)) (.op (some 55) (.call 27 [(.t 50), (.t 51), (.t 52), (.t 53), (.t 54)]) (.op (some 49) (.mv (.t 55)) (.op (some 56) (.ext (.t 49) 0) (.op (some 57) (.ext (.t 49) 1) (.op (some 14) (.alloc [.int .i64 0, .lst true []]) (.op none (.store 2 (.t 14) (.t 56)) (.op (some 15) (.mv (.t 57)) (.nil))))))))))))))
 (.seq (.ops (.op (some 59) (.loadr 4 true (.t 5)) (.op (some 60) (.mv (.t 1)) (.op (some 61) (.mv (.t 13)) (.op (some 62) (.mv (.t 3)) (.op (some 63) (.mv (.t 4)) (.op (some 64) (.call 28 [(.t 59), (.t 60), (.t 61), (.t 62), (.t 63)]) (.op (some 58) (.mv (.t 64)) (.op (some 65) (.ext (.t 58) 0) (.op (some 66) (.ext (.t 58) 1) (.op (some 16) (.alloc [.int .i64 0, .lst true []]) (.op none (.store 2 (.t 16) (.t 65)) (.op (some 17) (.mv (.t 66)) (.nil))))))))))))))
 (.seq (.ops (.op (some 67) (.load 2 true (.t 14)) (.op (some 68) (.bslh 2 (.agg [.int .i64 0, .lst true []]) 1 [(0, (.t 67))]) (.op (some 69) (.load 2 true (.t 16)) (.op (some 70) (.bslh 2 (.agg [.int .i64 0, .lst true []]) 1 [(0, (.t 69))]) (.op (some 71) (.call 22 [(.t 68), (.t 70)]) (.op (some 18) (.mv (.t 71)) (.nil))))))))
 (.seq (.seq (.ops (.op (some 72) (.mv (.t 18)) (.op (some 73) (.un .not (.t 72)) (.op (some 74) (.mv (.t 73)) (.sc 78 false 74 75 77 (.op (some 75) (.mv (.t 15)) (.op (some 76) (.mv (.t 17)) (.op (some 77) (.bin .neq (.t 75) (.t 76)) (.nil)))) (.t 77) (.nil))))))
 (.cond (.t 78) (.seq (.ops (.op (some 10) (.mv (.c (.bool false))) (.nil)))
 (.ret)) (.skip)))
 (.seq (.seq (.ops (.op (some 79) (.mv (.t 15)) (.op (some 80) (.bin .neq (.t 79) (.c (.int .i64 0))) (.nil))))
 (.cond (.t 80) (.seq (.ops (.op (some 81) (.mv (.t 11)) (.op (some 10) (.mv (.t 81)) (.nil))))
 (.ret)) (.skip)))
 (.seq (.ops (.op (some 83) (.loadr 4 true (.t 5)) (.op (some 84) (.mv (.t 1)) (.op (some 85) (.call 12 [(.t 83), (.t 84)]) (.op (some 82) (.mv (.t 85)) (.op (some 86) (.ext (.t 82) 0) (.op (some 87) (.ext (.t 82) 1) (.op (some 19) (.mv (.t 86)) (.op (some 20) (.mv (.t 87)) (.nil))))))))))
 (.seq (.ops (.op (some 89) (.load 2 true (.t 14)) (.op (some 90) (.call 25 [(.t 89)]) (.op (some 88) (.mv (.t 90)) (.op (some 91) (.ext (.t 88) 0) (.op (some 92) (.ext (.t 88) 1) (.op (some 21) (.mv (.t 91)) (.op (some 22) (.mv (.t 92)) (.nil)))))))))
 (.seq (.ops (.op (some 93) (.mv (.t 3)) (.op (some 94) (.mv (.t 21)) (.op (some 95) (.callp 29 [(.t 93), (.t 94)]) (.op (some 96) (.bsl 2 (.agg [.int .i64 0, .lst true []]) 1 [(0, (.t 95))]) (.op (some 97) (.load 2 true (.t 14)) (.op (some 98) (.bsl 2 (.agg [.int .i64 0, .lst true []]) 1 [(0, (.t 97))]) (.op (some 99) (.callp 22 [(.t 96), (.t 98)]) (.op (some 23) (.mv (.t 99)) (.nil))))))))))
 (.seq (.ops (.op (some 100) (.mv (.t 19)) (.op (some 101) (.len false (.t 100)) (.op (some 102) (.mv (.t 21)) (.op (some 103) (.len false (.t 102)) (.op (some 104) (.bin .sub (.t 101) (.t 103)) (.op (some 24) (.mv (.t 104)) (.nil))))))))
 (.seq (.ops (.op (some 105) (.mv (.t 11)) (.op (some 106) (.mv (.t 105)) (.sc 108 true 106 107 107 (.op (some 107) (.mv (.t 22)) (.nil)) (.t 107) (.op (some 109) (.mv (.t 108)) (.sc 111 true 109 110 110 (.op (some 110) (.mv (.t 23)) (.nil)) (.t 110) (.op (some 112) (.mv (.t 111)) (.sc 115 true 112 113 114 (.op (some 113) (.mv (.t 21)) (.op (some 114) (.call 30 [(.t 113)]) (.nil))) (.t 114) (.op (some 116) (.mv (.t 115)) (.sc 120 true 116 117 119 (.op (some 117) (.mv (.t 19)) (.op (some 118) (.mv (.t 21)) (.op (some 119) (.call 31 [(.t 117), (.t 118)]) (.nil)))) (.t 119) (.op (some 121) (.mv (.t 120)) (.sc 125 true 121 122 124 (.op (some 122) (.mv (.t 21)) (.op (some 123) (.mv (.t 19)) (.op (some 124) (.call 31 [(.t 122), (.t 123)]) (.nil)))) (.t 124) (.op (some 126) (.mv (.t 125)) (.sc 133 true 126 127 132 (.op (some 127) (.mv (.t 24)) (.op (some 128) (.bin .eql (.t 127) (.c (.int .i64 1))) (.op (some 129) (.mv (.t 128)) (.sc 132 false 129 130 131 (.op (some 130) (.mv (.t 24)) (.op (some 131) (.bin .eql (.t 130) (.c (.int .i64 (-1)))) (.nil))) (.t 131) (.nil))))) (.t 132) (.op (some 134) (.mv (.t 133)) (.sc 142 true 134 135 141 (.op (some 135) (.mv (.t 19)) (.op (some 136) (.mv (.t 4)) (.op (some 137) (.call 32 [(.t 135), (.t 136)]) (.op (some 138) (.mv (.t 21)) (.op (some 139) (.mv (.t 4)) (.op (some 140) (.call 32 [(.t 138), (.t 139)]) (.op (some 141) (.beq true (.t 137) (.t 140)) (.nil)))))))) (.t 141) (.op (some 10) (.mv (.t 142)) (.nil))))))))))))))))))
 (.ret))))))))))))))))

theorem ok4 : okF Try.prog 4 c4 = true := by kernel_rfl

/-- catacomb/catacomblaw16.MemberMeet -/
def b5_1 : AC := .seq (.seq (.ops (.op (some 77) (.mv (.t 13)) (.op (some 78) (.mv (.t 8)) (.op (some 79) (.len false (.t 78)) (.op (some 80) (.bin .lss (.t 77) (.t 79)) (.nil))))))
 (.cond (.t 80) (.skip) (.exit 0)))
 (.seq (.block 1 (.seq (.ops (.op (some 83) (.mv (.t 8)) (.op (some 84) (.mv (.t 13)) (.op (some 85) (.iad 1 (.t 83) (.t 84)) (.op (some 86) (.load 1 false (.t 85)) (.op (some 87) (.mv (.t 2)) (.op (some 88) (.conv .i64 (.t 87)) (.op (some 89) (.bin .rem (.t 88) (.c (.int .i64 12))) (.op (some 90) (.bin .neq (.t 86) (.t 89)) (.nil))))))))))
 (.cond (.t 90) (.ops (.op (some 91) (.mv (.t 12)) (.op (some 92) (.mv (.t 8)) (.op (some 93) (.mv (.t 13)) (.op (some 94) (.iad 1 (.t 92) (.t 93)) (.op (some 95) (.load 1 false (.t 94)) (.op (some 96) (.bslh 1 (.int .i64 0) 1 [(0, (.t 95))]) (.op (some 97) (.app 1 8 (.t 91) (.t 96)) (.op (some 12) (.mv (.t 97)) (.nil)))))))))) (.skip))))
 (.ops (.op (some 81) (.mv (.t 13)) (.op (some 82) (.bin .add (.t 81) (.c (.int .i64 1))) (.op (some 13) (.mv (.t 82)) (.nil))))))
def c5_1 : AC := b5_1
@[simp] theorem e5_1 {Γ : Tab} {V : Nat → Bool} {ρ : Type} (k : AX → St → Option ρ) (s : St) : eval Γ c5_1 V ρ k s = eval Γ b5_1 V ρ k s := rfl
def c5 : AF := AF.mk 114 [.t 6] (.seq (.ops (.op (some 6) (.mv (.c (.bool false))) (.nil)))
 (.seq (.ops (.op (some 14) (.call 9 []) (.op (some 7) (.mv (.t 14)) (.nil))))
 (.seq (.seq (.ops (.op (some 15) (.mv (.t 0)) (.op (some 16) (.len false (.t 15)) (.op (some 17) (.bin .gtr (.t 16) (.c (.int .i64 30))) (.op (some 18) (.mv (.t 17)) (.sc 22 false 18 19 21 (.op (some 19) (.mv (.t 1)) (.op (some 20) (.len false (.t 19)) (.op (some 21) (.bin .gtr (.t 20) (.c (.int .i64 30))) (.nil)))) (.t 21) (.nil)))))))
 (.cond (.t 22) (.seq (.ops (.op (some 23) (.mv (.t 7)) (.op (some 6) (.mv (.t 23)) (.nil))))
 (.ret)) (.skip)))
 (.seq (.ops (.op (some 24) (.mv (.t 0)) (.op (some 25) (.call 33 [(.t 24)]) (.op (some 8) (.mv (.t 25)) (.nil)))))
 (.seq (.ops (.op (some 26) (.mv (.t 1)) (.op (some 27) (.call 33 [(.t 26)]) (.op (some 9) (.mv (.t 27)) (.nil)))))
 (.seq (.ops (.op (some 28) (.mv (.t 8)) (.op (some 29) (.call 30 [(.t 28)]) (.op (some 10) (.mv (.t 29)) (.nil)))))
 (.seq (.ops (.op (some 30) (.mv (.t 9)) (.op (some 31) (.call 30 [(.t 30)]) (.op (some 11) (.mv (.t 31)) (.nil)))))
 (.seq (.seq (.ops (.op (some 32) (.mv (.t 10)) (.op (some 33) (.un .not (.t 32)) (.op (some 34) (.mv (.t 33)) (.sc 37 false 34 35 36 (.op (some 35) (.mv (.t 11)) (.op (some 36) (.un .not (.t 35)) (.nil))) (.t 36) (.nil))))))
 (.cond (.t 37) (.seq (.ops (.op (some 38) (.mv (.t 7)) (.op (some 39) (.mv (.t 38)) (.sc 46 true 39 40 45 (.op (some 40) (.mv (.t 8)) (.op (some 41) (.len false (.t 40)) (.op (some 42) (.bin .eql (.t 41) (.c (.int .i64 0))) (.op (some 43) (.mv (.t 42)) (.sc 45 false 43 44 44 (.op (some 44) (.mv (.t 10)) (.nil)) (.t 44) (.nil)))))) (.t 45) (.op (some 47) (.mv (.t 46)) (.sc 54 true 47 48 53 (.op (some 48) (.mv (.t 9)) (.op (some 49) (.len false (.t 48)) (.op (some 50) (.bin .eql (.t 49) (.c (.int .i64 0))) (.op (some 51) (.mv (.t 50)) (.sc 53 false 51 52 52 (.op (some 52) (.mv (.t 11)) (.nil)) (.t 52) (.nil)))))) (.t 53) (.op (some 6) (.mv (.t 54)) (.nil))))))))
 (.ret)) (.skip)))
 (.seq (.seq (.ops (.op (some 55) (.mv (.t 8)) (.op (some 56) (.mv (.t 9)) (.op (some 57) (.call 31 [(.t 55), (.t 56)]) (.op (some 58) (.mv (.t 8)) (.op (some 59) (.mv (.t 9)) (.op (some 60) (.call 34 [(.t 58), (.t 59)]) (.op (some 61) (.beq true (.t 57) (.t 60)) (.op (some 62) (.mv (.t 61)) (.sc 70 false 62 63 69 (.op (some 63) (.mv (.t 8)) (.op (some 64) (.mv (.t 9)) (.op (some 65) (.call 31 [(.t 63), (.t 64)]) (.op (some 66) (.mv (.t 9)) (.op (some 67) (.mv (.t 8)) (.op (some 68) (.call 31 [(.t 66), (.t 67)]) (.op (some 69) (.beq true (.t 65) (.t 68)) (.nil)))))))) (.t 69) (.op (some 71) (.mv (.t 70)) (.sc 76 false 71 72 75 (.op (some 72) (.mv (.t 8)) (.op (some 73) (.mv (.t 8)) (.op (some 74) (.call 31 [(.t 72), (.t 73)]) (.op (some 75) (.un .not (.t 74)) (.nil))))) (.t 75) (.nil)))))))))))))
 (.cond (.t 76) (.seq (.ops (.op (some 6) (.mv (.c (.bool false))) (.nil)))
 (.ret)) (.skip)))
 (.seq (.ops (.op (some 12) (.mv (.c (.lst true []))) (.nil)))
 (.seq (.seq (.ops (.op (some 13) (.mv (.c (.int .i64 0))) (.nil)))
 (.block 0 (.loop [12, 13] [(12, 13), (77, 97)] [(12, 1)] [(.exit 0, [12])] c5_1)))
 (.seq (.ops (.op (some 98) (.mv (.t 7)) (.op (some 99) (.mv (.t 98)) (.sc 113 true 99 100 112 (.op (some 100) (.mv (.t 12)) (.op (some 101) (.len false (.t 100)) (.op (some 102) (.bin .eql (.t 101) (.c (.int .i64 0))) (.op (some 103) (.mv (.t 102)) (.sc 112 false 103 104 111 (.op (some 104) (.mv (.t 8)) (.op (some 105) (.mv (.t 12)) (.op (some 106) (.call 31 [(.t 104), (.t 105)]) (.op (some 107) (.mv (.t 106)) (.sc 111 true 107 108 110 (.op (some 108) (.mv (.t 12)) (.op (some 109) (.mv (.t 8)) (.op (some 110) (.call 31 [(.t 108), (.t 109)]) (.nil)))) (.t 110) (.nil)))))) (.t 111) (.nil)))))) (.t 112) (.op (some 6) (.mv (.t 113)) (.nil))))))
 (.ret)))))))))))))

theorem ok5 : okF Try.prog 5 c5 = true := by kernel_rfl

/-- catacomb/catacomblaw16.MemberGone -/
def c6 : AF := AF.mk 209 [.t 12] (.seq (.ops (.op (some 6) (.rbox (.t 0)) (.op (some 12) (.mv (.c (.bool false))) (.nil))))
 (.seq (.ops (.op (some 34) (.call 9 []) (.op (some 13) (.mv (.t 34)) (.nil))))
 (.seq (.ops (.op (some 35) (.loadr 4 true (.t 6)) (.op (some 36) (.mv (.t 1)) (.op (some 37) (.call 10 [(.t 35), (.t 36)]) (.op (some 14) (.mv (.t 37)) (.nil))))))
 (.seq (.ops (.op (some 38) (.mv (.t 5)) (.op (some 39) (.call 35 [(.t 38)]) (.op (some 15) (.mv (.t 39)) (.nil)))))
 (.seq (.seq (.ops (.op (some 40) (.mv (.t 14)) (.op (some 41) (.un .not (.t 40)) (.op (some 42) (.mv (.t 41)) (.sc 45 false 42 43 44 (.op (some 43) (.mv (.t 15)) (.op (some 44) (.un .not (.t 43)) (.nil))) (.t 44) (.op (some 46) (.mv (.t 45)) (.sc 49 false 46 47 48 (.op (some 47) (.mv (.t 4)) (.op (some 48) (.bin .lss (.t 47) (.c (.int .i64 0))) (.nil))) (.t 48) (.op (some 50) (.mv (.t 49)) (.sc 53 false 50 51 52 (.op (some 51) (.mv (.t 4)) (.op (some 52) (.bin .gtr (.t 51) (.c (.int .i64 1000000))) (.nil))) (.t 52) (.nil))))))))))
 (.cond (.t 53) (.seq (.ops (.op (some 54) (.mv (.t 13)) (.op (some 12) (.mv (.t 54)) (.nil))))
 (.ret)) (.skip)))
 (.seq (.ops (.op (some 55) (.fad 0 (.t 6)) (.op (some 56) (.loadr 1 false (.t 55)) (.op (some 57) (.mv (.t 2)) (.op (some 58) (.conv .i64 (.t 57)) (.op (some 59) (.mv (.t 1)) (.op (some 60) (.len false (.t 59)) (.op (some 61) (.bin .add (.t 60) (.c (.int .i64 1))) (.op (some 62) (.bin .rem (.t 58) (.t 61)) (.op (some 63) (.bin .add (.t 56) (.t 62)) (.op (some 16) (.mv (.t 63)) (.nil))))))))))))
 (.seq (.ops (.op (some 64) (.mv (.t 16)) (.op (some 65) (.mv (.t 3)) (.op (some 66) (.conv .i64 (.t 65)) (.op (some 67) (.bin .rem (.t 66) (.c (.int .i64 8))) (.op (some 68) (.bin .add (.t 64) (.t 67)) (.op (some 17) (.mv (.t 68)) (.nil))))))))
 (.seq (.ops (.op (some 70) (.loadr 4 true (.t 6)) (.op (some 71) (.mv (.t 1)) (.op (some 72) (.mv (.t 16)) (.op (some 73) (.call 14 [(.t 70), (.t 71), (.t 72), (.c (.lst true []))]) (.op (some 69) (.mv (.t 73)) (.op (some 74) (.ext (.t 69) 0) (.op (some 75) (.ext (.t 69) 1) (.op (some 76) (.ext (.t 69) 2) (.op (some 18) (.alloc [.int .i64 0, .int .i64 0, .lst true [], .lst true []]) (.op none (.store 4 (.t 18) (.t 74)) (.op (some 19) (.mv (.t 75)) (.op (some 20) (.mv (.t 76)) (.nil))))))))))))))
 (.seq (.ops (.op (some 78) (.loadr 4 true (.t 6)) (.op (some 79) (.mv (.t 1)) (.op (some 80) (.call 12 [(.t 78), (.t 79)]) (.op (some 77) (.mv (.t 80)) (.op (some 81) (.ext (.t 77) 0) (.op (some 82) (.ext (.t 77) 1) (.op (some 21) (.mv (.t 81)) (.op (some 22) (.mv (.t 82)) (.nil))))))))))
 (.seq (.ops (.op (some 84) (.load 4 true (.t 18)) (.op (some 85) (.mv (.t 19)) (.op (some 86) (.call 12 [(.t 84), (.t 85)]) (.op (some 83) (.mv (.t 86)) (.op (some 87) (.ext (.t 83) 0) (.op (some 88) (.ext (.t 83) 1) (.op (some 23) (.mv (.t 87)) (.op (some 24) (.mv (.t 88)) (.nil))))))))))
 (.seq (.ops (.op (some 89) (.mv (.t 21)) (.op (some 90) (.mv (.t 23)) (.op (some 91) (.call 20 [(.t 89), (.t 90)]) (.op (some 25) (.mv (.t 91)) (.nil))))))
 (.seq (.seq (.ops (.op (some 92) (.mv (.t 20)) (.op (some 93) (.un .not (.t 92)) (.op (some 94) (.mv (.t 93)) (.sc 97 false 94 95 96 (.op (some 95) (.mv (.t 25)) (.op (some 96) (.un .not (.t 95)) (.nil))) (.t 96) (.op (some 98) (.mv (.t 97)) (.sc 106 false 98 99 105 (.op (some 99) (.mv (.t 24)) (.op (some 100) (.bin .neq (.t 99) (.c (.int .i64 0))) (.op (some 101) (.mv (.t 100)) (.sc 105 true 101 102 104 (.op (some 102) (.mv (.t 24)) (.op (some 103) (.mv (.t 22)) (.op (some 104) (.bin .neq (.t 102) (.t 103)) (.nil)))) (.t 104) (.nil))))) (.t 105) (.op (some 107) (.mv (.t 106)) (.sc 116 false 107 108 115 (.op (some 108) (.mv (.t 22)) (.op (some 109) (.mv (.t 16)) (.op (some 110) (.bin .gtr (.t 108) (.t 109)) (.op (some 111) (.mv (.t 110)) (.sc 115 true 111 112 114 (.op (some 112) (.mv (.t 24)) (.op (some 113) (.mv (.t 22)) (.op (some 114) (.bin .neq (.t 112) (.t 113)) (.nil)))) (.t 114) (.nil)))))) (.t 115) (.op (some 117) (.mv (.t 116)) (.sc 128 false 117 118 127 (.op (some 118) (.mv (.t 19)) (.op (some 119) (.len false (.t 118)) (.op (some 120) (.mv (.t 1)) (.op (some 121) (.len false (.t 120)) (.op (some 122) (.mv (.t 16)) (.op (some 123) (.fad 0 (.t 6)) (.op (some 124) (.loadr 1 false (.t 123)) (.op (some 125) (.bin .sub (.t 122) (.t 124)) (.op (some 126) (.bin .sub (.t 121) (.t 125)) (.op (some 127) (.bin .neq (.t 119) (.t 126)) (.nil))))))))))) (.t 127) (.op (some 129) (.mv (.t 128)) (.sc 141 false 129 130 140 (.op (some 130) (.loadr 4 true (.t 6)) (.op (some 131) (.mv (.t 1)) (.op (some 132) (.mv (.t 17)) (.op (some 133) (.mv (.t 4)) (.op (some 134) (.callp 23 [(.t 130), (.t 131), (.t 132), (.t 133)]) (.op (some 135) (.load 4 true (.t 18)) (.op (some 136) (.mv (.t 19)) (.op (some 137) (.mv (.t 17)) (.op (some 138) (.mv (.t 4)) (.op (some 139) (.callp 23 [(.t 135), (.t 136), (.t 137), (.t 138)]) (.op (some 140) (.beq true (.t 134) (.t 139)) (.nil)))))))))))) (.t 140) (.nil))))))))))))))
 (.cond (.t 141) (.seq (.ops (.op (some 12) (.mv (.c (.bool false))) (.nil)))
 (.ret)) (.skip)))
 (.seq (.ops (.op (some 143) (.loadr 4 true (.t 6)) (.op (some 144) (.mv (.t 1)) (.op (some 145) (.mv (.t 17)) (.op (some 146) (.mv (.t 4)) (.op (some 147) (.mv (.t 5)) (.op (some 148) (.call 16 [(.t 143), (.t 144), (.t 145), (.t 146), (.t 147)]) (.op (some 142) (.mv (.t 148)) (.op (some 149) (.ext (.t 142) 0) (.op (some 150) (.ext (.t 142) 1) (.op (some 26) (.mv (.t 149)) (.op (some 27) (.mv (.t 150)) (.nil)))))))))))))
 (.seq (.ops (.op (some 152) (.load 4 true (.t 18)) (.op (some 153) (.mv (.t 19)) (.op (some 154) (.mv (.t 17)) (.op (some 155) (.mv (.t 4)) (.op (some 156) (.mv (.t 5)) (.op (some 157) (.call 16 [(.t 152), (.t 153), (.t 154), (.t 155), (.t 156)]) (.op (some 151) (.mv (.t 157)) (.op (some 158) (.ext (.t 151) 0) (.op (some 159) (.ext (.t 151) 1) (.op (some 28) (.mv (.t 158)) (.op (some 29) (.mv (.t 159)) (.nil)))))))))))))
 (.seq (.seq (.ops (.op (some 160) (.mv (.t 27)) (.op (some 161) (.mv (.t 29)) (.op (some 162) (.beq true (.t 160) (.t 161)) (.nil)))))
 (.cond (.t 162) (.seq (.ops (.op (some 163) (.mv (.t 13)) (.op (some 164) (.mv (.t 163)) (.sc 166 true 164 165 165 (.op (some 165) (.mv (.t 29)) (.nil)) (.t 165) (.op (some 167) (.mv (.t 166)) (.sc 171 true 167 168 170 (.op (some 168) (.mv (.t 26)) (.op (some 169) (.len false (.t 168)) (.op (some 170) (.bin .eql (.t 169) (.c (.int .i64 0))) (.nil)))) (.t 170) (.op (some 172) (.mv (.t 171)) (.sc 179 true 172 173 178 (.op (some 173) (.mv (.t 1)) (.op (some 174) (.len false (.t 173)) (.op (some 175) (.mv (.t 5)) (.op (some 176) (.len false (.t 175)) (.op (some 177) (.bin .add (.t 174) (.t 176)) (.op (some 178) (.bin .gtr (.t 177) (.c (.int .i64 500))) (.nil))))))) (.t 178) (.op (some 12) (.mv (.t 179)) (.nil))))))))))
 (.ret)) (.skip)))
 (.seq (.seq (.ops (.op (some 180) (.mv (.t 27)) (.op (some 181) (.un .not (.t 180)) (.nil))))
 (.cond (.t 181) (.seq (.ops (.op (some 182) (.mv (.t 13)) (.op (some 183) (.mv (.t 182)) (.sc 190 true 183 184 189 (.op (some 184) (.mv (.t 26)) (.op (some 185) (.len false (.t 184)) (.op (some 186) (.mv (.t 28)) (.op (some 187) (.len false (.t 186)) (.op (some 188) (.bin .add (.t 185) (.t 187)) (.op (some 189) (.bin .eql (.t 188) (.c (.int .i64 0))) (.nil))))))) (.t 189) (.op (some 12) (.mv (.t 190)) (.nil))))))
 (.ret)) (.skip)))
 (.seq (.ops (.op (some 192) (.loadr 4 true (.t 6)) (.op (some 193) (.mv (.t 26)) (.op (some 194) (.mv (.t 16)) (.op (some 195) (.call 14 [(.t 192), (.t 193), (.t 194), (.c (.lst true []))]) (.op (some 191) (.mv (.t 195)) (.op (some 196) (.ext (.t 191) 0) (.op (some 197) (.ext (.t 191) 1) (.op (some 198) (.ext (.t 191) 2) (.op (some 30) (.alloc [.int .i64 0, .int .i64 0, .lst true [], .lst true []]) (.op none (.store 4 (.t 30) (.t 196)) (.op (some 31) (.mv (.t 197)) (.op (some 32) (.mv (.t 198)) (.nil))))))))))))))
 (.seq (.ops (.op (some 199) (.mv (.t 28)) (.op (some 200) (.mv (.t 31)) (.op (some 201) (.call 22 [(.t 199), (.t 200)]) (.op (some 33) (.mv (.t 201)) (.nil))))))
 (.seq (.ops (.op (some 202) (.mv (.t 13)) (.op (some 203) (.mv (.t 202)) (.sc 205 true 203 204 204 (.op (some 204) (.mv (.t 32)) (.nil)) (.t 204) (.op (some 206) (.mv (.t 205)) (.sc 208 true 206 207 207 (.op (some 207) (.mv (.t 33)) (.nil)) (.t 207) (.op (some 12) (.mv (.t 208)) (.nil))))))))
 (.ret))))))))))))))))))))

theorem ok6 : okF Try.prog 6 c6 = true := by kernel_rfl

/-- catacomb/catacomblaw16.MemberOver -/
def c7 : AF := AF.mk 138 [.t 8] (.seq (.ops (.op (some 4) (.rbox (.t 0)) (.op (some 8) (.mv (.c (.bool false))) (.nil))))
 (.seq (.ops (.op (some 23) (.call 9 []) (.op (some 9) (.mv (.t 23)) (.nil))))
 (.seq (.ops (.op (some 24) (.loadr 4 true (.t 4)) (.op (some 25) (.mv (.t 1)) (.op (some 26) (.call 10 [(.t 24), (.t 25)]) (.op (some 10) (.mv (.t 26)) (.nil))))))
 (.seq (.ops (.op (some 27) (.mv (.t 3)) (.op (some 28) (.call 35 [(.t 27)]) (.op (some 11) (.mv (.t 28)) (.nil)))))
 (.seq (.ops (.op (some 29) (.mv (.t 2)) (.op (some 30) (.conv .i64 (.t 29)) (.op (some 31) (.bin .rem (.t 30) (.c (.int .i64 20))) (.op (some 12) (.mv (.t 31)) (.nil))))))
 (.seq (.seq (.ops (.op (some 32) (.mv (.t 10)) (.op (some 33) (.un .not (.t 32)) (.op (some 34) (.mv (.t 33)) (.sc 37 false 34 35 36 (.op (some 35) (.mv (.t 11)) (.op (some 36) (.un .not (.t 35)) (.nil))) (.t 36) (.op (some 38) (.mv (.t 37)) (.sc 43 false 38 39 42 (.op (some 39) (.mv (.t 12)) (.op (some 40) (.fad 0 (.t 4)) (.op (some 41) (.loadr 1 false (.t 40)) (.op (some 42) (.bin .gtr (.t 39) (.t 41)) (.nil))))) (.t 42) (.op (some 44) (.mv (.t 43)) (.sc 47 false 44 45 46 (.op (some 45) (.mv (.t 12)) (.op (some 46) (.bin .eql (.t 45) (.c (.int .i64 0))) (.nil))) (.t 46) (.nil))))))))))
 (.cond (.t 47) (.seq (.ops (.op (some 48) (.mv (.t 9)) (.op (some 8) (.mv (.t 48)) (.nil))))
 (.ret)) (.skip)))
 (.seq (.ops (.op (some 49) (.fad 0 (.t 4)) (.op (some 50) (.loadr 1 false (.t 49)) (.op (some 51) (.mv (.t 12)) (.op (some 52) (.bin .sub (.t 50) (.t 51)) (.op (some 13) (.mv (.t 52)) (.nil)))))))
 (.seq (.ops (.op (some 54) (.loadr 4 true (.t 4)) (.op (some 55) (.mv (.t 1)) (.op (some 56) (.mv (.t 13)) (.op (some 57) (.mv (.t 3)) (.op (some 58) (.call 16 [(.t 54), (.t 55), (.t 56), (.c (.int .i64 0)), (.t 57)]) (.op (some 53) (.mv (.t 58)) (.op (some 59) (.ext (.t 53) 0) (.op (some 60) (.ext (.t 53) 1) (.op (some 14) (.mv (.t 59)) (.op (some 15) (.mv (.t 60)) (.nil))))))))))))
 (.seq (.seq (.ops (.op (some 61) (.mv (.t 3)) (.op (some 62) (.len false (.t 61)) (.op (some 63) (.mv (.t 12)) (.op (some 64) (.bin .leq (.t 62) (.t 63)) (.nil))))))
 (.cond (.t 64) (.seq (.ops (.op (some 65) (.mv (.t 14)) (.op (some 66) (.mv (.t 1)) (.op (some 67) (.call 22 [(.t 65), (.t 66)]) (.op (some 16) (.mv (.t 67)) (.nil))))))
 (.seq (.ops (.op (some 68) (.mv (.t 9)) (.op (some 69) (.mv (.t 68)) (.sc 71 true 69 70 70 (.op (some 70) (.mv (.t 15)) (.nil)) (.t 70) (.op (some 72) (.mv (.t 71)) (.sc 74 true 72 73 73 (.op (some 73) (.mv (.t 16)) (.nil)) (.t 73) (.op (some 8) (.mv (.t 74)) (.nil))))))))
 (.ret))) (.skip)))
 (.seq (.seq (.ops (.op (some 75) (.mv (.t 3)) (.op (some 76) (.mv (.t 12)) (.op (some 77) (.bin .sub (.t 76) (.c (.int .i64 1))) (.op (some 78) (.iad 2 (.t 75) (.t 77)) (.op (some 79) (.fad 0 (.t 78)) (.op (some 80) (.load 1 false (.t 79)) (.op (some 81) (.fad 1 (.t 4)) (.op (some 82) (.loadr 1 false (.t 81)) (.op (some 83) (.bin .neq (.t 80) (.t 82)) (.nil)))))))))))
 (.cond (.t 83) (.seq (.ops (.op (some 84) (.mv (.t 9)) (.op (some 85) (.mv (.t 84)) (.sc 88 true 85 86 87 (.op (some 86) (.mv (.t 15)) (.op (some 87) (.un .not (.t 86)) (.nil))) (.t 87) (.op (some 89) (.mv (.t 88)) (.sc 93 true 89 90 92 (.op (some 90) (.mv (.t 14)) (.op (some 91) (.len false (.t 90)) (.op (some 92) (.bin .eql (.t 91) (.c (.int .i64 0))) (.nil)))) (.t 92) (.op (some 8) (.mv (.t 93)) (.nil))))))))
 (.ret)) (.skip)))
 (.seq (.ops (.op (some 95) (.loadr 4 true (.t 4)) (.op (some 96) (.mv (.t 1)) (.op (some 97) (.fad 0 (.t 4)) (.op (some 98) (.loadr 1 false (.t 97)) (.op (some 99) (.fad 1 (.t 4)) (.op (some 100) (.loadr 1 false (.t 99)) (.op (some 101) (.mv (.t 3)) (.op (some 102) (.mv (.t 12)) (.op (some 103) (.sll 2 (.t 101) (some (.t 102)) none none) (.op (some 104) (.callp 16 [(.t 95), (.t 96), (.t 98), (.t 100), (.t 103)]) (.op (some 94) (.mv (.t 104)) (.op (some 105) (.ext (.t 94) 0) (.op (some 106) (.ext (.t 94) 1) (.op (some 17) (.mv (.t 105)) (.op (some 18) (.mv (.t 106)) (.nil)))))))))))))))))
 (.seq (.ops (.op (some 108) (.mv (.t 1)) (.op (some 109) (.mv (.t 3)) (.op (some 110) (.mv (.t 12)) (.op (some 111) (.sll 2 (.t 109) (some (.t 110)) none none) (.op (some 112) (.call 36 [(.t 108), (.c (.int .i64 0)), (.c (.int .i64 0)), (.t 111)]) (.op (some 107) (.mv (.t 112)) (.op (some 113) (.ext (.t 107) 0) (.op (some 114) (.ext (.t 107) 1) (.op (some 19) (.mv (.t 113)) (.op (some 20) (.mv (.t 114)) (.nil))))))))))))
 (.seq (.ops (.op (some 115) (.mv (.t 14)) (.op (some 116) (.mv (.t 17)) (.op (some 117) (.call 22 [(.t 115), (.t 116)]) (.op (some 21) (.mv (.t 117)) (.nil))))))
 (.seq (.ops (.op (some 118) (.mv (.t 14)) (.op (some 119) (.mv (.t 19)) (.op (some 120) (.call 22 [(.t 118), (.t 119)]) (.op (some 22) (.mv (.t 120)) (.nil))))))
 (.seq (.ops (.op (some 121) (.mv (.t 9)) (.op (some 122) (.mv (.t 121)) (.sc 124 true 122 123 123 (.op (some 123) (.mv (.t 21)) (.nil)) (.t 123) (.op (some 125) (.mv (.t 124)) (.sc 127 true 125 126 126 (.op (some 126) (.mv (.t 22)) (.nil)) (.t 126) (.op (some 128) (.mv (.t 127)) (.sc 132 true 128 129 131 (.op (some 129) (.mv (.t 15)) (.op (some 130) (.mv (.t 18)) (.op (some 131) (.beq false (.t 129) (.t 130)) (.nil)))) (.t 131) (.op (some 133) (.mv (.t 132)) (.sc 137 true 133 134 136 (.op (some 134) (.mv (.t 15)) (.op (some 135) (.mv (.t 20)) (.op (some 136) (.beq false (.t 134) (.t 135)) (.nil)))) (.t 136) (.op (some 8) (.mv (.t 137)) (.nil))))))))))))
 (.ret))))))))))))))))

theorem ok7 : okF Try.prog 7 c7 = true := by kernel_rfl

/-- catacomb/catacomblaw16.MemberHanded -/
def c8 : AF := AF.mk 134 [.t 8] (.seq (.ops (.op (some 4) (.rbox (.t 0)) (.op (some 6) (.rbox (.t 2)) (.op (some 8) (.mv (.c (.bool false))) (.nil)))))
 (.seq (.ops (.op (some 25) (.call 9 []) (.op (some 9) (.mv (.t 25)) (.nil))))
 (.seq (.ops (.op (some 26) (.loadr 4 true (.t 4)) (.op (some 27) (.mv (.t 1)) (.op (some 28) (.call 10 [(.t 26), (.t 27)]) (.op (some 10) (.mv (.t 28)) (.nil))))))
 (.seq (.ops (.op (some 29) (.loadr 4 true (.t 6)) (.op (some 30) (.mv (.t 3)) (.op (some 31) (.call 10 [(.t 29), (.t 30)]) (.op (some 11) (.mv (.t 31)) (.nil))))))
 (.seq (.seq (.ops (.op (some 32) (.mv (.t 10)) (.op (some 33) (.un .not (.t 32)) (.op (some 34) (.mv (.t 33)) (.sc 37 false 34 35 36 (.op (some 35) (.mv (.t 11)) (.op (some 36) (.un .not (.t 35)) (.nil))) (.t 36) (.nil))))))
 (.cond (.t 37) (.seq (.ops (.op (some 38) (.mv (.t 9)) (.op (some 8) (.mv (.t 38)) (.nil))))
 (.ret)) (.skip)))
 (.seq (.ops (.op (some 40) (.loadr 4 true (.t 4)) (.op (some 41) (.mv (.t 1)) (.op (some 42) (.loadr 4 true (.t 6)) (.op (some 43) (.call 18 [(.t 40), (.t 41), (.t 42)]) (.op (some 39) (.mv (.t 43)) (.op (some 44) (.ext (.t 39) 0) (.op (some 45) (.ext (.t 39) 1) (.op (some 12) (.alloc [.int .i64 0, .int .i64 0, .lst true [], .lst true []]) (.op none (.store 4 (.t 12) (.t 44)) (.op (some 13) (.mv (.t 45)) (.nil))))))))))))
 (.seq (.seq (.ops (.op (some 46) (.fad 0 (.t 6)) (.op (some 47) (.loadr 1 false (.t 46)) (.op (some 48) (.fad 0 (.t 4)) (.op (some 49) (.loadr 1 false (.t 48)) (.op (some 50) (.bin .leq (.t 47) (.t 49)) (.nil)))))))
 (.cond (.t 50) (.seq (.ops (.op (some 51) (.load 4 true (.t 12)) (.op (some 52) (.loadr 4 true (.t 4)) (.op (some 53) (.call 21 [(.t 51), (.t 52)]) (.op (some 14) (.mv (.t 53)) (.nil))))))
 (.seq (.ops (.op (some 54) (.mv (.t 13)) (.op (some 55) (.mv (.t 1)) (.op (some 56) (.call 22 [(.t 54), (.t 55)]) (.op (some 15) (.mv (.t 56)) (.nil))))))
 (.seq (.ops (.op (some 57) (.mv (.t 9)) (.op (some 58) (.mv (.t 57)) (.sc 60 true 58 59 59 (.op (some 59) (.mv (.t 14)) (.nil)) (.t 59) (.op (some 61) (.mv (.t 60)) (.sc 63 true 61 62 62 (.op (some 62) (.mv (.t 15)) (.nil)) (.t 62) (.op (some 8) (.mv (.t 63)) (.nil))))))))
 (.ret)))) (.skip)))
 (.seq (.ops (.op (some 65) (.load 4 true (.t 12)) (.op (some 66) (.mv (.t 13)) (.op (some 67) (.fad 0 (.t 6)) (.op (some 68) (.loadr 1 false (.t 67)) (.op (some 69) (.fad 1 (.t 6)) (.op (some 70) (.loadr 1 false (.t 69)) (.op (some 71) (.mv (.t 3)) (.op (some 72) (.call 16 [(.t 65), (.t 66), (.t 68), (.t 70), (.t 71)]) (.op (some 64) (.mv (.t 72)) (.op (some 73) (.ext (.t 64) 0) (.op (some 74) (.ext (.t 64) 1) (.op (some 16) (.mv (.t 73)) (.op (some 17) (.mv (.t 74)) (.nil)))))))))))))))
 (.seq (.ops (.op (some 76) (.load 4 true (.t 12)) (.op (some 77) (.mv (.t 16)) (.op (some 78) (.call 12 [(.t 76), (.t 77)]) (.op (some 75) (.mv (.t 78)) (.op (some 79) (.ext (.t 75) 0) (.op (some 80) (.ext (.t 75) 1) (.op (some 18) (.mv (.t 79)) (.op (some 19) (.mv (.t 80)) (.nil))))))))))
 (.seq (.ops (.op (some 82) (.loadr 4 true (.t 6)) (.op (some 83) (.mv (.t 3)) (.op (some 84) (.call 12 [(.t 82), (.t 83)]) (.op (some 81) (.mv (.t 84)) (.op (some 85) (.ext (.t 81) 0) (.op (some 86) (.ext (.t 81) 1) (.op (some 20) (.mv (.t 85)) (.op (some 21) (.mv (.t 86)) (.nil))))))))))
 (.seq (.ops (.op (some 87) (.load 4 true (.t 12)) (.op (some 88) (.loadr 4 true (.t 6)) (.op (some 89) (.call 21 [(.t 87), (.t 88)]) (.op (some 22) (.mv (.t 89)) (.nil))))))
 (.seq (.seq (.ops (.op (some 90) (.mv (.t 17)) (.op (some 91) (.un .not (.t 90)) (.op (some 92) (.mv (.t 91)) (.sc 95 false 92 93 94 (.op (some 93) (.mv (.t 22)) (.op (some 94) (.un .not (.t 93)) (.nil))) (.t 94) (.op (some 96) (.mv (.t 95)) (.sc 102 false 96 97 101 (.op (some 97) (.mv (.t 16)) (.op (some 98) (.len false (.t 97)) (.op (some 99) (.mv (.t 3)) (.op (some 100) (.len false (.t 99)) (.op (some 101) (.bin .lss (.t 98) (.t 100)) (.nil)))))) (.t 101) (.nil))))))))
 (.cond (.t 102) (.seq (.ops (.op (some 8) (.mv (.c (.bool false))) (.nil)))
 (.ret)) (.skip)))
 (.seq (.ops (.op (some 103) (.mv (.t 16)) (.op (some 104) (.mv (.t 3)) (.op (some 105) (.len false (.t 104)) (.op (some 106) (.sll 2 (.t 103) none (some (.t 105)) none) (.op (some 107) (.mv (.t 3)) (.op (some 108) (.call 22 [(.t 106), (.t 107)]) (.op (some 23) (.mv (.t 108)) (.nil)))))))))
 (.seq (.seq (.ops (.op (some 109) (.mv (.t 23)) (.op (some 110) (.un .not (.t 109)) (.nil))))
 (.cond (.t 110) (.seq (.ops (.op (some 8) (.mv (.c (.bool false))) (.nil)))
 (.ret)) (.skip)))
 (.seq (.seq (.ops (.op (some 111) (.mv (.t 16)) (.op (some 112) (.len false (.t 111)) (.op (some 113) (.mv (.t 3)) (.op (some 114) (.len false (.t 113)) (.op (some 115) (.bin .gtr (.t 112) (.t 114)) (.nil)))))))
 (.cond (.t 115) (.seq (.ops (.op (some 116) (.mv (.t 9)) (.op (some 117) (.mv (.t 116)) (.sc 121 true 117 118 120 (.op (some 118) (.mv (.t 13)) (.op (some 119) (.mv (.t 16)) (.op (some 120) (.call 37 [(.t 118), (.t 119)]) (.nil)))) (.t 120) (.op (some 8) (.mv (.t 121)) (.nil))))))
 (.ret)) (.skip)))
 (.seq (.ops (.op (some 122) (.mv (.t 18)) (.op (some 123) (.mv (.t 20)) (.op (some 124) (.call 20 [(.t 122), (.t 123)]) (.op (some 24) (.mv (.t 124)) (.nil))))))
 (.seq (.ops (.op (some 125) (.mv (.t 9)) (.op (some 126) (.mv (.t 125)) (.sc 128 true 126 127 127 (.op (some 127) (.mv (.t 24)) (.nil)) (.t 127) (.op (some 129) (.mv (.t 128)) (.sc 133 true 129 130 132 (.op (some 130) (.mv (.t 19)) (.op (some 131) (.mv (.t 21)) (.op (some 132) (.bin .eql (.t 130) (.t 131)) (.nil)))) (.t 132) (.op (some 8) (.mv (.t 133)) (.nil))))))))
 (.ret))))))))))))))))))

theorem ok8 : okF Try.prog 8 c8 = true := by kernel_rfl

/-- catacomb/catacomblaw16.head -/
def c9 : AF := AF.mk 254 [.t 0] (.seq (.ops (.op (some 0) (.mv (.c (.bool false))) (.nil)))
 (.seq (.ops (.op (some 36) (.call 38 []) (.op (some 35) (.mv (.t 36)) (.op (some 37) (.ext (.t 35) 0) (.op (some 38) (.ext (.t 35) 1) (.op (some 1) (.alloc [.int .i64 0, .int .i64 0, .lst true [], .lst true []]) (.op none (.store 4 (.t 1) (.t 37)) (.op (some 2) (.mv (.t 38)) (.nil)))))))))
 (.seq (.ops (.op (some 40) (.load 4 true (.t 1)) (.op (some 41) (.mv (.t 2)) (.op (some 42) (.call 12 [(.t 40), (.t 41)]) (.op (some 39) (.mv (.t 42)) (.op (some 43) (.ext (.t 39) 0) (.op (some 44) (.ext (.t 39) 1) (.op (some 3) (.mv (.t 43)) (.op (some 4) (.mv (.t 44)) (.nil))))))))))
 (.seq (.ops (.op (some 46) (.load 4 true (.t 1)) (.op (some 47) (.mv (.t 2)) (.op (some 48) (.sll 2 (.t 47) none (some (.c (.int .i64 1))) none) (.op (some 49) (.callp 12 [(.t 46), (.t 48)]) (.op (some 45) (.mv (.t 49)) (.op (some 50) (.ext (.t 45) 0) (.op (some 51) (.ext (.t 45) 1) (.op (some 5) (.mv (.t 50)) (.op (some 6) (.mv (.t 51)) (.nil)))))))))))
 (.seq (.ops (.op (some 53) (.load 4 true (.t 1)) (.op (some 54) (.mv (.t 2)) (.op (some 55) (.call 27 [(.t 53), (.t 54), (.c (.int .i64 5)), (.c (.int .i64 4)), (.c (.int .i64 2))]) (.op (some 52) (.mv (.t 55)) (.op (some 56) (.ext (.t 52) 0) (.op (some 57) (.ext (.t 52) 1) (.op (some 7) (.alloc [.int .i64 0, .lst true []]) (.op none (.store 2 (.t 7) (.t 56)) (.op (some 8) (.mv (.t 57)) (.nil)))))))))))
 (.seq (.ops (.op (some 59) (.load 4 true (.t 1)) (.op (some 60) (.mv (.t 2)) (.op (some 61) (.call 27 [(.t 59), (.t 60), (.c (.int .i64 3)), (.c (.int .i64 3)), (.c (.int .i64 2))]) (.op (some 58) (.mv (.t 61)) (.op (some 62) (.ext (.t 58) 0) (.op (some 63) (.ext (.t 58) 1) (.op (some 9) (.alloc [.int .i64 0, .lst true []]) (.op none (.store 2 (.t 9) (.t 62)) (.op (some 10) (.mv (.t 63)) (.nil)))))))))))
 (.seq (.ops (.op (some 65) (.load 4 true (.t 1)) (.op (some 66) (.mv (.t 2)) (.op (some 67) (.call 27 [(.t 65), (.t 66), (.c (.int .i64 5)), (.c (.int .i64 3)), (.c (.int .i64 2))]) (.op (some 64) (.mv (.t 67)) (.op (some 68) (.ext (.t 64) 0) (.op (some 69) (.ext (.t 64) 1) (.op (some 11) (.alloc [.int .i64 0, .lst true []]) (.op none (.store 2 (.t 11) (.t 68)) (.op (some 12) (.mv (.t 69)) (.nil)))))))))))
 (.seq (.ops (.op (some 71) (.load 4 true (.t 1)) (.op (some 72) (.mv (.t 2)) (.op (some 73) (.call 27 [(.t 71), (.t 72), (.c (.int .i64 5)), (.c (.int .i64 4)), (.c (.int .i64 200))]) (.op (some 70) (.mv (.t 73)) (.op (some 74) (.ext (.t 70) 0) (.op (some 75) (.ext (.t 70) 1) (.op (some 13) (.alloc [.int .i64 0, .lst true []]) (.op none (.store 2 (.t 13) (.t 74)) (.op (some 14) (.mv (.t 75)) (.nil)))))))))))
 (.seq (.ops (.op (some 77) (.bslh 1 (.int .i64 0) 1 [(0, (.c (.int .i64 9)))]) (.op (some 78) (.build [.int .i64 0, .int .i64 0, .lst true [], .lst true []] [(2, 1, (.t 77))]) (.op (some 79) (.call 27 [(.t 78), (.c (.lst true [])), (.c (.int .i64 0)), (.c (.int .i64 0)), (.c (.int .i64 9))]) (.op (some 76) (.mv (.t 79)) (.op (some 80) (.ext (.t 76) 0) (.op (some 81) (.ext (.t 76) 1) (.op (some 15) (.alloc [.int .i64 0, .lst true []]) (.op none (.store 2 (.t 15) (.t 80)) (.op (some 16) (.mv (.t 81)) (.nil)))))))))))
 (.seq (.ops (.op (some 83) (.load 4 true (.t 1)) (.op (some 84) (.mv (.t 2)) (.op (some 85) (.bslh 1 (.int .u8 0) 1 [(0, (.c (.int .u8 8)))]) (.op (some 86) (.call 14 [(.t 83), (.t 84), (.c (.int .i64 4)), (.t 85)]) (.op (some 82) (.mv (.t 86)) (.op (some 87) (.ext (.t 82) 0) (.op (some 88) (.ext (.t 82) 1) (.op (some 89) (.ext (.t 82) 2) (.op (some 17) (.alloc [.int .i64 0, .int .i64 0, .lst true [], .lst true []]) (.op none (.store 4 (.t 17) (.t 87)) (.op (some 18) (.mv (.t 88)) (.op (some 19) (.mv (.t 89)) (.nil))))))))))))))
 (.seq (.ops (.op (some 91) (.load 4 true (.t 1)) (.op (some 92) (.mv (.t 2)) (.op (some 93) (.call 14 [(.t 91), (.t 92), (.c (.int .i64 6)), (.c (.lst true []))]) (.op (some 90) (.mv (.t 93)) (.op (some 94) (.ext (.t 90) 0) (.op (some 95) (.ext (.t 90) 1) (.op (some 96) (.ext (.t 90) 2) (.op (some 20) (.alloc [.int .i64 0, .int .i64 0, .lst true [], .lst true []]) (.op none (.store 4 (.t 20) (.t 94)) (.op (some 21) (.mv (.t 95)) (.op (some 22) (.mv (.t 96)) (.nil)))))))))))))
 (.seq (.ops (.op (some 98) (.load 4 true (.t 17)) (.op (some 99) (.mv (.t 18)) (.op (some 100) (.build [.int .i64 0, .lst true []] [(0, 1, (.c (.int .i64 3)))]) (.op (some 101) (.build [.int .i64 0, .lst true []] [(0, 1, (.c (.int .i64 3)))]) (.op (some 102) (.build [.int .i64 0, .lst true []] [(0, 1, (.c (.int .i64 5)))]) (.op (some 103) (.bslh 2 (.agg [.int .i64 0, .lst true []]) 3 [(0, (.t 100)), (1, (.t 101)), (2, (.t 102))]) (.op (some 104) (.call 16 [(.t 98), (.t 99), (.c (.int .i64 2)), (.c (.int .i64 3)), (.t 103)]) (.op (some 97) (.mv (.t 104)) (.op (some 105) (.ext (.t 97) 0) (.op (some 106) (.ext (.t 97) 1) (.op (some 23) (.mv (.t 105)) (.op (some 24) (.mv (.t 106)) (.nil))))))))))))))
 (.seq (.ops (.op (some 108) (.load 4 true (.t 17)) (.op (some 109) (.mv (.t 18)) (.op (some 110) (.build [.int .i64 0, .lst true []] [(0, 1, (.c (.int .i64 3)))]) (.op (some 111) (.build [.int .i64 0, .lst true []] [(0, 1, (.c (.int .i64 2)))]) (.op (some 112) (.build [.int .i64 0, .lst true []] [(0, 1, (.c (.int .i64 5)))]) (.op (some 113) (.bslh 2 (.agg [.int .i64 0, .lst true []]) 3 [(0, (.t 110)), (1, (.t 111)), (2, (.t 112))]) (.op (some 114) (.call 16 [(.t 108), (.t 109), (.c (.int .i64 2)), (.c (.int .i64 3)), (.t 113)]) (.op (some 107) (.mv (.t 114)) (.op (some 115) (.ext (.t 107) 0) (.op (some 116) (.ext (.t 107) 1) (.op (some 25) (.mv (.t 115)) (.op (some 26) (.mv (.t 116)) (.nil))))))))))))))
 (.seq (.ops (.op (some 118) (.load 4 true (.t 1)) (.op (some 119) (.mv (.t 2)) (.op (some 120) (.sll 2 (.t 119) none (some (.c (.int .i64 2))) none) (.op (some 121) (.load 4 true (.t 17)) (.op (some 122) (.callp 18 [(.t 118), (.t 120), (.t 121)]) (.op (some 117) (.mv (.t 122)) (.op (some 123) (.ext (.t 117) 0) (.op (some 124) (.ext (.t 117) 1) (.op (some 27) (.alloc [.int .i64 0, .int .i64 0, .lst true [], .lst true []]) (.op none (.store 4 (.t 27) (.t 123)) (.op (some 28) (.mv (.t 124)) (.nil)))))))))))))
 (.seq (.ops (.op (some 125) (.mv (.t 3)) (.op (some 126) (.bslh 1 (.int .i64 0) 4 [(0, (.c (.int .i64 1))), (1, (.c (.int .i64 2))), (2, (.c (.int .i64 3))), (3, (.c (.int .i64 4)))]) (.op (some 127) (.call 20 [(.t 125), (.t 126)]) (.op (some 29) (.mv (.t 127)) (.nil))))))
 (.seq (.ops (.op (some 128) (.mv (.t 5)) (.op (some 129) (.bslh 1 (.int .i64 0) 3 [(0, (.c (.int .i64 1))), (1, (.c (.int .i64 2))), (2, (.c (.int .i64 3)))]) (.op (some 130) (.call 20 [(.t 128), (.t 129)]) (.op (some 30) (.mv (.t 130)) (.nil))))))
 (.seq (.ops (.op (some 131) (.load 2 true (.t 7)) (.op (some 132) (.bslh 2 (.agg [.int .i64 0, .lst true []]) 1 [(0, (.t 131))]) (.op (some 133) (.bslh 1 (.int .u8 0) 4 [(0, (.c (.int .u8 77))), (1, (.c (.int .u8 1))), (2, (.c (.int .u8 3))), (3, (.c (.int .u8 4)))]) (.op (some 134) (.build [.int .i64 0, .lst true []] [(0, 1, (.c (.int .i64 4))), (1, 1, (.t 133))]) (.op (some 135) (.bslh 2 (.agg [.int .i64 0, .lst true []]) 1 [(0, (.t 134))]) (.op (some 136) (.call 22 [(.t 132), (.t 135)]) (.op (some 31) (.mv (.t 136)) (.nil)))))))))
 (.seq (.ops (.op (some 137) (.load 4 true (.t 17)) (.op (some 138) (.bslh 1 (.int .i64 0) 4 [(0, (.c (.int .i64 1))), (1, (.c (.int .i64 2))), (2, (.c (.int .i64 3))), (3, (.c (.int .i64 4)))]) (.op (some 139) (.bslh 1 (.int .u8 0) 1 [(0, (.c (.int .u8 8)))]) (.op (some 140) (.build [.int .i64 0, .int .i64 0, .lst true [], .lst true []] [(0, 1, (.c (.int .i64 4))), (1, 1, (.c (.int .i64 3))), (2, 1, (.t 138)), (3, 1, (.t 139))]) (.op (some 141) (.call 21 [(.t 137), (.t 140)]) (.op (some 32) (.mv (.t 141)) (.nil))))))))
 (.seq (.ops (.op (some 142) (.mv (.t 23)) (.op (some 143) (.build [.int .i64 0, .lst true []] [(0, 1, (.c (.int .i64 5)))]) (.op (some 144) (.bslh 2 (.agg [.int .i64 0, .lst true []]) 1 [(0, (.t 143))]) (.op (some 145) (.call 22 [(.t 142), (.t 144)]) (.op (some 33) (.mv (.t 145)) (.nil)))))))
 (.seq (.ops (.op (some 146) (.load 4 true (.t 27)) (.op (some 147) (.load 4 true (.t 17)) (.op (some 148) (.call 21 [(.t 146), (.t 147)]) (.op (some 34) (.mv (.t 148)) (.nil))))))
 (.seq (.seq (.ops (.op (some 149) (.mv (.t 29)) (.op (some 150) (.un .not (.t 149)) (.op (some 151) (.mv (.t 150)) (.sc 154 false 151 152 153 (.op (some 152) (.mv (.t 30)) (.op (some 153) (.un .not (.t 152)) (.nil))) (.t 153) (.op (some 155) (.mv (.t 154)) (.sc 158 false 155 156 157 (.op (some 156) (.mv (.t 31)) (.op (some 157) (.un .not (.t 156)) (.nil))) (.t 157) (.op (some 159) (.mv (.t 158)) (.sc 162 false 159 160 161 (.op (some 160) (.mv (.t 32)) (.op (some 161) (.un .not (.t 160)) (.nil))) (.t 161) (.op (some 163) (.mv (.t 162)) (.sc 166 false 163 164 165 (.op (some 164) (.mv (.t 33)) (.op (some 165) (.un .not (.t 164)) (.nil))) (.t 165) (.op (some 167) (.mv (.t 166)) (.sc 170 false 167 168 169 (.op (some 168) (.mv (.t 34)) (.op (some 169) (.un .not (.t 168)) (.nil))) (.t 169) (.op (some 171) (.mv (.t 170)) (.sc 174 false 171 172 173 (.op (some 172) (.mv (.t 4)) (.op (some 173) (.bin .neq (.t 172) (.c (.int .i64 4))) (.nil))) (.t 173) (.op (some 175) (.mv (.t 174)) (.sc 178 false 175 176 177 (.op (some 176) (.mv (.t 6)) (.op (some 177) (.bin .neq (.t 176) (.c (.int .i64 0))) (.nil))) (.t 177) (.op (some 179) (.mv (.t 178)) (.sc 182 false 179 180 181 (.op (some 180) (.mv (.t 8)) (.op (some 181) (.bin .neq (.t 180) (.c (.int .i64 0))) (.nil))) (.t 181) (.op (some 183) (.mv (.t 182)) (.sc 186 false 183 184 185 (.op (some 184) (.mv (.t 10)) (.op (some 185) (.bin .neq (.t 184) (.c (.int .i64 121))) (.nil))) (.t 185) (.op (some 187) (.mv (.t 186)) (.sc 190 false 187 188 189 (.op (some 188) (.mv (.t 12)) (.op (some 189) (.bin .neq (.t 188) (.c (.int .i64 121))) (.nil))) (.t 189) (.op (some 191) (.mv (.t 190)) (.sc 194 false 191 192 193 (.op (some 192) (.mv (.t 14)) (.op (some 193) (.bin .neq (.t 192) (.c (.int .i64 1))) (.nil))) (.t 193) (.op (some 195) (.mv (.t 194)) (.sc 198 false 195 196 197 (.op (some 196) (.mv (.t 16)) (.op (some 197) (.bin .neq (.t 196) (.c (.int .i64 76))) (.nil))) (.t 197) (.nil))))))))))))))))))))))))))))
 (.cond (.t 198) (.seq (.ops (.op (some 0) (.mv (.c (.bool false))) (.nil)))
 (.ret)) (.skip)))
 (.seq (.ops (.op (some 199) (.mv (.t 19)) (.op (some 200) (.mv (.t 199)) (.sc 203 true 200 201 202 (.op (some 201) (.mv (.t 22)) (.op (some 202) (.un .not (.t 201)) (.nil))) (.t 202) (.op (some 204) (.mv (.t 203)) (.sc 208 true 204 205 207 (.op (some 205) (.mv (.t 18)) (.op (some 206) (.len false (.t 205)) (.op (some 207) (.bin .eql (.t 206) (.c (.int .i64 1))) (.nil)))) (.t 207) (.op (some 209) (.mv (.t 208)) (.sc 211 true 209 210 210 (.op (some 210) (.mv (.t 24)) (.nil)) (.t 210) (.op (some 212) (.mv (.t 211)) (.sc 215 true 212 213 214 (.op (some 213) (.mv (.t 26)) (.op (some 214) (.un .not (.t 213)) (.nil))) (.t 214) (.op (some 216) (.mv (.t 215)) (.sc 220 true 216 217 219 (.op (some 217) (.mv (.t 28)) (.op (some 218) (.len false (.t 217)) (.op (some 219) (.bin .eql (.t 218) (.c (.int .i64 0))) (.nil)))) (.t 219) (.op (some 221) (.mv (.t 220)) (.sc 225 true 221 222 224 (.op (some 222) (.load 4 true (.t 17)) (.op (some 223) (.mv (.t 18)) (.op (some 224) (.call 23 [(.t 222), (.t 223), (.c (.int .i64 4)), (.c (.int .i64 3))]) (.nil)))) (.t 224) (.op (some 226) (.mv (.t 225)) (.sc 231 true 226 227 230 (.op (some 227) (.load 4 true (.t 17)) (.op (some 228) (.mv (.t 18)) (.op (some 229) (.call 23 [(.t 227), (.t 228), (.c (.int .i64 3)), (.c (.int .i64 3))]) (.op (some 230) (.un .not (.t 229)) (.nil))))) (.t 230) (.op (some 232) (.mv (.t 231)) (.sc 236 true 232 233 235 (.op (some 233) (.load 4 true (.t 17)) (.op (some 234) (.mv (.t 18)) (.op (some 235) (.call 23 [(.t 233), (.t 234), (.c (.int .i64 5)), (.c (.int .i64 4))]) (.nil)))) (.t 235) (.op (some 237) (.mv (.t 236)) (.sc 241 true 237 238 240 (.op (some 238) (.bslh 1 (.int .i64 0) 3 [(0, (.c (.int .i64 1))), (1, (.c (.int .i64 2))), (2, (.c (.int .i64 3)))]) (.op (some 239) (.bslh 1 (.int .i64 0) 4 [(0, (.c (.int .i64 1))), (1, (.c (.int .i64 2))), (2, (.c (.int .i64 3))), (3, (.c (.int .i64 4)))]) (.op (some 240) (.call 31 [(.t 238), (.t 239)]) (.nil)))) (.t 240) (.op (some 242) (.mv (.t 241)) (.sc 247 true 242 243 246 (.op (some 243) (.bslh 1 (.int .i64 0) 2 [(0, (.c (.int .i64 1))), (1, (.c (.int .i64 2)))]) (.op (some 244) (.bslh 1 (.int .i64 0) 2 [(0, (.c (.int .i64 3))), (1, (.c (.int .i64 4)))]) (.op (some 245) (.call 31 [(.t 243), (.t 244)]) (.op (some 246) (.un .not (.t 245)) (.nil))))) (.t 246) (.op (some 248) (.mv (.t 247)) (.sc 253 true 248 249 252 (.op (some 249) (.bslh 1 (.int .i64 0) 1 [(0, (.c (.int .i64 5)))]) (.op (some 250) (.bslh 1 (.int .i64 0) 3 [(0, (.c (.int .i64 4))), (1, (.c (.int .i64 5))), (2, (.c (.int .i64 6)))]) (.op (some 251) (.call 31 [(.t 249), (.t 250)]) (.op (some 252) (.un .not (.t 251)) (.nil))))) (.t 252) (.op (some 0) (.mv (.t 253)) (.nil))))))))))))))))))))))))))
 (.ret)))))))))))))))))))))))

theorem ok9 : okF Try.prog 9 c9 = true := by kernel_rfl

/-- catacomb/catacomblaw16.Fits -/
def c10 : AF := AF.mk 49 [.t 4] (.seq (.ops (.op (some 2) (.rbox (.t 0)) (.op (some 4) (.mv (.c (.bool false))) (.nil))))
 (.seq (.ops (.op (some 6) (.fad 2 (.t 2)) (.op (some 7) (.loadr 1 false (.t 6)) (.op (some 8) (.call 39 [(.t 7)]) (.op (some 5) (.mv (.t 8)) (.nil))))))
 (.seq (.seq (.ops (.op (some 9) (.mv (.t 5)) (.op (some 10) (.un .not (.t 9)) (.op (some 11) (.mv (.t 10)) (.sc 15 false 11 12 14 (.op (some 12) (.fad 0 (.t 2)) (.op (some 13) (.loadr 1 false (.t 12)) (.op (some 14) (.bin .lss (.t 13) (.c (.int .i64 0))) (.nil)))) (.t 14) (.op (some 16) (.mv (.t 15)) (.sc 20 false 16 17 19 (.op (some 17) (.fad 0 (.t 2)) (.op (some 18) (.loadr 1 false (.t 17)) (.op (some 19) (.bin .gtr (.t 18) (.c (.int .i64 1000000))) (.nil)))) (.t 19) (.op (some 21) (.mv (.t 20)) (.sc 25 false 21 22 24 (.op (some 22) (.fad 1 (.t 2)) (.op (some 23) (.loadr 1 false (.t 22)) (.op (some 24) (.bin .lss (.t 23) (.c (.int .i64 0))) (.nil)))) (.t 24) (.op (some 26) (.mv (.t 25)) (.sc 30 false 26 27 29 (.op (some 27) (.fad 1 (.t 2)) (.op (some 28) (.loadr 1 false (.t 27)) (.op (some 29) (.bin .gtr (.t 28) (.c (.int .i64 1000000))) (.nil)))) (.t 29) (.op (some 31) (.mv (.t 30)) (.sc 40 false 31 32 39 (.op (some 32) (.fad 0 (.t 2)) (.op (some 33) (.loadr 1 false (.t 32)) (.op (some 34) (.bin .eql (.t 33) (.c (.int .i64 0))) (.op (some 35) (.mv (.t 34)) (.sc 39 true 35 36 38 (.op (some 36) (.fad 1 (.t 2)) (.op (some 37) (.loadr 1 false (.t 36)) (.op (some 38) (.bin .neq (.t 37) (.c (.int .i64 0))) (.nil)))) (.t 38) (.nil)))))) (.t 39) (.op (some 41) (.mv (.t 40)) (.sc 46 false 41 42 45 (.op (some 42) (.fad 3 (.t 2)) (.op (some 43) (.loadr 1 false (.t 42)) (.op (some 44) (.len false (.t 43)) (.op (some 45) (.bin .gtr (.t 44) (.c (.int .i64 40))) (.nil))))) (.t 45) (.nil))))))))))))))))
 (.cond (.t 46) (.seq (.ops (.op (some 4) (.mv (.c (.bool false))) (.nil)))
 (.ret)) (.skip)))
 (.seq (.ops (.op (some 47) (.mv (.t 1)) (.op (some 48) (.call 35 [(.t 47)]) (.op (some 4) (.mv (.t 48)) (.nil)))))
 (.ret)))))

theorem ok10 : okF Try.prog 10 c10 = true := by kernel_rfl

/-- catacomb/catacomblaw16.small -/
def c11 : AF := AF.mk 19 [.t 4] (.seq (.ops (.op (some 4) (.mv (.c (.bool false))) (.nil)))
 (.seq (.ops (.op (some 5) (.mv (.t 0)) (.op (some 6) (.bin .geq (.t 5) (.c (.int .i64 0))) (.op (some 7) (.mv (.t 6)) (.sc 10 true 7 8 9 (.op (some 8) (.mv (.t 0)) (.op (some 9) (.bin .leq (.t 8) (.c (.int .i64 1000000))) (.nil))) (.t 9) (.op (some 11) (.mv (.t 10)) (.sc 14 true 11 12 13 (.op (some 12) (.mv (.t 1)) (.op (some 13) (.bin .geq (.t 12) (.c (.int .i64 0))) (.nil))) (.t 13) (.op (some 15) (.mv (.t 14)) (.sc 18 true 15 16 17 (.op (some 16) (.mv (.t 1)) (.op (some 17) (.bin .leq (.t 16) (.c (.int .i64 1000000))) (.nil))) (.t 17) (.op (some 4) (.mv (.t 18)) (.nil)))))))))))
 (.ret)))

theorem ok11 : okF Try.prog 11 c11 = true := by kernel_rfl

/-- catacomb/catacombref16.Peers -/
def b13_1 : AC := .seq (.seq (.ops (.op (some 13) (.mv (.t 8)) (.op (some 14) (.mv (.t 1)) (.op (some 15) (.len false (.t 14)) (.op (some 16) (.bin .lss (.t 13) (.t 15)) (.nil))))))
 (.cond (.t 16) (.skip) (.exit 0)))
 (.seq (.block 1 (.seq (.ops (.op (some 20) (.mv (.t 1)) (.op (some 21) (.mv (.t 8)) (.op (some 22) (.iad 2 (.t 20) (.t 21)) (.op (some 23) (.load 2 true (.t 22)) (.op (some 24) (.call 26 [(.t 23)]) (.op (some 19) (.mv (.t 24)) (.op (some 25) (.ext (.t 19) 0) (.op (some 26) (.ext (.t 19) 1) (.op (some 9) (.mv (.t 25)) (.op (some 10) (.mv (.t 26)) (.nil))))))))))))
 (.seq (.ops (.op (some 27) (.mv (.t 10)) (.nil)))
 (.cond (.t 27) (.seq (.ops (.op (some 28) (.mv (.t 9)) (.op (some 6) (.mv (.t 28)) (.nil))))
 (.ops (.op (some 29) (.fad 0 (.t 2)) (.op (some 30) (.loadr 1 false (.t 29)) (.op (some 31) (.mv (.t 8)) (.op (some 32) (.bin .add (.t 30) (.t 31)) (.op (some 33) (.bin .add (.t 32) (.c (.int .i64 1))) (.op (some 7) (.mv (.t 33)) (.nil))))))))) (.skip)))))
 (.ops (.op (some 17) (.mv (.t 8)) (.op (some 18) (.bin .add (.t 17) (.c (.int .i64 1))) (.op (some 8) (.mv (.t 18)) (.nil))))))
def c13_1 : AC := b13_1
@[simp] theorem e13_1 {Γ : Tab} {V : Nat → Bool} {ρ : Type} (k : AX → St → Option ρ) (s : St) : eval Γ c13_1 V ρ k s = eval Γ b13_1 V ρ k s := rfl
def c13 : AF := AF.mk 36 [.t 4, .t 5] (.seq (.ops (.op (some 2) (.rbox (.t 0)) (.op (some 4) (.mv (.c (.lst true []))) (.op (some 5) (.mv (.c (.int .i64 0))) (.nil)))))
 (.seq (.ops (.op (some 11) (.fad 2 (.t 2)) (.op (some 12) (.loadr 1 false (.t 11)) (.op (some 6) (.mv (.t 12)) (.nil)))))
 (.seq (.ops (.op (some 7) (.mv (.c (.int .i64 0))) (.nil)))
 (.seq (.seq (.ops (.op (some 8) (.mv (.c (.int .i64 0))) (.nil)))
 (.block 0 (.loop [6, 7, 8] [(6, 10), (13, 33)] [] [(.exit 0, [6, 7])] c13_1)))
 (.seq (.ops (.op (some 34) (.mv (.t 6)) (.op (some 35) (.mv (.t 7)) (.op (some 4) (.mv (.t 34)) (.op (some 5) (.mv (.t 35)) (.nil))))))
 (.ret))))))

theorem ok13 : okF Try.prog 13 c13 = true := by kernel_rfl

/-- catacomb/member.Cut -/
def c14 : AF := AF.mk 50 [.cell 8 4 true, .t 9, .t 10] (.seq (.ops (.op (some 4) (.rbox (.t 0)) (.op (some 8) (.alloc [.int .i64 0, .int .i64 0, .lst true [], .lst true []]) (.op (some 9) (.mv (.c (.lst true []))) (.op (some 10) (.mv (.c (.bool false))) (.nil))))))
 (.seq (.ops (.op (some 16) (.loadr 4 true (.t 4)) (.op (some 17) (.mv (.t 1)) (.op (some 18) (.mv (.t 2)) (.op (some 19) (.call 41 [(.t 16), (.t 17), (.t 18)]) (.op (some 15) (.mv (.t 19)) (.op (some 20) (.ext (.t 15) 0) (.op (some 21) (.ext (.t 15) 1) (.op (some 11) (.mv (.t 20)) (.op (some 12) (.mv (.t 21)) (.nil)))))))))))
 (.seq (.seq (.ops (.op (some 22) (.mv (.t 12)) (.op (some 23) (.un .not (.t 22)) (.nil))))
 (.cond (.t 23) (.seq (.ops (.op (some 24) (.loadr 4 true (.t 4)) (.op (some 25) (.mv (.t 1)) (.op none (.store 4 (.t 8) (.t 24)) (.op (some 9) (.mv (.t 25)) (.op (some 10) (.mv (.c (.bool false))) (.nil)))))))
 (.ret)) (.skip)))
 (.seq (.ops (.op (some 27) (.loadr 4 true (.t 4)) (.op (some 28) (.mv (.t 1)) (.op (some 29) (.mv (.t 2)) (.op (some 30) (.fad 0 (.t 4)) (.op (some 31) (.loadr 1 false (.t 30)) (.op (some 32) (.bin .sub (.t 29) (.t 31)) (.op (some 33) (.sll 2 (.t 28) none (some (.t 32)) none) (.op (some 34) (.callp 12 [(.t 27), (.t 33)]) (.op (some 26) (.mv (.t 34)) (.op (some 35) (.ext (.t 26) 0) (.op (some 36) (.ext (.t 26) 1) (.op (some 13) (.mv (.t 35)) (.op (some 14) (.mv (.t 36)) (.nil)))))))))))))))
 (.seq (.ops (.op (some 37) (.mv (.t 2)) (.op (some 38) (.mv (.t 11)) (.op (some 39) (.mv (.t 13)) (.op (some 40) (.mv (.t 3)) (.op (some 41) (.callq 42 [(.t 40)]) (.op (some 42) (.build [.int .i64 0, .int .i64 0, .lst true [], .lst true []] [(0, 1, (.t 37)), (1, 1, (.t 38)), (2, 1, (.t 39)), (3, 1, (.t 41))]) (.op (some 43) (.mv (.t 1)) (.op (some 44) (.mv (.t 2)) (.op (some 45) (.fad 0 (.t 4)) (.op (some 46) (.loadr 1 false (.t 45)) (.op (some 47) (.bin .sub (.t 44) (.t 46)) (.op (some 48) (.sll 2 (.t 43) (some (.t 47)) none none) (.op (some 49) (.callq 43 [(.t 48)]) (.op none (.store 4 (.t 8) (.t 42)) (.op (some 9) (.mv (.t 49)) (.op (some 10) (.mv (.c (.bool true))) (.nil))))))))))))))))))
 (.ret))))))

theorem ok14 : okF Try.prog 14 c14 = true := by kernel_rfl

/-- catacomb/catacombref16.Cut -/
def c15 : AF := AF.mk 62 [.cell 8 4 true, .t 9, .t 10] (.seq (.ops (.op (some 4) (.rbox (.t 0)) (.op (some 8) (.alloc [.int .i64 0, .int .i64 0, .lst true [], .lst true []]) (.op (some 9) (.mv (.c (.lst true []))) (.op (some 10) (.mv (.c (.bool false))) (.nil))))))
 (.seq (.seq (.ops (.op (some 15) (.mv (.t 2)) (.op (some 16) (.fad 0 (.t 4)) (.op (some 17) (.loadr 1 false (.t 16)) (.op (some 18) (.bin .lss (.t 15) (.t 17)) (.op (some 19) (.mv (.t 18)) (.sc 27 false 19 20 26 (.op (some 20) (.mv (.t 2)) (.op (some 21) (.fad 0 (.t 4)) (.op (some 22) (.loadr 1 false (.t 21)) (.op (some 23) (.bin .sub (.t 20) (.t 22)) (.op (some 24) (.mv (.t 1)) (.op (some 25) (.len false (.t 24)) (.op (some 26) (.bin .gtr (.t 23) (.t 25)) (.nil)))))))) (.t 26) (.nil))))))))
 (.cond (.t 27) (.seq (.ops (.op (some 28) (.loadr 4 true (.t 4)) (.op (some 29) (.mv (.t 1)) (.op none (.store 4 (.t 8) (.t 28)) (.op (some 9) (.mv (.t 29)) (.op (some 10) (.mv (.c (.bool false))) (.nil)))))))
 (.ret)) (.skip)))
 (.seq (.ops (.op (some 30) (.mv (.t 2)) (.op (some 31) (.fad 0 (.t 4)) (.op (some 32) (.loadr 1 false (.t 31)) (.op (some 33) (.bin .sub (.t 30) (.t 32)) (.op (some 11) (.mv (.t 33)) (.nil)))))))
 (.seq (.ops (.op (some 34) (.mv (.t 2)) (.op (some 35) (.fad 1 (.t 4)) (.op (some 36) (.loadr 1 false (.t 35)) (.op (some 37) (.mv (.t 3)) (.op (some 38) (.build [.int .i64 0, .int .i64 0, .lst true [], .lst true []] [(0, 1, (.t 34)), (1, 1, (.t 36)), (3, 1, (.t 37))]) (.op (some 12) (.alloc [.int .i64 0, .int .i64 0, .lst true [], .lst true []]) (.op none (.store 4 (.t 12) (.t 38)) (.nil)))))))))
 (.seq (.seq (.ops (.op (some 39) (.mv (.t 11)) (.op (some 40) (.bin .gtr (.t 39) (.c (.int .i64 0))) (.nil))))
 (.cond (.t 40) (.ops (.op (some 41) (.mv (.t 1)) (.op (some 42) (.mv (.t 11)) (.op (some 43) (.bin .sub (.t 42) (.c (.int .i64 1))) (.op (some 44) (.iad 2 (.t 41) (.t 43)) (.op (some 45) (.fad 0 (.t 44)) (.op (some 46) (.load 1 false (.t 45)) (.op (some 47) (.fad 1 (.t 12)) (.op none (.store 1 (.t 47) (.t 46)) (.nil)))))))))) (.skip)))
 (.seq (.ops (.op (some 49) (.loadr 4 true (.t 4)) (.op (some 50) (.mv (.t 1)) (.op (some 51) (.mv (.t 11)) (.op (some 52) (.sll 2 (.t 50) none (some (.t 51)) none) (.op (some 53) (.callp 13 [(.t 49), (.t 52)]) (.op (some 48) (.mv (.t 53)) (.op (some 54) (.ext (.t 48) 0) (.op (some 55) (.ext (.t 48) 1) (.op (some 13) (.mv (.t 54)) (.op (some 14) (.mv (.t 55)) (.nil))))))))))))
 (.seq (.ops (.op (some 56) (.mv (.t 13)) (.op (some 57) (.fad 2 (.t 12)) (.op none (.store 1 (.t 57) (.t 56)) (.nil)))))
 (.seq (.ops (.op (some 58) (.load 4 true (.t 12)) (.op (some 59) (.mv (.t 1)) (.op (some 60) (.mv (.t 11)) (.op (some 61) (.sll 2 (.t 59) (some (.t 60)) none none) (.op none (.store 4 (.t 8) (.t 58)) (.op (some 9) (.mv (.t 61)) (.op (some 10) (.mv (.c (.bool true))) (.nil)))))))))
 (.ret)))))))))

theorem ok15 : okF Try.prog 15 c15 = true := by kernel_rfl

/-- catacomb/member.Put -/
def c16 : AF := AF.mk 64 [.t 10, .t 11] (.seq (.ops (.op (some 5) (.rbox (.t 0)) (.op (some 10) (.mv (.c (.lst true []))) (.op (some 11) (.mv (.c (.bool false))) (.nil)))))
 (.seq (.seq (.ops (.op (some 13) (.mv (.t 2)) (.op (some 14) (.fad 0 (.t 5)) (.op (some 15) (.loadr 1 false (.t 14)) (.op (some 16) (.bin .lss (.t 13) (.t 15)) (.nil))))))
 (.cond (.t 16) (.seq (.ops (.op (some 17) (.fad 0 (.t 5)) (.op (some 18) (.loadr 1 false (.t 17)) (.op (some 19) (.mv (.t 2)) (.op (some 20) (.bin .sub (.t 18) (.t 19)) (.op (some 12) (.mv (.t 20)) (.nil)))))))
 (.seq (.block 0 (.seq (.ops (.op (some 22) (.mv (.t 4)) (.op (some 23) (.len false (.t 22)) (.op (some 24) (.mv (.t 12)) (.op (some 25) (.bin .leq (.t 23) (.t 24)) (.op (some 21) (.mv (.t 25)) (.nil)))))))
 (.cond (.t 21) (.seq (.ops (.op (some 26) (.mv (.t 1)) (.op (some 10) (.mv (.t 26)) (.op (some 11) (.mv (.c (.bool true))) (.nil)))))
 (.ret)) (.seq (.ops (.op (some 28) (.mv (.t 4)) (.op (some 29) (.mv (.t 12)) (.op (some 30) (.bin .sub (.t 29) (.c (.int .i64 1))) (.op (some 31) (.iad 2 (.t 28) (.t 30)) (.op (some 32) (.fad 0 (.t 31)) (.op (some 33) (.load 1 false (.t 32)) (.op (some 34) (.fad 1 (.t 5)) (.op (some 35) (.loadr 1 false (.t 34)) (.op (some 36) (.bin .neq (.t 33) (.t 35)) (.op (some 27) (.mv (.t 36)) (.nil))))))))))))
 (.cond (.t 27) (.seq (.ops (.op (some 10) (.mv (.c (.lst true []))) (.op (some 11) (.mv (.c (.bool false))) (.nil))))
 (.ret)) (.skip))))))
 (.seq (.ops (.op (some 37) (.mv (.t 1)) (.op (some 38) (.mv (.t 4)) (.op (some 39) (.mv (.t 12)) (.op (some 40) (.sll 2 (.t 38) (some (.t 39)) none none) (.op (some 41) (.call 36 [(.t 37), (.c (.int .i64 0)), (.c (.int .i64 0)), (.t 40)]) (.op (some 42) (.ext (.t 41) 0) (.op (some 43) (.ext (.t 41) 1) (.op (some 10) (.mv (.t 42)) (.op (some 11) (.mv (.t 43)) (.nil)))))))))))
 (.ret)))) (.skip)))
 (.seq (.seq (.ops (.op (some 44) (.loadr 4 true (.t 5)) (.op (some 45) (.mv (.t 1)) (.op (some 46) (.mv (.t 2)) (.op (some 47) (.mv (.t 3)) (.op (some 48) (.call 23 [(.t 44), (.t 45), (.t 46), (.t 47)]) (.op (some 49) (.un .not (.t 48)) (.nil))))))))
 (.cond (.t 49) (.seq (.ops (.op (some 10) (.mv (.c (.lst true []))) (.op (some 11) (.mv (.c (.bool false))) (.nil))))
 (.ret)) (.skip)))
 (.seq (.seq (.ops (.op (some 50) (.mv (.t 2)) (.op (some 51) (.fad 0 (.t 5)) (.op (some 52) (.loadr 1 false (.t 51)) (.op (some 53) (.bin .eql (.t 50) (.t 52)) (.nil))))))
 (.cond (.t 53) (.ops (.op (some 3) (.mv (.c (.int .i64 0))) (.nil))) (.skip)))
 (.seq (.ops (.op (some 54) (.mv (.t 1)) (.op (some 55) (.mv (.t 2)) (.op (some 56) (.fad 0 (.t 5)) (.op (some 57) (.loadr 1 false (.t 56)) (.op (some 58) (.bin .sub (.t 55) (.t 57)) (.op (some 59) (.mv (.t 3)) (.op (some 60) (.mv (.t 4)) (.op (some 61) (.call 36 [(.t 54), (.t 58), (.t 59), (.t 60)]) (.op (some 62) (.ext (.t 61) 0) (.op (some 63) (.ext (.t 61) 1) (.op (some 10) (.mv (.t 62)) (.op (some 11) (.mv (.t 63)) (.nil))))))))))))))
 (.ret))))))

theorem ok16 : okF Try.prog 16 c16 = true := by kernel_rfl

/-- catacomb/catacombref16.Put -/
def c17 : AF := AF.mk 76 [.t 10, .t 11] (.seq (.ops (.op (some 5) (.rbox (.t 0)) (.op (some 10) (.mv (.c (.lst true []))) (.op (some 11) (.mv (.c (.bool false))) (.nil)))))
 (.seq (.seq (.ops (.op (some 19) (.mv (.t 2)) (.op (some 20) (.fad 0 (.t 5)) (.op (some 21) (.loadr 1 false (.t 20)) (.op (some 22) (.bin .geq (.t 19) (.t 21)) (.nil))))))
 (.cond (.t 22) (.seq (.ops (.op (some 23) (.loadr 4 true (.t 5)) (.op (some 24) (.mv (.t 1)) (.op (some 25) (.mv (.t 2)) (.op (some 26) (.mv (.t 3)) (.op (some 27) (.call 24 [(.t 23), (.t 24), (.t 25), (.t 26)]) (.op (some 12) (.mv (.t 27)) (.nil))))))))
 (.seq (.seq (.ops (.op (some 28) (.mv (.t 12)) (.op (some 29) (.un .not (.t 28)) (.nil))))
 (.cond (.t 29) (.seq (.ops (.op (some 10) (.mv (.c (.lst true []))) (.op (some 11) (.mv (.c (.bool false))) (.nil))))
 (.ret)) (.skip)))
 (.seq (.ops (.op (some 30) (.mv (.t 3)) (.op (some 13) (.mv (.t 30)) (.nil))))
 (.seq (.seq (.ops (.op (some 31) (.mv (.t 2)) (.op (some 32) (.fad 0 (.t 5)) (.op (some 33) (.loadr 1 false (.t 32)) (.op (some 34) (.bin .eql (.t 31) (.t 33)) (.nil))))))
 (.cond (.t 34) (.ops (.op (some 13) (.mv (.c (.int .i64 0))) (.nil))) (.skip)))
 (.seq (.ops (.op (some 36) (.mv (.t 1)) (.op (some 37) (.mv (.t 2)) (.op (some 38) (.fad 0 (.t 5)) (.op (some 39) (.loadr 1 false (.t 38)) (.op (some 40) (.bin .sub (.t 37) (.t 39)) (.op (some 41) (.mv (.t 13)) (.op (some 42) (.mv (.t 4)) (.op (some 43) (.call 44 [(.t 36), (.t 40), (.t 41), (.t 42)]) (.op (some 35) (.mv (.t 43)) (.op (some 44) (.ext (.t 35) 0) (.op (some 45) (.ext (.t 35) 1) (.op (some 14) (.mv (.t 44)) (.op (some 15) (.mv (.t 45)) (.nil)))))))))))))))
 (.seq (.ops (.op (some 46) (.mv (.t 14)) (.op (some 47) (.mv (.t 15)) (.op (some 10) (.mv (.t 46)) (.op (some 11) (.mv (.t 47)) (.nil))))))
 (.ret))))))) (.skip)))
 (.seq (.ops (.op (some 48) (.fad 0 (.t 5)) (.op (some 49) (.loadr 1 false (.t 48)) (.op (some 50) (.mv (.t 2)) (.op (some 51) (.bin .sub (.t 49) (.t 50)) (.op (some 16) (.mv (.t 51)) (.nil)))))))
 (.seq (.seq (.ops (.op (some 52) (.mv (.t 4)) (.op (some 53) (.len false (.t 52)) (.op (some 54) (.mv (.t 16)) (.op (some 55) (.bin .leq (.t 53) (.t 54)) (.nil))))))
 (.cond (.t 55) (.seq (.ops (.op (some 56) (.mv (.t 1)) (.op (some 10) (.mv (.t 56)) (.op (some 11) (.mv (.c (.bool true))) (.nil)))))
 (.ret)) (.skip)))
 (.seq (.seq (.ops (.op (some 57) (.mv (.t 4)) (.op (some 58) (.mv (.t 16)) (.op (some 59) (.bin .sub (.t 58) (.c (.int .i64 1))) (.op (some 60) (.iad 2 (.t 57) (.t 59)) (.op (some 61) (.fad 0 (.t 60)) (.op (some 62) (.load 1 false (.t 61)) (.op (some 63) (.fad 1 (.t 5)) (.op (some 64) (.loadr 1 false (.t 63)) (.op (some 65) (.bin .neq (.t 62) (.t 64)) (.nil)))))))))))
 (.cond (.t 65) (.seq (.ops (.op (some 10) (.mv (.c (.lst true []))) (.op (some 11) (.mv (.c (.bool false))) (.nil))))
 (.ret)) (.skip)))
 (.seq (.ops (.op (some 67) (.mv (.t 1)) (.op (some 68) (.mv (.t 4)) (.op (some 69) (.mv (.t 16)) (.op (some 70) (.sll 2 (.t 68) (some (.t 69)) none none) (.op (some 71) (.call 44 [(.t 67), (.c (.int .i64 0)), (.c (.int .i64 0)), (.t 70)]) (.op (some 66) (.mv (.t 71)) (.op (some 72) (.ext (.t 66) 0) (.op (some 73) (.ext (.t 66) 1) (.op (some 17) (.mv (.t 72)) (.op (some 18) (.mv (.t 73)) (.nil))))))))))))
 (.seq (.ops (.op (some 74) (.mv (.t 17)) (.op (some 75) (.mv (.t 18)) (.op (some 10) (.mv (.t 74)) (.op (some 11) (.mv (.t 75)) (.nil))))))
 (.ret))))))))

theorem ok17 : okF Try.prog 17 c17 = true := by kernel_rfl

/-- catacomb/member.Hand -/
def c18 : AF := AF.mk 32 [.cell 6 4 true, .t 7] (.seq (.ops (.op (some 3) (.rbox (.t 0)) (.op (some 5) (.rbox (.t 2)) (.op (some 6) (.alloc [.int .i64 0, .int .i64 0, .lst true [], .lst true []]) (.op (some 7) (.mv (.c (.lst true []))) (.nil))))))
 (.seq (.seq (.ops (.op (some 8) (.fad 0 (.t 5)) (.op (some 9) (.loadr 1 false (.t 8)) (.op (some 10) (.fad 0 (.t 3)) (.op (some 11) (.loadr 1 false (.t 10)) (.op (some 12) (.bin .leq (.t 9) (.t 11)) (.nil)))))))
 (.cond (.t 12) (.seq (.ops (.op (some 13) (.loadr 4 true (.t 3)) (.op (some 14) (.mv (.t 1)) (.op none (.store 4 (.t 6) (.t 13)) (.op (some 7) (.mv (.t 14)) (.nil))))))
 (.ret)) (.skip)))
 (.seq (.seq (.ops (.op (some 15) (.loadr 4 true (.t 3)) (.op (some 16) (.mv (.t 1)) (.op (some 17) (.fad 0 (.t 5)) (.op (some 18) (.loadr 1 false (.t 17)) (.op (some 19) (.fad 1 (.t 5)) (.op (some 20) (.loadr 1 false (.t 19)) (.op (some 21) (.call 23 [(.t 15), (.t 16), (.t 18), (.t 20)]) (.nil)))))))))
 (.cond (.t 21) (.seq (.ops (.op (some 22) (.loadr 4 true (.t 5)) (.op (some 23) (.mv (.t 1)) (.op (some 24) (.fad 0 (.t 5)) (.op (some 25) (.loadr 1 false (.t 24)) (.op (some 26) (.fad 0 (.t 3)) (.op (some 27) (.loadr 1 false (.t 26)) (.op (some 28) (.bin .sub (.t 25) (.t 27)) (.op (some 29) (.sll 2 (.t 23) (some (.t 28)) none none) (.op (some 30) (.callq 43 [(.t 29)]) (.op none (.store 4 (.t 6) (.t 22)) (.op (some 7) (.mv (.t 30)) (.nil)))))))))))))
 (.ret)) (.skip)))
 (.seq (.ops (.op (some 31) (.loadr 4 true (.t 5)) (.op none (.store 4 (.t 6) (.t 31)) (.op (some 7) (.mv (.c (.lst true []))) (.nil)))))
 (.ret)))))

theorem ok18 : okF Try.prog 18 c18 = true := by kernel_rfl

/-- catacomb/catacombref16.Hand -/
def c19 : AF := AF.mk 33 [.cell 6 4 true, .t 7] (.seq (.ops (.op (some 3) (.rbox (.t 0)) (.op (some 5) (.rbox (.t 2)) (.op (some 6) (.alloc [.int .i64 0, .int .i64 0, .lst true [], .lst true []]) (.op (some 7) (.mv (.c (.lst true []))) (.nil))))))
 (.seq (.seq (.ops (.op (some 9) (.fad 0 (.t 5)) (.op (some 10) (.loadr 1 false (.t 9)) (.op (some 11) (.fad 0 (.t 3)) (.op (some 12) (.loadr 1 false (.t 11)) (.op (some 13) (.bin .leq (.t 10) (.t 12)) (.nil)))))))
 (.cond (.t 13) (.seq (.ops (.op (some 14) (.loadr 4 true (.t 3)) (.op (some 15) (.mv (.t 1)) (.op none (.store 4 (.t 6) (.t 14)) (.op (some 7) (.mv (.t 15)) (.nil))))))
 (.ret)) (.skip)))
 (.seq (.ops (.op (some 16) (.loadr 4 true (.t 3)) (.op (some 17) (.mv (.t 1)) (.op (some 18) (.fad 0 (.t 5)) (.op (some 19) (.loadr 1 false (.t 18)) (.op (some 20) (.fad 1 (.t 5)) (.op (some 21) (.loadr 1 false (.t 20)) (.op (some 22) (.call 24 [(.t 16), (.t 17), (.t 19), (.t 21)]) (.op (some 8) (.mv (.t 22)) (.nil))))))))))
 (.seq (.seq (.ops (.op (some 23) (.mv (.t 8)) (.nil)))
 (.cond (.t 23) (.seq (.ops (.op (some 24) (.loadr 4 true (.t 5)) (.op (some 25) (.mv (.t 1)) (.op (some 26) (.fad 0 (.t 5)) (.op (some 27) (.loadr 1 false (.t 26)) (.op (some 28) (.fad 0 (.t 3)) (.op (some 29) (.loadr 1 false (.t 28)) (.op (some 30) (.bin .sub (.t 27) (.t 29)) (.op (some 31) (.sll 2 (.t 25) (some (.t 30)) none none) (.op none (.store 4 (.t 6) (.t 24)) (.op (some 7) (.mv (.t 31)) (.nil))))))))))))
 (.ret)) (.skip)))
 (.seq (.ops (.op (some 32) (.loadr 4 true (.t 5)) (.op none (.store 4 (.t 6) (.t 32)) (.op (some 7) (.mv (.c (.lst true []))) (.nil)))))
 (.ret))))))

theorem ok19 : okF Try.prog 19 c19 = true := by kernel_rfl

/-- catacomb/catacombref14.Ints -/
def b20_1 : AC := .seq (.seq (.ops (.op (some 11) (.mv (.t 5)) (.op (some 12) (.mv (.t 0)) (.op (some 13) (.len false (.t 12)) (.op (some 14) (.bin .lss (.t 11) (.t 13)) (.nil))))))
 (.cond (.t 14) (.skip) (.exit 0)))
 (.seq (.block 1 (.seq (.ops (.op (some 17) (.mv (.t 0)) (.op (some 18) (.mv (.t 5)) (.op (some 19) (.iad 1 (.t 17) (.t 18)) (.op (some 20) (.load 1 false (.t 19)) (.op (some 21) (.mv (.t 1)) (.op (some 22) (.mv (.t 5)) (.op (some 23) (.iad 1 (.t 21) (.t 22)) (.op (some 24) (.load 1 false (.t 23)) (.op (some 25) (.bin .neq (.t 20) (.t 24)) (.nil)))))))))))
 (.cond (.t 25) (.seq (.ops (.op (some 4) (.mv (.c (.bool false))) (.nil)))
 (.ret)) (.skip))))
 (.ops (.op (some 15) (.mv (.t 5)) (.op (some 16) (.bin .add (.t 15) (.c (.int .i64 1))) (.op (some 5) (.mv (.t 16)) (.nil))))))
def c20_1 : AC := b20_1
@[simp] theorem e20_1 {Γ : Tab} {V : Nat → Bool} {ρ : Type} (k : AX → St → Option ρ) (s : St) : eval Γ c20_1 V ρ k s = eval Γ b20_1 V ρ k s := rfl
def c20 : AF := AF.mk 26 [.t 4] (.seq (.ops (.op (some 4) (.mv (.c (.bool false))) (.nil)))
 (.seq (.seq (.ops (.op (some 6) (.mv (.t 0)) (.op (some 7) (.len false (.t 6)) (.op (some 8) (.mv (.t 1)) (.op (some 9) (.len false (.t 8)) (.op (some 10) (.bin .neq (.t 7) (.t 9)) (.nil)))))))
 (.cond (.t 10) (.seq (.ops (.op (some 4) (.mv (.c (.bool false))) (.nil)))
 (.ret)) (.skip)))
 (.seq (.seq (.ops (.op (some 5) (.mv (.c (.int .i64 0))) (.nil)))
 (.block 0 (.loop [5] [(4, 5), (11, 25)] [] [(.exit 0, []), (.ret, [4])] c20_1)))
 (.seq (.ops (.op (some 4) (.mv (.c (.bool true))) (.nil)))
 (.ret)))))

theorem ok20 : okF Try.prog 20 c20 = true := by kernel_rfl

/-- catacomb/catacomblaw16.Same -/
def c21 : AF := AF.mk 39 [.t 4] (.seq (.ops (.op (some 2) (.rbox (.t 0)) (.op (some 3) (.rbox (.t 1)) (.op (some 4) (.mv (.c (.bool false))) (.nil)))))
 (.seq (.ops (.op (some 7) (.fad 2 (.t 2)) (.op (some 8) (.loadr 1 false (.t 7)) (.op (some 9) (.fad 2 (.t 3)) (.op (some 10) (.loadr 1 false (.t 9)) (.op (some 11) (.call 20 [(.t 8), (.t 10)]) (.op (some 5) (.mv (.t 11)) (.nil))))))))
 (.seq (.ops (.op (some 12) (.fad 3 (.t 2)) (.op (some 13) (.loadr 1 false (.t 12)) (.op (some 14) (.build [.int .i64 0, .lst true []] [(1, 1, (.t 13))]) (.op (some 15) (.bslh 2 (.agg [.int .i64 0, .lst true []]) 1 [(0, (.t 14))]) (.op (some 16) (.fad 3 (.t 3)) (.op (some 17) (.loadr 1 false (.t 16)) (.op (some 18) (.build [.int .i64 0, .lst true []] [(1, 1, (.t 17))]) (.op (some 19) (.bslh 2 (.agg [.int .i64 0, .lst true []]) 1 [(0, (.t 18))]) (.op (some 20) (.call 22 [(.t 15), (.t 19)]) (.op (some 6) (.mv (.t 20)) (.nil))))))))))))
 (.seq (.ops (.op (some 21) (.mv (.t 5)) (.op (some 22) (.mv (.t 21)) (.sc 24 true 22 23 23 (.op (some 23) (.mv (.t 6)) (.nil)) (.t 23) (.op (some 25) (.mv (.t 24)) (.sc 31 true 25 26 30 (.op (some 26) (.fad 0 (.t 2)) (.op (some 27) (.loadr 1 false (.t 26)) (.op (some 28) (.fad 0 (.t 3)) (.op (some 29) (.loadr 1 false (.t 28)) (.op (some 30) (.bin .eql (.t 27) (.t 29)) (.nil)))))) (.t 30) (.op (some 32) (.mv (.t 31)) (.sc 38 true 32 33 37 (.op (some 33) (.fad 1 (.t 2)) (.op (some 34) (.loadr 1 false (.t 33)) (.op (some 35) (.fad 1 (.t 3)) (.op (some 36) (.loadr 1 false (.t 35)) (.op (some 37) (.bin .eql (.t 34) (.t 36)) (.nil)))))) (.t 37) (.op (some 4) (.mv (.t 38)) (.nil))))))))))
 (.ret)))))

theorem ok21 : okF Try.prog 21 c21 = true := by kernel_rfl

/-- catacomb/catacombref14.Log -/
def b22_1 : AC := .seq (.seq (.ops (.op (some 44) (.mv (.t 6)) (.op (some 45) (.mv (.t 0)) (.op (some 46) (.mv (.t 5)) (.op (some 47) (.iad 2 (.t 45) (.t 46)) (.op (some 48) (.fad 1 (.t 47)) (.op (some 49) (.load 1 false (.t 48)) (.op (some 50) (.len false (.t 49)) (.op (some 51) (.bin .lss (.t 44) (.t 50)) (.nil))))))))))
 (.cond (.t 51) (.skip) (.exit 2)))
 (.seq (.block 3 (.seq (.ops (.op (some 54) (.mv (.t 0)) (.op (some 55) (.mv (.t 5)) (.op (some 56) (.iad 2 (.t 54) (.t 55)) (.op (some 57) (.fad 1 (.t 56)) (.op (some 58) (.load 1 false (.t 57)) (.op (some 59) (.mv (.t 6)) (.op (some 60) (.iad 1 (.t 58) (.t 59)) (.op (some 61) (.load 1 false (.t 60)) (.op (some 62) (.mv (.t 1)) (.op (some 63) (.mv (.t 5)) (.op (some 64) (.iad 2 (.t 62) (.t 63)) (.op (some 65) (.fad 1 (.t 64)) (.op (some 66) (.load 1 false (.t 65)) (.op (some 67) (.mv (.t 6)) (.op (some 68) (.iad 1 (.t 66) (.t 67)) (.op (some 69) (.load 1 false (.t 68)) (.op (some 70) (.bin .neq (.t 61) (.t 69)) (.nil)))))))))))))))))))
 (.cond (.t 70) (.seq (.ops (.op (some 4) (.mv (.c (.bool false))) (.nil)))
 (.ret)) (.skip))))
 (.ops (.op (some 52) (.mv (.t 6)) (.op (some 53) (.bin .add (.t 52) (.c (.int .i64 1))) (.op (some 6) (.mv (.t 53)) (.nil))))))
def c22_1 : AC := b22_1
@[simp] theorem e22_1 {Γ : Tab} {V : Nat → Bool} {ρ : Type} (k : AX → St → Option ρ) (s : St) : eval Γ c22_1 V ρ k s = eval Γ b22_1 V ρ k s := rfl
def b22_2 : AC := .seq (.seq (.ops (.op (some 12) (.mv (.t 5)) (.op (some 13) (.mv (.t 0)) (.op (some 14) (.len false (.t 13)) (.op (some 15) (.bin .lss (.t 12) (.t 14)) (.nil))))))
 (.cond (.t 15) (.skip) (.exit 0)))
 (.seq (.block 1 (.seq (.seq (.ops (.op (some 18) (.mv (.t 0)) (.op (some 19) (.mv (.t 5)) (.op (some 20) (.iad 2 (.t 18) (.t 19)) (.op (some 21) (.fad 0 (.t 20)) (.op (some 22) (.load 1 false (.t 21)) (.op (some 23) (.mv (.t 1)) (.op (some 24) (.mv (.t 5)) (.op (some 25) (.iad 2 (.t 23) (.t 24)) (.op (some 26) (.fad 0 (.t 25)) (.op (some 27) (.load 1 false (.t 26)) (.op (some 28) (.bin .neq (.t 22) (.t 27)) (.op (some 29) (.mv (.t 28)) (.sc 43 false 29 30 42 (.op (some 30) (.mv (.t 0)) (.op (some 31) (.mv (.t 5)) (.op (some 32) (.iad 2 (.t 30) (.t 31)) (.op (some 33) (.fad 1 (.t 32)) (.op (some 34) (.load 1 false (.t 33)) (.op (some 35) (.len false (.t 34)) (.op (some 36) (.mv (.t 1)) (.op (some 37) (.mv (.t 5)) (.op (some 38) (.iad 2 (.t 36) (.t 37)) (.op (some 39) (.fad 1 (.t 38)) (.op (some 40) (.load 1 false (.t 39)) (.op (some 41) (.len false (.t 40)) (.op (some 42) (.bin .neq (.t 35) (.t 41)) (.nil)))))))))))))) (.t 42) (.nil)))))))))))))))
 (.cond (.t 43) (.seq (.ops (.op (some 4) (.mv (.c (.bool false))) (.nil)))
 (.ret)) (.skip)))
 (.seq (.ops (.op (some 6) (.mv (.c (.int .i64 0))) (.nil)))
 (.block 2 (.loop [6] [(4, 4), (6, 6), (44, 70)] [] [(.exit 2, []), (.ret, [4])] c22_1)))))
 (.ops (.op (some 16) (.mv (.t 5)) (.op (some 17) (.bin .add (.t 16) (.c (.int .i64 1))) (.op (some 5) (.mv (.t 17)) (.nil))))))
def c22_2 : AC := b22_2
@[simp] theorem e22_2 {Γ : Tab} {V : Nat → Bool} {ρ : Type} (k : AX → St → Option ρ) (s : St) : eval Γ c22_2 V ρ k s = eval Γ b22_2 V ρ k s := rfl
def c22 : AF := AF.mk 71 [.t 4] (.seq (.ops (.op (some 4) (.mv (.c (.bool false))) (.nil)))
 (.seq (.seq (.ops (.op (some 7) (.mv (.t 0)) (.op (some 8) (.len false (.t 7)) (.op (some 9) (.mv (.t 1)) (.op (some 10) (.len false (.t 9)) (.op (some 11) (.bin .neq (.t 8) (.t 10)) (.nil)))))))
 (.cond (.t 11) (.seq (.ops (.op (some 4) (.mv (.c (.bool false))) (.nil)))
 (.ret)) (.skip)))
 (.seq (.seq (.ops (.op (some 5) (.mv (.c (.int .i64 0))) (.nil)))
 (.block 0 (.loop [5] [(4, 6), (12, 70)] [] [(.exit 0, []), (.ret, [4])] c22_2)))
 (.seq (.ops (.op (some 4) (.mv (.c (.bool true))) (.nil)))
 (.ret)))))

theorem ok22 : okF Try.prog 22 c22 = true := by kernel_rfl

/-- catacomb/member.Fits -/
def c23 : AF := AF.mk 24 [.t 8] (.seq (.ops (.op (some 4) (.rbox (.t 0)) (.op (some 8) (.mv (.c (.bool false))) (.nil))))
 (.seq (.ops (.op (some 12) (.loadr 4 true (.t 4)) (.op (some 13) (.mv (.t 1)) (.op (some 14) (.mv (.t 2)) (.op (some 15) (.call 41 [(.t 12), (.t 13), (.t 14)]) (.op (some 11) (.mv (.t 15)) (.op (some 16) (.ext (.t 11) 0) (.op (some 17) (.ext (.t 11) 1) (.op (some 9) (.mv (.t 16)) (.op (some 10) (.mv (.t 17)) (.nil)))))))))))
 (.seq (.ops (.op (some 18) (.mv (.t 10)) (.op (some 19) (.mv (.t 18)) (.sc 23 true 19 20 22 (.op (some 20) (.mv (.t 9)) (.op (some 21) (.mv (.t 3)) (.op (some 22) (.bin .eql (.t 20) (.t 21)) (.nil)))) (.t 22) (.op (some 8) (.mv (.t 23)) (.nil))))))
 (.ret))))

theorem ok23 : okF Try.prog 23 c23 = true := by kernel_rfl

/-- catacomb/catacombref16.Fits -/
def c24 : AF := AF.mk 41 [.t 8] (.seq (.ops (.op (some 4) (.rbox (.t 0)) (.op (some 8) (.mv (.c (.bool false))) (.nil))))
 (.seq (.seq (.ops (.op (some 9) (.mv (.t 2)) (.op (some 10) (.fad 0 (.t 4)) (.op (some 11) (.loadr 1 false (.t 10)) (.op (some 12) (.bin .lss (.t 9) (.t 11)) (.op (some 13) (.mv (.t 12)) (.sc 21 false 13 14 20 (.op (some 14) (.mv (.t 2)) (.op (some 15) (.fad 0 (.t 4)) (.op (some 16) (.loadr 1 false (.t 15)) (.op (some 17) (.bin .sub (.t 14) (.t 16)) (.op (some 18) (.mv (.t 1)) (.op (some 19) (.len false (.t 18)) (.op (some 20) (.bin .gtr (.t 17) (.t 19)) (.nil)))))))) (.t 20) (.nil))))))))
 (.cond (.t 21) (.seq (.ops (.op (some 8) (.mv (.c (.bool false))) (.nil)))
 (.ret)) (.skip)))
 (.seq (.seq (.ops (.op (some 22) (.mv (.t 2)) (.op (some 23) (.fad 0 (.t 4)) (.op (some 24) (.loadr 1 false (.t 23)) (.op (some 25) (.bin .eql (.t 22) (.t 24)) (.nil))))))
 (.cond (.t 25) (.seq (.ops (.op (some 26) (.mv (.t 3)) (.op (some 27) (.fad 1 (.t 4)) (.op (some 28) (.loadr 1 false (.t 27)) (.op (some 29) (.bin .eql (.t 26) (.t 28)) (.op (some 8) (.mv (.t 29)) (.nil)))))))
 (.ret)) (.skip)))
 (.seq (.ops (.op (some 30) (.mv (.t 1)) (.op (some 31) (.mv (.t 2)) (.op (some 32) (.fad 0 (.t 4)) (.op (some 33) (.loadr 1 false (.t 32)) (.op (some 34) (.bin .sub (.t 31) (.t 33)) (.op (some 35) (.bin .sub (.t 34) (.c (.int .i64 1))) (.op (some 36) (.iad 2 (.t 30) (.t 35)) (.op (some 37) (.fad 0 (.t 36)) (.op (some 38) (.load 1 false (.t 37)) (.op (some 39) (.mv (.t 3)) (.op (some 40) (.bin .eql (.t 38) (.t 39)) (.op (some 8) (.mv (.t 40)) (.nil))))))))))))))
 (.ret)))))

theorem ok24 : okF Try.prog 24 c24 = true := by kernel_rfl

/-- catacomb/member.Of -/
def b25_1 : AC := .seq (.ops (.op (some 23) (.bin .lss (.t 22) (.t 21)) (.nil)))
 (.seq (.cond (.t 23) (.skip) (.exit 0))
 (.seq (.block 1 (.seq (.ops (.op (some 24) (.iad 1 (.t 20) (.t 22)) (.op (some 25) (.load 1 false (.t 24)) (.op (some 6) (.mv (.t 25)) (.nil)))))
 (.ops (.op (some 26) (.mv (.t 4)) (.op (some 27) (.mv (.t 6)) (.op (some 28) (.conv .i64 (.t 27)) (.op (some 29) (.bslh 1 (.int .i64 0) 1 [(0, (.t 28))]) (.op (some 30) (.app 1 8 (.t 26) (.t 29)) (.op (some 4) (.mv (.t 30)) (.nil))))))))))
 (.ops (.op (some 31) (.bin .add (.t 22) (.c (.int .i64 1))) (.op (some 22) (.mv (.t 31)) (.nil))))))
def c25_1 : AC := b25_1
@[simp] theorem e25_1 {Γ : Tab} {V : Nat → Bool} {ρ : Type} (k : AX → St → Option ρ) (s : St) : eval Γ c25_1 V ρ k s = eval Γ b25_1 V ρ k s := rfl
def c25 : AF := AF.mk 36 [.t 2, .t 3] (.seq (.ops (.op (some 1) (.rbox (.t 0)) (.op (some 2) (.mv (.c (.lst true []))) (.op (some 3) (.mv (.c (.bool false))) (.nil)))))
 (.seq (.seq (.ops (.op (some 7) (.fad 1 (.t 1)) (.op (some 8) (.loadr 1 false (.t 7)) (.op (some 9) (.len false (.t 8)) (.op (some 10) (.bin .eql (.t 9) (.c (.int .i64 0))) (.op (some 11) (.mv (.t 10)) (.sc 17 false 11 12 16 (.op (some 12) (.fad 1 (.t 1)) (.op (some 13) (.loadr 1 false (.t 12)) (.op (some 14) (.iad 1 (.t 13) (.c (.int .i64 0))) (.op (some 15) (.load 1 false (.t 14)) (.op (some 16) (.bin .neq (.t 15) (.c (.int .u8 77))) (.nil)))))) (.t 16) (.nil))))))))
 (.cond (.t 17) (.seq (.ops (.op (some 2) (.mv (.c (.lst true []))) (.op (some 3) (.mv (.c (.bool false))) (.nil))))
 (.ret)) (.skip)))
 (.seq (.ops (.op (some 4) (.mv (.c (.lst true []))) (.nil)))
 (.seq (.seq (.ops (.op (some 18) (.fad 1 (.t 1)) (.op (some 19) (.loadr 1 false (.t 18)) (.op (some 20) (.sll 1 (.t 19) (some (.c (.int .i64 1))) none none) (.op (some 21) (.len false (.t 20)) (.op (some 22) (.mv (.c (.int .i64 0))) (.nil)))))))
 (.block 0 (.loop [4, 22] [(4, 4), (6, 6), (22, 31)] [(4, 1)] [(.exit 0, [4])] c25_1)))
 (.seq (.seq (.ops (.op (some 32) (.mv (.t 4)) (.op (some 33) (.call 30 [(.t 32)]) (.op (some 34) (.un .not (.t 33)) (.nil)))))
 (.cond (.t 34) (.seq (.ops (.op (some 2) (.mv (.c (.lst true []))) (.op (some 3) (.mv (.c (.bool false))) (.nil))))
 (.ret)) (.skip)))
 (.seq (.ops (.op (some 35) (.mv (.t 4)) (.op (some 2) (.mv (.t 35)) (.op (some 3) (.mv (.c (.bool true))) (.nil)))))
 (.ret)))))))

theorem ok25 : okF Try.prog 25 c25 = true := by kernel_rfl

/-- catacomb/catacombref16.Of -/
def b26_1 : AC := .seq (.seq (.ops (.op (some 7) (.mv (.t 5)) (.op (some 8) (.fad 1 (.t 1)) (.op (some 9) (.loadr 1 false (.t 8)) (.op (some 10) (.len false (.t 9)) (.op (some 11) (.bin .lss (.t 7) (.t 10)) (.nil)))))))
 (.cond (.t 11) (.skip) (.exit 0)))
 (.seq (.block 1 (.ops (.op (some 14) (.mv (.t 4)) (.op (some 15) (.fad 1 (.t 1)) (.op (some 16) (.loadr 1 false (.t 15)) (.op (some 17) (.mv (.t 5)) (.op (some 18) (.iad 1 (.t 16) (.t 17)) (.op (some 19) (.load 1 false (.t 18)) (.op (some 20) (.conv .i64 (.t 19)) (.op (some 21) (.bslh 1 (.int .i64 0) 1 [(0, (.t 20))]) (.op (some 22) (.app 1 8 (.t 14) (.t 21)) (.op (some 4) (.mv (.t 22)) (.nil)))))))))))))
 (.ops (.op (some 12) (.mv (.t 5)) (.op (some 13) (.bin .add (.t 12) (.c (.int .i64 1))) (.op (some 5) (.mv (.t 13)) (.nil))))))
def c26_1 : AC := b26_1
@[simp] theorem e26_1 {Γ : Tab} {V : Nat → Bool} {ρ : Type} (k : AX → St → Option ρ) (s : St) : eval Γ c26_1 V ρ k s = eval Γ b26_1 V ρ k s := rfl
def c26 : AF := AF.mk 35 [.t 2, .t 3] (.seq (.ops (.op (some 1) (.rbox (.t 0)) (.op (some 2) (.mv (.c (.lst true []))) (.op (some 3) (.mv (.c (.bool false))) (.nil)))))
 (.seq (.ops (.op (some 4) (.mv (.c (.lst true []))) (.nil)))
 (.seq (.seq (.ops (.op (some 5) (.mv (.c (.int .i64 1))) (.nil)))
 (.block 0 (.loop [4, 5] [(4, 5), (7, 22)] [(4, 1)] [(.exit 0, [4])] c26_1)))
 (.seq (.ops (.op (some 23) (.mv (.t 4)) (.op (some 24) (.call 39 [(.t 23)]) (.op (some 6) (.mv (.t 24)) (.nil)))))
 (.seq (.seq (.ops (.op (some 25) (.mv (.t 6)) (.op (some 26) (.un .not (.t 25)) (.op (some 27) (.mv (.t 26)) (.sc 33 false 27 28 32 (.op (some 28) (.fad 1 (.t 1)) (.op (some 29) (.loadr 1 false (.t 28)) (.op (some 30) (.iad 1 (.t 29) (.c (.int .i64 0))) (.op (some 31) (.load 1 false (.t 30)) (.op (some 32) (.bin .neq (.t 31) (.c (.int .u8 77))) (.nil)))))) (.t 32) (.nil))))))
 (.cond (.t 33) (.seq (.ops (.op (some 2) (.mv (.c (.lst true []))) (.op (some 3) (.mv (.c (.bool false))) (.nil))))
 (.ret)) (.skip)))
 (.seq (.ops (.op (some 34) (.mv (.t 4)) (.op (some 2) (.mv (.t 34)) (.op (some 3) (.mv (.c (.bool true))) (.nil)))))
 (.ret)))))))

theorem ok26 : okF Try.prog 26 c26 = true := by kernel_rfl

/-- catacomb/member.Next -/
def c27 : AF := AF.mk 73 [.cell 10 2 true, .t 11] (.seq (.ops (.op (some 5) (.rbox (.t 0)) (.op (some 10) (.alloc [.int .i64 0, .lst true []]) (.op (some 11) (.mv (.c (.int .i64 0))) (.nil)))))
 (.seq (.seq (.ops (.op (some 18) (.mv (.t 4)) (.op (some 19) (.bin .lss (.t 18) (.c (.int .i64 0))) (.op (some 20) (.mv (.t 19)) (.sc 23 false 20 21 22 (.op (some 21) (.mv (.t 4)) (.op (some 22) (.bin .gtr (.t 21) (.c (.int .i64 199))) (.nil))) (.t 22) (.nil))))))
 (.cond (.t 23) (.seq (.ops (.op (some 24) (.build [.int .i64 0, .lst true []] []) (.op none (.store 2 (.t 10) (.t 24)) (.op (some 11) (.mv (.c (.int .i64 1))) (.nil)))))
 (.ret)) (.skip)))
 (.seq (.ops (.op (some 26) (.loadr 4 true (.t 5)) (.op (some 27) (.mv (.t 1)) (.op (some 28) (.call 12 [(.t 26), (.t 27)]) (.op (some 25) (.mv (.t 28)) (.op (some 29) (.ext (.t 25) 0) (.op (some 30) (.ext (.t 25) 1) (.op (some 12) (.mv (.t 29)) (.op (some 13) (.mv (.t 30)) (.nil))))))))))
 (.seq (.seq (.ops (.op (some 32) (.loadr 4 true (.t 5)) (.op (some 33) (.mv (.t 1)) (.op (some 34) (.mv (.t 2)) (.op (some 35) (.call 41 [(.t 32), (.t 33), (.t 34)]) (.op (some 31) (.mv (.t 35)) (.op (some 36) (.ext (.t 31) 0) (.op (some 37) (.ext (.t 31) 1) (.op (some 14) (.mv (.t 36)) (.op (some 15) (.mv (.t 37)) (.nil)))))))))))
 (.seq (.ops (.op (some 38) (.mv (.t 13)) (.op (some 39) (.mv (.t 2)) (.op (some 40) (.bin .gtr (.t 38) (.t 39)) (.op (some 41) (.mv (.t 40)) (.sc 45 false 41 42 44 (.op (some 42) (.mv (.t 14)) (.op (some 43) (.mv (.t 3)) (.op (some 44) (.bin .neq (.t 42) (.t 43)) (.nil)))) (.t 44) (.nil)))))))
 (.cond (.t 45) (.seq (.ops (.op (some 46) (.build [.int .i64 0, .lst true []] []) (.op none (.store 2 (.t 10) (.t 46)) (.op (some 11) (.mv (.c (.int .i64 121))) (.nil)))))
 (.ret)) (.skip))))
 (.seq (.ops (.op (some 47) (.mv (.t 12)) (.op (some 48) (.call 45 [(.t 47)]) (.op (some 12) (.mv (.t 48)) (.nil)))))
 (.seq (.seq (.ops (.op (some 50) (.mv (.t 12)) (.op (some 51) (.mv (.t 4)) (.op (some 52) (.call 46 [(.t 50), (.t 51)]) (.op (some 49) (.mv (.t 52)) (.op (some 53) (.ext (.t 49) 0) (.op (some 54) (.ext (.t 49) 1) (.op (some 16) (.mv (.t 53)) (.op (some 17) (.mv (.t 54)) (.nil))))))))))
 (.seq (.ops (.op (some 55) (.mv (.t 17)) (.nil)))
 (.cond (.t 55) (.ops (.op (some 56) (.mv (.t 12)) (.op (some 57) (.mv (.t 16)) (.op (some 58) (.mv (.t 16)) (.op (some 59) (.bin .add (.t 58) (.c (.int .i64 1))) (.op (some 60) (.call 47 [(.t 56), (.t 57), (.t 59)]) (.op (some 12) (.mv (.t 60)) (.nil)))))))) (.ops (.op (some 61) (.mv (.t 12)) (.op (some 62) (.mv (.t 16)) (.op (some 63) (.mv (.t 4)) (.op (some 64) (.bslh 1 (.int .i64 0) 1 [(0, (.t 63))]) (.op (some 65) (.call 48 [(.t 61), (.t 62), (.t 64)]) (.op (some 12) (.mv (.t 65)) (.nil)))))))))))
 (.seq (.seq (.ops (.op (some 66) (.mv (.t 12)) (.op (some 67) (.call 30 [(.t 66)]) (.op (some 68) (.un .not (.t 67)) (.nil)))))
 (.cond (.t 68) (.seq (.ops (.op (some 69) (.build [.int .i64 0, .lst true []] []) (.op none (.store 2 (.t 10) (.t 69)) (.op (some 11) (.mv (.c (.int .i64 76))) (.nil)))))
 (.ret)) (.skip)))
 (.seq (.ops (.op (some 70) (.mv (.t 3)) (.op (some 71) (.mv (.t 12)) (.op (some 72) (.call 29 [(.t 70), (.t 71)]) (.op none (.store 2 (.t 10) (.t 72)) (.op (some 11) (.mv (.c (.int .i64 0))) (.nil)))))))
 (.ret)))))))))

theorem ok27 : okF Try.prog 27 c27 = true := by kernel_rfl

/-- catacomb/catacombref16.Next -/
def b28_1 : AC := .seq (.seq (.ops (.op (some 45) (.mv (.t 18)) (.op (some 46) (.mv (.t 12)) (.op (some 47) (.len false (.t 46)) (.op (some 48) (.bin .lss (.t 45) (.t 47)) (.nil))))))
 (.cond (.t 48) (.skip) (.exit 0)))
 (.seq (.block 1 (.seq (.seq (.ops (.op (some 51) (.mv (.t 12)) (.op (some 52) (.mv (.t 18)) (.op (some 53) (.iad 1 (.t 51) (.t 52)) (.op (some 54) (.load 1 false (.t 53)) (.op (some 55) (.mv (.t 4)) (.op (some 56) (.bin .gtr (.t 54) (.t 55)) (.op (some 57) (.mv (.t 56)) (.sc 60 true 57 58 59 (.op (some 58) (.mv (.t 16)) (.op (some 59) (.un .not (.t 58)) (.nil))) (.t 59) (.op (some 61) (.mv (.t 60)) (.sc 64 true 61 62 63 (.op (some 62) (.mv (.t 17)) (.op (some 63) (.un .not (.t 62)) (.nil))) (.t 63) (.nil))))))))))))
 (.cond (.t 64) (.seq (.ops (.op (some 65) (.mv (.t 15)) (.op (some 66) (.mv (.t 4)) (.op (some 67) (.bslh 1 (.int .i64 0) 1 [(0, (.t 66))]) (.op (some 68) (.app 1 8 (.t 65) (.t 67)) (.op (some 15) (.mv (.t 68)) (.nil)))))))
 (.ops (.op (some 17) (.mv (.c (.bool true))) (.nil)))) (.skip)))
 (.seq (.ops (.op (some 69) (.mv (.t 12)) (.op (some 70) (.mv (.t 18)) (.op (some 71) (.iad 1 (.t 69) (.t 70)) (.op (some 72) (.load 1 false (.t 71)) (.op (some 73) (.mv (.t 4)) (.op (some 74) (.bin .eql (.t 72) (.t 73)) (.nil))))))))
 (.cond (.t 74) (.ops (.op (some 16) (.mv (.c (.bool true))) (.nil))) (.ops (.op (some 75) (.mv (.t 15)) (.op (some 76) (.mv (.t 12)) (.op (some 77) (.mv (.t 18)) (.op (some 78) (.iad 1 (.t 76) (.t 77)) (.op (some 79) (.load 1 false (.t 78)) (.op (some 80) (.bslh 1 (.int .i64 0) 1 [(0, (.t 79))]) (.op (some 81) (.app 1 8 (.t 75) (.t 80)) (.op (some 15) (.mv (.t 81)) (.nil))))))))))))))
 (.ops (.op (some 49) (.mv (.t 18)) (.op (some 50) (.bin .add (.t 49) (.c (.int .i64 1))) (.op (some 18) (.mv (.t 50)) (.nil))))))
def c28_1 : AC := b28_1
@[simp] theorem e28_1 {Γ : Tab} {V : Nat → Bool} {ρ : Type} (k : AX → St → Option ρ) (s : St) : eval Γ c28_1 V ρ k s = eval Γ b28_1 V ρ k s := rfl
def c28 : AF := AF.mk 104 [.cell 10 2 true, .t 11] (.seq (.ops (.op (some 5) (.rbox (.t 0)) (.op (some 10) (.alloc [.int .i64 0, .lst true []]) (.op (some 11) (.mv (.c (.int .i64 0))) (.nil)))))
 (.seq (.seq (.ops (.op (some 19) (.mv (.t 4)) (.op (some 20) (.bin .lss (.t 19) (.c (.int .i64 0))) (.op (some 21) (.mv (.t 20)) (.sc 24 false 21 22 23 (.op (some 22) (.mv (.t 4)) (.op (some 23) (.bin .gtr (.t 22) (.c (.int .i64 199))) (.nil))) (.t 23) (.nil))))))
 (.cond (.t 24) (.seq (.ops (.op (some 25) (.build [.int .i64 0, .lst true []] []) (.op none (.store 2 (.t 10) (.t 25)) (.op (some 11) (.mv (.c (.int .i64 1))) (.nil)))))
 (.ret)) (.skip)))
 (.seq (.ops (.op (some 27) (.loadr 4 true (.t 5)) (.op (some 28) (.mv (.t 1)) (.op (some 29) (.call 13 [(.t 27), (.t 28)]) (.op (some 26) (.mv (.t 29)) (.op (some 30) (.ext (.t 26) 0) (.op (some 31) (.ext (.t 26) 1) (.op (some 12) (.mv (.t 30)) (.op (some 13) (.mv (.t 31)) (.nil))))))))))
 (.seq (.ops (.op (some 32) (.loadr 4 true (.t 5)) (.op (some 33) (.mv (.t 1)) (.op (some 34) (.mv (.t 2)) (.op (some 35) (.mv (.t 3)) (.op (some 36) (.call 24 [(.t 32), (.t 33), (.t 34), (.t 35)]) (.op (some 14) (.mv (.t 36)) (.nil))))))))
 (.seq (.seq (.ops (.op (some 37) (.mv (.t 13)) (.op (some 38) (.mv (.t 2)) (.op (some 39) (.bin .gtr (.t 37) (.t 38)) (.op (some 40) (.mv (.t 39)) (.sc 43 false 40 41 42 (.op (some 41) (.mv (.t 14)) (.op (some 42) (.un .not (.t 41)) (.nil))) (.t 42) (.nil)))))))
 (.cond (.t 43) (.seq (.ops (.op (some 44) (.build [.int .i64 0, .lst true []] []) (.op none (.store 2 (.t 10) (.t 44)) (.op (some 11) (.mv (.c (.int .i64 121))) (.nil)))))
 (.ret)) (.skip)))
 (.seq (.ops (.op (some 15) (.mv (.c (.lst true []))) (.nil)))
 (.seq (.ops (.op (some 16) (.mv (.c (.bool false))) (.nil)))
 (.seq (.ops (.op (some 17) (.mv (.c (.bool false))) (.nil)))
 (.seq (.seq (.ops (.op (some 18) (.mv (.c (.int .i64 0))) (.nil)))
 (.block 0 (.loop [15, 16, 17, 18] [(15, 18), (45, 81)] [(15, 1)] [(.exit 0, [15, 16, 17])] c28_1)))
 (.seq (.seq (.ops (.op (some 82) (.mv (.t 16)) (.op (some 83) (.un .not (.t 82)) (.op (some 84) (.mv (.t 83)) (.sc 87 true 84 85 86 (.op (some 85) (.mv (.t 17)) (.op (some 86) (.un .not (.t 85)) (.nil))) (.t 86) (.nil))))))
 (.cond (.t 87) (.ops (.op (some 88) (.mv (.t 15)) (.op (some 89) (.mv (.t 4)) (.op (some 90) (.bslh 1 (.int .i64 0) 1 [(0, (.t 89))]) (.op (some 91) (.app 1 8 (.t 88) (.t 90)) (.op (some 15) (.mv (.t 91)) (.nil))))))) (.skip)))
 (.seq (.seq (.ops (.op (some 92) (.mv (.t 15)) (.op (some 93) (.len false (.t 92)) (.op (some 94) (.bin .eql (.t 93) (.c (.int .i64 0))) (.op (some 95) (.mv (.t 94)) (.sc 99 false 95 96 98 (.op (some 96) (.mv (.t 15)) (.op (some 97) (.len false (.t 96)) (.op (some 98) (.bin .gtr (.t 97) (.c (.int .i64 7))) (.nil)))) (.t 98) (.nil)))))))
 (.cond (.t 99) (.seq (.ops (.op (some 100) (.build [.int .i64 0, .lst true []] []) (.op none (.store 2 (.t 10) (.t 100)) (.op (some 11) (.mv (.c (.int .i64 76))) (.nil)))))
 (.ret)) (.skip)))
 (.seq (.ops (.op (some 101) (.mv (.t 3)) (.op (some 102) (.mv (.t 15)) (.op (some 103) (.call 49 [(.t 101), (.t 102)]) (.op none (.store 2 (.t 10) (.t 103)) (.op (some 11) (.mv (.c (.int .i64 0))) (.nil)))))))
 (.ret)))))))))))))

theorem ok28 : okF Try.prog 28 c28 = true := by kernel_rfl

/-- catacomb/member.Entry -/
def c29 : AF := AF.mk 9 [.cell 4 2 true] (.seq (.ops (.op (some 4) (.alloc [.int .i64 0, .lst true []]) (.nil)))
 (.seq (.ops (.op (some 5) (.mv (.t 0)) (.op (some 6) (.mv (.t 1)) (.op (some 7) (.call 50 [(.c (.int .u8 77)), (.t 6)]) (.op (some 8) (.build [.int .i64 0, .lst true []] [(0, 1, (.t 5)), (1, 1, (.t 7))]) (.op none (.store 2 (.t 4) (.t 8)) (.nil)))))))
 (.ret)))

theorem ok29 : okF Try.prog 29 c29 = true := by kernel_rfl

/-- catacomb/member.Right -/
def b30_1 : AC := .seq (.ops (.op (some 8) (.bin .lss (.t 7) (.t 6)) (.nil)))
 (.seq (.cond (.t 8) (.skip) (.exit 0))
 (.seq (.block 1 (.seq (.ops (.op (some 9) (.mv (.t 7)) (.op (some 10) (.iad 1 (.t 5) (.t 7)) (.op (some 11) (.load 1 false (.t 10)) (.op (some 3) (.mv (.t 9)) (.op (some 4) (.mv (.t 11)) (.nil)))))))
 (.seq (.ops (.op (some 12) (.mv (.t 4)) (.op (some 13) (.bin .lss (.t 12) (.c (.int .i64 0))) (.op (some 14) (.mv (.t 13)) (.sc 17 false 14 15 16 (.op (some 15) (.mv (.t 4)) (.op (some 16) (.bin .gtr (.t 15) (.c (.int .i64 199))) (.nil))) (.t 16) (.op (some 18) (.mv (.t 17)) (.sc 30 false 18 19 29 (.op (some 19) (.mv (.t 3)) (.op (some 20) (.bin .gtr (.t 19) (.c (.int .i64 0))) (.op (some 21) (.mv (.t 20)) (.sc 29 true 21 22 28 (.op (some 22) (.mv (.t 0)) (.op (some 23) (.mv (.t 3)) (.op (some 24) (.bin .sub (.t 23) (.c (.int .i64 1))) (.op (some 25) (.iad 1 (.t 22) (.t 24)) (.op (some 26) (.load 1 false (.t 25)) (.op (some 27) (.mv (.t 4)) (.op (some 28) (.bin .geq (.t 26) (.t 27)) (.nil)))))))) (.t 28) (.nil))))) (.t 29) (.nil))))))))
 (.cond (.t 30) (.seq (.ops (.op (some 2) (.mv (.c (.bool false))) (.nil)))
 (.ret)) (.skip)))))
 (.ops (.op (some 31) (.bin .add (.t 7) (.c (.int .i64 1))) (.op (some 7) (.mv (.t 31)) (.nil))))))
def c30_1 : AC := b30_1
@[simp] theorem e30_1 {Γ : Tab} {V : Nat → Bool} {ρ : Type} (k : AX → St → Option ρ) (s : St) : eval Γ c30_1 V ρ k s = eval Γ b30_1 V ρ k s := rfl
def c30 : AF := AF.mk 40 [.t 2] (.seq (.ops (.op (some 2) (.mv (.c (.bool false))) (.nil)))
 (.seq (.seq (.ops (.op (some 5) (.mv (.t 0)) (.op (some 6) (.len false (.t 5)) (.op (some 7) (.mv (.c (.int .i64 0))) (.nil)))))
 (.block 0 (.loop [7] [(2, 4), (7, 31)] [] [(.exit 0, []), (.ret, [2])] c30_1)))
 (.seq (.ops (.op (some 32) (.mv (.t 0)) (.op (some 33) (.len false (.t 32)) (.op (some 34) (.bin .geq (.t 33) (.c (.int .i64 1))) (.op (some 35) (.mv (.t 34)) (.sc 39 true 35 36 38 (.op (some 36) (.mv (.t 0)) (.op (some 37) (.len false (.t 36)) (.op (some 38) (.bin .leq (.t 37) (.c (.int .i64 7))) (.nil)))) (.t 38) (.op (some 2) (.mv (.t 39)) (.nil))))))))
 (.ret))))

theorem ok30 : okF Try.prog 30 c30 = true := by kernel_rfl

/-- catacomb/member.Meet -/
def b31_1 : AC := .seq (.ops (.op (some 12) (.bin .lss (.t 11) (.t 10)) (.nil)))
 (.seq (.cond (.t 12) (.skip) (.exit 0))
 (.seq (.block 1 (.seq (.ops (.op (some 13) (.iad 1 (.t 9) (.t 11)) (.op (some 14) (.load 1 false (.t 13)) (.op (some 7) (.mv (.t 14)) (.nil)))))
 (.seq (.ops (.op (some 15) (.mv (.t 1)) (.op (some 16) (.mv (.t 7)) (.op (some 17) (.call 51 [(.t 15), (.t 16)]) (.nil)))))
 (.cond (.t 17) (.ops (.op (some 18) (.load 1 false (.t 5)) (.op (some 19) (.bin .add (.t 18) (.c (.int .i64 1))) (.op none (.store 1 (.t 5) (.t 19)) (.nil))))) (.skip)))))
 (.ops (.op (some 20) (.bin .add (.t 11) (.c (.int .i64 1))) (.op (some 11) (.mv (.t 20)) (.nil))))))
def c31_1 : AC := b31_1
@[simp] theorem e31_1 {Γ : Tab} {V : Nat → Bool} {ρ : Type} (k : AX → St → Option ρ) (s : St) : eval Γ c31_1 V ρ k s = eval Γ b31_1 V ρ k s := rfl
def c31 : AF := AF.mk 33 [.t 4] (.seq (.ops (.op (some 4) (.mv (.c (.bool false))) (.nil)))
 (.seq (.ops (.op (some 5) (.alloc [.int .i64 0]) (.op none (.store 1 (.t 5) (.c (.int .i64 0))) (.nil))))
 (.seq (.seq (.ops (.op (some 9) (.mv (.t 0)) (.op (some 10) (.len false (.t 9)) (.op (some 11) (.mv (.c (.int .i64 0))) (.nil)))))
 (.block 0 (.loop [11] [(7, 7), (11, 20)] [] [(.exit 0, [])] c31_1)))
 (.seq (.ops (.op (some 21) (.mkf (.func 52) [] [(.t 5)]) (.op (some 8) (.mv (.t 21)) (.nil))))
 (.seq (.ops (.op (some 22) (.mv (.t 8)) (.op (some 23) (.mv (.t 0)) (.op (some 24) (.len false (.t 23)) (.op (some 25) (.callr (.t 22) [(.t 24)]) (.op (some 26) (.mv (.t 8)) (.op (some 27) (.mv (.t 1)) (.op (some 28) (.len false (.t 27)) (.op (some 29) (.callr (.t 26) [(.t 28)]) (.op (some 30) (.bin .add (.t 25) (.t 29)) (.op (some 31) (.load 1 false (.t 5)) (.op (some 32) (.bin .gtr (.t 30) (.t 31)) (.op (some 4) (.mv (.t 32)) (.nil))))))))))))))
 (.ret))))))

theorem ok31 : okF Try.prog 31 c31 = true := by kernel_rfl

/-- catacomb/catacombref14.Has -/
def b32_1 : AC := .seq (.seq (.ops (.op (some 6) (.mv (.t 5)) (.op (some 7) (.mv (.t 0)) (.op (some 8) (.len false (.t 7)) (.op (some 9) (.bin .lss (.t 6) (.t 8)) (.nil))))))
 (.cond (.t 9) (.skip) (.exit 0)))
 (.seq (.block 1 (.seq (.ops (.op (some 12) (.mv (.t 0)) (.op (some 13) (.mv (.t 5)) (.op (some 14) (.iad 1 (.t 12) (.t 13)) (.op (some 15) (.load 1 false (.t 14)) (.op (some 16) (.mv (.t 1)) (.op (some 17) (.bin .eql (.t 15) (.t 16)) (.nil))))))))
 (.cond (.t 17) (.seq (.ops (.op (some 4) (.mv (.c (.bool true))) (.nil)))
 (.ret)) (.skip))))
 (.ops (.op (some 10) (.mv (.t 5)) (.op (some 11) (.bin .add (.t 10) (.c (.int .i64 1))) (.op (some 5) (.mv (.t 11)) (.nil))))))
def c32_1 : AC := b32_1
@[simp] theorem e32_1 {Γ : Tab} {V : Nat → Bool} {ρ : Type} (k : AX → St → Option ρ) (s : St) : eval Γ c32_1 V ρ k s = eval Γ b32_1 V ρ k s := rfl
def c32 : AF := AF.mk 18 [.t 4] (.seq (.ops (.op (some 4) (.mv (.c (.bool false))) (.nil)))
 (.seq (.seq (.ops (.op (some 5) (.mv (.c (.int .i64 0))) (.nil)))
 (.block 0 (.loop [5] [(4, 17)] [] [(.exit 0, []), (.ret, [4])] c32_1)))
 (.seq (.ops (.op (some 4) (.mv (.c (.bool false))) (.nil)))
 (.ret))))

theorem ok32 : okF Try.prog 32 c32 = true := by kernel_rfl

/-- catacomb/catacomblaw16.seats -/
def b33_1 : AC := .seq (.seq (.ops (.op (some 16) (.mv (.t 5)) (.op (some 17) (.mv (.t 0)) (.op (some 18) (.len false (.t 17)) (.op (some 19) (.bin .lss (.t 16) (.t 18)) (.nil))))))
 (.cond (.t 19) (.skip) (.exit 2)))
 (.seq (.block 3 (.seq (.ops (.op (some 22) (.mv (.t 3)) (.op (some 23) (.mv (.t 4)) (.op (some 24) (.call 32 [(.t 22), (.t 23)]) (.op (some 6) (.mv (.t 24)) (.nil))))))
 (.seq (.ops (.op (some 25) (.mv (.t 0)) (.op (some 26) (.mv (.t 5)) (.op (some 27) (.iad 1 (.t 25) (.t 26)) (.op (some 28) (.load 1 false (.t 27)) (.op (some 29) (.conv .i64 (.t 28)) (.op (some 30) (.bin .rem (.t 29) (.c (.int .i64 12))) (.op (some 31) (.mv (.t 4)) (.op (some 32) (.bin .eql (.t 30) (.t 31)) (.op (some 33) (.mv (.t 32)) (.sc 36 true 33 34 35 (.op (some 34) (.mv (.t 6)) (.op (some 35) (.un .not (.t 34)) (.nil))) (.t 35) (.nil))))))))))))
 (.cond (.t 36) (.ops (.op (some 37) (.mv (.t 3)) (.op (some 38) (.mv (.t 4)) (.op (some 39) (.bslh 1 (.int .i64 0) 1 [(0, (.t 38))]) (.op (some 40) (.app 1 8 (.t 37) (.t 39)) (.op (some 3) (.mv (.t 40)) (.nil))))))) (.skip)))))
 (.ops (.op (some 20) (.mv (.t 5)) (.op (some 21) (.bin .add (.t 20) (.c (.int .i64 1))) (.op (some 5) (.mv (.t 21)) (.nil))))))
def c33_1 : AC := b33_1
@[simp] theorem e33_1 {Γ : Tab} {V : Nat → Bool} {ρ : Type} (k : AX → St → Option ρ) (s : St) : eval Γ c33_1 V ρ k s = eval Γ b33_1 V ρ k s := rfl
def b33_2 : AC := .seq (.seq (.ops (.op (some 7) (.mv (.t 4)) (.op (some 8) (.bin .lss (.t 7) (.c (.int .i64 12))) (.op (some 9) (.mv (.t 8)) (.sc 13 true 9 10 12 (.op (some 10) (.mv (.t 3)) (.op (some 11) (.len false (.t 10)) (.op (some 12) (.bin .lss (.t 11) (.c (.int .i64 7))) (.nil)))) (.t 12) (.nil))))))
 (.cond (.t 13) (.skip) (.exit 0)))
 (.seq (.block 1 (.seq (.ops (.op (some 5) (.mv (.c (.int .i64 0))) (.nil)))
 (.block 2 (.loop [3, 5] [(3, 3), (5, 6), (16, 40)] [(3, 1)] [(.exit 2, [3])] c33_1))))
 (.ops (.op (some 14) (.mv (.t 4)) (.op (some 15) (.bin .add (.t 14) (.c (.int .i64 1))) (.op (some 4) (.mv (.t 15)) (.nil))))))
def c33_2 : AC := b33_2
@[simp] theorem e33_2 {Γ : Tab} {V : Nat → Bool} {ρ : Type} (k : AX → St → Option ρ) (s : St) : eval Γ c33_2 V ρ k s = eval Γ b33_2 V ρ k s := rfl
def c33 : AF := AF.mk 42 [.t 2] (.seq (.ops (.op (some 2) (.mv (.c (.lst true []))) (.nil)))
 (.seq (.ops (.op (some 3) (.mv (.c (.lst true []))) (.nil)))
 (.seq (.seq (.ops (.op (some 4) (.mv (.c (.int .i64 0))) (.nil)))
 (.block 0 (.loop [3, 4] [(3, 40)] [(3, 1)] [(.exit 0, [3])] c33_2)))
 (.seq (.ops (.op (some 41) (.mv (.t 3)) (.op (some 2) (.mv (.t 41)) (.nil))))
 (.ret)))))

theorem ok33 : okF Try.prog 33 c33 = true := by kernel_rfl

/-- catacomb/catacombref16.Meet -/
def b34_1 : AC := .seq (.seq (.ops (.op (some 17) (.mv (.t 6)) (.op (some 18) (.len false (.t 17)) (.op (some 19) (.bin .mul (.c (.int .i64 2)) (.t 18)) (.op (some 20) (.mv (.t 0)) (.op (some 21) (.len false (.t 20)) (.op (some 22) (.bin .gtr (.t 19) (.t 21)) (.op (some 23) (.mv (.t 22)) (.sc 26 true 23 24 25 (.op (some 24) (.mv (.t 7)) (.op (some 25) (.bin .lss (.t 24) (.c (.int .i64 128))) (.nil))) (.t 25) (.nil))))))))))
 (.cond (.t 26) (.skip) (.exit 2)))
 (.seq (.block 3 (.seq (.ops (.op (some 29) (.mv (.t 1)) (.op (some 30) (.mv (.t 7)) (.op (some 31) (.call 53 [(.t 29), (.t 30)]) (.op (some 8) (.mv (.t 31)) (.nil))))))
 (.seq (.ops (.op (some 32) (.mv (.t 6)) (.op (some 33) (.mv (.t 8)) (.op (some 34) (.call 54 [(.t 32), (.t 33)]) (.op (some 9) (.mv (.t 34)) (.nil))))))
 (.seq (.ops (.op (some 35) (.mv (.t 8)) (.op (some 36) (.len false (.t 35)) (.op (some 37) (.bin .mul (.c (.int .i64 2)) (.t 36)) (.op (some 38) (.mv (.t 1)) (.op (some 39) (.len false (.t 38)) (.op (some 40) (.bin .gtr (.t 37) (.t 39)) (.op (some 41) (.mv (.t 40)) (.sc 43 true 41 42 42 (.op (some 42) (.mv (.t 9)) (.nil)) (.t 42) (.nil))))))))))
 (.cond (.t 43) (.seq (.ops (.op (some 4) (.mv (.c (.bool false))) (.nil)))
 (.ret)) (.skip))))))
 (.ops (.op (some 27) (.mv (.t 7)) (.op (some 28) (.bin .add (.t 27) (.c (.int .i64 1))) (.op (some 7) (.mv (.t 28)) (.nil))))))
def c34_1 : AC := b34_1
@[simp] theorem e34_1 {Γ : Tab} {V : Nat → Bool} {ρ : Type} (k : AX → St → Option ρ) (s : St) : eval Γ c34_1 V ρ k s = eval Γ b34_1 V ρ k s := rfl
def b34_2 : AC := .seq (.seq (.ops (.op (some 10) (.mv (.t 5)) (.op (some 11) (.bin .lss (.t 10) (.c (.int .i64 128))) (.nil))))
 (.cond (.t 11) (.skip) (.exit 0)))
 (.seq (.block 1 (.seq (.ops (.op (some 14) (.mv (.t 0)) (.op (some 15) (.mv (.t 5)) (.op (some 16) (.call 53 [(.t 14), (.t 15)]) (.op (some 6) (.mv (.t 16)) (.nil))))))
 (.seq (.ops (.op (some 7) (.mv (.c (.int .i64 0))) (.nil)))
 (.block 2 (.loop [7] [(4, 4), (7, 9), (17, 43)] [] [(.exit 2, []), (.ret, [4])] c34_1)))))
 (.ops (.op (some 12) (.mv (.t 5)) (.op (some 13) (.bin .add (.t 12) (.c (.int .i64 1))) (.op (some 5) (.mv (.t 13)) (.nil))))))
def c34_2 : AC := b34_2
@[simp] theorem e34_2 {Γ : Tab} {V : Nat → Bool} {ρ : Type} (k : AX → St → Option ρ) (s : St) : eval Γ c34_2 V ρ k s = eval Γ b34_2 V ρ k s := rfl
def c34 : AF := AF.mk 44 [.t 4] (.seq (.ops (.op (some 4) (.mv (.c (.bool false))) (.nil)))
 (.seq (.seq (.ops (.op (some 5) (.mv (.c (.int .i64 0))) (.nil)))
 (.block 0 (.loop [5] [(4, 43)] [] [(.exit 0, []), (.ret, [4])] c34_2)))
 (.seq (.ops (.op (some 4) (.mv (.c (.bool true))) (.nil)))
 (.ret))))

theorem ok34 : okF Try.prog 34 c34 = true := by kernel_rfl

/-- catacomb/catacomblaw16.entries -/
def b35_1 : AC := .seq (.seq (.ops (.op (some 7) (.mv (.t 3)) (.op (some 8) (.mv (.t 0)) (.op (some 9) (.len false (.t 8)) (.op (some 10) (.bin .lss (.t 7) (.t 9)) (.nil))))))
 (.cond (.t 10) (.skip) (.exit 0)))
 (.seq (.block 1 (.seq (.ops (.op (some 13) (.mv (.t 0)) (.op (some 14) (.mv (.t 3)) (.op (some 15) (.iad 2 (.t 13) (.t 14)) (.op (some 16) (.fad 1 (.t 15)) (.op (some 17) (.load 1 false (.t 16)) (.op (some 18) (.len false (.t 17)) (.op (some 19) (.bin .gtr (.t 18) (.c (.int .i64 40))) (.op (some 20) (.mv (.t 19)) (.sc 27 false 20 21 26 (.op (some 21) (.mv (.t 0)) (.op (some 22) (.mv (.t 3)) (.op (some 23) (.iad 2 (.t 21) (.t 22)) (.op (some 24) (.fad 0 (.t 23)) (.op (some 25) (.load 1 false (.t 24)) (.op (some 26) (.bin .lss (.t 25) (.c (.int .i64 0))) (.nil))))))) (.t 26) (.op (some 28) (.mv (.t 27)) (.sc 35 false 28 29 34 (.op (some 29) (.mv (.t 0)) (.op (some 30) (.mv (.t 3)) (.op (some 31) (.iad 2 (.t 29) (.t 30)) (.op (some 32) (.fad 0 (.t 31)) (.op (some 33) (.load 1 false (.t 32)) (.op (some 34) (.bin .gtr (.t 33) (.c (.int .i64 1000000))) (.nil))))))) (.t 34) (.nil)))))))))))))
 (.cond (.t 35) (.seq (.ops (.op (some 2) (.mv (.c (.bool false))) (.nil)))
 (.ret)) (.skip))))
 (.ops (.op (some 11) (.mv (.t 3)) (.op (some 12) (.bin .add (.t 11) (.c (.int .i64 1))) (.op (some 3) (.mv (.t 12)) (.nil))))))
def c35_1 : AC := b35_1
@[simp] theorem e35_1 {Γ : Tab} {V : Nat → Bool} {ρ : Type} (k : AX → St → Option ρ) (s : St) : eval Γ c35_1 V ρ k s = eval Γ b35_1 V ρ k s := rfl
def c35 : AF := AF.mk 36 [.t 2] (.seq (.ops (.op (some 2) (.mv (.c (.bool false))) (.nil)))
 (.seq (.seq (.ops (.op (some 4) (.mv (.t 0)) (.op (some 5) (.len false (.t 4)) (.op (some 6) (.bin .gtr (.t 5) (.c (.int .i64 40))) (.nil)))))
 (.cond (.t 6) (.seq (.ops (.op (some 2) (.mv (.c (.bool false))) (.nil)))
 (.ret)) (.skip)))
 (.seq (.seq (.ops (.op (some 3) (.mv (.c (.int .i64 0))) (.nil)))
 (.block 0 (.loop [3] [(2, 3), (7, 35)] [] [(.exit 0, []), (.ret, [2])] c35_1)))
 (.seq (.ops (.op (some 2) (.mv (.c (.bool true))) (.nil)))
 (.ret)))))

theorem ok35 : okF Try.prog 35 c35 = true := by kernel_rfl

/-- catacomb/log.Put -/
def b36_1 : AC := .seq (.ops (.op (some 24) (.bin .lss (.t 23) (.t 22)) (.nil)))
 (.seq (.cond (.t 24) (.skip) (.exit 0))
 (.seq (.block 1 (.seq (.ops (.op (some 25) (.mv (.t 23)) (.op (some 26) (.iad 2 (.t 21) (.t 23)) (.op (some 27) (.load 2 true (.t 26)) (.op (some 12) (.alloc [.int .i64 0, .lst true []]) (.op (some 11) (.mv (.t 25)) (.op none (.store 2 (.t 12) (.t 27)) (.nil))))))))
 (.seq (.ops (.op (some 28) (.mv (.t 1)) (.op (some 29) (.mv (.t 11)) (.op (some 30) (.bin .add (.t 28) (.t 29)) (.op (some 13) (.mv (.t 30)) (.nil))))))
 (.seq (.seq (.ops (.op (some 31) (.mv (.t 13)) (.op (some 32) (.mv (.t 10)) (.op (some 33) (.len false (.t 32)) (.op (some 34) (.bin .lss (.t 31) (.t 33)) (.op (some 35) (.mv (.t 34)) (.sc 42 true 35 36 41 (.op (some 36) (.mv (.t 10)) (.op (some 37) (.mv (.t 13)) (.op (some 38) (.iad 2 (.t 36) (.t 37)) (.op (some 39) (.load 2 true (.t 38)) (.op (some 40) (.load 2 true (.t 12)) (.op (some 41) (.callp 56 [(.t 39), (.t 40)]) (.nil))))))) (.t 41) (.nil))))))))
 (.cond (.t 42) (.exit 1) (.skip)))
 (.seq (.ops (.op (some 43) (.mv (.t 10)) (.op (some 44) (.mv (.t 13)) (.op (some 45) (.sll 2 (.t 43) none (some (.t 44)) none) (.op (some 46) (.mv (.t 3)) (.op (some 47) (.mv (.t 11)) (.op (some 48) (.sll 2 (.t 46) (some (.t 47)) none none) (.op (some 49) (.app 2 32 (.t 45) (.t 48)) (.op (some 10) (.mv (.t 49)) (.nil))))))))))
 (.exit 0))))))
 (.ops (.op (some 50) (.bin .add (.t 23) (.c (.int .i64 1))) (.op (some 23) (.mv (.t 50)) (.nil))))))
def c36_1 : AC := b36_1
@[simp] theorem e36_1 {Γ : Tab} {V : Nat → Bool} {ρ : Type} (k : AX → St → Option ρ) (s : St) : eval Γ c36_1 V ρ k s = eval Γ b36_1 V ρ k s := rfl
def c36 : AF := AF.mk 55 [.t 8, .t 9] (.seq (.ops (.op (some 8) (.mv (.c (.lst true []))) (.op (some 9) (.mv (.c (.bool false))) (.nil))))
 (.scope (.seq (.seq (.ops (.op (some 14) (.mv (.t 0)) (.op (some 15) (.mv (.t 1)) (.op (some 16) (.mv (.t 2)) (.op (some 17) (.call 55 [(.t 14), (.t 15), (.t 16)]) (.op (some 18) (.un .not (.t 17)) (.nil)))))))
 (.cond (.t 18) (.seq (.ops (.op (some 8) (.mv (.c (.lst true []))) (.op (some 9) (.mv (.c (.bool false))) (.nil))))
 (.ret)) (.skip)))
 (.seq (.ops (.op (some 19) (.mv (.t 0)) (.op (some 20) (.call 43 [(.t 19)]) (.op (some 10) (.mv (.t 20)) (.nil)))))
 (.seq (.skip)
 (.seq (.seq (.ops (.op (some 21) (.mv (.t 3)) (.op (some 22) (.len false (.t 21)) (.op (some 23) (.mv (.c (.int .i64 0))) (.nil)))))
 (.block 0 (.loop [10, 23] [(10, 13), (23, 50)] [(10, 2)] [(.exit 0, [10])] c36_1)))
 (.seq (.seq (.ops (.op (some 51) (.mv (.t 10)) (.op (some 52) (.len false (.t 51)) (.op (some 53) (.bin .gtr (.t 52) (.c (.int .i64 500))) (.nil)))))
 (.cond (.t 53) (.seq (.ops (.op (some 8) (.mv (.c (.lst true []))) (.op (some 9) (.mv (.c (.bool false))) (.nil))))
 (.ret)) (.skip)))
 (.seq (.ops (.op (some 54) (.mv (.t 10)) (.op (some 8) (.mv (.t 54)) (.op (some 9) (.mv (.c (.bool true))) (.nil)))))
 (.ret)))))))))

theorem ok36 : okF Try.prog 36 c36 = true := by kernel_rfl

/-- catacomb/catacombref13.Same -/
def b37_1 : AC := .seq (.seq (.ops (.op (some 11) (.mv (.t 5)) (.op (some 12) (.mv (.t 0)) (.op (some 13) (.len false (.t 12)) (.op (some 14) (.bin .lss (.t 11) (.t 13)) (.nil))))))
 (.cond (.t 14) (.skip) (.exit 0)))
 (.seq (.block 1 (.seq (.ops (.op (some 17) (.mv (.t 0)) (.op (some 18) (.mv (.t 5)) (.op (some 19) (.iad 2 (.t 17) (.t 18)) (.op (some 20) (.load 2 true (.t 19)) (.op (some 21) (.mv (.t 1)) (.op (some 22) (.mv (.t 5)) (.op (some 23) (.iad 2 (.t 21) (.t 22)) (.op (some 24) (.load 2 true (.t 23)) (.op (some 25) (.callp 57 [(.t 20), (.t 24)]) (.op (some 26) (.un .not (.t 25)) (.nil))))))))))))
 (.cond (.t 26) (.seq (.ops (.op (some 4) (.mv (.c (.bool false))) (.nil)))
 (.ret)) (.skip))))
 (.ops (.op (some 15) (.mv (.t 5)) (.op (some 16) (.bin .add (.t 15) (.c (.int .i64 1))) (.op (some 5) (.mv (.t 16)) (.nil))))))
def c37_1 : AC := b37_1
@[simp] theorem e37_1 {Γ : Tab} {V : Nat → Bool} {ρ : Type} (k : AX → St → Option ρ) (s : St) : eval Γ c37_1 V ρ k s = eval Γ b37_1 V ρ k s := rfl
def c37 : AF := AF.mk 27 [.t 4] (.seq (.ops (.op (some 4) (.mv (.c (.bool false))) (.nil)))
 (.seq (.seq (.ops (.op (some 6) (.mv (.t 0)) (.op (some 7) (.len false (.t 6)) (.op (some 8) (.mv (.t 1)) (.op (some 9) (.len false (.t 8)) (.op (some 10) (.bin .neq (.t 7) (.t 9)) (.nil)))))))
 (.cond (.t 10) (.seq (.ops (.op (some 4) (.mv (.c (.bool false))) (.nil)))
 (.ret)) (.skip)))
 (.seq (.seq (.ops (.op (some 5) (.mv (.c (.int .i64 0))) (.nil)))
 (.block 0 (.loop [5] [(4, 5), (11, 26)] [] [(.exit 0, []), (.ret, [4])] c37_1)))
 (.seq (.ops (.op (some 4) (.mv (.c (.bool true))) (.nil)))
 (.ret)))))

theorem ok37 : okF Try.prog 37 c37 = true := by kernel_rfl

/-- catacomb/catacomblaw16.some -/
def c38 : AF := AF.mk 10 [.cell 0 4 true, .t 1] (.seq (.ops (.op (some 0) (.alloc [.int .i64 0, .int .i64 0, .lst true [], .lst true []]) (.op (some 1) (.mv (.c (.lst true []))) (.nil))))
 (.seq (.ops (.op (some 2) (.bslh 1 (.int .i64 0) 3 [(0, (.c (.int .i64 1))), (1, (.c (.int .i64 2))), (2, (.c (.int .i64 3)))]) (.op (some 3) (.build [.int .i64 0, .int .i64 0, .lst true [], .lst true []] [(0, 1, (.c (.int .i64 2))), (1, 1, (.c (.int .i64 3))), (2, 1, (.t 2))]) (.op (some 4) (.bslh 1 (.int .u8 0) 1 [(0, (.c (.int .u8 5)))]) (.op (some 5) (.build [.int .i64 0, .lst true []] [(0, 1, (.c (.int .i64 3))), (1, 1, (.t 4))]) (.op (some 6) (.bslh 1 (.int .u8 0) 5 [(0, (.c (.int .u8 77))), (1, (.c (.int .u8 1))), (2, (.c (.int .u8 2))), (3, (.c (.int .u8 3))), (4, (.c (.int .u8 4)))]) (.op (some 7) (.build [.int .i64 0, .lst true []] [(0, 1, (.c (.int .i64 3))), (1, 1, (.t 6))]) (.op (some 8) (.build [.int .i64 0, .lst true []] [(0, 1, (.c (.int .i64 4)))]) (.op (some 9) (.bslh 2 (.agg [.int .i64 0, .lst true []]) 3 [(0, (.t 5)), (1, (.t 7)), (2, (.t 8))]) (.op none (.store 4 (.t 0) (.t 3)) (.op (some 1) (.mv (.t 9)) (.nil))))))))))))
 (.ret)))

theorem ok38 : okF Try.prog 38 c38 = true := by kernel_rfl

/-- catacomb/catacombref16.Right -/
def b39_1 : AC := .seq (.seq (.ops (.op (some 4) (.mv (.t 3)) (.op (some 5) (.mv (.t 0)) (.op (some 6) (.len false (.t 5)) (.op (some 7) (.bin .lss (.t 4) (.t 6)) (.nil))))))
 (.cond (.t 7) (.skip) (.exit 0)))
 (.seq (.block 1 (.seq (.ops (.op (some 10) (.mv (.t 0)) (.op (some 11) (.mv (.t 3)) (.op (some 12) (.iad 1 (.t 10) (.t 11)) (.op (some 13) (.load 1 false (.t 12)) (.op (some 14) (.bin .lss (.t 13) (.c (.int .i64 0))) (.op (some 15) (.mv (.t 14)) (.sc 21 false 15 16 20 (.op (some 16) (.mv (.t 0)) (.op (some 17) (.mv (.t 3)) (.op (some 18) (.iad 1 (.t 16) (.t 17)) (.op (some 19) (.load 1 false (.t 18)) (.op (some 20) (.bin .gtr (.t 19) (.c (.int .i64 199))) (.nil)))))) (.t 20) (.op (some 22) (.mv (.t 21)) (.sc 37 false 22 23 36 (.op (some 23) (.mv (.t 3)) (.op (some 24) (.bin .gtr (.t 23) (.c (.int .i64 0))) (.op (some 25) (.mv (.t 24)) (.sc 36 true 25 26 35 (.op (some 26) (.mv (.t 0)) (.op (some 27) (.mv (.t 3)) (.op (some 28) (.iad 1 (.t 26) (.t 27)) (.op (some 29) (.load 1 false (.t 28)) (.op (some 30) (.mv (.t 0)) (.op (some 31) (.mv (.t 3)) (.op (some 32) (.bin .sub (.t 31) (.c (.int .i64 1))) (.op (some 33) (.iad 1 (.t 30) (.t 32)) (.op (some 34) (.load 1 false (.t 33)) (.op (some 35) (.bin .leq (.t 29) (.t 34)) (.nil))))))))))) (.t 35) (.nil))))) (.t 36) (.nil)))))))))))
 (.cond (.t 37) (.seq (.ops (.op (some 2) (.mv (.c (.bool false))) (.nil)))
 (.ret)) (.skip))))
 (.ops (.op (some 8) (.mv (.t 3)) (.op (some 9) (.bin .add (.t 8) (.c (.int .i64 1))) (.op (some 3) (.mv (.t 9)) (.nil))))))
def c39_1 : AC := b39_1
@[simp] theorem e39_1 {Γ : Tab} {V : Nat → Bool} {ρ : Type} (k : AX → St → Option ρ) (s : St) : eval Γ c39_1 V ρ k s = eval Γ b39_1 V ρ k s := rfl
def c39 : AF := AF.mk 46 [.t 2] (.seq (.ops (.op (some 2) (.mv (.c (.bool false))) (.nil)))
 (.seq (.seq (.ops (.op (some 3) (.mv (.c (.int .i64 0))) (.nil)))
 (.block 0 (.loop [3] [(2, 37)] [] [(.exit 0, []), (.ret, [2])] c39_1)))
 (.seq (.ops (.op (some 38) (.mv (.t 0)) (.op (some 39) (.len false (.t 38)) (.op (some 40) (.bin .gtr (.t 39) (.c (.int .i64 0))) (.op (some 41) (.mv (.t 40)) (.sc 45 true 41 42 44 (.op (some 42) (.mv (.t 0)) (.op (some 43) (.len false (.t 42)) (.op (some 44) (.bin .leq (.t 43) (.c (.int .i64 7))) (.nil)))) (.t 44) (.op (some 2) (.mv (.t 45)) (.nil))))))))
 (.ret))))

theorem ok39 : okF Try.prog 39 c39 = true := by kernel_rfl

/-- slices.Backward[[]catacomb/api.Entry,catacomb/api.Entry] -/
def c40 : AF := AF.mk 4 [.t 2] (.seq (.ops (.op (some 1) (.box (.t 0)) (.op (some 2) (.mv (.c (.nilf))) (.nil))))
 (.seq (.ops (.op (some 3) (.mkf (.func 58) [] [(.t 1)]) (.op (some 2) (.mv (.t 3)) (.nil))))
 (.ret)))

theorem ok40 : okF Try.prog 40 c40 = true := by kernel_rfl

/-- catacomb/member.term -/
def c41 : AF := AF.mk 38 [.t 6, .t 7] (.seq (.ops (.op (some 3) (.rbox (.t 0)) (.op (some 6) (.mv (.c (.int .i64 0))) (.op (some 7) (.mv (.c (.bool false))) (.nil)))))
 (.seq (.block 0 (.seq (.ops (.op (some 9) (.mv (.t 2)) (.op (some 10) (.fad 0 (.t 3)) (.op (some 11) (.loadr 1 false (.t 10)) (.op (some 12) (.bin .lss (.t 9) (.t 11)) (.op (some 13) (.mv (.t 12)) (.sc 21 false 13 14 20 (.op (some 14) (.mv (.t 2)) (.op (some 15) (.fad 0 (.t 3)) (.op (some 16) (.loadr 1 false (.t 15)) (.op (some 17) (.mv (.t 1)) (.op (some 18) (.len false (.t 17)) (.op (some 19) (.bin .add (.t 16) (.t 18)) (.op (some 20) (.bin .gtr (.t 14) (.t 19)) (.nil)))))))) (.t 20) (.op (some 8) (.mv (.t 21)) (.nil)))))))))
 (.cond (.t 8) (.seq (.ops (.op (some 6) (.mv (.c (.int .i64 0))) (.op (some 7) (.mv (.c (.bool false))) (.nil))))
 (.ret)) (.seq (.ops (.op (some 23) (.mv (.t 2)) (.op (some 24) (.fad 0 (.t 3)) (.op (some 25) (.loadr 1 false (.t 24)) (.op (some 26) (.bin .eql (.t 23) (.t 25)) (.op (some 22) (.mv (.t 26)) (.nil)))))))
 (.cond (.t 22) (.seq (.ops (.op (some 27) (.fad 1 (.t 3)) (.op (some 28) (.loadr 1 false (.t 27)) (.op (some 6) (.mv (.t 28)) (.op (some 7) (.mv (.c (.bool true))) (.nil))))))
 (.ret)) (.skip))))))
 (.seq (.ops (.op (some 29) (.mv (.t 1)) (.op (some 30) (.mv (.t 2)) (.op (some 31) (.fad 0 (.t 3)) (.op (some 32) (.loadr 1 false (.t 31)) (.op (some 33) (.bin .sub (.t 30) (.t 32)) (.op (some 34) (.bin .sub (.t 33) (.c (.int .i64 1))) (.op (some 35) (.iad 2 (.t 29) (.t 34)) (.op (some 36) (.fad 0 (.t 35)) (.op (some 37) (.load 1 false (.t 36)) (.op (some 6) (.mv (.t 37)) (.op (some 7) (.mv (.c (.bool true))) (.nil)))))))))))))
 (.ret))))

theorem ok41 : okF Try.prog 41 c41 = true := by kernel_rfl

/-- catacomb/catacombref13.Put -/
def b44_1 : AC := .seq (.seq (.ops (.op (some 17) (.mv (.t 10)) (.op (some 18) (.mv (.t 3)) (.op (some 19) (.len false (.t 18)) (.op (some 20) (.bin .lss (.t 17) (.t 19)) (.op (some 21) (.mv (.t 20)) (.sc 28 true 21 22 27 (.op (some 22) (.mv (.t 1)) (.op (some 23) (.mv (.t 10)) (.op (some 24) (.bin .add (.t 22) (.t 23)) (.op (some 25) (.mv (.t 0)) (.op (some 26) (.len false (.t 25)) (.op (some 27) (.bin .lss (.t 24) (.t 26)) (.nil))))))) (.t 27) (.op (some 29) (.mv (.t 28)) (.sc 41 true 29 30 40 (.op (some 30) (.mv (.t 0)) (.op (some 31) (.mv (.t 1)) (.op (some 32) (.mv (.t 10)) (.op (some 33) (.bin .add (.t 31) (.t 32)) (.op (some 34) (.iad 2 (.t 30) (.t 33)) (.op (some 35) (.load 2 true (.t 34)) (.op (some 36) (.mv (.t 3)) (.op (some 37) (.mv (.t 10)) (.op (some 38) (.iad 2 (.t 36) (.t 37)) (.op (some 39) (.load 2 true (.t 38)) (.op (some 40) (.callp 57 [(.t 35), (.t 39)]) (.nil)))))))))))) (.t 40) (.nil))))))))))
 (.cond (.t 41) (.skip) (.exit 0)))
 (.block 1 (.ops (.op (some 42) (.mv (.t 10)) (.op (some 43) (.bin .add (.t 42) (.c (.int .i64 1))) (.op (some 10) (.mv (.t 43)) (.nil))))))
def c44_1 : AC := b44_1
@[simp] theorem e44_1 {Γ : Tab} {V : Nat → Bool} {ρ : Type} (k : AX → St → Option ρ) (s : St) : eval Γ c44_1 V ρ k s = eval Γ b44_1 V ρ k s := rfl
def c44 : AF := AF.mk 64 [.t 8, .t 9] (.seq (.ops (.op (some 8) (.mv (.c (.lst true []))) (.op (some 9) (.mv (.c (.bool false))) (.nil))))
 (.seq (.seq (.ops (.op (some 12) (.mv (.t 0)) (.op (some 13) (.mv (.t 1)) (.op (some 14) (.mv (.t 2)) (.op (some 15) (.call 59 [(.t 12), (.t 13), (.t 14)]) (.op (some 16) (.un .not (.t 15)) (.nil)))))))
 (.cond (.t 16) (.seq (.ops (.op (some 8) (.mv (.c (.lst true []))) (.op (some 9) (.mv (.c (.bool false))) (.nil))))
 (.ret)) (.skip)))
 (.seq (.ops (.op (some 10) (.mv (.c (.int .i64 0))) (.nil)))
 (.seq (.block 0 (.loop [10] [(10, 10), (17, 43)] [] [(.exit 0, [10])] c44_1))
 (.seq (.ops (.op (some 44) (.bslh 2 (.agg [.int .i64 0, .lst true []]) 0 []) (.op (some 45) (.mv (.t 0)) (.op (some 46) (.app 2 32 (.t 44) (.t 45)) (.op (some 11) (.mv (.t 46)) (.nil))))))
 (.seq (.seq (.ops (.op (some 47) (.mv (.t 10)) (.op (some 48) (.mv (.t 3)) (.op (some 49) (.len false (.t 48)) (.op (some 50) (.bin .lss (.t 47) (.t 49)) (.nil))))))
 (.cond (.t 50) (.ops (.op (some 51) (.mv (.t 11)) (.op (some 52) (.mv (.t 1)) (.op (some 53) (.mv (.t 10)) (.op (some 54) (.bin .add (.t 52) (.t 53)) (.op (some 55) (.sll 2 (.t 51) none (some (.t 54)) none) (.op (some 56) (.mv (.t 3)) (.op (some 57) (.mv (.t 10)) (.op (some 58) (.sll 2 (.t 56) (some (.t 57)) none none) (.op (some 59) (.app 2 32 (.t 55) (.t 58)) (.op (some 11) (.mv (.t 59)) (.nil)))))))))))) (.skip)))
 (.seq (.seq (.ops (.op (some 60) (.mv (.t 11)) (.op (some 61) (.len false (.t 60)) (.op (some 62) (.bin .gtr (.t 61) (.c (.int .i64 500))) (.nil)))))
 (.cond (.t 62) (.seq (.ops (.op (some 8) (.mv (.c (.lst true []))) (.op (some 9) (.mv (.c (.bool false))) (.nil))))
 (.ret)) (.skip)))
 (.seq (.ops (.op (some 63) (.mv (.t 11)) (.op (some 8) (.mv (.t 63)) (.op (some 9) (.mv (.c (.bool true))) (.nil)))))
 (.ret)))))))))

theorem ok44 : okF Try.prog 44 c44 = true := by kernel_rfl

/-- slices.BinarySearch[[]int,int] -/
def b46_1 : AC := .seq (.seq (.ops (.op (some 13) (.mv (.t 7)) (.op (some 14) (.mv (.t 8)) (.op (some 15) (.bin .lss (.t 13) (.t 14)) (.nil)))))
 (.cond (.t 15) (.skip) (.exit 0)))
 (.block 1 (.seq (.ops (.op (some 16) (.mv (.t 7)) (.op (some 17) (.mv (.t 8)) (.op (some 18) (.bin .add (.t 16) (.t 17)) (.op (some 19) (.conv .u64 (.t 18)) (.op (some 20) (.bin .shr (.t 19) (.c (.int .u64 1))) (.op (some 21) (.conv .i64 (.t 20)) (.op (some 9) (.mv (.t 21)) (.nil)))))))))
 (.seq (.ops (.op (some 22) (.mv (.t 0)) (.op (some 23) (.mv (.t 9)) (.op (some 24) (.iad 1 (.t 22) (.t 23)) (.op (some 25) (.load 1 false (.t 24)) (.op (some 26) (.mv (.t 1)) (.op (some 27) (.call 60 [(.t 25), (.t 26)]) (.nil))))))))
 (.cond (.t 27) (.ops (.op (some 28) (.mv (.t 9)) (.op (some 29) (.bin .add (.t 28) (.c (.int .i64 1))) (.op (some 7) (.mv (.t 29)) (.nil))))) (.ops (.op (some 30) (.mv (.t 9)) (.op (some 8) (.mv (.t 30)) (.nil))))))))
def c46_1 : AC := b46_1
@[simp] theorem e46_1 {Γ : Tab} {V : Nat → Bool} {ρ : Type} (k : AX → St → Option ρ) (s : St) : eval Γ c46_1 V ρ k s = eval Γ b46_1 V ρ k s := rfl
def c46 : AF := AF.mk 54 [.t 4, .t 5] (.seq (.ops (.op (some 4) (.mv (.c (.int .i64 0))) (.op (some 5) (.mv (.c (.bool false))) (.nil))))
 (.seq (.ops (.op (some 10) (.mv (.t 0)) (.op (some 11) (.len false (.t 10)) (.op (some 6) (.mv (.t 11)) (.nil)))))
 (.seq (.ops (.op (some 12) (.mv (.t 6)) (.op (some 7) (.mv (.c (.int .i64 0))) (.op (some 8) (.mv (.t 12)) (.nil)))))
 (.seq (.block 0 (.loop [7, 8] [(7, 9), (13, 30)] [] [(.exit 0, [7])] c46_1))
 (.seq (.ops (.op (some 31) (.mv (.t 7)) (.op (some 32) (.mv (.t 7)) (.op (some 33) (.mv (.t 6)) (.op (some 34) (.bin .lss (.t 32) (.t 33)) (.op (some 35) (.mv (.t 34)) (.sc 53 true 35 36 52 (.op (some 36) (.mv (.t 0)) (.op (some 37) (.mv (.t 7)) (.op (some 38) (.iad 1 (.t 36) (.t 37)) (.op (some 39) (.load 1 false (.t 38)) (.op (some 40) (.mv (.t 1)) (.op (some 41) (.bin .eql (.t 39) (.t 40)) (.op (some 42) (.mv (.t 41)) (.sc 52 false 42 43 51 (.op (some 43) (.mv (.t 0)) (.op (some 44) (.mv (.t 7)) (.op (some 45) (.iad 1 (.t 43) (.t 44)) (.op (some 46) (.load 1 false (.t 45)) (.op (some 47) (.call 61 [(.t 46)]) (.op (some 48) (.mv (.t 47)) (.sc 51 true 48 49 50 (.op (some 49) (.mv (.t 1)) (.op (some 50) (.call 61 [(.t 49)]) (.nil))) (.t 50) (.nil)))))))) (.t 51) (.nil))))))))) (.t 52) (.op (some 4) (.mv (.t 31)) (.op (some 5) (.mv (.t 53)) (.nil))))))))))
 (.ret))))))

theorem ok46 : okF Try.prog 46 c46 = true := by kernel_rfl

/-- catacomb/catacombref16.Entry -/
def b49_1 : AC := .seq (.seq (.ops (.op (some 8) (.mv (.t 6)) (.op (some 9) (.mv (.t 1)) (.op (some 10) (.len false (.t 9)) (.op (some 11) (.bin .lss (.t 8) (.t 10)) (.nil))))))
 (.cond (.t 11) (.skip) (.exit 0)))
 (.seq (.block 1 (.ops (.op (some 14) (.mv (.t 5)) (.op (some 15) (.mv (.t 1)) (.op (some 16) (.mv (.t 6)) (.op (some 17) (.iad 1 (.t 15) (.t 16)) (.op (some 18) (.load 1 false (.t 17)) (.op (some 19) (.conv .u8 (.t 18)) (.op (some 20) (.bslh 1 (.int .u8 0) 1 [(0, (.t 19))]) (.op (some 21) (.app 1 1 (.t 14) (.t 20)) (.op (some 5) (.mv (.t 21)) (.nil))))))))))))
 (.ops (.op (some 12) (.mv (.t 6)) (.op (some 13) (.bin .add (.t 12) (.c (.int .i64 1))) (.op (some 6) (.mv (.t 13)) (.nil))))))
def c49_1 : AC := b49_1
@[simp] theorem e49_1 {Γ : Tab} {V : Nat → Bool} {ρ : Type} (k : AX → St → Option ρ) (s : St) : eval Γ c49_1 V ρ k s = eval Γ b49_1 V ρ k s := rfl
def c49 : AF := AF.mk 25 [.cell 4 2 true] (.seq (.ops (.op (some 4) (.alloc [.int .i64 0, .lst true []]) (.nil)))
 (.seq (.ops (.op (some 7) (.bslo 1 (.int .u8 0) 1 [(0, (.c (.int .u8 77)))]) (.op (some 5) (.mv (.t 7)) (.nil))))
 (.seq (.seq (.ops (.op (some 6) (.mv (.c (.int .i64 0))) (.nil)))
 (.block 0 (.loop [5, 6] [(5, 6), (8, 21)] [(5, 1)] [(.exit 0, [5])] c49_1)))
 (.seq (.ops (.op (some 22) (.mv (.t 0)) (.op (some 23) (.mv (.t 5)) (.op (some 24) (.build [.int .i64 0, .lst true []] [(0, 1, (.t 22)), (1, 1, (.t 23))]) (.op none (.store 2 (.t 4) (.t 24)) (.nil))))))
 (.ret)))))

theorem ok49 : okF Try.prog 49 c49 = true := by kernel_rfl

/-- catacomb/member.bytes -/
def b50_1 : AC := .seq (.ops (.op (some 13) (.bin .lss (.t 12) (.t 11)) (.nil)))
 (.seq (.cond (.t 13) (.skip) (.exit 0))
 (.seq (.block 1 (.seq (.ops (.op (some 14) (.iad 1 (.t 10) (.t 12)) (.op (some 15) (.load 1 false (.t 14)) (.op (some 7) (.mv (.t 15)) (.nil)))))
 (.ops (.op (some 16) (.mv (.t 5)) (.op (some 17) (.mv (.t 7)) (.op (some 18) (.conv .u8 (.t 17)) (.op (some 19) (.bslh 1 (.int .u8 0) 1 [(0, (.t 18))]) (.op (some 20) (.app 1 1 (.t 16) (.t 19)) (.op (some 5) (.mv (.t 20)) (.nil))))))))))
 (.ops (.op (some 21) (.bin .add (.t 12) (.c (.int .i64 1))) (.op (some 12) (.mv (.t 21)) (.nil))))))
def c50_1 : AC := b50_1
@[simp] theorem e50_1 {Γ : Tab} {V : Nat → Bool} {ρ : Type} (k : AX → St → Option ρ) (s : St) : eval Γ c50_1 V ρ k s = eval Γ b50_1 V ρ k s := rfl
def c50 : AF := AF.mk 23 [.t 4] (.seq (.ops (.op (some 4) (.mv (.c (.lst true []))) (.nil)))
 (.seq (.ops (.op (some 8) (.mv (.t 0)) (.op (some 9) (.bslo 1 (.int .u8 0) 1 [(0, (.t 8))]) (.op (some 5) (.mv (.t 9)) (.nil)))))
 (.seq (.seq (.ops (.op (some 10) (.mv (.t 1)) (.op (some 11) (.len false (.t 10)) (.op (some 12) (.mv (.c (.int .i64 0))) (.nil)))))
 (.block 0 (.loop [5, 12] [(5, 5), (7, 7), (12, 21)] [(5, 1)] [(.exit 0, [5])] c50_1)))
 (.seq (.ops (.op (some 22) (.mv (.t 5)) (.op (some 4) (.mv (.t 22)) (.nil))))
 (.ret)))))

theorem ok50 : okF Try.prog 50 c50 = true := by kernel_rfl

/-- slices.Contains[[]int,int] -/
def c51 : AF := AF.mk 9 [.t 4] (.seq (.ops (.op (some 4) (.mv (.c (.bool false))) (.nil)))
 (.seq (.ops (.op (some 5) (.mv (.t 0)) (.op (some 6) (.mv (.t 1)) (.op (some 7) (.call 64 [(.t 5), (.t 6)]) (.op (some 8) (.bin .geq (.t 7) (.c (.int .i64 0))) (.op (some 4) (.mv (.t 8)) (.nil)))))))
 (.ret)))

theorem ok51 : okF Try.prog 51 c51 = true := by kernel_rfl

/-- catacomb/member.Meet$1 -/
def c52 : AF := AF.mk 12 [.t 3] (.seq (.ops (.op (some 3) (.mv (.c (.int .i64 0))) (.nil)))
 (.seq (.ops (.op (some 4) (.mv (.t 0)) (.op (some 5) (.bin .quo (.t 4) (.c (.int .i64 2))) (.op (some 6) (.bin .add (.t 5) (.c (.int .i64 1))) (.op (some 7) (.mv (.t 0)) (.op (some 8) (.load 1 false (.t 1)) (.op (some 9) (.bin .sub (.t 7) (.t 8)) (.op (some 10) (.bin .sub (.t 6) (.t 9)) (.op (some 11) (.mm true [(.c (.int .i64 0)), (.t 10)]) (.op (some 3) (.mv (.t 11)) (.nil)))))))))))
 (.ret)))

theorem ok52 : okF Try.prog 52 c52 = true := by kernel_rfl

/-- catacomb/catacombref16.picked -/
def b53_1 : AC := .seq (.seq (.ops (.op (some 9) (.mv (.t 7)) (.op (some 10) (.mv (.t 0)) (.op (some 11) (.len false (.t 10)) (.op (some 12) (.bin .lss (.t 9) (.t 11)) (.nil))))))
 (.cond (.t 12) (.skip) (.exit 0)))
 (.seq (.block 1 (.seq (.seq (.ops (.op (some 15) (.mv (.t 6)) (.op (some 16) (.bin .rem (.t 15) (.c (.int .i64 2))) (.op (some 17) (.bin .eql (.t 16) (.c (.int .i64 1))) (.nil)))))
 (.cond (.t 17) (.ops (.op (some 18) (.mv (.t 5)) (.op (some 19) (.mv (.t 0)) (.op (some 20) (.mv (.t 7)) (.op (some 21) (.iad 1 (.t 19) (.t 20)) (.op (some 22) (.load 1 false (.t 21)) (.op (some 23) (.bslh 1 (.int .i64 0) 1 [(0, (.t 22))]) (.op (some 24) (.app 1 8 (.t 18) (.t 23)) (.op (some 5) (.mv (.t 24)) (.nil)))))))))) (.skip)))
 (.ops (.op (some 25) (.mv (.t 6)) (.op (some 26) (.bin .quo (.t 25) (.c (.int .i64 2))) (.op (some 6) (.mv (.t 26)) (.nil)))))))
 (.ops (.op (some 13) (.mv (.t 7)) (.op (some 14) (.bin .add (.t 13) (.c (.int .i64 1))) (.op (some 7) (.mv (.t 14)) (.nil))))))
def c53_1 : AC := b53_1
@[simp] theorem e53_1 {Γ : Tab} {V : Nat → Bool} {ρ : Type} (k : AX → St → Option ρ) (s : St) : eval Γ c53_1 V ρ k s = eval Γ b53_1 V ρ k s := rfl
def c53 : AF := AF.mk 28 [.t 4] (.seq (.ops (.op (some 4) (.mv (.c (.lst true []))) (.nil)))
 (.seq (.ops (.op (some 5) (.mv (.c (.lst true []))) (.nil)))
 (.seq (.ops (.op (some 8) (.mv (.t 1)) (.op (some 6) (.mv (.t 8)) (.nil))))
 (.seq (.seq (.ops (.op (some 7) (.mv (.c (.int .i64 0))) (.nil)))
 (.block 0 (.loop [5, 6, 7] [(5, 7), (9, 26)] [(5, 1)] [(.exit 0, [5])] c53_1)))
 (.seq (.ops (.op (some 27) (.mv (.t 5)) (.op (some 4) (.mv (.t 27)) (.nil))))
 (.ret))))))

theorem ok53 : okF Try.prog 53 c53 = true := by kernel_rfl

/-- catacomb/catacombref16.apart -/
def b54_1 : AC := .seq (.seq (.ops (.op (some 13) (.mv (.t 6)) (.op (some 14) (.mv (.t 1)) (.op (some 15) (.len false (.t 14)) (.op (some 16) (.bin .lss (.t 13) (.t 15)) (.nil))))))
 (.cond (.t 16) (.skip) (.exit 2)))
 (.seq (.block 3 (.seq (.ops (.op (some 19) (.mv (.t 0)) (.op (some 20) (.mv (.t 5)) (.op (some 21) (.iad 1 (.t 19) (.t 20)) (.op (some 22) (.load 1 false (.t 21)) (.op (some 23) (.mv (.t 1)) (.op (some 24) (.mv (.t 6)) (.op (some 25) (.iad 1 (.t 23) (.t 24)) (.op (some 26) (.load 1 false (.t 25)) (.op (some 27) (.bin .eql (.t 22) (.t 26)) (.nil)))))))))))
 (.cond (.t 27) (.seq (.ops (.op (some 4) (.mv (.c (.bool false))) (.nil)))
 (.ret)) (.skip))))
 (.ops (.op (some 17) (.mv (.t 6)) (.op (some 18) (.bin .add (.t 17) (.c (.int .i64 1))) (.op (some 6) (.mv (.t 18)) (.nil))))))
def c54_1 : AC := b54_1
@[simp] theorem e54_1 {Γ : Tab} {V : Nat → Bool} {ρ : Type} (k : AX → St → Option ρ) (s : St) : eval Γ c54_1 V ρ k s = eval Γ b54_1 V ρ k s := rfl
def b54_2 : AC := .seq (.seq (.ops (.op (some 7) (.mv (.t 5)) (.op (some 8) (.mv (.t 0)) (.op (some 9) (.len false (.t 8)) (.op (some 10) (.bin .lss (.t 7) (.t 9)) (.nil))))))
 (.cond (.t 10) (.skip) (.exit 0)))
 (.seq (.block 1 (.seq (.ops (.op (some 6) (.mv (.c (.int .i64 0))) (.nil)))
 (.block 2 (.loop [6] [(4, 4), (6, 6), (13, 27)] [] [(.exit 2, []), (.ret, [4])] c54_1))))
 (.ops (.op (some 11) (.mv (.t 5)) (.op (some 12) (.bin .add (.t 11) (.c (.int .i64 1))) (.op (some 5) (.mv (.t 12)) (.nil))))))
def c54_2 : AC := b54_2
@[simp] theorem e54_2 {Γ : Tab} {V : Nat → Bool} {ρ : Type} (k : AX → St → Option ρ) (s : St) : eval Γ c54_2 V ρ k s = eval Γ b54_2 V ρ k s := rfl
def c54 : AF := AF.mk 28 [.t 4] (.seq (.ops (.op (some 4) (.mv (.c (.bool false))) (.nil)))
 (.seq (.seq (.ops (.op (some 5) (.mv (.c (.int .i64 0))) (.nil)))
 (.block 0 (.loop [5] [(4, 27)] [] [(.exit 0, []), (.ret, [4])] c54_2)))
 (.seq (.ops (.op (some 4) (.mv (.c (.bool true))) (.nil)))
 (.ret))))

theorem ok54 : okF Try.prog 54 c54 = true := by kernel_rfl

/-- catacomb/log.Fits -/
def c55 : AF := AF.mk 29 [.t 6] (.seq (.ops (.op (some 6) (.mv (.c (.bool false))) (.nil)))
 (.seq (.block 0 (.seq (.ops (.op (some 8) (.mv (.t 1)) (.op (some 9) (.bin .lss (.t 8) (.c (.int .i64 0))) (.op (some 10) (.mv (.t 9)) (.sc 15 false 10 11 14 (.op (some 11) (.mv (.t 1)) (.op (some 12) (.mv (.t 0)) (.op (some 13) (.len false (.t 12)) (.op (some 14) (.bin .gtr (.t 11) (.t 13)) (.nil))))) (.t 14) (.op (some 7) (.mv (.t 15)) (.nil)))))))
 (.cond (.t 7) (.seq (.ops (.op (some 6) (.mv (.c (.bool false))) (.nil)))
 (.ret)) (.seq (.ops (.op (some 17) (.mv (.t 1)) (.op (some 18) (.bin .eql (.t 17) (.c (.int .i64 0))) (.op (some 16) (.mv (.t 18)) (.nil)))))
 (.cond (.t 16) (.seq (.ops (.op (some 19) (.mv (.t 2)) (.op (some 20) (.bin .eql (.t 19) (.c (.int .i64 0))) (.op (some 6) (.mv (.t 20)) (.nil)))))
 (.ret)) (.skip))))))
 (.seq (.ops (.op (some 21) (.mv (.t 0)) (.op (some 22) (.mv (.t 1)) (.op (some 23) (.bin .sub (.t 22) (.c (.int .i64 1))) (.op (some 24) (.iad 2 (.t 21) (.t 23)) (.op (some 25) (.fad 0 (.t 24)) (.op (some 26) (.load 1 false (.t 25)) (.op (some 27) (.mv (.t 2)) (.op (some 28) (.bin .eql (.t 26) (.t 27)) (.op (some 6) (.mv (.t 28)) (.nil)))))))))))
 (.ret))))

theorem ok55 : okF Try.prog 55 c55 = true := by kernel_rfl

/-- catacomb/log.alike -/
def c56 : AF := AF.mk 17 [.t 4] (.seq (.ops (.op (some 2) (.rbox (.t 0)) (.op (some 3) (.rbox (.t 1)) (.op (some 4) (.mv (.c (.bool false))) (.nil)))))
 (.seq (.ops (.op (some 5) (.fad 0 (.t 2)) (.op (some 6) (.loadr 1 false (.t 5)) (.op (some 7) (.fad 0 (.t 3)) (.op (some 8) (.loadr 1 false (.t 7)) (.op (some 9) (.bin .eql (.t 6) (.t 8)) (.op (some 10) (.mv (.t 9)) (.sc 16 true 10 11 15 (.op (some 11) (.fad 1 (.t 2)) (.op (some 12) (.loadr 1 false (.t 11)) (.op (some 13) (.fad 1 (.t 3)) (.op (some 14) (.loadr 1 false (.t 13)) (.op (some 15) (.call 65 [(.t 12), (.t 14)]) (.nil)))))) (.t 15) (.op (some 4) (.mv (.t 16)) (.nil))))))))))
 (.ret)))

theorem ok56 : okF Try.prog 56 c56 = true := by kernel_rfl

/-- catacomb/catacombref13.Alike -/
def b57_1 : AC := .seq (.seq (.ops (.op (some 20) (.mv (.t 5)) (.op (some 21) (.fad 1 (.t 2)) (.op (some 22) (.loadr 1 false (.t 21)) (.op (some 23) (.len false (.t 22)) (.op (some 24) (.bin .lss (.t 20) (.t 23)) (.nil)))))))
 (.cond (.t 24) (.skip) (.exit 0)))
 (.seq (.block 1 (.seq (.ops (.op (some 27) (.fad 1 (.t 2)) (.op (some 28) (.loadr 1 false (.t 27)) (.op (some 29) (.mv (.t 5)) (.op (some 30) (.iad 1 (.t 28) (.t 29)) (.op (some 31) (.load 1 false (.t 30)) (.op (some 32) (.fad 1 (.t 3)) (.op (some 33) (.loadr 1 false (.t 32)) (.op (some 34) (.mv (.t 5)) (.op (some 35) (.iad 1 (.t 33) (.t 34)) (.op (some 36) (.load 1 false (.t 35)) (.op (some 37) (.bin .neq (.t 31) (.t 36)) (.nil)))))))))))))
 (.cond (.t 37) (.seq (.ops (.op (some 4) (.mv (.c (.bool false))) (.nil)))
 (.ret)) (.skip))))
 (.ops (.op (some 25) (.mv (.t 5)) (.op (some 26) (.bin .add (.t 25) (.c (.int .i64 1))) (.op (some 5) (.mv (.t 26)) (.nil))))))
def c57_1 : AC := b57_1
@[simp] theorem e57_1 {Γ : Tab} {V : Nat → Bool} {ρ : Type} (k : AX → St → Option ρ) (s : St) : eval Γ c57_1 V ρ k s = eval Γ b57_1 V ρ k s := rfl
def c57 : AF := AF.mk 38 [.t 4] (.seq (.ops (.op (some 2) (.rbox (.t 0)) (.op (some 3) (.rbox (.t 1)) (.op (some 4) (.mv (.c (.bool false))) (.nil)))))
 (.seq (.seq (.ops (.op (some 6) (.fad 0 (.t 2)) (.op (some 7) (.loadr 1 false (.t 6)) (.op (some 8) (.fad 0 (.t 3)) (.op (some 9) (.loadr 1 false (.t 8)) (.op (some 10) (.bin .neq (.t 7) (.t 9)) (.op (some 11) (.mv (.t 10)) (.sc 19 false 11 12 18 (.op (some 12) (.fad 1 (.t 2)) (.op (some 13) (.loadr 1 false (.t 12)) (.op (some 14) (.len false (.t 13)) (.op (some 15) (.fad 1 (.t 3)) (.op (some 16) (.loadr 1 false (.t 15)) (.op (some 17) (.len false (.t 16)) (.op (some 18) (.bin .neq (.t 14) (.t 17)) (.nil)))))))) (.t 18) (.nil)))))))))
 (.cond (.t 19) (.seq (.ops (.op (some 4) (.mv (.c (.bool false))) (.nil)))
 (.ret)) (.skip)))
 (.seq (.seq (.ops (.op (some 5) (.mv (.c (.int .i64 0))) (.nil)))
 (.block 0 (.loop [5] [(4, 5), (20, 37)] [] [(.exit 0, []), (.ret, [4])] c57_1)))
 (.seq (.ops (.op (some 4) (.mv (.c (.bool true))) (.nil)))
 (.ret)))))

theorem ok57 : okF Try.prog 57 c57 = true := by kernel_rfl

/-- catacomb/catacombref13.Fits -/
def c59 : AF := AF.mk 22 [.t 6] (.seq (.ops (.op (some 6) (.mv (.c (.bool false))) (.nil)))
 (.seq (.ops (.op (some 7) (.mv (.t 1)) (.op (some 8) (.bin .geq (.t 7) (.c (.int .i64 0))) (.op (some 9) (.mv (.t 8)) (.sc 14 true 9 10 13 (.op (some 10) (.mv (.t 1)) (.op (some 11) (.mv (.t 0)) (.op (some 12) (.len false (.t 11)) (.op (some 13) (.bin .leq (.t 10) (.t 12)) (.nil))))) (.t 13) (.op (some 15) (.mv (.t 14)) (.sc 21 true 15 16 20 (.op (some 16) (.mv (.t 0)) (.op (some 17) (.mv (.t 1)) (.op (some 18) (.call 66 [(.t 16), (.t 17)]) (.op (some 19) (.mv (.t 2)) (.op (some 20) (.bin .eql (.t 18) (.t 19)) (.nil)))))) (.t 20) (.op (some 6) (.mv (.t 21)) (.nil)))))))))
 (.ret)))

theorem ok59 : okF Try.prog 59 c59 = true := by kernel_rfl

/-- cmp.Less[int] -/
def c60 : AF := AF.mk 17 [.t 4] (.seq (.ops (.op (some 4) (.mv (.c (.bool false))) (.nil)))
 (.seq (.ops (.op (some 5) (.mv (.t 0)) (.op (some 6) (.call 67 [(.t 5)]) (.op (some 7) (.mv (.t 6)) (.sc 11 true 7 8 10 (.op (some 8) (.mv (.t 1)) (.op (some 9) (.call 67 [(.t 8)]) (.op (some 10) (.un .not (.t 9)) (.nil)))) (.t 10) (.op (some 12) (.mv (.t 11)) (.sc 16 false 12 13 15 (.op (some 13) (.mv (.t 0)) (.op (some 14) (.mv (.t 1)) (.op (some 15) (.bin .lss (.t 13) (.t 14)) (.nil)))) (.t 15) (.op (some 4) (.mv (.t 16)) (.nil)))))))))
 (.ret)))

theorem ok60 : okF Try.prog 60 c60 = true := by kernel_rfl

/-- slices.isNaN[int] -/
def c61 : AF := AF.mk 6 [.t 2] (.seq (.ops (.op (some 2) (.mv (.c (.bool false))) (.nil)))
 (.seq (.ops (.op (some 3) (.mv (.t 0)) (.op (some 4) (.mv (.t 0)) (.op (some 5) (.bin .neq (.t 3) (.t 4)) (.op (some 2) (.mv (.t 5)) (.nil))))))
 (.ret)))

theorem ok61 : okF Try.prog 61 c61 = true := by kernel_rfl

/-- slices.Index[[]int,int] -/
def b64_1 : AC := .seq (.ops (.op (some 9) (.bin .lss (.t 8) (.t 7)) (.nil)))
 (.seq (.cond (.t 9) (.skip) (.exit 0))
 (.seq (.block 1 (.seq (.ops (.op (some 10) (.mv (.t 8)) (.op (some 5) (.mv (.t 10)) (.nil))))
 (.seq (.ops (.op (some 11) (.mv (.t 1)) (.op (some 12) (.mv (.t 0)) (.op (some 13) (.mv (.t 5)) (.op (some 14) (.iad 1 (.t 12) (.t 13)) (.op (some 15) (.load 1 false (.t 14)) (.op (some 16) (.bin .eql (.t 11) (.t 15)) (.nil))))))))
 (.cond (.t 16) (.seq (.ops (.op (some 17) (.mv (.t 5)) (.op (some 4) (.mv (.t 17)) (.nil))))
 (.ret)) (.skip)))))
 (.ops (.op (some 18) (.bin .add (.t 8) (.c (.int .i64 1))) (.op (some 8) (.mv (.t 18)) (.nil))))))
def c64_1 : AC := b64_1
@[simp] theorem e64_1 {Γ : Tab} {V : Nat → Bool} {ρ : Type} (k : AX → St → Option ρ) (s : St) : eval Γ c64_1 V ρ k s = eval Γ b64_1 V ρ k s := rfl
def c64 : AF := AF.mk 19 [.t 4] (.seq (.ops (.op (some 4) (.mv (.c (.int .i64 0))) (.nil)))
 (.seq (.seq (.ops (.op (some 6) (.mv (.t 0)) (.op (some 7) (.len false (.t 6)) (.op (some 8) (.mv (.c (.int .i64 0))) (.nil)))))
 (.block 0 (.loop [8] [(4, 5), (8, 18)] [] [(.exit 0, []), (.ret, [4])] c64_1)))
 (.seq (.ops (.op (some 4) (.mv (.c (.int .i64 (-1)))) (.nil)))
 (.ret))))

theorem ok64 : okF Try.prog 64 c64 = true := by kernel_rfl

/-- bytes.Equal -/
def c65 : AF := AF.mk 10 [.t 4] (.seq (.ops (.op (some 4) (.mv (.c (.bool false))) (.nil)))
 (.seq (.ops (.op (some 5) (.mv (.t 0)) (.op (some 6) (.bts (.t 5)) (.op (some 7) (.mv (.t 1)) (.op (some 8) (.bts (.t 7)) (.op (some 9) (.bin .eql (.t 6) (.t 8)) (.op (some 4) (.mv (.t 9)) (.nil))))))))
 (.ret)))

theorem ok65 : okF Try.prog 65 c65 = true := by kernel_rfl

/-- catacomb/catacombref13.Term -/
def c66 : AF := AF.mk 13 [.t 4] (.seq (.ops (.op (some 4) (.mv (.c (.int .i64 0))) (.nil)))
 (.seq (.seq (.ops (.op (some 5) (.mv (.t 1)) (.op (some 6) (.bin .eql (.t 5) (.c (.int .i64 0))) (.nil))))
 (.cond (.t 6) (.seq (.ops (.op (some 4) (.mv (.c (.int .i64 0))) (.nil)))
 (.ret)) (.skip)))
 (.seq (.ops (.op (some 7) (.mv (.t 0)) (.op (some 8) (.mv (.t 1)) (.op (some 9) (.bin .sub (.t 8) (.c (.int .i64 1))) (.op (some 10) (.iad 2 (.t 7) (.t 9)) (.op (some 11) (.fad 0 (.t 10)) (.op (some 12) (.load 1 false (.t 11)) (.op (some 4) (.mv (.t 12)) (.nil)))))))))
 (.ret))))

theorem ok66 : okF Try.prog 66 c66 = true := by kernel_rfl

/-- cmp.isNaN[int] -/
def c67 : AF := AF.mk 6 [.t 2] (.seq (.ops (.op (some 2) (.mv (.c (.bool false))) (.nil)))
 (.seq (.ops (.op (some 3) (.mv (.t 0)) (.op (some 4) (.mv (.t 0)) (.op (some 5) (.bin .neq (.t 3) (.t 4)) (.op (some 2) (.mv (.t 5)) (.nil))))))
 (.ret)))

theorem ok67 : okF Try.prog 67 c67 = true := by kernel_rfl

end Go.Proofs.Ytjblbmcgpdmahaa
